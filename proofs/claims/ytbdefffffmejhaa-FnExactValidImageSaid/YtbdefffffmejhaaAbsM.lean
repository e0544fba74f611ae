import Derived.Test.YtbdefffffmejhaaAbsL
namespace Go.Abs
open Go

/-! ### The rules by which a walk is reckoned out: what stands behind an operation is not looked at before its turn -/

structure Tok {α : Type} (a : α) : Type where

/-- A continuation into which simp does not go. -/
def thk {α : Type} (K : α → Prop) (_ : Tok K) : α → Prop := K
def hold (p : Prop) (_ : Tok p) : Prop := p

theorem thk_app {α : Type} (K : α → Prop) (u : Tok K) (a : α) : thk K u a = K a := rfl

section
variable {P : Program} {k : Nat} {K : AV → Prop} {a b : Int} {t : TypeId} {s : St}

theorem wrap_i64 {n : Int} (h1 : -9223372036854775808 ≤ n) (h2 : n ≤ 9223372036854775807) : IntKind.i64.wrap n = n := IntWalk.i64_in n ⟨h1, h2⟩
theorem wrap_low {n : Int} (h1 : -18446744073709551616 ≤ n) (h2 : n < -9223372036854775808) : IntKind.i64.wrap n = n + 18446744073709551616 := by
  have h3 : IntKind.i64.bits = 64 := rfl
  have h4 : IntKind.i64.signed = true := rfl
  simp only [IntKind.wrap, h3, h4]
  have e1 : (2 : Int) ^ 64 = 18446744073709551616 := by decide
  have e2 : (2 : Int) ^ (64 - 1) = 9223372036854775808 := by decide
  rw [e1, e2]
  have : n % 18446744073709551616 = n + 18446744073709551616 := by omega
  rw [this]
  simp only [Bool.true_and, decide_eq_true_eq]
  split <;> omega

theorem aBin_add (h1 : -9223372036854775808 ≤ a + b) (h2 : a + b ≤ 9223372036854775807) : aBin P t .add (.int .i64 a) (.int .i64 b) K = K (.int .i64 (a + b)) := by
  simp [aBin, aInt, wrap_i64 h1 h2]
theorem aBin_sub (h1 : -9223372036854775808 ≤ a - b) (h2 : a - b ≤ 9223372036854775807) : aBin P t .sub (.int .i64 a) (.int .i64 b) K = K (.int .i64 (a - b)) := by
  simp [aBin, aInt, wrap_i64 h1 h2]
theorem aBin_sub_w : aBin P t .sub (.int .i64 a) (.int .i64 b) K = K (.int .i64 (IntKind.i64.wrap (a - b))) := by simp [aBin, aInt]
theorem aBin_add_w : aBin P t .add (.int .i64 a) (.int .i64 b) K = K (.int .i64 (IntKind.i64.wrap (a + b))) := by simp [aBin, aInt]
theorem aBin_mul (h1 : -9223372036854775808 ≤ a * b) (h2 : a * b ≤ 9223372036854775807) : aBin P t .mul (.int .i64 a) (.int .i64 b) K = K (.int .i64 (a * b)) := by
  simp [aBin, aInt, wrap_i64 h1 h2]
theorem aBin_lss : aBin P t .lss (.int .i64 a) (.int .i64 b) K = K (.bool (decide (a < b))) := by simp [aBin, aInt]
theorem aBin_leq : aBin P t .leq (.int .i64 a) (.int .i64 b) K = K (.bool (decide (a ≤ b))) := by simp [aBin, aInt]
theorem aBin_gtr : aBin P t .gtr (.int .i64 a) (.int .i64 b) K = K (.bool (decide (b < a))) := by simp [aBin, aInt]
theorem aBin_geq : aBin P t .geq (.int .i64 a) (.int .i64 b) K = K (.bool (decide (b ≤ a))) := by simp [aBin, aInt]
theorem aBin_eql : aBin P t .eql (.int .i64 a) (.int .i64 b) K = K (.bool (decide (a = b))) := by
  simp only [aBin, aInt]; simp only [true_and]; congr 2
theorem aBin_neq : aBin P t .neq (.int .i64 a) (.int .i64 b) K = K (.bool (!decide (a = b))) := by
  simp only [aBin, aInt]; simp only [true_and]; congr 2
theorem aBin_beql {a b : Bool} (h : isBoolT P t = true) : aBin P t .eql (.bool a) (.bool b) K = K (.bool (a == b)) := by simp [aBin, h]
theorem aBin_bneq {a b : Bool} (h : isBoolT P t = true) : aBin P t .neq (.bool a) (.bool b) K = K (.bool (a != b)) := by simp [aBin, h]
theorem aUn_not {b : Bool} : aUn .not (.bool b) K = K (.bool (!b)) := rfl
theorem aPart_one {size off : Nat} {x : List AV} : aPart false size x off K = optK x[off]? K := rfl
theorem aPick_false {x : AV} {q : Bool} : aPick (.bool false) x (.bool q) K = K (.bool q) := by
  cases x <;> simp [aPick]
theorem aPick_true {x : AV} {q : Bool} : aPick (.bool true) (.bool q) x K = K (.bool q) := by
  cases x <;> simp [aPick]
theorem aPick_bool {t p q : Bool} : aPick (.bool t) (.bool p) (.bool q) K = K (.bool (if t then p else q)) := rfl
def iv : AV → Int
  | .int _ n => n
  | _ => 0
def ol : AV → Nat
  | .own _ _ n => n
  | _ => 0
theorem upd_eq (e : Nat → AV) (d : Nat) (v : AV) (t : Nat) : upd e d v t = if t = d then v else e t := rfl
theorem aBool_bool {b : Bool} {K : Bool → Prop} : aBool (.bool b) K = K b := rfl
theorem aGd_bool {b want : Bool} {A B : Prop} {u : Tok A} {u' : Tok B} : aGd (.bool b) want (hold A u) (hold B u') = aG b want (hold A u) (hold B u') := rfl
theorem aGd_un {want : Bool} {A B : Prop} {u : Tok B} : aGd .un want A (hold B u) = B := rfl
theorem aG_tt {A B : Prop} {u : Tok A} : aG true true (hold A u) B = A := by simp [aG, hold]
theorem aG_ff {A B : Prop} {u : Tok A} : aG false false (hold A u) B = A := by simp [aG, hold]
theorem aG_tf {A B : Prop} {u : Tok B} : aG true false A (hold B u) = B := by simp [aG, hold]
theorem aG_ft {A B : Prop} {u : Tok B} : aG false true A (hold B u) = B := by simp [aG, hold]
def renEnv (sel : List Nat) (e : Nat → AV) : Nat → AV := fun t => ren sel (e t)
theorem renEnv_app {sel : List Nat} {e : Nat → AV} {t : Nat} : renEnv sel e t = ren sel (e t) := rfl
theorem Wk.drop0 {n : Nat} {e : Nat → AV} {st : List Row} : Wk 0 ⟨n, e, st⟩ ⟨n, renEnv [] e, []⟩ := by
  generalize hs : (⟨n, e, st⟩ : St) = s
  have e1 : n = s.n := by rw [← hs]
  have e2 : e = s.env := by rw [← hs]
  subst e1; subst e2
  have := Wk.select (k := 0) (s := s) [] (by omega) (by simp) (by simp) (by simp)
  have h2 : pickRows s.st [] = [] := rfl
  rw [h2] at this
  exact this
theorem natCast_nonneg (n : Nat) : (0 ≤ (n : Int)) = True := by simp
end

section
variable {P : Program} {k : Nat} {ds : List (Option Tmp)} {o : Oper} {r : List Oper} {KS : St → Prop} {s : St} {d : Option Tmp} {ty : TypeId} {p : String} {e : Array Edge} {g : Option (Nat × Bool)} {A B : Prop}

theorem aops_nil : aops P k ds [] KS s = KS s := rfl
theorem aops_cons : aops P k ds (o :: r) KS s = aguard ds o s (hold (astep P k o s (thk (aops P k (ds ++ [o.dst]) r KS) ⟨⟩)) ⟨⟩) (hold (aops P k (ds ++ [o.dst]) r KS (s.put o.dst .un)) ⟨⟩) := rfl
theorem dops_nil : dops P ds [] KS s = KS s := rfl
theorem dops_cons : dops P ds (o :: r) KS s = aguard ds o s (hold (dstep P o s (thk (fun v => dops P (ds ++ [o.dst]) r KS (s.put o.dst v)) ⟨⟩)) ⟨⟩) (hold (dops P (ds ++ [o.dst]) r KS (s.put o.dst .un)) ⟨⟩) := rfl
theorem put_some {n : Nat} {e : Nat → AV} {st : List Row} {d : Nat} {v : AV} : St.put ⟨n, e, st⟩ (some d) v = ⟨n, upd e d v, st⟩ := rfl
theorem put_none {s : St} {v : AV} : St.put s none v = s := rfl
theorem aguard_none {op : Op} {u : Tok A} : aguard ds ⟨d, op, ty, p, e, none⟩ s (hold A u) B = A := rfl
theorem aguard_some {op : Op} {jj : Nat} {want : Bool} {u : Tok A} {u' : Tok B} :
    aguard ds ⟨d, op, ty, p, e, some (jj, want)⟩ s (hold A u) (hold B u') = optK ds[jj]? (thk (fun d => optK d (thk (fun t => aGd (s.env t) want (hold A u) (hold B u')) ⟨⟩)) ⟨⟩) := by
  simp only [aguard, thk]
  cases ds[jj]? with
  | none => rfl
  | some d => cases d <;> rfl

-- an operation, by its kind
variable {x y z : Operand} {t t' : TypeId}
theorem st_move : astep P k ⟨d, .move x, ty, p, e, g⟩ s KS = KS (s.put d (s.ev x)) := rfl
theorem st_assign : astep P k ⟨d, .assign x, ty, p, e, g⟩ s KS = KS (s.put d (s.ev x)) := rfl
theorem st_pick : astep P k ⟨d, .pick x y z, ty, p, e, g⟩ s KS = aPick (s.ev x) (s.ev y) (s.ev z) (thk (fun v => KS (s.put d v)) ⟨⟩) := rfl
theorem st_nil : astep P k ⟨d, .nilCheck x, ty, p, e, g⟩ s KS = aNil s.st (s.ev x) (thk (fun v => KS (s.put d v)) ⟨⟩) := rfl
theorem st_bin_tmp {op : BinOp} {y : Tmp} : astep P k ⟨d, .binOp op t x (.tmp y) t', ty, p, e, g⟩ s KS = aBin P t op (s.ev x) (s.env y) (thk (fun v => KS (s.put d v)) ⟨⟩) := by cases op <;> rfl
theorem st_bin_int {op : BinOp} {kk : IntKind} {n : Int} : astep P k ⟨d, .binOp op t x (.const (.int kk n)) t', ty, p, e, g⟩ s KS = aBin P t op (s.ev x) (.int kk n) (thk (fun v => KS (s.put d v)) ⟨⟩) := by cases op <;> rfl
theorem st_bin_bool {op : BinOp} {b : Bool} : astep P k ⟨d, .binOp op t x (.const (.bool b)) t', ty, p, e, g⟩ s KS = aBin P t op (s.ev x) (.bool b) (thk (fun v => KS (s.put d v)) ⟨⟩) := by cases op <;> rfl
theorem st_bin_nil : astep P k ⟨d, .binOp .eql t x (.const (.slice none 0 0)) t', ty, p, e, g⟩ s KS = aNilEq P t s.st (s.ev x) (thk (fun v => KS (s.put d v)) ⟨⟩) := rfl
theorem st_un {op : UnOp} : astep P k ⟨d, .unOp op t x, ty, p, e, g⟩ s KS = aUn op (s.ev x) (thk (fun v => KS (s.put d v)) ⟨⟩) := rfl
theorem st_conv : astep P k ⟨d, .convert t t' x, ty, p, e, g⟩ s KS = aConv P t t' (s.ev x) (thk (fun v => KS (s.put d v)) ⟨⟩) := rfl
theorem st_load : astep P k ⟨d, .load t x, ty, p, e, g⟩ s KS = aLoad P s.st t (s.ev x) (thk (fun v => KS (s.put d v)) ⟨⟩) := rfl
theorem st_fieldAddr {f : Nat} : astep P k ⟨d, .fieldAddr t x f, ty, p, e, g⟩ s KS = aFieldAddr P t (s.ev x) f s.st (thk (fun v => KS (s.put d v)) ⟨⟩) := rfl
theorem st_field {f : Nat} : astep P k ⟨d, .field t x f, ty, p, e, g⟩ s KS = aField P t (s.ev x) f (thk (fun v => KS (s.put d v)) ⟨⟩) := rfl
theorem st_indexAddr : astep P k ⟨d, .indexAddr t x y, ty, p, e, g⟩ s KS = aIndexAddr P s.st t (s.ev x) (s.ev y) (thk (fun v => KS (s.put d v)) ⟨⟩) := rfl
theorem st_extract {i : Nat} : astep P k ⟨d, .extract x i, ty, p, e, g⟩ s KS = aExtract (s.ev x) i (thk (fun v => KS (s.put d v)) ⟨⟩) := rfl
theorem st_build {parts : Array (Nat × Operand)} : astep P k ⟨d, .build t parts, ty, p, e, g⟩ s KS = aBuild P t (parts.toList.map fun p => (p.1, s.ev p.2)) (thk (fun v => KS (s.put d v)) ⟨⟩) := rfl
theorem st_makeFunc {f : FuncId} {first caps : Array Operand} : astep P k ⟨d, .makeFunc (.func f) first caps, ty, p, e, g⟩ s KS = (first = #[] ∧ KS (s.put d (.fn f (caps.toList.map s.ev)))) := rfl
theorem st_len : astep P k ⟨d, .call ⟨.builtin .len, #[x], #[t]⟩, ty, p, e, g⟩ s KS = (isSliceT P t = true ∧ aLen s.st (s.ev x) (thk (fun v => KS (s.put d v)) ⟨⟩)) := rfl
theorem st_max {ts : Array TypeId} : astep P k ⟨d, .call ⟨.builtin .max, #[x, y], ts⟩, ty, p, e, g⟩ s KS = aMax (s.ev x) (s.ev y) (thk (fun v => KS (s.put d v)) ⟨⟩) := rfl
theorem st_min {ts : Array TypeId} : astep P k ⟨d, .call ⟨.builtin .min, #[x, y], ts⟩, ty, p, e, g⟩ s KS = aMin (s.ev x) (s.ev y) (thk (fun v => KS (s.put d v)) ⟨⟩) := rfl
theorem st_alloc : astep P k ⟨d, .alloc t, ty, p, e, g⟩ s KS = optK (zinfo P t) (thk (fun z => KS (St.put ⟨s.n, s.env, s.st ++ [⟨0, t, z.length, [z]⟩]⟩ d (.ptr s.st.length 0 0 0))) ⟨⟩) := rfl
theorem st_box : astep P k ⟨d, .box t x, ty, p, e, g⟩ s KS = optK (cellsV (s.ev x)) (thk (fun cs => cs ≠ [] ∧ KS (St.put ⟨s.n, s.env, s.st ++ [⟨0, t, cs.length, [cs]⟩]⟩ d (.ptr s.st.length 0 0 0))) ⟨⟩) := rfl
theorem st_store : astep P k ⟨d, .store t x y, ty, p, e, g⟩ s KS = aStore P s.st t (s.ev x) (s.ev y) (thk (fun st => KS (St.put ⟨s.n, s.env, st⟩ d .junk)) ⟨⟩) := rfl
def thk2 {α β : Type} (K : α → β → Prop) (_ : Tok K) : α → β → Prop := K
theorem thk2_app {α β : Type} (K : α → β → Prop) (u : Tok K) (a : α) (b : β) : thk2 K u a b = K a b := rfl
theorem st_makeSlice : astep P k ⟨d, .makeSlice t x y, ty, p, e, g⟩ s KS = aMake P s.st t (s.ev x) (s.ev y) (thk2 (fun v st => KS (St.put ⟨s.n, s.env, st⟩ d v)) ⟨⟩) := rfl
theorem st_buildSlice {n : Nat} {parts : Array (Nat × Operand)} : astep P k ⟨d, .buildSlice t n parts, ty, p, e, g⟩ s KS = aBuildSlice P s.st t n (parts.toList.map fun p => (p.1, s.ev p.2)) (thk2 (fun v st => KS (St.put ⟨s.n, s.env, st⟩ d v)) ⟨⟩) := rfl
theorem st_slice {lo hi mx : Option Operand} : astep P k ⟨d, .slice t x lo hi mx, ty, p, e, g⟩ s KS = aSlice P s.st t (s.ev x) (lo.map s.ev) (hi.map s.ev) (mx.map s.ev) (thk2 (fun v st => KS (St.put ⟨s.n, s.env, st⟩ d v)) ⟨⟩) := rfl
theorem st_append : astep P k ⟨d, .call ⟨.builtin .append, #[x, y], #[t, t']⟩, ty, p, e, g⟩ s KS = (t = t' ∧ aAppend P s.st t (s.ev x) (s.ev y) (thk2 (fun v st => KS (St.put ⟨s.n, s.env, st⟩ d v)) ⟨⟩)) := rfl
theorem st_call_func {f : FuncId} {args : Array Operand} {ts : Array TypeId} : astep P k ⟨d, .call ⟨.value (.func f), args, ts⟩, ty, p, e, g⟩ s KS = (hasBody P f = true ∧ callThen P k s f (args.toList.map s.ev ++ []) d KS) := rfl
theorem st_call_tmp {f : Tmp} {args : Array Operand} {ts : Array TypeId} : astep P k ⟨d, .call ⟨.value (.tmp f), args, ts⟩, ty, p, e, g⟩ s KS = aCallee (s.env f) fun f caps => hasBody P f = true ∧ callThen P k s f (args.toList.map s.ev ++ caps) d KS := rfl

variable {K : AV → Prop}
theorem dt_move : dstep P ⟨d, .move x, ty, p, e, g⟩ s K = K (s.ev x) := rfl
theorem dt_assign : dstep P ⟨d, .assign x, ty, p, e, g⟩ s K = K (s.ev x) := rfl
theorem dt_pick : dstep P ⟨d, .pick x y z, ty, p, e, g⟩ s K = aPick (s.ev x) (s.ev y) (s.ev z) K := rfl
theorem dt_nil : dstep P ⟨d, .nilCheck x, ty, p, e, g⟩ s K = aNil s.st (s.ev x) K := rfl
theorem dt_un {op : UnOp} : dstep P ⟨d, .unOp op t x, ty, p, e, g⟩ s K = aUn op (s.ev x) K := rfl
theorem dt_conv : dstep P ⟨d, .convert t t' x, ty, p, e, g⟩ s K = aConv P t t' (s.ev x) K := rfl
theorem dt_load : dstep P ⟨d, .load t x, ty, p, e, g⟩ s K = aLoad P s.st t (s.ev x) K := rfl
theorem dt_fieldAddr {f : Nat} : dstep P ⟨d, .fieldAddr t x f, ty, p, e, g⟩ s K = aFieldAddr P t (s.ev x) f s.st K := rfl
theorem dt_field {f : Nat} : dstep P ⟨d, .field t x f, ty, p, e, g⟩ s K = aField P t (s.ev x) f K := rfl
theorem dt_indexAddr : dstep P ⟨d, .indexAddr t x y, ty, p, e, g⟩ s K = aIndexAddr P s.st t (s.ev x) (s.ev y) K := rfl
theorem dt_extract {i : Nat} : dstep P ⟨d, .extract x i, ty, p, e, g⟩ s K = aExtract (s.ev x) i K := rfl
theorem dt_build {parts : Array (Nat × Operand)} : dstep P ⟨d, .build t parts, ty, p, e, g⟩ s K = aBuild P t (parts.toList.map fun p => (p.1, s.ev p.2)) K := rfl
theorem dt_len : dstep P ⟨d, .call ⟨.builtin .len, #[x], #[t]⟩, ty, p, e, g⟩ s K = (isSliceT P t = true ∧ aLen s.st (s.ev x) K) := rfl
theorem dt_max {ts : Array TypeId} : dstep P ⟨d, .call ⟨.builtin .max, #[x, y], ts⟩, ty, p, e, g⟩ s K = aMax (s.ev x) (s.ev y) K := rfl

theorem ev_tmp {n : Nat} {e : Nat → AV} {st : List Row} {t : Tmp} : St.ev ⟨n, e, st⟩ (.tmp t) = e t := rfl
theorem ev_func {f : FuncId} : s.ev (.func f) = .fn f [] := rfl
theorem ev_int {kk : IntKind} {n : Int} : s.ev (.const (.int kk n)) = .int kk n := rfl
theorem ev_bool {b : Bool} : s.ev (.const (.bool b)) = .bool b := rfl
theorem ev_nil : s.ev (.const (.slice none 0 0)) = .zc := rfl
theorem ev_agg {cs : Array Value} : s.ev (.const (.agg cs)) = .agg (cs.toList.map ofLeafZ) := rfl
theorem ofLeaf_int {kk : IntKind} {n : Int} : ofLeaf (.int kk n) = .int kk n := rfl
theorem ofLeaf_bool {b : Bool} : ofLeaf (.bool b) = .bool b := rfl
theorem ofLeaf_nil : ofLeaf (.slice none 0 0) = .zc := rfl
theorem athen_normal {K : St → Prop} {Q : Exit → St → Prop} : athen K Q .normal s = K s := rfl
theorem envOf_zero {v : AV} {l : List AV} : envOf (v :: l) 0 = v := rfl
theorem envOf_succ {v : AV} {l : List AV} {n : Nat} : envOf (v :: l) (n + 1) = envOf l n := rfl
theorem envOf_nil {n : Nat} : envOf [] n = .junk := rfl
end

section
variable {P : Program} {st : List Row} {t : TypeId} {K : AV → Prop} {K2 : AV → List Row → Prop} {id g i off n : Nat} {kk kk' : IntKind} {j j' : Int} {x v : AV} {xs : List (List AV)} {cs : List AV}
theorem aNil_ptr : aNil st (.ptr id g i off) K = optK st[id]? (thk (fun row => row.gen = g ∧ K (.ptr id g i off)) ⟨⟩) := rfl
theorem aNil_iptr : aNil st (.iptr cs off) K = K (.iptr cs off) := rfl
theorem aLen_own : aLen st (.own id g n) K = optK st[id]? (thk (fun row => row.gen = g ∧ K (.int .i64 n)) ⟨⟩) := rfl
theorem aLen_sl : aLen st (.sl xs) K = K (.int .i64 xs.length) := rfl
theorem aLen_zc : aLen st .zc K = K (.int .i64 0) := rfl
theorem aLoad_ptr : aLoad P st t (.ptr id g i off) K = optK (tinfo P t) (thk (fun ti => optK st[id]? (thk (fun row => row.gen = g ∧ optK row.xs[i]? (thk (fun x => aPart ti.1 ti.2 x off K) ⟨⟩)) ⟨⟩)) ⟨⟩) := rfl
theorem aLoad_iptr : aLoad P st t (.iptr cs off) K = optK (tinfo P t) (thk (fun ti => aPart ti.1 ti.2 cs off K) ⟨⟩) := rfl
theorem aFieldAddr_ptr {f : Nat} : aFieldAddr P t (.ptr id g i off) f st K = optK (finfo P t f) (thk (fun o => optK st[id]? (thk (fun row => row.gen = g ∧ off + o ≤ row.size ∧ K (.ptr id g i (off + o))) ⟨⟩)) ⟨⟩) := rfl
theorem aFieldAddr_iptr {f : Nat} : aFieldAddr P t (.iptr cs off) f st K = optK (finfo P t f) (thk (fun o => K (.iptr cs (off + o))) ⟨⟩) := rfl
theorem aIndexAddr_own : aIndexAddr P st t (.own id g n) (.int kk j) K = optK (einfo P t) (thk (fun ei => 0 ≤ j ∧ j < n ∧ optK st[id]? (thk (fun row => row.gen = g ∧ row.size = ei.size ∧ K (.ptr id g j.toNat 0)) ⟨⟩)) ⟨⟩) := rfl
theorem aIndexAddr_sl : aIndexAddr P st t (.sl xs) (.int kk j) K = optK (einfo P t) (thk (fun ei => 0 ≤ j ∧ optK xs[j.toNat]? (thk (fun y => y.length = ei.size ∧ K (.iptr y 0)) ⟨⟩)) ⟨⟩) := rfl
theorem aElems_sl {K : List (List AV) → Prop} : aElems st (.sl xs) K = K xs := rfl
theorem aElems_zc {K : List (List AV) → Prop} : aElems st .zc K = K [] := rfl
theorem aElems_own {K : List (List AV) → Prop} : aElems st (.own id g n) K = optK st[id]? (thk (fun row => row.gen = g ∧ (∀ y ∈ row.xs, ∀ c ∈ y, c.leaf = true) ∧ K (row.xs.take n)) ⟨⟩) := rfl
theorem aAppend_zc : aAppend P st t .zc x K2 = optK (einfo P t) (thk (fun ei => aElems st x (thk (fun ys => (∀ y ∈ ys, y.length = ei.size) ∧ ys.length * ei.bytes ≤ 140737488355328 ∧ ys.length ≤ 9223372036854775807 ∧ K2 (.own st.length 0 ys.length) (st ++ [⟨0, ei.e, ei.size, ys⟩])) ⟨⟩)) ⟨⟩) := rfl
theorem aAppend_own : aAppend P st t (.own id g n) x K2 = optK (einfo P t) (thk (fun ei => aElems st x (thk (fun ys => (∀ y ∈ ys, y.length = ei.size) ∧ optK st[id]? (thk (fun row => row.gen = g ∧ row.elem = ei.e ∧ row.size = ei.size ∧ (n + ys.length) * ei.bytes ≤ 140737488355328 ∧ n + ys.length ≤ 9223372036854775807 ∧
        K2 (.own id (g + 1) (n + ys.length)) (st.set id { row with gen := g + 1, xs := row.xs.take n ++ ys })) ⟨⟩)) ⟨⟩)) ⟨⟩) := rfl
theorem aStore_ptr {K : List Row → Prop} : aStore P st t (.ptr id g i off) v K = optK (tinfo P t) (thk (fun ti => optK st[id]? (thk (fun row => row.gen = g ∧ optK row.xs[i]? (thk (fun x => optK (cellsV v) (thk (fun cs =>
        cs.length = ti.2 ∧ off + cs.length ≤ row.size ∧ K (st.set id { row with xs := row.xs.set i (splice x off cs) })) ⟨⟩)) ⟨⟩)) ⟨⟩)) ⟨⟩) := rfl
theorem aMake_int : aMake P st t (.int kk j) (.int kk' j') K2 = optK (einfo P t) (thk (fun ei => j = j' ∧ 0 ≤ j ∧ j * (ei.bytes : Int) ≤ 281474976710656 ∧ j ≤ 9223372036854775807 ∧ K2 (.own st.length 0 j.toNat) (st ++ [⟨0, ei.e, ei.size, List.replicate j.toNat ei.zero⟩])) ⟨⟩) := rfl
theorem aBuildSlice_eq {len : Nat} {parts : List (Nat × AV)} : aBuildSlice P st t len parts K2 = optK (einfo P t) (thk (fun ei => len * ei.size ≤ 16777216 ∧ optK (afill (fun i => some (i * ei.size, ei.size)) ((List.replicate len ei.zero).flatten) parts) (thk (fun cs =>
    K2 (.own st.length 0 len) (st ++ [⟨0, ei.e, ei.size, chunk ei.size len cs⟩])) ⟨⟩)) ⟨⟩) := rfl
theorem aBuild_eq {parts : List (Nat × AV)} : aBuild P t parts K = (allInfo P t = true ∧ optK (finfos P t) (thk (fun fs => optK (zinfo P t) (thk (fun z => optK (afill (fs[·]?) z parts) (thk (fun cs => K (.agg cs)) ⟨⟩)) ⟨⟩)) ⟨⟩)) := rfl
theorem aExtract_tup {vs : List AV} : aExtract (.tup vs) i K = optK vs[i]? K := rfl
theorem aCallee_fn {f : FuncId} {K : FuncId → List AV → Prop} : aCallee (.fn f cs) K = K f cs := rfl
theorem aMax_int {a b : Int} : aMax (.int kk a) (.int kk' b) K = K (.int kk (if b > a then b else a)) := rfl
theorem aMin_int {a b : Int} : aMin (.int kk a) (.int kk' b) K = K (.int kk (if b < a then b else a)) := rfl
theorem aSlice_own : aSlice P st t (.own id g n) none (some (.int kk j)) none K2 = optK (einfo P t) (thk (fun _ => optK st[id]? (thk (fun row => row.gen = g ∧ 0 ≤ j ∧ j ≤ n ∧ K2 (.own id (g + 1) j.toNat) (st.set id { row with gen := g + 1, xs := row.xs.take j.toNat })) ⟨⟩)) ⟨⟩) := by
  simp [aSlice, bnd, thk]
theorem aSlice_sl_hi : aSlice P st t (.sl xs) none (some (.int kk j)) none K2 = optK (einfo P t) (thk (fun ei => 0 ≤ j ∧ j ≤ xs.length ∧ (∀ x ∈ xs, x.length = ei.size) ∧ K2 (.sl (xs.take j.toNat)) st) ⟨⟩) := by
  simp [aSlice, bnd, thk]
theorem aSlice_sl_lo : aSlice P st t (.sl xs) (some (.int kk j)) none none K2 = optK (einfo P t) (thk (fun ei => 0 ≤ j ∧ j ≤ xs.length ∧ (∀ x ∈ xs, x.length = ei.size) ∧ K2 (.sl (xs.drop j.toNat)) st) ⟨⟩) := by
  simp [aSlice, bnd, thk]
end



section
variable {sel : List Nat}
theorem ren_junk : ren sel .junk = .junk := rfl
theorem ren_un : ren sel .un = .un := rfl
theorem ren_int {k : IntKind} {n : Int} : ren sel (.int k n) = .int k n := rfl
theorem ren_bool {b : Bool} : ren sel (.bool b) = .bool b := rfl
theorem ren_str {b : ByteArray} : ren sel (.str b) = .str b := rfl
theorem ren_zc : ren sel .zc = .zc := rfl
theorem ren_nilp : ren sel .nilp = .nilp := rfl
theorem ren_sl {xs : List (List AV)} : ren sel (.sl xs) = .sl xs := rfl
theorem ren_iptr {x : List AV} {off : Nat} : ren sel (.iptr x off) = .iptr x off := rfl
theorem ren_agg {cs : List AV} : ren sel (.agg cs) = .agg (cs.map (ren1 sel)) := rfl
theorem ren_tup {cs : List AV} : ren sel (.tup cs) = .tup (cs.map (ren1 sel)) := rfl
theorem ren1_int {k : IntKind} {n : Int} : ren1 sel (.int k n) = .int k n := rfl
theorem ren1_bool {b : Bool} : ren1 sel (.bool b) = .bool b := rfl
theorem ren1_zc : ren1 sel .zc = .zc := rfl
theorem ren1_sl {xs : List (List AV)} : ren1 sel (.sl xs) = .sl xs := rfl
end

section
def frzEnv (id g : Nat) (xs : List (List AV)) (e : Nat → AV) : Nat → AV := fun t => frz id g xs (e t)
variable {id g n : Nat} {xs : List (List AV)} {cs : List AV} {e : Nat → AV} {t : Nat}
theorem frzEnv_app : frzEnv id g xs e t = frz id g xs (e t) := rfl
theorem frz_own : frz id g xs (.own id g n) = .sl (xs.take n) := by simp [frz, frz1]
theorem frz1_own : frz1 id g xs (.own id g n) = .sl (xs.take n) := by simp [frz1]
theorem frz_int {k : IntKind} {m : Int} : frz id g xs (.int k m) = .int k m := rfl
theorem frz_bool {b : Bool} : frz id g xs (.bool b) = .bool b := rfl
theorem frz_sl {ys : List (List AV)} : frz id g xs (.sl ys) = .sl ys := rfl
theorem frz_zc : frz id g xs .zc = .zc := rfl
theorem frz_agg : frz id g xs (.agg cs) = .agg (cs.map (frz1 id g xs)) := rfl
theorem frz_tup : frz id g xs (.tup cs) = .tup (cs.map (frz1 id g xs)) := rfl
theorem frz1_int {k : IntKind} {m : Int} : frz1 id g xs (.int k m) = .int k m := rfl
theorem frz1_bool {b : Bool} : frz1 id g xs (.bool b) = .bool b := rfl
theorem frz1_sl {ys : List (List AV)} : frz1 id g xs (.sl ys) = .sl ys := rfl
theorem frz1_zc : frz1 id g xs .zc = .zc := rfl
theorem Wk.freezeDrop (id : Nat) {n : Nat} {e : Nat → AV} {st : List Row} {row : Row} (hrow : st[id]? = some row) (hp : pureRow row.xs) : Wk 0 ⟨n, e, st⟩ ⟨n, renEnv [] (frzEnv id row.gen row.xs e), []⟩ :=
  (Wk.freeze (k := 0) (s := ⟨n, e, st⟩) (id := id) (Nat.zero_le _) hrow hp).trans Wk.drop0
end

/-- A result that holds no row: the rows go. -/
theorem ACalls.flat {P : Program} {f : FuncId} {args : List AV} {v : AV} (hv : flat v = true) (h : ACalls P f args [] fun r _ => r = v) : ACalls P f args [] fun r st => r = v ∧ st = [] := by
  intro F os w vs hs hl
  refine (h F os w vs hs hl).mono ?_
  rintro e w' ⟨u, r, st', F', os', rfl, rfl, h1, h2, h3⟩
  refine ⟨u, r, [], F', [], rfl, ⟨rfl, rfl⟩, StoreOK.nil h1.old, rep_flat hv [] h2, ⟨h3.sys, h3.tape, h3.output, h3.size, h3.fsub, h3.fsame, fun b h4 h5 h6 => ?_, fun i o hi => absurd hi (by simp)⟩⟩
  obtain ⟨g1, g2, _⟩ := h3.other b h4 h5 h6
  exact ⟨g1, g2, by simp⟩

end Go.Abs
