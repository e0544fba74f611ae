import Derived.Test.YtobjlimoekffaaaAbsL
namespace Go.Abs
open Go
structure Tok {α : Type} (a : α) : Type where
def thk {α : Type} (K : α → Prop) (_ : Tok K) : α → Prop := K
def hold (p : Prop) (_ : Tok p) : Prop := p
section
variable {P : Program} {k : Nat} {K : AV → Prop} {a b : Int} {t : TypeId} {s : St}
theorem wrap_i64 {n : Int} (h1 : -9223372036854775808 ≤ n) (h2 : n ≤ 9223372036854775807) : IntKind.i64.wrap n = n := IntWalk.i64_in n ⟨h1, h2⟩
def iv : AV → Int
 | .int _ n => n
 | _ => 0
end
section
variable {P : Program} {k : Nat} {ds : List (Option Tmp)} {o : Oper} {r : List Oper} {KS : St → Prop} {s : St} {d : Option Tmp} {ty : TypeId} {p : String} {e : Array Edge} {g : Option (Nat × Bool)} {A B : Prop}
variable {x y z : Operand} {t t' : TypeId}
theorem st_store : astep P k ⟨d, .store t x y, ty, p, e, g⟩ s KS = aStore P s.st t (s.ev x) (s.ev y) (thk (fun st => KS (St.put ⟨s.n, s.env, st⟩ d .junk)) ⟨⟩) := rfl
def thk2 {α β : Type} (K : α → β → Prop) (_ : Tok K) : α → β → Prop := K
theorem st_makeSlice : astep P k ⟨d, .makeSlice t x y, ty, p, e, g⟩ s KS = aMake P s.st t (s.ev x) (s.ev y) (thk2 (fun v st => KS (St.put ⟨s.n, s.env, st⟩ d v)) ⟨⟩) := rfl
theorem st_buildSlice {n : Nat} {parts : Array (Nat × Operand)} : astep P k ⟨d, .buildSlice t n parts, ty, p, e, g⟩ s KS = aBuildSlice P s.st t n (parts.toList.map fun p => (p.1, s.ev p.2)) (thk2 (fun v st => KS (St.put ⟨s.n, s.env, st⟩ d v)) ⟨⟩) := rfl
theorem st_slice {lo hi mx : Option Operand} : astep P k ⟨d, .slice t x lo hi mx, ty, p, e, g⟩ s KS = aSlice P s.st t (s.ev x) (lo.map s.ev) (hi.map s.ev) (mx.map s.ev) (thk2 (fun v st => KS (St.put ⟨s.n, s.env, st⟩ d v)) ⟨⟩) := rfl
theorem st_append : astep P k ⟨d, .call ⟨.builtin .append, #[x, y], #[t, t']⟩, ty, p, e, g⟩ s KS = (t = t' ∧ aAppend P s.st t (s.ev x) (s.ev y) (thk2 (fun v st => KS (St.put ⟨s.n, s.env, st⟩ d v)) ⟨⟩)) := rfl
theorem st_call_func {f : FuncId} {args : Array Operand} {ts : Array TypeId} : astep P k ⟨d, .call ⟨.value (.func f), args, ts⟩, ty, p, e, g⟩ s KS = (hasBody P f = true ∧ callThen P k s f (args.toList.map s.ev ++ []) d KS) := rfl
theorem st_call_tmp {f : Tmp} {args : Array Operand} {ts : Array TypeId} : astep P k ⟨d, .call ⟨.value (.tmp f), args, ts⟩, ty, p, e, g⟩ s KS = aCallee (s.env f) fun f caps => hasBody P f = true ∧ callThen P k s f (args.toList.map s.ev ++ caps) d KS := rfl
variable {K : AV → Prop}
end
section
variable {P : Program} {st : List Row} {t : TypeId} {K : AV → Prop} {K2 : AV → List Row → Prop} {id g i off n : Nat} {kk kk' : IntKind} {j j' : Int} {x v : AV} {xs : List (List AV)} {cs : List AV}
end
section
variable {sel : List Nat}
end
section
variable {id g n : Nat} {xs : List (List AV)} {cs : List AV} {e : Nat → AV} {t : Nat}
theorem frz_own : frz id g xs (.own id g n) = .sl (xs.drop (xs.length - n)) := by simp [frz, frz1]
theorem frz1_own : frz1 id g xs (.own id g n) = .sl (xs.drop (xs.length - n)) := by simp [frz1]
end
theorem ACalls.flat {P : Program} {f : FuncId} {args : List AV} {v : AV} (hv : flat v = true) (h : ACalls P f args [] fun r _ => r = v) : ACalls P f args [] fun r st => r = v ∧ st = [] := by
 intro F os w vs hs hl
 refine (h F os w vs hs hl).mono ?_
 rintro e w' ⟨u, r, st', F', os', rfl, rfl, h1, h2, h3⟩
 refine ⟨u, r, [], F', [], rfl, ⟨rfl, rfl⟩, StoreOK.nil h1.old, rep_flat hv [] h2, ⟨h3.sys, h3.tape, h3.output, h3.size, h3.fsub, h3.fsame, fun b h4 h5 h6 => ?_, fun i o hi => absurd hi (by simp)⟩⟩
 obtain ⟨g1, g2, _⟩ := h3.other b h4 h5 h6
 exact ⟨g1, g2, by simp⟩
end Go.Abs

