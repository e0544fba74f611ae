/- The law FnExactUsedIn holds at every argument: it returns true and leaves its arguments as they were. No condition. -/
import Derived.Test.YtcpedchmkhlpnaaRows
import Derived.Test.YtcpedchmkhlpnaaTab
import Derived.Test.YtcpedchmkhlpnaaAbsR
import Derived.Test.YtcpedchmkhlpnaaXUA
import Derived.Test.YtcpedchmkhlpnaaSMR
import Derived.Test.YtcpedchmkhlpnaaUGWalk
namespace Go.Proofs.Ytcpedchmkhlpnaa.fnExactUsedIn
open Go Go.Abs RC Go.ChangeShapes Go.WideShapes Go.ChangeAt Go.RowKit
set_option maxRecDepth 100000

theorem clos : Try.prog.closure 8 = [8, 26, 55, 78, 66, 94, 28, 59, 82, 12, 96, 32, 56, 79, 65, 58, 80, 95, 57, 81, 33, 60, 83, 61, 85, 84, 97, 101, 86, 99, 111, 112, 98, 102, 108, 118, 103, 113, 104, 114, 115, 105, 116, 117, 119, 106, 107, 109, 110, 87, 62, 89, 88, 14, 30, 63, 90, 100, 31, 64, 17, 91, 18] := by rw [closure_eq calls_tab]; kernel_rfl
theorem unf : Try.prog.unfollowed 8 = true := by unfold Program.unfollowed; rw [clos]; kernel_rfl
theorem recu : Try.prog.recurses 8 = true := recurses_unf unf
theorem inpl : Try.prog.inPlace 8 = [] := by unfold Program.inPlace; rw [clos]; kernel_rfl
theorem nam : Try.prog.varsNamed 8 = [] := by unfold Program.varsNamed; rw [clos]; kernel_rfl
theorem closed : joinedFacts Try.prog 8 Try.f8 Rows.fnExactUsedInSpec Rows.fnExactUsedInRow = true := by
  unfold joinedFacts
  rw [inpl, unf, recu, nam, may_enter, lifts_final, make_cut]
  kernel_rfl

section
variable {H : Type} {encH : TypeId × Value → H} {w : World}
theorem rd3 : Rd encH Try.prog w 3 eI I64 := Rd.int Try.underlying3
theorem rd23 : Rd encH Try.prog w 23 (eS eI) (ListIn I64) := Rd.slice Try.underlying23 (of_decide_eq_true (by kernel_rfl)) rd3
theorem op42 : Opens encH Try.prog w 42 [40, 3] := by
  have h := Opens.mk (encH := encH) (w := w) Try.underlying42 (by kernel_rfl) (fun i f h => by
    match i, h with
    | 0, h => cases h; exact ⟨rfl, by kernel_rfl⟩
    | 1, h => cases h; exact ⟨rfl, by kernel_rfl⟩
    | i + 2, h => simp at h)
  exact h
theorem op94 : Opens encH Try.prog w 94 [3, 3, 3, 23, 92] := by
  have h := Opens.mk (encH := encH) (w := w) Try.underlying94 (by kernel_rfl) (fun i f h => by
    match i, h with
    | 0, h => cases h; exact ⟨rfl, by kernel_rfl⟩
    | 1, h => cases h; exact ⟨rfl, by kernel_rfl⟩
    | 2, h => cases h; exact ⟨rfl, by kernel_rfl⟩
    | 3, h => cases h; exact ⟨rfl, by kernel_rfl⟩
    | 4, h => cases h; exact ⟨rfl, by kernel_rfl⟩
    | i + 5, h => simp at h)
  exact h
theorem rd42 : Rd encH Try.prog w 42 eBlock BlockIn := Rd.block op42 op94 Try.underlying40 Try.underlying92 (of_decide_eq_true (by kernel_rfl)) (of_decide_eq_true (by kernel_rfl)) rd3 rd23
end

theorem walk {w : World} {base : Nat} {H : Type} {encH : TypeId × Value → H} {v0 : Value} {d0 : DataW H} {q0 : List MemPlace} {v1 : Value} {d1 : DataW H} {q1 : List MemPlace} (h0 : DataW.Trod encH Try.prog w 0 (fun _ => true) true 42 v0 d0 q0) (h1 : DataW.Trod encH Try.prog w 0 (fun _ => true) true 3 v1 d1 q1) (k0 : Value.okWide Try.prog w .any base 42 v0) (k1 : Value.okWide Try.prog w .any base 3 v1) :
    Calls Try.prog 8 #[v0, v1] w fun e w' => e = .returned (.bool true) ∧ Below w.heap.size w w' := by
  obtain ⟨cs0, rfl, _⟩ := okWide_struct Try.underlying42 k0
  obtain ⟨fuel0, f0⟩ := h0
  obtain ⟨a0, r0, _, g0⟩ := rd42 _ _ _ f0
  replace r0 := rep_aggS r0
  obtain ⟨fuel1, f1⟩ := h1
  obtain ⟨a1, r1, _, g1⟩ := rd3 _ _ _ f1
  obtain ⟨n1, rfl, _, _, _⟩ := open_int Try.underlying3 k1 ⟨fuel1, f1⟩
  exact ACalls.law (laws_FnExactUsedIn_ok (FnExactUsedIn_plain g0 g1)) ((repL_append (us := [.agg cs0]) r0 r1))

theorem lifted (os : Os) (started : os.Started) (H : Type) (enc : TypeId × Value → H) :
    ReturnsInHanded {} Try.checked os 8 .any (Rows.fnExactUsedInSpec.pre6 enc Try.prog Try.f8 Rows.fnExactUsedInRow.domain false) (Rows.fnExactUsedInSpec.post enc Try.prog Try.f8 false true false false) := by
  refine returnsInHanded_of_change (C := Try.checked) own_knob started (by kernel_rfl) Try.func8
    (ChangeSpec.witness6 (enc := enc) (C := Try.checked) false ⟨#[], #[.agg #[.slice none 0 0, .int .i64 0], .int .i64 0], []⟩ 8 (by kernel_rfl) (by kernel_rfl) (by kernel_rfl) (by kernel_rfl)) ?_
  intro W base args ds gs before hval0 hW hcnd _
  have hval : ∀ (j : Nat) t v, Try.f8.params[j]? = some t → args[j]? = some v → Value.okWide Try.prog W .any base t v := hval0
  have hW' := hW
  obtain ⟨p, q, hA0, hV, rfl, hfz, hnd⟩ := hW
  have hA : DataW.TrodAll enc Try.prog W 0 (fun _ => true) true Try.f8.params.toList args.toList ds p := hA0
  rw [Try.params8] at hA hval
  obtain ⟨v0, vs0, d0, ds0, p0, q0, hargs, rfl, rfl, h0, r0⟩ := trodAll_cons hA
  obtain ⟨v1, vs1, d1, ds1, p1, q1, rfl, rfl, rfl, h1, r1⟩ := trodAll_cons r0
  obtain ⟨rfl, rfl, rfl⟩ := trodAll_nil r1
  obtain rfl : args = #[v0, v1] := by cases args; simp_all
  obtain ⟨rfl, rfl⟩ := trodVars_none hV
  have lt0 : ∀ x ∈ p0, x.block < W.heap.size := by obtain ⟨m, hm⟩ := h0; exact DataW.trod_lt m _ _ _ hm
  have lt1 : ∀ x ∈ p1, x.block < W.heap.size := by obtain ⟨m, hm⟩ := h1; exact DataW.trod_lt m _ _ _ hm
  refine (walk h0 h1 (hval 0 42 v0 rfl rfl) (hval 1 3 v1 rfl rfl)).mono fun e W' ⟨he, bel⟩ => ?_
  subst he
  exact ⟨_, rfl, _, _, _, [], _, [], hW', trodAll_mk1 (shut_bool Try.underlying4 _), (trodAll_cons_mk (Below.trod laid_out (by kernel_rfl) (of_decide_eq_true (by kernel_rfl)) h0 bel lt0) (trodAll_cons_mk (Below.trod laid_out (by kernel_rfl) (of_decide_eq_true (by kernel_rfl)) h1 bel lt1) trodAll_mk0)), rfl, bel.frame _, fun h => by cases h⟩

theorem over : Rows.fnExactUsedInRow.holds Try.pinned (OpenSpec.ofChange Rows.fnExactUsedInSpec) :=
  OpenClaim.holds_of_wide 8 Try.f8 rfl rfl rfl rfl rfl rfl rfl ⟨rfl, rfl, rfl, rfl, rfl⟩ rfl rfl rfl rfl rfl (by kernel_rfl) Try.func8 closed
    (of_decide_eq_true (by kernel_rfl)) (by unfold Func.isWrapper; rw [if_neg (of_decide_eq_false (by kernel_rfl))]; exact ⟨rfl, rfl⟩)
    (fun os started H enc _ => lifted os started H enc)

/-- The statement. -/
theorem proved : Rows.FnExactUsedInSaid := over
end Go.Proofs.Ytcpedchmkhlpnaa.fnExactUsedIn
