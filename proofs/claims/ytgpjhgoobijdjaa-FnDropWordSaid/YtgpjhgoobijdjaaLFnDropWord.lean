/- The law FnDropWord holds at every argument: it returns true and leaves its arguments as they were. No condition. -/
import Derived.Test.YtgpjhgoobijdjaaRows
import Derived.Test.YtgpjhgoobijdjaaTab
import Derived.Test.YtgpjhgoobijdjaaAbsR
import Derived.Test.YtgpjhgoobijdjaaHNI
import Derived.Test.YtgpjhgoobijdjaaWFnDropWordWalk
namespace Go.Proofs.Ytgpjhgoobijdjaa.fnDropWord
open Go Go.Abs RC Go.ChangeShapes Go.WideShapes Go.ChangeAt Go.RowKit
set_option maxRecDepth 100000

theorem clos : Try.prog.closure 21 = [21, 51, 58, 74, 73, 94, 81, 66, 92, 65, 77, 80, 43, 61, 89, 102, 75, 90, 103, 82, 76, 93, 83, 45, 85, 100, 104, 95, 87, 46, 63, 91, 78, 71, 96, 70, 79, 97, 86, 101, 50, 57, 54, 48, 55, 25, 59, 33, 72] := by rw [closure_eq calls_tab]; kernel_rfl
theorem unf : Try.prog.unfollowed 21 = false := by unfold Program.unfollowed; rw [clos]; kernel_rfl
theorem recu : Try.prog.recurses 21 = false := by rw [recurses_eq calls_tab unf]; kernel_rfl
theorem inpl : Try.prog.inPlace 21 = [] := by unfold Program.inPlace; rw [clos]; kernel_rfl
theorem nam : Try.prog.varsNamed 21 = [] := by unfold Program.varsNamed; rw [clos]; kernel_rfl
theorem closed : joinedFacts Try.prog 21 Try.f21 Rows.fnDropWordSpec Rows.fnDropWordRow = true := by
  unfold joinedFacts
  rw [inpl, unf, recu, nam, may_enter, lifts_final, make_cut]
  kernel_rfl

section
variable {H : Type} {encH : TypeId × Value → H} {w : World}
theorem rd5 : Rd encH Try.prog w 5 eI_u8 U8 := Rd.u8 Try.underlying5
theorem rd38 : Rd encH Try.prog w 38 (eS eI_u8) (ListIn U8) := Rd.slice Try.underlying38 (of_decide_eq_true (by kernel_rfl)) rd5
end

theorem walk {w : World} {base : Nat} {H : Type} {encH : TypeId × Value → H} {v0 : Value} {d0 : DataW H} {q0 : List MemPlace} (h0 : DataW.Trod encH Try.prog w 0 (fun _ => true) true 38 v0 d0 q0) (k0 : Value.okWide Try.prog w .any base 38 v0) :
    Calls Try.prog 21 #[v0] w fun e w' => e = .returned (.bool true) ∧ Below w.heap.size w w' := by
  obtain ⟨b0, len0, cap0, rfl⟩ := okWide_slice Try.underlying38 k0
  obtain ⟨fuel0, f0⟩ := h0
  obtain ⟨a0, r0, _, g0⟩ := rd38 _ _ _ f0
  exact ACalls.law (laws_FnDropWord_ok (FnDropWord_plain g0)) (r0)

theorem lifted (os : Os) (started : os.Started) (H : Type) (enc : TypeId × Value → H) :
    ReturnsInHanded {} Try.checked os 21 .any (Rows.fnDropWordSpec.pre6 enc Try.prog Try.f21 Rows.fnDropWordRow.domain false) (Rows.fnDropWordSpec.post enc Try.prog Try.f21 false true false false) := by
  refine returnsInHanded_of_change (C := Try.checked) own_knob started (by kernel_rfl) Try.func21
    (ChangeSpec.witness6 (enc := enc) (C := Try.checked) false ⟨#[], #[.slice none 0 0], []⟩ 8 (by kernel_rfl) (by kernel_rfl) (by kernel_rfl) (by kernel_rfl)) ?_
  intro W base args ds gs before hval0 hW hcnd _
  have hval : ∀ (j : Nat) t v, Try.f21.params[j]? = some t → args[j]? = some v → Value.okWide Try.prog W .any base t v := hval0
  have hW' := hW
  obtain ⟨p, q, hA0, hV, rfl, hfz, hnd⟩ := hW
  have hA : DataW.TrodAll enc Try.prog W 0 (fun _ => true) true Try.f21.params.toList args.toList ds p := hA0
  rw [Try.params21] at hA hval
  obtain ⟨v0, vs0, d0, ds0, p0, q0, hargs, rfl, rfl, h0, r0⟩ := trodAll_cons hA
  obtain ⟨rfl, rfl, rfl⟩ := trodAll_nil r0
  obtain rfl : args = #[v0] := by cases args; simp_all
  obtain ⟨rfl, rfl⟩ := trodVars_none hV
  have lt0 : ∀ x ∈ p0, x.block < W.heap.size := by obtain ⟨m, hm⟩ := h0; exact DataW.trod_lt m _ _ _ hm
  refine (walk h0 (hval 0 38 v0 rfl rfl)).mono fun e W' ⟨he, bel⟩ => ?_
  subst he
  exact ⟨_, rfl, _, _, _, [], _, [], hW', trodAll_mk1 (shut_bool Try.underlying4 _), (trodAll_cons_mk (Below.trod laid_out (by kernel_rfl) (of_decide_eq_true (by kernel_rfl)) h0 bel lt0) trodAll_mk0), rfl, bel.frame _, fun h => by cases h⟩

theorem over : Rows.fnDropWordRow.holds Try.pinned (OpenSpec.ofChange Rows.fnDropWordSpec) :=
  OpenClaim.holds_of_wide 21 Try.f21 rfl rfl rfl rfl rfl rfl rfl ⟨rfl, rfl, rfl, rfl, rfl⟩ rfl rfl rfl rfl rfl (by kernel_rfl) Try.func21 closed
    (of_decide_eq_true (by kernel_rfl)) (by unfold Func.isWrapper; rw [if_neg (of_decide_eq_false (by kernel_rfl))]; exact ⟨rfl, rfl⟩)
    (fun os started H enc _ => lifted os started H enc)

/-- The statement. -/
theorem proved : Rows.FnDropWordSaid := over
end Go.Proofs.Ytgpjhgoobijdjaa.fnDropWord
