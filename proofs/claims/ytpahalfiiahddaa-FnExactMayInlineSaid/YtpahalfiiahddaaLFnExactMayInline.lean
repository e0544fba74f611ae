/- The law FnExactMayInline holds at every argument: it returns true and leaves its arguments as they were. No condition. -/
import Derived.Test.YtpahalfiiahddaaRows
import Derived.Test.YtpahalfiiahddaaTab
import Derived.Test.YtpahalfiiahddaaAbsR
import Derived.Test.YtpahalfiiahddaaXOG
import Derived.Test.YtpahalfiiahddaaXMR
import Derived.Test.YtpahalfiiahddaaMIWalk
namespace Go.Proofs.Ytpahalfiiahddaa.fnExactMayInline
open Go Go.Abs RC Go.ChangeShapes Go.WideShapes Go.ChangeAt Go.RowKit
set_option maxRecDepth 100000

theorem clos : Try.prog.closure 4 = [4, 7, 20, 40, 63, 96, 64, 21, 41, 65, 97, 9, 25, 45, 77, 103, 78, 26, 46, 79, 104, 12, 22, 42, 66, 98, 67, 23, 43, 68, 44, 69, 70, 99, 72, 71, 73, 100, 74, 101, 75, 102, 76, 31, 49, 83, 51, 50, 13, 18, 38, 57, 89, 90, 59, 39, 58, 91, 60, 62, 61, 92, 118, 128, 93, 119, 94, 120, 95, 121, 122, 123, 16, 34, 53, 27, 33, 19, 32, 52, 11, 29, 47, 80, 105, 81, 30, 48, 82, 106] := by rw [closure_eq calls_tab]; kernel_rfl
theorem unf : Try.prog.unfollowed 4 = true := by unfold Program.unfollowed; rw [clos]; kernel_rfl
theorem recu : Try.prog.recurses 4 = true := recurses_unf unf
theorem inpl : Try.prog.inPlace 4 = [] := by unfold Program.inPlace; rw [clos]; kernel_rfl
theorem nam : Try.prog.varsNamed 4 = [] := by unfold Program.varsNamed; rw [clos]; kernel_rfl
theorem closed : joinedFacts Try.prog 4 Try.f4 Rows.fnExactMayInlineSpec Rows.fnExactMayInlineRow = true := by
  unfold joinedFacts
  rw [inpl, unf, recu, nam, may_enter, lifts_final, make_cut]
  kernel_rfl

section
variable {H : Type} {encH : TypeId × Value → H} {w : World}
theorem rd3 : Rd encH Try.prog w 3 eI I64 := Rd.int Try.underlying3
theorem rd40 : Rd encH Try.prog w 40 (eS eI) (ListIn I64) := Rd.slice Try.underlying40 (of_decide_eq_true (by kernel_rfl)) rd3
theorem rd128 : Rd encH Try.prog w 128 eRCon RConIn := fun fuel cs x h => by
  obtain ⟨hl, n, hf⟩ := trod_field Try.underlying128 h
  obtain ⟨y0, h0⟩ := hf 0 _ rfl
  obtain ⟨a0, r0, l0, g0⟩ := rd40 _ _ _ h0
  have e40 : Try.prog.cellsOf 40 = 1 := by kernel_rfl
  have e128 : Try.prog.cellsOf 128 = 1 := by kernel_rfl
  simp only [e40, e128] at hl r0
  match cs, hl with
  | [c0], _ =>
    refine ⟨⟨a0⟩, ?_, ?_, ⟨g0⟩⟩
    · exact r0
    · intro c hc
      rw [show eRCon _ = (eS eI) a0 from rfl] at hc
      exact l0 c hc
theorem rd68 : Rd encH Try.prog w 68 (eS eRCon) (ListIn RConIn) := Rd.slice Try.underlying68 (of_decide_eq_true (by kernel_rfl)) rd128
theorem rd70 : Rd encH Try.prog w 70 eRDecl RDeclIn := fun fuel cs x h => by
  obtain ⟨hl, n, hf⟩ := trod_field Try.underlying70 h
  obtain ⟨y0, h0⟩ := hf 0 _ rfl
  obtain ⟨y1, h1⟩ := hf 1 _ rfl
  obtain ⟨y2, h2⟩ := hf 2 _ rfl
  obtain ⟨a0, r0, l0, g0⟩ := rd3 _ _ _ h0
  obtain ⟨a1, r1, l1, g1⟩ := rd3 _ _ _ h1
  obtain ⟨a2, r2, l2, g2⟩ := rd68 _ _ _ h2
  have e3 : Try.prog.cellsOf 3 = 1 := by kernel_rfl
  have e68 : Try.prog.cellsOf 68 = 1 := by kernel_rfl
  have e70 : Try.prog.cellsOf 70 = 3 := by kernel_rfl
  simp only [e3, e68, e70] at hl r0 r1 r2
  match cs, hl with
  | [c0, c1, c2], _ =>
    refine ⟨⟨a0, a1, a2⟩, ?_, ?_, ⟨g0, g1, g2⟩⟩
    · exact repL_append (xs := eI a0) (us := [c0]) r0 (repL_append (xs := eI a1) (us := [c1]) r1 (r2))
    · intro c hc
      rw [show eRDecl _ = eI a0 ++ eI a1 ++ (eS eRCon) a2 from rfl] at hc
      simp only [List.mem_append] at hc
      rcases hc with (hc | hc) | hc
      · exact l0 c hc
      · exact l1 c hc
      · exact l2 c hc
theorem rd22 : Rd encH Try.prog w 22 (eS eRDecl) (ListIn RDeclIn) := Rd.slice Try.underlying22 (of_decide_eq_true (by kernel_rfl)) rd70
theorem op74 : Opens encH Try.prog w 74 [3, 3, 72] := by
  have h := Opens.mk (encH := encH) (w := w) Try.underlying74 (by kernel_rfl) (fun i f h => by
    match i, h with
    | 0, h => cases h; exact ⟨rfl, by kernel_rfl⟩
    | 1, h => cases h; exact ⟨rfl, by kernel_rfl⟩
    | 2, h => cases h; exact ⟨rfl, by kernel_rfl⟩
    | i + 3, h => simp at h)
  exact h
theorem rd74 : Rd encH Try.prog w 74 eRExpr RExprIn := Rd.expr op74 Try.underlying72 (of_decide_eq_true (by kernel_rfl)) rd3
theorem rd76 : Rd encH Try.prog w 76 eRFunc RFuncIn := fun fuel cs x h => by
  obtain ⟨hl, n, hf⟩ := trod_field Try.underlying76 h
  obtain ⟨y0, h0⟩ := hf 0 _ rfl
  obtain ⟨y1, h1⟩ := hf 1 _ rfl
  obtain ⟨y2, h2⟩ := hf 2 _ rfl
  obtain ⟨a0, r0, l0, g0⟩ := rd40 _ _ _ h0
  obtain ⟨a1, r1, l1, g1⟩ := rd3 _ _ _ h1
  obtain ⟨a2, r2, l2, g2⟩ := rd74 _ _ _ h2
  have e3 : Try.prog.cellsOf 3 = 1 := by kernel_rfl
  have e40 : Try.prog.cellsOf 40 = 1 := by kernel_rfl
  have e74 : Try.prog.cellsOf 74 = 3 := by kernel_rfl
  have e76 : Try.prog.cellsOf 76 = 5 := by kernel_rfl
  simp only [e3, e40, e74, e76] at hl r0 r1 r2
  match cs, hl with
  | [c0, c1, c2, c3, c4], _ =>
    refine ⟨⟨a0, a1, a2⟩, ?_, ?_, ⟨g0, g1, g2⟩⟩
    · rw [eRFunc_app]; exact repL_append (xs := (eS eI) a0) (us := [c0]) r0 (repL_append (xs := eI a1) (us := [c1]) r1 (r2))
    · intro c hc
      rw [eRFunc_app] at hc
      simp only [List.mem_append] at hc
      rcases hc with hc | hc | hc
      · exact l0 c hc
      · exact l1 c hc
      · exact l2 c hc
theorem rd23 : Rd encH Try.prog w 23 (eS eRFunc) (ListIn RFuncIn) := Rd.slice Try.underlying23 (of_decide_eq_true (by kernel_rfl)) rd76
theorem rd25 : Rd encH Try.prog w 25 eRProgram RProgramIn := fun fuel cs x h => by
  obtain ⟨hl, n, hf⟩ := trod_field Try.underlying25 h
  obtain ⟨y0, h0⟩ := hf 0 _ rfl
  obtain ⟨y1, h1⟩ := hf 1 _ rfl
  obtain ⟨a0, r0, l0, g0⟩ := rd22 _ _ _ h0
  obtain ⟨a1, r1, l1, g1⟩ := rd23 _ _ _ h1
  have e22 : Try.prog.cellsOf 22 = 1 := by kernel_rfl
  have e23 : Try.prog.cellsOf 23 = 1 := by kernel_rfl
  have e25 : Try.prog.cellsOf 25 = 2 := by kernel_rfl
  simp only [e22, e23, e25] at hl r0 r1
  match cs, hl with
  | [c0, c1], _ =>
    refine ⟨⟨a0, a1⟩, ?_, ?_, ⟨g0, g1⟩⟩
    · exact repL_append (xs := (eS eRDecl) a0) (us := [c0]) r0 (r1)
    · intro c hc
      rw [show eRProgram _ = (eS eRDecl) a0 ++ (eS eRFunc) a1 from rfl] at hc
      simp only [List.mem_append] at hc
      rcases hc with hc | hc
      · exact l0 c hc
      · exact l1 c hc
end

theorem walk {w : World} {base : Nat} {H : Type} {encH : TypeId × Value → H} {v0 : Value} {d0 : DataW H} {q0 : List MemPlace} {v1 : Value} {d1 : DataW H} {q1 : List MemPlace} (h0 : DataW.Trod encH Try.prog w 0 (fun _ => true) true 25 v0 d0 q0) (h1 : DataW.Trod encH Try.prog w 0 (fun _ => true) true 3 v1 d1 q1) (k0 : Value.okWide Try.prog w .any base 25 v0) (k1 : Value.okWide Try.prog w .any base 3 v1) :
    Calls Try.prog 4 #[v0, v1] w fun e w' => e = .returned (.bool true) ∧ Below w.heap.size w w' := by
  obtain ⟨cs0, rfl, _⟩ := okWide_struct Try.underlying25 k0
  obtain ⟨fuel0, f0⟩ := h0
  obtain ⟨a0, r0, _, g0⟩ := rd25 _ _ _ f0
  replace r0 := rep_aggS r0
  obtain ⟨fuel1, f1⟩ := h1
  obtain ⟨a1, r1, _, g1⟩ := rd3 _ _ _ f1
  obtain ⟨n1, rfl, _, _, _⟩ := open_int Try.underlying3 k1 ⟨fuel1, f1⟩
  exact ACalls.law (laws_FnExactMayInline_ok (FnExactMayInline_plain g0 g1)) ((repL_append (us := [.agg cs0]) r0 r1))

theorem lifted (os : Os) (started : os.Started) (H : Type) (enc : TypeId × Value → H) :
    ReturnsInHanded {} Try.checked os 4 .any (Rows.fnExactMayInlineSpec.pre6 enc Try.prog Try.f4 Rows.fnExactMayInlineRow.domain false) (Rows.fnExactMayInlineSpec.post enc Try.prog Try.f4 false true false false) := by
  refine returnsInHanded_of_change (C := Try.checked) own_knob started (by kernel_rfl) Try.func4
    (ChangeSpec.witness6 (enc := enc) (C := Try.checked) false ⟨#[], #[.agg #[.slice none 0 0, .slice none 0 0], .int .i64 0], []⟩ 8 (by kernel_rfl) (by kernel_rfl) (by kernel_rfl) (by kernel_rfl)) ?_
  intro W base args ds gs before hval0 hW hcnd _
  have hval : ∀ (j : Nat) t v, Try.f4.params[j]? = some t → args[j]? = some v → Value.okWide Try.prog W .any base t v := hval0
  have hW' := hW
  obtain ⟨p, q, hA0, hV, rfl, hfz, hnd⟩ := hW
  have hA : DataW.TrodAll enc Try.prog W 0 (fun _ => true) true Try.f4.params.toList args.toList ds p := hA0
  rw [Try.params4] at hA hval
  obtain ⟨v0, vs0, d0, ds0, p0, q0, hargs, rfl, rfl, h0, r0⟩ := trodAll_cons hA
  obtain ⟨v1, vs1, d1, ds1, p1, q1, rfl, rfl, rfl, h1, r1⟩ := trodAll_cons r0
  obtain ⟨rfl, rfl, rfl⟩ := trodAll_nil r1
  obtain rfl : args = #[v0, v1] := by cases args; simp_all
  obtain ⟨rfl, rfl⟩ := trodVars_none hV
  have lt0 : ∀ x ∈ p0, x.block < W.heap.size := by obtain ⟨m, hm⟩ := h0; exact DataW.trod_lt m _ _ _ hm
  have lt1 : ∀ x ∈ p1, x.block < W.heap.size := by obtain ⟨m, hm⟩ := h1; exact DataW.trod_lt m _ _ _ hm
  refine (walk h0 h1 (hval 0 25 v0 rfl rfl) (hval 1 3 v1 rfl rfl)).mono fun e W' ⟨he, bel⟩ => ?_
  subst he
  exact ⟨_, rfl, _, _, _, [], _, [], hW', trodAll_mk1 (shut_bool Try.underlying4 _), (trodAll_cons_mk (Below.trod laid_out (by kernel_rfl) (of_decide_eq_true (by kernel_rfl)) h0 bel lt0) (trodAll_cons_mk (Below.trod laid_out (by kernel_rfl) (of_decide_eq_true (by kernel_rfl)) h1 bel lt1) trodAll_mk0)), rfl, bel.frame _, fun h => by cases h⟩

theorem over : Rows.fnExactMayInlineRow.holds Try.pinned (OpenSpec.ofChange Rows.fnExactMayInlineSpec) :=
  OpenClaim.holds_of_wide 4 Try.f4 rfl rfl rfl rfl rfl rfl rfl ⟨rfl, rfl, rfl, rfl, rfl⟩ rfl rfl rfl rfl rfl (by kernel_rfl) Try.func4 closed
    (of_decide_eq_true (by kernel_rfl)) (by unfold Func.isWrapper; rw [if_neg (of_decide_eq_false (by kernel_rfl))]; exact ⟨rfl, rfl⟩)
    (fun os started H enc _ => lifted os started H enc)

/-- The statement. -/
theorem proved : Rows.FnExactMayInlineSaid := over
end Go.Proofs.Ytpahalfiiahddaa.fnExactMayInline
