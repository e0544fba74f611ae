/- The law FnExactIsPlain holds at every argument: it returns true and leaves its arguments as they were. No condition. -/
import Derived.Test.YtcegihniiokijaaRows
import Derived.Test.YtcegihniiokijaaTab
import Derived.Test.YtcegihniiokijaaAbsR
import Derived.Test.YtcegihniiokijaaXNI
import Derived.Test.YtcegihniiokijaaSMR
import Derived.Test.YtcegihniiokijaaIPWalk
namespace Go.Proofs.Ytcegihniiokijaa.fnExactIsPlain
open Go Go.Abs RC Go.ChangeShapes Go.WideShapes Go.ChangeAt Go.RowKit
set_option maxRecDepth 100000

theorem clos : Try.prog.closure 5 = [5, 13, 27, 50, 72, 93, 18, 28, 51, 73, 94, 114, 134, 15, 30, 54, 78, 102, 20, 31, 55, 79, 103, 126, 140, 14, 29, 52, 74, 96, 95, 115, 135, 116, 85, 97, 75, 98, 76, 99, 100, 117, 118, 119, 120, 136, 121, 122, 137, 138, 123, 139, 124, 125, 101, 53, 77, 16, 32, 56, 80, 104, 106, 105, 57, 81, 58, 41, 82, 61, 107, 108, 127, 141, 109, 128, 142, 129, 130, 110, 131, 132, 33, 60, 59, 17, 34, 62, 83, 111, 22, 35, 63, 84, 112, 133, 143] := by rw [closure_eq calls_tab]; kernel_rfl
theorem unf : Try.prog.unfollowed 5 = true := by unfold Program.unfollowed; rw [clos]; kernel_rfl
theorem recu : Try.prog.recurses 5 = true := recurses_unf unf
theorem inpl : Try.prog.inPlace 5 = [] := by unfold Program.inPlace; rw [clos]; kernel_rfl
theorem nam : Try.prog.varsNamed 5 = [] := by unfold Program.varsNamed; rw [clos]; kernel_rfl
theorem closed : joinedFacts Try.prog 5 Try.f5 Rows.fnExactIsPlainSpec Rows.fnExactIsPlainRow = true := by
  unfold joinedFacts
  rw [inpl, unf, recu, nam, may_enter, lifts_final, make_cut]
  kernel_rfl

section
variable {H : Type} {encH : TypeId × Value → H} {w : World}
theorem rd3 : Rd encH Try.prog w 3 eI I64 := Rd.int Try.underlying3
theorem rd22 : Rd encH Try.prog w 22 (eS eI) (ListIn I64) := Rd.slice Try.underlying22 (of_decide_eq_true (by kernel_rfl)) rd3
theorem rd143 : Rd encH Try.prog w 143 eRCon RConIn := fun fuel cs x h => by
  obtain ⟨hl, n, hf⟩ := trod_field Try.underlying143 h
  obtain ⟨y0, h0⟩ := hf 0 _ rfl
  obtain ⟨a0, r0, l0, g0⟩ := rd22 _ _ _ h0
  have e22 : Try.prog.cellsOf 22 = 1 := by kernel_rfl
  have e143 : Try.prog.cellsOf 143 = 1 := by kernel_rfl
  simp only [e22, e143] at hl r0
  match cs, hl with
  | [c0], _ =>
    refine ⟨⟨a0⟩, ?_, ?_, ⟨g0⟩⟩
    · exact r0
    · intro c hc
      rw [show eRCon _ = (eS eI) a0 from rfl] at hc
      exact l0 c hc
theorem rd86 : Rd encH Try.prog w 86 (eS eRCon) (ListIn RConIn) := Rd.slice Try.underlying86 (of_decide_eq_true (by kernel_rfl)) rd143
theorem rd88 : Rd encH Try.prog w 88 eRDecl RDeclIn := fun fuel cs x h => by
  obtain ⟨hl, n, hf⟩ := trod_field Try.underlying88 h
  obtain ⟨y0, h0⟩ := hf 0 _ rfl
  obtain ⟨y1, h1⟩ := hf 1 _ rfl
  obtain ⟨y2, h2⟩ := hf 2 _ rfl
  obtain ⟨a0, r0, l0, g0⟩ := rd3 _ _ _ h0
  obtain ⟨a1, r1, l1, g1⟩ := rd3 _ _ _ h1
  obtain ⟨a2, r2, l2, g2⟩ := rd86 _ _ _ h2
  have e3 : Try.prog.cellsOf 3 = 1 := by kernel_rfl
  have e86 : Try.prog.cellsOf 86 = 1 := by kernel_rfl
  have e88 : Try.prog.cellsOf 88 = 3 := by kernel_rfl
  simp only [e3, e86, e88] at hl r0 r1 r2
  match cs, hl with
  | [c0, c1, c2], _ =>
    refine ⟨⟨a0, a1, a2⟩, ?_, ?_, ⟨g0, g1, g2⟩⟩
    · exact repL_append (xs := eI a0) (us := [c0]) r0 (repL_append (xs := eI a1) (us := [c1]) r1 (r2))
    · intro c hc
      rw [show eRDecl _ = eI a0 ++ eI a1 ++ (eS eRCon) a2 from rfl] at hc
      simp only [List.mem_append] at hc
      rcases hc with (hc | hc) | hc
      · exact l0 c hc
      · exact l1 c hc
      · exact l2 c hc
theorem rd33 : Rd encH Try.prog w 33 (eS eRDecl) (ListIn RDeclIn) := Rd.slice Try.underlying33 (of_decide_eq_true (by kernel_rfl)) rd88
theorem op92 : Opens encH Try.prog w 92 [90, 3] := by
  have h := Opens.mk (encH := encH) (w := w) Try.underlying92 (by kernel_rfl) (fun i f h => by
    match i, h with
    | 0, h => cases h; exact ⟨rfl, by kernel_rfl⟩
    | 1, h => cases h; exact ⟨rfl, by kernel_rfl⟩
    | i + 2, h => simp at h)
  exact h
theorem op169 : Opens encH Try.prog w 169 [3, 3, 3, 22, 167] := by
  have h := Opens.mk (encH := encH) (w := w) Try.underlying169 (by kernel_rfl) (fun i f h => by
    match i, h with
    | 0, h => cases h; exact ⟨rfl, by kernel_rfl⟩
    | 1, h => cases h; exact ⟨rfl, by kernel_rfl⟩
    | 2, h => cases h; exact ⟨rfl, by kernel_rfl⟩
    | 3, h => cases h; exact ⟨rfl, by kernel_rfl⟩
    | 4, h => cases h; exact ⟨rfl, by kernel_rfl⟩
    | i + 5, h => simp at h)
  exact h
theorem rd92 : Rd encH Try.prog w 92 eBlock BlockIn := Rd.block op92 op169 Try.underlying90 Try.underlying167 (of_decide_eq_true (by kernel_rfl)) (of_decide_eq_true (by kernel_rfl)) rd3 rd22
theorem rd94 : Rd encH Try.prog w 94 eRRoutine RRoutineIn := fun fuel cs x h => by
  obtain ⟨hl, n, hf⟩ := trod_field Try.underlying94 h
  obtain ⟨y0, h0⟩ := hf 0 _ rfl
  obtain ⟨y1, h1⟩ := hf 1 _ rfl
  obtain ⟨y2, h2⟩ := hf 2 _ rfl
  obtain ⟨y3, h3⟩ := hf 3 _ rfl
  obtain ⟨a0, r0, l0, g0⟩ := rd22 _ _ _ h0
  obtain ⟨a1, r1, l1, g1⟩ := rd22 _ _ _ h1
  obtain ⟨a2, r2, l2, g2⟩ := rd3 _ _ _ h2
  obtain ⟨a3, r3, l3, g3⟩ := rd92 _ _ _ h3
  have e3 : Try.prog.cellsOf 3 = 1 := by kernel_rfl
  have e22 : Try.prog.cellsOf 22 = 1 := by kernel_rfl
  have e92 : Try.prog.cellsOf 92 = 2 := by kernel_rfl
  have e94 : Try.prog.cellsOf 94 = 5 := by kernel_rfl
  simp only [e3, e22, e92, e94] at hl r0 r1 r2 r3
  match cs, hl with
  | [c0, c1, c2, c3, c4], _ =>
    refine ⟨⟨a0, a1, a2, a3⟩, ?_, ?_, ⟨g0, g1, g2, g3⟩⟩
    · exact repL_append (xs := (eS eI) a0) (us := [c0]) r0 (repL_append (xs := (eS eI) a1) (us := [c1]) r1 (repL_append (xs := eI a2) (us := [c2]) r2 (r3)))
    · intro c hc
      rw [show eRRoutine _ = (eS eI) a0 ++ (eS eI) a1 ++ eI a2 ++ eBlock a3 from rfl] at hc
      simp only [List.mem_append] at hc
      rcases hc with ((hc | hc) | hc) | hc
      · exact l0 c hc
      · exact l1 c hc
      · exact l2 c hc
      · exact l3 c hc
theorem rd34 : Rd encH Try.prog w 34 (eS eRRoutine) (ListIn RRoutineIn) := Rd.slice Try.underlying34 (of_decide_eq_true (by kernel_rfl)) rd94
theorem rd36 : Rd encH Try.prog w 36 eRNormal RNormalIn := fun fuel cs x h => by
  obtain ⟨hl, n, hf⟩ := trod_field Try.underlying36 h
  obtain ⟨y0, h0⟩ := hf 0 _ rfl
  obtain ⟨y1, h1⟩ := hf 1 _ rfl
  obtain ⟨a0, r0, l0, g0⟩ := rd33 _ _ _ h0
  obtain ⟨a1, r1, l1, g1⟩ := rd34 _ _ _ h1
  have e33 : Try.prog.cellsOf 33 = 1 := by kernel_rfl
  have e34 : Try.prog.cellsOf 34 = 1 := by kernel_rfl
  have e36 : Try.prog.cellsOf 36 = 2 := by kernel_rfl
  simp only [e33, e34, e36] at hl r0 r1
  match cs, hl with
  | [c0, c1], _ =>
    refine ⟨⟨a0, a1⟩, ?_, ?_, ⟨g0, g1⟩⟩
    · exact repL_append (xs := (eS eRDecl) a0) (us := [c0]) r0 (r1)
    · intro c hc
      rw [show eRNormal _ = (eS eRDecl) a0 ++ (eS eRRoutine) a1 from rfl] at hc
      simp only [List.mem_append] at hc
      rcases hc with hc | hc
      · exact l0 c hc
      · exact l1 c hc
end

theorem walk {w : World} {base : Nat} {H : Type} {encH : TypeId × Value → H} {v0 : Value} {d0 : DataW H} {q0 : List MemPlace} (h0 : DataW.Trod encH Try.prog w 0 (fun _ => true) true 36 v0 d0 q0) (k0 : Value.okWide Try.prog w .any base 36 v0) :
    Calls Try.prog 5 #[v0] w fun e w' => e = .returned (.bool true) ∧ Below w.heap.size w w' := by
  obtain ⟨cs0, rfl, _⟩ := okWide_struct Try.underlying36 k0
  obtain ⟨fuel0, f0⟩ := h0
  obtain ⟨a0, r0, _, g0⟩ := rd36 _ _ _ f0
  replace r0 := rep_aggS r0
  exact ACalls.law (laws_FnExactIsPlain_ok (FnExactIsPlain_plain g0)) (r0)

theorem lifted (os : Os) (started : os.Started) (H : Type) (enc : TypeId × Value → H) :
    ReturnsInHanded {} Try.checked os 5 .any (Rows.fnExactIsPlainSpec.pre6 enc Try.prog Try.f5 Rows.fnExactIsPlainRow.domain false) (Rows.fnExactIsPlainSpec.post enc Try.prog Try.f5 false true false false) := by
  refine returnsInHanded_of_change (C := Try.checked) own_knob started (by kernel_rfl) Try.func5
    (ChangeSpec.witness6 (enc := enc) (C := Try.checked) false ⟨#[], #[.agg #[.slice none 0 0, .slice none 0 0]], []⟩ 8 (by kernel_rfl) (by kernel_rfl) (by kernel_rfl) (by kernel_rfl)) ?_
  intro W base args ds gs before hval0 hW hcnd _
  have hval : ∀ (j : Nat) t v, Try.f5.params[j]? = some t → args[j]? = some v → Value.okWide Try.prog W .any base t v := hval0
  have hW' := hW
  obtain ⟨p, q, hA0, hV, rfl, hfz, hnd⟩ := hW
  have hA : DataW.TrodAll enc Try.prog W 0 (fun _ => true) true Try.f5.params.toList args.toList ds p := hA0
  rw [Try.params5] at hA hval
  obtain ⟨v0, vs0, d0, ds0, p0, q0, hargs, rfl, rfl, h0, r0⟩ := trodAll_cons hA
  obtain ⟨rfl, rfl, rfl⟩ := trodAll_nil r0
  obtain rfl : args = #[v0] := by cases args; simp_all
  obtain ⟨rfl, rfl⟩ := trodVars_none hV
  have lt0 : ∀ x ∈ p0, x.block < W.heap.size := by obtain ⟨m, hm⟩ := h0; exact DataW.trod_lt m _ _ _ hm
  refine (walk h0 (hval 0 36 v0 rfl rfl)).mono fun e W' ⟨he, bel⟩ => ?_
  subst he
  exact ⟨_, rfl, _, _, _, [], _, [], hW', trodAll_mk1 (shut_bool Try.underlying4 _), (trodAll_cons_mk (Below.trod laid_out (by kernel_rfl) (of_decide_eq_true (by kernel_rfl)) h0 bel lt0) trodAll_mk0), rfl, bel.frame _, fun h => by cases h⟩

theorem over : Rows.fnExactIsPlainRow.holds Try.pinned (OpenSpec.ofChange Rows.fnExactIsPlainSpec) :=
  OpenClaim.holds_of_wide 5 Try.f5 rfl rfl rfl rfl rfl rfl rfl ⟨rfl, rfl, rfl, rfl, rfl⟩ rfl rfl rfl rfl rfl (by kernel_rfl) Try.func5 closed
    (of_decide_eq_true (by kernel_rfl)) (by unfold Func.isWrapper; rw [if_neg (of_decide_eq_false (by kernel_rfl))]; exact ⟨rfl, rfl⟩)
    (fun os started H enc _ => lifted os started H enc)

/-- The statement. -/
theorem proved : Rows.FnExactIsPlainSaid := over
end Go.Proofs.Ytcegihniiokijaa.fnExactIsPlain
