/- The law FnExactOwnedCells holds at every argument: it returns true and leaves its arguments as they were. No condition. -/
import Derived.Test.YtgcghdgbahfcjaaGreatRows
import Derived.Test.YtgcghdgbahfcjaaGreatTab
import Derived.Test.YtgcghdgbahfcjaaGreatAbsR
import Derived.Test.YtgcghdgbahfcjaaGreatIXA
import Derived.Test.YtgcghdgbahfcjaaGreatOCWalk
namespace Go.Proofs.YtgcghdgbahfcjaaGreat.fnExactOwnedCells
open Go Go.Abs RC Go.ChangeShapes Go.WideShapes Go.ChangeAt Go.RowKit
set_option maxRecDepth 100000

theorem clos : Tryz.prog.closure 3 = [3, 6, 23, 50, 81, 112, 25, 24, 51, 82, 113, 7, 26, 52, 27, 53, 9, 30, 61, 91, 121, 32, 31, 62, 92, 122, 10, 33, 63, 34, 64, 8, 28, 54, 84, 83, 114, 134, 115, 55, 85, 116, 117, 105, 133, 135, 147, 136, 137, 138, 139, 56, 57, 86, 118, 119, 74, 90, 87, 88, 120, 58, 89, 59, 60, 29, 11, 35, 65, 93, 123, 140, 142, 141, 94, 108, 124, 125, 97, 129, 126, 143, 144, 127, 145, 148, 66, 95, 96, 128, 146, 111, 110, 98, 99, 100, 36, 12, 13, 37, 67, 101, 130, 38, 68, 102, 131, 14, 39, 69, 40, 70, 15, 41, 71, 17, 42, 72, 16, 43, 44, 18] := by rw [closure_eq calls_tab]; kernel_rfl
theorem unf : Tryz.prog.unfollowed 3 = true := by unfold Program.unfollowed; rw [clos]; kernel_rfl
theorem recu : Tryz.prog.recurses 3 = true := recurses_unf unf
theorem inpl : Tryz.prog.inPlace 3 = [] := by unfold Program.inPlace; rw [clos]; kernel_rfl
theorem nam : Tryz.prog.varsNamed 3 = [] := by unfold Program.varsNamed; rw [clos]; kernel_rfl
theorem closed : joinedFacts Tryz.prog 3 Tryz.f3 Rows.fnExactOwnedCellsSpec Rows.fnExactOwnedCellsRow = true := by
  unfold joinedFacts
  rw [inpl, unf, recu, nam, may_enter, lifts_final, make_cut]
  kernel_rfl

section
variable {H : Type} {encH : TypeId × Value → H} {w : World}
theorem rd3 : Rd encH Tryz.prog w 3 eI I64 := Rd.int Tryz.underlying3
theorem rd26 : Rd encH Tryz.prog w 26 (eS eI) (ListIn I64) := Rd.slice Tryz.underlying26 (of_decide_eq_true (by kernel_rfl)) rd3
theorem rd157 : Rd encH Tryz.prog w 157 eRCon RConIn := fun fuel cs x h => by
  obtain ⟨hl, n, hf⟩ := trod_field Tryz.underlying157 h
  obtain ⟨y0, h0⟩ := hf 0 _ rfl
  obtain ⟨a0, r0, l0, g0⟩ := rd26 _ _ _ h0
  have e26 : Tryz.prog.cellsOf 26 = 1 := by kernel_rfl
  have e157 : Tryz.prog.cellsOf 157 = 1 := by kernel_rfl
  simp only [e26, e157] at hl r0
  match cs, hl with
  | [c0], _ =>
    refine ⟨⟨a0⟩, ?_, ?_, ⟨g0⟩⟩
    · exact r0
    · intro c hc
      rw [show eRCon _ = (eS eI) a0 from rfl] at hc
      exact l0 c hc
theorem rd79 : Rd encH Tryz.prog w 79 (eS eRCon) (ListIn RConIn) := Rd.slice Tryz.underlying79 (of_decide_eq_true (by kernel_rfl)) rd157
theorem rd81 : Rd encH Tryz.prog w 81 eRDecl RDeclIn := fun fuel cs x h => by
  obtain ⟨hl, n, hf⟩ := trod_field Tryz.underlying81 h
  obtain ⟨y0, h0⟩ := hf 0 _ rfl
  obtain ⟨y1, h1⟩ := hf 1 _ rfl
  obtain ⟨y2, h2⟩ := hf 2 _ rfl
  obtain ⟨a0, r0, l0, g0⟩ := rd3 _ _ _ h0
  obtain ⟨a1, r1, l1, g1⟩ := rd3 _ _ _ h1
  obtain ⟨a2, r2, l2, g2⟩ := rd79 _ _ _ h2
  have e3 : Tryz.prog.cellsOf 3 = 1 := by kernel_rfl
  have e79 : Tryz.prog.cellsOf 79 = 1 := by kernel_rfl
  have e81 : Tryz.prog.cellsOf 81 = 3 := by kernel_rfl
  simp only [e3, e79, e81] at hl r0 r1 r2
  match cs, hl with
  | [c0, c1, c2], _ =>
    refine ⟨⟨a0, a1, a2⟩, ?_, ?_, ⟨g0, g1, g2⟩⟩
    · exact repL_append (xs := eI a0) (us := [c0]) r0 (repL_append (xs := eI a1) (us := [c1]) r1 (r2))
    · intro c hc
      rw [show eRDecl _ = eI a0 ++ eI a1 ++ (eS eRCon) a2 from rfl] at hc
      simp only [List.mem_append] at hc
      rcases hc with (hc | hc) | hc
      · exact l0 c hc
      · exact l1 c hc
      · exact l2 c hc
theorem rd22 : Rd encH Tryz.prog w 22 (eS eRDecl) (ListIn RDeclIn) := Rd.slice Tryz.underlying22 (of_decide_eq_true (by kernel_rfl)) rd81
theorem rd159 : Rd encH Tryz.prog w 159 eRInstr RInstrIn := fun fuel cs x h => by
  obtain ⟨hl, n, hf⟩ := trod_field Tryz.underlying159 h
  obtain ⟨y0, h0⟩ := hf 0 _ rfl
  obtain ⟨y1, h1⟩ := hf 1 _ rfl
  obtain ⟨y2, h2⟩ := hf 2 _ rfl
  obtain ⟨y3, h3⟩ := hf 3 _ rfl
  obtain ⟨y4, h4⟩ := hf 4 _ rfl
  obtain ⟨y5, h5⟩ := hf 5 _ rfl
  obtain ⟨a0, r0, l0, g0⟩ := rd3 _ _ _ h0
  obtain ⟨a1, r1, l1, g1⟩ := rd3 _ _ _ h1
  obtain ⟨a2, r2, l2, g2⟩ := rd3 _ _ _ h2
  obtain ⟨a3, r3, l3, g3⟩ := rd3 _ _ _ h3
  obtain ⟨a4, r4, l4, g4⟩ := rd26 _ _ _ h4
  obtain ⟨a5, r5, l5, g5⟩ := rd26 _ _ _ h5
  have e3 : Tryz.prog.cellsOf 3 = 1 := by kernel_rfl
  have e26 : Tryz.prog.cellsOf 26 = 1 := by kernel_rfl
  have e159 : Tryz.prog.cellsOf 159 = 6 := by kernel_rfl
  simp only [e3, e26, e159] at hl r0 r1 r2 r3 r4 r5
  match cs, hl with
  | [c0, c1, c2, c3, c4, c5], _ =>
    refine ⟨⟨a0, a1, a2, a3, a4, a5⟩, ?_, ?_, ⟨g0, g1, g2, g3, g4, g5⟩⟩
    · exact repL_append (xs := eI a0) (us := [c0]) r0 (repL_append (xs := eI a1) (us := [c1]) r1 (repL_append (xs := eI a2) (us := [c2]) r2 (repL_append (xs := eI a3) (us := [c3]) r3 (repL_append (xs := (eS eI) a4) (us := [c4]) r4 (r5)))))
    · intro c hc
      rw [show eRInstr _ = eI a0 ++ eI a1 ++ eI a2 ++ eI a3 ++ (eS eI) a4 ++ (eS eI) a5 from rfl] at hc
      simp only [List.mem_append] at hc
      rcases hc with ((((hc | hc) | hc) | hc) | hc) | hc
      · exact l0 c hc
      · exact l1 c hc
      · exact l2 c hc
      · exact l3 c hc
      · exact l4 c hc
      · exact l5 c hc
theorem rd83 : Rd encH Tryz.prog w 83 (eS eRInstr) (ListIn RInstrIn) := Rd.slice Tryz.underlying83 (of_decide_eq_true (by kernel_rfl)) rd159
theorem rd85 : Rd encH Tryz.prog w 85 eRProc RProcIn := fun fuel cs x h => by
  obtain ⟨hl, n, hf⟩ := trod_field Tryz.underlying85 h
  obtain ⟨y0, h0⟩ := hf 0 _ rfl
  obtain ⟨y1, h1⟩ := hf 1 _ rfl
  obtain ⟨y2, h2⟩ := hf 2 _ rfl
  obtain ⟨y3, h3⟩ := hf 3 _ rfl
  obtain ⟨y4, h4⟩ := hf 4 _ rfl
  obtain ⟨a0, r0, l0, g0⟩ := rd26 _ _ _ h0
  obtain ⟨a1, r1, l1, g1⟩ := rd26 _ _ _ h1
  obtain ⟨a2, r2, l2, g2⟩ := rd3 _ _ _ h2
  obtain ⟨a3, r3, l3, g3⟩ := rd3 _ _ _ h3
  obtain ⟨a4, r4, l4, g4⟩ := rd83 _ _ _ h4
  have e3 : Tryz.prog.cellsOf 3 = 1 := by kernel_rfl
  have e26 : Tryz.prog.cellsOf 26 = 1 := by kernel_rfl
  have e83 : Tryz.prog.cellsOf 83 = 1 := by kernel_rfl
  have e85 : Tryz.prog.cellsOf 85 = 5 := by kernel_rfl
  simp only [e3, e26, e83, e85] at hl r0 r1 r2 r3 r4
  match cs, hl with
  | [c0, c1, c2, c3, c4], _ =>
    refine ⟨⟨a0, a1, a2, a3, a4⟩, ?_, ?_, ⟨g0, g1, g2, g3, g4⟩⟩
    · exact repL_append (xs := (eS eI) a0) (us := [c0]) r0 (repL_append (xs := (eS eI) a1) (us := [c1]) r1 (repL_append (xs := eI a2) (us := [c2]) r2 (repL_append (xs := eI a3) (us := [c3]) r3 (r4))))
    · intro c hc
      rw [show eRProc _ = (eS eI) a0 ++ (eS eI) a1 ++ eI a2 ++ eI a3 ++ (eS eRInstr) a4 from rfl] at hc
      simp only [List.mem_append] at hc
      rcases hc with (((hc | hc) | hc) | hc) | hc
      · exact l0 c hc
      · exact l1 c hc
      · exact l2 c hc
      · exact l3 c hc
      · exact l4 c hc
theorem rd23 : Rd encH Tryz.prog w 23 (eS eRProc) (ListIn RProcIn) := Rd.slice Tryz.underlying23 (of_decide_eq_true (by kernel_rfl)) rd85
theorem rd25 : Rd encH Tryz.prog w 25 eRImage RImageIn := fun fuel cs x h => by
  obtain ⟨hl, n, hf⟩ := trod_field Tryz.underlying25 h
  obtain ⟨y0, h0⟩ := hf 0 _ rfl
  obtain ⟨y1, h1⟩ := hf 1 _ rfl
  obtain ⟨a0, r0, l0, g0⟩ := rd22 _ _ _ h0
  obtain ⟨a1, r1, l1, g1⟩ := rd23 _ _ _ h1
  have e22 : Tryz.prog.cellsOf 22 = 1 := by kernel_rfl
  have e23 : Tryz.prog.cellsOf 23 = 1 := by kernel_rfl
  have e25 : Tryz.prog.cellsOf 25 = 2 := by kernel_rfl
  simp only [e22, e23, e25] at hl r0 r1
  match cs, hl with
  | [c0, c1], _ =>
    refine ⟨⟨a0, a1⟩, ?_, ?_, ⟨g0, g1⟩⟩
    · exact repL_append (xs := (eS eRDecl) a0) (us := [c0]) r0 (r1)
    · intro c hc
      rw [show eRImage _ = (eS eRDecl) a0 ++ (eS eRProc) a1 from rfl] at hc
      simp only [List.mem_append] at hc
      rcases hc with hc | hc
      · exact l0 c hc
      · exact l1 c hc
theorem rd87 : Rd encH Tryz.prog w 87 eCell CellIn := fun fuel cs x h => by
  obtain ⟨hl, n, hf⟩ := trod_field Tryz.underlying87 h
  obtain ⟨y0, h0⟩ := hf 0 _ rfl
  obtain ⟨y1, h1⟩ := hf 1 _ rfl
  obtain ⟨y2, h2⟩ := hf 2 _ rfl
  obtain ⟨a0, r0, l0, g0⟩ := rd3 _ _ _ h0
  obtain ⟨a1, r1, l1, g1⟩ := rd3 _ _ _ h1
  obtain ⟨a2, r2, l2, g2⟩ := rd26 _ _ _ h2
  have e3 : Tryz.prog.cellsOf 3 = 1 := by kernel_rfl
  have e26 : Tryz.prog.cellsOf 26 = 1 := by kernel_rfl
  have e87 : Tryz.prog.cellsOf 87 = 3 := by kernel_rfl
  simp only [e3, e26, e87] at hl r0 r1 r2
  match cs, hl with
  | [c0, c1, c2], _ =>
    refine ⟨⟨a0, a1, a2⟩, ?_, ?_, ⟨g0, g1, g2⟩⟩
    · exact repL_append (xs := eI a0) (us := [c0]) r0 (repL_append (xs := eI a1) (us := [c1]) r1 (r2))
    · intro c hc
      rw [show eCell _ = eI a0 ++ eI a1 ++ (eS eI) a2 from rfl] at hc
      simp only [List.mem_append] at hc
      rcases hc with (hc | hc) | hc
      · exact l0 c hc
      · exact l1 c hc
      · exact l2 c hc
theorem rd27 : Rd encH Tryz.prog w 27 (eS eCell) (ListIn CellIn) := Rd.slice Tryz.underlying27 (of_decide_eq_true (by kernel_rfl)) rd87
theorem rd89 : Rd encH Tryz.prog w 89 eRFrame RFrameIn := fun fuel cs x h => by
  obtain ⟨hl, n, hf⟩ := trod_field Tryz.underlying89 h
  obtain ⟨y0, h0⟩ := hf 0 _ rfl
  obtain ⟨y1, h1⟩ := hf 1 _ rfl
  obtain ⟨y2, h2⟩ := hf 2 _ rfl
  obtain ⟨y3, h3⟩ := hf 3 _ rfl
  obtain ⟨y4, h4⟩ := hf 4 _ rfl
  obtain ⟨y5, h5⟩ := hf 5 _ rfl
  obtain ⟨a0, r0, l0, g0⟩ := rd3 _ _ _ h0
  obtain ⟨a1, r1, l1, g1⟩ := rd3 _ _ _ h1
  obtain ⟨a2, r2, l2, g2⟩ := rd3 _ _ _ h2
  obtain ⟨a3, r3, l3, g3⟩ := rd26 _ _ _ h3
  obtain ⟨a4, r4, l4, g4⟩ := rd26 _ _ _ h4
  obtain ⟨a5, r5, l5, g5⟩ := rd26 _ _ _ h5
  have e3 : Tryz.prog.cellsOf 3 = 1 := by kernel_rfl
  have e26 : Tryz.prog.cellsOf 26 = 1 := by kernel_rfl
  have e89 : Tryz.prog.cellsOf 89 = 6 := by kernel_rfl
  simp only [e3, e26, e89] at hl r0 r1 r2 r3 r4 r5
  match cs, hl with
  | [c0, c1, c2, c3, c4, c5], _ =>
    refine ⟨⟨a0, a1, a2, a3, a4, a5⟩, ?_, ?_, ⟨g0, g1, g2, g3, g4, g5⟩⟩
    · exact repL_append (xs := eI a0) (us := [c0]) r0 (repL_append (xs := eI a1) (us := [c1]) r1 (repL_append (xs := eI a2) (us := [c2]) r2 (repL_append (xs := (eS eI) a3) (us := [c3]) r3 (repL_append (xs := (eS eI) a4) (us := [c4]) r4 (r5)))))
    · intro c hc
      rw [show eRFrame _ = eI a0 ++ eI a1 ++ eI a2 ++ (eS eI) a3 ++ (eS eI) a4 ++ (eS eI) a5 from rfl] at hc
      simp only [List.mem_append] at hc
      rcases hc with ((((hc | hc) | hc) | hc) | hc) | hc
      · exact l0 c hc
      · exact l1 c hc
      · exact l2 c hc
      · exact l3 c hc
      · exact l4 c hc
      · exact l5 c hc
theorem rd28 : Rd encH Tryz.prog w 28 (eS eRFrame) (ListIn RFrameIn) := Rd.slice Tryz.underlying28 (of_decide_eq_true (by kernel_rfl)) rd89
theorem rd30 : Rd encH Tryz.prog w 30 eRState RStateIn := fun fuel cs x h => by
  obtain ⟨hl, n, hf⟩ := trod_field Tryz.underlying30 h
  obtain ⟨y0, h0⟩ := hf 0 _ rfl
  obtain ⟨y1, h1⟩ := hf 1 _ rfl
  obtain ⟨y2, h2⟩ := hf 2 _ rfl
  obtain ⟨y3, h3⟩ := hf 3 _ rfl
  obtain ⟨y4, h4⟩ := hf 4 _ rfl
  obtain ⟨y5, h5⟩ := hf 5 _ rfl
  obtain ⟨y6, h6⟩ := hf 6 _ rfl
  obtain ⟨a0, r0, l0, g0⟩ := rd3 _ _ _ h0
  obtain ⟨a1, r1, l1, g1⟩ := rd3 _ _ _ h1
  obtain ⟨a2, r2, l2, g2⟩ := rd3 _ _ _ h2
  obtain ⟨a3, r3, l3, g3⟩ := rd3 _ _ _ h3
  obtain ⟨a4, r4, l4, g4⟩ := rd26 _ _ _ h4
  obtain ⟨a5, r5, l5, g5⟩ := rd27 _ _ _ h5
  obtain ⟨a6, r6, l6, g6⟩ := rd28 _ _ _ h6
  have e3 : Tryz.prog.cellsOf 3 = 1 := by kernel_rfl
  have e26 : Tryz.prog.cellsOf 26 = 1 := by kernel_rfl
  have e27 : Tryz.prog.cellsOf 27 = 1 := by kernel_rfl
  have e28 : Tryz.prog.cellsOf 28 = 1 := by kernel_rfl
  have e30 : Tryz.prog.cellsOf 30 = 7 := by kernel_rfl
  simp only [e3, e26, e27, e28, e30] at hl r0 r1 r2 r3 r4 r5 r6
  match cs, hl with
  | [c0, c1, c2, c3, c4, c5, c6], _ =>
    refine ⟨⟨a0, a1, a2, a3, a4, a5, a6⟩, ?_, ?_, ⟨g0, g1, g2, g3, g4, g5, g6⟩⟩
    · exact repL_append (xs := eI a0) (us := [c0]) r0 (repL_append (xs := eI a1) (us := [c1]) r1 (repL_append (xs := eI a2) (us := [c2]) r2 (repL_append (xs := eI a3) (us := [c3]) r3 (repL_append (xs := (eS eI) a4) (us := [c4]) r4 (repL_append (xs := (eS eCell) a5) (us := [c5]) r5 (r6))))))
    · intro c hc
      rw [show eRState _ = eI a0 ++ eI a1 ++ eI a2 ++ eI a3 ++ (eS eI) a4 ++ (eS eCell) a5 ++ (eS eRFrame) a6 from rfl] at hc
      simp only [List.mem_append] at hc
      rcases hc with (((((hc | hc) | hc) | hc) | hc) | hc) | hc
      · exact l0 c hc
      · exact l1 c hc
      · exact l2 c hc
      · exact l3 c hc
      · exact l4 c hc
      · exact l5 c hc
      · exact l6 c hc
end

theorem walk {w : World} {base : Nat} {H : Type} {encH : TypeId × Value → H} {v0 : Value} {d0 : DataW H} {q0 : List MemPlace} {v1 : Value} {d1 : DataW H} {q1 : List MemPlace} (h0 : DataW.Trod encH Tryz.prog w 0 (fun _ => true) true 25 v0 d0 q0) (h1 : DataW.Trod encH Tryz.prog w 0 (fun _ => true) true 30 v1 d1 q1) (k0 : Value.okWide Tryz.prog w .any base 25 v0) (k1 : Value.okWide Tryz.prog w .any base 30 v1) :
    Calls Tryz.prog 3 #[v0, v1] w fun e w' => e = .returned (.bool true) ∧ Below w.heap.size w w' := by
  obtain ⟨cs0, rfl, _⟩ := okWide_struct Tryz.underlying25 k0
  obtain ⟨fuel0, f0⟩ := h0
  obtain ⟨a0, r0, _, g0⟩ := rd25 _ _ _ f0
  replace r0 := rep_aggS r0
  obtain ⟨cs1, rfl, _⟩ := okWide_struct Tryz.underlying30 k1
  obtain ⟨fuel1, f1⟩ := h1
  obtain ⟨a1, r1, _, g1⟩ := rd30 _ _ _ f1
  replace r1 := rep_aggS r1
  exact ACalls.law (laws_FnExactOwnedCells_ok (FnExactOwnedCells_plain g0 g1)) ((repL_append (us := [.agg cs0]) r0 r1))

theorem lifted (os : Os) (started : os.Started) (H : Type) (enc : TypeId × Value → H) :
    ReturnsInHanded {} Tryz.checked os 3 .any (Rows.fnExactOwnedCellsSpec.pre6 enc Tryz.prog Tryz.f3 Rows.fnExactOwnedCellsRow.domain false) (Rows.fnExactOwnedCellsSpec.post enc Tryz.prog Tryz.f3 false true false false) := by
  refine returnsInHanded_of_change (C := Tryz.checked) own_knob started (by kernel_rfl) Tryz.func3
    (ChangeSpec.witness6 (enc := enc) (C := Tryz.checked) false ⟨#[], #[.agg #[.slice none 0 0, .slice none 0 0], .agg #[.int .i64 0, .int .i64 0, .int .i64 0, .int .i64 0, .slice none 0 0, .slice none 0 0, .slice none 0 0]], []⟩ 8 (by kernel_rfl) (by kernel_rfl) (by kernel_rfl) (by kernel_rfl)) ?_
  intro W base args ds gs before hval0 hW hcnd _
  have hval : ∀ (j : Nat) t v, Tryz.f3.params[j]? = some t → args[j]? = some v → Value.okWide Tryz.prog W .any base t v := hval0
  have hW' := hW
  obtain ⟨p, q, hA0, hV, rfl, hfz, hnd⟩ := hW
  have hA : DataW.TrodAll enc Tryz.prog W 0 (fun _ => true) true Tryz.f3.params.toList args.toList ds p := hA0
  rw [Tryz.params3] at hA hval
  obtain ⟨v0, vs0, d0, ds0, p0, q0, hargs, rfl, rfl, h0, r0⟩ := trodAll_cons hA
  obtain ⟨v1, vs1, d1, ds1, p1, q1, rfl, rfl, rfl, h1, r1⟩ := trodAll_cons r0
  obtain ⟨rfl, rfl, rfl⟩ := trodAll_nil r1
  obtain rfl : args = #[v0, v1] := by cases args; simp_all
  obtain ⟨rfl, rfl⟩ := trodVars_none hV
  have lt0 : ∀ x ∈ p0, x.block < W.heap.size := by obtain ⟨m, hm⟩ := h0; exact DataW.trod_lt m _ _ _ hm
  have lt1 : ∀ x ∈ p1, x.block < W.heap.size := by obtain ⟨m, hm⟩ := h1; exact DataW.trod_lt m _ _ _ hm
  refine (walk h0 h1 (hval 0 25 v0 rfl rfl) (hval 1 30 v1 rfl rfl)).mono fun e W' ⟨he, bel⟩ => ?_
  subst he
  exact ⟨_, rfl, _, _, _, [], _, [], hW', trodAll_mk1 (shut_bool Tryz.underlying4 _), (trodAll_cons_mk (Below.trod laid_out (by kernel_rfl) (of_decide_eq_true (by kernel_rfl)) h0 bel lt0) (trodAll_cons_mk (Below.trod laid_out (by kernel_rfl) (of_decide_eq_true (by kernel_rfl)) h1 bel lt1) trodAll_mk0)), rfl, bel.frame _, fun h => by cases h⟩

theorem over : Rows.fnExactOwnedCellsRow.holds Tryz.pinned (OpenSpec.ofChange Rows.fnExactOwnedCellsSpec) :=
  OpenClaim.holds_of_wide 3 Tryz.f3 rfl rfl rfl rfl rfl rfl rfl ⟨rfl, rfl, rfl, rfl, rfl⟩ rfl rfl rfl rfl rfl (by kernel_rfl) Tryz.func3 closed
    (of_decide_eq_true (by kernel_rfl)) (by unfold Func.isWrapper; rw [if_neg (of_decide_eq_false (by kernel_rfl))]; exact ⟨rfl, rfl⟩)
    (fun os started H enc _ => lifted os started H enc)

/-- The statement. -/
theorem proved : Rows.FnExactOwnedCellsSaid := over
end Go.Proofs.YtgcghdgbahfcjaaGreat.fnExactOwnedCells
