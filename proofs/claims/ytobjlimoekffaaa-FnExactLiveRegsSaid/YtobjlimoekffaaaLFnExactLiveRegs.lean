/- The law FnExactLiveRegs holds at every argument: it returns true and leaves its arguments as they were. No condition. -/
import Derived.Test.YtobjlimoekffaaaRows
import Derived.Test.YtobjlimoekffaaaTab
import Derived.Test.YtobjlimoekffaaaAbsR
import Derived.Test.YtobjlimoekffaaaLVA
import Derived.Test.YtobjlimoekffaaaLRWalk
namespace Go.Proofs.Ytobjlimoekffaaa.fnExactLiveRegs
open Go Go.Abs RC Go.ChangeShapes Go.WideShapes Go.ChangeAt Go.RowKit
set_option maxRecDepth 100000

theorem clos : Try.prog.closure 3 = [3, 4, 13, 27, 48, 68, 49, 14, 28, 50, 69, 6, 19, 37, 57, 76, 58, 20, 38, 59, 77, 5, 15, 30, 29, 51, 70, 52, 16, 31, 53, 54, 34, 56, 71, 87, 72, 73, 74, 75, 18, 32, 55, 33, 17, 35, 36, 7, 21, 39, 60, 78, 80, 79, 40, 42, 61, 63, 62, 81, 64, 82, 83, 65, 84, 88, 22, 41, 43, 8, 9, 23, 44, 66, 85, 24, 45, 67, 86, 10, 25, 46, 11, 26, 47, 12] := by rw [closure_eq calls_tab]; kernel_rfl
theorem unf : Try.prog.unfollowed 3 = true := by unfold Program.unfollowed; rw [clos]; kernel_rfl
theorem recu : Try.prog.recurses 3 = true := recurses_unf unf
theorem inpl : Try.prog.inPlace 3 = [] := by unfold Program.inPlace; rw [clos]; kernel_rfl
theorem nam : Try.prog.varsNamed 3 = [] := by unfold Program.varsNamed; rw [clos]; kernel_rfl
theorem closed : joinedFacts Try.prog 3 Try.f3 Rows.fnExactLiveRegsSpec Rows.fnExactLiveRegsRow = true := by
  unfold joinedFacts
  rw [inpl, unf, recu, nam, may_enter, lifts_final, make_cut]
  kernel_rfl

section
variable {H : Type} {encH : TypeId × Value → H} {w : World}
theorem rd3 : Rd encH Try.prog w 3 eI I64 := Rd.int Try.underlying3
theorem rd27 : Rd encH Try.prog w 27 (eS eI) (ListIn I64) := Rd.slice Try.underlying27 (of_decide_eq_true (by kernel_rfl)) rd3
theorem rd119 : Rd encH Try.prog w 119 eRCon RConIn := fun fuel cs x h => by
  obtain ⟨hl, n, hf⟩ := trod_field Try.underlying119 h
  obtain ⟨y0, h0⟩ := hf 0 _ rfl
  obtain ⟨a0, r0, l0, g0⟩ := rd27 _ _ _ h0
  have e27 : Try.prog.cellsOf 27 = 1 := by kernel_rfl
  have e119 : Try.prog.cellsOf 119 = 1 := by kernel_rfl
  simp only [e27, e119] at hl r0
  match cs, hl with
  | [c0], _ =>
    refine ⟨⟨a0⟩, ?_, ?_, ⟨g0⟩⟩
    · exact r0
    · intro c hc
      rw [show eRCon _ = (eS eI) a0 from rfl] at hc
      exact l0 c hc
theorem rd56 : Rd encH Try.prog w 56 (eS eRCon) (ListIn RConIn) := Rd.slice Try.underlying56 (of_decide_eq_true (by kernel_rfl)) rd119
theorem rd58 : Rd encH Try.prog w 58 eRDecl RDeclIn := fun fuel cs x h => by
  obtain ⟨hl, n, hf⟩ := trod_field Try.underlying58 h
  obtain ⟨y0, h0⟩ := hf 0 _ rfl
  obtain ⟨y1, h1⟩ := hf 1 _ rfl
  obtain ⟨y2, h2⟩ := hf 2 _ rfl
  obtain ⟨a0, r0, l0, g0⟩ := rd3 _ _ _ h0
  obtain ⟨a1, r1, l1, g1⟩ := rd3 _ _ _ h1
  obtain ⟨a2, r2, l2, g2⟩ := rd56 _ _ _ h2
  have e3 : Try.prog.cellsOf 3 = 1 := by kernel_rfl
  have e56 : Try.prog.cellsOf 56 = 1 := by kernel_rfl
  have e58 : Try.prog.cellsOf 58 = 3 := by kernel_rfl
  simp only [e3, e56, e58] at hl r0 r1 r2
  match cs, hl with
  | [c0, c1, c2], _ =>
    refine ⟨⟨a0, a1, a2⟩, ?_, ?_, ⟨g0, g1, g2⟩⟩
    · exact repL_append (xs := eI a0) (us := [c0]) r0 (repL_append (xs := eI a1) (us := [c1]) r1 (r2))
    · intro c hc
      rw [show eRDecl _ = eI a0 ++ eI a1 ++ (eS eRCon) a2 from rfl] at hc
      simp only [List.mem_append] at hc
      rcases hc with (hc | hc) | hc
      · exact l0 c hc
      · exact l1 c hc
      · exact l2 c hc
theorem rd22 : Rd encH Try.prog w 22 (eS eRDecl) (ListIn RDeclIn) := Rd.slice Try.underlying22 (of_decide_eq_true (by kernel_rfl)) rd58
theorem rd121 : Rd encH Try.prog w 121 eRInstr RInstrIn := fun fuel cs x h => by
  obtain ⟨hl, n, hf⟩ := trod_field Try.underlying121 h
  obtain ⟨y0, h0⟩ := hf 0 _ rfl
  obtain ⟨y1, h1⟩ := hf 1 _ rfl
  obtain ⟨y2, h2⟩ := hf 2 _ rfl
  obtain ⟨y3, h3⟩ := hf 3 _ rfl
  obtain ⟨y4, h4⟩ := hf 4 _ rfl
  obtain ⟨y5, h5⟩ := hf 5 _ rfl
  obtain ⟨a0, r0, l0, g0⟩ := rd3 _ _ _ h0
  obtain ⟨a1, r1, l1, g1⟩ := rd3 _ _ _ h1
  obtain ⟨a2, r2, l2, g2⟩ := rd3 _ _ _ h2
  obtain ⟨a3, r3, l3, g3⟩ := rd3 _ _ _ h3
  obtain ⟨a4, r4, l4, g4⟩ := rd27 _ _ _ h4
  obtain ⟨a5, r5, l5, g5⟩ := rd27 _ _ _ h5
  have e3 : Try.prog.cellsOf 3 = 1 := by kernel_rfl
  have e27 : Try.prog.cellsOf 27 = 1 := by kernel_rfl
  have e121 : Try.prog.cellsOf 121 = 6 := by kernel_rfl
  simp only [e3, e27, e121] at hl r0 r1 r2 r3 r4 r5
  match cs, hl with
  | [c0, c1, c2, c3, c4, c5], _ =>
    refine ⟨⟨a0, a1, a2, a3, a4, a5⟩, ?_, ?_, ⟨g0, g1, g2, g3, g4, g5⟩⟩
    · exact repL_append (xs := eI a0) (us := [c0]) r0 (repL_append (xs := eI a1) (us := [c1]) r1 (repL_append (xs := eI a2) (us := [c2]) r2 (repL_append (xs := eI a3) (us := [c3]) r3 (repL_append (xs := (eS eI) a4) (us := [c4]) r4 (r5)))))
    · intro c hc
      rw [show eRInstr _ = eI a0 ++ eI a1 ++ eI a2 ++ eI a3 ++ (eS eI) a4 ++ (eS eI) a5 from rfl] at hc
      simp only [List.mem_append] at hc
      rcases hc with ((((hc | hc) | hc) | hc) | hc) | hc
      · exact l0 c hc
      · exact l1 c hc
      · exact l2 c hc
      · exact l3 c hc
      · exact l4 c hc
      · exact l5 c hc
theorem rd60 : Rd encH Try.prog w 60 (eS eRInstr) (ListIn RInstrIn) := Rd.slice Try.underlying60 (of_decide_eq_true (by kernel_rfl)) rd121
theorem rd62 : Rd encH Try.prog w 62 eRProc RProcIn := fun fuel cs x h => by
  obtain ⟨hl, n, hf⟩ := trod_field Try.underlying62 h
  obtain ⟨y0, h0⟩ := hf 0 _ rfl
  obtain ⟨y1, h1⟩ := hf 1 _ rfl
  obtain ⟨y2, h2⟩ := hf 2 _ rfl
  obtain ⟨y3, h3⟩ := hf 3 _ rfl
  obtain ⟨y4, h4⟩ := hf 4 _ rfl
  obtain ⟨a0, r0, l0, g0⟩ := rd27 _ _ _ h0
  obtain ⟨a1, r1, l1, g1⟩ := rd27 _ _ _ h1
  obtain ⟨a2, r2, l2, g2⟩ := rd3 _ _ _ h2
  obtain ⟨a3, r3, l3, g3⟩ := rd3 _ _ _ h3
  obtain ⟨a4, r4, l4, g4⟩ := rd60 _ _ _ h4
  have e3 : Try.prog.cellsOf 3 = 1 := by kernel_rfl
  have e27 : Try.prog.cellsOf 27 = 1 := by kernel_rfl
  have e60 : Try.prog.cellsOf 60 = 1 := by kernel_rfl
  have e62 : Try.prog.cellsOf 62 = 5 := by kernel_rfl
  simp only [e3, e27, e60, e62] at hl r0 r1 r2 r3 r4
  match cs, hl with
  | [c0, c1, c2, c3, c4], _ =>
    refine ⟨⟨a0, a1, a2, a3, a4⟩, ?_, ?_, ⟨g0, g1, g2, g3, g4⟩⟩
    · exact repL_append (xs := (eS eI) a0) (us := [c0]) r0 (repL_append (xs := (eS eI) a1) (us := [c1]) r1 (repL_append (xs := eI a2) (us := [c2]) r2 (repL_append (xs := eI a3) (us := [c3]) r3 (r4))))
    · intro c hc
      rw [show eRProc _ = (eS eI) a0 ++ (eS eI) a1 ++ eI a2 ++ eI a3 ++ (eS eRInstr) a4 from rfl] at hc
      simp only [List.mem_append] at hc
      rcases hc with (((hc | hc) | hc) | hc) | hc
      · exact l0 c hc
      · exact l1 c hc
      · exact l2 c hc
      · exact l3 c hc
      · exact l4 c hc
theorem rd23 : Rd encH Try.prog w 23 (eS eRProc) (ListIn RProcIn) := Rd.slice Try.underlying23 (of_decide_eq_true (by kernel_rfl)) rd62
theorem rd25 : Rd encH Try.prog w 25 eRImage RImageIn := fun fuel cs x h => by
  obtain ⟨hl, n, hf⟩ := trod_field Try.underlying25 h
  obtain ⟨y0, h0⟩ := hf 0 _ rfl
  obtain ⟨y1, h1⟩ := hf 1 _ rfl
  obtain ⟨a0, r0, l0, g0⟩ := rd22 _ _ _ h0
  obtain ⟨a1, r1, l1, g1⟩ := rd23 _ _ _ h1
  have e22 : Try.prog.cellsOf 22 = 1 := by kernel_rfl
  have e23 : Try.prog.cellsOf 23 = 1 := by kernel_rfl
  have e25 : Try.prog.cellsOf 25 = 2 := by kernel_rfl
  simp only [e22, e23, e25] at hl r0 r1
  match cs, hl with
  | [c0, c1], _ =>
    refine ⟨⟨a0, a1⟩, ?_, ?_, ⟨g0, g1⟩⟩
    · exact repL_append (xs := (eS eRDecl) a0) (us := [c0]) r0 (r1)
    · intro c hc
      rw [show eRImage _ = (eS eRDecl) a0 ++ (eS eRProc) a1 from rfl] at hc
      simp only [List.mem_append] at hc
      rcases hc with hc | hc
      · exact l0 c hc
      · exact l1 c hc
end

theorem walk {w : World} {base : Nat} {H : Type} {encH : TypeId × Value → H} {v0 : Value} {d0 : DataW H} {q0 : List MemPlace} {v1 : Value} {d1 : DataW H} {q1 : List MemPlace} {v2 : Value} {d2 : DataW H} {q2 : List MemPlace} (h0 : DataW.Trod encH Try.prog w 0 (fun _ => true) true 25 v0 d0 q0) (h1 : DataW.Trod encH Try.prog w 0 (fun _ => true) true 3 v1 d1 q1) (h2 : DataW.Trod encH Try.prog w 0 (fun _ => true) true 3 v2 d2 q2) (k0 : Value.okWide Try.prog w .any base 25 v0) (k1 : Value.okWide Try.prog w .any base 3 v1) (k2 : Value.okWide Try.prog w .any base 3 v2) :
    Calls Try.prog 3 #[v0, v1, v2] w fun e w' => e = .returned (.bool true) ∧ Below w.heap.size w w' := by
  obtain ⟨cs0, rfl, _⟩ := okWide_struct Try.underlying25 k0
  obtain ⟨fuel0, f0⟩ := h0
  obtain ⟨a0, r0, _, g0⟩ := rd25 _ _ _ f0
  replace r0 := rep_aggS r0
  obtain ⟨fuel1, f1⟩ := h1
  obtain ⟨a1, r1, _, g1⟩ := rd3 _ _ _ f1
  obtain ⟨n1, rfl, _, _, _⟩ := open_int Try.underlying3 k1 ⟨fuel1, f1⟩
  obtain ⟨fuel2, f2⟩ := h2
  obtain ⟨a2, r2, _, g2⟩ := rd3 _ _ _ f2
  obtain ⟨n2, rfl, _, _, _⟩ := open_int Try.underlying3 k2 ⟨fuel2, f2⟩
  exact ACalls.law (laws_FnExactLiveRegs_ok (FnExactLiveRegs_plain g0 g1 g2)) ((repL_append (us := [.agg cs0]) r0 (repL_append (us := [.int .i64 n1]) r1 r2)))

theorem lifted (os : Os) (started : os.Started) (H : Type) (enc : TypeId × Value → H) :
    ReturnsInHanded {} Try.checked os 3 .any (Rows.fnExactLiveRegsSpec.pre6 enc Try.prog Try.f3 Rows.fnExactLiveRegsRow.domain false) (Rows.fnExactLiveRegsSpec.post enc Try.prog Try.f3 false true false false) := by
  refine returnsInHanded_of_change (C := Try.checked) own_knob started (by kernel_rfl) Try.func3
    (ChangeSpec.witness6 (enc := enc) (C := Try.checked) false ⟨#[], #[.agg #[.slice none 0 0, .slice none 0 0], .int .i64 0, .int .i64 0], []⟩ 8 (by kernel_rfl) (by kernel_rfl) (by kernel_rfl) (by kernel_rfl)) ?_
  intro W base args ds gs before hval0 hW hcnd _
  have hval : ∀ (j : Nat) t v, Try.f3.params[j]? = some t → args[j]? = some v → Value.okWide Try.prog W .any base t v := hval0
  have hW' := hW
  obtain ⟨p, q, hA0, hV, rfl, hfz, hnd⟩ := hW
  have hA : DataW.TrodAll enc Try.prog W 0 (fun _ => true) true Try.f3.params.toList args.toList ds p := hA0
  rw [Try.params3] at hA hval
  obtain ⟨v0, vs0, d0, ds0, p0, q0, hargs, rfl, rfl, h0, r0⟩ := trodAll_cons hA
  obtain ⟨v1, vs1, d1, ds1, p1, q1, rfl, rfl, rfl, h1, r1⟩ := trodAll_cons r0
  obtain ⟨v2, vs2, d2, ds2, p2, q2, rfl, rfl, rfl, h2, r2⟩ := trodAll_cons r1
  obtain ⟨rfl, rfl, rfl⟩ := trodAll_nil r2
  obtain rfl : args = #[v0, v1, v2] := by cases args; simp_all
  obtain ⟨rfl, rfl⟩ := trodVars_none hV
  have lt0 : ∀ x ∈ p0, x.block < W.heap.size := by obtain ⟨m, hm⟩ := h0; exact DataW.trod_lt m _ _ _ hm
  have lt1 : ∀ x ∈ p1, x.block < W.heap.size := by obtain ⟨m, hm⟩ := h1; exact DataW.trod_lt m _ _ _ hm
  have lt2 : ∀ x ∈ p2, x.block < W.heap.size := by obtain ⟨m, hm⟩ := h2; exact DataW.trod_lt m _ _ _ hm
  refine (walk h0 h1 h2 (hval 0 25 v0 rfl rfl) (hval 1 3 v1 rfl rfl) (hval 2 3 v2 rfl rfl)).mono fun e W' ⟨he, bel⟩ => ?_
  subst he
  exact ⟨_, rfl, _, _, _, [], _, [], hW', trodAll_mk1 (shut_bool Try.underlying4 _), (trodAll_cons_mk (Below.trod laid_out (by kernel_rfl) (of_decide_eq_true (by kernel_rfl)) h0 bel lt0) (trodAll_cons_mk (Below.trod laid_out (by kernel_rfl) (of_decide_eq_true (by kernel_rfl)) h1 bel lt1) (trodAll_cons_mk (Below.trod laid_out (by kernel_rfl) (of_decide_eq_true (by kernel_rfl)) h2 bel lt2) trodAll_mk0))), rfl, bel.frame _, fun h => by cases h⟩

theorem over : Rows.fnExactLiveRegsRow.holds Try.pinned (OpenSpec.ofChange Rows.fnExactLiveRegsSpec) :=
  OpenClaim.holds_of_wide 3 Try.f3 rfl rfl rfl rfl rfl rfl rfl ⟨rfl, rfl, rfl, rfl, rfl⟩ rfl rfl rfl rfl rfl (by kernel_rfl) Try.func3 closed
    (of_decide_eq_true (by kernel_rfl)) (by unfold Func.isWrapper; rw [if_neg (of_decide_eq_false (by kernel_rfl))]; exact ⟨rfl, rfl⟩)
    (fun os started H enc _ => lifted os started H enc)

/-- The statement. -/
theorem proved : Rows.FnExactLiveRegsSaid := over
end Go.Proofs.Ytobjlimoekffaaa.fnExactLiveRegs
