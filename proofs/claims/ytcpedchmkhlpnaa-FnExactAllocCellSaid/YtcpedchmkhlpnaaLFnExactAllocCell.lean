/- The law FnExactAllocCell holds at every argument: it returns true and leaves its arguments as they were. No condition. -/
import Derived.Test.YtcpedchmkhlpnaaRows
import Derived.Test.YtcpedchmkhlpnaaTab
import Derived.Test.YtcpedchmkhlpnaaAbsR
import Derived.Test.YtcpedchmkhlpnaaRME
import Derived.Test.YtcpedchmkhlpnaaREWalk
namespace Go.Proofs.Ytcpedchmkhlpnaa.fnExactAllocCell
open Go Go.Abs RC Go.ChangeShapes Go.WideShapes Go.ChangeAt Go.RowKit
set_option maxRecDepth 100000

theorem clos : Try.prog.closure 5 = [5, 9, 34, 66, 11, 37, 12, 22, 35, 67, 57, 92, 43, 70, 45, 51, 68, 93, 48, 44, 69, 49, 23, 38, 53, 76, 46, 40, 71, 39, 47, 72, 50, 73, 74, 15, 42, 14, 16, 17, 21, 18] := by rw [closure_eq calls_tab]; kernel_rfl
theorem unf : Try.prog.unfollowed 5 = true := by unfold Program.unfollowed; rw [clos]; kernel_rfl
theorem recu : Try.prog.recurses 5 = true := recurses_unf unf
theorem inpl : Try.prog.inPlace 5 = [] := by unfold Program.inPlace; rw [clos]; kernel_rfl
theorem nam : Try.prog.varsNamed 5 = [] := by unfold Program.varsNamed; rw [clos]; kernel_rfl
theorem closed : joinedFacts Try.prog 5 Try.f5 Rows.fnExactAllocCellSpec Rows.fnExactAllocCellRow = true := by
  unfold joinedFacts
  rw [inpl, unf, recu, nam, may_enter, lifts_final, make_cut]
  kernel_rfl

section
variable {H : Type} {encH : TypeId × Value → H} {w : World}
theorem rd3 : Rd encH Try.prog w 3 eI I64 := Rd.int Try.underlying3
theorem rd23 : Rd encH Try.prog w 23 (eS eI) (ListIn I64) := Rd.slice Try.underlying23 (of_decide_eq_true (by kernel_rfl)) rd3
theorem rd56 : Rd encH Try.prog w 56 eCell CellIn := fun fuel cs x h => by
  obtain ⟨hl, n, hf⟩ := trod_field Try.underlying56 h
  obtain ⟨y0, h0⟩ := hf 0 _ rfl
  obtain ⟨y1, h1⟩ := hf 1 _ rfl
  obtain ⟨y2, h2⟩ := hf 2 _ rfl
  obtain ⟨a0, r0, l0, g0⟩ := rd3 _ _ _ h0
  obtain ⟨a1, r1, l1, g1⟩ := rd3 _ _ _ h1
  obtain ⟨a2, r2, l2, g2⟩ := rd23 _ _ _ h2
  have e3 : Try.prog.cellsOf 3 = 1 := by kernel_rfl
  have e23 : Try.prog.cellsOf 23 = 1 := by kernel_rfl
  have e56 : Try.prog.cellsOf 56 = 3 := by kernel_rfl
  simp only [e3, e23, e56] at hl r0 r1 r2
  match cs, hl with
  | [c0, c1, c2], _ =>
    refine ⟨⟨a0, a1, a2⟩, ?_, ?_, ⟨g0, g1, g2⟩⟩
    · exact repL_append (xs := eI a0) (us := [c0]) r0 (repL_append (xs := eI a1) (us := [c1]) r1 (r2))
    · intro c hc
      rw [show eCell _ = eI a0 ++ eI a1 ++ (eS eI) a2 from rfl] at hc
      simp only [List.mem_append] at hc
      rcases hc with (hc | hc) | hc
      · exact l0 c hc
      · exact l1 c hc
      · exact l2 c hc
theorem rd22 : Rd encH Try.prog w 22 (eS eCell) (ListIn CellIn) := Rd.slice Try.underlying22 (of_decide_eq_true (by kernel_rfl)) rd56
end

theorem walk {w : World} {base : Nat} {H : Type} {encH : TypeId × Value → H} {v0 : Value} {d0 : DataW H} {q0 : List MemPlace} {v1 : Value} {d1 : DataW H} {q1 : List MemPlace} {v2 : Value} {d2 : DataW H} {q2 : List MemPlace} (h0 : DataW.Trod encH Try.prog w 0 (fun _ => true) true 22 v0 d0 q0) (h1 : DataW.Trod encH Try.prog w 0 (fun _ => true) true 3 v1 d1 q1) (h2 : DataW.Trod encH Try.prog w 0 (fun _ => true) true 23 v2 d2 q2) (k0 : Value.okWide Try.prog w .any base 22 v0) (k1 : Value.okWide Try.prog w .any base 3 v1) (k2 : Value.okWide Try.prog w .any base 23 v2) :
    Calls Try.prog 5 #[v0, v1, v2] w fun e w' => e = .returned (.bool true) ∧ Below w.heap.size w w' := by
  obtain ⟨b0, len0, cap0, rfl⟩ := okWide_slice Try.underlying22 k0
  obtain ⟨fuel0, f0⟩ := h0
  obtain ⟨a0, r0, _, g0⟩ := rd22 _ _ _ f0
  obtain ⟨fuel1, f1⟩ := h1
  obtain ⟨a1, r1, _, g1⟩ := rd3 _ _ _ f1
  obtain ⟨n1, rfl, _, _, _⟩ := open_int Try.underlying3 k1 ⟨fuel1, f1⟩
  obtain ⟨b2, len2, cap2, rfl⟩ := okWide_slice Try.underlying23 k2
  obtain ⟨fuel2, f2⟩ := h2
  obtain ⟨a2, r2, _, g2⟩ := rd23 _ _ _ f2
  exact ACalls.law (laws_FnExactAllocCell_ok (FnExactAllocCell_plain g0 g1 g2)) ((repL_append (us := [.slice b0 len0 cap0]) r0 (repL_append (us := [.int .i64 n1]) r1 r2)))

theorem lifted (os : Os) (started : os.Started) (H : Type) (enc : TypeId × Value → H) :
    ReturnsInHanded {} Try.checked os 5 .any (Rows.fnExactAllocCellSpec.pre6 enc Try.prog Try.f5 Rows.fnExactAllocCellRow.domain false) (Rows.fnExactAllocCellSpec.post enc Try.prog Try.f5 false true false false) := by
  refine returnsInHanded_of_change (C := Try.checked) own_knob started (by kernel_rfl) Try.func5
    (ChangeSpec.witness6 (enc := enc) (C := Try.checked) false ⟨#[], #[.slice none 0 0, .int .i64 0, .slice none 0 0], []⟩ 8 (by kernel_rfl) (by kernel_rfl) (by kernel_rfl) (by kernel_rfl)) ?_
  intro W base args ds gs before hval0 hW hcnd _
  have hval : ∀ (j : Nat) t v, Try.f5.params[j]? = some t → args[j]? = some v → Value.okWide Try.prog W .any base t v := hval0
  have hW' := hW
  obtain ⟨p, q, hA0, hV, rfl, hfz, hnd⟩ := hW
  have hA : DataW.TrodAll enc Try.prog W 0 (fun _ => true) true Try.f5.params.toList args.toList ds p := hA0
  rw [Try.params5] at hA hval
  obtain ⟨v0, vs0, d0, ds0, p0, q0, hargs, rfl, rfl, h0, r0⟩ := trodAll_cons hA
  obtain ⟨v1, vs1, d1, ds1, p1, q1, rfl, rfl, rfl, h1, r1⟩ := trodAll_cons r0
  obtain ⟨v2, vs2, d2, ds2, p2, q2, rfl, rfl, rfl, h2, r2⟩ := trodAll_cons r1
  obtain ⟨rfl, rfl, rfl⟩ := trodAll_nil r2
  obtain rfl : args = #[v0, v1, v2] := by cases args; simp_all
  obtain ⟨rfl, rfl⟩ := trodVars_none hV
  have lt0 : ∀ x ∈ p0, x.block < W.heap.size := by obtain ⟨m, hm⟩ := h0; exact DataW.trod_lt m _ _ _ hm
  have lt1 : ∀ x ∈ p1, x.block < W.heap.size := by obtain ⟨m, hm⟩ := h1; exact DataW.trod_lt m _ _ _ hm
  have lt2 : ∀ x ∈ p2, x.block < W.heap.size := by obtain ⟨m, hm⟩ := h2; exact DataW.trod_lt m _ _ _ hm
  refine (walk h0 h1 h2 (hval 0 22 v0 rfl rfl) (hval 1 3 v1 rfl rfl) (hval 2 23 v2 rfl rfl)).mono fun e W' ⟨he, bel⟩ => ?_
  subst he
  exact ⟨_, rfl, _, _, _, [], _, [], hW', trodAll_mk1 (shut_bool Try.underlying4 _), (trodAll_cons_mk (Below.trod laid_out (by kernel_rfl) (of_decide_eq_true (by kernel_rfl)) h0 bel lt0) (trodAll_cons_mk (Below.trod laid_out (by kernel_rfl) (of_decide_eq_true (by kernel_rfl)) h1 bel lt1) (trodAll_cons_mk (Below.trod laid_out (by kernel_rfl) (of_decide_eq_true (by kernel_rfl)) h2 bel lt2) trodAll_mk0))), rfl, bel.frame _, fun h => by cases h⟩

theorem over : Rows.fnExactAllocCellRow.holds Try.pinned (OpenSpec.ofChange Rows.fnExactAllocCellSpec) :=
  OpenClaim.holds_of_wide 5 Try.f5 rfl rfl rfl rfl rfl rfl rfl ⟨rfl, rfl, rfl, rfl, rfl⟩ rfl rfl rfl rfl rfl (by kernel_rfl) Try.func5 closed
    (of_decide_eq_true (by kernel_rfl)) (by unfold Func.isWrapper; rw [if_neg (of_decide_eq_false (by kernel_rfl))]; exact ⟨rfl, rfl⟩)
    (fun os started H enc _ => lifted os started H enc)

/-- The statement. -/
theorem proved : Rows.FnExactAllocCellSaid := over
end Go.Proofs.Ytcpedchmkhlpnaa.fnExactAllocCell
