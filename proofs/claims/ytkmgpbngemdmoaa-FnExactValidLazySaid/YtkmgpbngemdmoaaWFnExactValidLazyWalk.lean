import Derived.Test.YtkmgpbngemdmoaaProg
import Derived.Test.YtkmgpbngemdmoaaZADefs
import Derived.Test.YtkmgpbngemdmoaaWFnExactValidLazyWalkP0
namespace Go.Proofs.Ytkmgpbngemdmoaa
open Go Go.Abs RC

theorem bo4 : isBoolT Try.prog 4 = true := by kernel_rfl
theorem hb125 : hasBody Try.prog 125 = true := by kernel_rfl
theorem hb19 : hasBody Try.prog 19 = true := by kernel_rfl
theorem hb20 : hasBody Try.prog 20 = true := by kernel_rfl
theorem hb21 : hasBody Try.prog 21 = true := by kernel_rfl
theorem hb22 : hasBody Try.prog 22 = true := by kernel_rfl
theorem hb23 : hasBody Try.prog 23 = true := by kernel_rfl
theorem hb36 : hasBody Try.prog 36 = true := by kernel_rfl
theorem hb57 : hasBody Try.prog 57 = true := by kernel_rfl
theorem hb58 : hasBody Try.prog 58 = true := by kernel_rfl
theorem hb67 : hasBody Try.prog 67 = true := by kernel_rfl
theorem hb88 : hasBody Try.prog 88 = true := by kernel_rfl
theorem hb89 : hasBody Try.prog 89 = true := by kernel_rfl
theorem hb90 : hasBody Try.prog 90 = true := by kernel_rfl
theorem hb91 : hasBody Try.prog 91 = true := by kernel_rfl
theorem ti36 : tinfo Try.prog 36 = some (true, 2) := by kernel_rfl
theorem zi34 : zinfo Try.prog 34 = some [.zc] := by kernel_rfl

set_option maxRecDepth 100000 in
set_option maxHeartbeats 4000000 in
theorem impl_checkedLazy_1_ok {s0_0 : (List Int)} {p0 : Int} {r : Bool} (h0 : impl_checkedLazy_1 s0_0 p0 = some r) : ACalls Try.prog 90 [(i64 p0), (.ptr 0 0 0 0)] [⟨0, 34, 1, [[(.sl (List.map eI s0_0))]]⟩] (fun v st => v = (.bool r) ∧ st = [⟨0, 34, 1, [[(.sl (List.map eI s0_0))]]⟩]) := by
  unfold impl_checkedLazy_1 at h0
  refine ACalls.intro Try.func90 rfl (by show 2 ≤ 9; decide) ?_
  show AW _ 1 _ (aret _ 1 Try.f90 _) ⟨9, _, _⟩
  refine AW.weaken (Wk.to (L := [(0, (i64 p0)), (1, (.ptr 0 0 0 0))]) ⟨.rfl, .rfl, trivial⟩) ?_
  refine AW.seq fun K1 hK1 => ?_
  refine AW.regionO (by rfl) ?_
  refine ao_q (v := (.bool false)) go0 rfl (aq_as rfl) ?_
  refine AO.done (hK1 _ ?_)
  refine AW.seq fun K2 hK2 => ?_
  refine AW.regionO (by rfl) ?_
  refine ao_q (v := (.sl (List.map eI s0_0))) go0 rfl (aq_ldp ti34 rfl rfl rfl rfl) ?_
  refine ao_q (v := (i64 p0)) go0 rfl (aq_mv rfl) ?_
  obtain ⟨c3, gc3, h0⟩ := Sh.bind_some h0
  refine ao_q (v := (.iptr (eI c3) 0)) go0 rfl (aq_ixs ei34 rfl rfl gc3 rfl) ?_
  refine ao_q (v := (i64 c3)) go0 rfl (aq_ldi ti3 rfl rfl) ?_
  refine ao_q (v := (.bool (decide (0 < c3)))) go0 rfl (aq_gt rfl rfl) ?_
  refine ao_q (v := (.bool (decide (0 < c3)))) go0 rfl (aq_as rfl) ?_
  refine AO.done (hK2 _ ?_)
  replace h0 := Sh.some_eq h0
  subst r
  exact AW.ret (Exists.intro _ (And.intro (Wk.to (L := [(3, (.bool (decide (0 < c3))))]) ⟨.rfl, trivial⟩) (And.intro rfl rfl)))

set_option maxRecDepth 100000 in
set_option maxHeartbeats 4000000 in
theorem slices_IndexFunc_int_int_ok {N : Nat} {s0_0 : (List Int)} {p0 : (List Int)} {r : Int} (h0 : slices_IndexFunc_int_int N s0_0 p0 = some r) : ACalls Try.prog 125 [(.sl (List.map eI p0)), (.fn 90 [(.ptr 0 0 0 0)])] [⟨0, 34, 1, [[(.sl (List.map eI s0_0))]]⟩] (fun v st => v = (i64 r) ∧ st = [⟨0, 34, 1, [[(.sl (List.map eI s0_0))]]⟩]) := by
  unfold slices_IndexFunc_int_int at h0
  refine ACalls.intro Try.func125 rfl (by show 2 ≤ 19; decide) ?_
  show AW _ 1 _ (aret _ 1 Try.f125 _) ⟨19, _, _⟩
  refine AW.weaken (Wk.to (L := [(0, (.sl (List.map eI p0))), (1, (.fn 90 [(.ptr 0 0 0 0)]))]) ⟨.rfl, .rfl, trivial⟩) ?_
  refine AW.seq fun K1 hK1 => ?_
  refine AW.regionO (by rfl) ?_
  refine ao_q (v := (i64 0)) go0 rfl (aq_as rfl) ?_
  refine AO.done (hK1 _ ?_)
  refine AW.seq fun K2 hK2 => ?_
  refine AW.seq fun K3 hK3 => ?_
  refine AW.regionO (by rfl) ?_
  refine ao_q (v := (.sl (List.map eI p0))) go0 rfl (aq_mv rfl) ?_
  refine ao_q (v := (i64 (Sh.len p0))) go0 rfl (aq_lens sl34 rfl) ?_
  refine ao_q (v := (i64 0)) go0 rfl (aq_mv rfl) ?_
  refine AO.done (hK3 _ ?_)
  obtain ⟨o5, h1, h0⟩ := Sh.cont_some h0
  have M5 : ∀ (_ : Unit), o5 = Sum.inr () → ∀ s, Wk 1 s ⟨19, envL [], [⟨0, 34, 1, [[(.sl (List.map eI s0_0))]]⟩]⟩ → K2 s := by
    intro _ hq s hw
    subst o5
    try dsimp only at h0
    refine hK2 _ (AW.weaken hw ?_)
    refine AW.seq fun K6 hK6 => ?_
    refine AW.regionO (by rfl) ?_
    refine ao_q (v := (i64 (-1))) go0 rfl (aq_as rfl) ?_
    refine AO.done (hK6 _ ?_)
    replace h0 := Sh.some_eq h0
    subst r
    exact AW.ret (Exists.intro _ (And.intro (Wk.to (L := [(4, (i64 (-1)))]) ⟨.rfl, trivial⟩) (And.intro rfl rfl)))
  refine AW.block (AW.loopF (σ := Int) (fun n v => slices_IndexFunc_int_int_L1 s0_0 p0 n v = some o5) (fun t4 => ⟨19, envL [(0, (.sl (List.map eI p0))), (1, (.fn 90 [(.ptr 0 0 0 0)])), (7, (i64 (Sh.len p0))), (8, (i64 t4))], [⟨0, 34, 1, [[(.sl (List.map eI s0_0))]]⟩]⟩) N 0 h1 (Wk.to (L := [(0, (.sl (List.map eI p0))), (1, (.fn 90 [(.ptr 0 0 0 0)])), (7, (i64 (Sh.len p0))), (8, (i64 0))]) ⟨.rfl, .rfl, .rfl, .rfl, trivial⟩) (fun _ hv => by rw [slices_IndexFunc_int_int_L1] at hv; cases hv) ?_)
  rintro n t4 h1
  try dsimp only at h1 ⊢
  rw [slices_IndexFunc_int_int_L1] at h1
  refine AW.seq fun K7 hK7 => ?_
  refine AW.regionO (by rfl) ?_
  refine ao_q (v := (.bool (decide (t4 < (Sh.len p0))))) go0 rfl (aq_lt rfl rfl) ?_
  refine AO.done (hK7 _ ?_)
  refine AW.seq fun K8 hK8 => ?_
  refine AW.cond' (b := decide (t4 < (Sh.len p0))) rfl (fun b9 => ?_) (fun b9 => ?_)
  · replace h1 := Sh.ite_t b9 h1
    refine AW.skip (hK8 _ ?_)
    refine AW.seq fun K10 hK10 => ?_
    refine AW.block ?_
    refine AW.seq fun K11 hK11 => ?_
    refine AW.regionO (by rfl) ?_
    refine ao_q (v := (i64 t4)) go0 rfl (aq_mv rfl) ?_
    refine ao_q (v := (i64 t4)) go0 rfl (aq_as rfl) ?_
    refine AO.done (hK11 _ ?_)
    refine AW.seq fun K12 hK12 => ?_
    refine AW.regionO (by rfl) ?_
    refine ao_q (v := (.fn 90 [(.ptr 0 0 0 0)])) go0 rfl (aq_mv rfl) ?_
    refine ao_q (v := (.sl (List.map eI p0))) go0 rfl (aq_mv rfl) ?_
    refine ao_q (v := (i64 t4)) go0 rfl (aq_mv rfl) ?_
    obtain ⟨c13, gc13, h1⟩ := Sh.bind_some h1
    refine ao_q (v := (.iptr (eI c13) 0)) go0 rfl (aq_ixs ei34 rfl rfl gc13 rfl) ?_
    refine ao_q (v := (i64 c13)) go0 rfl (aq_ldi ti3 rfl rfl) ?_
    obtain ⟨q14, gq14, h1⟩ := Sh.bind_some h1
    refine ao_callst (rowsP := [⟨0, 34, 1, [[(.sl (List.map eI s0_0))]]⟩]) (rows0 := [⟨0, 34, 1, [[(.sl (List.map eI s0_0))]]⟩]) (rows1 := [⟨0, 34, 1, [[(.sl (List.map eI s0_0))]]⟩]) (rows2 := []) (rows1' := [⟨0, 34, 1, [[(.sl (List.map eI s0_0))]]⟩]) (rows2' := []) (st' := [⟨0, 34, 1, [[(.sl (List.map eI s0_0))]]⟩]) (v' := (.bool q14)) [0] go0 rfl hb90 (impl_checkedLazy_1_ok gq14) rfl (by decide) rfl rfl (.raw rfl rfl .nil) rfl rfl (.raw rfl rfl .nil) .nil rfl rfl ?_
    refine AO.done (hK12 _ ?_)
    refine AW.cond' (b := q14) rfl (fun b15 => ?_) (fun b15 => ?_)
    · replace h1 := Sh.ite_t b15 h1
      refine AW.seq fun K16 hK16 => ?_
      refine AW.regionO (by rfl) ?_
      refine ao_q (v := (i64 t4)) go0 rfl (aq_mv rfl) ?_
      refine ao_q (v := (i64 t4)) go0 rfl (aq_as rfl) ?_
      refine AO.done (hK16 _ ?_)
      replace h1 := Sh.some_eq h1
      subst o5
      try dsimp only [id] at h0
      replace h0 := Sh.some_eq h0
      subst r
      exact AW.ret (Exists.intro _ (And.intro (Wk.to (L := [(4, (i64 t4))]) ⟨.rfl, trivial⟩) (And.intro rfl rfl)))
    · replace h1 := Sh.ite_f b15 h1
      refine AW.skip (hK10 _ ?_)
      refine AW.regionO (by rfl) ?_
      refine ao_q (v := (i64 (Sh.w (t4 + 1)))) go0 rfl (aq_add rfl rfl) ?_
      refine ao_q (v := (i64 (Sh.w (t4 + 1)))) go0 rfl (aq_mv rfl) ?_
      exact AO.done (Exists.intro (Sh.w (t4 + 1)) (And.intro h1 (Wk.to (L := [(0, (.sl (List.map eI p0))), (1, (.fn 90 [(.ptr 0 0 0 0)])), (7, (i64 (Sh.len p0))), (8, (i64 (Sh.w (t4 + 1))))]) ⟨.rfl, .rfl, .rfl, .rfl, trivial⟩)))
  · replace h1 := Sh.ite_f b9 h1
    exact AW.exit (M5 () (Sh.some_eq h1).symm _ (Wk.to (L := []) trivial))

set_option maxRecDepth 100000 in
set_option maxHeartbeats 4000000 in
theorem slices_ContainsFunc_int_int_ok {N : Nat} {s0_0 : (List Int)} {p0 : (List Int)} {r : Bool} (h0 : slices_ContainsFunc_int_int N s0_0 p0 = some r) : ACalls Try.prog 89 [(.sl (List.map eI p0)), (.fn 90 [(.ptr 0 0 0 0)])] [⟨0, 34, 1, [[(.sl (List.map eI s0_0))]]⟩] (fun v st => v = (.bool r) ∧ st = [⟨0, 34, 1, [[(.sl (List.map eI s0_0))]]⟩]) := by
  unfold slices_ContainsFunc_int_int at h0
  refine ACalls.intro Try.func89 rfl (by show 2 ≤ 9; decide) ?_
  show AW _ 1 _ (aret _ 1 Try.f89 _) ⟨9, _, _⟩
  refine AW.weaken (Wk.to (L := [(0, (.sl (List.map eI p0))), (1, (.fn 90 [(.ptr 0 0 0 0)]))]) ⟨.rfl, .rfl, trivial⟩) ?_
  refine AW.seq fun K1 hK1 => ?_
  refine AW.regionO (by rfl) ?_
  refine ao_q (v := (.bool false)) go0 rfl (aq_as rfl) ?_
  refine AO.done (hK1 _ ?_)
  refine AW.seq fun K2 hK2 => ?_
  refine AW.regionO (by rfl) ?_
  refine ao_q (v := (.sl (List.map eI p0))) go0 rfl (aq_mv rfl) ?_
  refine ao_q (v := (.fn 90 [(.ptr 0 0 0 0)])) go0 rfl (aq_mv rfl) ?_
  obtain ⟨q3, gq3, h0⟩ := Sh.bind_some h0
  refine ao_calls (rowsP := [⟨0, 34, 1, [[(.sl (List.map eI s0_0))]]⟩]) (rows0 := [⟨0, 34, 1, [[(.sl (List.map eI s0_0))]]⟩]) (rows1 := [⟨0, 34, 1, [[(.sl (List.map eI s0_0))]]⟩]) (rows2 := []) (rows1' := [⟨0, 34, 1, [[(.sl (List.map eI s0_0))]]⟩]) (rows2' := []) (st' := [⟨0, 34, 1, [[(.sl (List.map eI s0_0))]]⟩]) (v' := (i64 q3)) [0] go0 hb125 (slices_IndexFunc_int_int_ok gq3) rfl (by decide) rfl rfl (.raw rfl rfl .nil) rfl rfl (.raw rfl rfl .nil) .nil rfl rfl ?_
  refine ao_q (v := (.bool (decide (0 ≤ q3)))) go0 rfl (aq_ge rfl rfl) ?_
  refine ao_q (v := (.bool (decide (0 ≤ q3)))) go0 rfl (aq_as rfl) ?_
  refine AO.done (hK2 _ ?_)
  replace h0 := Sh.some_eq h0
  subst r
  exact AW.ret (Exists.intro _ (And.intro (Wk.to (L := [(4, (.bool (decide (0 ≤ q3))))]) ⟨.rfl, trivial⟩) (And.intro rfl rfl)))

set_option maxRecDepth 100000 in
set_option maxHeartbeats 4000000 in
theorem impl_checkedLazy_ok {N : Nat} {p0 : Lazy} {r : (List Int) × Bool} (h0 : impl_checkedLazy N p0 = some r) : ACalls Try.prog 57 [(.agg [(.sl (List.map eCell p0.cells)), (.sl (List.map eI p0.pending))])] [] (fun v st => v = (.tup [(.sl (List.map eI r.1)), (.bool r.2)]) ∧ st = []) := by
  unfold impl_checkedLazy at h0
  refine ACalls.intro Try.func57 rfl (by show 1 ≤ 66; decide) ?_
  show AW _ 0 _ (aret _ 0 Try.f57 _) ⟨66, _, _⟩
  refine AW.weaken (Wk.to (L := [(0, (.agg [(.sl (List.map eCell p0.cells)), (.sl (List.map eI p0.pending))]))]) ⟨.rfl, trivial⟩) ?_
  refine AW.seq fun K1 hK1 => ?_
  refine AW.regionO (by rfl) ?_
  refine ao_box (m := 0) (st' := [⟨0, 41, 2, [[(.sl (List.map eCell p0.cells)), (.sl (List.map eI p0.pending))]]⟩]) go0 rfl rfl rfl rfl rfl ?_
  refine ao_q (v := .zc) go0 rfl (aq_as rfl) ?_
  refine ao_q (v := (.bool false)) go0 rfl (aq_as rfl) ?_
  refine AO.done (hK1 _ ?_)
  refine AW.seq fun K2 hK2 => ?_
  refine AW.regionO (by rfl) ?_
  refine ao_q (v := (.ptr 0 0 0 0)) go0 rfl (aq_fap fi41_0 rfl rfl (show 0 + 0 ≤ 2 by decide) rfl) ?_
  refine ao_q (v := (.sl (List.map eCell p0.cells))) go0 rfl (aq_ldp ti39 rfl rfl rfl rfl) ?_
  obtain ⟨q3, gq3, h0⟩ := Sh.bind_some h0
  refine ao_call (v' := (.own 1 0 (List.length q3))) (st' := [⟨0, 41, 2, [[(.sl (List.map eCell p0.cells)), (.sl (List.map eI p0.pending))]]⟩, ⟨0, 58, 3, List.map eCell q3⟩]) go0 hb88 (slices_Clone_impl_Cell_impl_Cell_ok gq3) rfl rfl ⟨pure_map fun _ => rfl, trivial⟩ rfl rfl ?_
  refine ao_q (v := (.own 1 0 (List.length q3))) go0 rfl (aq_as rfl) ?_
  refine AO.done (hK2 _ ?_)
  refine AW.seq fun K4 hK4 => ?_
  refine AW.seq fun K5 hK5 => ?_
  refine AW.regionO (by rfl) ?_
  refine ao_q (v := (.own 1 0 (List.length q3))) go0 rfl (aq_mv rfl) ?_
  refine ao_q (v := (i64 (Sh.len q3))) go0 rfl (aq_leno sl39 rfl rfl rfl) ?_
  refine ao_q (v := (i64 0)) go0 rfl (aq_mv rfl) ?_
  refine AO.done (hK5 _ ?_)
  obtain ⟨o7, h1, h0⟩ := Sh.cont_some h0
  have M7 : ∀ (_ : Unit), o7 = Sum.inr () → ∀ s, Wk 0 s ⟨66, envL [(1, (.ptr 0 0 0 0)), (4, (.own 1 0 (List.length q3)))], [⟨0, 41, 2, [[(.sl (List.map eCell p0.cells)), (.sl (List.map eI p0.pending))]]⟩, ⟨0, 58, 3, List.map eCell q3⟩]⟩ → K4 s := by
    intro _ hq s hw
    subst o7
    try dsimp only at h0
    refine hK4 _ (AW.weaken hw ?_)
    refine AW.seq fun K8 hK8 => ?_
    refine AW.seq fun K9 hK9 => ?_
    refine AW.regionO (by rfl) ?_
    refine ao_q (v := (.ptr 0 0 0 1)) go0 rfl (aq_fap fi41_1 rfl rfl (show 0 + 1 ≤ 2 by decide) rfl) ?_
    refine ao_q (v := (.sl (List.map eI p0.pending))) go0 rfl (aq_ldp ti34 rfl rfl rfl rfl) ?_
    refine ao_q (v := (i64 (Sh.len p0.pending))) go0 rfl (aq_lens sl34 rfl) ?_
    refine ao_q (v := (i64 0)) go0 rfl (aq_mv rfl) ?_
    refine AO.done (hK9 _ ?_)
    obtain ⟨o13, h1, h0⟩ := Sh.cont_some h0
    have M13 : ∀ (l12 : (List Cell)), o13 = Sum.inr l12 → ∀ s, Wk 0 s ⟨66, envL [(1, (.ptr 0 0 0 0)), (4, (.own 1 0 (List.length l12)))], [⟨0, 41, 2, [[(.sl (List.map eCell p0.cells)), (.sl (List.map eI p0.pending))]]⟩, ⟨0, 58, 3, List.map eCell l12⟩]⟩ → K8 s := by
      intro l12 hq s hw
      subst o13
      try dsimp only at h0
      refine hK8 _ (AW.weaken hw ?_)
      refine AW.seq fun K14 hK14 => ?_
      refine AW.regionO (by rfl) ?_
      refine ao_q (v := (.own 1 0 (List.length l12))) go0 rfl (aq_mv rfl) ?_
      refine AO.weaken (Wk.frz (L := [(1, (.ptr 0 0 0 0)), (53, (.sl (List.map eCell l12)))]) (st' := [⟨0, 41, 2, [[(.sl (List.map eCell p0.cells)), (.sl (List.map eI p0.pending))]]⟩, ⟨1, 58, 3, []⟩]) (id := 1) rfl (show 0 ≤ 1 by decide) (pure_map fun _ => rfl) ⟨.rfl, (.frz rfl), trivial⟩ rfl) ?_
      obtain ⟨q15, gq15, h0⟩ := Sh.bind_some h0
      refine ao_call (v' := (.tup [(.own 2 0 (List.length q15.1)), (.bool q15.2)])) (st' := [⟨0, 41, 2, [[(.sl (List.map eCell p0.cells)), (.sl (List.map eI p0.pending))]]⟩, ⟨1, 58, 3, []⟩, ⟨0, 3, 1, List.map eI q15.1⟩]) go0 hb67 (impl_checkedHeap_ok gq15) rfl rfl ⟨pure_map fun _ => rfl, trivial⟩ rfl rfl ?_
      refine ao_q (v := (.tup [(.own 2 0 (List.length q15.1)), (.bool q15.2)])) go0 rfl (aq_mv rfl) ?_
      refine ao_q (v := (.own 2 0 (List.length q15.1))) go0 rfl (aq_ex rfl rfl) ?_
      refine ao_q (v := (.bool q15.2)) go0 rfl (aq_ex rfl rfl) ?_
      refine ao_alloc (m := 3) (st' := [⟨0, 41, 2, [[(.sl (List.map eCell p0.cells)), (.sl (List.map eI p0.pending))]]⟩, ⟨1, 58, 3, []⟩, ⟨0, 3, 1, List.map eI q15.1⟩, ⟨0, 34, 1, [[.zc]]⟩]) go0 zi34 rfl rfl ?_
      refine AO.weaken (Wk.frz (L := [(1, (.ptr 0 0 0 0)), (9, (.ptr 3 0 0 0)), (55, (.sl (List.map eI q15.1))), (56, (.bool q15.2))]) (st' := [⟨0, 41, 2, [[(.sl (List.map eCell p0.cells)), (.sl (List.map eI p0.pending))]]⟩, ⟨1, 58, 3, []⟩, ⟨1, 3, 1, []⟩, ⟨0, 34, 1, [[.zc]]⟩]) (id := 2) rfl (show 0 ≤ 2 by decide) (pure_map fun _ => rfl) ⟨.rfl, .rfl, (.frz rfl), .rfl, trivial⟩ rfl) ?_
      refine ao_str (st' := [⟨0, 41, 2, [[(.sl (List.map eCell p0.cells)), (.sl (List.map eI p0.pending))]]⟩, ⟨1, 58, 3, []⟩, ⟨1, 3, 1, []⟩, ⟨0, 34, 1, [[(.sl (List.map eI q15.1))]]⟩]) go0 ti34 rfl rfl rfl rfl rfl rfl (show 0 + 1 ≤ 1 by decide) rfl ?_
      refine ao_q (v := (.bool q15.2)) go0 rfl (aq_as rfl) ?_
      refine AO.done (hK14 _ ?_)
      refine AW.seq fun K16 hK16 => ?_
      refine AW.seq fun K17 hK17 => ?_
      obtain ⟨o19, h1, h0⟩ := Sh.bind_some h0
      have M19 : ∀ (t18 : Bool), o19 = t18 → ∀ s, Wk 0 s ⟨66, envL [(9, (.ptr 0 0 0 0)), (64, (.bool t18))], [⟨0, 34, 1, [[(.sl (List.map eI q15.1))]]⟩]⟩ → K17 s := by
        intro t18 hq s hw
        subst o19
        try dsimp only at h0
        refine hK17 _ (AW.weaken hw ?_)
        refine AW.cond' (b := t18) rfl (fun b20 => ?_) (fun b20 => ?_)
        · replace h0 := Sh.ite_t b20 h0
          refine AW.seq fun K21 hK21 => ?_
          refine AW.regionO (by rfl) ?_
          refine ao_q (v := .zc) go0 rfl (aq_as rfl) ?_
          refine ao_q (v := (.bool false)) go0 rfl (aq_as rfl) ?_
          refine AO.done (hK21 _ ?_)
          replace h0 := Sh.some_eq h0
          subst r
          exact AW.ret (Exists.intro _ (And.intro ((Wk.permk (L := [(2, .zc), (3, (.bool false))]) (st' := []) (st1 := []) [] rfl .nil (by decide) rfl rfl .nil ⟨.rfl, .rfl, trivial⟩).trans (Wk.to (L := [(2, (.sl (List.map eI []))), (3, (.bool false))]) ⟨.zc, .rfl, trivial⟩)) (And.intro rfl rfl)))
        · replace h0 := Sh.ite_f b20 h0
          refine AW.skip (hK16 _ ?_)
          refine AW.seq fun K22 hK22 => ?_
          refine AW.regionO (by rfl) ?_
          refine ao_q (v := (.sl (List.map eI q15.1))) go0 rfl (aq_ldp ti34 rfl rfl rfl rfl) ?_
          refine ao_q (v := (.sl (List.map eI q15.1))) go0 rfl (aq_as rfl) ?_
          refine ao_q (v := (.bool true)) go0 rfl (aq_as rfl) ?_
          refine AO.done (hK22 _ ?_)
          replace h0 := Sh.some_eq h0
          subst r
          exact AW.ret (Exists.intro _ (And.intro ((Wk.permk (L := [(2, (.sl (List.map eI q15.1))), (3, (.bool true))]) (st' := []) (st1 := []) [] rfl .nil (by decide) rfl rfl .nil ⟨.rfl, .rfl, trivial⟩).trans (Wk.to (L := [(2, (.sl (List.map eI q15.1))), (3, (.bool true))]) ⟨.rfl, .rfl, trivial⟩)) (And.intro rfl rfl)))
      refine AW.regionO (by rfl) ?_
      refine ao_q (v := (.bool q15.2)) go0 rfl (aq_mv rfl) ?_
      refine ao_q (v := (.bool (!q15.2))) go0 rfl (aq_not rfl) ?_
      refine ao_q (v := (.bool (!q15.2))) go0 rfl (aq_mv rfl) ?_
      rcases Sh.ite_some h1 with ⟨b23, h1⟩ | ⟨b23, h1⟩
      · skip
        refine ao_skip rfl rfl b23 ?_
        refine ao_skip rfl rfl b23 ?_
        refine ao_skip rfl rfl b23 ?_
        refine ao_skip rfl rfl b23 ?_
        refine ao_q (v := (.bool true)) go0 rfl (aq_pkt rfl b23 rfl) ?_
        exact AO.done (M19 true (Sh.some_eq h1).symm _ (by refine Wk.trans (Wk.permk (L := [(9, (.ptr 0 0 0 0)), (64, (.bool true))]) (st' := [⟨0, 34, 1, [[(.sl (List.map eI q15.1))]]⟩]) (st1 := [⟨0, 34, 1, [[(.sl (List.map eI q15.1))]]⟩]) [3] rfl .nil (by decide) rfl rfl (.raw rfl rfl .nil) ⟨.rfl, .rfl, trivial⟩) ?_; exact Wk.to (L := [(9, (.ptr 0 0 0 0)), (64, (.bool true))]) ⟨.rfl, .rfl, trivial⟩))
      · skip
        refine ao_q (v := (.ptr 0 0 0 1)) (go1 rfl rfl b23) rfl (aq_fap fi41_1 rfl rfl (show 0 + 1 ≤ 2 by decide) rfl) ?_
        refine ao_q (v := (.sl (List.map eI p0.pending))) (go1 rfl rfl b23) rfl (aq_ldp ti34 rfl rfl rfl rfl) ?_
        refine ao_q (v := (.fn 90 [(.ptr 3 0 0 0)])) (go1 rfl rfl b23) rfl (aq_fn rfl) ?_
        obtain ⟨q24, gq24, h1⟩ := Sh.bind_some h1
        refine ao_calls (rowsP := [⟨0, 34, 1, [[(.sl (List.map eI q15.1))]]⟩]) (rows0 := [⟨0, 34, 1, [[(.sl (List.map eI q15.1))]]⟩]) (rows1 := [⟨0, 34, 1, [[(.sl (List.map eI q15.1))]]⟩]) (rows2 := []) (rows1' := [⟨0, 34, 1, [[(.sl (List.map eI q15.1))]]⟩]) (rows2' := []) (st' := [⟨0, 41, 2, [[(.sl (List.map eCell p0.cells)), (.sl (List.map eI p0.pending))]]⟩, ⟨1, 58, 3, []⟩, ⟨1, 3, 1, []⟩, ⟨0, 34, 1, [[(.sl (List.map eI q15.1))]]⟩]) (v' := (.bool q24)) [3] (go1 rfl rfl b23) hb89 (slices_ContainsFunc_int_int_ok gq24) rfl (by decide) rfl rfl (.raw rfl rfl .nil) rfl rfl (.raw rfl rfl .nil) .nil rfl rfl ?_
        refine ao_q (v := (.bool q24)) go0 rfl (aq_pkf rfl b23 rfl) ?_
        exact AO.done (M19 q24 (Sh.some_eq h1).symm _ (by refine Wk.trans (Wk.permk (L := [(9, (.ptr 0 0 0 0)), (64, (.bool q24))]) (st' := [⟨0, 34, 1, [[(.sl (List.map eI q15.1))]]⟩]) (st1 := [⟨0, 34, 1, [[(.sl (List.map eI q15.1))]]⟩]) [3] rfl .nil (by decide) rfl rfl (.raw rfl rfl .nil) ⟨.rfl, .rfl, trivial⟩) ?_; exact Wk.to (L := [(9, (.ptr 0 0 0 0)), (64, (.bool q24))]) ⟨.rfl, .rfl, trivial⟩))
    refine AW.block (AW.loopF (σ := Int × (List Cell)) (fun n v => impl_checkedLazy_L2 p0 n v.1 v.2 = some o13) (fun (t10, l11) => ⟨66, envL [(1, (.ptr 0 0 0 0)), (4, (.own 1 0 (List.length l11))), (25, (.sl (List.map eI p0.pending))), (26, (i64 (Sh.len p0.pending))), (27, (i64 t10))], [⟨0, 41, 2, [[(.sl (List.map eCell p0.cells)), (.sl (List.map eI p0.pending))]]⟩, ⟨0, 58, 3, List.map eCell l11⟩]⟩) N (0, q3) h1 (Wk.to (L := [(1, (.ptr 0 0 0 0)), (4, (.own 1 0 (List.length q3))), (25, (.sl (List.map eI p0.pending))), (26, (i64 (Sh.len p0.pending))), (27, (i64 0))]) ⟨.rfl, .rfl, .rfl, .rfl, .rfl, trivial⟩) (fun _ hv => by rw [impl_checkedLazy_L2] at hv; cases hv) ?_)
    rintro n ⟨t10, l11⟩ h1
    try dsimp only at h1 ⊢
    rw [impl_checkedLazy_L2] at h1
    refine AW.seq fun K25 hK25 => ?_
    refine AW.regionO (by rfl) ?_
    refine ao_q (v := (.bool (decide (t10 < (Sh.len p0.pending))))) go0 rfl (aq_lt rfl rfl) ?_
    refine AO.done (hK25 _ ?_)
    refine AW.seq fun K26 hK26 => ?_
    refine AW.cond' (b := decide (t10 < (Sh.len p0.pending))) rfl (fun b27 => ?_) (fun b27 => ?_)
    · replace h1 := Sh.ite_t b27 h1
      refine AW.skip (hK26 _ ?_)
      refine AW.seq fun K28 hK28 => ?_
      refine AW.block ?_
      refine AW.seq fun K29 hK29 => ?_
      refine AW.regionO (by rfl) ?_
      obtain ⟨c30, gc30, h1⟩ := Sh.bind_some h1
      refine ao_q (v := (.iptr (eI c30) 0)) go0 rfl (aq_ixs ei34 rfl rfl gc30 rfl) ?_
      refine ao_q (v := (i64 c30)) go0 rfl (aq_ldi ti3 rfl rfl) ?_
      refine ao_q (v := (i64 c30)) go0 rfl (aq_as rfl) ?_
      refine AO.done (hK29 _ ?_)
      refine AW.seq fun K31 hK31 => ?_
      refine AW.seq fun K32 hK32 => ?_
      obtain ⟨o34, h2, h1⟩ := Sh.bind_some h1
      have M34 : ∀ (t33 : Bool), o34 = t33 → ∀ s, Wk 0 s ⟨66, envL [(1, (.ptr 0 0 0 0)), (4, (.own 1 0 (List.length l11))), (8, (i64 c30)), (25, (.sl (List.map eI p0.pending))), (26, (i64 (Sh.len p0.pending))), (27, (i64 t10)), (46, (.bool t33))], [⟨0, 41, 2, [[(.sl (List.map eCell p0.cells)), (.sl (List.map eI p0.pending))]]⟩, ⟨0, 58, 3, List.map eCell l11⟩]⟩ → K32 s := by
        intro t33 hq s hw
        subst o34
        try dsimp only at h1
        refine hK32 _ (AW.weaken hw ?_)
        refine AW.cond' (b := t33) rfl (fun b35 => ?_) (fun b35 => ?_)
        · replace h1 := Sh.ite_t b35 h1
          refine AW.seq fun K36 hK36 => ?_
          refine AW.regionO (by rfl) ?_
          refine ao_q (v := .zc) go0 rfl (aq_as rfl) ?_
          refine ao_q (v := (.bool false)) go0 rfl (aq_as rfl) ?_
          refine AO.done (hK36 _ ?_)
          replace h1 := Sh.some_eq h1
          subst o13
          try dsimp only [id] at h0
          replace h0 := Sh.some_eq h0
          subst r
          exact AW.ret (Exists.intro _ (And.intro ((Wk.permk (L := [(2, .zc), (3, (.bool false))]) (st' := []) (st1 := []) [] rfl .nil (by decide) rfl rfl .nil ⟨.rfl, .rfl, trivial⟩).trans (Wk.to (L := [(2, (.sl (List.map eI []))), (3, (.bool false))]) ⟨.zc, .rfl, trivial⟩)) (And.intro rfl rfl)))
        · replace h1 := Sh.ite_f b35 h1
          refine AW.skip (hK31 _ ?_)
          refine AW.regionO (by rfl) ?_
          refine ao_q (v := (.own 1 0 (List.length l11))) go0 rfl (aq_mv rfl) ?_
          refine ao_q (v := (i64 c30)) go0 rfl (aq_mv rfl) ?_
          obtain ⟨c37, gc37, h1⟩ := Sh.bind_some h1
          refine ao_q (v := (.ptr 1 0 (Int.toNat c30) 0)) go0 rfl (aq_ixo ei39 rfl rfl rfl rfl gc37) ?_
          refine ao_q (v := (.ptr 1 0 (Int.toNat c30) 0)) go0 rfl (aq_fap fi58_0 rfl rfl (show 0 + 0 ≤ 3 by decide) rfl) ?_
          refine ao_stl (st' := [⟨0, 41, 2, [[(.sl (List.map eCell p0.cells)), (.sl (List.map eI p0.pending))]]⟩, ⟨0, 58, 3, List.map eCell (Sh.put l11 c30 (Cell.mk 1 c37.tag c37.fields))⟩]) (u' := (Cell.mk 1 c37.tag c37.fields)) go0 ti3 rfl rfl gc37 rfl rfl rfl (show 0 + 1 ≤ 3 by decide) rfl rfl ?_
          refine AO.done (hK28 _ ?_)
          refine AW.regionO (by rfl) ?_
          refine ao_q (v := (i64 (Sh.w (t10 + 1)))) go0 rfl (aq_add rfl rfl) ?_
          refine ao_q (v := (i64 (Sh.w (t10 + 1)))) go0 rfl (aq_mv rfl) ?_
          exact AO.done (Exists.intro (Sh.w (t10 + 1), Sh.put l11 c30 (Cell.mk 1 c37.tag c37.fields)) (And.intro h1 (Wk.to (L := [(1, (.ptr 0 0 0 0)), (4, (.own 1 0 (List.length (Sh.put l11 c30 (Cell.mk 1 c37.tag c37.fields))))), (25, (.sl (List.map eI p0.pending))), (26, (i64 (Sh.len p0.pending))), (27, (i64 (Sh.w (t10 + 1))))]) ⟨.rfl, (.len (by simp only [Sh.put_len])), .rfl, .rfl, .rfl, trivial⟩)))
      refine AW.regionO (by rfl) ?_
      refine ao_q (v := (i64 c30)) go0 rfl (aq_mv rfl) ?_
      refine ao_q (v := (.bool (decide (c30 < 0)))) go0 rfl (aq_lt rfl rfl) ?_
      refine ao_q (v := (.bool (decide (c30 < 0)))) go0 rfl (aq_mv rfl) ?_
      rcases Sh.ite_some h2 with ⟨b38, h2⟩ | ⟨b38, h2⟩
      · skip
        refine ao_skip rfl rfl b38 ?_
        refine ao_skip rfl rfl b38 ?_
        refine ao_skip rfl rfl b38 ?_
        refine ao_skip rfl rfl b38 ?_
        refine ao_q (v := (.bool true)) go0 rfl (aq_pkt rfl b38 rfl) ?_
        refine ao_q (v := (.bool true)) go0 rfl (aq_mv rfl) ?_
        refine ao_skip rfl rfl rfl ?_
        refine ao_skip rfl rfl rfl ?_
        refine ao_skip rfl rfl rfl ?_
        refine ao_skip rfl rfl rfl ?_
        refine ao_skip rfl rfl rfl ?_
        refine ao_skip rfl rfl rfl ?_
        refine ao_q (v := (.bool true)) go0 rfl (aq_pkt rfl rfl rfl) ?_
        exact AO.done (M34 true (Sh.some_eq h2).symm _ (Wk.to (L := [(1, (.ptr 0 0 0 0)), (4, (.own 1 0 (List.length l11))), (8, (i64 c30)), (25, (.sl (List.map eI p0.pending))), (26, (i64 (Sh.len p0.pending))), (27, (i64 t10)), (46, (.bool true))]) ⟨.rfl, .rfl, .rfl, .rfl, .rfl, .rfl, .rfl, trivial⟩))
      · skip
        refine ao_q (v := (i64 c30)) (go1 rfl rfl b38) rfl (aq_mv rfl) ?_
        refine ao_q (v := (.own 1 0 (List.length l11))) (go1 rfl rfl b38) rfl (aq_mv rfl) ?_
        refine ao_q (v := (i64 (Sh.len l11))) (go1 rfl rfl b38) rfl (aq_leno sl39 rfl rfl rfl) ?_
        refine ao_q (v := (.bool (decide ((Sh.len l11) ≤ c30)))) (go1 rfl rfl b38) rfl (aq_ge rfl rfl) ?_
        refine ao_q (v := (.bool (decide ((Sh.len l11) ≤ c30)))) go0 rfl (aq_pkf rfl b38 rfl) ?_
        refine ao_q (v := (.bool (decide ((Sh.len l11) ≤ c30)))) go0 rfl (aq_mv rfl) ?_
        rcases Sh.ite_some h2 with ⟨b39, h2⟩ | ⟨b39, h2⟩
        · skip
          refine ao_skip rfl rfl b39 ?_
          refine ao_skip rfl rfl b39 ?_
          refine ao_skip rfl rfl b39 ?_
          refine ao_skip rfl rfl b39 ?_
          refine ao_skip rfl rfl b39 ?_
          refine ao_skip rfl rfl b39 ?_
          refine ao_q (v := (.bool true)) go0 rfl (aq_pkt rfl b39 rfl) ?_
          exact AO.done (M34 true (Sh.some_eq h2).symm _ (Wk.to (L := [(1, (.ptr 0 0 0 0)), (4, (.own 1 0 (List.length l11))), (8, (i64 c30)), (25, (.sl (List.map eI p0.pending))), (26, (i64 (Sh.len p0.pending))), (27, (i64 t10)), (46, (.bool true))]) ⟨.rfl, .rfl, .rfl, .rfl, .rfl, .rfl, .rfl, trivial⟩))
        · skip
          refine ao_q (v := (.own 1 0 (List.length l11))) (go1 rfl rfl b39) rfl (aq_mv rfl) ?_
          refine ao_q (v := (i64 c30)) (go1 rfl rfl b39) rfl (aq_mv rfl) ?_
          obtain ⟨c40, gc40, h2⟩ := Sh.bind_some h2
          refine ao_q (v := (.ptr 1 0 (Int.toNat c30) 0)) (go1 rfl rfl b39) rfl (aq_ixo ei39 rfl rfl rfl rfl gc40) ?_
          refine ao_q (v := (.ptr 1 0 (Int.toNat c30) 0)) (go1 rfl rfl b39) rfl (aq_fap fi58_0 rfl rfl (show 0 + 0 ≤ 3 by decide) rfl) ?_
          refine ao_q (v := (i64 c40.count)) (go1 rfl rfl b39) rfl (aq_ldp ti3 rfl rfl (map_get gc40) rfl) ?_
          refine ao_q (v := (.bool (!decide (c40.count = 0)))) (go1 rfl rfl b39) rfl (aq_ne rfl rfl) ?_
          refine ao_q (v := (.bool (!decide (c40.count = 0)))) go0 rfl (aq_pkf rfl b39 rfl) ?_
          exact AO.done (M34 (!decide (c40.count = 0)) (Sh.some_eq h2).symm _ (Wk.to (L := [(1, (.ptr 0 0 0 0)), (4, (.own 1 0 (List.length l11))), (8, (i64 c30)), (25, (.sl (List.map eI p0.pending))), (26, (i64 (Sh.len p0.pending))), (27, (i64 t10)), (46, (.bool (!decide (c40.count = 0))))]) ⟨.rfl, .rfl, .rfl, .rfl, .rfl, .rfl, .rfl, trivial⟩))
    · replace h1 := Sh.ite_f b27 h1
      exact AW.exit (M13 l11 (Sh.some_eq h1).symm _ (Wk.to (L := [(1, (.ptr 0 0 0 0)), (4, (.own 1 0 (List.length l11)))]) ⟨.rfl, .rfl, trivial⟩))
  refine AW.block (AW.loopF (σ := Int) (fun n v => impl_checkedLazy_L1 q3 n v = some o7) (fun t6 => ⟨66, envL [(1, (.ptr 0 0 0 0)), (4, (.own 1 0 (List.length q3))), (14, (.own 1 0 (List.length q3))), (15, (i64 (Sh.len q3))), (16, (i64 t6))], [⟨0, 41, 2, [[(.sl (List.map eCell p0.cells)), (.sl (List.map eI p0.pending))]]⟩, ⟨0, 58, 3, List.map eCell q3⟩]⟩) N 0 h1 (Wk.to (L := [(1, (.ptr 0 0 0 0)), (4, (.own 1 0 (List.length q3))), (14, (.own 1 0 (List.length q3))), (15, (i64 (Sh.len q3))), (16, (i64 0))]) ⟨.rfl, .rfl, .rfl, .rfl, .rfl, trivial⟩) (fun _ hv => by rw [impl_checkedLazy_L1] at hv; cases hv) ?_)
  rintro n t6 h1
  try dsimp only at h1 ⊢
  rw [impl_checkedLazy_L1] at h1
  refine AW.seq fun K41 hK41 => ?_
  refine AW.regionO (by rfl) ?_
  refine ao_q (v := (.bool (decide (t6 < (Sh.len q3))))) go0 rfl (aq_lt rfl rfl) ?_
  refine AO.done (hK41 _ ?_)
  refine AW.seq fun K42 hK42 => ?_
  refine AW.cond' (b := decide (t6 < (Sh.len q3))) rfl (fun b43 => ?_) (fun b43 => ?_)
  · replace h1 := Sh.ite_t b43 h1
    refine AW.skip (hK42 _ ?_)
    refine AW.seq fun K44 hK44 => ?_
    refine AW.block ?_
    refine AW.seq fun K45 hK45 => ?_
    refine AW.regionO (by rfl) ?_
    obtain ⟨c46, gc46, h1⟩ := Sh.bind_some h1
    refine ao_q (v := (.ptr 1 0 (Int.toNat t6) 0)) go0 rfl (aq_ixo ei39 rfl rfl rfl rfl gc46) ?_
    refine ao_q (v := (.agg [(i64 c46.count), (i64 c46.tag), (.sl (List.map eI c46.fields))])) go0 rfl (aq_ldpa ti58 rfl rfl (map_get gc46) (show 0 + 3 ≤ 3 by decide) rfl) ?_
    refine ao_alloc (m := 2) (st' := [⟨0, 41, 2, [[(.sl (List.map eCell p0.cells)), (.sl (List.map eI p0.pending))]]⟩, ⟨0, 58, 3, List.map eCell q3⟩, ⟨0, 58, 3, [[(i64 0), (i64 0), .zc]]⟩]) go0 zi58 rfl rfl ?_
    refine ao_str (st' := [⟨0, 41, 2, [[(.sl (List.map eCell p0.cells)), (.sl (List.map eI p0.pending))]]⟩, ⟨0, 58, 3, List.map eCell q3⟩, ⟨0, 58, 3, [[(i64 c46.count), (i64 c46.tag), (.sl (List.map eI c46.fields))]]⟩]) go0 ti58 rfl rfl rfl rfl rfl rfl (show 0 + 3 ≤ 3 by decide) rfl ?_
    refine AO.done (hK45 _ ?_)
    refine AW.seq fun K47 hK47 => ?_
    refine AW.regionO (by rfl) ?_
    refine ao_q (v := (.ptr 2 0 0 0)) go0 rfl (aq_fap fi58_0 rfl rfl (show 0 + 0 ≤ 3 by decide) rfl) ?_
    refine ao_q (v := (i64 c46.count)) go0 rfl (aq_ldp ti3 rfl rfl rfl rfl) ?_
    refine ao_q (v := (.bool (decide (c46.count < 0)))) go0 rfl (aq_lt rfl rfl) ?_
    refine AO.done (hK47 _ ?_)
    refine AW.cond' (b := decide (c46.count < 0)) rfl (fun b48 => ?_) (fun b48 => ?_)
    · replace h1 := Sh.ite_t b48 h1
      refine AW.seq fun K49 hK49 => ?_
      refine AW.regionO (by rfl) ?_
      refine ao_q (v := .zc) go0 rfl (aq_as rfl) ?_
      refine ao_q (v := (.bool false)) go0 rfl (aq_as rfl) ?_
      refine AO.done (hK49 _ ?_)
      replace h1 := Sh.some_eq h1
      subst o7
      try dsimp only [id] at h0
      replace h0 := Sh.some_eq h0
      subst r
      exact AW.ret (Exists.intro _ (And.intro ((Wk.permk (L := [(2, .zc), (3, (.bool false))]) (st' := []) (st1 := []) [] rfl .nil (by decide) rfl rfl .nil ⟨.rfl, .rfl, trivial⟩).trans (Wk.to (L := [(2, (.sl (List.map eI []))), (3, (.bool false))]) ⟨.zc, .rfl, trivial⟩)) (And.intro rfl rfl)))
    · replace h1 := Sh.ite_f b48 h1
      refine AW.skip (hK44 _ ?_)
      refine AW.regionO (by rfl) ?_
      refine ao_q (v := (i64 (Sh.w (t6 + 1)))) go0 rfl (aq_add rfl rfl) ?_
      refine ao_q (v := (i64 (Sh.w (t6 + 1)))) go0 rfl (aq_mv rfl) ?_
      exact AO.done (Exists.intro (Sh.w (t6 + 1)) (And.intro h1 (by refine Wk.trans (Wk.permk (L := [(1, (.ptr 0 0 0 0)), (4, (.own 1 0 (List.length q3))), (14, (.own 1 0 (List.length q3))), (15, (i64 (Sh.len q3))), (16, (i64 (Sh.w (t6 + 1))))]) (st' := [⟨0, 41, 2, [[(.sl (List.map eCell p0.cells)), (.sl (List.map eI p0.pending))]]⟩, ⟨0, 58, 3, List.map eCell q3⟩]) (st1 := [⟨0, 41, 2, [[(.sl (List.map eCell p0.cells)), (.sl (List.map eI p0.pending))]]⟩, ⟨0, 58, 3, List.map eCell q3⟩]) [0, 1] rfl .nil (by decide) rfl rfl (.raw rfl rfl (.pure (pure_map fun _ => rfl) .nil)) ⟨.rfl, .rfl, .rfl, .rfl, .rfl, trivial⟩) ?_; exact Wk.to (L := [(1, (.ptr 0 0 0 0)), (4, (.own 1 0 (List.length q3))), (14, (.own 1 0 (List.length q3))), (15, (i64 (Sh.len q3))), (16, (i64 (Sh.w (t6 + 1))))]) ⟨.rfl, .rfl, .rfl, .rfl, .rfl, trivial⟩)))
  · replace h1 := Sh.ite_f b43 h1
    exact AW.exit (M7 () (Sh.some_eq h1).symm _ (Wk.to (L := [(1, (.ptr 0 0 0 0)), (4, (.own 1 0 (List.length q3)))]) ⟨.rfl, .rfl, trivial⟩))

set_option maxRecDepth 100000 in
set_option maxHeartbeats 4000000 in
theorem impl_ValidLazy_ok {N : Nat} {p0 : Lazy} {r : Bool} (h0 : impl_ValidLazy N p0 = some r) : ACalls Try.prog 22 [(.agg [(.sl (List.map eCell p0.cells)), (.sl (List.map eI p0.pending))])] [] (fun v st => v = (.bool r) ∧ st = []) := by
  unfold impl_ValidLazy at h0
  refine ACalls.intro Try.func22 rfl (by show 1 ≤ 11; decide) ?_
  show AW _ 0 _ (aret _ 0 Try.f22 _) ⟨11, _, _⟩
  refine AW.weaken (Wk.to (L := [(0, (.agg [(.sl (List.map eCell p0.cells)), (.sl (List.map eI p0.pending))]))]) ⟨.rfl, trivial⟩) ?_
  refine AW.seq fun K1 hK1 => ?_
  refine AW.regionO (by rfl) ?_
  refine ao_box (m := 0) (st' := [⟨0, 41, 2, [[(.sl (List.map eCell p0.cells)), (.sl (List.map eI p0.pending))]]⟩]) go0 rfl rfl rfl rfl rfl ?_
  refine ao_q (v := (.bool false)) go0 rfl (aq_as rfl) ?_
  refine AO.done (hK1 _ ?_)
  refine AW.seq fun K2 hK2 => ?_
  refine AW.regionO (by rfl) ?_
  refine ao_q (v := (.agg [(.sl (List.map eCell p0.cells)), (.sl (List.map eI p0.pending))])) go0 rfl (aq_ldpa ti41 rfl rfl rfl (show 0 + 2 ≤ 2 by decide) rfl) ?_
  obtain ⟨q3, gq3, h0⟩ := Sh.bind_some h0
  refine ao_call (v' := (.tup [(.sl (List.map eI q3.1)), (.bool q3.2)])) (st' := [⟨0, 41, 2, [[(.sl (List.map eCell p0.cells)), (.sl (List.map eI p0.pending))]]⟩]) go0 hb57 (impl_checkedLazy_ok gq3) rfl rfl trivial rfl rfl ?_
  refine ao_q (v := (.tup [(.sl (List.map eI q3.1)), (.bool q3.2)])) go0 rfl (aq_mv rfl) ?_
  refine ao_q (v := (.sl (List.map eI q3.1))) go0 rfl (aq_ex rfl rfl) ?_
  refine ao_q (v := (.bool q3.2)) go0 rfl (aq_ex rfl rfl) ?_
  refine ao_q (v := (.sl (List.map eI q3.1))) go0 rfl (aq_as rfl) ?_
  refine ao_q (v := (.bool q3.2)) go0 rfl (aq_as rfl) ?_
  refine AO.done (hK2 _ ?_)
  refine AW.seq fun K4 hK4 => ?_
  refine AW.regionO (by rfl) ?_
  refine ao_q (v := (.bool q3.2)) go0 rfl (aq_mv rfl) ?_
  refine ao_q (v := (.bool q3.2)) go0 rfl (aq_as rfl) ?_
  refine AO.done (hK4 _ ?_)
  replace h0 := Sh.some_eq h0
  subst r
  exact AW.ret (Exists.intro _ (And.intro ((Wk.permk (L := [(2, (.bool q3.2))]) (st' := []) (st1 := []) [] rfl .nil (by decide) rfl rfl .nil ⟨.rfl, trivial⟩).trans (Wk.to (L := [(2, (.bool q3.2))]) ⟨.rfl, trivial⟩)) (And.intro rfl rfl)))

set_option maxRecDepth 100000 in
set_option maxHeartbeats 4000000 in
theorem laws_eqIntS_ok {N : Nat} {p0 : (List Int)} {p1 : (List Int)} {r : Bool} (h0 : laws_eqIntS N p0 p1 = some r) : ACalls Try.prog 36 [(.sl (List.map eI p0)), (.sl (List.map eI p1))] [] (fun v st => v = (.bool r) ∧ st = []) := by
  unfold laws_eqIntS at h0
  refine ACalls.intro Try.func36 rfl (by show 2 ≤ 26; decide) ?_
  show AW _ 0 _ (aret _ 0 Try.f36 _) ⟨26, _, _⟩
  refine AW.weaken (Wk.to (L := [(0, (.sl (List.map eI p0))), (1, (.sl (List.map eI p1)))]) ⟨.rfl, .rfl, trivial⟩) ?_
  refine AW.seq fun K1 hK1 => ?_
  refine AW.regionO (by rfl) ?_
  refine ao_q (v := (.bool false)) go0 rfl (aq_as rfl) ?_
  refine AO.done (hK1 _ ?_)
  refine AW.seq fun K2 hK2 => ?_
  refine AW.seq fun K3 hK3 => ?_
  refine AW.regionO (by rfl) ?_
  refine ao_q (v := (.sl (List.map eI p0))) go0 rfl (aq_mv rfl) ?_
  refine ao_q (v := (i64 (Sh.len p0))) go0 rfl (aq_lens sl34 rfl) ?_
  refine ao_q (v := (.sl (List.map eI p1))) go0 rfl (aq_mv rfl) ?_
  refine ao_q (v := (i64 (Sh.len p1))) go0 rfl (aq_lens sl34 rfl) ?_
  refine ao_q (v := (.bool (!decide ((Sh.len p0) = (Sh.len p1))))) go0 rfl (aq_ne rfl rfl) ?_
  refine AO.done (hK3 _ ?_)
  refine AW.cond' (b := !decide ((Sh.len p0) = (Sh.len p1))) rfl (fun b4 => ?_) (fun b4 => ?_)
  · replace h0 := Sh.ite_t b4 h0
    have b5 : decide ((Sh.len p0) = (Sh.len p1)) = false := by simpa using b4
    refine AW.seq fun K6 hK6 => ?_
    refine AW.regionO (by rfl) ?_
    refine ao_q (v := (.bool false)) go0 rfl (aq_as rfl) ?_
    refine AO.done (hK6 _ ?_)
    replace h0 := Sh.some_eq h0
    subst r
    exact AW.ret (Exists.intro _ (And.intro (Wk.to (L := [(4, (.bool false))]) ⟨.rfl, trivial⟩) (And.intro rfl rfl)))
  · replace h0 := Sh.ite_f b4 h0
    have b7 : decide ((Sh.len p0) = (Sh.len p1)) = true := by simpa using b4
    refine AW.skip (hK2 _ ?_)
    refine AW.seq fun K8 hK8 => ?_
    refine AW.seq fun K9 hK9 => ?_
    refine AW.regionO (by rfl) ?_
    refine ao_q (v := (i64 0)) go0 rfl (aq_as rfl) ?_
    refine AO.done (hK9 _ ?_)
    obtain ⟨o11, h1, h0⟩ := Sh.cont_some h0
    have M11 : ∀ (_ : Unit), o11 = Sum.inr () → ∀ s, Wk 0 s ⟨26, envL [], []⟩ → K8 s := by
      intro _ hq s hw
      subst o11
      try dsimp only at h0
      refine hK8 _ (AW.weaken hw ?_)
      refine AW.seq fun K12 hK12 => ?_
      refine AW.regionO (by rfl) ?_
      refine ao_q (v := (.bool true)) go0 rfl (aq_as rfl) ?_
      refine AO.done (hK12 _ ?_)
      replace h0 := Sh.some_eq h0
      subst r
      exact AW.ret (Exists.intro _ (And.intro (Wk.to (L := [(4, (.bool true))]) ⟨.rfl, trivial⟩) (And.intro rfl rfl)))
    refine AW.block (AW.loopF (σ := Int) (fun n v => laws_eqIntS_L1 p0 p1 n v = some o11) (fun i10 => ⟨26, envL [(0, (.sl (List.map eI p0))), (1, (.sl (List.map eI p1))), (5, (i64 i10))], []⟩) N 0 h1 (Wk.to (L := [(0, (.sl (List.map eI p0))), (1, (.sl (List.map eI p1))), (5, (i64 0))]) ⟨.rfl, .rfl, .rfl, trivial⟩) (fun _ hv => by rw [laws_eqIntS_L1] at hv; cases hv) ?_)
    rintro n i10 h1
    try dsimp only at h1 ⊢
    rw [laws_eqIntS_L1] at h1
    refine AW.seq fun K13 hK13 => ?_
    refine AW.seq fun K14 hK14 => ?_
    refine AW.regionO (by rfl) ?_
    refine ao_q (v := (i64 i10)) go0 rfl (aq_mv rfl) ?_
    refine ao_q (v := (.sl (List.map eI p0))) go0 rfl (aq_mv rfl) ?_
    refine ao_q (v := (i64 (Sh.len p0))) go0 rfl (aq_lens sl34 rfl) ?_
    refine ao_q (v := (.bool (decide (i10 < (Sh.len p0))))) go0 rfl (aq_lt rfl rfl) ?_
    refine AO.done (hK14 _ ?_)
    refine AW.cond' (b := decide (i10 < (Sh.len p0))) rfl (fun b15 => ?_) (fun b15 => ?_)
    · replace h1 := Sh.ite_t b15 h1
      refine AW.skip (hK13 _ ?_)
      refine AW.seq fun K16 hK16 => ?_
      refine AW.block ?_
      refine AW.seq fun K17 hK17 => ?_
      refine AW.draw (by kernel_rfl) (by kernel_rfl) (by rfl) ?_
      refine d_q (v := (.sl (List.map eI p0))) go0 rfl (aq_mv rfl) ?_
      refine d_q (v := (i64 i10)) go0 rfl (aq_mv rfl) ?_
      obtain ⟨c18, gc18, h1⟩ := Sh.bind_some h1
      refine d_q (v := (.iptr (eI c18) 0)) go0 rfl (aq_ixs ei34 rfl rfl gc18 rfl) ?_
      refine d_q (v := (i64 c18)) go0 rfl (aq_ldi ti3 rfl rfl) ?_
      refine d_q (v := (.sl (List.map eI p1))) go0 rfl (aq_mv rfl) ?_
      refine d_q (v := (i64 i10)) go0 rfl (aq_mv rfl) ?_
      obtain ⟨c19, gc19, h1⟩ := Sh.bind_some h1
      refine d_q (v := (.iptr (eI c19) 0)) go0 rfl (aq_ixs ei34 rfl rfl gc19 rfl) ?_
      refine d_q (v := (i64 c19)) go0 rfl (aq_ldi ti3 rfl rfl) ?_
      refine d_q (v := (.bool (!decide (c18 = c19)))) go0 rfl (aq_ne rfl rfl) ?_
      refine d_done (hK17 _ ?_)
      refine AW.cond' (b := !decide (c18 = c19)) rfl (fun b20 => ?_) (fun b20 => ?_)
      · replace h1 := Sh.ite_t b20 h1
        have b21 : decide (c18 = c19) = false := by simpa using b20
        refine AW.seq fun K22 hK22 => ?_
        refine AW.regionO (by rfl) ?_
        refine ao_q (v := (.bool false)) go0 rfl (aq_as rfl) ?_
        refine AO.done (hK22 _ ?_)
        replace h1 := Sh.some_eq h1
        subst o11
        try dsimp only [id] at h0
        replace h0 := Sh.some_eq h0
        subst r
        exact AW.ret (Exists.intro _ (And.intro (Wk.to (L := [(4, (.bool false))]) ⟨.rfl, trivial⟩) (And.intro rfl rfl)))
      · replace h1 := Sh.ite_f b20 h1
        have b23 : decide (c18 = c19) = true := by simpa using b20
        refine AW.skip (hK16 _ ?_)
        refine AW.regionO (by rfl) ?_
        refine ao_q (v := (i64 i10)) go0 rfl (aq_mv rfl) ?_
        refine ao_q (v := (i64 (Sh.w (i10 + 1)))) go0 rfl (aq_add rfl rfl) ?_
        refine ao_q (v := (i64 (Sh.w (i10 + 1)))) go0 rfl (aq_as rfl) ?_
        exact AO.done (Exists.intro (Sh.w (i10 + 1)) (And.intro h1 (Wk.to (L := [(0, (.sl (List.map eI p0))), (1, (.sl (List.map eI p1))), (5, (i64 (Sh.w (i10 + 1))))]) ⟨.rfl, .rfl, .rfl, trivial⟩)))
    · replace h1 := Sh.ite_f b15 h1
      exact AW.exit (M11 () (Sh.some_eq h1).symm _ (Wk.to (L := []) trivial))

set_option maxRecDepth 100000 in
set_option maxHeartbeats 4000000 in
theorem laws_eqCell_ok {N : Nat} {p0 : Cell} {p1 : Cell} {r : Bool} (h0 : laws_eqCell N p0 p1 = some r) : ACalls Try.prog 91 [(.agg [(i64 p0.count), (i64 p0.tag), (.sl (List.map eI p0.fields))]), (.agg [(i64 p1.count), (i64 p1.tag), (.sl (List.map eI p1.fields))])] [] (fun v st => v = (.bool r) ∧ st = []) := by
  unfold laws_eqCell at h0
  refine ACalls.intro Try.func91 rfl (by show 2 ≤ 21; decide) ?_
  show AW _ 0 _ (aret _ 0 Try.f91 _) ⟨21, _, _⟩
  refine AW.weaken (Wk.to (L := [(0, (.agg [(i64 p0.count), (i64 p0.tag), (.sl (List.map eI p0.fields))])), (1, (.agg [(i64 p1.count), (i64 p1.tag), (.sl (List.map eI p1.fields))]))]) ⟨.rfl, .rfl, trivial⟩) ?_
  refine AW.seq fun K1 hK1 => ?_
  refine AW.regionO (by rfl) ?_
  refine ao_box (m := 0) (st' := [⟨0, 58, 3, [[(i64 p0.count), (i64 p0.tag), (.sl (List.map eI p0.fields))]]⟩]) go0 rfl rfl rfl rfl rfl ?_
  refine ao_box (m := 1) (st' := [⟨0, 58, 3, [[(i64 p0.count), (i64 p0.tag), (.sl (List.map eI p0.fields))]]⟩, ⟨0, 58, 3, [[(i64 p1.count), (i64 p1.tag), (.sl (List.map eI p1.fields))]]⟩]) go0 rfl rfl rfl rfl rfl ?_
  refine ao_q (v := (.bool false)) go0 rfl (aq_as rfl) ?_
  refine AO.done (hK1 _ ?_)
  refine AW.seq fun K2 hK2 => ?_
  refine AW.seq fun K3 hK3 => ?_
  refine AW.regionO (by rfl) ?_
  refine ao_q (v := (.ptr 0 0 0 0)) go0 rfl (aq_fap fi58_0 rfl rfl (show 0 + 0 ≤ 3 by decide) rfl) ?_
  refine ao_q (v := (i64 p0.count)) go0 rfl (aq_ldp ti3 rfl rfl rfl rfl) ?_
  refine ao_q (v := (.ptr 1 0 0 0)) go0 rfl (aq_fap fi58_0 rfl rfl (show 0 + 0 ≤ 3 by decide) rfl) ?_
  refine ao_q (v := (i64 p1.count)) go0 rfl (aq_ldp ti3 rfl rfl rfl rfl) ?_
  refine ao_q (v := (.bool (!decide (p0.count = p1.count)))) go0 rfl (aq_ne rfl rfl) ?_
  refine AO.done (hK3 _ ?_)
  refine AW.cond' (b := !decide (p0.count = p1.count)) rfl (fun b4 => ?_) (fun b4 => ?_)
  · replace h0 := Sh.ite_t b4 h0
    have b5 : decide (p0.count = p1.count) = false := by simpa using b4
    refine AW.seq fun K6 hK6 => ?_
    refine AW.regionO (by rfl) ?_
    refine ao_q (v := (.bool false)) go0 rfl (aq_as rfl) ?_
    refine AO.done (hK6 _ ?_)
    replace h0 := Sh.some_eq h0
    subst r
    exact AW.ret (Exists.intro _ (And.intro ((Wk.permk (L := [(4, (.bool false))]) (st' := []) (st1 := []) [] rfl .nil (by decide) rfl rfl .nil ⟨.rfl, trivial⟩).trans (Wk.to (L := [(4, (.bool false))]) ⟨.rfl, trivial⟩)) (And.intro rfl rfl)))
  · replace h0 := Sh.ite_f b4 h0
    have b7 : decide (p0.count = p1.count) = true := by simpa using b4
    refine AW.skip (hK2 _ ?_)
    refine AW.seq fun K8 hK8 => ?_
    refine AW.seq fun K9 hK9 => ?_
    refine AW.regionO (by rfl) ?_
    refine ao_q (v := (.ptr 0 0 0 1)) go0 rfl (aq_fap fi58_1 rfl rfl (show 0 + 1 ≤ 3 by decide) rfl) ?_
    refine ao_q (v := (i64 p0.tag)) go0 rfl (aq_ldp ti3 rfl rfl rfl rfl) ?_
    refine ao_q (v := (.ptr 1 0 0 1)) go0 rfl (aq_fap fi58_1 rfl rfl (show 0 + 1 ≤ 3 by decide) rfl) ?_
    refine ao_q (v := (i64 p1.tag)) go0 rfl (aq_ldp ti3 rfl rfl rfl rfl) ?_
    refine ao_q (v := (.bool (!decide (p0.tag = p1.tag)))) go0 rfl (aq_ne rfl rfl) ?_
    refine AO.done (hK9 _ ?_)
    refine AW.cond' (b := !decide (p0.tag = p1.tag)) rfl (fun b10 => ?_) (fun b10 => ?_)
    · replace h0 := Sh.ite_t b10 h0
      have b11 : decide (p0.tag = p1.tag) = false := by simpa using b10
      refine AW.seq fun K12 hK12 => ?_
      refine AW.regionO (by rfl) ?_
      refine ao_q (v := (.bool false)) go0 rfl (aq_as rfl) ?_
      refine AO.done (hK12 _ ?_)
      replace h0 := Sh.some_eq h0
      subst r
      exact AW.ret (Exists.intro _ (And.intro ((Wk.permk (L := [(4, (.bool false))]) (st' := []) (st1 := []) [] rfl .nil (by decide) rfl rfl .nil ⟨.rfl, trivial⟩).trans (Wk.to (L := [(4, (.bool false))]) ⟨.rfl, trivial⟩)) (And.intro rfl rfl)))
    · replace h0 := Sh.ite_f b10 h0
      have b13 : decide (p0.tag = p1.tag) = true := by simpa using b10
      refine AW.skip (hK8 _ ?_)
      refine AW.seq fun K14 hK14 => ?_
      refine AW.seq fun K15 hK15 => ?_
      refine AW.regionO (by rfl) ?_
      refine ao_q (v := (.ptr 0 0 0 2)) go0 rfl (aq_fap fi58_2 rfl rfl (show 0 + 2 ≤ 3 by decide) rfl) ?_
      refine ao_q (v := (.sl (List.map eI p0.fields))) go0 rfl (aq_ldp ti34 rfl rfl rfl rfl) ?_
      refine ao_q (v := (.ptr 1 0 0 2)) go0 rfl (aq_fap fi58_2 rfl rfl (show 0 + 2 ≤ 3 by decide) rfl) ?_
      refine ao_q (v := (.sl (List.map eI p1.fields))) go0 rfl (aq_ldp ti34 rfl rfl rfl rfl) ?_
      obtain ⟨q16, gq16, h0⟩ := Sh.bind_some h0
      refine ao_call (v' := (.bool q16)) (st' := [⟨0, 58, 3, [[(i64 p0.count), (i64 p0.tag), (.sl (List.map eI p0.fields))]]⟩, ⟨0, 58, 3, [[(i64 p1.count), (i64 p1.tag), (.sl (List.map eI p1.fields))]]⟩]) go0 hb36 (laws_eqIntS_ok gq16) rfl rfl trivial rfl rfl ?_
      refine ao_q (v := (.bool (!q16))) go0 rfl (aq_not rfl) ?_
      refine AO.done (hK15 _ ?_)
      refine AW.cond' (b := !q16) rfl (fun b17 => ?_) (fun b17 => ?_)
      · replace h0 := Sh.ite_t b17 h0
        have b18 : q16 = false := by simpa using b17
        refine AW.seq fun K19 hK19 => ?_
        refine AW.regionO (by rfl) ?_
        refine ao_q (v := (.bool false)) go0 rfl (aq_as rfl) ?_
        refine AO.done (hK19 _ ?_)
        replace h0 := Sh.some_eq h0
        subst r
        exact AW.ret (Exists.intro _ (And.intro ((Wk.permk (L := [(4, (.bool false))]) (st' := []) (st1 := []) [] rfl .nil (by decide) rfl rfl .nil ⟨.rfl, trivial⟩).trans (Wk.to (L := [(4, (.bool false))]) ⟨.rfl, trivial⟩)) (And.intro rfl rfl)))
      · replace h0 := Sh.ite_f b17 h0
        have b20 : q16 = true := by simpa using b17
        refine AW.skip (hK14 _ ?_)
        refine AW.seq fun K21 hK21 => ?_
        refine AW.regionO (by rfl) ?_
        refine ao_q (v := (.bool true)) go0 rfl (aq_as rfl) ?_
        refine AO.done (hK21 _ ?_)
        replace h0 := Sh.some_eq h0
        subst r
        exact AW.ret (Exists.intro _ (And.intro ((Wk.permk (L := [(4, (.bool true))]) (st' := []) (st1 := []) [] rfl .nil (by decide) rfl rfl .nil ⟨.rfl, trivial⟩).trans (Wk.to (L := [(4, (.bool true))]) ⟨.rfl, trivial⟩)) (And.intro rfl rfl)))

set_option maxRecDepth 100000 in
set_option maxHeartbeats 4000000 in
theorem laws_eqCellS_ok {N : Nat} {p0 : (List Cell)} {p1 : (List Cell)} {r : Bool} (h0 : laws_eqCellS N p0 p1 = some r) : ACalls Try.prog 58 [(.sl (List.map eCell p0)), (.sl (List.map eCell p1))] [] (fun v st => v = (.bool r) ∧ st = []) := by
  unfold laws_eqCellS at h0
  refine ACalls.intro Try.func58 rfl (by show 2 ≤ 27; decide) ?_
  show AW _ 0 _ (aret _ 0 Try.f58 _) ⟨27, _, _⟩
  refine AW.weaken (Wk.to (L := [(0, (.sl (List.map eCell p0))), (1, (.sl (List.map eCell p1)))]) ⟨.rfl, .rfl, trivial⟩) ?_
  refine AW.seq fun K1 hK1 => ?_
  refine AW.regionO (by rfl) ?_
  refine ao_q (v := (.bool false)) go0 rfl (aq_as rfl) ?_
  refine AO.done (hK1 _ ?_)
  refine AW.seq fun K2 hK2 => ?_
  refine AW.seq fun K3 hK3 => ?_
  refine AW.regionO (by rfl) ?_
  refine ao_q (v := (.sl (List.map eCell p0))) go0 rfl (aq_mv rfl) ?_
  refine ao_q (v := (i64 (Sh.len p0))) go0 rfl (aq_lens sl39 rfl) ?_
  refine ao_q (v := (.sl (List.map eCell p1))) go0 rfl (aq_mv rfl) ?_
  refine ao_q (v := (i64 (Sh.len p1))) go0 rfl (aq_lens sl39 rfl) ?_
  refine ao_q (v := (.bool (!decide ((Sh.len p0) = (Sh.len p1))))) go0 rfl (aq_ne rfl rfl) ?_
  refine AO.done (hK3 _ ?_)
  refine AW.cond' (b := !decide ((Sh.len p0) = (Sh.len p1))) rfl (fun b4 => ?_) (fun b4 => ?_)
  · replace h0 := Sh.ite_t b4 h0
    have b5 : decide ((Sh.len p0) = (Sh.len p1)) = false := by simpa using b4
    refine AW.seq fun K6 hK6 => ?_
    refine AW.regionO (by rfl) ?_
    refine ao_q (v := (.bool false)) go0 rfl (aq_as rfl) ?_
    refine AO.done (hK6 _ ?_)
    replace h0 := Sh.some_eq h0
    subst r
    exact AW.ret (Exists.intro _ (And.intro (Wk.to (L := [(4, (.bool false))]) ⟨.rfl, trivial⟩) (And.intro rfl rfl)))
  · replace h0 := Sh.ite_f b4 h0
    have b7 : decide ((Sh.len p0) = (Sh.len p1)) = true := by simpa using b4
    refine AW.skip (hK2 _ ?_)
    refine AW.seq fun K8 hK8 => ?_
    refine AW.seq fun K9 hK9 => ?_
    refine AW.regionO (by rfl) ?_
    refine ao_q (v := (i64 0)) go0 rfl (aq_as rfl) ?_
    refine AO.done (hK9 _ ?_)
    obtain ⟨o11, h1, h0⟩ := Sh.cont_some h0
    have M11 : ∀ (_ : Unit), o11 = Sum.inr () → ∀ s, Wk 0 s ⟨27, envL [], []⟩ → K8 s := by
      intro _ hq s hw
      subst o11
      try dsimp only at h0
      refine hK8 _ (AW.weaken hw ?_)
      refine AW.seq fun K12 hK12 => ?_
      refine AW.regionO (by rfl) ?_
      refine ao_q (v := (.bool true)) go0 rfl (aq_as rfl) ?_
      refine AO.done (hK12 _ ?_)
      replace h0 := Sh.some_eq h0
      subst r
      exact AW.ret (Exists.intro _ (And.intro (Wk.to (L := [(4, (.bool true))]) ⟨.rfl, trivial⟩) (And.intro rfl rfl)))
    refine AW.block (AW.loopF (σ := Int) (fun n v => laws_eqCellS_L1 N p0 p1 n v = some o11) (fun i10 => ⟨27, envL [(0, (.sl (List.map eCell p0))), (1, (.sl (List.map eCell p1))), (5, (i64 i10))], []⟩) N 0 h1 (Wk.to (L := [(0, (.sl (List.map eCell p0))), (1, (.sl (List.map eCell p1))), (5, (i64 0))]) ⟨.rfl, .rfl, .rfl, trivial⟩) (fun _ hv => by rw [laws_eqCellS_L1] at hv; cases hv) ?_)
    rintro n i10 h1
    try dsimp only at h1 ⊢
    rw [laws_eqCellS_L1] at h1
    refine AW.seq fun K13 hK13 => ?_
    refine AW.seq fun K14 hK14 => ?_
    refine AW.regionO (by rfl) ?_
    refine ao_q (v := (i64 i10)) go0 rfl (aq_mv rfl) ?_
    refine ao_q (v := (.sl (List.map eCell p0))) go0 rfl (aq_mv rfl) ?_
    refine ao_q (v := (i64 (Sh.len p0))) go0 rfl (aq_lens sl39 rfl) ?_
    refine ao_q (v := (.bool (decide (i10 < (Sh.len p0))))) go0 rfl (aq_lt rfl rfl) ?_
    refine AO.done (hK14 _ ?_)
    refine AW.cond' (b := decide (i10 < (Sh.len p0))) rfl (fun b15 => ?_) (fun b15 => ?_)
    · replace h1 := Sh.ite_t b15 h1
      refine AW.skip (hK13 _ ?_)
      refine AW.seq fun K16 hK16 => ?_
      refine AW.block ?_
      refine AW.seq fun K17 hK17 => ?_
      refine AW.draw (by kernel_rfl) (by kernel_rfl) (by rfl) ?_
      refine d_q (v := (.sl (List.map eCell p0))) go0 rfl (aq_mv rfl) ?_
      refine d_q (v := (i64 i10)) go0 rfl (aq_mv rfl) ?_
      obtain ⟨c18, gc18, h1⟩ := Sh.bind_some h1
      refine d_q (v := (.iptr (eCell c18) 0)) go0 rfl (aq_ixs ei39 rfl rfl gc18 rfl) ?_
      refine d_q (v := (.agg [(i64 c18.count), (i64 c18.tag), (.sl (List.map eI c18.fields))])) go0 rfl (aq_ldia ti58 rfl (show 0 + 3 ≤ 3 by decide) rfl) ?_
      refine d_q (v := (.sl (List.map eCell p1))) go0 rfl (aq_mv rfl) ?_
      refine d_q (v := (i64 i10)) go0 rfl (aq_mv rfl) ?_
      obtain ⟨c19, gc19, h1⟩ := Sh.bind_some h1
      refine d_q (v := (.iptr (eCell c19) 0)) go0 rfl (aq_ixs ei39 rfl rfl gc19 rfl) ?_
      refine d_q (v := (.agg [(i64 c19.count), (i64 c19.tag), (.sl (List.map eI c19.fields))])) go0 rfl (aq_ldia ti58 rfl (show 0 + 3 ≤ 3 by decide) rfl) ?_
      obtain ⟨q20, gq20, h1⟩ := Sh.bind_some h1
      refine d_call (v := (.bool q20)) go0 hb91 (laws_eqCell_ok gq20) rfl rfl rfl ?_
      refine d_q (v := (.bool (!q20))) go0 rfl (aq_not rfl) ?_
      refine d_done (hK17 _ ?_)
      refine AW.cond' (b := !q20) rfl (fun b21 => ?_) (fun b21 => ?_)
      · replace h1 := Sh.ite_t b21 h1
        have b22 : q20 = false := by simpa using b21
        refine AW.seq fun K23 hK23 => ?_
        refine AW.regionO (by rfl) ?_
        refine ao_q (v := (.bool false)) go0 rfl (aq_as rfl) ?_
        refine AO.done (hK23 _ ?_)
        replace h1 := Sh.some_eq h1
        subst o11
        try dsimp only [id] at h0
        replace h0 := Sh.some_eq h0
        subst r
        exact AW.ret (Exists.intro _ (And.intro (Wk.to (L := [(4, (.bool false))]) ⟨.rfl, trivial⟩) (And.intro rfl rfl)))
      · replace h1 := Sh.ite_f b21 h1
        have b24 : q20 = true := by simpa using b21
        refine AW.skip (hK16 _ ?_)
        refine AW.regionO (by rfl) ?_
        refine ao_q (v := (i64 i10)) go0 rfl (aq_mv rfl) ?_
        refine ao_q (v := (i64 (Sh.w (i10 + 1)))) go0 rfl (aq_add rfl rfl) ?_
        refine ao_q (v := (i64 (Sh.w (i10 + 1)))) go0 rfl (aq_as rfl) ?_
        exact AO.done (Exists.intro (Sh.w (i10 + 1)) (And.intro h1 (Wk.to (L := [(0, (.sl (List.map eCell p0))), (1, (.sl (List.map eCell p1))), (5, (i64 (Sh.w (i10 + 1))))]) ⟨.rfl, .rfl, .rfl, trivial⟩)))
    · replace h1 := Sh.ite_f b15 h1
      exact AW.exit (M11 () (Sh.some_eq h1).symm _ (Wk.to (L := []) trivial))

set_option maxRecDepth 100000 in
set_option maxHeartbeats 4000000 in
theorem laws_eqLazy_ok {N : Nat} {p0 : Lazy} {p1 : Lazy} {r : Bool} (h0 : laws_eqLazy N p0 p1 = some r) : ACalls Try.prog 23 [(.agg [(.sl (List.map eCell p0.cells)), (.sl (List.map eI p0.pending))]), (.agg [(.sl (List.map eCell p1.cells)), (.sl (List.map eI p1.pending))])] [] (fun v st => v = (.bool r) ∧ st = []) := by
  unfold laws_eqLazy at h0
  refine ACalls.intro Try.func23 rfl (by show 2 ≤ 17; decide) ?_
  show AW _ 0 _ (aret _ 0 Try.f23 _) ⟨17, _, _⟩
  refine AW.weaken (Wk.to (L := [(0, (.agg [(.sl (List.map eCell p0.cells)), (.sl (List.map eI p0.pending))])), (1, (.agg [(.sl (List.map eCell p1.cells)), (.sl (List.map eI p1.pending))]))]) ⟨.rfl, .rfl, trivial⟩) ?_
  refine AW.seq fun K1 hK1 => ?_
  refine AW.regionO (by rfl) ?_
  refine ao_box (m := 0) (st' := [⟨0, 41, 2, [[(.sl (List.map eCell p0.cells)), (.sl (List.map eI p0.pending))]]⟩]) go0 rfl rfl rfl rfl rfl ?_
  refine ao_box (m := 1) (st' := [⟨0, 41, 2, [[(.sl (List.map eCell p0.cells)), (.sl (List.map eI p0.pending))]]⟩, ⟨0, 41, 2, [[(.sl (List.map eCell p1.cells)), (.sl (List.map eI p1.pending))]]⟩]) go0 rfl rfl rfl rfl rfl ?_
  refine ao_q (v := (.bool false)) go0 rfl (aq_as rfl) ?_
  refine AO.done (hK1 _ ?_)
  refine AW.seq fun K2 hK2 => ?_
  refine AW.seq fun K3 hK3 => ?_
  refine AW.regionO (by rfl) ?_
  refine ao_q (v := (.ptr 0 0 0 0)) go0 rfl (aq_fap fi41_0 rfl rfl (show 0 + 0 ≤ 2 by decide) rfl) ?_
  refine ao_q (v := (.sl (List.map eCell p0.cells))) go0 rfl (aq_ldp ti39 rfl rfl rfl rfl) ?_
  refine ao_q (v := (.ptr 1 0 0 0)) go0 rfl (aq_fap fi41_0 rfl rfl (show 0 + 0 ≤ 2 by decide) rfl) ?_
  refine ao_q (v := (.sl (List.map eCell p1.cells))) go0 rfl (aq_ldp ti39 rfl rfl rfl rfl) ?_
  obtain ⟨q4, gq4, h0⟩ := Sh.bind_some h0
  refine ao_call (v' := (.bool q4)) (st' := [⟨0, 41, 2, [[(.sl (List.map eCell p0.cells)), (.sl (List.map eI p0.pending))]]⟩, ⟨0, 41, 2, [[(.sl (List.map eCell p1.cells)), (.sl (List.map eI p1.pending))]]⟩]) go0 hb58 (laws_eqCellS_ok gq4) rfl rfl trivial rfl rfl ?_
  refine ao_q (v := (.bool (!q4))) go0 rfl (aq_not rfl) ?_
  refine AO.done (hK3 _ ?_)
  refine AW.cond' (b := !q4) rfl (fun b5 => ?_) (fun b5 => ?_)
  · replace h0 := Sh.ite_t b5 h0
    have b6 : q4 = false := by simpa using b5
    refine AW.seq fun K7 hK7 => ?_
    refine AW.regionO (by rfl) ?_
    refine ao_q (v := (.bool false)) go0 rfl (aq_as rfl) ?_
    refine AO.done (hK7 _ ?_)
    replace h0 := Sh.some_eq h0
    subst r
    exact AW.ret (Exists.intro _ (And.intro ((Wk.permk (L := [(4, (.bool false))]) (st' := []) (st1 := []) [] rfl .nil (by decide) rfl rfl .nil ⟨.rfl, trivial⟩).trans (Wk.to (L := [(4, (.bool false))]) ⟨.rfl, trivial⟩)) (And.intro rfl rfl)))
  · replace h0 := Sh.ite_f b5 h0
    have b8 : q4 = true := by simpa using b5
    refine AW.skip (hK2 _ ?_)
    refine AW.seq fun K9 hK9 => ?_
    refine AW.seq fun K10 hK10 => ?_
    refine AW.regionO (by rfl) ?_
    refine ao_q (v := (.ptr 0 0 0 1)) go0 rfl (aq_fap fi41_1 rfl rfl (show 0 + 1 ≤ 2 by decide) rfl) ?_
    refine ao_q (v := (.sl (List.map eI p0.pending))) go0 rfl (aq_ldp ti34 rfl rfl rfl rfl) ?_
    refine ao_q (v := (.ptr 1 0 0 1)) go0 rfl (aq_fap fi41_1 rfl rfl (show 0 + 1 ≤ 2 by decide) rfl) ?_
    refine ao_q (v := (.sl (List.map eI p1.pending))) go0 rfl (aq_ldp ti34 rfl rfl rfl rfl) ?_
    obtain ⟨q11, gq11, h0⟩ := Sh.bind_some h0
    refine ao_call (v' := (.bool q11)) (st' := [⟨0, 41, 2, [[(.sl (List.map eCell p0.cells)), (.sl (List.map eI p0.pending))]]⟩, ⟨0, 41, 2, [[(.sl (List.map eCell p1.cells)), (.sl (List.map eI p1.pending))]]⟩]) go0 hb36 (laws_eqIntS_ok gq11) rfl rfl trivial rfl rfl ?_
    refine ao_q (v := (.bool (!q11))) go0 rfl (aq_not rfl) ?_
    refine AO.done (hK10 _ ?_)
    refine AW.cond' (b := !q11) rfl (fun b12 => ?_) (fun b12 => ?_)
    · replace h0 := Sh.ite_t b12 h0
      have b13 : q11 = false := by simpa using b12
      refine AW.seq fun K14 hK14 => ?_
      refine AW.regionO (by rfl) ?_
      refine ao_q (v := (.bool false)) go0 rfl (aq_as rfl) ?_
      refine AO.done (hK14 _ ?_)
      replace h0 := Sh.some_eq h0
      subst r
      exact AW.ret (Exists.intro _ (And.intro ((Wk.permk (L := [(4, (.bool false))]) (st' := []) (st1 := []) [] rfl .nil (by decide) rfl rfl .nil ⟨.rfl, trivial⟩).trans (Wk.to (L := [(4, (.bool false))]) ⟨.rfl, trivial⟩)) (And.intro rfl rfl)))
    · replace h0 := Sh.ite_f b12 h0
      have b15 : q11 = true := by simpa using b12
      refine AW.skip (hK9 _ ?_)
      refine AW.seq fun K16 hK16 => ?_
      refine AW.regionO (by rfl) ?_
      refine ao_q (v := (.bool true)) go0 rfl (aq_as rfl) ?_
      refine AO.done (hK16 _ ?_)
      replace h0 := Sh.some_eq h0
      subst r
      exact AW.ret (Exists.intro _ (And.intro ((Wk.permk (L := [(4, (.bool true))]) (st' := []) (st1 := []) [] rfl .nil (by decide) rfl rfl .nil ⟨.rfl, trivial⟩).trans (Wk.to (L := [(4, (.bool true))]) ⟨.rfl, trivial⟩)) (And.intro rfl rfl)))

set_option maxRecDepth 100000 in
set_option maxHeartbeats 4000000 in
theorem laws_FnExactValidLazy_ok {N : Nat} {p0 : Lazy} {r : Bool} (h0 : laws_FnExactValidLazy N p0 = some r) : ACalls Try.prog 5 [(.agg [(.sl (List.map eCell p0.cells)), (.sl (List.map eI p0.pending))])] [] (fun v st => v = (.bool r) ∧ st = []) := by
  unfold laws_FnExactValidLazy at h0
  refine ACalls.intro Try.func5 rfl (by show 1 ≤ 27; decide) ?_
  show AW _ 0 _ (aret _ 0 Try.f5 _) ⟨27, _, _⟩
  refine AW.weaken (Wk.to (L := [(0, (.agg [(.sl (List.map eCell p0.cells)), (.sl (List.map eI p0.pending))]))]) ⟨.rfl, trivial⟩) ?_
  refine AW.seq fun K1 hK1 => ?_
  refine AW.regionO (by rfl) ?_
  refine ao_box (m := 0) (st' := [⟨0, 36, 2, [[(.sl (List.map eCell p0.cells)), (.sl (List.map eI p0.pending))]]⟩]) go0 rfl rfl rfl rfl rfl ?_
  refine ao_q (v := (.bool false)) go0 rfl (aq_as rfl) ?_
  refine AO.done (hK1 _ ?_)
  refine AW.seq fun K2 hK2 => ?_
  refine AW.regionO (by rfl) ?_
  refine ao_q (v := (i64 1048576)) go0 rfl (aq_as rfl) ?_
  refine AO.done (hK2 _ ?_)
  refine AW.seq fun K3 hK3 => ?_
  refine AW.regionO (by rfl) ?_
  refine ao_q (v := (.agg [(.sl (List.map eCell p0.cells)), (.sl (List.map eI p0.pending))])) go0 rfl (aq_ldpa ti36 rfl rfl rfl (show 0 + 2 ≤ 2 by decide) rfl) ?_
  refine ao_q (v := (i64 1048576)) go0 rfl (aq_mv rfl) ?_
  obtain ⟨q4, gq4, h0⟩ := Sh.bind_some h0
  refine ao_call (v' := (i64 q4)) (st' := [⟨0, 36, 2, [[(.sl (List.map eCell p0.cells)), (.sl (List.map eI p0.pending))]]⟩]) go0 hb19 (laws_szLazy_ok gq4) rfl rfl trivial rfl rfl ?_
  refine ao_q (v := (i64 q4)) go0 rfl (aq_as rfl) ?_
  refine AO.done (hK3 _ ?_)
  refine AW.seq fun K5 hK5 => ?_
  refine AW.seq fun K6 hK6 => ?_
  refine AW.regionO (by rfl) ?_
  refine ao_q (v := (i64 q4)) go0 rfl (aq_mv rfl) ?_
  refine ao_q (v := (.bool (decide (q4 < 0)))) go0 rfl (aq_lt rfl rfl) ?_
  refine AO.done (hK6 _ ?_)
  refine AW.cond' (b := decide (q4 < 0)) rfl (fun b7 => ?_) (fun b7 => ?_)
  · replace h0 := Sh.ite_t b7 h0
    refine AW.seq fun K8 hK8 => ?_
    refine AW.regionO (by rfl) ?_
    refine ao_q (v := (.bool true)) go0 rfl (aq_as rfl) ?_
    refine AO.done (hK8 _ ?_)
    replace h0 := Sh.some_eq h0
    subst r
    exact AW.ret (Exists.intro _ (And.intro ((Wk.permk (L := [(2, (.bool true))]) (st' := []) (st1 := []) [] rfl .nil (by decide) rfl rfl .nil ⟨.rfl, trivial⟩).trans (Wk.to (L := [(2, (.bool true))]) ⟨.rfl, trivial⟩)) (And.intro rfl rfl)))
  · replace h0 := Sh.ite_f b7 h0
    refine AW.skip (hK5 _ ?_)
    refine AW.seq fun K9 hK9 => ?_
    refine AW.regionO (by rfl) ?_
    refine ao_q (v := (.agg [(.sl (List.map eCell p0.cells)), (.sl (List.map eI p0.pending))])) go0 rfl (aq_ldpa ti36 rfl rfl rfl (show 0 + 2 ≤ 2 by decide) rfl) ?_
    obtain ⟨q10, gq10, h0⟩ := Sh.bind_some h0
    refine ao_call (v' := (.agg [(.sl (List.map eCell q10.cells)), (.sl (List.map eI q10.pending))])) (st' := [⟨0, 36, 2, [[(.sl (List.map eCell p0.cells)), (.sl (List.map eI p0.pending))]]⟩]) go0 hb21 (laws_toLazy_ok gq10) rfl rfl trivial rfl rfl ?_
    obtain ⟨q11, gq11, h0⟩ := Sh.bind_some h0
    refine ao_call (v' := (.bool q11)) (st' := [⟨0, 36, 2, [[(.sl (List.map eCell p0.cells)), (.sl (List.map eI p0.pending))]]⟩]) go0 hb20 (spec_ValidLazy_ok gq11) rfl rfl trivial rfl rfl ?_
    refine ao_q (v := (.bool q11)) go0 rfl (aq_as rfl) ?_
    refine AO.done (hK9 _ ?_)
    refine AW.seq fun K12 hK12 => ?_
    refine AW.regionO (by rfl) ?_
    refine ao_q (v := (.agg [(.sl (List.map eCell p0.cells)), (.sl (List.map eI p0.pending))])) go0 rfl (aq_ldpa ti36 rfl rfl rfl (show 0 + 2 ≤ 2 by decide) rfl) ?_
    obtain ⟨q13, gq13, h0⟩ := Sh.bind_some h0
    refine ao_call (v' := (.agg [(.sl (List.map eCell q13.cells)), (.sl (List.map eI q13.pending))])) (st' := [⟨0, 36, 2, [[(.sl (List.map eCell p0.cells)), (.sl (List.map eI p0.pending))]]⟩]) go0 hb21 (laws_toLazy_ok gq13) rfl rfl trivial rfl rfl ?_
    refine ao_alloc (m := 1) (st' := [⟨0, 36, 2, [[(.sl (List.map eCell p0.cells)), (.sl (List.map eI p0.pending))]]⟩, ⟨0, 41, 2, [[.zc, .zc]]⟩]) go0 zi41 rfl rfl ?_
    refine ao_str (st' := [⟨0, 36, 2, [[(.sl (List.map eCell p0.cells)), (.sl (List.map eI p0.pending))]]⟩, ⟨0, 41, 2, [[(.sl (List.map eCell q13.cells)), (.sl (List.map eI q13.pending))]]⟩]) go0 ti41 rfl rfl rfl rfl rfl rfl (show 0 + 2 ≤ 2 by decide) rfl ?_
    refine AO.done (hK12 _ ?_)
    refine AW.seq fun K14 hK14 => ?_
    refine AW.regionO (by rfl) ?_
    refine ao_q (v := (.agg [(.sl (List.map eCell q13.cells)), (.sl (List.map eI q13.pending))])) go0 rfl (aq_ldpa ti41 rfl rfl rfl (show 0 + 2 ≤ 2 by decide) rfl) ?_
    obtain ⟨q15, gq15, h0⟩ := Sh.bind_some h0
    refine ao_call (v' := (.bool q15)) (st' := [⟨0, 36, 2, [[(.sl (List.map eCell p0.cells)), (.sl (List.map eI p0.pending))]]⟩, ⟨0, 41, 2, [[(.sl (List.map eCell q13.cells)), (.sl (List.map eI q13.pending))]]⟩]) go0 hb22 (impl_ValidLazy_ok gq15) rfl rfl trivial rfl rfl ?_
    refine ao_q (v := (.bool q15)) go0 rfl (aq_as rfl) ?_
    refine AO.done (hK14 _ ?_)
    refine AW.seq fun K16 hK16 => ?_
    refine AW.seq fun K17 hK17 => ?_
    refine AW.regionO (by rfl) ?_
    refine ao_q (v := (.bool q15)) go0 rfl (aq_mv rfl) ?_
    refine ao_q (v := (.bool q11)) go0 rfl (aq_mv rfl) ?_
    refine ao_q (v := (.bool (q15 != q11))) go0 rfl (aq_bne bo4 rfl rfl) ?_
    refine AO.done (hK17 _ ?_)
    refine AW.cond' (b := (q15 != q11)) rfl (fun b18 => ?_) (fun b18 => ?_)
    · replace h0 := Sh.ite_t b18 h0
      refine AW.seq fun K19 hK19 => ?_
      refine AW.regionO (by rfl) ?_
      refine ao_q (v := (.bool false)) go0 rfl (aq_as rfl) ?_
      refine AO.done (hK19 _ ?_)
      replace h0 := Sh.some_eq h0
      subst r
      exact AW.ret (Exists.intro _ (And.intro ((Wk.permk (L := [(2, (.bool false))]) (st' := []) (st1 := []) [] rfl .nil (by decide) rfl rfl .nil ⟨.rfl, trivial⟩).trans (Wk.to (L := [(2, (.bool false))]) ⟨.rfl, trivial⟩)) (And.intro rfl rfl)))
    · replace h0 := Sh.ite_f b18 h0
      refine AW.skip (hK16 _ ?_)
      refine AW.seq fun K20 hK20 => ?_
      refine AW.seq fun K21 hK21 => ?_
      refine AW.draw (by kernel_rfl) (by kernel_rfl) (by rfl) ?_
      refine d_q (v := (.agg [(.sl (List.map eCell q13.cells)), (.sl (List.map eI q13.pending))])) go0 rfl (aq_ldpa ti41 rfl rfl rfl (show 0 + 2 ≤ 2 by decide) rfl) ?_
      refine d_q (v := (.agg [(.sl (List.map eCell p0.cells)), (.sl (List.map eI p0.pending))])) go0 rfl (aq_ldpa ti36 rfl rfl rfl (show 0 + 2 ≤ 2 by decide) rfl) ?_
      obtain ⟨q22, gq22, h0⟩ := Sh.bind_some h0
      refine d_call (v := (.agg [(.sl (List.map eCell q22.cells)), (.sl (List.map eI q22.pending))])) go0 hb21 (laws_toLazy_ok gq22) rfl rfl rfl ?_
      obtain ⟨q23, gq23, h0⟩ := Sh.bind_some h0
      refine d_call (v := (.bool q23)) go0 hb23 (laws_eqLazy_ok gq23) rfl rfl rfl ?_
      refine d_q (v := (.bool (!q23))) go0 rfl (aq_not rfl) ?_
      refine d_done (hK21 _ ?_)
      refine AW.cond' (b := !q23) rfl (fun b24 => ?_) (fun b24 => ?_)
      · replace h0 := Sh.ite_t b24 h0
        have b25 : q23 = false := by simpa using b24
        refine AW.seq fun K26 hK26 => ?_
        refine AW.regionO (by rfl) ?_
        refine ao_q (v := (.bool false)) go0 rfl (aq_as rfl) ?_
        refine AO.done (hK26 _ ?_)
        replace h0 := Sh.some_eq h0
        subst r
        exact AW.ret (Exists.intro _ (And.intro ((Wk.permk (L := [(2, (.bool false))]) (st' := []) (st1 := []) [] rfl .nil (by decide) rfl rfl .nil ⟨.rfl, trivial⟩).trans (Wk.to (L := [(2, (.bool false))]) ⟨.rfl, trivial⟩)) (And.intro rfl rfl)))
      · replace h0 := Sh.ite_f b24 h0
        have b27 : q23 = true := by simpa using b24
        refine AW.skip (hK20 _ ?_)
        refine AW.seq fun K28 hK28 => ?_
        refine AW.regionO (by rfl) ?_
        refine ao_q (v := (.bool true)) go0 rfl (aq_as rfl) ?_
        refine AO.done (hK28 _ ?_)
        replace h0 := Sh.some_eq h0
        subst r
        exact AW.ret (Exists.intro _ (And.intro ((Wk.permk (L := [(2, (.bool true))]) (st' := []) (st1 := []) [] rfl .nil (by decide) rfl rfl .nil ⟨.rfl, trivial⟩).trans (Wk.to (L := [(2, (.bool true))]) ⟨.rfl, trivial⟩)) (And.intro rfl rfl)))

end Go.Proofs.Ytkmgpbngemdmoaa
