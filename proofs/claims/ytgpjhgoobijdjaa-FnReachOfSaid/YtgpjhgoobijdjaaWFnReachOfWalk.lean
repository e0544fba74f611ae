import Derived.Test.YtgpjhgoobijdjaaProg
import Derived.Test.YtgpjhgoobijdjaaHBDefs
import Derived.Test.YtgpjhgoobijdjaaWFnReachOfWalkP0
namespace Go.Proofs.Ytgpjhgoobijdjaa
open Go Go.Abs RC

theorem hb25 : hasBody Try.prog 25 = true := by kernel_rfl
theorem hb31 : hasBody Try.prog 31 = true := by kernel_rfl
theorem hb33 : hasBody Try.prog 33 = true := by kernel_rfl
theorem hb53 : hasBody Try.prog 53 = true := by kernel_rfl
theorem hb54 : hasBody Try.prog 54 = true := by kernel_rfl
theorem hb55 : hasBody Try.prog 55 = true := by kernel_rfl
theorem hb56 : hasBody Try.prog 56 = true := by kernel_rfl
theorem hb63 : hasBody Try.prog 63 = true := by kernel_rfl
theorem hb69 : hasBody Try.prog 69 = true := by kernel_rfl
theorem hb70 : hasBody Try.prog 70 = true := by kernel_rfl
theorem hb71 : hasBody Try.prog 71 = true := by kernel_rfl
theorem hb72 : hasBody Try.prog 72 = true := by kernel_rfl
theorem hb73 : hasBody Try.prog 73 = true := by kernel_rfl
theorem hb74 : hasBody Try.prog 74 = true := by kernel_rfl
theorem hb78 : hasBody Try.prog 78 = true := by kernel_rfl
theorem hb87 : hasBody Try.prog 87 = true := by kernel_rfl
theorem hb91 : hasBody Try.prog 91 = true := by kernel_rfl
theorem hb96 : hasBody Try.prog 96 = true := by kernel_rfl
theorem sl63 : isSliceT Try.prog 63 = true := by kernel_rfl

set_option maxRecDepth 100000 in
set_option maxHeartbeats 4000000 in
theorem spec_DrawReachOf_ok {N : Nat} {p0 : (List Int)} {r : (List Cell) × (List Int)} (h0 : spec_DrawReachOf N p0 = some r) : ACalls Try.prog 53 [(.sl (List.map eI_u8 p0))] [] (fun v st => v = (.tup [(.own 0 0 (List.length r.1)), (.own 1 0 (List.length r.2))]) ∧ st = [⟨0, 41, 3, List.map eCell r.1⟩, ⟨0, 3, 1, List.map eI r.2⟩]) := by
  unfold spec_DrawReachOf at h0
  refine ACalls.intro Try.func53 rfl (by show 1 ≤ 28; decide) ?_
  show AW _ 0 _ (aret _ 0 Try.f53 _) ⟨28, _, _⟩
  refine AW.weaken (Wk.to (L := [(0, (.sl (List.map eI_u8 p0)))]) ⟨.rfl, trivial⟩) ?_
  refine AW.seq fun K1 hK1 => ?_
  refine AW.regionO (by rfl) ?_
  refine ao_q (v := .zc) go0 rfl (aq_as rfl) ?_
  refine ao_q (v := .zc) go0 rfl (aq_as rfl) ?_
  refine AO.done (hK1 _ ?_)
  refine AW.seq fun K2 hK2 => ?_
  refine AW.regionO (by rfl) ?_
  refine ao_q (v := (.sl (List.map eI_u8 p0))) go0 rfl (aq_mv rfl) ?_
  obtain ⟨q3, gq3, h0⟩ := Sh.bind_some h0
  refine ao_call (v' := (.ptr 0 0 0 0)) (st' := [⟨0, 84, 2, [[(.sl (List.map eI_u8 q3.1)), (i64 q3.2)]]⟩]) go0 hb74 (spec_newReader_ok gq3) rfl rfl ⟨pure_raw rfl, trivial⟩ rfl rfl ?_
  refine ao_q (v := (.ptr 0 0 0 0)) go0 rfl (aq_as rfl) ?_
  refine AO.done (hK2 _ ?_)
  refine AW.seq fun K4 hK4 => ?_
  refine AW.regionO (by rfl) ?_
  refine ao_q (v := (.ptr 0 0 0 0)) go0 rfl (aq_mv rfl) ?_
  obtain ⟨q5, gq5, h0⟩ := Sh.bind_some h0
  refine ao_calls (rowsP := [⟨0, 84, 2, [[(.sl (List.map eI_u8 q3.1)), (i64 q3.2)]]⟩]) (rows0 := [⟨0, 84, 2, [[(.sl (List.map eI_u8 q3.1)), (i64 q3.2)]]⟩]) (rows1 := [⟨0, 84, 2, [[(.sl (List.map eI_u8 q3.1)), (i64 q5.2)]]⟩]) (rows2 := [⟨0, 41, 3, List.map eCell q5.1⟩]) (rows1' := [⟨0, 84, 2, [[(.sl (List.map eI_u8 q3.1)), (i64 q5.2)]]⟩]) (rows2' := [⟨0, 41, 3, List.map eCell q5.1⟩]) (st' := [⟨0, 84, 2, [[(.sl (List.map eI_u8 q3.1)), (i64 q5.2)]]⟩, ⟨0, 41, 3, List.map eCell q5.1⟩]) (v' := (.own 1 0 (List.length q5.1))) [0] go0 hb73 (spec_anyHeap_ok gq5) rfl (by decide) rfl rfl (.raw rfl rfl .nil) rfl rfl (.raw rfl rfl .nil) (.pure (pure_map fun _ => rfl) .nil) rfl rfl ?_
  refine ao_q (v := (.own 1 0 (List.length q5.1))) go0 rfl (aq_as rfl) ?_
  refine AO.done (hK4 _ ?_)
  refine AW.seq fun K6 hK6 => ?_
  refine AW.regionO (by rfl) ?_
  refine ao_bs (m := 2) (st' := [⟨0, 84, 2, [[(.sl (List.map eI_u8 q3.1)), (i64 q5.2)]]⟩, ⟨0, 41, 3, List.map eCell q5.1⟩, ⟨0, 3, 1, List.map eI ([] : List Int)⟩]) (l := ([] : List Int)) (enc := eI) go0 ei32 (by decide) rfl rfl rfl rfl rfl rfl ?_
  refine ao_q (v := (.own 2 0 (List.length ([] : List Int)))) go0 rfl (aq_as rfl) ?_
  refine AO.done (hK6 _ ?_)
  refine AW.seq fun K7 hK7 => ?_
  refine AW.seq fun K8 hK8 => ?_
  refine AW.regionO (by rfl) ?_
  refine ao_q (v := (.ptr 0 0 0 0)) go0 rfl (aq_mv rfl) ?_
  obtain ⟨q9, gq9, h0⟩ := Sh.bind_some h0
  refine ao_calls (rowsP := [⟨0, 84, 2, [[(.sl (List.map eI_u8 q3.1)), (i64 q5.2)]]⟩]) (rows0 := [⟨0, 84, 2, [[(.sl (List.map eI_u8 q3.1)), (i64 q5.2)]]⟩]) (rows1 := [⟨0, 84, 2, [[(.sl (List.map eI_u8 q3.1)), (i64 q9.2)]]⟩]) (rows2 := []) (rows1' := [⟨0, 84, 2, [[(.sl (List.map eI_u8 q3.1)), (i64 q9.2)]]⟩]) (rows2' := []) (st' := [⟨0, 84, 2, [[(.sl (List.map eI_u8 q3.1)), (i64 q9.2)]]⟩, ⟨0, 41, 3, List.map eCell q5.1⟩, ⟨0, 3, 1, List.map eI ([] : List Int)⟩]) (v' := (i64 q9.1)) [0] go0 hb81 (spec_reader_pick_ok gq9) rfl (by decide) rfl rfl (.raw rfl rfl .nil) rfl rfl (.raw rfl rfl .nil) .nil rfl rfl ?_
  refine ao_q (v := (i64 q9.1)) go0 rfl (aq_as rfl) ?_
  refine AO.done (hK8 _ ?_)
  obtain ⟨o14, h1, h0⟩ := Sh.bind_some h0
  have M14 : ∀ (l13 : (List Int)), o14 = l13 → ∀ s, Wk 0 s ⟨28, envL [(5, (.own 0 0 (List.length q5.1))), (6, (.own 1 0 (List.length l13)))], [⟨0, 41, 3, List.map eCell q5.1⟩, ⟨0, 3, 1, List.map eI l13⟩]⟩ → K7 s := by
    intro l13 hq s hw
    subst o14
    try dsimp only at h0
    refine hK7 _ (AW.weaken hw ?_)
    refine AW.seq fun K15 hK15 => ?_
    refine AW.regionO (by rfl) ?_
    refine ao_q (v := (.own 0 0 (List.length q5.1))) go0 rfl (aq_mv rfl) ?_
    refine ao_q (v := (.own 1 0 (List.length l13))) go0 rfl (aq_mv rfl) ?_
    refine ao_q (v := (.own 0 0 (List.length q5.1))) go0 rfl (aq_as rfl) ?_
    refine ao_q (v := (.own 1 0 (List.length l13))) go0 rfl (aq_as rfl) ?_
    refine AO.done (hK15 _ ?_)
    replace h0 := Sh.some_eq h0
    subst r
    exact AW.ret (Exists.intro _ (And.intro (Wk.to (L := [(2, (.own 0 0 (List.length q5.1))), (3, (.own 1 0 (List.length l13)))]) ⟨.rfl, .rfl, trivial⟩) (And.intro rfl rfl)))
  refine AW.block (AW.loopF (σ := Int × Int × (List Int)) (fun n v => spec_DrawReachOf_L1 q3 q5 n v.1 v.2.1 v.2.2 = some o14) (fun (n10, f11, l12) => ⟨28, envL [(4, (.ptr 0 0 0 0)), (5, (.own 1 0 (List.length q5.1))), (6, (.own 2 0 (List.length l12))), (7, (i64 n10))], [⟨0, 84, 2, [[(.sl (List.map eI_u8 q3.1)), (i64 f11)]]⟩, ⟨0, 41, 3, List.map eCell q5.1⟩, ⟨0, 3, 1, List.map eI l12⟩]⟩) N (q9.1, q9.2, []) h1 (Wk.to (L := [(4, (.ptr 0 0 0 0)), (5, (.own 1 0 (List.length q5.1))), (6, (.own 2 0 (List.length ([] : List Int)))), (7, (i64 q9.1))]) ⟨.rfl, .rfl, .rfl, .rfl, trivial⟩) (fun _ hv => by rw [spec_DrawReachOf_L1] at hv; cases hv) ?_)
  rintro n ⟨n10, f11, l12⟩ h1
  try dsimp only at h1 ⊢
  rw [spec_DrawReachOf_L1] at h1
  refine AW.seq fun K16 hK16 => ?_
  refine AW.seq fun K17 hK17 => ?_
  refine AW.regionO (by rfl) ?_
  refine ao_q (v := (i64 n10)) go0 rfl (aq_mv rfl) ?_
  refine ao_q (v := (.bool (decide (0 < n10)))) go0 rfl (aq_gt rfl rfl) ?_
  refine AO.done (hK17 _ ?_)
  refine AW.cond' (b := decide (0 < n10)) rfl (fun b18 => ?_) (fun b18 => ?_)
  · replace h1 := Sh.ite_t b18 h1
    refine AW.skip (hK16 _ ?_)
    refine AW.seq fun K19 hK19 => ?_
    refine AW.block ?_
    refine AW.regionO (by rfl) ?_
    refine ao_q (v := (.own 2 0 (List.length l12))) go0 rfl (aq_mv rfl) ?_
    refine ao_q (v := (.ptr 0 0 0 0)) go0 rfl (aq_mv rfl) ?_
    refine ao_q (v := (.own 1 0 (List.length q5.1))) go0 rfl (aq_mv rfl) ?_
    refine ao_q (v := (i64 (Sh.len q5.1))) go0 rfl (aq_leno sl25 rfl rfl rfl) ?_
    obtain ⟨q20, gq20, h1⟩ := Sh.bind_some h1
    refine ao_calls (rowsP := [⟨0, 84, 2, [[(.sl (List.map eI_u8 q3.1)), (i64 f11)]]⟩]) (rows0 := [⟨0, 84, 2, [[(.sl (List.map eI_u8 q3.1)), (i64 f11)]]⟩]) (rows1 := [⟨0, 84, 2, [[(.sl (List.map eI_u8 q3.1)), (i64 q20.2)]]⟩]) (rows2 := []) (rows1' := [⟨0, 84, 2, [[(.sl (List.map eI_u8 q3.1)), (i64 q20.2)]]⟩]) (rows2' := []) (st' := [⟨0, 84, 2, [[(.sl (List.map eI_u8 q3.1)), (i64 q20.2)]]⟩, ⟨0, 41, 3, List.map eCell q5.1⟩, ⟨0, 3, 1, List.map eI l12⟩]) (v' := (i64 q20.1)) [0] go0 hb87 (spec_wordFor_ok gq20) rfl (by decide) rfl rfl (.raw rfl rfl .nil) rfl rfl (.raw rfl rfl .nil) .nil rfl rfl ?_
    refine ao_bs (m := 3) (st' := [⟨0, 84, 2, [[(.sl (List.map eI_u8 q3.1)), (i64 q20.2)]]⟩, ⟨0, 41, 3, List.map eCell q5.1⟩, ⟨0, 3, 1, List.map eI l12⟩, ⟨0, 3, 1, List.map eI [q20.1]⟩]) (l := [q20.1]) (enc := eI) go0 ei32 (by decide) rfl rfl rfl rfl rfl rfl ?_
    obtain ⟨l21, gl21, h1⟩ := Sh.bind_some h1
    refine ao_apo (st' := [⟨0, 84, 2, [[(.sl (List.map eI_u8 q3.1)), (i64 q20.2)]]⟩, ⟨0, 41, 3, List.map eCell q5.1⟩, ⟨1, 3, 1, List.map eI l21⟩, ⟨0, 3, 1, List.map eI [q20.1]⟩]) (l2 := [q20.1]) go0 ei32 rfl rfl rfl rfl (el_o rfl rfl) (fun _ => rfl) gl21 rfl ?_
    refine ao_q (v := (.own 2 1 (List.length l21))) go0 rfl (aq_as rfl) ?_
    refine AO.done (hK19 _ ?_)
    refine AW.regionO (by rfl) ?_
    refine ao_q (v := (i64 n10)) go0 rfl (aq_mv rfl) ?_
    refine ao_q (v := (i64 (Sh.w (n10 - 1)))) go0 rfl (aq_sub rfl rfl) ?_
    refine ao_q (v := (i64 (Sh.w (n10 - 1)))) go0 rfl (aq_as rfl) ?_
    exact AO.done (Exists.intro (Sh.w (n10 - 1), q20.2, l21) (And.intro h1 (by refine Wk.trans (Wk.rg (L := [(4, (.ptr 0 0 0 0)), (5, (.own 1 0 (List.length q5.1))), (6, (.own 2 0 (List.length l21))), (7, (i64 (Sh.w (n10 - 1))))]) (st' := [⟨0, 84, 2, [[(.sl (List.map eI_u8 q3.1)), (i64 q20.2)]]⟩, ⟨0, 41, 3, List.map eCell q5.1⟩, ⟨0, 3, 1, List.map eI l21⟩, ⟨0, 3, 1, List.map eI [q20.1]⟩]) (.raw rfl rfl (.pure (pure_map fun _ => rfl) (.pure (pure_map fun _ => rfl) (.pure (pure_map fun _ => rfl) .nil)))) ⟨.rfl, .rfl, .rfl, .rfl, trivial⟩) ?_; refine Wk.trans (Wk.permk (L := [(4, (.ptr 0 0 0 0)), (5, (.own 1 0 (List.length q5.1))), (6, (.own 2 0 (List.length l21))), (7, (i64 (Sh.w (n10 - 1))))]) (st' := [⟨0, 84, 2, [[(.sl (List.map eI_u8 q3.1)), (i64 q20.2)]]⟩, ⟨0, 41, 3, List.map eCell q5.1⟩, ⟨0, 3, 1, List.map eI l21⟩]) (st1 := [⟨0, 84, 2, [[(.sl (List.map eI_u8 q3.1)), (i64 q20.2)]]⟩, ⟨0, 41, 3, List.map eCell q5.1⟩, ⟨0, 3, 1, List.map eI l21⟩]) [0, 1, 2] rfl .nil (by decide) rfl rfl (.raw rfl rfl (.pure (pure_map fun _ => rfl) (.pure (pure_map fun _ => rfl) .nil))) ⟨.rfl, .rfl, .rfl, .rfl, trivial⟩) ?_; exact Wk.to (L := [(4, (.ptr 0 0 0 0)), (5, (.own 1 0 (List.length q5.1))), (6, (.own 2 0 (List.length l21))), (7, (i64 (Sh.w (n10 - 1))))]) ⟨.rfl, .rfl, .rfl, .rfl, trivial⟩)))
  · replace h1 := Sh.ite_f b18 h1
    exact AW.exit (M14 l12 (Sh.some_eq h1).symm _ (by refine Wk.trans (Wk.permk (L := [(5, (.own 0 0 (List.length q5.1))), (6, (.own 1 0 (List.length l12)))]) (st' := [⟨0, 41, 3, List.map eCell q5.1⟩, ⟨0, 3, 1, List.map eI l12⟩]) (st1 := [⟨0, 41, 3, List.map eCell q5.1⟩, ⟨0, 3, 1, List.map eI l12⟩]) [1, 2] rfl .nil (by decide) rfl rfl (.pure (pure_map fun _ => rfl) (.pure (pure_map fun _ => rfl) .nil)) ⟨.rfl, .rfl, trivial⟩) ?_; exact Wk.to (L := [(5, (.own 0 0 (List.length q5.1))), (6, (.own 1 0 (List.length l12)))]) ⟨.rfl, .rfl, trivial⟩))

set_option maxRecDepth 100000 in
set_option maxHeartbeats 4000000 in
theorem impl_liveAt_ok {p0 : (List Cell)} {p1 : Int} {r : Int × Bool} (h0 : impl_liveAt p0 p1 = some r) : ACalls Try.prog 71 [(.sl (List.map eCell p0)), (i64 p1)] [] (fun v st => v = (.tup [(i64 r.1), (.bool r.2)]) ∧ st = []) := by
  unfold impl_liveAt at h0
  refine ACalls.intro Try.func71 rfl (by show 2 ≤ 26; decide) ?_
  show AW _ 0 _ (aret _ 0 Try.f71 _) ⟨26, _, _⟩
  refine AW.weaken (Wk.to (L := [(0, (.sl (List.map eCell p0))), (1, (i64 p1))]) ⟨.rfl, .rfl, trivial⟩) ?_
  refine AW.seq fun K1 hK1 => ?_
  refine AW.regionO (by rfl) ?_
  refine ao_q (v := (i64 0)) go0 rfl (aq_as rfl) ?_
  refine ao_q (v := (.bool false)) go0 rfl (aq_as rfl) ?_
  refine AO.done (hK1 _ ?_)
  refine AW.seq fun K2 hK2 => ?_
  refine AW.regionO (by rfl) ?_
  refine ao_q (v := (i64 p1)) go0 rfl (aq_mv rfl) ?_
  refine ao_q (v := (i64 (Sh.w (p1 - 1000)))) go0 rfl (aq_sub rfl rfl) ?_
  refine ao_q (v := (i64 (Sh.w (p1 - 1000)))) go0 rfl (aq_as rfl) ?_
  refine AO.done (hK2 _ ?_)
  refine AW.seq fun K3 hK3 => ?_
  obtain ⟨o5, h1, h0⟩ := Sh.bind_some h0
  have M5 : ∀ (t4 : Bool), o5 = t4 → ∀ s, Wk 0 s ⟨26, envL [(4, (i64 (Sh.w (p1 - 1000)))), (5, (.bool t4))], []⟩ → K3 s := by
    intro t4 hq s hw
    subst o5
    try dsimp only at h0
    refine hK3 _ (AW.weaken hw ?_)
    replace h0 := Sh.some_eq h0
    subst r
    exact AW.ret (Exists.intro _ (And.intro (Wk.to (L := [(4, (i64 (Sh.w (p1 - 1000)))), (5, (.bool t4))]) ⟨.rfl, .rfl, trivial⟩) (And.intro rfl rfl)))
  refine AW.draw (by kernel_rfl) (by kernel_rfl) (by rfl) ?_
  refine d_q (v := (i64 (Sh.w (p1 - 1000)))) go0 rfl (aq_mv rfl) ?_
  refine d_q (v := (i64 p1)) go0 rfl (aq_mv rfl) ?_
  refine d_q (v := (.bool (decide (1000 ≤ p1)))) go0 rfl (aq_ge rfl rfl) ?_
  refine d_q (v := (.bool (decide (1000 ≤ p1)))) go0 rfl (aq_mv rfl) ?_
  rcases Sh.ite_some h1 with ⟨b6, h1⟩ | ⟨b6, h1⟩
  · skip
    refine d_q (v := (i64 (Sh.w (p1 - 1000)))) (go1 rfl rfl b6) rfl (aq_mv rfl) ?_
    refine d_q (v := (.sl (List.map eCell p0))) (go1 rfl rfl b6) rfl (aq_mv rfl) ?_
    refine d_q (v := (i64 (Sh.len p0))) (go1 rfl rfl b6) rfl (aq_lens sl25 rfl) ?_
    refine d_q (v := (.bool (decide ((Sh.w (p1 - 1000)) < (Sh.len p0))))) (go1 rfl rfl b6) rfl (aq_lt rfl rfl) ?_
    refine d_q (v := (.bool (decide ((Sh.w (p1 - 1000)) < (Sh.len p0))))) go0 rfl (aq_pkt rfl b6 rfl) ?_
    refine d_q (v := (.bool (decide ((Sh.w (p1 - 1000)) < (Sh.len p0))))) go0 rfl (aq_mv rfl) ?_
    rcases Sh.ite_some h1 with ⟨b7, h1⟩ | ⟨b7, h1⟩
    · skip
      refine d_q (v := (.sl (List.map eCell p0))) (go1 rfl rfl b7) rfl (aq_mv rfl) ?_
      refine d_q (v := (i64 (Sh.w (p1 - 1000)))) (go1 rfl rfl b7) rfl (aq_mv rfl) ?_
      obtain ⟨c8, gc8, h1⟩ := Sh.bind_some h1
      refine d_q (v := (.iptr (eCell c8) 0)) (go1 rfl rfl b7) rfl (aq_ixs ei25 rfl rfl gc8 rfl) ?_
      refine d_q (v := (.iptr (eCell c8) 0)) (go1 rfl rfl b7) rfl (aq_fai fi41_0 rfl rfl) ?_
      refine d_q (v := (i64 c8.count)) (go1 rfl rfl b7) rfl (aq_ldi ti3 rfl rfl) ?_
      refine d_q (v := (.bool (decide (0 < c8.count)))) (go1 rfl rfl b7) rfl (aq_gt rfl rfl) ?_
      refine d_q (v := (.bool (decide (0 < c8.count)))) go0 rfl (aq_pkt rfl b7 rfl) ?_
      refine d_q (v := (i64 (Sh.w (p1 - 1000)))) go0 rfl (aq_as rfl) ?_
      refine d_q (v := (.bool (decide (0 < c8.count)))) go0 rfl (aq_as rfl) ?_
      exact d_done (M5 (decide (0 < c8.count)) (Sh.some_eq h1).symm _ (Wk.to (L := [(4, (i64 (Sh.w (p1 - 1000)))), (5, (.bool (decide (0 < c8.count))))]) ⟨.rfl, .rfl, trivial⟩))
    · skip
      refine d_skip rfl rfl b7 ?_
      refine d_skip rfl rfl b7 ?_
      refine d_skip rfl rfl b7 ?_
      refine d_skip rfl rfl b7 ?_
      refine d_skip rfl rfl b7 ?_
      refine d_skip rfl rfl b7 ?_
      refine d_q (v := (.bool false)) go0 rfl (aq_pkf rfl b7 rfl) ?_
      refine d_q (v := (i64 (Sh.w (p1 - 1000)))) go0 rfl (aq_as rfl) ?_
      refine d_q (v := (.bool false)) go0 rfl (aq_as rfl) ?_
      exact d_done (M5 false (Sh.some_eq h1).symm _ (Wk.to (L := [(4, (i64 (Sh.w (p1 - 1000)))), (5, (.bool false))]) ⟨.rfl, .rfl, trivial⟩))
  · skip
    refine d_skip rfl rfl b6 ?_
    refine d_skip rfl rfl b6 ?_
    refine d_skip rfl rfl b6 ?_
    refine d_skip rfl rfl b6 ?_
    refine d_q (v := (.bool false)) go0 rfl (aq_pkf rfl b6 rfl) ?_
    refine d_q (v := (.bool false)) go0 rfl (aq_mv rfl) ?_
    refine d_skip rfl rfl rfl ?_
    refine d_skip rfl rfl rfl ?_
    refine d_skip rfl rfl rfl ?_
    refine d_skip rfl rfl rfl ?_
    refine d_skip rfl rfl rfl ?_
    refine d_skip rfl rfl rfl ?_
    refine d_q (v := (.bool false)) go0 rfl (aq_pkf rfl rfl rfl) ?_
    refine d_q (v := (i64 (Sh.w (p1 - 1000)))) go0 rfl (aq_as rfl) ?_
    refine d_q (v := (.bool false)) go0 rfl (aq_as rfl) ?_
    exact d_done (M5 false (Sh.some_eq h1).symm _ (Wk.to (L := [(4, (i64 (Sh.w (p1 - 1000)))), (5, (.bool false))]) ⟨.rfl, .rfl, trivial⟩))

set_option maxRecDepth 100000 in
set_option maxHeartbeats 4000000 in
theorem impl_isInt_ok {p0 : Int} {r : Bool} (h0 : impl_isInt p0 = some r) : ACalls Try.prog 96 [(i64 p0)] [] (fun v st => v = (.bool r) ∧ st = []) := by
  unfold impl_isInt at h0
  refine ACalls.intro Try.func96 rfl (by show 1 ≤ 9; decide) ?_
  show AW _ 0 _ (aret _ 0 Try.f96 _) ⟨9, _, _⟩
  refine AW.weaken (Wk.to (L := [(0, (i64 p0))]) ⟨.rfl, trivial⟩) ?_
  refine AW.seq fun K1 hK1 => ?_
  refine AW.regionO (by rfl) ?_
  refine ao_q (v := (.bool false)) go0 rfl (aq_as rfl) ?_
  refine AO.done (hK1 _ ?_)
  refine AW.seq fun K2 hK2 => ?_
  obtain ⟨o4, h1, h0⟩ := Sh.bind_some h0
  have M4 : ∀ (t3 : Bool), o4 = t3 → ∀ s, Wk 0 s ⟨9, envL [(2, (.bool t3))], []⟩ → K2 s := by
    intro t3 hq s hw
    subst o4
    try dsimp only at h0
    refine hK2 _ (AW.weaken hw ?_)
    replace h0 := Sh.some_eq h0
    subst r
    exact AW.ret (Exists.intro _ (And.intro (Wk.to (L := [(2, (.bool t3))]) ⟨.rfl, trivial⟩) (And.intro rfl rfl)))
  refine AW.regionO (by rfl) ?_
  refine ao_q (v := (i64 p0)) go0 rfl (aq_mv rfl) ?_
  refine ao_q (v := (.bool (decide ((-999) ≤ p0)))) go0 rfl (aq_ge rfl rfl) ?_
  refine ao_q (v := (.bool (decide ((-999) ≤ p0)))) go0 rfl (aq_mv rfl) ?_
  rcases Sh.ite_some h1 with ⟨b5, h1⟩ | ⟨b5, h1⟩
  · skip
    refine ao_q (v := (i64 p0)) (go1 rfl rfl b5) rfl (aq_mv rfl) ?_
    refine ao_q (v := (.bool (decide (p0 ≤ 999)))) (go1 rfl rfl b5) rfl (aq_le rfl rfl) ?_
    refine ao_q (v := (.bool (decide (p0 ≤ 999)))) go0 rfl (aq_pkt rfl b5 rfl) ?_
    refine ao_q (v := (.bool (decide (p0 ≤ 999)))) go0 rfl (aq_as rfl) ?_
    exact AO.done (M4 (decide (p0 ≤ 999)) (Sh.some_eq h1).symm _ (Wk.to (L := [(2, (.bool (decide (p0 ≤ 999))))]) ⟨.rfl, trivial⟩))
  · skip
    refine ao_skip rfl rfl b5 ?_
    refine ao_skip rfl rfl b5 ?_
    refine ao_q (v := (.bool false)) go0 rfl (aq_pkf rfl b5 rfl) ?_
    refine ao_q (v := (.bool false)) go0 rfl (aq_as rfl) ?_
    exact AO.done (M4 false (Sh.some_eq h1).symm _ (Wk.to (L := [(2, (.bool false))]) ⟨.rfl, trivial⟩))

set_option maxRecDepth 100000 in
set_option maxHeartbeats 4000000 in
theorem impl_wordValid_ok {p0 : (List Cell)} {p1 : Int} {r : Bool} (h0 : impl_wordValid p0 p1 = some r) : ACalls Try.prog 78 [(.sl (List.map eCell p0)), (i64 p1)] [] (fun v st => v = (.bool r) ∧ st = []) := by
  unfold impl_wordValid at h0
  refine ACalls.intro Try.func78 rfl (by show 2 ≤ 18; decide) ?_
  show AW _ 0 _ (aret _ 0 Try.f78 _) ⟨18, _, _⟩
  refine AW.weaken (Wk.to (L := [(0, (.sl (List.map eCell p0))), (1, (i64 p1))]) ⟨.rfl, .rfl, trivial⟩) ?_
  refine AW.seq fun K1 hK1 => ?_
  refine AW.regionO (by rfl) ?_
  refine ao_q (v := (.bool false)) go0 rfl (aq_as rfl) ?_
  refine AO.done (hK1 _ ?_)
  refine AW.seq fun K2 hK2 => ?_
  refine AW.regionO (by rfl) ?_
  refine ao_q (v := (.sl (List.map eCell p0))) go0 rfl (aq_mv rfl) ?_
  refine ao_q (v := (i64 p1)) go0 rfl (aq_mv rfl) ?_
  obtain ⟨q3, gq3, h0⟩ := Sh.bind_some h0
  refine ao_call (v' := (.tup [(i64 q3.1), (.bool q3.2)])) (st' := []) go0 hb71 (impl_liveAt_ok gq3) rfl rfl trivial rfl rfl ?_
  refine ao_q (v := (.tup [(i64 q3.1), (.bool q3.2)])) go0 rfl (aq_mv rfl) ?_
  refine ao_q (v := (i64 q3.1)) go0 rfl (aq_ex rfl rfl) ?_
  refine ao_q (v := (.bool q3.2)) go0 rfl (aq_ex rfl rfl) ?_
  refine ao_q (v := (i64 q3.1)) go0 rfl (aq_as rfl) ?_
  refine ao_q (v := (.bool q3.2)) go0 rfl (aq_as rfl) ?_
  refine AO.done (hK2 _ ?_)
  refine AW.seq fun K4 hK4 => ?_
  obtain ⟨o6, h1, h0⟩ := Sh.bind_some h0
  have M6 : ∀ (t5 : Bool), o6 = t5 → ∀ s, Wk 0 s ⟨18, envL [(4, (.bool t5))], []⟩ → K4 s := by
    intro t5 hq s hw
    subst o6
    try dsimp only at h0
    refine hK4 _ (AW.weaken hw ?_)
    replace h0 := Sh.some_eq h0
    subst r
    exact AW.ret (Exists.intro _ (And.intro (Wk.to (L := [(4, (.bool t5))]) ⟨.rfl, trivial⟩) (And.intro rfl rfl)))
  refine AW.regionO (by rfl) ?_
  refine ao_q (v := (.bool q3.2)) go0 rfl (aq_mv rfl) ?_
  refine ao_q (v := (.bool q3.2)) go0 rfl (aq_mv rfl) ?_
  rcases Sh.ite_some h1 with ⟨b7, h1⟩ | ⟨b7, h1⟩
  · skip
    refine ao_skip rfl rfl b7 ?_
    refine ao_skip rfl rfl b7 ?_
    refine ao_q (v := (.bool true)) go0 rfl (aq_pkt rfl b7 rfl) ?_
    refine ao_q (v := (.bool true)) go0 rfl (aq_as rfl) ?_
    exact AO.done (M6 true (Sh.some_eq h1).symm _ (Wk.to (L := [(4, (.bool true))]) ⟨.rfl, trivial⟩))
  · skip
    refine ao_q (v := (i64 p1)) (go1 rfl rfl b7) rfl (aq_mv rfl) ?_
    obtain ⟨q8, gq8, h1⟩ := Sh.bind_some h1
    refine ao_call (v' := (.bool q8)) (st' := []) (go1 rfl rfl b7) hb96 (impl_isInt_ok gq8) rfl rfl trivial rfl rfl ?_
    refine ao_q (v := (.bool q8)) go0 rfl (aq_pkf rfl b7 rfl) ?_
    refine ao_q (v := (.bool q8)) go0 rfl (aq_as rfl) ?_
    exact AO.done (M6 q8 (Sh.some_eq h1).symm _ (Wk.to (L := [(4, (.bool q8))]) ⟨.rfl, trivial⟩))

set_option maxRecDepth 100000 in
set_option maxHeartbeats 4000000 in
theorem impl_cellValid_ok {N : Nat} {p0 : (List Cell)} {p1 : Cell} {r : Bool} (h0 : impl_cellValid N p0 p1 = some r) : ACalls Try.prog 91 [(.sl (List.map eCell p0)), (.agg [(i64 p1.count), (i64 p1.tag), (.sl (List.map eI p1.fields))])] [] (fun v st => v = (.bool r) ∧ st = []) := by
  unfold impl_cellValid at h0
  refine ACalls.intro Try.func91 rfl (by show 2 ≤ 66; decide) ?_
  show AW _ 0 _ (aret _ 0 Try.f91 _) ⟨66, _, _⟩
  refine AW.weaken (Wk.to (L := [(0, (.sl (List.map eCell p0))), (1, (.agg [(i64 p1.count), (i64 p1.tag), (.sl (List.map eI p1.fields))]))]) ⟨.rfl, .rfl, trivial⟩) ?_
  refine AW.seq fun K1 hK1 => ?_
  refine AW.regionO (by rfl) ?_
  refine ao_box (m := 0) (st' := [⟨0, 41, 3, [[(i64 p1.count), (i64 p1.tag), (.sl (List.map eI p1.fields))]]⟩]) go0 rfl rfl rfl rfl rfl ?_
  refine ao_q (v := (.bool false)) go0 rfl (aq_as rfl) ?_
  refine AO.done (hK1 _ ?_)
  refine AW.seq fun K2 hK2 => ?_
  refine AW.seq fun K3 hK3 => ?_
  obtain ⟨o5, h1, h0⟩ := Sh.bind_some h0
  have M5 : ∀ (t4 : Bool), o5 = t4 → ∀ s, Wk 0 s ⟨66, envL [(0, (.sl (List.map eCell p0))), (3, (.ptr 0 0 0 0)), (25, (.bool t4))], [⟨0, 41, 3, [[(i64 p1.count), (i64 p1.tag), (.sl (List.map eI p1.fields))]]⟩]⟩ → K3 s := by
    intro t4 hq s hw
    subst o5
    try dsimp only at h0
    refine hK3 _ (AW.weaken hw ?_)
    refine AW.cond' (b := t4) rfl (fun b6 => ?_) (fun b6 => ?_)
    · replace h0 := Sh.ite_t b6 h0
      refine AW.seq fun K7 hK7 => ?_
      refine AW.regionO (by rfl) ?_
      refine ao_q (v := (.bool false)) go0 rfl (aq_as rfl) ?_
      refine AO.done (hK7 _ ?_)
      replace h0 := Sh.some_eq h0
      subst r
      exact AW.ret (Exists.intro _ (And.intro ((Wk.permk (L := [(4, (.bool false))]) (st' := []) (st1 := []) [] rfl .nil (by decide) rfl rfl .nil ⟨.rfl, trivial⟩).trans (Wk.to (L := [(4, (.bool false))]) ⟨.rfl, trivial⟩)) (And.intro rfl rfl)))
    · replace h0 := Sh.ite_f b6 h0
      refine AW.skip (hK2 _ ?_)
      refine AW.seq fun K8 hK8 => ?_
      refine AW.seq fun K9 hK9 => ?_
      obtain ⟨o11, h1, h0⟩ := Sh.bind_some h0
      have M11 : ∀ (t10 : Bool), o11 = t10 → ∀ s, Wk 0 s ⟨66, envL [(0, (.sl (List.map eCell p0))), (3, (.ptr 0 0 0 0)), (44, (.bool t10))], [⟨0, 41, 3, [[(i64 p1.count), (i64 p1.tag), (.sl (List.map eI p1.fields))]]⟩]⟩ → K9 s := by
        intro t10 hq s hw
        subst o11
        try dsimp only at h0
        refine hK9 _ (AW.weaken hw ?_)
        refine AW.cond' (b := t10) rfl (fun b12 => ?_) (fun b12 => ?_)
        · replace h0 := Sh.ite_t b12 h0
          refine AW.seq fun K13 hK13 => ?_
          refine AW.regionO (by rfl) ?_
          refine ao_q (v := (.bool false)) go0 rfl (aq_as rfl) ?_
          refine AO.done (hK13 _ ?_)
          replace h0 := Sh.some_eq h0
          subst r
          exact AW.ret (Exists.intro _ (And.intro ((Wk.permk (L := [(4, (.bool false))]) (st' := []) (st1 := []) [] rfl .nil (by decide) rfl rfl .nil ⟨.rfl, trivial⟩).trans (Wk.to (L := [(4, (.bool false))]) ⟨.rfl, trivial⟩)) (And.intro rfl rfl)))
        · replace h0 := Sh.ite_f b12 h0
          refine AW.skip (hK8 _ ?_)
          refine AW.seq fun K14 hK14 => ?_
          refine AW.seq fun K15 hK15 => ?_
          refine AW.regionO (by rfl) ?_
          refine ao_q (v := (.ptr 0 0 0 2)) go0 rfl (aq_fap fi41_2 rfl rfl (show 0 + 2 ≤ 3 by decide) rfl) ?_
          refine ao_q (v := (.sl (List.map eI p1.fields))) go0 rfl (aq_ldp ti32 rfl rfl rfl rfl) ?_
          refine ao_q (v := (i64 (Sh.len p1.fields))) go0 rfl (aq_lens sl32 rfl) ?_
          refine ao_q (v := (i64 0)) go0 rfl (aq_mv rfl) ?_
          refine AO.done (hK15 _ ?_)
          obtain ⟨o17, h1, h0⟩ := Sh.cont_some h0
          have M17 : ∀ (_ : Unit), o17 = Sum.inr () → ∀ s, Wk 0 s ⟨66, envL [], []⟩ → K14 s := by
            intro _ hq s hw
            subst o17
            try dsimp only at h0
            refine hK14 _ (AW.weaken hw ?_)
            refine AW.seq fun K18 hK18 => ?_
            refine AW.regionO (by rfl) ?_
            refine ao_q (v := (.bool true)) go0 rfl (aq_as rfl) ?_
            refine AO.done (hK18 _ ?_)
            replace h0 := Sh.some_eq h0
            subst r
            exact AW.ret (Exists.intro _ (And.intro (Wk.to (L := [(4, (.bool true))]) ⟨.rfl, trivial⟩) (And.intro rfl rfl)))
          refine AW.block (AW.loopF (σ := Int) (fun n v => impl_cellValid_L1 p0 p1 n v = some o17) (fun t16 => ⟨66, envL [(0, (.sl (List.map eCell p0))), (3, (.ptr 0 0 0 0)), (46, (.sl (List.map eI p1.fields))), (47, (i64 (Sh.len p1.fields))), (48, (i64 t16))], [⟨0, 41, 3, [[(i64 p1.count), (i64 p1.tag), (.sl (List.map eI p1.fields))]]⟩]⟩) N 0 h1 (Wk.to (L := [(0, (.sl (List.map eCell p0))), (3, (.ptr 0 0 0 0)), (46, (.sl (List.map eI p1.fields))), (47, (i64 (Sh.len p1.fields))), (48, (i64 0))]) ⟨.rfl, .rfl, .rfl, .rfl, .rfl, trivial⟩) (fun _ hv => by rw [impl_cellValid_L1] at hv; cases hv) ?_)
          rintro n t16 h1
          try dsimp only at h1 ⊢
          rw [impl_cellValid_L1] at h1
          refine AW.seq fun K19 hK19 => ?_
          refine AW.regionO (by rfl) ?_
          refine ao_q (v := (.bool (decide (t16 < (Sh.len p1.fields))))) go0 rfl (aq_lt rfl rfl) ?_
          refine AO.done (hK19 _ ?_)
          refine AW.seq fun K20 hK20 => ?_
          refine AW.cond' (b := decide (t16 < (Sh.len p1.fields))) rfl (fun b21 => ?_) (fun b21 => ?_)
          · replace h1 := Sh.ite_t b21 h1
            refine AW.skip (hK20 _ ?_)
            refine AW.seq fun K22 hK22 => ?_
            refine AW.block ?_
            refine AW.seq fun K23 hK23 => ?_
            refine AW.regionO (by rfl) ?_
            obtain ⟨c24, gc24, h1⟩ := Sh.bind_some h1
            refine ao_q (v := (.iptr (eI c24) 0)) go0 rfl (aq_ixs ei32 rfl rfl gc24 rfl) ?_
            refine ao_q (v := (i64 c24)) go0 rfl (aq_ldi ti3 rfl rfl) ?_
            refine ao_q (v := (i64 c24)) go0 rfl (aq_as rfl) ?_
            refine AO.done (hK23 _ ?_)
            refine AW.seq fun K25 hK25 => ?_
            obtain ⟨o27, h2, h1⟩ := Sh.bind_some h1
            have M27 : ∀ (t26 : Bool), o27 = t26 → ∀ s, Wk 0 s ⟨66, envL [(0, (.sl (List.map eCell p0))), (3, (.ptr 0 0 0 0)), (46, (.sl (List.map eI p1.fields))), (47, (i64 (Sh.len p1.fields))), (48, (i64 t16)), (64, (.bool t26))], [⟨0, 41, 3, [[(i64 p1.count), (i64 p1.tag), (.sl (List.map eI p1.fields))]]⟩]⟩ → K25 s := by
              intro t26 hq s hw
              subst o27
              try dsimp only at h1
              refine hK25 _ (AW.weaken hw ?_)
              refine AW.cond' (b := t26) rfl (fun b28 => ?_) (fun b28 => ?_)
              · replace h1 := Sh.ite_t b28 h1
                refine AW.seq fun K29 hK29 => ?_
                refine AW.regionO (by rfl) ?_
                refine ao_q (v := (.bool false)) go0 rfl (aq_as rfl) ?_
                refine AO.done (hK29 _ ?_)
                replace h1 := Sh.some_eq h1
                subst o17
                try dsimp only [id] at h0
                replace h0 := Sh.some_eq h0
                subst r
                exact AW.ret (Exists.intro _ (And.intro ((Wk.permk (L := [(4, (.bool false))]) (st' := []) (st1 := []) [] rfl .nil (by decide) rfl rfl .nil ⟨.rfl, trivial⟩).trans (Wk.to (L := [(4, (.bool false))]) ⟨.rfl, trivial⟩)) (And.intro rfl rfl)))
              · replace h1 := Sh.ite_f b28 h1
                refine AW.skip (hK22 _ ?_)
                refine AW.regionO (by rfl) ?_
                refine ao_q (v := (i64 (Sh.w (t16 + 1)))) go0 rfl (aq_add rfl rfl) ?_
                refine ao_q (v := (i64 (Sh.w (t16 + 1)))) go0 rfl (aq_mv rfl) ?_
                exact AO.done (Exists.intro (Sh.w (t16 + 1)) (And.intro h1 (Wk.to (L := [(0, (.sl (List.map eCell p0))), (3, (.ptr 0 0 0 0)), (46, (.sl (List.map eI p1.fields))), (47, (i64 (Sh.len p1.fields))), (48, (i64 (Sh.w (t16 + 1))))]) ⟨.rfl, .rfl, .rfl, .rfl, .rfl, trivial⟩)))
            refine AW.regionO (by rfl) ?_
            refine ao_q (v := (.sl (List.map eCell p0))) go0 rfl (aq_mv rfl) ?_
            refine ao_q (v := (i64 c24)) go0 rfl (aq_mv rfl) ?_
            obtain ⟨q30, gq30, h2⟩ := Sh.bind_some h2
            refine ao_call (v' := (.bool q30)) (st' := [⟨0, 41, 3, [[(i64 p1.count), (i64 p1.tag), (.sl (List.map eI p1.fields))]]⟩]) go0 hb78 (impl_wordValid_ok gq30) rfl rfl trivial rfl rfl ?_
            refine ao_q (v := (.bool (!q30))) go0 rfl (aq_not rfl) ?_
            refine ao_q (v := (.bool (!q30))) go0 rfl (aq_mv rfl) ?_
            rcases Sh.ite_some h2 with ⟨b31, h2⟩ | ⟨b31, h2⟩
            · skip
              refine ao_skip rfl rfl b31 ?_
              refine ao_skip rfl rfl b31 ?_
              refine ao_skip rfl rfl b31 ?_
              refine ao_skip rfl rfl b31 ?_
              refine ao_none rfl rfl ?_
              refine ao_none rfl rfl ?_
              refine ao_skip rfl rfl b31 ?_
              refine ao_q (v := (.bool true)) go0 rfl (aq_pkt rfl b31 rfl) ?_
              exact AO.done (M27 true (Sh.some_eq h2).symm _ (Wk.to (L := [(0, (.sl (List.map eCell p0))), (3, (.ptr 0 0 0 0)), (46, (.sl (List.map eI p1.fields))), (47, (i64 (Sh.len p1.fields))), (48, (i64 t16)), (64, (.bool true))]) ⟨.rfl, .rfl, .rfl, .rfl, .rfl, .rfl, trivial⟩))
            · skip
              refine ao_q (v := (.ptr 0 0 0 0)) (go1 rfl rfl b31) rfl (aq_fap fi41_0 rfl rfl (show 0 + 0 ≤ 3 by decide) rfl) ?_
              refine ao_q (v := (i64 p1.count)) (go1 rfl rfl b31) rfl (aq_ldp ti3 rfl rfl rfl rfl) ?_
              refine ao_q (v := (.bool (decide (p1.count < 0)))) (go1 rfl rfl b31) rfl (aq_lt rfl rfl) ?_
              refine ao_q (v := (.bool (decide (p1.count < 0)))) (go1 rfl rfl b31) rfl (aq_mv rfl) ?_
              rcases Sh.ite_some h2 with ⟨b32, h2⟩ | ⟨b32, h2⟩
              · skip
                refine ao_q (v := (i64 c24)) (go1 rfl rfl b32) rfl (aq_mv rfl) ?_
                refine ao_q (v := (.bool (!decide (c24 = 0)))) (go1 rfl rfl b32) rfl (aq_ne rfl rfl) ?_
                refine ao_q (v := (.bool (!decide (c24 = 0)))) (go1 rfl rfl b31) rfl (aq_pkt rfl b32 rfl) ?_
                refine ao_q (v := (.bool (!decide (c24 = 0)))) go0 rfl (aq_pkf rfl b31 rfl) ?_
                exact AO.done (M27 (!decide (c24 = 0)) (Sh.some_eq h2).symm _ (Wk.to (L := [(0, (.sl (List.map eCell p0))), (3, (.ptr 0 0 0 0)), (46, (.sl (List.map eI p1.fields))), (47, (i64 (Sh.len p1.fields))), (48, (i64 t16)), (64, (.bool (!decide (c24 = 0))))]) ⟨.rfl, .rfl, .rfl, .rfl, .rfl, .rfl, trivial⟩))
              · skip
                refine ao_skip rfl rfl b32 ?_
                refine ao_skip rfl rfl b32 ?_
                refine ao_q (v := (.bool false)) (go1 rfl rfl b31) rfl (aq_pkf rfl b32 rfl) ?_
                refine ao_q (v := (.bool false)) go0 rfl (aq_pkf rfl b31 rfl) ?_
                exact AO.done (M27 false (Sh.some_eq h2).symm _ (Wk.to (L := [(0, (.sl (List.map eCell p0))), (3, (.ptr 0 0 0 0)), (46, (.sl (List.map eI p1.fields))), (47, (i64 (Sh.len p1.fields))), (48, (i64 t16)), (64, (.bool false))]) ⟨.rfl, .rfl, .rfl, .rfl, .rfl, .rfl, trivial⟩))
          · replace h1 := Sh.ite_f b21 h1
            exact AW.exit (M17 () (Sh.some_eq h1).symm _ (by refine Wk.trans (Wk.permk (L := []) (st' := []) (st1 := []) [] rfl .nil (by decide) rfl rfl .nil trivial) ?_; exact Wk.to (L := []) trivial))
      refine AW.regionO (by rfl) ?_
      refine ao_q (v := (.ptr 0 0 0 0)) go0 rfl (aq_fap fi41_0 rfl rfl (show 0 + 0 ≤ 3 by decide) rfl) ?_
      refine ao_q (v := (i64 p1.count)) go0 rfl (aq_ldp ti3 rfl rfl rfl rfl) ?_
      refine ao_q (v := (.bool (decide (p1.count < 1)))) go0 rfl (aq_lt rfl rfl) ?_
      refine ao_q (v := (.bool (decide (p1.count < 1)))) go0 rfl (aq_mv rfl) ?_
      rcases Sh.ite_some h1 with ⟨b33, h1⟩ | ⟨b33, h1⟩
      · skip
        refine ao_q (v := (.ptr 0 0 0 1)) (go1 rfl rfl b33) rfl (aq_fap fi41_1 rfl rfl (show 0 + 1 ≤ 3 by decide) rfl) ?_
        refine ao_q (v := (i64 p1.tag)) (go1 rfl rfl b33) rfl (aq_ldp ti3 rfl rfl rfl rfl) ?_
        refine ao_q (v := (.bool (!decide (p1.tag = 0)))) (go1 rfl rfl b33) rfl (aq_ne rfl rfl) ?_
        refine ao_q (v := (.bool (!decide (p1.tag = 0)))) go0 rfl (aq_pkt rfl b33 rfl) ?_
        refine ao_q (v := (.bool (!decide (p1.tag = 0)))) go0 rfl (aq_mv rfl) ?_
        rcases Sh.ite_some h1 with ⟨b34, h1⟩ | ⟨b34, h1⟩
        · skip
          refine ao_skip rfl rfl b34 ?_
          refine ao_skip rfl rfl b34 ?_
          refine ao_skip rfl rfl b34 ?_
          refine ao_skip rfl rfl b34 ?_
          refine ao_none rfl rfl ?_
          refine ao_none rfl rfl ?_
          refine ao_none rfl rfl ?_
          refine ao_none rfl rfl ?_
          refine ao_skip rfl rfl b34 ?_
          refine ao_q (v := (.bool true)) go0 rfl (aq_pkt rfl b34 rfl) ?_
          exact AO.done (M11 true (Sh.some_eq h1).symm _ (Wk.to (L := [(0, (.sl (List.map eCell p0))), (3, (.ptr 0 0 0 0)), (44, (.bool true))]) ⟨.rfl, .rfl, .rfl, trivial⟩))
        · skip
          refine ao_q (v := (.ptr 0 0 0 0)) (go1 rfl rfl b34) rfl (aq_fap fi41_0 rfl rfl (show 0 + 0 ≤ 3 by decide) rfl) ?_
          refine ao_q (v := (i64 p1.count)) (go1 rfl rfl b34) rfl (aq_ldp ti3 rfl rfl rfl rfl) ?_
          refine ao_q (v := (.bool (decide (p1.count = 0)))) (go1 rfl rfl b34) rfl (aq_eq rfl rfl) ?_
          refine ao_q (v := (.bool (decide (p1.count = 0)))) (go1 rfl rfl b34) rfl (aq_mv rfl) ?_
          rcases Sh.ite_some h1 with ⟨b35, h1⟩ | ⟨b35, h1⟩
          · skip
            refine ao_q (v := (.ptr 0 0 0 2)) (go1 rfl rfl b35) rfl (aq_fap fi41_2 rfl rfl (show 0 + 2 ≤ 3 by decide) rfl) ?_
            refine ao_q (v := (.sl (List.map eI p1.fields))) (go1 rfl rfl b35) rfl (aq_ldp ti32 rfl rfl rfl rfl) ?_
            refine ao_q (v := (i64 (Sh.len p1.fields))) (go1 rfl rfl b35) rfl (aq_lens sl32 rfl) ?_
            refine ao_q (v := (.bool (decide (0 < (Sh.len p1.fields))))) (go1 rfl rfl b35) rfl (aq_gt rfl rfl) ?_
            refine ao_q (v := (.bool (decide (0 < (Sh.len p1.fields))))) (go1 rfl rfl b34) rfl (aq_pkt rfl b35 rfl) ?_
            refine ao_q (v := (.bool (decide (0 < (Sh.len p1.fields))))) go0 rfl (aq_pkf rfl b34 rfl) ?_
            exact AO.done (M11 (decide (0 < (Sh.len p1.fields))) (Sh.some_eq h1).symm _ (Wk.to (L := [(0, (.sl (List.map eCell p0))), (3, (.ptr 0 0 0 0)), (44, (.bool (decide (0 < (Sh.len p1.fields)))))]) ⟨.rfl, .rfl, .rfl, trivial⟩))
          · skip
            refine ao_skip rfl rfl b35 ?_
            refine ao_skip rfl rfl b35 ?_
            refine ao_skip rfl rfl b35 ?_
            refine ao_skip rfl rfl b35 ?_
            refine ao_q (v := (.bool false)) (go1 rfl rfl b34) rfl (aq_pkf rfl b35 rfl) ?_
            refine ao_q (v := (.bool false)) go0 rfl (aq_pkf rfl b34 rfl) ?_
            exact AO.done (M11 false (Sh.some_eq h1).symm _ (Wk.to (L := [(0, (.sl (List.map eCell p0))), (3, (.ptr 0 0 0 0)), (44, (.bool false))]) ⟨.rfl, .rfl, .rfl, trivial⟩))
      · skip
        refine ao_skip rfl rfl b33 ?_
        refine ao_skip rfl rfl b33 ?_
        refine ao_skip rfl rfl b33 ?_
        refine ao_q (v := (.bool false)) go0 rfl (aq_pkf rfl b33 rfl) ?_
        refine ao_q (v := (.bool false)) go0 rfl (aq_mv rfl) ?_
        refine ao_q (v := (.ptr 0 0 0 0)) (go1 rfl rfl rfl) rfl (aq_fap fi41_0 rfl rfl (show 0 + 0 ≤ 3 by decide) rfl) ?_
        refine ao_q (v := (i64 p1.count)) (go1 rfl rfl rfl) rfl (aq_ldp ti3 rfl rfl rfl rfl) ?_
        refine ao_q (v := (.bool (decide (p1.count = 0)))) (go1 rfl rfl rfl) rfl (aq_eq rfl rfl) ?_
        refine ao_q (v := (.bool (decide (p1.count = 0)))) (go1 rfl rfl rfl) rfl (aq_mv rfl) ?_
        rcases Sh.ite_some h1 with ⟨b36, h1⟩ | ⟨b36, h1⟩
        · skip
          refine ao_q (v := (.ptr 0 0 0 2)) (go1 rfl rfl b36) rfl (aq_fap fi41_2 rfl rfl (show 0 + 2 ≤ 3 by decide) rfl) ?_
          refine ao_q (v := (.sl (List.map eI p1.fields))) (go1 rfl rfl b36) rfl (aq_ldp ti32 rfl rfl rfl rfl) ?_
          refine ao_q (v := (i64 (Sh.len p1.fields))) (go1 rfl rfl b36) rfl (aq_lens sl32 rfl) ?_
          refine ao_q (v := (.bool (decide (0 < (Sh.len p1.fields))))) (go1 rfl rfl b36) rfl (aq_gt rfl rfl) ?_
          refine ao_q (v := (.bool (decide (0 < (Sh.len p1.fields))))) (go1 rfl rfl rfl) rfl (aq_pkt rfl b36 rfl) ?_
          refine ao_q (v := (.bool (decide (0 < (Sh.len p1.fields))))) go0 rfl (aq_pkf rfl rfl rfl) ?_
          exact AO.done (M11 (decide (0 < (Sh.len p1.fields))) (Sh.some_eq h1).symm _ (Wk.to (L := [(0, (.sl (List.map eCell p0))), (3, (.ptr 0 0 0 0)), (44, (.bool (decide (0 < (Sh.len p1.fields)))))]) ⟨.rfl, .rfl, .rfl, trivial⟩))
        · skip
          refine ao_skip rfl rfl b36 ?_
          refine ao_skip rfl rfl b36 ?_
          refine ao_skip rfl rfl b36 ?_
          refine ao_skip rfl rfl b36 ?_
          refine ao_q (v := (.bool false)) (go1 rfl rfl rfl) rfl (aq_pkf rfl b36 rfl) ?_
          refine ao_q (v := (.bool false)) go0 rfl (aq_pkf rfl rfl rfl) ?_
          exact AO.done (M11 false (Sh.some_eq h1).symm _ (Wk.to (L := [(0, (.sl (List.map eCell p0))), (3, (.ptr 0 0 0 0)), (44, (.bool false))]) ⟨.rfl, .rfl, .rfl, trivial⟩))
  refine AW.regionO (by rfl) ?_
  refine ao_q (v := (.ptr 0 0 0 0)) go0 rfl (aq_fap fi41_0 rfl rfl (show 0 + 0 ≤ 3 by decide) rfl) ?_
  refine ao_q (v := (i64 p1.count)) go0 rfl (aq_ldp ti3 rfl rfl rfl rfl) ?_
  refine ao_q (v := (.bool (decide (p1.count < (-1))))) go0 rfl (aq_lt rfl rfl) ?_
  refine ao_q (v := (.bool (decide (p1.count < (-1))))) go0 rfl (aq_mv rfl) ?_
  rcases Sh.ite_some h1 with ⟨b37, h1⟩ | ⟨b37, h1⟩
  · skip
    refine ao_skip rfl rfl b37 ?_
    refine ao_skip rfl rfl b37 ?_
    refine ao_skip rfl rfl b37 ?_
    refine ao_q (v := (.bool true)) go0 rfl (aq_pkt rfl b37 rfl) ?_
    refine ao_q (v := (.bool true)) go0 rfl (aq_mv rfl) ?_
    refine ao_skip rfl rfl rfl ?_
    refine ao_skip rfl rfl rfl ?_
    refine ao_skip rfl rfl rfl ?_
    refine ao_q (v := (.bool true)) go0 rfl (aq_pkt rfl rfl rfl) ?_
    refine ao_q (v := (.bool true)) go0 rfl (aq_mv rfl) ?_
    refine ao_skip rfl rfl rfl ?_
    refine ao_skip rfl rfl rfl ?_
    refine ao_skip rfl rfl rfl ?_
    refine ao_skip rfl rfl rfl ?_
    refine ao_q (v := (.bool true)) go0 rfl (aq_pkt rfl rfl rfl) ?_
    exact AO.done (M5 true (Sh.some_eq h1).symm _ (Wk.to (L := [(0, (.sl (List.map eCell p0))), (3, (.ptr 0 0 0 0)), (25, (.bool true))]) ⟨.rfl, .rfl, .rfl, trivial⟩))
  · skip
    refine ao_q (v := (.ptr 0 0 0 1)) (go1 rfl rfl b37) rfl (aq_fap fi41_1 rfl rfl (show 0 + 1 ≤ 3 by decide) rfl) ?_
    refine ao_q (v := (i64 p1.tag)) (go1 rfl rfl b37) rfl (aq_ldp ti3 rfl rfl rfl rfl) ?_
    refine ao_q (v := (.bool (decide (p1.tag < 0)))) (go1 rfl rfl b37) rfl (aq_lt rfl rfl) ?_
    refine ao_q (v := (.bool (decide (p1.tag < 0)))) go0 rfl (aq_pkf rfl b37 rfl) ?_
    refine ao_q (v := (.bool (decide (p1.tag < 0)))) go0 rfl (aq_mv rfl) ?_
    rcases Sh.ite_some h1 with ⟨b38, h1⟩ | ⟨b38, h1⟩
    · skip
      refine ao_skip rfl rfl b38 ?_
      refine ao_skip rfl rfl b38 ?_
      refine ao_skip rfl rfl b38 ?_
      refine ao_q (v := (.bool true)) go0 rfl (aq_pkt rfl b38 rfl) ?_
      refine ao_q (v := (.bool true)) go0 rfl (aq_mv rfl) ?_
      refine ao_skip rfl rfl rfl ?_
      refine ao_skip rfl rfl rfl ?_
      refine ao_skip rfl rfl rfl ?_
      refine ao_skip rfl rfl rfl ?_
      refine ao_q (v := (.bool true)) go0 rfl (aq_pkt rfl rfl rfl) ?_
      exact AO.done (M5 true (Sh.some_eq h1).symm _ (Wk.to (L := [(0, (.sl (List.map eCell p0))), (3, (.ptr 0 0 0 0)), (25, (.bool true))]) ⟨.rfl, .rfl, .rfl, trivial⟩))
    · skip
      refine ao_q (v := (.ptr 0 0 0 1)) (go1 rfl rfl b38) rfl (aq_fap fi41_1 rfl rfl (show 0 + 1 ≤ 3 by decide) rfl) ?_
      refine ao_q (v := (i64 p1.tag)) (go1 rfl rfl b38) rfl (aq_ldp ti3 rfl rfl rfl rfl) ?_
      refine ao_q (v := (.bool (decide (99 < p1.tag)))) (go1 rfl rfl b38) rfl (aq_gt rfl rfl) ?_
      refine ao_q (v := (.bool (decide (99 < p1.tag)))) go0 rfl (aq_pkf rfl b38 rfl) ?_
      refine ao_q (v := (.bool (decide (99 < p1.tag)))) go0 rfl (aq_mv rfl) ?_
      rcases Sh.ite_some h1 with ⟨b39, h1⟩ | ⟨b39, h1⟩
      · skip
        refine ao_skip rfl rfl b39 ?_
        refine ao_skip rfl rfl b39 ?_
        refine ao_skip rfl rfl b39 ?_
        refine ao_skip rfl rfl b39 ?_
        refine ao_q (v := (.bool true)) go0 rfl (aq_pkt rfl b39 rfl) ?_
        exact AO.done (M5 true (Sh.some_eq h1).symm _ (Wk.to (L := [(0, (.sl (List.map eCell p0))), (3, (.ptr 0 0 0 0)), (25, (.bool true))]) ⟨.rfl, .rfl, .rfl, trivial⟩))
      · skip
        refine ao_q (v := (.ptr 0 0 0 2)) (go1 rfl rfl b39) rfl (aq_fap fi41_2 rfl rfl (show 0 + 2 ≤ 3 by decide) rfl) ?_
        refine ao_q (v := (.sl (List.map eI p1.fields))) (go1 rfl rfl b39) rfl (aq_ldp ti32 rfl rfl rfl rfl) ?_
        refine ao_q (v := (i64 (Sh.len p1.fields))) (go1 rfl rfl b39) rfl (aq_lens sl32 rfl) ?_
        refine ao_q (v := (.bool (decide (3 < (Sh.len p1.fields))))) (go1 rfl rfl b39) rfl (aq_gt rfl rfl) ?_
        refine ao_q (v := (.bool (decide (3 < (Sh.len p1.fields))))) go0 rfl (aq_pkf rfl b39 rfl) ?_
        exact AO.done (M5 (decide (3 < (Sh.len p1.fields))) (Sh.some_eq h1).symm _ (Wk.to (L := [(0, (.sl (List.map eCell p0))), (3, (.ptr 0 0 0 0)), (25, (.bool (decide (3 < (Sh.len p1.fields)))))]) ⟨.rfl, .rfl, .rfl, trivial⟩))

set_option maxRecDepth 100000 in
set_option maxHeartbeats 4000000 in
theorem slices_Clone_int_int_ok {p0 : (List Int)} {r : (List Int)} (h0 : slices_Clone_int_int p0 = some r) : ACalls Try.prog 70 [(.sl (List.map eI p0))] [] (fun v st => v = (.own 0 0 (List.length r)) ∧ st = [⟨0, 3, 1, List.map eI r⟩]) := by
  unfold slices_Clone_int_int at h0
  refine ACalls.intro Try.func70 rfl (by show 1 ≤ 8; decide) ?_
  show AW _ 0 _ (aret _ 0 Try.f70 _) ⟨8, _, _⟩
  refine AW.weaken (Wk.to (L := [(0, (.sl (List.map eI p0)))]) ⟨.rfl, trivial⟩) ?_
  refine AW.seq fun K1 hK1 => ?_
  refine AW.regionO (by rfl) ?_
  refine ao_q (v := .zc) go0 rfl (aq_as rfl) ?_
  refine AO.done (hK1 _ ?_)
  refine AW.seq fun K2 hK2 => ?_
  refine AW.seq fun K3 hK3 => ?_
  refine AW.regionO (by rfl) ?_
  refine ao_q (v := (.sl (List.map eI p0))) go0 rfl (aq_mv rfl) ?_
  refine ao_nil go0 sl32 rfl (fun hn => ?_) ?_
  · subst hn
    replace h0 : some [] = some r := by rw [← h0]; first | rfl | simp [Sh.app]
    refine AO.done (hK3 _ ?_)
    refine AW.cond' (b := true) rfl (fun _ => ?_) (fun q => nomatch (show true = false from (rfl : true = true).symm.trans q))
    refine AW.seq fun K4 hK4 => ?_
    refine AW.regionO (by rfl) ?_
    refine ao_q (v := .zc) go0 rfl (aq_as rfl) ?_
    refine AO.done (hK4 _ ?_)
    replace h0 := Sh.some_eq h0
    subst r
    exact AW.ret (Exists.intro _ (And.intro (((Wk.adopt (t := 2) rfl 3 (size := 1) (by decide)).trans (Wk.to (L := [(2, (.own 0 0 (List.length ([] : List Int))))]) ⟨.rfl, trivial⟩)).trans (Wk.to (L := [(2, (.own 0 0 (List.length ([] : List Int))))]) ⟨.rfl, trivial⟩)) (And.intro rfl rfl)))
  · skip
    refine AO.done (hK3 _ ?_)
    refine AW.cond' (b := false) rfl (fun q => nomatch (show false = true from (rfl : false = false).symm.trans q)) (fun _ => ?_)
    refine AW.skip (hK2 _ ?_)
    refine AW.seq fun K5 hK5 => ?_
    refine AW.regionO (by rfl) ?_
    refine ao_bs (m := 0) (st' := [⟨0, 3, 1, List.map eI ([] : List Int)⟩]) (l := ([] : List Int)) (enc := eI) go0 ei32 (by decide) rfl rfl rfl rfl rfl rfl ?_
    refine ao_q (v := (.sl (List.map eI p0))) go0 rfl (aq_mv rfl) ?_
    obtain ⟨l6, gl6, h0⟩ := Sh.bind_some h0
    refine ao_apo (st' := [⟨1, 3, 1, List.map eI l6⟩]) (l2 := p0) go0 ei32 rfl rfl rfl rfl el_s (fun _ => rfl) gl6 rfl ?_
    refine ao_q (v := (.own 0 1 (List.length l6))) go0 rfl (aq_as rfl) ?_
    refine AO.done (hK5 _ ?_)
    replace h0 := Sh.some_eq h0
    subst r
    exact AW.ret (Exists.intro _ (And.intro ((Wk.rg (L := [(2, (.own 0 0 (List.length l6)))]) (st' := [⟨0, 3, 1, List.map eI l6⟩]) (.pure (pure_map fun _ => rfl) .nil) ⟨.rfl, trivial⟩).trans (Wk.to (L := [(2, (.own 0 0 (List.length l6)))]) ⟨.rfl, trivial⟩)) (And.intro rfl rfl)))

set_option maxRecDepth 100000 in
set_option maxHeartbeats 4000000 in
theorem impl_checkedHeap_ok {N : Nat} {p0 : (List Cell)} {r : (List Int) × Bool} (h0 : impl_checkedHeap N p0 = some r) : ACalls Try.prog 63 [(.sl (List.map eCell p0))] [] (fun v st => v = (.tup [(.own 0 0 (List.length r.1)), (.bool r.2)]) ∧ st = [⟨0, 3, 1, List.map eI r.1⟩]) := by
  unfold impl_checkedHeap at h0
  refine ACalls.intro Try.func63 rfl (by show 1 ≤ 159; decide) ?_
  show AW _ 0 _ (aret _ 0 Try.f63 _) ⟨159, _, _⟩
  refine AW.weaken (Wk.to (L := [(0, (.sl (List.map eCell p0)))]) ⟨.rfl, trivial⟩) ?_
  refine AW.seq fun K1 hK1 => ?_
  refine AW.regionO (by rfl) ?_
  refine ao_q (v := .zc) go0 rfl (aq_as rfl) ?_
  refine ao_q (v := (.bool false)) go0 rfl (aq_as rfl) ?_
  refine AO.done (hK1 _ ?_)
  refine AW.seq fun K2 hK2 => ?_
  refine AW.regionO (by rfl) ?_
  refine ao_q (v := (.sl (List.map eCell p0))) go0 rfl (aq_mv rfl) ?_
  refine ao_q (v := (i64 (Sh.len p0))) go0 rfl (aq_lens sl25 rfl) ?_
  obtain ⟨l3, gl3, h0⟩ := Sh.bind_some h0
  refine ao_make (m := 0) (st' := [⟨0, 3, 1, List.map eI l3⟩]) (enc := eI) (u := 0) go0 ei32 rfl rfl rfl gl3 rfl rfl ?_
  refine ao_q (v := (.own 0 0 (List.length l3))) go0 rfl (aq_as rfl) ?_
  refine AO.done (hK2 _ ?_)
  refine AW.seq fun K4 hK4 => ?_
  refine AW.seq fun K5 hK5 => ?_
  refine AW.regionO (by rfl) ?_
  refine ao_q (v := (.sl (List.map eCell p0))) go0 rfl (aq_mv rfl) ?_
  refine ao_q (v := (i64 (Sh.len p0))) go0 rfl (aq_lens sl25 rfl) ?_
  refine ao_q (v := (i64 0)) go0 rfl (aq_mv rfl) ?_
  refine AO.done (hK5 _ ?_)
  obtain ⟨o9, h1, h0⟩ := Sh.cont_some h0
  have M9 : ∀ (l8 : (List Int)), o9 = Sum.inr l8 → ∀ s, Wk 0 s ⟨159, envL [(0, (.sl (List.map eCell p0))), (4, (.own 0 0 (List.length l8)))], [⟨0, 3, 1, List.map eI l8⟩]⟩ → K4 s := by
    intro l8 hq s hw
    subst o9
    try dsimp only at h0
    refine hK4 _ (AW.weaken hw ?_)
    refine AW.seq fun K10 hK10 => ?_
    refine AW.seq fun K11 hK11 => ?_
    obtain ⟨o13, h1, h0⟩ := Sh.bind_some h0
    have M13 : ∀ (t12 : Bool), o13 = t12 → ∀ s, Wk 0 s ⟨159, envL [(0, (.sl (List.map eCell p0))), (4, (.own 0 0 (List.length l8))), (68, (.bool t12))], [⟨0, 3, 1, List.map eI l8⟩]⟩ → K11 s := by
      intro t12 hq s hw
      subst o13
      try dsimp only at h0
      refine hK11 _ (AW.weaken hw ?_)
      refine AW.cond' (b := t12) rfl (fun b14 => ?_) (fun b14 => ?_)
      · replace h0 := Sh.ite_t b14 h0
        refine AW.seq fun K15 hK15 => ?_
        refine AW.regionO (by rfl) ?_
        refine ao_q (v := .zc) go0 rfl (aq_as rfl) ?_
        refine ao_q (v := (.bool false)) go0 rfl (aq_as rfl) ?_
        refine AO.done (hK15 _ ?_)
        replace h0 := Sh.some_eq h0
        subst r
        exact AW.ret (Exists.intro _ (And.intro ((((Wk.adopt (t := 2) rfl 3 (size := 1) (by decide)).trans (Wk.to (L := [(2, (.own 1 0 (List.length ([] : List Int)))), (3, (.bool false))]) ⟨.rfl, .rfl, trivial⟩)).trans (Wk.permk (L := [(2, (.own 0 0 (List.length ([] : List Int)))), (3, (.bool false))]) (st' := [⟨0, 3, 1, List.map eI ([] : List Int)⟩]) (st1 := [⟨0, 3, 1, List.map eI ([] : List Int)⟩]) [1] rfl .nil (by decide) rfl rfl (.pure (pure_map fun _ => rfl) .nil) ⟨.rfl, .rfl, trivial⟩)).trans (Wk.to (L := [(2, (.own 0 0 (List.length ([] : List Int)))), (3, (.bool false))]) ⟨.rfl, .rfl, trivial⟩)) (And.intro rfl rfl)))
      · replace h0 := Sh.ite_f b14 h0
        refine AW.skip (hK10 _ ?_)
        refine AW.seq fun K16 hK16 => ?_
        refine AW.regionO (by rfl) ?_
        refine ao_q (v := (.own 0 0 (List.length l8))) go0 rfl (aq_mv rfl) ?_
        obtain ⟨q17, gq17, h0⟩ := Sh.bind_some h0
        refine ao_callb (v' := (.own 1 0 (List.length q17))) (st' := [⟨0, 3, 1, List.map eI l8⟩, ⟨0, 3, 1, List.map eI q17⟩]) go0 hb70 (slices_Clone_int_int_ok gq17) rfl (.own rfl rfl (fun _ => rfl) .nil) rfl (srow (fun _ => rfl) trivial) rfl rfl ?_
        refine ao_q (v := (.own 1 0 (List.length q17))) go0 rfl (aq_as rfl) ?_
        refine AO.done (hK16 _ ?_)
        refine AW.seq fun K18 hK18 => ?_
        refine AW.regionO (by rfl) ?_
        refine ao_q (v := .zc) go0 rfl (aq_as rfl) ?_
        refine AO.done (hK18 _ ?_)
        refine AW.seq fun K19 hK19 => ?_
        refine AW.regionO (by rfl) ?_
        refine ao_q (v := (i64 0)) go0 rfl (aq_as rfl) ?_
        refine AO.done (hK19 _ ?_)
        refine AW.seq fun K20 hK20 => ?_
        refine AW.seq fun K21 hK21 => ?_
        refine AW.regionO (by rfl) ?_
        refine ao_q (v := (.sl (List.map eCell p0))) go0 rfl (aq_mv rfl) ?_
        refine ao_q (v := (i64 (Sh.len p0))) go0 rfl (aq_lens sl25 rfl) ?_
        refine ao_q (v := (i64 0)) go0 rfl (aq_mv rfl) ?_
        refine AO.done (hK21 _ ?_)
        obtain ⟨o25, h1, h0⟩ := Sh.cont_some h0
        have M25 : ∀ (l24 : (List Int)), o25 = Sum.inr l24 → ∀ s, Wk 0 s ⟨159, envL [(0, (.sl (List.map eCell p0))), (4, (.own 0 0 (List.length l8))), (11, (.own 1 0 (List.length q17))), (12, (.own 2 0 (List.length l24))), (13, (i64 0))], [⟨0, 3, 1, List.map eI l8⟩, ⟨0, 3, 1, List.map eI q17⟩, ⟨0, 3, 1, List.map eI l24⟩]⟩ → K20 s := by
          intro l24 hq s hw
          subst o25
          try dsimp only at h0
          refine hK20 _ (AW.weaken hw ?_)
          refine AW.seq fun K26 hK26 => ?_
          obtain ⟨o31, h1, h0⟩ := Sh.bind_some h0
          have M31 : ∀ (many30 : Int), o31 = many30 → ∀ s, Wk 0 s ⟨159, envL [(0, (.sl (List.map eCell p0))), (4, (.own 0 0 (List.length l8))), (13, (i64 many30))], [⟨0, 3, 1, List.map eI l8⟩]⟩ → K26 s := by
            intro many30 hq s hw
            subst o31
            try dsimp only at h0
            refine hK26 _ (AW.weaken hw ?_)
            refine AW.seq fun K32 hK32 => ?_
            refine AW.regionO (by rfl) ?_
            refine ao_q (v := (.own 0 0 (List.length l8))) go0 rfl (aq_mv rfl) ?_
            refine ao_q (v := (i64 many30)) go0 rfl (aq_mv rfl) ?_
            refine ao_q (v := (.sl (List.map eCell p0))) go0 rfl (aq_mv rfl) ?_
            refine ao_q (v := (i64 (Sh.len p0))) go0 rfl (aq_lens sl25 rfl) ?_
            refine ao_q (v := (.bool (decide (many30 = (Sh.len p0))))) go0 rfl (aq_eq rfl rfl) ?_
            refine ao_q (v := (.own 0 0 (List.length l8))) go0 rfl (aq_as rfl) ?_
            refine ao_q (v := (.bool (decide (many30 = (Sh.len p0))))) go0 rfl (aq_as rfl) ?_
            refine AO.done (hK32 _ ?_)
            replace h0 := Sh.some_eq h0
            subst r
            exact AW.ret (Exists.intro _ (And.intro (Wk.to (L := [(2, (.own 0 0 (List.length l8))), (3, (.bool (decide (many30 = (Sh.len p0)))))]) ⟨.rfl, .rfl, trivial⟩) (And.intro rfl rfl)))
          refine AW.block (AW.loopF (σ := Int × (List Int) × (List Int)) (fun n v => impl_checkedHeap_L3 N p0 n v.1 v.2.1 v.2.2 = some o31) (fun (many27, l28, l29) => ⟨159, envL [(0, (.sl (List.map eCell p0))), (4, (.own 0 0 (List.length l8))), (11, (.own 1 0 (List.length l28))), (12, (.own 2 0 (List.length l29))), (13, (i64 many27))], [⟨0, 3, 1, List.map eI l8⟩, ⟨0, 3, 1, List.map eI l28⟩, ⟨0, 3, 1, List.map eI l29⟩]⟩) N (0, q17, l24) h1 (Wk.to (L := [(0, (.sl (List.map eCell p0))), (4, (.own 0 0 (List.length l8))), (11, (.own 1 0 (List.length q17))), (12, (.own 2 0 (List.length l24))), (13, (i64 0))]) ⟨.rfl, .rfl, .rfl, .rfl, .rfl, trivial⟩) (fun _ hv => by rw [impl_checkedHeap_L3] at hv; cases hv) ?_)
          rintro n ⟨many27, l28, l29⟩ h1
          try dsimp only at h1 ⊢
          rw [impl_checkedHeap_L3] at h1
          refine AW.seq fun K33 hK33 => ?_
          refine AW.seq fun K34 hK34 => ?_
          refine AW.regionO (by rfl) ?_
          refine ao_q (v := (.own 2 0 (List.length l29))) go0 rfl (aq_mv rfl) ?_
          refine ao_q (v := (i64 (Sh.len l29))) go0 rfl (aq_leno sl32 rfl rfl rfl) ?_
          refine ao_q (v := (.bool (decide (0 < (Sh.len l29))))) go0 rfl (aq_gt rfl rfl) ?_
          refine AO.done (hK34 _ ?_)
          refine AW.cond' (b := decide (0 < (Sh.len l29))) rfl (fun b35 => ?_) (fun b35 => ?_)
          · replace h1 := Sh.ite_t b35 h1
            refine AW.skip (hK33 _ ?_)
            refine AW.seq fun K36 hK36 => ?_
            refine AW.block ?_
            refine AW.seq fun K37 hK37 => ?_
            refine AW.regionO (by rfl) ?_
            refine ao_q (v := (.sl (List.map eCell p0))) go0 rfl (aq_mv rfl) ?_
            refine ao_q (v := (.own 2 0 (List.length l29))) go0 rfl (aq_mv rfl) ?_
            refine ao_q (v := (.own 2 0 (List.length l29))) go0 rfl (aq_mv rfl) ?_
            refine ao_q (v := (i64 (Sh.len l29))) go0 rfl (aq_leno sl32 rfl rfl rfl) ?_
            refine ao_q (v := (i64 (Sh.w ((Sh.len l29) - 1)))) go0 rfl (aq_sub rfl rfl) ?_
            obtain ⟨c38, gc38, h1⟩ := Sh.bind_some h1
            refine ao_q (v := (.ptr 2 0 (Int.toNat (Sh.w ((Sh.len l29) - 1))) 0)) go0 rfl (aq_ixo ei32 rfl rfl rfl rfl gc38) ?_
            refine ao_q (v := (i64 c38)) go0 rfl (aq_ldp ti3 rfl rfl (map_get gc38) rfl) ?_
            obtain ⟨c39, gc39, h1⟩ := Sh.bind_some h1
            refine ao_q (v := (.iptr (eCell c39) 0)) go0 rfl (aq_ixs ei25 rfl rfl gc39 rfl) ?_
            refine ao_q (v := (.agg [(i64 c39.count), (i64 c39.tag), (.sl (List.map eI c39.fields))])) go0 rfl (aq_ldia ti41 rfl (show 0 + 3 ≤ 3 by decide) rfl) ?_
            refine ao_alloc (m := 3) (st' := [⟨0, 3, 1, List.map eI l8⟩, ⟨0, 3, 1, List.map eI l28⟩, ⟨0, 3, 1, List.map eI l29⟩, ⟨0, 41, 3, [[(i64 0), (i64 0), .zc]]⟩]) go0 zi41 rfl rfl ?_
            refine ao_str (st' := [⟨0, 3, 1, List.map eI l8⟩, ⟨0, 3, 1, List.map eI l28⟩, ⟨0, 3, 1, List.map eI l29⟩, ⟨0, 41, 3, [[(i64 c39.count), (i64 c39.tag), (.sl (List.map eI c39.fields))]]⟩]) go0 ti41 rfl rfl rfl rfl rfl rfl (show 0 + 3 ≤ 3 by decide) rfl ?_
            refine AO.done (hK37 _ ?_)
            refine AW.seq fun K40 hK40 => ?_
            refine AW.regionO (by rfl) ?_
            refine ao_q (v := (.own 2 0 (List.length l29))) go0 rfl (aq_mv rfl) ?_
            refine ao_q (v := (.own 2 0 (List.length l29))) go0 rfl (aq_mv rfl) ?_
            refine ao_q (v := (i64 (Sh.len l29))) go0 rfl (aq_leno sl32 rfl rfl rfl) ?_
            refine ao_q (v := (i64 (Sh.w ((Sh.len l29) - 1)))) go0 rfl (aq_sub rfl rfl) ?_
            obtain ⟨l41, gl41, h1⟩ := Sh.bind_some h1
            refine ao_hio (st' := [⟨0, 3, 1, List.map eI l8⟩, ⟨0, 3, 1, List.map eI l28⟩, ⟨1, 3, 1, List.map eI l41⟩, ⟨0, 41, 3, [[(i64 c39.count), (i64 c39.tag), (.sl (List.map eI c39.fields))]]⟩]) go0 ei32 rfl rfl rfl rfl gl41 rfl ?_
            refine ao_q (v := (.own 2 1 (List.length l41))) go0 rfl (aq_as rfl) ?_
            refine AO.done (hK40 _ ?_)
            refine AW.seq fun K42 hK42 => ?_
            refine AW.regionO (by rfl) ?_
            refine ao_q (v := (.ptr 3 0 0 2)) go0 rfl (aq_fap fi41_2 rfl rfl (show 0 + 2 ≤ 3 by decide) rfl) ?_
            refine ao_q (v := (.sl (List.map eI c39.fields))) go0 rfl (aq_ldp ti32 rfl rfl rfl rfl) ?_
            refine ao_q (v := (i64 (Sh.len c39.fields))) go0 rfl (aq_lens sl32 rfl) ?_
            refine ao_q (v := (i64 0)) go0 rfl (aq_mv rfl) ?_
            refine AO.done (hK42 _ ?_)
            obtain ⟨o48, h2, h1⟩ := Sh.bind_some h1
            have M48 : ∀ (l46 : (List Int)) (l47 : (List Int)), o48 = (l46, l47) → ∀ s, Wk 0 s ⟨159, envL [(0, (.sl (List.map eCell p0))), (4, (.own 0 0 (List.length l8))), (11, (.own 1 0 (List.length l46))), (12, (.own 2 0 (List.length l47))), (13, (i64 many27))], [⟨0, 3, 1, List.map eI l8⟩, ⟨0, 3, 1, List.map eI l46⟩, ⟨0, 3, 1, List.map eI l47⟩]⟩ → K36 s := by
              intro l46 l47 hq s hw
              subst o48
              try dsimp only at h1
              refine hK36 _ (AW.weaken hw ?_)
              refine AW.regionO (by rfl) ?_
              refine ao_q (v := (i64 many27)) go0 rfl (aq_mv rfl) ?_
              refine ao_q (v := (i64 (Sh.w (many27 + 1)))) go0 rfl (aq_add rfl rfl) ?_
              refine ao_q (v := (i64 (Sh.w (many27 + 1)))) go0 rfl (aq_as rfl) ?_
              exact AO.done (Exists.intro (Sh.w (many27 + 1), l46, l47) (And.intro h1 (Wk.to (L := [(0, (.sl (List.map eCell p0))), (4, (.own 0 0 (List.length l8))), (11, (.own 1 0 (List.length l46))), (12, (.own 2 0 (List.length l47))), (13, (i64 (Sh.w (many27 + 1))))]) ⟨.rfl, .rfl, .rfl, .rfl, .rfl, trivial⟩)))
            refine AW.block (AW.loopF (σ := Int × (List Int) × (List Int)) (fun n v => impl_checkedHeap_L4 c39 p0 n v.1 v.2.1 v.2.2 = some o48) (fun (t43, l44, l45) => ⟨159, envL [(0, (.sl (List.map eCell p0))), (4, (.own 0 0 (List.length l8))), (11, (.own 1 0 (List.length l44))), (12, (.own 2 0 (List.length l45))), (13, (i64 many27)), (125, (.sl (List.map eI c39.fields))), (126, (i64 (Sh.len c39.fields))), (127, (i64 t43))], [⟨0, 3, 1, List.map eI l8⟩, ⟨0, 3, 1, List.map eI l44⟩, ⟨0, 3, 1, List.map eI l45⟩]⟩) N (0, l28, l41) h2 (by refine Wk.trans (Wk.rg (L := [(0, (.sl (List.map eCell p0))), (4, (.own 0 0 (List.length l8))), (11, (.own 1 0 (List.length l28))), (12, (.own 2 0 (List.length l41))), (13, (i64 many27)), (125, (.sl (List.map eI c39.fields))), (126, (i64 (Sh.len c39.fields))), (127, (i64 0))]) (st' := [⟨0, 3, 1, List.map eI l8⟩, ⟨0, 3, 1, List.map eI l28⟩, ⟨0, 3, 1, List.map eI l41⟩, ⟨0, 41, 3, [[(i64 c39.count), (i64 c39.tag), (.sl (List.map eI c39.fields))]]⟩]) (.pure (pure_map fun _ => rfl) (.pure (pure_map fun _ => rfl) (.pure (pure_map fun _ => rfl) (.raw rfl rfl .nil)))) ⟨.rfl, .rfl, .rfl, .rfl, .rfl, .rfl, .rfl, .rfl, trivial⟩) ?_; refine Wk.trans (Wk.permk (L := [(0, (.sl (List.map eCell p0))), (4, (.own 0 0 (List.length l8))), (11, (.own 1 0 (List.length l28))), (12, (.own 2 0 (List.length l41))), (13, (i64 many27)), (125, (.sl (List.map eI c39.fields))), (126, (i64 (Sh.len c39.fields))), (127, (i64 0))]) (st' := [⟨0, 3, 1, List.map eI l8⟩, ⟨0, 3, 1, List.map eI l28⟩, ⟨0, 3, 1, List.map eI l41⟩]) (st1 := [⟨0, 3, 1, List.map eI l8⟩, ⟨0, 3, 1, List.map eI l28⟩, ⟨0, 3, 1, List.map eI l41⟩]) [0, 1, 2] rfl .nil (by decide) rfl rfl (.pure (pure_map fun _ => rfl) (.pure (pure_map fun _ => rfl) (.pure (pure_map fun _ => rfl) .nil))) ⟨.rfl, .rfl, .rfl, .rfl, .rfl, .rfl, .rfl, .rfl, trivial⟩) ?_; exact Wk.to (L := [(0, (.sl (List.map eCell p0))), (4, (.own 0 0 (List.length l8))), (11, (.own 1 0 (List.length l28))), (12, (.own 2 0 (List.length l41))), (13, (i64 many27)), (125, (.sl (List.map eI c39.fields))), (126, (i64 (Sh.len c39.fields))), (127, (i64 0))]) ⟨.rfl, .rfl, .rfl, .rfl, .rfl, .rfl, .rfl, .rfl, trivial⟩) (fun _ hv => by rw [impl_checkedHeap_L4] at hv; cases hv) ?_)
            rintro n ⟨t43, l44, l45⟩ h2
            try dsimp only at h2 ⊢
            rw [impl_checkedHeap_L4] at h2
            refine AW.seq fun K49 hK49 => ?_
            refine AW.regionO (by rfl) ?_
            refine ao_q (v := (.bool (decide (t43 < (Sh.len c39.fields))))) go0 rfl (aq_lt rfl rfl) ?_
            refine AO.done (hK49 _ ?_)
            refine AW.seq fun K50 hK50 => ?_
            refine AW.cond' (b := decide (t43 < (Sh.len c39.fields))) rfl (fun b51 => ?_) (fun b51 => ?_)
            · replace h2 := Sh.ite_t b51 h2
              refine AW.skip (hK50 _ ?_)
              refine AW.seq fun K52 hK52 => ?_
              obtain ⟨o55, h3, h2⟩ := Sh.bind_some h2
              have M55 : ∀ (l53 : (List Int)) (l54 : (List Int)), o55 = (l53, l54) → ∀ s, Wk 0 s ⟨159, envL [(0, (.sl (List.map eCell p0))), (4, (.own 0 0 (List.length l8))), (11, (.own 1 0 (List.length l53))), (12, (.own 2 0 (List.length l54))), (13, (i64 many27)), (125, (.sl (List.map eI c39.fields))), (126, (i64 (Sh.len c39.fields))), (127, (i64 t43))], [⟨0, 3, 1, List.map eI l8⟩, ⟨0, 3, 1, List.map eI l53⟩, ⟨0, 3, 1, List.map eI l54⟩]⟩ → K52 s := by
                intro l53 l54 hq s hw
                subst o55
                try dsimp only at h2
                refine hK52 _ (AW.weaken hw ?_)
                refine AW.regionO (by rfl) ?_
                refine ao_q (v := (i64 (Sh.w (t43 + 1)))) go0 rfl (aq_add rfl rfl) ?_
                refine ao_q (v := (i64 (Sh.w (t43 + 1)))) go0 rfl (aq_mv rfl) ?_
                exact AO.done (Exists.intro (Sh.w (t43 + 1), l53, l54) (And.intro h2 (Wk.to (L := [(0, (.sl (List.map eCell p0))), (4, (.own 0 0 (List.length l8))), (11, (.own 1 0 (List.length l53))), (12, (.own 2 0 (List.length l54))), (13, (i64 many27)), (125, (.sl (List.map eI c39.fields))), (126, (i64 (Sh.len c39.fields))), (127, (i64 (Sh.w (t43 + 1))))]) ⟨.rfl, .rfl, .rfl, .rfl, .rfl, .rfl, .rfl, .rfl, trivial⟩)))
              refine AW.block ?_
              refine AW.seq fun K56 hK56 => ?_
              refine AW.regionO (by rfl) ?_
              obtain ⟨c57, gc57, h3⟩ := Sh.bind_some h3
              refine ao_q (v := (.iptr (eI c57) 0)) go0 rfl (aq_ixs ei32 rfl rfl gc57 rfl) ?_
              refine ao_q (v := (i64 c57)) go0 rfl (aq_ldi ti3 rfl rfl) ?_
              refine ao_q (v := (i64 c57)) go0 rfl (aq_as rfl) ?_
              refine AO.done (hK56 _ ?_)
              refine AW.seq fun K58 hK58 => ?_
              refine AW.regionO (by rfl) ?_
              refine ao_q (v := (.sl (List.map eCell p0))) go0 rfl (aq_mv rfl) ?_
              refine ao_q (v := (i64 c57)) go0 rfl (aq_mv rfl) ?_
              obtain ⟨q59, gq59, h3⟩ := Sh.bind_some h3
              refine ao_call (v' := (.tup [(i64 q59.1), (.bool q59.2)])) (st' := [⟨0, 3, 1, List.map eI l8⟩, ⟨0, 3, 1, List.map eI l44⟩, ⟨0, 3, 1, List.map eI l45⟩]) go0 hb71 (impl_liveAt_ok gq59) rfl rfl trivial rfl rfl ?_
              refine ao_q (v := (.tup [(i64 q59.1), (.bool q59.2)])) go0 rfl (aq_mv rfl) ?_
              refine ao_q (v := (i64 q59.1)) go0 rfl (aq_ex rfl rfl) ?_
              refine ao_q (v := (.bool q59.2)) go0 rfl (aq_ex rfl rfl) ?_
              refine ao_q (v := (i64 q59.1)) go0 rfl (aq_as rfl) ?_
              refine ao_q (v := (.bool q59.2)) go0 rfl (aq_as rfl) ?_
              refine AO.done (hK58 _ ?_)
              refine AW.seq fun K60 hK60 => ?_
              refine AW.regionO (by rfl) ?_
              refine ao_q (v := (.bool q59.2)) go0 rfl (aq_mv rfl) ?_
              refine AO.done (hK60 _ ?_)
              refine AW.cond' (b := q59.2) rfl (fun b61 => ?_) (fun b61 => ?_)
              · replace h3 := Sh.ite_t b61 h3
                refine AW.seq fun K62 hK62 => ?_
                refine AW.regionO (by rfl) ?_
                refine ao_q (v := (.own 1 0 (List.length l44))) go0 rfl (aq_mv rfl) ?_
                refine ao_q (v := (i64 q59.1)) go0 rfl (aq_mv rfl) ?_
                obtain ⟨c63, gc63, h3⟩ := Sh.bind_some h3
                refine ao_q (v := (.ptr 1 0 (Int.toNat q59.1) 0)) go0 rfl (aq_ixo ei32 rfl rfl rfl rfl gc63) ?_
                refine ao_q (v := (i64 c63)) go0 rfl (aq_ldp ti3 rfl rfl (map_get gc63) rfl) ?_
                refine ao_q (v := (i64 (Sh.w (c63 - 1)))) go0 rfl (aq_sub rfl rfl) ?_
                refine ao_q (v := (.ptr 1 0 (Int.toNat q59.1) 0)) go0 rfl (aq_ixo ei32 rfl rfl rfl rfl gc63) ?_
                refine ao_stl (st' := [⟨0, 3, 1, List.map eI l8⟩, ⟨0, 3, 1, List.map eI (Sh.put l44 q59.1 (Sh.w (c63 - 1)))⟩, ⟨0, 3, 1, List.map eI l45⟩]) (u' := Sh.w (c63 - 1)) go0 ti3 rfl rfl gc63 rfl rfl rfl (show 0 + 1 ≤ 1 by decide) rfl rfl ?_
                refine AO.done (hK62 _ ?_)
                refine AW.seq fun K64 hK64 => ?_
                refine AW.regionO (by rfl) ?_
                refine ao_q (v := (.own 1 0 (List.length l44))) go0 rfl (aq_mv rfl) ?_
                refine ao_q (v := (i64 q59.1)) go0 rfl (aq_mv rfl) ?_
                obtain ⟨c65, gc65, h3⟩ := Sh.bind_some h3
                refine ao_q (v := (.ptr 1 0 (Int.toNat q59.1) 0)) go0 rfl (aq_ixo ei32 rfl rfl rfl (by simp only [Sh.put_len]) gc65) ?_
                refine ao_q (v := (i64 c65)) go0 rfl (aq_ldp ti3 rfl rfl (map_get gc65) rfl) ?_
                refine ao_q (v := (.bool (decide (c65 = 0)))) go0 rfl (aq_eq rfl rfl) ?_
                refine AO.done (hK64 _ ?_)
                refine AW.cond' (b := decide (c65 = 0)) rfl (fun b66 => ?_) (fun b66 => ?_)
                · replace h3 := Sh.ite_t b66 h3
                  refine AW.regionO (by rfl) ?_
                  refine ao_q (v := (.own 2 0 (List.length l45))) go0 rfl (aq_mv rfl) ?_
                  refine ao_q (v := (i64 q59.1)) go0 rfl (aq_mv rfl) ?_
                  refine ao_bs (m := 3) (st' := [⟨0, 3, 1, List.map eI l8⟩, ⟨0, 3, 1, List.map eI (Sh.put l44 q59.1 (Sh.w (c63 - 1)))⟩, ⟨0, 3, 1, List.map eI l45⟩, ⟨0, 3, 1, List.map eI [q59.1]⟩]) (l := [q59.1]) (enc := eI) go0 ei32 (by decide) rfl rfl rfl rfl rfl rfl ?_
                  obtain ⟨l67, gl67, h3⟩ := Sh.bind_some h3
                  refine ao_apo (st' := [⟨0, 3, 1, List.map eI l8⟩, ⟨0, 3, 1, List.map eI (Sh.put l44 q59.1 (Sh.w (c63 - 1)))⟩, ⟨1, 3, 1, List.map eI l67⟩, ⟨0, 3, 1, List.map eI [q59.1]⟩]) (l2 := [q59.1]) go0 ei32 rfl rfl rfl rfl (el_o rfl rfl) (fun _ => rfl) gl67 rfl ?_
                  refine ao_q (v := (.own 2 1 (List.length l67))) go0 rfl (aq_as rfl) ?_
                  exact AO.done (M55 (Sh.put l44 q59.1 (Sh.w (c63 - 1))) l67 (Sh.some_eq h3).symm _ (by refine Wk.trans (Wk.rg (L := [(0, (.sl (List.map eCell p0))), (4, (.own 0 0 (List.length l8))), (11, (.own 1 0 (List.length l44))), (12, (.own 2 0 (List.length l67))), (13, (i64 many27)), (125, (.sl (List.map eI c39.fields))), (126, (i64 (Sh.len c39.fields))), (127, (i64 t43))]) (st' := [⟨0, 3, 1, List.map eI l8⟩, ⟨0, 3, 1, List.map eI (Sh.put l44 q59.1 (Sh.w (c63 - 1)))⟩, ⟨0, 3, 1, List.map eI l67⟩, ⟨0, 3, 1, List.map eI [q59.1]⟩]) (.pure (pure_map fun _ => rfl) (.pure (pure_map fun _ => rfl) (.pure (pure_map fun _ => rfl) (.pure (pure_map fun _ => rfl) .nil)))) ⟨.rfl, .rfl, .rfl, .rfl, .rfl, .rfl, .rfl, .rfl, trivial⟩) ?_; refine Wk.trans (Wk.permk (L := [(0, (.sl (List.map eCell p0))), (4, (.own 0 0 (List.length l8))), (11, (.own 1 0 (List.length l44))), (12, (.own 2 0 (List.length l67))), (13, (i64 many27)), (125, (.sl (List.map eI c39.fields))), (126, (i64 (Sh.len c39.fields))), (127, (i64 t43))]) (st' := [⟨0, 3, 1, List.map eI l8⟩, ⟨0, 3, 1, List.map eI (Sh.put l44 q59.1 (Sh.w (c63 - 1)))⟩, ⟨0, 3, 1, List.map eI l67⟩]) (st1 := [⟨0, 3, 1, List.map eI l8⟩, ⟨0, 3, 1, List.map eI (Sh.put l44 q59.1 (Sh.w (c63 - 1)))⟩, ⟨0, 3, 1, List.map eI l67⟩]) [0, 1, 2] rfl .nil (by decide) rfl rfl (.pure (pure_map fun _ => rfl) (.pure (pure_map fun _ => rfl) (.pure (pure_map fun _ => rfl) .nil))) ⟨.rfl, .rfl, .rfl, .rfl, .rfl, .rfl, .rfl, .rfl, trivial⟩) ?_; exact Wk.to (L := [(0, (.sl (List.map eCell p0))), (4, (.own 0 0 (List.length l8))), (11, (.own 1 0 (List.length (Sh.put l44 q59.1 (Sh.w (c63 - 1)))))), (12, (.own 2 0 (List.length l67))), (13, (i64 many27)), (125, (.sl (List.map eI c39.fields))), (126, (i64 (Sh.len c39.fields))), (127, (i64 t43))]) ⟨.rfl, .rfl, (.len (by simp only [Sh.put_len])), .rfl, .rfl, .rfl, .rfl, .rfl, trivial⟩))
                · replace h3 := Sh.ite_f b66 h3
                  exact AW.skip (M55 (Sh.put l44 q59.1 (Sh.w (c63 - 1))) l45 (Sh.some_eq h3).symm _ (Wk.to (L := [(0, (.sl (List.map eCell p0))), (4, (.own 0 0 (List.length l8))), (11, (.own 1 0 (List.length (Sh.put l44 q59.1 (Sh.w (c63 - 1)))))), (12, (.own 2 0 (List.length l45))), (13, (i64 many27)), (125, (.sl (List.map eI c39.fields))), (126, (i64 (Sh.len c39.fields))), (127, (i64 t43))]) ⟨.rfl, .rfl, (.len (by simp only [Sh.put_len])), .rfl, .rfl, .rfl, .rfl, .rfl, trivial⟩))
              · replace h3 := Sh.ite_f b61 h3
                exact AW.skip (M55 l44 l45 (Sh.some_eq h3).symm _ (Wk.to (L := [(0, (.sl (List.map eCell p0))), (4, (.own 0 0 (List.length l8))), (11, (.own 1 0 (List.length l44))), (12, (.own 2 0 (List.length l45))), (13, (i64 many27)), (125, (.sl (List.map eI c39.fields))), (126, (i64 (Sh.len c39.fields))), (127, (i64 t43))]) ⟨.rfl, .rfl, .rfl, .rfl, .rfl, .rfl, .rfl, .rfl, trivial⟩))
            · replace h2 := Sh.ite_f b51 h2
              exact AW.exit (M48 l44 l45 (Sh.some_eq h2).symm _ (Wk.to (L := [(0, (.sl (List.map eCell p0))), (4, (.own 0 0 (List.length l8))), (11, (.own 1 0 (List.length l44))), (12, (.own 2 0 (List.length l45))), (13, (i64 many27))]) ⟨.rfl, .rfl, .rfl, .rfl, .rfl, trivial⟩))
          · replace h1 := Sh.ite_f b35 h1
            exact AW.exit (M31 many27 (Sh.some_eq h1).symm _ (by refine Wk.trans (Wk.permk (L := [(0, (.sl (List.map eCell p0))), (4, (.own 0 0 (List.length l8))), (13, (i64 many27))]) (st' := [⟨0, 3, 1, List.map eI l8⟩]) (st1 := [⟨0, 3, 1, List.map eI l8⟩]) [0] rfl .nil (by decide) rfl rfl (.pure (pure_map fun _ => rfl) .nil) ⟨.rfl, .rfl, .rfl, trivial⟩) ?_; exact Wk.to (L := [(0, (.sl (List.map eCell p0))), (4, (.own 0 0 (List.length l8))), (13, (i64 many27))]) ⟨.rfl, .rfl, .rfl, trivial⟩))
        refine AW.block (AW.loopF (σ := Int × (List Int)) (fun n v => impl_checkedHeap_L2 l8 p0 n v.1 v.2 = some o25) (fun (t22, l23) => ⟨159, envL [(0, (.sl (List.map eCell p0))), (4, (.own 0 0 (List.length l8))), (11, (.own 1 0 (List.length q17))), (12, (.own 2 0 (List.length l23))), (13, (i64 0)), (71, (.sl (List.map eCell p0))), (72, (i64 (Sh.len p0))), (73, (i64 t22))], [⟨0, 3, 1, List.map eI l8⟩, ⟨0, 3, 1, List.map eI q17⟩, ⟨0, 3, 1, List.map eI l23⟩]⟩) N (0, []) h1 (by refine Wk.trans ((Wk.adopt (t := 12) rfl 3 (size := 1) (by decide)).trans (Wk.to (L := [(0, (.sl (List.map eCell p0))), (4, (.own 0 0 (List.length l8))), (11, (.own 1 0 (List.length q17))), (12, (.own 2 0 (List.length ([] : List Int)))), (13, (i64 0)), (71, (.sl (List.map eCell p0))), (72, (i64 (Sh.len p0))), (73, (i64 0))]) ⟨.rfl, .rfl, .rfl, .rfl, .rfl, .rfl, .rfl, .rfl, trivial⟩)) ?_; exact Wk.to (L := [(0, (.sl (List.map eCell p0))), (4, (.own 0 0 (List.length l8))), (11, (.own 1 0 (List.length q17))), (12, (.own 2 0 (List.length ([] : List Int)))), (13, (i64 0)), (71, (.sl (List.map eCell p0))), (72, (i64 (Sh.len p0))), (73, (i64 0))]) ⟨.rfl, .rfl, .rfl, .rfl, .rfl, .rfl, .rfl, .rfl, trivial⟩) (fun _ hv => by rw [impl_checkedHeap_L2] at hv; cases hv) ?_)
        rintro n ⟨t22, l23⟩ h1
        try dsimp only at h1 ⊢
        rw [impl_checkedHeap_L2] at h1
        refine AW.seq fun K68 hK68 => ?_
        refine AW.regionO (by rfl) ?_
        refine ao_q (v := (.bool (decide (t22 < (Sh.len p0))))) go0 rfl (aq_lt rfl rfl) ?_
        refine AO.done (hK68 _ ?_)
        refine AW.seq fun K69 hK69 => ?_
        refine AW.cond' (b := decide (t22 < (Sh.len p0))) rfl (fun b70 => ?_) (fun b70 => ?_)
        · replace h1 := Sh.ite_t b70 h1
          refine AW.skip (hK69 _ ?_)
          refine AW.seq fun K71 hK71 => ?_
          obtain ⟨o73, h2, h1⟩ := Sh.cont_some h1
          have M73 : ∀ (l72 : (List Int)), o73 = Sum.inr l72 → ∀ s, Wk 0 s ⟨159, envL [(0, (.sl (List.map eCell p0))), (4, (.own 0 0 (List.length l8))), (11, (.own 1 0 (List.length q17))), (12, (.own 2 0 (List.length l72))), (13, (i64 0)), (71, (.sl (List.map eCell p0))), (72, (i64 (Sh.len p0))), (73, (i64 t22))], [⟨0, 3, 1, List.map eI l8⟩, ⟨0, 3, 1, List.map eI q17⟩, ⟨0, 3, 1, List.map eI l72⟩]⟩ → K71 s := by
            intro l72 hq s hw
            subst o73
            try dsimp only at h1
            refine hK71 _ (AW.weaken hw ?_)
            refine AW.regionO (by rfl) ?_
            refine ao_q (v := (i64 (Sh.w (t22 + 1)))) go0 rfl (aq_add rfl rfl) ?_
            refine ao_q (v := (i64 (Sh.w (t22 + 1)))) go0 rfl (aq_mv rfl) ?_
            exact AO.done (Exists.intro (Sh.w (t22 + 1), l72) (And.intro h1 (Wk.to (L := [(0, (.sl (List.map eCell p0))), (4, (.own 0 0 (List.length l8))), (11, (.own 1 0 (List.length q17))), (12, (.own 2 0 (List.length l72))), (13, (i64 0)), (71, (.sl (List.map eCell p0))), (72, (i64 (Sh.len p0))), (73, (i64 (Sh.w (t22 + 1))))]) ⟨.rfl, .rfl, .rfl, .rfl, .rfl, .rfl, .rfl, .rfl, trivial⟩)))
          refine AW.block ?_
          refine AW.seq fun K74 hK74 => ?_
          refine AW.regionO (by rfl) ?_
          refine ao_q (v := (i64 t22)) go0 rfl (aq_mv rfl) ?_
          obtain ⟨c75, gc75, h2⟩ := Sh.bind_some h2
          refine ao_q (v := (.iptr (eCell c75) 0)) go0 rfl (aq_ixs ei25 rfl rfl gc75 rfl) ?_
          refine ao_q (v := (.agg [(i64 c75.count), (i64 c75.tag), (.sl (List.map eI c75.fields))])) go0 rfl (aq_ldia ti41 rfl (show 0 + 3 ≤ 3 by decide) rfl) ?_
          refine ao_alloc (m := 3) (st' := [⟨0, 3, 1, List.map eI l8⟩, ⟨0, 3, 1, List.map eI q17⟩, ⟨0, 3, 1, List.map eI l23⟩, ⟨0, 41, 3, [[(i64 0), (i64 0), .zc]]⟩]) go0 zi41 rfl rfl ?_
          refine ao_q (v := (i64 t22)) go0 rfl (aq_as rfl) ?_
          refine ao_str (st' := [⟨0, 3, 1, List.map eI l8⟩, ⟨0, 3, 1, List.map eI q17⟩, ⟨0, 3, 1, List.map eI l23⟩, ⟨0, 41, 3, [[(i64 c75.count), (i64 c75.tag), (.sl (List.map eI c75.fields))]]⟩]) go0 ti41 rfl rfl rfl rfl rfl rfl (show 0 + 3 ≤ 3 by decide) rfl ?_
          refine AO.done (hK74 _ ?_)
          refine AW.seq fun K76 hK76 => ?_
          refine AW.seq fun K77 hK77 => ?_
          obtain ⟨o79, h3, h2⟩ := Sh.bind_some h2
          have M79 : ∀ (t78 : Bool), o79 = t78 → ∀ s, Wk 0 s ⟨159, envL [(0, (.sl (List.map eCell p0))), (4, (.own 0 0 (List.length l8))), (11, (.own 1 0 (List.length q17))), (12, (.own 2 0 (List.length l23))), (13, (i64 0)), (14, (i64 t22)), (71, (.sl (List.map eCell p0))), (72, (i64 (Sh.len p0))), (73, (i64 t22)), (94, (.bool t78))], [⟨0, 3, 1, List.map eI l8⟩, ⟨0, 3, 1, List.map eI q17⟩, ⟨0, 3, 1, List.map eI l23⟩]⟩ → K77 s := by
            intro t78 hq s hw
            subst o79
            try dsimp only at h2
            refine hK77 _ (AW.weaken hw ?_)
            refine AW.cond' (b := t78) rfl (fun b80 => ?_) (fun b80 => ?_)
            · replace h2 := Sh.ite_t b80 h2
              refine AW.seq fun K81 hK81 => ?_
              refine AW.regionO (by rfl) ?_
              refine ao_q (v := .zc) go0 rfl (aq_as rfl) ?_
              refine ao_q (v := (.bool false)) go0 rfl (aq_as rfl) ?_
              refine AO.done (hK81 _ ?_)
              replace h2 := Sh.some_eq h2
              subst o73
              try dsimp only [id] at h1
              replace h1 := Sh.some_eq h1
              subst o25
              try dsimp only [id] at h0
              replace h0 := Sh.some_eq h0
              subst r
              exact AW.ret (Exists.intro _ (And.intro ((((Wk.adopt (t := 2) rfl 3 (size := 1) (by decide)).trans (Wk.to (L := [(2, (.own 3 0 (List.length ([] : List Int)))), (3, (.bool false))]) ⟨.rfl, .rfl, trivial⟩)).trans (Wk.permk (L := [(2, (.own 0 0 (List.length ([] : List Int)))), (3, (.bool false))]) (st' := [⟨0, 3, 1, List.map eI ([] : List Int)⟩]) (st1 := [⟨0, 3, 1, List.map eI ([] : List Int)⟩]) [3] rfl .nil (by decide) rfl rfl (.pure (pure_map fun _ => rfl) .nil) ⟨.rfl, .rfl, trivial⟩)).trans (Wk.to (L := [(2, (.own 0 0 (List.length ([] : List Int)))), (3, (.bool false))]) ⟨.rfl, .rfl, trivial⟩)) (And.intro rfl rfl)))
            · replace h2 := Sh.ite_f b80 h2
              refine AW.skip (hK76 _ ?_)
              refine AW.seq fun K82 hK82 => ?_
              refine AW.regionO (by rfl) ?_
              refine ao_q (v := (.own 0 0 (List.length l8))) go0 rfl (aq_mv rfl) ?_
              refine ao_q (v := (i64 t22)) go0 rfl (aq_mv rfl) ?_
              obtain ⟨c83, gc83, h2⟩ := Sh.bind_some h2
              refine ao_q (v := (.ptr 0 0 (Int.toNat t22) 0)) go0 rfl (aq_ixo ei32 rfl rfl rfl rfl gc83) ?_
              refine ao_q (v := (i64 c83)) go0 rfl (aq_ldp ti3 rfl rfl (map_get gc83) rfl) ?_
              refine ao_q (v := (.bool (decide (c83 = 0)))) go0 rfl (aq_eq rfl rfl) ?_
              refine AO.done (hK82 _ ?_)
              refine AW.cond' (b := decide (c83 = 0)) rfl (fun b84 => ?_) (fun b84 => ?_)
              · replace h2 := Sh.ite_t b84 h2
                refine AW.regionO (by rfl) ?_
                refine ao_q (v := (.own 2 0 (List.length l23))) go0 rfl (aq_mv rfl) ?_
                refine ao_q (v := (i64 t22)) go0 rfl (aq_mv rfl) ?_
                refine ao_bs (m := 3) (st' := [⟨0, 3, 1, List.map eI l8⟩, ⟨0, 3, 1, List.map eI q17⟩, ⟨0, 3, 1, List.map eI l23⟩, ⟨0, 3, 1, List.map eI [t22]⟩]) (l := [t22]) (enc := eI) go0 ei32 (by decide) rfl rfl rfl rfl rfl rfl ?_
                obtain ⟨l85, gl85, h2⟩ := Sh.bind_some h2
                refine ao_apo (st' := [⟨0, 3, 1, List.map eI l8⟩, ⟨0, 3, 1, List.map eI q17⟩, ⟨1, 3, 1, List.map eI l85⟩, ⟨0, 3, 1, List.map eI [t22]⟩]) (l2 := [t22]) go0 ei32 rfl rfl rfl rfl (el_o rfl rfl) (fun _ => rfl) gl85 rfl ?_
                refine ao_q (v := (.own 2 1 (List.length l85))) go0 rfl (aq_as rfl) ?_
                exact AO.done (M73 l85 (Sh.some_eq h2).symm _ (by refine Wk.trans (Wk.rg (L := [(0, (.sl (List.map eCell p0))), (4, (.own 0 0 (List.length l8))), (11, (.own 1 0 (List.length q17))), (12, (.own 2 0 (List.length l85))), (13, (i64 0)), (71, (.sl (List.map eCell p0))), (72, (i64 (Sh.len p0))), (73, (i64 t22))]) (st' := [⟨0, 3, 1, List.map eI l8⟩, ⟨0, 3, 1, List.map eI q17⟩, ⟨0, 3, 1, List.map eI l85⟩, ⟨0, 3, 1, List.map eI [t22]⟩]) (.pure (pure_map fun _ => rfl) (.pure (pure_map fun _ => rfl) (.pure (pure_map fun _ => rfl) (.pure (pure_map fun _ => rfl) .nil)))) ⟨.rfl, .rfl, .rfl, .rfl, .rfl, .rfl, .rfl, .rfl, trivial⟩) ?_; refine Wk.trans (Wk.permk (L := [(0, (.sl (List.map eCell p0))), (4, (.own 0 0 (List.length l8))), (11, (.own 1 0 (List.length q17))), (12, (.own 2 0 (List.length l85))), (13, (i64 0)), (71, (.sl (List.map eCell p0))), (72, (i64 (Sh.len p0))), (73, (i64 t22))]) (st' := [⟨0, 3, 1, List.map eI l8⟩, ⟨0, 3, 1, List.map eI q17⟩, ⟨0, 3, 1, List.map eI l85⟩]) (st1 := [⟨0, 3, 1, List.map eI l8⟩, ⟨0, 3, 1, List.map eI q17⟩, ⟨0, 3, 1, List.map eI l85⟩]) [0, 1, 2] rfl .nil (by decide) rfl rfl (.pure (pure_map fun _ => rfl) (.pure (pure_map fun _ => rfl) (.pure (pure_map fun _ => rfl) .nil))) ⟨.rfl, .rfl, .rfl, .rfl, .rfl, .rfl, .rfl, .rfl, trivial⟩) ?_; exact Wk.to (L := [(0, (.sl (List.map eCell p0))), (4, (.own 0 0 (List.length l8))), (11, (.own 1 0 (List.length q17))), (12, (.own 2 0 (List.length l85))), (13, (i64 0)), (71, (.sl (List.map eCell p0))), (72, (i64 (Sh.len p0))), (73, (i64 t22))]) ⟨.rfl, .rfl, .rfl, .rfl, .rfl, .rfl, .rfl, .rfl, trivial⟩))
              · replace h2 := Sh.ite_f b84 h2
                exact AW.skip (M73 l23 (Sh.some_eq h2).symm _ (Wk.to (L := [(0, (.sl (List.map eCell p0))), (4, (.own 0 0 (List.length l8))), (11, (.own 1 0 (List.length q17))), (12, (.own 2 0 (List.length l23))), (13, (i64 0)), (71, (.sl (List.map eCell p0))), (72, (i64 (Sh.len p0))), (73, (i64 t22))]) ⟨.rfl, .rfl, .rfl, .rfl, .rfl, .rfl, .rfl, .rfl, trivial⟩))
          refine AW.draw (by kernel_rfl) (by kernel_rfl) (by rfl) ?_
          refine d_q (v := (.ptr 3 0 0 0)) go0 rfl (aq_fap fi41_0 rfl rfl (show 0 + 0 ≤ 3 by decide) rfl) ?_
          refine d_q (v := (i64 c75.count)) go0 rfl (aq_ldp ti3 rfl rfl rfl rfl) ?_
          refine d_q (v := (.bool (decide (0 < c75.count)))) go0 rfl (aq_gt rfl rfl) ?_
          refine d_q (v := (.bool (decide (0 < c75.count)))) go0 rfl (aq_mv rfl) ?_
          rcases Sh.ite_some h3 with ⟨b86, h3⟩ | ⟨b86, h3⟩
          · skip
            refine d_q (v := (.ptr 3 0 0 0)) (go1 rfl rfl b86) rfl (aq_fap fi41_0 rfl rfl (show 0 + 0 ≤ 3 by decide) rfl) ?_
            refine d_q (v := (i64 c75.count)) (go1 rfl rfl b86) rfl (aq_ldp ti3 rfl rfl rfl rfl) ?_
            refine d_q (v := (.own 0 0 (List.length l8))) (go1 rfl rfl b86) rfl (aq_mv rfl) ?_
            refine d_q (v := (i64 t22)) (go1 rfl rfl b86) rfl (aq_mv rfl) ?_
            obtain ⟨c87, gc87, h3⟩ := Sh.bind_some h3
            refine d_q (v := (.ptr 0 0 (Int.toNat t22) 0)) (go1 rfl rfl b86) rfl (aq_ixo ei32 rfl rfl rfl rfl gc87) ?_
            refine d_q (v := (i64 c87)) (go1 rfl rfl b86) rfl (aq_ldp ti3 rfl rfl (map_get gc87) rfl) ?_
            refine d_q (v := (.bool (decide (c75.count < c87)))) (go1 rfl rfl b86) rfl (aq_lt rfl rfl) ?_
            refine d_q (v := (.bool (decide (c75.count < c87)))) (go1 rfl rfl b86) rfl (aq_mv rfl) ?_
            rcases Sh.ite_some h3 with ⟨b88, h3⟩ | ⟨b88, h3⟩
            · skip
              refine d_skip rfl rfl b88 ?_
              refine d_skip rfl rfl b88 ?_
              refine d_skip rfl rfl b88 ?_
              refine d_q (v := (.bool true)) (go1 rfl rfl b86) rfl (aq_pkt rfl b88 rfl) ?_
              refine d_q (v := (.bool true)) go0 rfl (aq_pkt rfl b86 rfl) ?_
              exact d_done (M79 true (Sh.some_eq h3).symm _ (by refine Wk.trans (Wk.permk (L := [(0, (.sl (List.map eCell p0))), (4, (.own 0 0 (List.length l8))), (11, (.own 1 0 (List.length q17))), (12, (.own 2 0 (List.length l23))), (13, (i64 0)), (14, (i64 t22)), (71, (.sl (List.map eCell p0))), (72, (i64 (Sh.len p0))), (73, (i64 t22)), (94, (.bool true))]) (st' := [⟨0, 3, 1, List.map eI l8⟩, ⟨0, 3, 1, List.map eI q17⟩, ⟨0, 3, 1, List.map eI l23⟩]) (st1 := [⟨0, 3, 1, List.map eI l8⟩, ⟨0, 3, 1, List.map eI q17⟩, ⟨0, 3, 1, List.map eI l23⟩]) [0, 1, 2] rfl .nil (by decide) rfl rfl (.pure (pure_map fun _ => rfl) (.pure (pure_map fun _ => rfl) (.pure (pure_map fun _ => rfl) .nil))) ⟨.rfl, .rfl, .rfl, .rfl, .rfl, .rfl, .rfl, .rfl, .rfl, .rfl, trivial⟩) ?_; exact Wk.to (L := [(0, (.sl (List.map eCell p0))), (4, (.own 0 0 (List.length l8))), (11, (.own 1 0 (List.length q17))), (12, (.own 2 0 (List.length l23))), (13, (i64 0)), (14, (i64 t22)), (71, (.sl (List.map eCell p0))), (72, (i64 (Sh.len p0))), (73, (i64 t22)), (94, (.bool true))]) ⟨.rfl, .rfl, .rfl, .rfl, .rfl, .rfl, .rfl, .rfl, .rfl, .rfl, trivial⟩))
            · skip
              refine d_q (v := (.ptr 3 0 0 0)) (go1 rfl rfl b88) rfl (aq_fap fi41_0 rfl rfl (show 0 + 0 ≤ 3 by decide) rfl) ?_
              refine d_q (v := (i64 c75.count)) (go1 rfl rfl b88) rfl (aq_ldp ti3 rfl rfl rfl rfl) ?_
              refine d_q (v := (.bool (decide (999999 < c75.count)))) (go1 rfl rfl b88) rfl (aq_gt rfl rfl) ?_
              refine d_q (v := (.bool (decide (999999 < c75.count)))) (go1 rfl rfl b86) rfl (aq_pkf rfl b88 rfl) ?_
              refine d_q (v := (.bool (decide (999999 < c75.count)))) go0 rfl (aq_pkt rfl b86 rfl) ?_
              exact d_done (M79 (decide (999999 < c75.count)) (Sh.some_eq h3).symm _ (by refine Wk.trans (Wk.permk (L := [(0, (.sl (List.map eCell p0))), (4, (.own 0 0 (List.length l8))), (11, (.own 1 0 (List.length q17))), (12, (.own 2 0 (List.length l23))), (13, (i64 0)), (14, (i64 t22)), (71, (.sl (List.map eCell p0))), (72, (i64 (Sh.len p0))), (73, (i64 t22)), (94, (.bool (decide (999999 < c75.count))))]) (st' := [⟨0, 3, 1, List.map eI l8⟩, ⟨0, 3, 1, List.map eI q17⟩, ⟨0, 3, 1, List.map eI l23⟩]) (st1 := [⟨0, 3, 1, List.map eI l8⟩, ⟨0, 3, 1, List.map eI q17⟩, ⟨0, 3, 1, List.map eI l23⟩]) [0, 1, 2] rfl .nil (by decide) rfl rfl (.pure (pure_map fun _ => rfl) (.pure (pure_map fun _ => rfl) (.pure (pure_map fun _ => rfl) .nil))) ⟨.rfl, .rfl, .rfl, .rfl, .rfl, .rfl, .rfl, .rfl, .rfl, .rfl, trivial⟩) ?_; exact Wk.to (L := [(0, (.sl (List.map eCell p0))), (4, (.own 0 0 (List.length l8))), (11, (.own 1 0 (List.length q17))), (12, (.own 2 0 (List.length l23))), (13, (i64 0)), (14, (i64 t22)), (71, (.sl (List.map eCell p0))), (72, (i64 (Sh.len p0))), (73, (i64 t22)), (94, (.bool (decide (999999 < c75.count))))]) ⟨.rfl, .rfl, .rfl, .rfl, .rfl, .rfl, .rfl, .rfl, .rfl, .rfl, trivial⟩))
          · skip
            refine d_skip rfl rfl b86 ?_
            refine d_skip rfl rfl b86 ?_
            refine d_skip rfl rfl b86 ?_
            refine d_skip rfl rfl b86 ?_
            refine d_skip rfl rfl b86 ?_
            refine d_skip rfl rfl b86 ?_
            refine d_skip rfl rfl b86 ?_
            refine d_skip rfl rfl b86 ?_
            refine d_none rfl rfl ?_
            refine d_none rfl rfl ?_
            refine d_none rfl rfl ?_
            refine d_skip rfl rfl b86 ?_
            refine d_q (v := (.bool false)) go0 rfl (aq_pkf rfl b86 rfl) ?_
            exact d_done (M79 false (Sh.some_eq h3).symm _ (by refine Wk.trans (Wk.permk (L := [(0, (.sl (List.map eCell p0))), (4, (.own 0 0 (List.length l8))), (11, (.own 1 0 (List.length q17))), (12, (.own 2 0 (List.length l23))), (13, (i64 0)), (14, (i64 t22)), (71, (.sl (List.map eCell p0))), (72, (i64 (Sh.len p0))), (73, (i64 t22)), (94, (.bool false))]) (st' := [⟨0, 3, 1, List.map eI l8⟩, ⟨0, 3, 1, List.map eI q17⟩, ⟨0, 3, 1, List.map eI l23⟩]) (st1 := [⟨0, 3, 1, List.map eI l8⟩, ⟨0, 3, 1, List.map eI q17⟩, ⟨0, 3, 1, List.map eI l23⟩]) [0, 1, 2] rfl .nil (by decide) rfl rfl (.pure (pure_map fun _ => rfl) (.pure (pure_map fun _ => rfl) (.pure (pure_map fun _ => rfl) .nil))) ⟨.rfl, .rfl, .rfl, .rfl, .rfl, .rfl, .rfl, .rfl, .rfl, .rfl, trivial⟩) ?_; exact Wk.to (L := [(0, (.sl (List.map eCell p0))), (4, (.own 0 0 (List.length l8))), (11, (.own 1 0 (List.length q17))), (12, (.own 2 0 (List.length l23))), (13, (i64 0)), (14, (i64 t22)), (71, (.sl (List.map eCell p0))), (72, (i64 (Sh.len p0))), (73, (i64 t22)), (94, (.bool false))]) ⟨.rfl, .rfl, .rfl, .rfl, .rfl, .rfl, .rfl, .rfl, .rfl, .rfl, trivial⟩))
        · replace h1 := Sh.ite_f b70 h1
          exact AW.exit (M25 l23 (Sh.some_eq h1).symm _ (Wk.to (L := [(0, (.sl (List.map eCell p0))), (4, (.own 0 0 (List.length l8))), (11, (.own 1 0 (List.length q17))), (12, (.own 2 0 (List.length l23))), (13, (i64 0))]) ⟨.rfl, .rfl, .rfl, .rfl, .rfl, trivial⟩))
    refine AW.regionO (by rfl) ?_
    refine ao_q (v := (.sl (List.map eCell p0))) go0 rfl (aq_mv rfl) ?_
    refine ao_q (v := (i64 (Sh.len p0))) go0 rfl (aq_lens sl25 rfl) ?_
    refine ao_q (v := (.bool (decide (0 < (Sh.len p0))))) go0 rfl (aq_gt rfl rfl) ?_
    refine ao_q (v := (.bool (decide (0 < (Sh.len p0))))) go0 rfl (aq_mv rfl) ?_
    rcases Sh.ite_some h1 with ⟨b89, h1⟩ | ⟨b89, h1⟩
    · skip
      refine ao_q (v := (.sl (List.map eCell p0))) (go1 rfl rfl b89) rfl (aq_mv rfl) ?_
      refine ao_q (v := (.sl (List.map eCell p0))) (go1 rfl rfl b89) rfl (aq_mv rfl) ?_
      refine ao_q (v := (i64 (Sh.len p0))) (go1 rfl rfl b89) rfl (aq_lens sl25 rfl) ?_
      refine ao_q (v := (i64 (Sh.w ((Sh.len p0) - 1)))) (go1 rfl rfl b89) rfl (aq_sub rfl rfl) ?_
      obtain ⟨c90, gc90, h1⟩ := Sh.bind_some h1
      refine ao_q (v := (.iptr (eCell c90) 0)) (go1 rfl rfl b89) rfl (aq_ixs ei25 rfl rfl gc90 rfl) ?_
      refine ao_q (v := (.iptr (eCell c90) 0)) (go1 rfl rfl b89) rfl (aq_fai fi41_0 rfl rfl) ?_
      refine ao_q (v := (i64 c90.count)) (go1 rfl rfl b89) rfl (aq_ldi ti3 rfl rfl) ?_
      refine ao_q (v := (.bool (decide (c90.count = 0)))) (go1 rfl rfl b89) rfl (aq_eq rfl rfl) ?_
      refine ao_q (v := (.bool (decide (c90.count = 0)))) go0 rfl (aq_pkt rfl b89 rfl) ?_
      exact AO.done (M13 (decide (c90.count = 0)) (Sh.some_eq h1).symm _ (Wk.to (L := [(0, (.sl (List.map eCell p0))), (4, (.own 0 0 (List.length l8))), (68, (.bool (decide (c90.count = 0))))]) ⟨.rfl, .rfl, .rfl, trivial⟩))
    · skip
      refine ao_skip rfl rfl b89 ?_
      refine ao_skip rfl rfl b89 ?_
      refine ao_skip rfl rfl b89 ?_
      refine ao_skip rfl rfl b89 ?_
      refine ao_skip rfl rfl b89 ?_
      refine ao_skip rfl rfl b89 ?_
      refine ao_skip rfl rfl b89 ?_
      refine ao_skip rfl rfl b89 ?_
      refine ao_q (v := (.bool false)) go0 rfl (aq_pkf rfl b89 rfl) ?_
      exact AO.done (M13 false (Sh.some_eq h1).symm _ (Wk.to (L := [(0, (.sl (List.map eCell p0))), (4, (.own 0 0 (List.length l8))), (68, (.bool false))]) ⟨.rfl, .rfl, .rfl, trivial⟩))
  refine AW.block (AW.loopF (σ := Int × (List Int)) (fun n v => impl_checkedHeap_L1 N p0 n v.1 v.2 = some o9) (fun (t6, l7) => ⟨159, envL [(0, (.sl (List.map eCell p0))), (4, (.own 0 0 (List.length l7))), (24, (.sl (List.map eCell p0))), (25, (i64 (Sh.len p0))), (26, (i64 t6))], [⟨0, 3, 1, List.map eI l7⟩]⟩) N (0, l3) h1 (Wk.to (L := [(0, (.sl (List.map eCell p0))), (4, (.own 0 0 (List.length l3))), (24, (.sl (List.map eCell p0))), (25, (i64 (Sh.len p0))), (26, (i64 0))]) ⟨.rfl, .rfl, .rfl, .rfl, .rfl, trivial⟩) (fun _ hv => by rw [impl_checkedHeap_L1] at hv; cases hv) ?_)
  rintro n ⟨t6, l7⟩ h1
  try dsimp only at h1 ⊢
  rw [impl_checkedHeap_L1] at h1
  refine AW.seq fun K91 hK91 => ?_
  refine AW.regionO (by rfl) ?_
  refine ao_q (v := (.bool (decide (t6 < (Sh.len p0))))) go0 rfl (aq_lt rfl rfl) ?_
  refine AO.done (hK91 _ ?_)
  refine AW.seq fun K92 hK92 => ?_
  refine AW.cond' (b := decide (t6 < (Sh.len p0))) rfl (fun b93 => ?_) (fun b93 => ?_)
  · replace h1 := Sh.ite_t b93 h1
    refine AW.skip (hK92 _ ?_)
    refine AW.seq fun K94 hK94 => ?_
    refine AW.block ?_
    refine AW.seq fun K95 hK95 => ?_
    refine AW.regionO (by rfl) ?_
    obtain ⟨c96, gc96, h1⟩ := Sh.bind_some h1
    refine ao_q (v := (.iptr (eCell c96) 0)) go0 rfl (aq_ixs ei25 rfl rfl gc96 rfl) ?_
    refine ao_q (v := (.agg [(i64 c96.count), (i64 c96.tag), (.sl (List.map eI c96.fields))])) go0 rfl (aq_ldia ti41 rfl (show 0 + 3 ≤ 3 by decide) rfl) ?_
    refine ao_alloc (m := 1) (st' := [⟨0, 3, 1, List.map eI l7⟩, ⟨0, 41, 3, [[(i64 0), (i64 0), .zc]]⟩]) go0 zi41 rfl rfl ?_
    refine ao_str (st' := [⟨0, 3, 1, List.map eI l7⟩, ⟨0, 41, 3, [[(i64 c96.count), (i64 c96.tag), (.sl (List.map eI c96.fields))]]⟩]) go0 ti41 rfl rfl rfl rfl rfl rfl (show 0 + 3 ≤ 3 by decide) rfl ?_
    refine AO.done (hK95 _ ?_)
    refine AW.seq fun K97 hK97 => ?_
    refine AW.seq fun K98 hK98 => ?_
    refine AW.regionO (by rfl) ?_
    refine ao_q (v := (.sl (List.map eCell p0))) go0 rfl (aq_mv rfl) ?_
    refine ao_q (v := (.agg [(i64 c96.count), (i64 c96.tag), (.sl (List.map eI c96.fields))])) go0 rfl (aq_ldpa ti41 rfl rfl rfl (show 0 + 3 ≤ 3 by decide) rfl) ?_
    obtain ⟨q99, gq99, h1⟩ := Sh.bind_some h1
    refine ao_call (v' := (.bool q99)) (st' := [⟨0, 3, 1, List.map eI l7⟩, ⟨0, 41, 3, [[(i64 c96.count), (i64 c96.tag), (.sl (List.map eI c96.fields))]]⟩]) go0 hb91 (impl_cellValid_ok gq99) rfl rfl trivial rfl rfl ?_
    refine ao_q (v := (.bool (!q99))) go0 rfl (aq_not rfl) ?_
    refine AO.done (hK98 _ ?_)
    refine AW.cond' (b := !q99) rfl (fun b100 => ?_) (fun b100 => ?_)
    · replace h1 := Sh.ite_t b100 h1
      have b101 : q99 = false := by simpa using b100
      refine AW.seq fun K102 hK102 => ?_
      refine AW.regionO (by rfl) ?_
      refine ao_q (v := .zc) go0 rfl (aq_as rfl) ?_
      refine ao_q (v := (.bool false)) go0 rfl (aq_as rfl) ?_
      refine AO.done (hK102 _ ?_)
      replace h1 := Sh.some_eq h1
      subst o9
      try dsimp only [id] at h0
      replace h0 := Sh.some_eq h0
      subst r
      exact AW.ret (Exists.intro _ (And.intro ((((Wk.adopt (t := 2) rfl 3 (size := 1) (by decide)).trans (Wk.to (L := [(2, (.own 2 0 (List.length ([] : List Int)))), (3, (.bool false))]) ⟨.rfl, .rfl, trivial⟩)).trans (Wk.permk (L := [(2, (.own 0 0 (List.length ([] : List Int)))), (3, (.bool false))]) (st' := [⟨0, 3, 1, List.map eI ([] : List Int)⟩]) (st1 := [⟨0, 3, 1, List.map eI ([] : List Int)⟩]) [2] rfl .nil (by decide) rfl rfl (.pure (pure_map fun _ => rfl) .nil) ⟨.rfl, .rfl, trivial⟩)).trans (Wk.to (L := [(2, (.own 0 0 (List.length ([] : List Int)))), (3, (.bool false))]) ⟨.rfl, .rfl, trivial⟩)) (And.intro rfl rfl)))
    · replace h1 := Sh.ite_f b100 h1
      have b103 : q99 = true := by simpa using b100
      refine AW.skip (hK97 _ ?_)
      refine AW.seq fun K104 hK104 => ?_
      refine AW.regionO (by rfl) ?_
      refine ao_q (v := (.ptr 1 0 0 2)) go0 rfl (aq_fap fi41_2 rfl rfl (show 0 + 2 ≤ 3 by decide) rfl) ?_
      refine ao_q (v := (.sl (List.map eI c96.fields))) go0 rfl (aq_ldp ti32 rfl rfl rfl rfl) ?_
      refine ao_q (v := (i64 (Sh.len c96.fields))) go0 rfl (aq_lens sl32 rfl) ?_
      refine ao_q (v := (i64 0)) go0 rfl (aq_mv rfl) ?_
      refine AO.done (hK104 _ ?_)
      obtain ⟨o108, h2, h1⟩ := Sh.bind_some h1
      have M108 : ∀ (l107 : (List Int)), o108 = l107 → ∀ s, Wk 0 s ⟨159, envL [(0, (.sl (List.map eCell p0))), (4, (.own 0 0 (List.length l107))), (24, (.sl (List.map eCell p0))), (25, (i64 (Sh.len p0))), (26, (i64 t6))], [⟨0, 3, 1, List.map eI l107⟩]⟩ → K94 s := by
        intro l107 hq s hw
        subst o108
        try dsimp only at h1
        refine hK94 _ (AW.weaken hw ?_)
        refine AW.regionO (by rfl) ?_
        refine ao_q (v := (i64 (Sh.w (t6 + 1)))) go0 rfl (aq_add rfl rfl) ?_
        refine ao_q (v := (i64 (Sh.w (t6 + 1)))) go0 rfl (aq_mv rfl) ?_
        exact AO.done (Exists.intro (Sh.w (t6 + 1), l107) (And.intro h1 (Wk.to (L := [(0, (.sl (List.map eCell p0))), (4, (.own 0 0 (List.length l107))), (24, (.sl (List.map eCell p0))), (25, (i64 (Sh.len p0))), (26, (i64 (Sh.w (t6 + 1))))]) ⟨.rfl, .rfl, .rfl, .rfl, .rfl, trivial⟩)))
      refine AW.block (AW.loopF (σ := Int × (List Int)) (fun n v => impl_checkedHeap_L5 c96 p0 n v.1 v.2 = some o108) (fun (t105, l106) => ⟨159, envL [(0, (.sl (List.map eCell p0))), (4, (.own 0 0 (List.length l106))), (24, (.sl (List.map eCell p0))), (25, (i64 (Sh.len p0))), (26, (i64 t6)), (35, (.sl (List.map eI c96.fields))), (36, (i64 (Sh.len c96.fields))), (37, (i64 t105))], [⟨0, 3, 1, List.map eI l106⟩]⟩) N (0, l7) h2 (by refine Wk.trans (Wk.permk (L := [(0, (.sl (List.map eCell p0))), (4, (.own 0 0 (List.length l7))), (24, (.sl (List.map eCell p0))), (25, (i64 (Sh.len p0))), (26, (i64 t6)), (35, (.sl (List.map eI c96.fields))), (36, (i64 (Sh.len c96.fields))), (37, (i64 0))]) (st' := [⟨0, 3, 1, List.map eI l7⟩]) (st1 := [⟨0, 3, 1, List.map eI l7⟩]) [0] rfl .nil (by decide) rfl rfl (.pure (pure_map fun _ => rfl) .nil) ⟨.rfl, .rfl, .rfl, .rfl, .rfl, .rfl, .rfl, .rfl, trivial⟩) ?_; exact Wk.to (L := [(0, (.sl (List.map eCell p0))), (4, (.own 0 0 (List.length l7))), (24, (.sl (List.map eCell p0))), (25, (i64 (Sh.len p0))), (26, (i64 t6)), (35, (.sl (List.map eI c96.fields))), (36, (i64 (Sh.len c96.fields))), (37, (i64 0))]) ⟨.rfl, .rfl, .rfl, .rfl, .rfl, .rfl, .rfl, .rfl, trivial⟩) (fun _ hv => by rw [impl_checkedHeap_L5] at hv; cases hv) ?_)
      rintro n ⟨t105, l106⟩ h2
      try dsimp only at h2 ⊢
      rw [impl_checkedHeap_L5] at h2
      refine AW.seq fun K109 hK109 => ?_
      refine AW.regionO (by rfl) ?_
      refine ao_q (v := (.bool (decide (t105 < (Sh.len c96.fields))))) go0 rfl (aq_lt rfl rfl) ?_
      refine AO.done (hK109 _ ?_)
      refine AW.seq fun K110 hK110 => ?_
      refine AW.cond' (b := decide (t105 < (Sh.len c96.fields))) rfl (fun b111 => ?_) (fun b111 => ?_)
      · replace h2 := Sh.ite_t b111 h2
        refine AW.skip (hK110 _ ?_)
        refine AW.seq fun K112 hK112 => ?_
        obtain ⟨o114, h3, h2⟩ := Sh.bind_some h2
        have M114 : ∀ (l113 : (List Int)), o114 = l113 → ∀ s, Wk 0 s ⟨159, envL [(0, (.sl (List.map eCell p0))), (4, (.own 0 0 (List.length l113))), (24, (.sl (List.map eCell p0))), (25, (i64 (Sh.len p0))), (26, (i64 t6)), (35, (.sl (List.map eI c96.fields))), (36, (i64 (Sh.len c96.fields))), (37, (i64 t105))], [⟨0, 3, 1, List.map eI l113⟩]⟩ → K112 s := by
          intro l113 hq s hw
          subst o114
          try dsimp only at h2
          refine hK112 _ (AW.weaken hw ?_)
          refine AW.regionO (by rfl) ?_
          refine ao_q (v := (i64 (Sh.w (t105 + 1)))) go0 rfl (aq_add rfl rfl) ?_
          refine ao_q (v := (i64 (Sh.w (t105 + 1)))) go0 rfl (aq_mv rfl) ?_
          exact AO.done (Exists.intro (Sh.w (t105 + 1), l113) (And.intro h2 (Wk.to (L := [(0, (.sl (List.map eCell p0))), (4, (.own 0 0 (List.length l113))), (24, (.sl (List.map eCell p0))), (25, (i64 (Sh.len p0))), (26, (i64 t6)), (35, (.sl (List.map eI c96.fields))), (36, (i64 (Sh.len c96.fields))), (37, (i64 (Sh.w (t105 + 1))))]) ⟨.rfl, .rfl, .rfl, .rfl, .rfl, .rfl, .rfl, .rfl, trivial⟩)))
        refine AW.block ?_
        refine AW.seq fun K115 hK115 => ?_
        refine AW.regionO (by rfl) ?_
        obtain ⟨c116, gc116, h3⟩ := Sh.bind_some h3
        refine ao_q (v := (.iptr (eI c116) 0)) go0 rfl (aq_ixs ei32 rfl rfl gc116 rfl) ?_
        refine ao_q (v := (i64 c116)) go0 rfl (aq_ldi ti3 rfl rfl) ?_
        refine ao_q (v := (i64 c116)) go0 rfl (aq_as rfl) ?_
        refine AO.done (hK115 _ ?_)
        refine AW.seq fun K117 hK117 => ?_
        refine AW.regionO (by rfl) ?_
        refine ao_q (v := (.sl (List.map eCell p0))) go0 rfl (aq_mv rfl) ?_
        refine ao_q (v := (i64 c116)) go0 rfl (aq_mv rfl) ?_
        obtain ⟨q118, gq118, h3⟩ := Sh.bind_some h3
        refine ao_call (v' := (.tup [(i64 q118.1), (.bool q118.2)])) (st' := [⟨0, 3, 1, List.map eI l106⟩]) go0 hb71 (impl_liveAt_ok gq118) rfl rfl trivial rfl rfl ?_
        refine ao_q (v := (.tup [(i64 q118.1), (.bool q118.2)])) go0 rfl (aq_mv rfl) ?_
        refine ao_q (v := (i64 q118.1)) go0 rfl (aq_ex rfl rfl) ?_
        refine ao_q (v := (.bool q118.2)) go0 rfl (aq_ex rfl rfl) ?_
        refine ao_q (v := (i64 q118.1)) go0 rfl (aq_as rfl) ?_
        refine ao_q (v := (.bool q118.2)) go0 rfl (aq_as rfl) ?_
        refine AO.done (hK117 _ ?_)
        refine AW.seq fun K119 hK119 => ?_
        refine AW.regionO (by rfl) ?_
        refine ao_q (v := (.bool q118.2)) go0 rfl (aq_mv rfl) ?_
        refine AO.done (hK119 _ ?_)
        refine AW.cond' (b := q118.2) rfl (fun b120 => ?_) (fun b120 => ?_)
        · replace h3 := Sh.ite_t b120 h3
          refine AW.regionO (by rfl) ?_
          refine ao_q (v := (.own 0 0 (List.length l106))) go0 rfl (aq_mv rfl) ?_
          refine ao_q (v := (i64 q118.1)) go0 rfl (aq_mv rfl) ?_
          obtain ⟨c121, gc121, h3⟩ := Sh.bind_some h3
          refine ao_q (v := (.ptr 0 0 (Int.toNat q118.1) 0)) go0 rfl (aq_ixo ei32 rfl rfl rfl rfl gc121) ?_
          refine ao_q (v := (i64 c121)) go0 rfl (aq_ldp ti3 rfl rfl (map_get gc121) rfl) ?_
          refine ao_q (v := (i64 (Sh.w (c121 + 1)))) go0 rfl (aq_add rfl rfl) ?_
          refine ao_q (v := (.ptr 0 0 (Int.toNat q118.1) 0)) go0 rfl (aq_ixo ei32 rfl rfl rfl rfl gc121) ?_
          refine ao_stl (st' := [⟨0, 3, 1, List.map eI (Sh.put l106 q118.1 (Sh.w (c121 + 1)))⟩]) (u' := Sh.w (c121 + 1)) go0 ti3 rfl rfl gc121 rfl rfl rfl (show 0 + 1 ≤ 1 by decide) rfl rfl ?_
          exact AO.done (M114 (Sh.put l106 q118.1 (Sh.w (c121 + 1))) (Sh.some_eq h3).symm _ (Wk.to (L := [(0, (.sl (List.map eCell p0))), (4, (.own 0 0 (List.length (Sh.put l106 q118.1 (Sh.w (c121 + 1)))))), (24, (.sl (List.map eCell p0))), (25, (i64 (Sh.len p0))), (26, (i64 t6)), (35, (.sl (List.map eI c96.fields))), (36, (i64 (Sh.len c96.fields))), (37, (i64 t105))]) ⟨.rfl, (.len (by simp only [Sh.put_len])), .rfl, .rfl, .rfl, .rfl, .rfl, .rfl, trivial⟩))
        · replace h3 := Sh.ite_f b120 h3
          exact AW.skip (M114 l106 (Sh.some_eq h3).symm _ (Wk.to (L := [(0, (.sl (List.map eCell p0))), (4, (.own 0 0 (List.length l106))), (24, (.sl (List.map eCell p0))), (25, (i64 (Sh.len p0))), (26, (i64 t6)), (35, (.sl (List.map eI c96.fields))), (36, (i64 (Sh.len c96.fields))), (37, (i64 t105))]) ⟨.rfl, .rfl, .rfl, .rfl, .rfl, .rfl, .rfl, .rfl, trivial⟩))
      · replace h2 := Sh.ite_f b111 h2
        exact AW.exit (M108 l106 (Sh.some_eq h2).symm _ (Wk.to (L := [(0, (.sl (List.map eCell p0))), (4, (.own 0 0 (List.length l106))), (24, (.sl (List.map eCell p0))), (25, (i64 (Sh.len p0))), (26, (i64 t6))]) ⟨.rfl, .rfl, .rfl, .rfl, .rfl, trivial⟩))
  · replace h1 := Sh.ite_f b93 h1
    exact AW.exit (M9 l7 (Sh.some_eq h1).symm _ (Wk.to (L := [(0, (.sl (List.map eCell p0))), (4, (.own 0 0 (List.length l7)))]) ⟨.rfl, .rfl, trivial⟩))

set_option maxRecDepth 100000 in
set_option maxHeartbeats 4000000 in
theorem impl_ValidHeap_ok {N : Nat} {p0 : (List Cell)} {r : Bool} (h0 : impl_ValidHeap N p0 = some r) : ACalls Try.prog 25 [(.sl (List.map eCell p0))] [] (fun v st => v = (.bool r) ∧ st = []) := by
  unfold impl_ValidHeap at h0
  refine ACalls.intro Try.func25 rfl (by show 1 ≤ 11; decide) ?_
  show AW _ 0 _ (aret _ 0 Try.f25 _) ⟨11, _, _⟩
  refine AW.weaken (Wk.to (L := [(0, (.sl (List.map eCell p0)))]) ⟨.rfl, trivial⟩) ?_
  refine AW.seq fun K1 hK1 => ?_
  refine AW.regionO (by rfl) ?_
  refine ao_q (v := (.bool false)) go0 rfl (aq_as rfl) ?_
  refine AO.done (hK1 _ ?_)
  refine AW.seq fun K2 hK2 => ?_
  refine AW.regionO (by rfl) ?_
  refine ao_q (v := (.sl (List.map eCell p0))) go0 rfl (aq_mv rfl) ?_
  obtain ⟨q3, gq3, h0⟩ := Sh.bind_some h0
  refine ao_call (v' := (.tup [(.own 0 0 (List.length q3.1)), (.bool q3.2)])) (st' := [⟨0, 3, 1, List.map eI q3.1⟩]) go0 hb63 (impl_checkedHeap_ok gq3) rfl rfl ⟨pure_map fun _ => rfl, trivial⟩ rfl rfl ?_
  refine ao_q (v := (.tup [(.own 0 0 (List.length q3.1)), (.bool q3.2)])) go0 rfl (aq_mv rfl) ?_
  refine ao_q (v := (.own 0 0 (List.length q3.1))) go0 rfl (aq_ex rfl rfl) ?_
  refine ao_q (v := (.bool q3.2)) go0 rfl (aq_ex rfl rfl) ?_
  refine ao_q (v := (.own 0 0 (List.length q3.1))) go0 rfl (aq_as rfl) ?_
  refine ao_q (v := (.bool q3.2)) go0 rfl (aq_as rfl) ?_
  refine AO.done (hK2 _ ?_)
  refine AW.seq fun K4 hK4 => ?_
  refine AW.regionO (by rfl) ?_
  refine ao_q (v := (.bool q3.2)) go0 rfl (aq_mv rfl) ?_
  refine ao_q (v := (.bool q3.2)) go0 rfl (aq_as rfl) ?_
  refine AO.done (hK4 _ ?_)
  replace h0 := Sh.some_eq h0
  subst r
  exact AW.ret (Exists.intro _ (And.intro ((Wk.permk (L := [(2, (.bool q3.2))]) (st' := []) (st1 := []) [] rfl .nil (by decide) rfl rfl .nil ⟨.rfl, trivial⟩).trans (Wk.to (L := [(2, (.bool q3.2))]) ⟨.rfl, trivial⟩)) (And.intro rfl rfl)))

set_option maxRecDepth 100000 in
set_option maxHeartbeats 4000000 in
theorem impl_indicesOf_ok {N : Nat} {p0 : (List Bool)} {r : (List Int)} (h0 : impl_indicesOf N p0 = some r) : ACalls Try.prog 72 [(.sl (List.map eB p0))] [] (fun v st => v = (.own 0 0 (List.length r)) ∧ st = [⟨0, 3, 1, List.map eI r⟩]) := by
  unfold impl_indicesOf at h0
  refine ACalls.intro Try.func72 rfl (by show 1 ≤ 20; decide) ?_
  show AW _ 0 _ (aret _ 0 Try.f72 _) ⟨20, _, _⟩
  refine AW.weaken (Wk.to (L := [(0, (.sl (List.map eB p0)))]) ⟨.rfl, trivial⟩) ?_
  refine AW.seq fun K1 hK1 => ?_
  refine AW.regionO (by rfl) ?_
  refine ao_q (v := .zc) go0 rfl (aq_as rfl) ?_
  refine AO.done (hK1 _ ?_)
  refine AW.seq fun K2 hK2 => ?_
  refine AW.regionO (by rfl) ?_
  refine ao_q (v := .zc) go0 rfl (aq_as rfl) ?_
  refine AO.done (hK2 _ ?_)
  refine AW.seq fun K3 hK3 => ?_
  refine AW.seq fun K4 hK4 => ?_
  refine AW.regionO (by rfl) ?_
  refine ao_q (v := (.sl (List.map eB p0))) go0 rfl (aq_mv rfl) ?_
  refine ao_q (v := (i64 (Sh.len p0))) go0 rfl (aq_lens sl63 rfl) ?_
  refine ao_q (v := (i64 0)) go0 rfl (aq_mv rfl) ?_
  refine AO.done (hK4 _ ?_)
  obtain ⟨o8, h1, h0⟩ := Sh.bind_some h0
  have M8 : ∀ (l7 : (List Int)), o8 = l7 → ∀ s, Wk 0 s ⟨20, envL [(3, (.own 0 0 (List.length l7)))], [⟨0, 3, 1, List.map eI l7⟩]⟩ → K3 s := by
    intro l7 hq s hw
    subst o8
    try dsimp only at h0
    refine hK3 _ (AW.weaken hw ?_)
    refine AW.seq fun K9 hK9 => ?_
    refine AW.regionO (by rfl) ?_
    refine ao_q (v := (.own 0 0 (List.length l7))) go0 rfl (aq_mv rfl) ?_
    refine ao_q (v := (.own 0 0 (List.length l7))) go0 rfl (aq_as rfl) ?_
    refine AO.done (hK9 _ ?_)
    replace h0 := Sh.some_eq h0
    subst r
    exact AW.ret (Exists.intro _ (And.intro (Wk.to (L := [(2, (.own 0 0 (List.length l7)))]) ⟨.rfl, trivial⟩) (And.intro rfl rfl)))
  refine AW.block (AW.loopF (σ := Int × (List Int)) (fun n v => impl_indicesOf_L1 p0 n v.1 v.2 = some o8) (fun (t5, l6) => ⟨20, envL [(3, (.own 0 0 (List.length l6))), (6, (.sl (List.map eB p0))), (7, (i64 (Sh.len p0))), (8, (i64 t5))], [⟨0, 3, 1, List.map eI l6⟩]⟩) N (0, []) h1 (by refine Wk.trans ((Wk.adopt (t := 3) rfl 3 (size := 1) (by decide)).trans (Wk.to (L := [(3, (.own 0 0 (List.length ([] : List Int)))), (6, (.sl (List.map eB p0))), (7, (i64 (Sh.len p0))), (8, (i64 0))]) ⟨.rfl, .rfl, .rfl, .rfl, trivial⟩)) ?_; exact Wk.to (L := [(3, (.own 0 0 (List.length ([] : List Int)))), (6, (.sl (List.map eB p0))), (7, (i64 (Sh.len p0))), (8, (i64 0))]) ⟨.rfl, .rfl, .rfl, .rfl, trivial⟩) (fun _ hv => by rw [impl_indicesOf_L1] at hv; cases hv) ?_)
  rintro n ⟨t5, l6⟩ h1
  try dsimp only at h1 ⊢
  rw [impl_indicesOf_L1] at h1
  refine AW.seq fun K10 hK10 => ?_
  refine AW.regionO (by rfl) ?_
  refine ao_q (v := (.bool (decide (t5 < (Sh.len p0))))) go0 rfl (aq_lt rfl rfl) ?_
  refine AO.done (hK10 _ ?_)
  refine AW.seq fun K11 hK11 => ?_
  refine AW.cond' (b := decide (t5 < (Sh.len p0))) rfl (fun b12 => ?_) (fun b12 => ?_)
  · replace h1 := Sh.ite_t b12 h1
    refine AW.skip (hK11 _ ?_)
    refine AW.seq fun K13 hK13 => ?_
    obtain ⟨o15, h2, h1⟩ := Sh.bind_some h1
    have M15 : ∀ (l14 : (List Int)), o15 = l14 → ∀ s, Wk 0 s ⟨20, envL [(3, (.own 0 0 (List.length l14))), (6, (.sl (List.map eB p0))), (7, (i64 (Sh.len p0))), (8, (i64 t5))], [⟨0, 3, 1, List.map eI l14⟩]⟩ → K13 s := by
      intro l14 hq s hw
      subst o15
      try dsimp only at h1
      refine hK13 _ (AW.weaken hw ?_)
      refine AW.regionO (by rfl) ?_
      refine ao_q (v := (i64 (Sh.w (t5 + 1)))) go0 rfl (aq_add rfl rfl) ?_
      refine ao_q (v := (i64 (Sh.w (t5 + 1)))) go0 rfl (aq_mv rfl) ?_
      exact AO.done (Exists.intro (Sh.w (t5 + 1), l14) (And.intro h1 (Wk.to (L := [(3, (.own 0 0 (List.length l14))), (6, (.sl (List.map eB p0))), (7, (i64 (Sh.len p0))), (8, (i64 (Sh.w (t5 + 1))))]) ⟨.rfl, .rfl, .rfl, .rfl, trivial⟩)))
    refine AW.block ?_
    refine AW.seq fun K16 hK16 => ?_
    refine AW.regionO (by rfl) ?_
    refine ao_q (v := (i64 t5)) go0 rfl (aq_mv rfl) ?_
    obtain ⟨c17, gc17, h2⟩ := Sh.bind_some h2
    refine ao_q (v := (.iptr (eB c17) 0)) go0 rfl (aq_ixs ei63 rfl rfl gc17 rfl) ?_
    refine ao_q (v := (.bool c17)) go0 rfl (aq_ldi ti4 rfl rfl) ?_
    refine ao_q (v := (i64 t5)) go0 rfl (aq_as rfl) ?_
    refine ao_q (v := (.bool c17)) go0 rfl (aq_as rfl) ?_
    refine AO.done (hK16 _ ?_)
    refine AW.seq fun K18 hK18 => ?_
    refine AW.regionO (by rfl) ?_
    refine ao_q (v := (.bool c17)) go0 rfl (aq_mv rfl) ?_
    refine AO.done (hK18 _ ?_)
    refine AW.cond' (b := c17) rfl (fun b19 => ?_) (fun b19 => ?_)
    · replace h2 := Sh.ite_t b19 h2
      refine AW.regionO (by rfl) ?_
      refine ao_q (v := (.own 0 0 (List.length l6))) go0 rfl (aq_mv rfl) ?_
      refine ao_q (v := (i64 t5)) go0 rfl (aq_mv rfl) ?_
      refine ao_bs (m := 1) (st' := [⟨0, 3, 1, List.map eI l6⟩, ⟨0, 3, 1, List.map eI [t5]⟩]) (l := [t5]) (enc := eI) go0 ei32 (by decide) rfl rfl rfl rfl rfl rfl ?_
      obtain ⟨l20, gl20, h2⟩ := Sh.bind_some h2
      refine ao_apo (st' := [⟨1, 3, 1, List.map eI l20⟩, ⟨0, 3, 1, List.map eI [t5]⟩]) (l2 := [t5]) go0 ei32 rfl rfl rfl rfl (el_o rfl rfl) (fun _ => rfl) gl20 rfl ?_
      refine ao_q (v := (.own 0 1 (List.length l20))) go0 rfl (aq_as rfl) ?_
      exact AO.done (M15 l20 (Sh.some_eq h2).symm _ (by refine Wk.trans (Wk.rg (L := [(3, (.own 0 0 (List.length l20))), (6, (.sl (List.map eB p0))), (7, (i64 (Sh.len p0))), (8, (i64 t5))]) (st' := [⟨0, 3, 1, List.map eI l20⟩, ⟨0, 3, 1, List.map eI [t5]⟩]) (.pure (pure_map fun _ => rfl) (.pure (pure_map fun _ => rfl) .nil)) ⟨.rfl, .rfl, .rfl, .rfl, trivial⟩) ?_; refine Wk.trans (Wk.permk (L := [(3, (.own 0 0 (List.length l20))), (6, (.sl (List.map eB p0))), (7, (i64 (Sh.len p0))), (8, (i64 t5))]) (st' := [⟨0, 3, 1, List.map eI l20⟩]) (st1 := [⟨0, 3, 1, List.map eI l20⟩]) [0] rfl .nil (by decide) rfl rfl (.pure (pure_map fun _ => rfl) .nil) ⟨.rfl, .rfl, .rfl, .rfl, trivial⟩) ?_; exact Wk.to (L := [(3, (.own 0 0 (List.length l20))), (6, (.sl (List.map eB p0))), (7, (i64 (Sh.len p0))), (8, (i64 t5))]) ⟨.rfl, .rfl, .rfl, .rfl, trivial⟩))
    · replace h2 := Sh.ite_f b19 h2
      exact AW.skip (M15 l6 (Sh.some_eq h2).symm _ (Wk.to (L := [(3, (.own 0 0 (List.length l6))), (6, (.sl (List.map eB p0))), (7, (i64 (Sh.len p0))), (8, (i64 t5))]) ⟨.rfl, .rfl, .rfl, .rfl, trivial⟩))
  · replace h1 := Sh.ite_f b12 h1
    exact AW.exit (M8 l6 (Sh.some_eq h1).symm _ (Wk.to (L := [(3, (.own 0 0 (List.length l6)))]) ⟨.rfl, trivial⟩))

set_option maxRecDepth 100000 in
set_option maxHeartbeats 4000000 in
theorem impl_ReachOf_ok {N : Nat} {p0 : (List Cell)} {p1 : (List Int)} {r : (List Int)} (h0 : impl_ReachOf N p0 p1 = some r) : ACalls Try.prog 33 [(.sl (List.map eCell p0)), (.sl (List.map eI p1))] [] (fun v st => v = (.own 0 0 (List.length r)) ∧ st = [⟨0, 3, 1, List.map eI r⟩]) := by
  unfold impl_ReachOf at h0
  refine ACalls.intro Try.func33 rfl (by show 2 ≤ 56; decide) ?_
  show AW _ 0 _ (aret _ 0 Try.f33 _) ⟨56, _, _⟩
  refine AW.weaken (Wk.to (L := [(0, (.sl (List.map eCell p0))), (1, (.sl (List.map eI p1)))]) ⟨.rfl, .rfl, trivial⟩) ?_
  refine AW.seq fun K1 hK1 => ?_
  refine AW.regionO (by rfl) ?_
  refine ao_q (v := .zc) go0 rfl (aq_as rfl) ?_
  refine AO.done (hK1 _ ?_)
  refine AW.seq fun K2 hK2 => ?_
  refine AW.seq fun K3 hK3 => ?_
  refine AW.regionO (by rfl) ?_
  refine ao_q (v := (.sl (List.map eCell p0))) go0 rfl (aq_mv rfl) ?_
  obtain ⟨q4, gq4, h0⟩ := Sh.bind_some h0
  refine ao_call (v' := (.bool q4)) (st' := []) go0 hb25 (impl_ValidHeap_ok gq4) rfl rfl trivial rfl rfl ?_
  refine ao_q (v := (.bool (!q4))) go0 rfl (aq_not rfl) ?_
  refine AO.done (hK3 _ ?_)
  refine AW.cond' (b := !q4) rfl (fun b5 => ?_) (fun b5 => ?_)
  · replace h0 := Sh.ite_t b5 h0
    have b6 : q4 = false := by simpa using b5
    refine AW.seq fun K7 hK7 => ?_
    refine AW.regionO (by rfl) ?_
    refine ao_q (v := .zc) go0 rfl (aq_as rfl) ?_
    refine AO.done (hK7 _ ?_)
    replace h0 := Sh.some_eq h0
    subst r
    exact AW.ret (Exists.intro _ (And.intro (((Wk.adopt (t := 4) rfl 3 (size := 1) (by decide)).trans (Wk.to (L := [(4, (.own 0 0 (List.length ([] : List Int))))]) ⟨.rfl, trivial⟩)).trans (Wk.to (L := [(4, (.own 0 0 (List.length ([] : List Int))))]) ⟨.rfl, trivial⟩)) (And.intro rfl rfl)))
  · replace h0 := Sh.ite_f b5 h0
    have b8 : q4 = true := by simpa using b5
    refine AW.skip (hK2 _ ?_)
    refine AW.seq fun K9 hK9 => ?_
    refine AW.regionO (by rfl) ?_
    refine ao_q (v := (.sl (List.map eCell p0))) go0 rfl (aq_mv rfl) ?_
    refine ao_q (v := (i64 (Sh.len p0))) go0 rfl (aq_lens sl25 rfl) ?_
    obtain ⟨l10, gl10, h0⟩ := Sh.bind_some h0
    refine ao_make (m := 0) (st' := [⟨0, 4, 1, List.map eB l10⟩]) (enc := eB) (u := false) go0 ei63 rfl rfl rfl gl10 rfl rfl ?_
    refine ao_q (v := (.own 0 0 (List.length l10))) go0 rfl (aq_as rfl) ?_
    refine AO.done (hK9 _ ?_)
    refine AW.seq fun K11 hK11 => ?_
    refine AW.regionO (by rfl) ?_
    refine ao_q (v := (.sl (List.map eI p1))) go0 rfl (aq_mv rfl) ?_
    obtain ⟨q12, gq12, h0⟩ := Sh.bind_some h0
    refine ao_call (v' := (.own 1 0 (List.length q12))) (st' := [⟨0, 4, 1, List.map eB l10⟩, ⟨0, 3, 1, List.map eI q12⟩]) go0 hb70 (slices_Clone_int_int_ok gq12) rfl rfl ⟨pure_map fun _ => rfl, trivial⟩ rfl rfl ?_
    refine ao_q (v := (.own 1 0 (List.length q12))) go0 rfl (aq_as rfl) ?_
    refine AO.done (hK11 _ ?_)
    refine AW.seq fun K13 hK13 => ?_
    obtain ⟨o17, h1, h0⟩ := Sh.bind_some h0
    have M17 : ∀ (l16 : (List Bool)), o17 = l16 → ∀ s, Wk 0 s ⟨56, envL [(5, (.own 0 0 (List.length l16)))], [⟨0, 4, 1, List.map eB l16⟩]⟩ → K13 s := by
      intro l16 hq s hw
      subst o17
      try dsimp only at h0
      refine hK13 _ (AW.weaken hw ?_)
      refine AW.seq fun K18 hK18 => ?_
      refine AW.regionO (by rfl) ?_
      refine ao_q (v := (.own 0 0 (List.length l16))) go0 rfl (aq_mv rfl) ?_
      refine AO.weaken (Wk.frz (L := [(54, (.sl (List.map eB l16)))]) (st' := [⟨1, 4, 1, []⟩]) (id := 0) rfl (show 0 ≤ 0 by decide) (pure_map fun _ => rfl) ⟨(.frz rfl), trivial⟩ rfl) ?_
      obtain ⟨q19, gq19, h0⟩ := Sh.bind_some h0
      refine ao_call (v' := (.own 1 0 (List.length q19))) (st' := [⟨1, 4, 1, []⟩, ⟨0, 3, 1, List.map eI q19⟩]) go0 hb72 (impl_indicesOf_ok gq19) rfl rfl ⟨pure_map fun _ => rfl, trivial⟩ rfl rfl ?_
      refine ao_q (v := (.own 1 0 (List.length q19))) go0 rfl (aq_as rfl) ?_
      refine AO.done (hK18 _ ?_)
      replace h0 := Sh.some_eq h0
      subst r
      exact AW.ret (Exists.intro _ (And.intro ((Wk.permk (L := [(4, (.own 0 0 (List.length q19)))]) (st' := [⟨0, 3, 1, List.map eI q19⟩]) (st1 := [⟨0, 3, 1, List.map eI q19⟩]) [1] rfl .nil (by decide) rfl rfl (.pure (pure_map fun _ => rfl) .nil) ⟨.rfl, trivial⟩).trans (Wk.to (L := [(4, (.own 0 0 (List.length q19)))]) ⟨.rfl, trivial⟩)) (And.intro rfl rfl)))
    refine AW.block (AW.loopF (σ := (List Bool) × (List Int)) (fun n v => impl_ReachOf_L1 p0 n v.1 v.2 = some o17) (fun (l14, l15) => ⟨56, envL [(0, (.sl (List.map eCell p0))), (5, (.own 0 0 (List.length l14))), (6, (.own 1 0 (List.length l15)))], [⟨0, 4, 1, List.map eB l14⟩, ⟨0, 3, 1, List.map eI l15⟩]⟩) N (l10, q12) h1 (Wk.to (L := [(0, (.sl (List.map eCell p0))), (5, (.own 0 0 (List.length l10))), (6, (.own 1 0 (List.length q12)))]) ⟨.rfl, .rfl, .rfl, trivial⟩) (fun _ hv => by rw [impl_ReachOf_L1] at hv; cases hv) ?_)
    rintro n ⟨l14, l15⟩ h1
    try dsimp only at h1 ⊢
    rw [impl_ReachOf_L1] at h1
    refine AW.seq fun K20 hK20 => ?_
    refine AW.seq fun K21 hK21 => ?_
    refine AW.regionO (by rfl) ?_
    refine ao_q (v := (.own 1 0 (List.length l15))) go0 rfl (aq_mv rfl) ?_
    refine ao_q (v := (i64 (Sh.len l15))) go0 rfl (aq_leno sl32 rfl rfl rfl) ?_
    refine ao_q (v := (.bool (decide (0 < (Sh.len l15))))) go0 rfl (aq_gt rfl rfl) ?_
    refine AO.done (hK21 _ ?_)
    refine AW.cond' (b := decide (0 < (Sh.len l15))) rfl (fun b22 => ?_) (fun b22 => ?_)
    · replace h1 := Sh.ite_t b22 h1
      refine AW.skip (hK20 _ ?_)
      refine AW.block ?_
      refine AW.seq fun K23 hK23 => ?_
      refine AW.regionO (by rfl) ?_
      refine ao_q (v := (.sl (List.map eCell p0))) go0 rfl (aq_mv rfl) ?_
      refine ao_q (v := (.own 1 0 (List.length l15))) go0 rfl (aq_mv rfl) ?_
      refine ao_q (v := (.own 1 0 (List.length l15))) go0 rfl (aq_mv rfl) ?_
      refine ao_q (v := (i64 (Sh.len l15))) go0 rfl (aq_leno sl32 rfl rfl rfl) ?_
      refine ao_q (v := (i64 (Sh.w ((Sh.len l15) - 1)))) go0 rfl (aq_sub rfl rfl) ?_
      obtain ⟨c24, gc24, h1⟩ := Sh.bind_some h1
      refine ao_q (v := (.ptr 1 0 (Int.toNat (Sh.w ((Sh.len l15) - 1))) 0)) go0 rfl (aq_ixo ei32 rfl rfl rfl rfl gc24) ?_
      refine ao_q (v := (i64 c24)) go0 rfl (aq_ldp ti3 rfl rfl (map_get gc24) rfl) ?_
      obtain ⟨q25, gq25, h1⟩ := Sh.bind_some h1
      refine ao_call (v' := (.tup [(i64 q25.1), (.bool q25.2)])) (st' := [⟨0, 4, 1, List.map eB l14⟩, ⟨0, 3, 1, List.map eI l15⟩]) go0 hb71 (impl_liveAt_ok gq25) rfl rfl trivial rfl rfl ?_
      refine ao_q (v := (.tup [(i64 q25.1), (.bool q25.2)])) go0 rfl (aq_mv rfl) ?_
      refine ao_q (v := (i64 q25.1)) go0 rfl (aq_ex rfl rfl) ?_
      refine ao_q (v := (.bool q25.2)) go0 rfl (aq_ex rfl rfl) ?_
      refine ao_q (v := (i64 q25.1)) go0 rfl (aq_as rfl) ?_
      refine ao_q (v := (.bool q25.2)) go0 rfl (aq_as rfl) ?_
      refine AO.done (hK23 _ ?_)
      refine AW.seq fun K26 hK26 => ?_
      refine AW.regionO (by rfl) ?_
      refine ao_q (v := (.own 1 0 (List.length l15))) go0 rfl (aq_mv rfl) ?_
      refine ao_q (v := (.own 1 0 (List.length l15))) go0 rfl (aq_mv rfl) ?_
      refine ao_q (v := (i64 (Sh.len l15))) go0 rfl (aq_leno sl32 rfl rfl rfl) ?_
      refine ao_q (v := (i64 (Sh.w ((Sh.len l15) - 1)))) go0 rfl (aq_sub rfl rfl) ?_
      obtain ⟨l27, gl27, h1⟩ := Sh.bind_some h1
      refine ao_hio (st' := [⟨0, 4, 1, List.map eB l14⟩, ⟨1, 3, 1, List.map eI l27⟩]) go0 ei32 rfl rfl rfl rfl gl27 rfl ?_
      refine ao_q (v := (.own 1 1 (List.length l27))) go0 rfl (aq_as rfl) ?_
      refine AO.done (hK26 _ ?_)
      refine AW.seq fun K28 hK28 => ?_
      obtain ⟨o30, h2, h1⟩ := Sh.bind_some h1
      have M30 : ∀ (t29 : Bool), o30 = t29 → ∀ s, Wk 0 s ⟨56, envL [(0, (.sl (List.map eCell p0))), (5, (.own 0 0 (List.length l14))), (6, (.own 1 0 (List.length l27))), (7, (i64 q25.1)), (43, (.bool t29))], [⟨0, 4, 1, List.map eB l14⟩, ⟨0, 3, 1, List.map eI l27⟩]⟩ → K28 s := by
        intro t29 hq s hw
        subst o30
        try dsimp only at h1
        refine hK28 _ (AW.weaken hw ?_)
        refine AW.cond' (b := t29) rfl (fun b31 => ?_) (fun b31 => ?_)
        · replace h1 := Sh.ite_t b31 h1
          refine AW.seq fun K32 hK32 => ?_
          refine AW.regionO (by rfl) ?_
          refine ao_q (v := (.own 0 0 (List.length l14))) go0 rfl (aq_mv rfl) ?_
          refine ao_q (v := (i64 q25.1)) go0 rfl (aq_mv rfl) ?_
          obtain ⟨c33, gc33, h1⟩ := Sh.bind_some h1
          refine ao_q (v := (.ptr 0 0 (Int.toNat q25.1) 0)) go0 rfl (aq_ixo ei63 rfl rfl rfl rfl gc33) ?_
          refine ao_stl (st' := [⟨0, 4, 1, List.map eB (Sh.put l14 q25.1 true)⟩, ⟨0, 3, 1, List.map eI l27⟩]) (u' := true) go0 ti4 rfl rfl gc33 rfl rfl rfl (show 0 + 1 ≤ 1 by decide) rfl rfl ?_
          refine AO.done (hK32 _ ?_)
          refine AW.regionO (by rfl) ?_
          refine ao_q (v := (.own 1 0 (List.length l27))) go0 rfl (aq_mv rfl) ?_
          refine ao_q (v := (.sl (List.map eCell p0))) go0 rfl (aq_mv rfl) ?_
          refine ao_q (v := (i64 q25.1)) go0 rfl (aq_mv rfl) ?_
          obtain ⟨c34, gc34, h1⟩ := Sh.bind_some h1
          refine ao_q (v := (.iptr (eCell c34) 0)) go0 rfl (aq_ixs ei25 rfl rfl gc34 rfl) ?_
          refine ao_q (v := (.iptr (eCell c34) 2)) go0 rfl (aq_fai fi41_2 rfl rfl) ?_
          refine ao_q (v := (.sl (List.map eI c34.fields))) go0 rfl (aq_ldi ti32 rfl rfl) ?_
          obtain ⟨l35, gl35, h1⟩ := Sh.bind_some h1
          refine ao_apo (st' := [⟨0, 4, 1, List.map eB (Sh.put l14 q25.1 true)⟩, ⟨1, 3, 1, List.map eI l35⟩]) (l2 := c34.fields) go0 ei32 rfl rfl rfl rfl el_s (fun _ => rfl) gl35 rfl ?_
          refine ao_q (v := (.own 1 1 (List.length l35))) go0 rfl (aq_as rfl) ?_
          exact AO.done (Exists.intro (Sh.put l14 q25.1 true, l35) (And.intro h1 (by refine Wk.trans (Wk.rg (L := [(0, (.sl (List.map eCell p0))), (5, (.own 0 0 (List.length l14))), (6, (.own 1 0 (List.length l35)))]) (st' := [⟨0, 4, 1, List.map eB (Sh.put l14 q25.1 true)⟩, ⟨0, 3, 1, List.map eI l35⟩]) (.pure (pure_map fun _ => rfl) (.pure (pure_map fun _ => rfl) .nil)) ⟨.rfl, .rfl, .rfl, trivial⟩) ?_; exact Wk.to (L := [(0, (.sl (List.map eCell p0))), (5, (.own 0 0 (List.length (Sh.put l14 q25.1 true)))), (6, (.own 1 0 (List.length l35)))]) ⟨.rfl, (.len (by simp only [Sh.put_len])), .rfl, trivial⟩)))
        · replace h1 := Sh.ite_f b31 h1
          exact AW.skip (Exists.intro (l14, l27) (And.intro h1 (Wk.to (L := [(0, (.sl (List.map eCell p0))), (5, (.own 0 0 (List.length l14))), (6, (.own 1 0 (List.length l27)))]) ⟨.rfl, .rfl, .rfl, trivial⟩)))
      refine AW.regionO (by rfl) ?_
      refine ao_q (v := (.bool q25.2)) go0 rfl (aq_mv rfl) ?_
      refine ao_q (v := (.bool q25.2)) go0 rfl (aq_mv rfl) ?_
      rcases Sh.ite_some h2 with ⟨b36, h2⟩ | ⟨b36, h2⟩
      · skip
        refine ao_q (v := (.own 0 0 (List.length l14))) (go1 rfl rfl b36) rfl (aq_mv rfl) ?_
        refine ao_q (v := (i64 q25.1)) (go1 rfl rfl b36) rfl (aq_mv rfl) ?_
        obtain ⟨c37, gc37, h2⟩ := Sh.bind_some h2
        refine ao_q (v := (.ptr 0 0 (Int.toNat q25.1) 0)) (go1 rfl rfl b36) rfl (aq_ixo ei63 rfl rfl rfl rfl gc37) ?_
        refine ao_q (v := (.bool c37)) (go1 rfl rfl b36) rfl (aq_ldp ti4 rfl rfl (map_get gc37) rfl) ?_
        refine ao_q (v := (.bool (!c37))) (go1 rfl rfl b36) rfl (aq_not rfl) ?_
        refine ao_q (v := (.bool (!c37))) go0 rfl (aq_pkt rfl b36 rfl) ?_
        exact AO.done (M30 (!c37) (Sh.some_eq h2).symm _ (by refine Wk.trans (Wk.rg (L := [(0, (.sl (List.map eCell p0))), (5, (.own 0 0 (List.length l14))), (6, (.own 1 0 (List.length l27))), (7, (i64 q25.1)), (43, (.bool (!c37)))]) (st' := [⟨0, 4, 1, List.map eB l14⟩, ⟨0, 3, 1, List.map eI l27⟩]) (.pure (pure_map fun _ => rfl) (.pure (pure_map fun _ => rfl) .nil)) ⟨.rfl, .rfl, .rfl, .rfl, .rfl, trivial⟩) ?_; exact Wk.to (L := [(0, (.sl (List.map eCell p0))), (5, (.own 0 0 (List.length l14))), (6, (.own 1 0 (List.length l27))), (7, (i64 q25.1)), (43, (.bool (!c37)))]) ⟨.rfl, .rfl, .rfl, .rfl, .rfl, trivial⟩))
      · skip
        refine ao_skip rfl rfl b36 ?_
        refine ao_skip rfl rfl b36 ?_
        refine ao_skip rfl rfl b36 ?_
        refine ao_skip rfl rfl b36 ?_
        refine ao_skip rfl rfl b36 ?_
        refine ao_q (v := (.bool false)) go0 rfl (aq_pkf rfl b36 rfl) ?_
        exact AO.done (M30 false (Sh.some_eq h2).symm _ (by refine Wk.trans (Wk.rg (L := [(0, (.sl (List.map eCell p0))), (5, (.own 0 0 (List.length l14))), (6, (.own 1 0 (List.length l27))), (7, (i64 q25.1)), (43, (.bool false))]) (st' := [⟨0, 4, 1, List.map eB l14⟩, ⟨0, 3, 1, List.map eI l27⟩]) (.pure (pure_map fun _ => rfl) (.pure (pure_map fun _ => rfl) .nil)) ⟨.rfl, .rfl, .rfl, .rfl, .rfl, trivial⟩) ?_; exact Wk.to (L := [(0, (.sl (List.map eCell p0))), (5, (.own 0 0 (List.length l14))), (6, (.own 1 0 (List.length l27))), (7, (i64 q25.1)), (43, (.bool false))]) ⟨.rfl, .rfl, .rfl, .rfl, .rfl, trivial⟩))
    · replace h1 := Sh.ite_f b22 h1
      exact AW.exit (M17 l14 (Sh.some_eq h1).symm _ (by refine Wk.trans (Wk.permk (L := [(5, (.own 0 0 (List.length l14)))]) (st' := [⟨0, 4, 1, List.map eB l14⟩]) (st1 := [⟨0, 4, 1, List.map eB l14⟩]) [0] rfl .nil (by decide) rfl rfl (.pure (pure_map fun _ => rfl) .nil) ⟨.rfl, trivial⟩) ?_; exact Wk.to (L := [(5, (.own 0 0 (List.length l14)))]) ⟨.rfl, trivial⟩))

set_option maxRecDepth 100000 in
set_option maxHeartbeats 4000000 in
theorem spec_reachOf_ok {N : Nat} {p0 : (List Cell)} {p1 : (List Int)} {r : (List Int)} (h0 : spec_reachOf N p0 p1 = some r) : ACalls Try.prog 69 [(.sl (List.map eCell p0)), (.sl (List.map eI p1))] [] (fun v st => v = (.own 0 0 (List.length r)) ∧ st = [⟨0, 3, 1, List.map eI r⟩]) := by
  unfold spec_reachOf at h0
  refine ACalls.intro Try.func69 rfl (by show 2 ≤ 68; decide) ?_
  show AW _ 0 _ (aret _ 0 Try.f69 _) ⟨68, _, _⟩
  refine AW.weaken (Wk.to (L := [(0, (.sl (List.map eCell p0))), (1, (.sl (List.map eI p1)))]) ⟨.rfl, .rfl, trivial⟩) ?_
  refine AW.seq fun K1 hK1 => ?_
  refine AW.regionO (by rfl) ?_
  refine ao_q (v := .zc) go0 rfl (aq_as rfl) ?_
  refine AO.done (hK1 _ ?_)
  refine AW.seq fun K2 hK2 => ?_
  refine AW.regionO (by rfl) ?_
  refine ao_q (v := (.sl (List.map eCell p0))) go0 rfl (aq_mv rfl) ?_
  refine ao_q (v := (i64 (Sh.len p0))) go0 rfl (aq_lens sl25 rfl) ?_
  obtain ⟨l3, gl3, h0⟩ := Sh.bind_some h0
  refine ao_make (m := 0) (st' := [⟨0, 4, 1, List.map eB l3⟩]) (enc := eB) (u := false) go0 ei63 rfl rfl rfl gl3 rfl rfl ?_
  refine ao_q (v := (.own 0 0 (List.length l3))) go0 rfl (aq_as rfl) ?_
  refine AO.done (hK2 _ ?_)
  refine AW.seq fun K4 hK4 => ?_
  refine AW.regionO (by rfl) ?_
  refine ao_q (v := (.sl (List.map eI p1))) go0 rfl (aq_mv rfl) ?_
  obtain ⟨q5, gq5, h0⟩ := Sh.bind_some h0
  refine ao_call (v' := (.own 1 0 (List.length q5))) (st' := [⟨0, 4, 1, List.map eB l3⟩, ⟨0, 3, 1, List.map eI q5⟩]) go0 hb93 (spec_copyInts_ok gq5) rfl rfl ⟨pure_map fun _ => rfl, trivial⟩ rfl rfl ?_
  refine ao_q (v := (.own 1 0 (List.length q5))) go0 rfl (aq_as rfl) ?_
  refine AO.done (hK4 _ ?_)
  refine AW.seq fun K6 hK6 => ?_
  obtain ⟨o10, h1, h0⟩ := Sh.bind_some h0
  have M10 : ∀ (l9 : (List Bool)), o10 = l9 → ∀ s, Wk 0 s ⟨68, envL [(0, (.sl (List.map eCell p0))), (5, (.own 0 0 (List.length l9)))], [⟨0, 4, 1, List.map eB l9⟩]⟩ → K6 s := by
    intro l9 hq s hw
    subst o10
    try dsimp only at h0
    refine hK6 _ (AW.weaken hw ?_)
    refine AW.seq fun K11 hK11 => ?_
    refine AW.regionO (by rfl) ?_
    refine ao_bs (m := 1) (st' := [⟨0, 4, 1, List.map eB l9⟩, ⟨0, 3, 1, List.map eI ([] : List Int)⟩]) (l := ([] : List Int)) (enc := eI) go0 ei32 (by decide) rfl rfl rfl rfl rfl rfl ?_
    refine ao_q (v := (.own 1 0 (List.length ([] : List Int)))) go0 rfl (aq_as rfl) ?_
    refine AO.done (hK11 _ ?_)
    refine AW.seq fun K12 hK12 => ?_
    refine AW.seq fun K13 hK13 => ?_
    refine AW.regionO (by rfl) ?_
    refine ao_q (v := (i64 0)) go0 rfl (aq_as rfl) ?_
    refine AO.done (hK13 _ ?_)
    obtain ⟨o17, h1, h0⟩ := Sh.bind_some h0
    have M17 : ∀ (l16 : (List Int)), o17 = l16 → ∀ s, Wk 0 s ⟨68, envL [(8, (.own 0 0 (List.length l16)))], [⟨0, 3, 1, List.map eI l16⟩]⟩ → K12 s := by
      intro l16 hq s hw
      subst o17
      try dsimp only at h0
      refine hK12 _ (AW.weaken hw ?_)
      refine AW.seq fun K18 hK18 => ?_
      refine AW.regionO (by rfl) ?_
      refine ao_q (v := (.own 0 0 (List.length l16))) go0 rfl (aq_mv rfl) ?_
      refine ao_q (v := (.own 0 0 (List.length l16))) go0 rfl (aq_as rfl) ?_
      refine AO.done (hK18 _ ?_)
      replace h0 := Sh.some_eq h0
      subst r
      exact AW.ret (Exists.intro _ (And.intro (Wk.to (L := [(4, (.own 0 0 (List.length l16)))]) ⟨.rfl, trivial⟩) (And.intro rfl rfl)))
    refine AW.block (AW.loopF (σ := Int × (List Int)) (fun n v => spec_reachOf_L2 l9 p0 n v.1 v.2 = some o17) (fun (i14, l15) => ⟨68, envL [(0, (.sl (List.map eCell p0))), (5, (.own 0 0 (List.length l9))), (8, (.own 1 0 (List.length l15))), (9, (i64 i14))], [⟨0, 4, 1, List.map eB l9⟩, ⟨0, 3, 1, List.map eI l15⟩]⟩) N (0, []) h1 (Wk.to (L := [(0, (.sl (List.map eCell p0))), (5, (.own 0 0 (List.length l9))), (8, (.own 1 0 (List.length ([] : List Int)))), (9, (i64 0))]) ⟨.rfl, .rfl, .rfl, .rfl, trivial⟩) (fun _ hv => by rw [spec_reachOf_L2] at hv; cases hv) ?_)
    rintro n ⟨i14, l15⟩ h1
    try dsimp only at h1 ⊢
    rw [spec_reachOf_L2] at h1
    refine AW.seq fun K19 hK19 => ?_
    refine AW.seq fun K20 hK20 => ?_
    refine AW.regionO (by rfl) ?_
    refine ao_q (v := (i64 i14)) go0 rfl (aq_mv rfl) ?_
    refine ao_q (v := (.sl (List.map eCell p0))) go0 rfl (aq_mv rfl) ?_
    refine ao_q (v := (i64 (Sh.len p0))) go0 rfl (aq_lens sl25 rfl) ?_
    refine ao_q (v := (.bool (decide (i14 < (Sh.len p0))))) go0 rfl (aq_lt rfl rfl) ?_
    refine AO.done (hK20 _ ?_)
    refine AW.cond' (b := decide (i14 < (Sh.len p0))) rfl (fun b21 => ?_) (fun b21 => ?_)
    · replace h1 := Sh.ite_t b21 h1
      refine AW.skip (hK19 _ ?_)
      refine AW.seq fun K22 hK22 => ?_
      obtain ⟨o24, h2, h1⟩ := Sh.bind_some h1
      have M24 : ∀ (l23 : (List Int)), o24 = l23 → ∀ s, Wk 0 s ⟨68, envL [(0, (.sl (List.map eCell p0))), (5, (.own 0 0 (List.length l9))), (8, (.own 1 0 (List.length l23))), (9, (i64 i14))], [⟨0, 4, 1, List.map eB l9⟩, ⟨0, 3, 1, List.map eI l23⟩]⟩ → K22 s := by
        intro l23 hq s hw
        subst o24
        try dsimp only at h1
        refine hK22 _ (AW.weaken hw ?_)
        refine AW.regionO (by rfl) ?_
        refine ao_q (v := (i64 i14)) go0 rfl (aq_mv rfl) ?_
        refine ao_q (v := (i64 (Sh.w (i14 + 1)))) go0 rfl (aq_add rfl rfl) ?_
        refine ao_q (v := (i64 (Sh.w (i14 + 1)))) go0 rfl (aq_as rfl) ?_
        exact AO.done (Exists.intro (Sh.w (i14 + 1), l23) (And.intro h1 (Wk.to (L := [(0, (.sl (List.map eCell p0))), (5, (.own 0 0 (List.length l9))), (8, (.own 1 0 (List.length l23))), (9, (i64 (Sh.w (i14 + 1))))]) ⟨.rfl, .rfl, .rfl, .rfl, trivial⟩)))
      refine AW.block ?_
      refine AW.seq fun K25 hK25 => ?_
      refine AW.regionO (by rfl) ?_
      refine ao_q (v := (.own 0 0 (List.length l9))) go0 rfl (aq_mv rfl) ?_
      refine ao_q (v := (i64 i14)) go0 rfl (aq_mv rfl) ?_
      obtain ⟨c26, gc26, h2⟩ := Sh.bind_some h2
      refine ao_q (v := (.ptr 0 0 (Int.toNat i14) 0)) go0 rfl (aq_ixo ei63 rfl rfl rfl rfl gc26) ?_
      refine ao_q (v := (.bool c26)) go0 rfl (aq_ldp ti4 rfl rfl (map_get gc26) rfl) ?_
      refine AO.done (hK25 _ ?_)
      refine AW.cond' (b := c26) rfl (fun b27 => ?_) (fun b27 => ?_)
      · replace h2 := Sh.ite_t b27 h2
        refine AW.regionO (by rfl) ?_
        refine ao_q (v := (.own 1 0 (List.length l15))) go0 rfl (aq_mv rfl) ?_
        refine ao_q (v := (i64 i14)) go0 rfl (aq_mv rfl) ?_
        refine ao_bs (m := 2) (st' := [⟨0, 4, 1, List.map eB l9⟩, ⟨0, 3, 1, List.map eI l15⟩, ⟨0, 3, 1, List.map eI [i14]⟩]) (l := [i14]) (enc := eI) go0 ei32 (by decide) rfl rfl rfl rfl rfl rfl ?_
        obtain ⟨l28, gl28, h2⟩ := Sh.bind_some h2
        refine ao_apo (st' := [⟨0, 4, 1, List.map eB l9⟩, ⟨1, 3, 1, List.map eI l28⟩, ⟨0, 3, 1, List.map eI [i14]⟩]) (l2 := [i14]) go0 ei32 rfl rfl rfl rfl (el_o rfl rfl) (fun _ => rfl) gl28 rfl ?_
        refine ao_q (v := (.own 1 1 (List.length l28))) go0 rfl (aq_as rfl) ?_
        exact AO.done (M24 l28 (Sh.some_eq h2).symm _ (by refine Wk.trans (Wk.rg (L := [(0, (.sl (List.map eCell p0))), (5, (.own 0 0 (List.length l9))), (8, (.own 1 0 (List.length l28))), (9, (i64 i14))]) (st' := [⟨0, 4, 1, List.map eB l9⟩, ⟨0, 3, 1, List.map eI l28⟩, ⟨0, 3, 1, List.map eI [i14]⟩]) (.pure (pure_map fun _ => rfl) (.pure (pure_map fun _ => rfl) (.pure (pure_map fun _ => rfl) .nil))) ⟨.rfl, .rfl, .rfl, .rfl, trivial⟩) ?_; refine Wk.trans (Wk.permk (L := [(0, (.sl (List.map eCell p0))), (5, (.own 0 0 (List.length l9))), (8, (.own 1 0 (List.length l28))), (9, (i64 i14))]) (st' := [⟨0, 4, 1, List.map eB l9⟩, ⟨0, 3, 1, List.map eI l28⟩]) (st1 := [⟨0, 4, 1, List.map eB l9⟩, ⟨0, 3, 1, List.map eI l28⟩]) [0, 1] rfl .nil (by decide) rfl rfl (.pure (pure_map fun _ => rfl) (.pure (pure_map fun _ => rfl) .nil)) ⟨.rfl, .rfl, .rfl, .rfl, trivial⟩) ?_; exact Wk.to (L := [(0, (.sl (List.map eCell p0))), (5, (.own 0 0 (List.length l9))), (8, (.own 1 0 (List.length l28))), (9, (i64 i14))]) ⟨.rfl, .rfl, .rfl, .rfl, trivial⟩))
      · replace h2 := Sh.ite_f b27 h2
        exact AW.skip (M24 l15 (Sh.some_eq h2).symm _ (Wk.to (L := [(0, (.sl (List.map eCell p0))), (5, (.own 0 0 (List.length l9))), (8, (.own 1 0 (List.length l15))), (9, (i64 i14))]) ⟨.rfl, .rfl, .rfl, .rfl, trivial⟩))
    · replace h1 := Sh.ite_f b21 h1
      exact AW.exit (M17 l15 (Sh.some_eq h1).symm _ (by refine Wk.trans (Wk.permk (L := [(8, (.own 0 0 (List.length l15)))]) (st' := [⟨0, 3, 1, List.map eI l15⟩]) (st1 := [⟨0, 3, 1, List.map eI l15⟩]) [1] rfl .nil (by decide) rfl rfl (.pure (pure_map fun _ => rfl) .nil) ⟨.rfl, trivial⟩) ?_; exact Wk.to (L := [(8, (.own 0 0 (List.length l15)))]) ⟨.rfl, trivial⟩))
  refine AW.block (AW.loopF (σ := (List Bool) × (List Int)) (fun n v => spec_reachOf_L1 p0 n v.1 v.2 = some o10) (fun (l7, l8) => ⟨68, envL [(0, (.sl (List.map eCell p0))), (5, (.own 0 0 (List.length l7))), (6, (.own 1 0 (List.length l8)))], [⟨0, 4, 1, List.map eB l7⟩, ⟨0, 3, 1, List.map eI l8⟩]⟩) N (l3, q5) h1 (Wk.to (L := [(0, (.sl (List.map eCell p0))), (5, (.own 0 0 (List.length l3))), (6, (.own 1 0 (List.length q5)))]) ⟨.rfl, .rfl, .rfl, trivial⟩) (fun _ hv => by rw [spec_reachOf_L1] at hv; cases hv) ?_)
  rintro n ⟨l7, l8⟩ h1
  try dsimp only at h1 ⊢
  rw [spec_reachOf_L1] at h1
  refine AW.seq fun K29 hK29 => ?_
  refine AW.seq fun K30 hK30 => ?_
  refine AW.regionO (by rfl) ?_
  refine ao_q (v := (.own 1 0 (List.length l8))) go0 rfl (aq_mv rfl) ?_
  refine ao_q (v := (i64 (Sh.len l8))) go0 rfl (aq_leno sl32 rfl rfl rfl) ?_
  refine ao_q (v := (.bool (decide (0 < (Sh.len l8))))) go0 rfl (aq_gt rfl rfl) ?_
  refine AO.done (hK30 _ ?_)
  refine AW.cond' (b := decide (0 < (Sh.len l8))) rfl (fun b31 => ?_) (fun b31 => ?_)
  · replace h1 := Sh.ite_t b31 h1
    refine AW.skip (hK29 _ ?_)
    refine AW.block ?_
    refine AW.seq fun K32 hK32 => ?_
    refine AW.regionO (by rfl) ?_
    refine ao_q (v := (.own 1 0 (List.length l8))) go0 rfl (aq_mv rfl) ?_
    refine ao_q (v := (.own 1 0 (List.length l8))) go0 rfl (aq_mv rfl) ?_
    refine ao_q (v := (i64 (Sh.len l8))) go0 rfl (aq_leno sl32 rfl rfl rfl) ?_
    refine ao_q (v := (i64 (Sh.w ((Sh.len l8) - 1)))) go0 rfl (aq_sub rfl rfl) ?_
    obtain ⟨c33, gc33, h1⟩ := Sh.bind_some h1
    refine ao_q (v := (.ptr 1 0 (Int.toNat (Sh.w ((Sh.len l8) - 1))) 0)) go0 rfl (aq_ixo ei32 rfl rfl rfl rfl gc33) ?_
    refine ao_q (v := (i64 c33)) go0 rfl (aq_ldp ti3 rfl rfl (map_get gc33) rfl) ?_
    refine ao_q (v := (i64 c33)) go0 rfl (aq_as rfl) ?_
    refine AO.done (hK32 _ ?_)
    refine AW.seq fun K34 hK34 => ?_
    refine AW.regionO (by rfl) ?_
    refine ao_q (v := (.own 1 0 (List.length l8))) go0 rfl (aq_mv rfl) ?_
    refine ao_q (v := (.own 1 0 (List.length l8))) go0 rfl (aq_mv rfl) ?_
    refine ao_q (v := (i64 (Sh.len l8))) go0 rfl (aq_leno sl32 rfl rfl rfl) ?_
    refine ao_q (v := (i64 (Sh.w ((Sh.len l8) - 1)))) go0 rfl (aq_sub rfl rfl) ?_
    obtain ⟨l35, gl35, h1⟩ := Sh.bind_some h1
    refine ao_hio (st' := [⟨0, 4, 1, List.map eB l7⟩, ⟨1, 3, 1, List.map eI l35⟩]) go0 ei32 rfl rfl rfl rfl gl35 rfl ?_
    refine ao_q (v := (.own 1 1 (List.length l35))) go0 rfl (aq_as rfl) ?_
    refine AO.done (hK34 _ ?_)
    refine AW.seq fun K36 hK36 => ?_
    obtain ⟨o38, h2, h1⟩ := Sh.bind_some h1
    have M38 : ∀ (t37 : Bool), o38 = t37 → ∀ s, Wk 0 s ⟨68, envL [(0, (.sl (List.map eCell p0))), (5, (.own 0 0 (List.length l7))), (6, (.own 1 0 (List.length l35))), (7, (i64 c33)), (39, (.bool t37))], [⟨0, 4, 1, List.map eB l7⟩, ⟨0, 3, 1, List.map eI l35⟩]⟩ → K36 s := by
      intro t37 hq s hw
      subst o38
      try dsimp only at h1
      refine hK36 _ (AW.weaken hw ?_)
      refine AW.cond' (b := t37) rfl (fun b39 => ?_) (fun b39 => ?_)
      · replace h1 := Sh.ite_t b39 h1
        refine AW.seq fun K40 hK40 => ?_
        refine AW.regionO (by rfl) ?_
        refine ao_q (v := (.own 0 0 (List.length l7))) go0 rfl (aq_mv rfl) ?_
        refine ao_q (v := (i64 c33)) go0 rfl (aq_mv rfl) ?_
        refine ao_q (v := (i64 (Sh.w (c33 - 1000)))) go0 rfl (aq_sub rfl rfl) ?_
        obtain ⟨c41, gc41, h1⟩ := Sh.bind_some h1
        refine ao_q (v := (.ptr 0 0 (Int.toNat (Sh.w (c33 - 1000))) 0)) go0 rfl (aq_ixo ei63 rfl rfl rfl rfl gc41) ?_
        refine ao_stl (st' := [⟨0, 4, 1, List.map eB (Sh.put l7 (Sh.w (c33 - 1000)) true)⟩, ⟨0, 3, 1, List.map eI l35⟩]) (u' := true) go0 ti4 rfl rfl gc41 rfl rfl rfl (show 0 + 1 ≤ 1 by decide) rfl rfl ?_
        refine AO.done (hK40 _ ?_)
        refine AW.regionO (by rfl) ?_
        refine ao_q (v := (.own 1 0 (List.length l35))) go0 rfl (aq_mv rfl) ?_
        refine ao_q (v := (.sl (List.map eCell p0))) go0 rfl (aq_mv rfl) ?_
        refine ao_q (v := (i64 c33)) go0 rfl (aq_mv rfl) ?_
        refine ao_q (v := (i64 (Sh.w (c33 - 1000)))) go0 rfl (aq_sub rfl rfl) ?_
        obtain ⟨c42, gc42, h1⟩ := Sh.bind_some h1
        refine ao_q (v := (.iptr (eCell c42) 0)) go0 rfl (aq_ixs ei25 rfl rfl gc42 rfl) ?_
        refine ao_q (v := (.iptr (eCell c42) 2)) go0 rfl (aq_fai fi41_2 rfl rfl) ?_
        refine ao_q (v := (.sl (List.map eI c42.fields))) go0 rfl (aq_ldi ti32 rfl rfl) ?_
        obtain ⟨l43, gl43, h1⟩ := Sh.bind_some h1
        refine ao_apo (st' := [⟨0, 4, 1, List.map eB (Sh.put l7 (Sh.w (c33 - 1000)) true)⟩, ⟨1, 3, 1, List.map eI l43⟩]) (l2 := c42.fields) go0 ei32 rfl rfl rfl rfl el_s (fun _ => rfl) gl43 rfl ?_
        refine ao_q (v := (.own 1 1 (List.length l43))) go0 rfl (aq_as rfl) ?_
        exact AO.done (Exists.intro (Sh.put l7 (Sh.w (c33 - 1000)) true, l43) (And.intro h1 (by refine Wk.trans (Wk.rg (L := [(0, (.sl (List.map eCell p0))), (5, (.own 0 0 (List.length l7))), (6, (.own 1 0 (List.length l43)))]) (st' := [⟨0, 4, 1, List.map eB (Sh.put l7 (Sh.w (c33 - 1000)) true)⟩, ⟨0, 3, 1, List.map eI l43⟩]) (.pure (pure_map fun _ => rfl) (.pure (pure_map fun _ => rfl) .nil)) ⟨.rfl, .rfl, .rfl, trivial⟩) ?_; exact Wk.to (L := [(0, (.sl (List.map eCell p0))), (5, (.own 0 0 (List.length (Sh.put l7 (Sh.w (c33 - 1000)) true)))), (6, (.own 1 0 (List.length l43)))]) ⟨.rfl, (.len (by simp only [Sh.put_len])), .rfl, trivial⟩)))
      · replace h1 := Sh.ite_f b39 h1
        exact AW.skip (Exists.intro (l7, l35) (And.intro h1 (Wk.to (L := [(0, (.sl (List.map eCell p0))), (5, (.own 0 0 (List.length l7))), (6, (.own 1 0 (List.length l35)))]) ⟨.rfl, .rfl, .rfl, trivial⟩)))
    refine AW.regionO (by rfl) ?_
    refine ao_q (v := (.sl (List.map eCell p0))) go0 rfl (aq_mv rfl) ?_
    refine ao_q (v := (i64 c33)) go0 rfl (aq_mv rfl) ?_
    obtain ⟨q44, gq44, h2⟩ := Sh.bind_some h2
    refine ao_call (v' := (.bool q44)) (st' := [⟨0, 4, 1, List.map eB l7⟩, ⟨1, 3, 1, List.map eI l35⟩]) go0 hb92 (spec_isLive_ok gq44) rfl rfl trivial rfl rfl ?_
    refine ao_q (v := (.bool q44)) go0 rfl (aq_mv rfl) ?_
    rcases Sh.ite_some h2 with ⟨b45, h2⟩ | ⟨b45, h2⟩
    · skip
      refine ao_q (v := (.own 0 0 (List.length l7))) (go1 rfl rfl b45) rfl (aq_mv rfl) ?_
      refine ao_q (v := (i64 c33)) (go1 rfl rfl b45) rfl (aq_mv rfl) ?_
      refine ao_q (v := (i64 (Sh.w (c33 - 1000)))) (go1 rfl rfl b45) rfl (aq_sub rfl rfl) ?_
      obtain ⟨c46, gc46, h2⟩ := Sh.bind_some h2
      refine ao_q (v := (.ptr 0 0 (Int.toNat (Sh.w (c33 - 1000))) 0)) (go1 rfl rfl b45) rfl (aq_ixo ei63 rfl rfl rfl rfl gc46) ?_
      refine ao_q (v := (.bool c46)) (go1 rfl rfl b45) rfl (aq_ldp ti4 rfl rfl (map_get gc46) rfl) ?_
      refine ao_q (v := (.bool (!c46))) (go1 rfl rfl b45) rfl (aq_not rfl) ?_
      refine ao_q (v := (.bool (!c46))) go0 rfl (aq_pkt rfl b45 rfl) ?_
      exact AO.done (M38 (!c46) (Sh.some_eq h2).symm _ (by refine Wk.trans (Wk.rg (L := [(0, (.sl (List.map eCell p0))), (5, (.own 0 0 (List.length l7))), (6, (.own 1 0 (List.length l35))), (7, (i64 c33)), (39, (.bool (!c46)))]) (st' := [⟨0, 4, 1, List.map eB l7⟩, ⟨0, 3, 1, List.map eI l35⟩]) (.pure (pure_map fun _ => rfl) (.pure (pure_map fun _ => rfl) .nil)) ⟨.rfl, .rfl, .rfl, .rfl, .rfl, trivial⟩) ?_; exact Wk.to (L := [(0, (.sl (List.map eCell p0))), (5, (.own 0 0 (List.length l7))), (6, (.own 1 0 (List.length l35))), (7, (i64 c33)), (39, (.bool (!c46)))]) ⟨.rfl, .rfl, .rfl, .rfl, .rfl, trivial⟩))
    · skip
      refine ao_skip rfl rfl b45 ?_
      refine ao_skip rfl rfl b45 ?_
      refine ao_skip rfl rfl b45 ?_
      refine ao_skip rfl rfl b45 ?_
      refine ao_skip rfl rfl b45 ?_
      refine ao_skip rfl rfl b45 ?_
      refine ao_q (v := (.bool false)) go0 rfl (aq_pkf rfl b45 rfl) ?_
      exact AO.done (M38 false (Sh.some_eq h2).symm _ (by refine Wk.trans (Wk.rg (L := [(0, (.sl (List.map eCell p0))), (5, (.own 0 0 (List.length l7))), (6, (.own 1 0 (List.length l35))), (7, (i64 c33)), (39, (.bool false))]) (st' := [⟨0, 4, 1, List.map eB l7⟩, ⟨0, 3, 1, List.map eI l35⟩]) (.pure (pure_map fun _ => rfl) (.pure (pure_map fun _ => rfl) .nil)) ⟨.rfl, .rfl, .rfl, .rfl, .rfl, trivial⟩) ?_; exact Wk.to (L := [(0, (.sl (List.map eCell p0))), (5, (.own 0 0 (List.length l7))), (6, (.own 1 0 (List.length l35))), (7, (i64 c33)), (39, (.bool false))]) ⟨.rfl, .rfl, .rfl, .rfl, .rfl, trivial⟩))
  · replace h1 := Sh.ite_f b31 h1
    exact AW.exit (M10 l7 (Sh.some_eq h1).symm _ (by refine Wk.trans (Wk.permk (L := [(0, (.sl (List.map eCell p0))), (5, (.own 0 0 (List.length l7)))]) (st' := [⟨0, 4, 1, List.map eB l7⟩]) (st1 := [⟨0, 4, 1, List.map eB l7⟩]) [0] rfl .nil (by decide) rfl rfl (.pure (pure_map fun _ => rfl) .nil) ⟨.rfl, .rfl, trivial⟩) ?_; exact Wk.to (L := [(0, (.sl (List.map eCell p0))), (5, (.own 0 0 (List.length l7)))]) ⟨.rfl, .rfl, trivial⟩))

set_option maxRecDepth 100000 in
set_option maxHeartbeats 4000000 in
theorem spec_ReachOf_ok {N : Nat} {p0 : (List Cell)} {p1 : (List Int)} {r : (List Int)} (h0 : spec_ReachOf N p0 p1 = some r) : ACalls Try.prog 31 [(.sl (List.map eCell p0)), (.sl (List.map eI p1))] [] (fun v st => v = (.own 0 0 (List.length r)) ∧ st = [⟨0, 3, 1, List.map eI r⟩]) := by
  unfold spec_ReachOf at h0
  refine ACalls.intro Try.func31 rfl (by show 2 ≤ 11; decide) ?_
  show AW _ 0 _ (aret _ 0 Try.f31 _) ⟨11, _, _⟩
  refine AW.weaken (Wk.to (L := [(0, (.sl (List.map eCell p0))), (1, (.sl (List.map eI p1)))]) ⟨.rfl, .rfl, trivial⟩) ?_
  refine AW.seq fun K1 hK1 => ?_
  refine AW.regionO (by rfl) ?_
  refine ao_q (v := .zc) go0 rfl (aq_as rfl) ?_
  refine AO.done (hK1 _ ?_)
  refine AW.seq fun K2 hK2 => ?_
  refine AW.seq fun K3 hK3 => ?_
  refine AW.regionO (by rfl) ?_
  refine ao_q (v := (.sl (List.map eCell p0))) go0 rfl (aq_mv rfl) ?_
  obtain ⟨q4, gq4, h0⟩ := Sh.bind_some h0
  refine ao_call (v' := (.bool q4)) (st' := []) go0 hb61 (spec_validHeap_ok gq4) rfl rfl trivial rfl rfl ?_
  refine ao_q (v := (.bool (!q4))) go0 rfl (aq_not rfl) ?_
  refine AO.done (hK3 _ ?_)
  refine AW.cond' (b := !q4) rfl (fun b5 => ?_) (fun b5 => ?_)
  · replace h0 := Sh.ite_t b5 h0
    have b6 : q4 = false := by simpa using b5
    refine AW.seq fun K7 hK7 => ?_
    refine AW.regionO (by rfl) ?_
    refine ao_q (v := .zc) go0 rfl (aq_as rfl) ?_
    refine AO.done (hK7 _ ?_)
    replace h0 := Sh.some_eq h0
    subst r
    exact AW.ret (Exists.intro _ (And.intro (((Wk.adopt (t := 4) rfl 3 (size := 1) (by decide)).trans (Wk.to (L := [(4, (.own 0 0 (List.length ([] : List Int))))]) ⟨.rfl, trivial⟩)).trans (Wk.to (L := [(4, (.own 0 0 (List.length ([] : List Int))))]) ⟨.rfl, trivial⟩)) (And.intro rfl rfl)))
  · replace h0 := Sh.ite_f b5 h0
    have b8 : q4 = true := by simpa using b5
    refine AW.skip (hK2 _ ?_)
    refine AW.seq fun K9 hK9 => ?_
    refine AW.regionO (by rfl) ?_
    refine ao_q (v := (.sl (List.map eCell p0))) go0 rfl (aq_mv rfl) ?_
    refine ao_q (v := (.sl (List.map eI p1))) go0 rfl (aq_mv rfl) ?_
    obtain ⟨q10, gq10, h0⟩ := Sh.bind_some h0
    refine ao_call (v' := (.own 0 0 (List.length q10))) (st' := [⟨0, 3, 1, List.map eI q10⟩]) go0 hb69 (spec_reachOf_ok gq10) rfl rfl ⟨pure_map fun _ => rfl, trivial⟩ rfl rfl ?_
    refine ao_q (v := (.own 0 0 (List.length q10))) go0 rfl (aq_as rfl) ?_
    refine AO.done (hK9 _ ?_)
    replace h0 := Sh.some_eq h0
    subst r
    exact AW.ret (Exists.intro _ (And.intro (Wk.to (L := [(4, (.own 0 0 (List.length q10)))]) ⟨.rfl, trivial⟩) (And.intro rfl rfl)))

set_option maxRecDepth 100000 in
set_option maxHeartbeats 4000000 in
theorem laws_equalInts_ok {N : Nat} {p0 : (List Int)} {p1 : (List Int)} {r : Bool} (h0 : laws_equalInts N p0 p1 = some r) : ACalls Try.prog 54 [(.sl (List.map eI p0)), (.sl (List.map eI p1))] [] (fun v st => v = (.bool r) ∧ st = []) := by
  unfold laws_equalInts at h0
  refine ACalls.intro Try.func54 rfl (by show 2 ≤ 26; decide) ?_
  show AW _ 0 _ (aret _ 0 Try.f54 _) ⟨26, _, _⟩
  refine AW.weaken (Wk.to (L := [(0, (.sl (List.map eI p0))), (1, (.sl (List.map eI p1)))]) ⟨.rfl, .rfl, trivial⟩) ?_
  refine AW.seq fun K1 hK1 => ?_
  refine AW.regionO (by rfl) ?_
  refine ao_q (v := (.bool false)) go0 rfl (aq_as rfl) ?_
  refine AO.done (hK1 _ ?_)
  refine AW.seq fun K2 hK2 => ?_
  refine AW.seq fun K3 hK3 => ?_
  refine AW.regionO (by rfl) ?_
  refine ao_q (v := (.sl (List.map eI p0))) go0 rfl (aq_mv rfl) ?_
  refine ao_q (v := (i64 (Sh.len p0))) go0 rfl (aq_lens sl32 rfl) ?_
  refine ao_q (v := (.sl (List.map eI p1))) go0 rfl (aq_mv rfl) ?_
  refine ao_q (v := (i64 (Sh.len p1))) go0 rfl (aq_lens sl32 rfl) ?_
  refine ao_q (v := (.bool (!decide ((Sh.len p0) = (Sh.len p1))))) go0 rfl (aq_ne rfl rfl) ?_
  refine AO.done (hK3 _ ?_)
  refine AW.cond' (b := !decide ((Sh.len p0) = (Sh.len p1))) rfl (fun b4 => ?_) (fun b4 => ?_)
  · replace h0 := Sh.ite_t b4 h0
    have b5 : decide ((Sh.len p0) = (Sh.len p1)) = false := by simpa using b4
    refine AW.seq fun K6 hK6 => ?_
    refine AW.regionO (by rfl) ?_
    refine ao_q (v := (.bool false)) go0 rfl (aq_as rfl) ?_
    refine AO.done (hK6 _ ?_)
    replace h0 := Sh.some_eq h0
    subst r
    exact AW.ret (Exists.intro _ (And.intro (Wk.to (L := [(4, (.bool false))]) ⟨.rfl, trivial⟩) (And.intro rfl rfl)))
  · replace h0 := Sh.ite_f b4 h0
    have b7 : decide ((Sh.len p0) = (Sh.len p1)) = true := by simpa using b4
    refine AW.skip (hK2 _ ?_)
    refine AW.seq fun K8 hK8 => ?_
    refine AW.seq fun K9 hK9 => ?_
    refine AW.regionO (by rfl) ?_
    refine ao_q (v := (i64 0)) go0 rfl (aq_as rfl) ?_
    refine AO.done (hK9 _ ?_)
    obtain ⟨o11, h1, h0⟩ := Sh.cont_some h0
    have M11 : ∀ (_ : Unit), o11 = Sum.inr () → ∀ s, Wk 0 s ⟨26, envL [], []⟩ → K8 s := by
      intro _ hq s hw
      subst o11
      try dsimp only at h0
      refine hK8 _ (AW.weaken hw ?_)
      refine AW.seq fun K12 hK12 => ?_
      refine AW.regionO (by rfl) ?_
      refine ao_q (v := (.bool true)) go0 rfl (aq_as rfl) ?_
      refine AO.done (hK12 _ ?_)
      replace h0 := Sh.some_eq h0
      subst r
      exact AW.ret (Exists.intro _ (And.intro (Wk.to (L := [(4, (.bool true))]) ⟨.rfl, trivial⟩) (And.intro rfl rfl)))
    refine AW.block (AW.loopF (σ := Int) (fun n v => laws_equalInts_L1 p0 p1 n v = some o11) (fun i10 => ⟨26, envL [(0, (.sl (List.map eI p0))), (1, (.sl (List.map eI p1))), (5, (i64 i10))], []⟩) N 0 h1 (Wk.to (L := [(0, (.sl (List.map eI p0))), (1, (.sl (List.map eI p1))), (5, (i64 0))]) ⟨.rfl, .rfl, .rfl, trivial⟩) (fun _ hv => by rw [laws_equalInts_L1] at hv; cases hv) ?_)
    rintro n i10 h1
    try dsimp only at h1 ⊢
    rw [laws_equalInts_L1] at h1
    refine AW.seq fun K13 hK13 => ?_
    refine AW.seq fun K14 hK14 => ?_
    refine AW.regionO (by rfl) ?_
    refine ao_q (v := (i64 i10)) go0 rfl (aq_mv rfl) ?_
    refine ao_q (v := (.sl (List.map eI p0))) go0 rfl (aq_mv rfl) ?_
    refine ao_q (v := (i64 (Sh.len p0))) go0 rfl (aq_lens sl32 rfl) ?_
    refine ao_q (v := (.bool (decide (i10 < (Sh.len p0))))) go0 rfl (aq_lt rfl rfl) ?_
    refine AO.done (hK14 _ ?_)
    refine AW.cond' (b := decide (i10 < (Sh.len p0))) rfl (fun b15 => ?_) (fun b15 => ?_)
    · replace h1 := Sh.ite_t b15 h1
      refine AW.skip (hK13 _ ?_)
      refine AW.seq fun K16 hK16 => ?_
      refine AW.block ?_
      refine AW.seq fun K17 hK17 => ?_
      refine AW.draw (by kernel_rfl) (by kernel_rfl) (by rfl) ?_
      refine d_q (v := (.sl (List.map eI p0))) go0 rfl (aq_mv rfl) ?_
      refine d_q (v := (i64 i10)) go0 rfl (aq_mv rfl) ?_
      obtain ⟨c18, gc18, h1⟩ := Sh.bind_some h1
      refine d_q (v := (.iptr (eI c18) 0)) go0 rfl (aq_ixs ei32 rfl rfl gc18 rfl) ?_
      refine d_q (v := (i64 c18)) go0 rfl (aq_ldi ti3 rfl rfl) ?_
      refine d_q (v := (.sl (List.map eI p1))) go0 rfl (aq_mv rfl) ?_
      refine d_q (v := (i64 i10)) go0 rfl (aq_mv rfl) ?_
      obtain ⟨c19, gc19, h1⟩ := Sh.bind_some h1
      refine d_q (v := (.iptr (eI c19) 0)) go0 rfl (aq_ixs ei32 rfl rfl gc19 rfl) ?_
      refine d_q (v := (i64 c19)) go0 rfl (aq_ldi ti3 rfl rfl) ?_
      refine d_q (v := (.bool (!decide (c18 = c19)))) go0 rfl (aq_ne rfl rfl) ?_
      refine d_done (hK17 _ ?_)
      refine AW.cond' (b := !decide (c18 = c19)) rfl (fun b20 => ?_) (fun b20 => ?_)
      · replace h1 := Sh.ite_t b20 h1
        have b21 : decide (c18 = c19) = false := by simpa using b20
        refine AW.seq fun K22 hK22 => ?_
        refine AW.regionO (by rfl) ?_
        refine ao_q (v := (.bool false)) go0 rfl (aq_as rfl) ?_
        refine AO.done (hK22 _ ?_)
        replace h1 := Sh.some_eq h1
        subst o11
        try dsimp only [id] at h0
        replace h0 := Sh.some_eq h0
        subst r
        exact AW.ret (Exists.intro _ (And.intro (Wk.to (L := [(4, (.bool false))]) ⟨.rfl, trivial⟩) (And.intro rfl rfl)))
      · replace h1 := Sh.ite_f b20 h1
        have b23 : decide (c18 = c19) = true := by simpa using b20
        refine AW.skip (hK16 _ ?_)
        refine AW.regionO (by rfl) ?_
        refine ao_q (v := (i64 i10)) go0 rfl (aq_mv rfl) ?_
        refine ao_q (v := (i64 (Sh.w (i10 + 1)))) go0 rfl (aq_add rfl rfl) ?_
        refine ao_q (v := (i64 (Sh.w (i10 + 1)))) go0 rfl (aq_as rfl) ?_
        exact AO.done (Exists.intro (Sh.w (i10 + 1)) (And.intro h1 (Wk.to (L := [(0, (.sl (List.map eI p0))), (1, (.sl (List.map eI p1))), (5, (i64 (Sh.w (i10 + 1))))]) ⟨.rfl, .rfl, .rfl, trivial⟩)))
    · replace h1 := Sh.ite_f b15 h1
      exact AW.exit (M11 () (Sh.some_eq h1).symm _ (Wk.to (L := []) trivial))

set_option maxRecDepth 100000 in
set_option maxHeartbeats 4000000 in
theorem laws_isIn_ok {N : Nat} {p0 : (List Int)} {p1 : Int} {r : Bool} (h0 : laws_isIn N p0 p1 = some r) : ACalls Try.prog 55 [(.sl (List.map eI p0)), (i64 p1)] [] (fun v st => v = (.bool r) ∧ st = []) := by
  unfold laws_isIn at h0
  refine ACalls.intro Try.func55 rfl (by show 2 ≤ 18; decide) ?_
  show AW _ 0 _ (aret _ 0 Try.f55 _) ⟨18, _, _⟩
  refine AW.weaken (Wk.to (L := [(0, (.sl (List.map eI p0))), (1, (i64 p1))]) ⟨.rfl, .rfl, trivial⟩) ?_
  refine AW.seq fun K1 hK1 => ?_
  refine AW.regionO (by rfl) ?_
  refine ao_q (v := (.bool false)) go0 rfl (aq_as rfl) ?_
  refine AO.done (hK1 _ ?_)
  refine AW.seq fun K2 hK2 => ?_
  refine AW.seq fun K3 hK3 => ?_
  refine AW.regionO (by rfl) ?_
  refine ao_q (v := (i64 0)) go0 rfl (aq_as rfl) ?_
  refine AO.done (hK3 _ ?_)
  obtain ⟨o5, h1, h0⟩ := Sh.cont_some h0
  have M5 : ∀ (_ : Unit), o5 = Sum.inr () → ∀ s, Wk 0 s ⟨18, envL [], []⟩ → K2 s := by
    intro _ hq s hw
    subst o5
    try dsimp only at h0
    refine hK2 _ (AW.weaken hw ?_)
    refine AW.seq fun K6 hK6 => ?_
    refine AW.regionO (by rfl) ?_
    refine ao_q (v := (.bool false)) go0 rfl (aq_as rfl) ?_
    refine AO.done (hK6 _ ?_)
    replace h0 := Sh.some_eq h0
    subst r
    exact AW.ret (Exists.intro _ (And.intro (Wk.to (L := [(4, (.bool false))]) ⟨.rfl, trivial⟩) (And.intro rfl rfl)))
  refine AW.block (AW.loopF (σ := Int) (fun n v => laws_isIn_L1 p0 p1 n v = some o5) (fun i4 => ⟨18, envL [(0, (.sl (List.map eI p0))), (1, (i64 p1)), (5, (i64 i4))], []⟩) N 0 h1 (Wk.to (L := [(0, (.sl (List.map eI p0))), (1, (i64 p1)), (5, (i64 0))]) ⟨.rfl, .rfl, .rfl, trivial⟩) (fun _ hv => by rw [laws_isIn_L1] at hv; cases hv) ?_)
  rintro n i4 h1
  try dsimp only at h1 ⊢
  rw [laws_isIn_L1] at h1
  refine AW.seq fun K7 hK7 => ?_
  refine AW.seq fun K8 hK8 => ?_
  refine AW.regionO (by rfl) ?_
  refine ao_q (v := (i64 i4)) go0 rfl (aq_mv rfl) ?_
  refine ao_q (v := (.sl (List.map eI p0))) go0 rfl (aq_mv rfl) ?_
  refine ao_q (v := (i64 (Sh.len p0))) go0 rfl (aq_lens sl32 rfl) ?_
  refine ao_q (v := (.bool (decide (i4 < (Sh.len p0))))) go0 rfl (aq_lt rfl rfl) ?_
  refine AO.done (hK8 _ ?_)
  refine AW.cond' (b := decide (i4 < (Sh.len p0))) rfl (fun b9 => ?_) (fun b9 => ?_)
  · replace h1 := Sh.ite_t b9 h1
    refine AW.skip (hK7 _ ?_)
    refine AW.seq fun K10 hK10 => ?_
    refine AW.block ?_
    refine AW.seq fun K11 hK11 => ?_
    refine AW.regionO (by rfl) ?_
    refine ao_q (v := (.sl (List.map eI p0))) go0 rfl (aq_mv rfl) ?_
    refine ao_q (v := (i64 i4)) go0 rfl (aq_mv rfl) ?_
    obtain ⟨c12, gc12, h1⟩ := Sh.bind_some h1
    refine ao_q (v := (.iptr (eI c12) 0)) go0 rfl (aq_ixs ei32 rfl rfl gc12 rfl) ?_
    refine ao_q (v := (i64 c12)) go0 rfl (aq_ldi ti3 rfl rfl) ?_
    refine ao_q (v := (i64 p1)) go0 rfl (aq_mv rfl) ?_
    refine ao_q (v := (.bool (decide (c12 = p1)))) go0 rfl (aq_eq rfl rfl) ?_
    refine AO.done (hK11 _ ?_)
    refine AW.cond' (b := decide (c12 = p1)) rfl (fun b13 => ?_) (fun b13 => ?_)
    · replace h1 := Sh.ite_t b13 h1
      refine AW.seq fun K14 hK14 => ?_
      refine AW.regionO (by rfl) ?_
      refine ao_q (v := (.bool true)) go0 rfl (aq_as rfl) ?_
      refine AO.done (hK14 _ ?_)
      replace h1 := Sh.some_eq h1
      subst o5
      try dsimp only [id] at h0
      replace h0 := Sh.some_eq h0
      subst r
      exact AW.ret (Exists.intro _ (And.intro (Wk.to (L := [(4, (.bool true))]) ⟨.rfl, trivial⟩) (And.intro rfl rfl)))
    · replace h1 := Sh.ite_f b13 h1
      refine AW.skip (hK10 _ ?_)
      refine AW.regionO (by rfl) ?_
      refine ao_q (v := (i64 i4)) go0 rfl (aq_mv rfl) ?_
      refine ao_q (v := (i64 (Sh.w (i4 + 1)))) go0 rfl (aq_add rfl rfl) ?_
      refine ao_q (v := (i64 (Sh.w (i4 + 1)))) go0 rfl (aq_as rfl) ?_
      exact AO.done (Exists.intro (Sh.w (i4 + 1)) (And.intro h1 (Wk.to (L := [(0, (.sl (List.map eI p0))), (1, (i64 p1)), (5, (i64 (Sh.w (i4 + 1))))]) ⟨.rfl, .rfl, .rfl, trivial⟩)))
  · replace h1 := Sh.ite_f b9 h1
    exact AW.exit (M5 () (Sh.some_eq h1).symm _ (Wk.to (L := []) trivial))

set_option maxRecDepth 100000 in
set_option maxHeartbeats 4000000 in
theorem laws_ascends_ok {N : Nat} {p0 : (List Int)} {r : Bool} (h0 : laws_ascends N p0 = some r) : ACalls Try.prog 56 [(.sl (List.map eI p0))] [] (fun v st => v = (.bool r) ∧ st = []) := by
  unfold laws_ascends at h0
  refine ACalls.intro Try.func56 rfl (by show 1 ≤ 20; decide) ?_
  show AW _ 0 _ (aret _ 0 Try.f56 _) ⟨20, _, _⟩
  refine AW.weaken (Wk.to (L := [(0, (.sl (List.map eI p0)))]) ⟨.rfl, trivial⟩) ?_
  refine AW.seq fun K1 hK1 => ?_
  refine AW.regionO (by rfl) ?_
  refine ao_q (v := (.bool false)) go0 rfl (aq_as rfl) ?_
  refine AO.done (hK1 _ ?_)
  refine AW.seq fun K2 hK2 => ?_
  refine AW.seq fun K3 hK3 => ?_
  refine AW.regionO (by rfl) ?_
  refine ao_q (v := (i64 1)) go0 rfl (aq_as rfl) ?_
  refine AO.done (hK3 _ ?_)
  obtain ⟨o5, h1, h0⟩ := Sh.cont_some h0
  have M5 : ∀ (_ : Unit), o5 = Sum.inr () → ∀ s, Wk 0 s ⟨20, envL [], []⟩ → K2 s := by
    intro _ hq s hw
    subst o5
    try dsimp only at h0
    refine hK2 _ (AW.weaken hw ?_)
    refine AW.seq fun K6 hK6 => ?_
    refine AW.regionO (by rfl) ?_
    refine ao_q (v := (.bool true)) go0 rfl (aq_as rfl) ?_
    refine AO.done (hK6 _ ?_)
    replace h0 := Sh.some_eq h0
    subst r
    exact AW.ret (Exists.intro _ (And.intro (Wk.to (L := [(2, (.bool true))]) ⟨.rfl, trivial⟩) (And.intro rfl rfl)))
  refine AW.block (AW.loopF (σ := Int) (fun n v => laws_ascends_L1 p0 n v = some o5) (fun i4 => ⟨20, envL [(0, (.sl (List.map eI p0))), (3, (i64 i4))], []⟩) N 1 h1 (Wk.to (L := [(0, (.sl (List.map eI p0))), (3, (i64 1))]) ⟨.rfl, .rfl, trivial⟩) (fun _ hv => by rw [laws_ascends_L1] at hv; cases hv) ?_)
  rintro n i4 h1
  try dsimp only at h1 ⊢
  rw [laws_ascends_L1] at h1
  refine AW.seq fun K7 hK7 => ?_
  refine AW.seq fun K8 hK8 => ?_
  refine AW.regionO (by rfl) ?_
  refine ao_q (v := (i64 i4)) go0 rfl (aq_mv rfl) ?_
  refine ao_q (v := (.sl (List.map eI p0))) go0 rfl (aq_mv rfl) ?_
  refine ao_q (v := (i64 (Sh.len p0))) go0 rfl (aq_lens sl32 rfl) ?_
  refine ao_q (v := (.bool (decide (i4 < (Sh.len p0))))) go0 rfl (aq_lt rfl rfl) ?_
  refine AO.done (hK8 _ ?_)
  refine AW.cond' (b := decide (i4 < (Sh.len p0))) rfl (fun b9 => ?_) (fun b9 => ?_)
  · replace h1 := Sh.ite_t b9 h1
    refine AW.skip (hK7 _ ?_)
    refine AW.seq fun K10 hK10 => ?_
    refine AW.block ?_
    refine AW.seq fun K11 hK11 => ?_
    refine AW.draw (by kernel_rfl) (by kernel_rfl) (by rfl) ?_
    refine d_q (v := (.sl (List.map eI p0))) go0 rfl (aq_mv rfl) ?_
    refine d_q (v := (i64 i4)) go0 rfl (aq_mv rfl) ?_
    obtain ⟨c12, gc12, h1⟩ := Sh.bind_some h1
    refine d_q (v := (.iptr (eI c12) 0)) go0 rfl (aq_ixs ei32 rfl rfl gc12 rfl) ?_
    refine d_q (v := (i64 c12)) go0 rfl (aq_ldi ti3 rfl rfl) ?_
    refine d_q (v := (.sl (List.map eI p0))) go0 rfl (aq_mv rfl) ?_
    refine d_q (v := (i64 i4)) go0 rfl (aq_mv rfl) ?_
    refine d_q (v := (i64 (Sh.w (i4 - 1)))) go0 rfl (aq_sub rfl rfl) ?_
    obtain ⟨c13, gc13, h1⟩ := Sh.bind_some h1
    refine d_q (v := (.iptr (eI c13) 0)) go0 rfl (aq_ixs ei32 rfl rfl gc13 rfl) ?_
    refine d_q (v := (i64 c13)) go0 rfl (aq_ldi ti3 rfl rfl) ?_
    refine d_q (v := (.bool (decide (c12 ≤ c13)))) go0 rfl (aq_le rfl rfl) ?_
    refine d_done (hK11 _ ?_)
    refine AW.cond' (b := decide (c12 ≤ c13)) rfl (fun b14 => ?_) (fun b14 => ?_)
    · replace h1 := Sh.ite_t b14 h1
      refine AW.seq fun K15 hK15 => ?_
      refine AW.regionO (by rfl) ?_
      refine ao_q (v := (.bool false)) go0 rfl (aq_as rfl) ?_
      refine AO.done (hK15 _ ?_)
      replace h1 := Sh.some_eq h1
      subst o5
      try dsimp only [id] at h0
      replace h0 := Sh.some_eq h0
      subst r
      exact AW.ret (Exists.intro _ (And.intro (Wk.to (L := [(2, (.bool false))]) ⟨.rfl, trivial⟩) (And.intro rfl rfl)))
    · replace h1 := Sh.ite_f b14 h1
      refine AW.skip (hK10 _ ?_)
      refine AW.regionO (by rfl) ?_
      refine ao_q (v := (i64 i4)) go0 rfl (aq_mv rfl) ?_
      refine ao_q (v := (i64 (Sh.w (i4 + 1)))) go0 rfl (aq_add rfl rfl) ?_
      refine ao_q (v := (i64 (Sh.w (i4 + 1)))) go0 rfl (aq_as rfl) ?_
      exact AO.done (Exists.intro (Sh.w (i4 + 1)) (And.intro h1 (Wk.to (L := [(0, (.sl (List.map eI p0))), (3, (i64 (Sh.w (i4 + 1))))]) ⟨.rfl, .rfl, trivial⟩)))
  · replace h1 := Sh.ite_f b9 h1
    exact AW.exit (M5 () (Sh.some_eq h1).symm _ (Wk.to (L := []) trivial))

set_option maxRecDepth 100000 in
set_option maxHeartbeats 4000000 in
theorem laws_FnReachOf_ok {N : Nat} {p0 : (List Int)} {r : Bool} (h0 : laws_FnReachOf N p0 = some r) : ACalls Try.prog 17 [(.sl (List.map eI_u8 p0))] [] (fun v st => v = (.bool r) ∧ st = []) := by
  unfold laws_FnReachOf at h0
  refine ACalls.intro Try.func17 rfl (by show 1 ≤ 78; decide) ?_
  show AW _ 0 _ (aret _ 0 Try.f17 _) ⟨78, _, _⟩
  refine AW.weaken (Wk.to (L := [(0, (.sl (List.map eI_u8 p0)))]) ⟨.rfl, trivial⟩) ?_
  refine AW.seq fun K1 hK1 => ?_
  refine AW.regionO (by rfl) ?_
  refine ao_q (v := (.bool false)) go0 rfl (aq_as rfl) ?_
  refine AO.done (hK1 _ ?_)
  refine AW.seq fun K2 hK2 => ?_
  refine AW.seq fun K3 hK3 => ?_
  refine AW.regionO (by rfl) ?_
  refine ao_q (v := (.sl (List.map eI_u8 p0))) go0 rfl (aq_mv rfl) ?_
  refine ao_q (v := (i64 (Sh.len p0))) go0 rfl (aq_lens sl38 rfl) ?_
  refine ao_q (v := (.bool (decide (1048576 < (Sh.len p0))))) go0 rfl (aq_gt rfl rfl) ?_
  refine AO.done (hK3 _ ?_)
  refine AW.cond' (b := decide (1048576 < (Sh.len p0))) rfl (fun b4 => ?_) (fun b4 => ?_)
  · replace h0 := Sh.ite_t b4 h0
    refine AW.seq fun K5 hK5 => ?_
    refine AW.regionO (by rfl) ?_
    refine ao_q (v := (.bool true)) go0 rfl (aq_as rfl) ?_
    refine AO.done (hK5 _ ?_)
    replace h0 := Sh.some_eq h0
    subst r
    exact AW.ret (Exists.intro _ (And.intro (Wk.to (L := [(2, (.bool true))]) ⟨.rfl, trivial⟩) (And.intro rfl rfl)))
  · replace h0 := Sh.ite_f b4 h0
    refine AW.skip (hK2 _ ?_)
    refine AW.seq fun K6 hK6 => ?_
    refine AW.regionO (by rfl) ?_
    refine ao_q (v := (.sl (List.map eI_u8 p0))) go0 rfl (aq_mv rfl) ?_
    obtain ⟨q7, gq7, h0⟩ := Sh.bind_some h0
    refine ao_call (v' := (.tup [(.own 0 0 (List.length q7.1)), (.own 1 0 (List.length q7.2))])) (st' := [⟨0, 41, 3, List.map eCell q7.1⟩, ⟨0, 3, 1, List.map eI q7.2⟩]) go0 hb53 (spec_DrawReachOf_ok gq7) rfl rfl ⟨pure_map fun _ => rfl, ⟨pure_map fun _ => rfl, trivial⟩⟩ rfl rfl ?_
    refine ao_q (v := (.tup [(.own 0 0 (List.length q7.1)), (.own 1 0 (List.length q7.2))])) go0 rfl (aq_mv rfl) ?_
    refine ao_q (v := (.own 0 0 (List.length q7.1))) go0 rfl (aq_ex rfl rfl) ?_
    refine ao_q (v := (.own 1 0 (List.length q7.2))) go0 rfl (aq_ex rfl rfl) ?_
    refine ao_q (v := (.own 0 0 (List.length q7.1))) go0 rfl (aq_as rfl) ?_
    refine ao_q (v := (.own 1 0 (List.length q7.2))) go0 rfl (aq_as rfl) ?_
    refine AO.done (hK6 _ ?_)
    refine AW.seq fun K8 hK8 => ?_
    refine AW.regionO (by rfl) ?_
    refine ao_q (v := (.own 0 0 (List.length q7.1))) go0 rfl (aq_mv rfl) ?_
    refine ao_q (v := (.own 1 0 (List.length q7.2))) go0 rfl (aq_mv rfl) ?_
    obtain ⟨q9, gq9, h0⟩ := Sh.bind_some h0
    refine ao_callb (v' := (.own 2 0 (List.length q9))) (st' := [⟨0, 41, 3, List.map eCell q7.1⟩, ⟨0, 3, 1, List.map eI q7.2⟩, ⟨0, 3, 1, List.map eI q9⟩]) go0 hb33 (impl_ReachOf_ok gq9) rfl (.own rfl rfl (fun _ => rfl) (.own rfl rfl (fun _ => rfl) .nil)) rfl (srow (fun _ => rfl) trivial) rfl rfl ?_
    refine ao_q (v := (.own 2 0 (List.length q9))) go0 rfl (aq_as rfl) ?_
    refine AO.done (hK8 _ ?_)
    refine AW.seq fun K10 hK10 => ?_
    refine AW.seq fun K11 hK11 => ?_
    obtain ⟨o13, h1, h0⟩ := Sh.bind_some h0
    have M13 : ∀ (t12 : Bool), o13 = t12 → ∀ s, Wk 0 s ⟨78, envL [(3, (.own 0 0 (List.length q7.1))), (4, (.own 1 0 (List.length q7.2))), (5, (.own 2 0 (List.length q9))), (30, (.bool t12))], [⟨0, 41, 3, List.map eCell q7.1⟩, ⟨0, 3, 1, List.map eI q7.2⟩, ⟨0, 3, 1, List.map eI q9⟩]⟩ → K11 s := by
      intro t12 hq s hw
      subst o13
      try dsimp only at h0
      refine hK11 _ (AW.weaken hw ?_)
      refine AW.cond' (b := t12) rfl (fun b14 => ?_) (fun b14 => ?_)
      · replace h0 := Sh.ite_t b14 h0
        refine AW.seq fun K15 hK15 => ?_
        refine AW.regionO (by rfl) ?_
        refine ao_q (v := (.own 2 0 (List.length q9))) go0 rfl (aq_mv rfl) ?_
        refine ao_q (v := (.own 0 0 (List.length q7.1))) go0 rfl (aq_mv rfl) ?_
        refine ao_q (v := (.own 1 0 (List.length q7.2))) go0 rfl (aq_mv rfl) ?_
        refine AO.weaken (Wk.frz (L := [(31, (.own 2 0 (List.length q9))), (32, (.sl (List.map eCell q7.1))), (33, (.own 1 0 (List.length q7.2)))]) (st' := [⟨1, 41, 3, []⟩, ⟨0, 3, 1, List.map eI q7.2⟩, ⟨0, 3, 1, List.map eI q9⟩]) (id := 0) rfl (show 0 ≤ 0 by decide) (pure_map fun _ => rfl) ⟨.rfl, (.frz rfl), .rfl, trivial⟩ rfl) ?_
        refine AO.weaken (Wk.frz (L := [(31, (.own 2 0 (List.length q9))), (32, (.sl (List.map eCell q7.1))), (33, (.sl (List.map eI q7.2)))]) (st' := [⟨1, 41, 3, []⟩, ⟨1, 3, 1, []⟩, ⟨0, 3, 1, List.map eI q9⟩]) (id := 1) rfl (show 0 ≤ 1 by decide) (pure_map fun _ => rfl) ⟨.rfl, .rfl, (.frz rfl), trivial⟩ rfl) ?_
        obtain ⟨q16, gq16, h0⟩ := Sh.bind_some h0
        refine ao_call (v' := (.own 3 0 (List.length q16))) (st' := [⟨1, 41, 3, []⟩, ⟨1, 3, 1, []⟩, ⟨0, 3, 1, List.map eI q9⟩, ⟨0, 3, 1, List.map eI q16⟩]) go0 hb31 (spec_ReachOf_ok gq16) rfl rfl ⟨pure_map fun _ => rfl, trivial⟩ rfl rfl ?_
        refine AO.weaken (Wk.frz (L := [(31, (.sl (List.map eI q9))), (34, (.own 3 0 (List.length q16)))]) (st' := [⟨1, 41, 3, []⟩, ⟨1, 3, 1, []⟩, ⟨1, 3, 1, []⟩, ⟨0, 3, 1, List.map eI q16⟩]) (id := 2) rfl (show 0 ≤ 2 by decide) (pure_map fun _ => rfl) ⟨(.frz rfl), .rfl, trivial⟩ rfl) ?_
        refine AO.weaken (Wk.frz (L := [(31, (.sl (List.map eI q9))), (34, (.sl (List.map eI q16)))]) (st' := [⟨1, 41, 3, []⟩, ⟨1, 3, 1, []⟩, ⟨1, 3, 1, []⟩, ⟨1, 3, 1, []⟩]) (id := 3) rfl (show 0 ≤ 3 by decide) (pure_map fun _ => rfl) ⟨.rfl, (.frz rfl), trivial⟩ rfl) ?_
        obtain ⟨q17, gq17, h0⟩ := Sh.bind_some h0
        refine ao_call (v' := (.bool q17)) (st' := [⟨1, 41, 3, []⟩, ⟨1, 3, 1, []⟩, ⟨1, 3, 1, []⟩, ⟨1, 3, 1, []⟩]) go0 hb54 (laws_equalInts_ok gq17) rfl rfl trivial rfl rfl ?_
        refine ao_q (v := (.bool q17)) go0 rfl (aq_as rfl) ?_
        refine AO.done (hK15 _ ?_)
        replace h0 := Sh.some_eq h0
        subst r
        exact AW.ret (Exists.intro _ (And.intro ((Wk.permk (L := [(2, (.bool q17))]) (st' := []) (st1 := []) [] rfl .nil (by decide) rfl rfl .nil ⟨.rfl, trivial⟩).trans (Wk.to (L := [(2, (.bool q17))]) ⟨.rfl, trivial⟩)) (And.intro rfl rfl)))
      · replace h0 := Sh.ite_f b14 h0
        refine AW.skip (hK10 _ ?_)
        refine AW.seq fun K18 hK18 => ?_
        refine AW.seq fun K19 hK19 => ?_
        refine AW.regionO (by rfl) ?_
        refine ao_q (v := (i64 0)) go0 rfl (aq_as rfl) ?_
        refine AO.done (hK19 _ ?_)
        obtain ⟨o21, h1, h0⟩ := Sh.cont_some h0
        have M21 : ∀ (_ : Unit), o21 = Sum.inr () → ∀ s, Wk 0 s ⟨78, envL [(5, (.own 0 0 (List.length q9)))], [⟨0, 3, 1, List.map eI q9⟩]⟩ → K18 s := by
          intro _ hq s hw
          subst o21
          try dsimp only at h0
          refine hK18 _ (AW.weaken hw ?_)
          refine AW.seq fun K22 hK22 => ?_
          refine AW.regionO (by rfl) ?_
          refine ao_q (v := (.own 0 0 (List.length q9))) go0 rfl (aq_mv rfl) ?_
          refine AO.weaken (Wk.frz (L := [(76, (.sl (List.map eI q9)))]) (st' := [⟨1, 3, 1, []⟩]) (id := 0) rfl (show 0 ≤ 0 by decide) (pure_map fun _ => rfl) ⟨(.frz rfl), trivial⟩ rfl) ?_
          obtain ⟨q23, gq23, h0⟩ := Sh.bind_some h0
          refine ao_call (v' := (.bool q23)) (st' := [⟨1, 3, 1, []⟩]) go0 hb56 (laws_ascends_ok gq23) rfl rfl trivial rfl rfl ?_
          refine ao_q (v := (.bool q23)) go0 rfl (aq_as rfl) ?_
          refine AO.done (hK22 _ ?_)
          replace h0 := Sh.some_eq h0
          subst r
          exact AW.ret (Exists.intro _ (And.intro ((Wk.permk (L := [(2, (.bool q23))]) (st' := []) (st1 := []) [] rfl .nil (by decide) rfl rfl .nil ⟨.rfl, trivial⟩).trans (Wk.to (L := [(2, (.bool q23))]) ⟨.rfl, trivial⟩)) (And.intro rfl rfl)))
        refine AW.block (AW.loopF (σ := Int) (fun n v => laws_FnReachOf_L1 N q7 q9 n v = some o21) (fun i20 => ⟨78, envL [(3, (.own 0 0 (List.length q7.1))), (5, (.own 1 0 (List.length q9))), (6, (i64 i20))], [⟨0, 41, 3, List.map eCell q7.1⟩, ⟨0, 3, 1, List.map eI q9⟩]⟩) N 0 h1 (by refine Wk.trans (Wk.permk (L := [(3, (.own 0 0 (List.length q7.1))), (5, (.own 1 0 (List.length q9))), (6, (i64 0))]) (st' := [⟨0, 41, 3, List.map eCell q7.1⟩, ⟨0, 3, 1, List.map eI q9⟩]) (st1 := [⟨0, 41, 3, List.map eCell q7.1⟩, ⟨0, 3, 1, List.map eI q9⟩]) [0, 2] rfl .nil (by decide) rfl rfl (.pure (pure_map fun _ => rfl) (.pure (pure_map fun _ => rfl) .nil)) ⟨.rfl, .rfl, .rfl, trivial⟩) ?_; exact Wk.to (L := [(3, (.own 0 0 (List.length q7.1))), (5, (.own 1 0 (List.length q9))), (6, (i64 0))]) ⟨.rfl, .rfl, .rfl, trivial⟩) (fun _ hv => by rw [laws_FnReachOf_L1] at hv; cases hv) ?_)
        rintro n i20 h1
        try dsimp only at h1 ⊢
        rw [laws_FnReachOf_L1] at h1
        refine AW.seq fun K24 hK24 => ?_
        refine AW.seq fun K25 hK25 => ?_
        refine AW.regionO (by rfl) ?_
        refine ao_q (v := (i64 i20)) go0 rfl (aq_mv rfl) ?_
        refine ao_q (v := (.own 1 0 (List.length q9))) go0 rfl (aq_mv rfl) ?_
        refine ao_q (v := (i64 (Sh.len q9))) go0 rfl (aq_leno sl32 rfl rfl rfl) ?_
        refine ao_q (v := (.bool (decide (i20 < (Sh.len q9))))) go0 rfl (aq_lt rfl rfl) ?_
        refine AO.done (hK25 _ ?_)
        refine AW.cond' (b := decide (i20 < (Sh.len q9))) rfl (fun b26 => ?_) (fun b26 => ?_)
        · replace h1 := Sh.ite_t b26 h1
          refine AW.skip (hK24 _ ?_)
          refine AW.seq fun K27 hK27 => ?_
          refine AW.block ?_
          refine AW.seq fun K28 hK28 => ?_
          refine AW.regionO (by rfl) ?_
          refine ao_q (v := (.own 0 0 (List.length q7.1))) go0 rfl (aq_mv rfl) ?_
          refine ao_q (v := (.own 1 0 (List.length q9))) go0 rfl (aq_mv rfl) ?_
          refine ao_q (v := (i64 i20)) go0 rfl (aq_mv rfl) ?_
          obtain ⟨c29, gc29, h1⟩ := Sh.bind_some h1
          refine ao_q (v := (.ptr 1 0 (Int.toNat i20) 0)) go0 rfl (aq_ixo ei32 rfl rfl rfl rfl gc29) ?_
          refine ao_q (v := (i64 c29)) go0 rfl (aq_ldp ti3 rfl rfl (map_get gc29) rfl) ?_
          obtain ⟨c30, gc30, h1⟩ := Sh.bind_some h1
          refine ao_q (v := (.ptr 0 0 (Int.toNat c29) 0)) go0 rfl (aq_ixo ei25 rfl rfl rfl rfl gc30) ?_
          refine ao_q (v := (.agg [(i64 c30.count), (i64 c30.tag), (.sl (List.map eI c30.fields))])) go0 rfl (aq_ldpa ti41 rfl rfl (map_get gc30) (show 0 + 3 ≤ 3 by decide) rfl) ?_
          refine ao_alloc (m := 2) (st' := [⟨0, 41, 3, List.map eCell q7.1⟩, ⟨0, 3, 1, List.map eI q9⟩, ⟨0, 41, 3, [[(i64 0), (i64 0), .zc]]⟩]) go0 zi41 rfl rfl ?_
          refine ao_str (st' := [⟨0, 41, 3, List.map eCell q7.1⟩, ⟨0, 3, 1, List.map eI q9⟩, ⟨0, 41, 3, [[(i64 c30.count), (i64 c30.tag), (.sl (List.map eI c30.fields))]]⟩]) go0 ti41 rfl rfl rfl rfl rfl rfl (show 0 + 3 ≤ 3 by decide) rfl ?_
          refine AO.done (hK28 _ ?_)
          refine AW.seq fun K31 hK31 => ?_
          refine AW.seq fun K32 hK32 => ?_
          refine AW.regionO (by rfl) ?_
          refine ao_q (v := (.ptr 2 0 0 0)) go0 rfl (aq_fap fi41_0 rfl rfl (show 0 + 0 ≤ 3 by decide) rfl) ?_
          refine ao_q (v := (i64 c30.count)) go0 rfl (aq_ldp ti3 rfl rfl rfl rfl) ?_
          refine ao_q (v := (.bool (decide (c30.count < 1)))) go0 rfl (aq_lt rfl rfl) ?_
          refine AO.done (hK32 _ ?_)
          refine AW.cond' (b := decide (c30.count < 1)) rfl (fun b33 => ?_) (fun b33 => ?_)
          · replace h1 := Sh.ite_t b33 h1
            refine AW.seq fun K34 hK34 => ?_
            refine AW.regionO (by rfl) ?_
            refine ao_q (v := (.bool false)) go0 rfl (aq_as rfl) ?_
            refine AO.done (hK34 _ ?_)
            replace h1 := Sh.some_eq h1
            subst o21
            try dsimp only [id] at h0
            replace h0 := Sh.some_eq h0
            subst r
            exact AW.ret (Exists.intro _ (And.intro ((Wk.permk (L := [(2, (.bool false))]) (st' := []) (st1 := []) [] rfl .nil (by decide) rfl rfl .nil ⟨.rfl, trivial⟩).trans (Wk.to (L := [(2, (.bool false))]) ⟨.rfl, trivial⟩)) (And.intro rfl rfl)))
          · replace h1 := Sh.ite_f b33 h1
            refine AW.skip (hK31 _ ?_)
            refine AW.seq fun K35 hK35 => ?_
            refine AW.regionO (by rfl) ?_
            refine ao_q (v := (i64 0)) go0 rfl (aq_as rfl) ?_
            refine AO.done (hK35 _ ?_)
            obtain ⟨o37, h2, h1⟩ := Sh.cont_some h1
            have M37 : ∀ (_ : Unit), o37 = Sum.inr () → ∀ s, Wk 0 s ⟨78, envL [(3, (.own 0 0 (List.length q7.1))), (5, (.own 1 0 (List.length q9))), (6, (i64 i20))], [⟨0, 41, 3, List.map eCell q7.1⟩, ⟨0, 3, 1, List.map eI q9⟩]⟩ → K27 s := by
              intro _ hq s hw
              subst o37
              try dsimp only at h1
              refine hK27 _ (AW.weaken hw ?_)
              refine AW.regionO (by rfl) ?_
              refine ao_q (v := (i64 i20)) go0 rfl (aq_mv rfl) ?_
              refine ao_q (v := (i64 (Sh.w (i20 + 1)))) go0 rfl (aq_add rfl rfl) ?_
              refine ao_q (v := (i64 (Sh.w (i20 + 1)))) go0 rfl (aq_as rfl) ?_
              exact AO.done (Exists.intro (Sh.w (i20 + 1)) (And.intro h1 (Wk.to (L := [(3, (.own 0 0 (List.length q7.1))), (5, (.own 1 0 (List.length q9))), (6, (i64 (Sh.w (i20 + 1))))]) ⟨.rfl, .rfl, .rfl, trivial⟩)))
            refine AW.block (AW.loopF (σ := Int) (fun n v => laws_FnReachOf_L2 N c30 q9 n v = some o37) (fun k36 => ⟨78, envL [(3, (.own 0 0 (List.length q7.1))), (5, (.own 1 0 (List.length q9))), (6, (i64 i20)), (7, (.ptr 2 0 0 0)), (8, (i64 k36))], [⟨0, 41, 3, List.map eCell q7.1⟩, ⟨0, 3, 1, List.map eI q9⟩, ⟨0, 41, 3, [[(i64 c30.count), (i64 c30.tag), (.sl (List.map eI c30.fields))]]⟩]⟩) N 0 h2 (Wk.to (L := [(3, (.own 0 0 (List.length q7.1))), (5, (.own 1 0 (List.length q9))), (6, (i64 i20)), (7, (.ptr 2 0 0 0)), (8, (i64 0))]) ⟨.rfl, .rfl, .rfl, .rfl, .rfl, trivial⟩) (fun _ hv => by rw [laws_FnReachOf_L2] at hv; cases hv) ?_)
            rintro n k36 h2
            try dsimp only at h2 ⊢
            rw [laws_FnReachOf_L2] at h2
            refine AW.seq fun K38 hK38 => ?_
            refine AW.seq fun K39 hK39 => ?_
            refine AW.regionO (by rfl) ?_
            refine ao_q (v := (i64 k36)) go0 rfl (aq_mv rfl) ?_
            refine ao_q (v := (.ptr 2 0 0 2)) go0 rfl (aq_fap fi41_2 rfl rfl (show 0 + 2 ≤ 3 by decide) rfl) ?_
            refine ao_q (v := (.sl (List.map eI c30.fields))) go0 rfl (aq_ldp ti32 rfl rfl rfl rfl) ?_
            refine ao_q (v := (i64 (Sh.len c30.fields))) go0 rfl (aq_lens sl32 rfl) ?_
            refine ao_q (v := (.bool (decide (k36 < (Sh.len c30.fields))))) go0 rfl (aq_lt rfl rfl) ?_
            refine AO.done (hK39 _ ?_)
            refine AW.cond' (b := decide (k36 < (Sh.len c30.fields))) rfl (fun b40 => ?_) (fun b40 => ?_)
            · replace h2 := Sh.ite_t b40 h2
              refine AW.skip (hK38 _ ?_)
              refine AW.seq fun K41 hK41 => ?_
              refine AW.block ?_
              refine AW.seq fun K42 hK42 => ?_
              obtain ⟨o44, h3, h2⟩ := Sh.bind_some h2
              have M44 : ∀ (t43 : Bool), o44 = t43 → ∀ s, Wk 0 s ⟨78, envL [(3, (.own 0 0 (List.length q7.1))), (5, (.own 1 0 (List.length q9))), (6, (i64 i20)), (7, (.ptr 2 0 0 0)), (8, (i64 k36)), (75, (.bool t43))], [⟨0, 41, 3, List.map eCell q7.1⟩, ⟨0, 3, 1, List.map eI q9⟩, ⟨0, 41, 3, [[(i64 c30.count), (i64 c30.tag), (.sl (List.map eI c30.fields))]]⟩]⟩ → K42 s := by
                intro t43 hq s hw
                subst o44
                try dsimp only at h2
                refine hK42 _ (AW.weaken hw ?_)
                refine AW.cond' (b := t43) rfl (fun b45 => ?_) (fun b45 => ?_)
                · replace h2 := Sh.ite_t b45 h2
                  refine AW.seq fun K46 hK46 => ?_
                  refine AW.regionO (by rfl) ?_
                  refine ao_q (v := (.bool false)) go0 rfl (aq_as rfl) ?_
                  refine AO.done (hK46 _ ?_)
                  replace h2 := Sh.some_eq h2
                  subst o37
                  try dsimp only [id] at h1
                  replace h1 := Sh.some_eq h1
                  subst o21
                  try dsimp only [id] at h0
                  replace h0 := Sh.some_eq h0
                  subst r
                  exact AW.ret (Exists.intro _ (And.intro ((Wk.permk (L := [(2, (.bool false))]) (st' := []) (st1 := []) [] rfl .nil (by decide) rfl rfl .nil ⟨.rfl, trivial⟩).trans (Wk.to (L := [(2, (.bool false))]) ⟨.rfl, trivial⟩)) (And.intro rfl rfl)))
                · replace h2 := Sh.ite_f b45 h2
                  refine AW.skip (hK41 _ ?_)
                  refine AW.regionO (by rfl) ?_
                  refine ao_q (v := (i64 k36)) go0 rfl (aq_mv rfl) ?_
                  refine ao_q (v := (i64 (Sh.w (k36 + 1)))) go0 rfl (aq_add rfl rfl) ?_
                  refine ao_q (v := (i64 (Sh.w (k36 + 1)))) go0 rfl (aq_as rfl) ?_
                  exact AO.done (Exists.intro (Sh.w (k36 + 1)) (And.intro h2 (Wk.to (L := [(3, (.own 0 0 (List.length q7.1))), (5, (.own 1 0 (List.length q9))), (6, (i64 i20)), (7, (.ptr 2 0 0 0)), (8, (i64 (Sh.w (k36 + 1))))]) ⟨.rfl, .rfl, .rfl, .rfl, .rfl, trivial⟩)))
              refine AW.regionO (by rfl) ?_
              refine ao_q (v := (.ptr 2 0 0 2)) go0 rfl (aq_fap fi41_2 rfl rfl (show 0 + 2 ≤ 3 by decide) rfl) ?_
              refine ao_q (v := (.sl (List.map eI c30.fields))) go0 rfl (aq_ldp ti32 rfl rfl rfl rfl) ?_
              refine ao_q (v := (i64 k36)) go0 rfl (aq_mv rfl) ?_
              obtain ⟨c47, gc47, h3⟩ := Sh.bind_some h3
              refine ao_q (v := (.iptr (eI c47) 0)) go0 rfl (aq_ixs ei32 rfl rfl gc47 rfl) ?_
              refine ao_q (v := (i64 c47)) go0 rfl (aq_ldi ti3 rfl rfl) ?_
              refine ao_q (v := (.bool (decide (1000 ≤ c47)))) go0 rfl (aq_ge rfl rfl) ?_
              refine ao_q (v := (.bool (decide (1000 ≤ c47)))) go0 rfl (aq_mv rfl) ?_
              rcases Sh.ite_some h3 with ⟨b48, h3⟩ | ⟨b48, h3⟩
              · skip
                refine ao_q (v := (.own 1 0 (List.length q9))) (go1 rfl rfl b48) rfl (aq_mv rfl) ?_
                refine ao_q (v := (.ptr 2 0 0 2)) (go1 rfl rfl b48) rfl (aq_fap fi41_2 rfl rfl (show 0 + 2 ≤ 3 by decide) rfl) ?_
                refine ao_q (v := (.sl (List.map eI c30.fields))) (go1 rfl rfl b48) rfl (aq_ldp ti32 rfl rfl rfl rfl) ?_
                refine ao_q (v := (i64 k36)) (go1 rfl rfl b48) rfl (aq_mv rfl) ?_
                refine ao_q (v := (.iptr (eI c47) 0)) (go1 rfl rfl b48) rfl (aq_ixs ei32 rfl rfl gc47 rfl) ?_
                refine ao_q (v := (i64 c47)) (go1 rfl rfl b48) rfl (aq_ldi ti3 rfl rfl) ?_
                refine ao_q (v := (i64 (Sh.w (c47 - 1000)))) (go1 rfl rfl b48) rfl (aq_sub rfl rfl) ?_
                obtain ⟨q49, gq49, h3⟩ := Sh.bind_some h3
                refine ao_callb (v' := (.bool q49)) (st' := [⟨0, 41, 3, List.map eCell q7.1⟩, ⟨0, 3, 1, List.map eI q9⟩, ⟨0, 41, 3, [[(i64 c30.count), (i64 c30.tag), (.sl (List.map eI c30.fields))]]⟩]) (go1 rfl rfl b48) hb55 (laws_isIn_ok gq49) rfl (.own rfl rfl (fun _ => rfl) (.val rfl .nil)) rfl trivial rfl rfl ?_
                refine ao_q (v := (.bool (!q49))) (go1 rfl rfl b48) rfl (aq_not rfl) ?_
                refine ao_q (v := (.bool (!q49))) go0 rfl (aq_pkt rfl b48 rfl) ?_
                exact AO.done (M44 (!q49) (Sh.some_eq h3).symm _ (Wk.to (L := [(3, (.own 0 0 (List.length q7.1))), (5, (.own 1 0 (List.length q9))), (6, (i64 i20)), (7, (.ptr 2 0 0 0)), (8, (i64 k36)), (75, (.bool (!q49)))]) ⟨.rfl, .rfl, .rfl, .rfl, .rfl, .rfl, trivial⟩))
              · skip
                refine ao_skip rfl rfl b48 ?_
                refine ao_skip rfl rfl b48 ?_
                refine ao_skip rfl rfl b48 ?_
                refine ao_skip rfl rfl b48 ?_
                refine ao_skip rfl rfl b48 ?_
                refine ao_skip rfl rfl b48 ?_
                refine ao_skip rfl rfl b48 ?_
                refine ao_skip rfl rfl b48 ?_
                refine ao_skip rfl rfl b48 ?_
                refine ao_q (v := (.bool false)) go0 rfl (aq_pkf rfl b48 rfl) ?_
                exact AO.done (M44 false (Sh.some_eq h3).symm _ (Wk.to (L := [(3, (.own 0 0 (List.length q7.1))), (5, (.own 1 0 (List.length q9))), (6, (i64 i20)), (7, (.ptr 2 0 0 0)), (8, (i64 k36)), (75, (.bool false))]) ⟨.rfl, .rfl, .rfl, .rfl, .rfl, .rfl, trivial⟩))
            · replace h2 := Sh.ite_f b40 h2
              exact AW.exit (M37 () (Sh.some_eq h2).symm _ (by refine Wk.trans (Wk.permk (L := [(3, (.own 0 0 (List.length q7.1))), (5, (.own 1 0 (List.length q9))), (6, (i64 i20))]) (st' := [⟨0, 41, 3, List.map eCell q7.1⟩, ⟨0, 3, 1, List.map eI q9⟩]) (st1 := [⟨0, 41, 3, List.map eCell q7.1⟩, ⟨0, 3, 1, List.map eI q9⟩]) [0, 1] rfl .nil (by decide) rfl rfl (.pure (pure_map fun _ => rfl) (.pure (pure_map fun _ => rfl) .nil)) ⟨.rfl, .rfl, .rfl, trivial⟩) ?_; exact Wk.to (L := [(3, (.own 0 0 (List.length q7.1))), (5, (.own 1 0 (List.length q9))), (6, (i64 i20))]) ⟨.rfl, .rfl, .rfl, trivial⟩))
        · replace h1 := Sh.ite_f b26 h1
          exact AW.exit (M21 () (Sh.some_eq h1).symm _ (by refine Wk.trans (Wk.permk (L := [(5, (.own 0 0 (List.length q9)))]) (st' := [⟨0, 3, 1, List.map eI q9⟩]) (st1 := [⟨0, 3, 1, List.map eI q9⟩]) [1] rfl .nil (by decide) rfl rfl (.pure (pure_map fun _ => rfl) .nil) ⟨.rfl, trivial⟩) ?_; exact Wk.to (L := [(5, (.own 0 0 (List.length q9)))]) ⟨.rfl, trivial⟩))
    refine AW.regionO (by rfl) ?_
    refine ao_q (v := (.own 2 0 (List.length q9))) go0 rfl (aq_mv rfl) ?_
    refine ao_q (v := (.own 0 0 (List.length q7.1))) go0 rfl (aq_mv rfl) ?_
    refine ao_q (v := (.own 1 0 (List.length q7.2))) go0 rfl (aq_mv rfl) ?_
    obtain ⟨q50, gq50, h1⟩ := Sh.bind_some h1
    refine ao_callb (v' := (.own 3 0 (List.length q50))) (st' := [⟨0, 41, 3, List.map eCell q7.1⟩, ⟨0, 3, 1, List.map eI q7.2⟩, ⟨0, 3, 1, List.map eI q9⟩, ⟨0, 3, 1, List.map eI q50⟩]) go0 hb31 (spec_ReachOf_ok gq50) rfl (.own rfl rfl (fun _ => rfl) (.own rfl rfl (fun _ => rfl) .nil)) rfl (srow (fun _ => rfl) trivial) rfl rfl ?_
    refine AO.weaken (Wk.frz (L := [(3, (.own 0 0 (List.length q7.1))), (4, (.own 1 0 (List.length q7.2))), (5, (.own 2 0 (List.length q9))), (20, (.own 2 0 (List.length q9))), (23, (.sl (List.map eI q50)))]) (st' := [⟨0, 41, 3, List.map eCell q7.1⟩, ⟨0, 3, 1, List.map eI q7.2⟩, ⟨0, 3, 1, List.map eI q9⟩, ⟨1, 3, 1, []⟩]) (id := 3) rfl (show 0 ≤ 3 by decide) (pure_map fun _ => rfl) ⟨.rfl, .rfl, .rfl, .rfl, (.frz rfl), trivial⟩ rfl) ?_
    obtain ⟨q51, gq51, h1⟩ := Sh.bind_some h1
    refine ao_callb (v' := (.bool q51)) (st' := [⟨0, 41, 3, List.map eCell q7.1⟩, ⟨0, 3, 1, List.map eI q7.2⟩, ⟨0, 3, 1, List.map eI q9⟩, ⟨1, 3, 1, []⟩]) go0 hb54 (laws_equalInts_ok gq51) rfl (.own rfl rfl (fun _ => rfl) (.val rfl .nil)) rfl trivial rfl rfl ?_
    refine ao_q (v := (.bool (!q51))) go0 rfl (aq_not rfl) ?_
    refine ao_q (v := (.bool (!q51))) go0 rfl (aq_mv rfl) ?_
    rcases Sh.ite_some h1 with ⟨b52, h1⟩ | ⟨b52, h1⟩
    · skip
      refine ao_skip rfl rfl b52 ?_
      refine ao_skip rfl rfl b52 ?_
      refine ao_skip rfl rfl b52 ?_
      refine ao_q (v := (.bool true)) go0 rfl (aq_pkt rfl b52 rfl) ?_
      exact AO.done (M13 true (Sh.some_eq h1).symm _ (by refine Wk.trans (Wk.permk (L := [(3, (.own 0 0 (List.length q7.1))), (4, (.own 1 0 (List.length q7.2))), (5, (.own 2 0 (List.length q9))), (30, (.bool true))]) (st' := [⟨0, 41, 3, List.map eCell q7.1⟩, ⟨0, 3, 1, List.map eI q7.2⟩, ⟨0, 3, 1, List.map eI q9⟩]) (st1 := [⟨0, 41, 3, List.map eCell q7.1⟩, ⟨0, 3, 1, List.map eI q7.2⟩, ⟨0, 3, 1, List.map eI q9⟩]) [0, 1, 2] rfl .nil (by decide) rfl rfl (.pure (pure_map fun _ => rfl) (.pure (pure_map fun _ => rfl) (.pure (pure_map fun _ => rfl) .nil))) ⟨.rfl, .rfl, .rfl, .rfl, trivial⟩) ?_; exact Wk.to (L := [(3, (.own 0 0 (List.length q7.1))), (4, (.own 1 0 (List.length q7.2))), (5, (.own 2 0 (List.length q9))), (30, (.bool true))]) ⟨.rfl, .rfl, .rfl, .rfl, trivial⟩))
    · skip
      refine ao_q (v := (.own 2 0 (List.length q9))) (go1 rfl rfl b52) rfl (aq_mv rfl) ?_
      refine ao_q (v := (i64 (Sh.len q9))) (go1 rfl rfl b52) rfl (aq_leno sl32 rfl rfl rfl) ?_
      refine ao_q (v := (.bool (decide ((Sh.len q9) = 0)))) (go1 rfl rfl b52) rfl (aq_eq rfl rfl) ?_
      refine ao_q (v := (.bool (decide ((Sh.len q9) = 0)))) go0 rfl (aq_pkf rfl b52 rfl) ?_
      exact AO.done (M13 (decide ((Sh.len q9) = 0)) (Sh.some_eq h1).symm _ (by refine Wk.trans (Wk.permk (L := [(3, (.own 0 0 (List.length q7.1))), (4, (.own 1 0 (List.length q7.2))), (5, (.own 2 0 (List.length q9))), (30, (.bool (decide ((Sh.len q9) = 0))))]) (st' := [⟨0, 41, 3, List.map eCell q7.1⟩, ⟨0, 3, 1, List.map eI q7.2⟩, ⟨0, 3, 1, List.map eI q9⟩]) (st1 := [⟨0, 41, 3, List.map eCell q7.1⟩, ⟨0, 3, 1, List.map eI q7.2⟩, ⟨0, 3, 1, List.map eI q9⟩]) [0, 1, 2] rfl .nil (by decide) rfl rfl (.pure (pure_map fun _ => rfl) (.pure (pure_map fun _ => rfl) (.pure (pure_map fun _ => rfl) .nil))) ⟨.rfl, .rfl, .rfl, .rfl, trivial⟩) ?_; exact Wk.to (L := [(3, (.own 0 0 (List.length q7.1))), (4, (.own 1 0 (List.length q7.2))), (5, (.own 2 0 (List.length q9))), (30, (.bool (decide ((Sh.len q9) = 0))))]) ⟨.rfl, .rfl, .rfl, .rfl, trivial⟩))

end Go.Proofs.Ytgpjhgoobijdjaa
