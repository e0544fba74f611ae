import Derived.Test.YtgpjhgoobijdjaaProg
import Derived.Test.YtgpjhgoobijdjaaHBDefs
import Derived.Test.YtgpjhgoobijdjaaWFnDropWordWalkP0
namespace Go.Proofs.Ytgpjhgoobijdjaa
open Go Go.Abs RC

theorem bo4 : isBoolT Try.prog 4 = true := by kernel_rfl
theorem ei76 : einfo Try.prog 76 = some ⟨41, 3, 40, [.int .i64 0, .int .i64 0, .sl []]⟩ := by kernel_rfl
theorem hb101 : hasBody Try.prog 101 = true := by kernel_rfl
theorem hb25 : hasBody Try.prog 25 = true := by kernel_rfl
theorem hb33 : hasBody Try.prog 33 = true := by kernel_rfl
theorem hb46 : hasBody Try.prog 46 = true := by kernel_rfl
theorem hb48 : hasBody Try.prog 48 = true := by kernel_rfl
theorem hb50 : hasBody Try.prog 50 = true := by kernel_rfl
theorem hb51 : hasBody Try.prog 51 = true := by kernel_rfl
theorem hb54 : hasBody Try.prog 54 = true := by kernel_rfl
theorem hb55 : hasBody Try.prog 55 = true := by kernel_rfl
theorem hb57 : hasBody Try.prog 57 = true := by kernel_rfl
theorem hb58 : hasBody Try.prog 58 = true := by kernel_rfl
theorem hb59 : hasBody Try.prog 59 = true := by kernel_rfl
theorem hb63 : hasBody Try.prog 63 = true := by kernel_rfl
theorem hb70 : hasBody Try.prog 70 = true := by kernel_rfl
theorem hb71 : hasBody Try.prog 71 = true := by kernel_rfl
theorem hb72 : hasBody Try.prog 72 = true := by kernel_rfl
theorem hb73 : hasBody Try.prog 73 = true := by kernel_rfl
theorem hb74 : hasBody Try.prog 74 = true := by kernel_rfl
theorem hb78 : hasBody Try.prog 78 = true := by kernel_rfl
theorem hb79 : hasBody Try.prog 79 = true := by kernel_rfl
theorem hb86 : hasBody Try.prog 86 = true := by kernel_rfl
theorem hb87 : hasBody Try.prog 87 = true := by kernel_rfl
theorem hb91 : hasBody Try.prog 91 = true := by kernel_rfl
theorem hb96 : hasBody Try.prog 96 = true := by kernel_rfl
theorem hb97 : hasBody Try.prog 97 = true := by kernel_rfl
theorem sl63 : isSliceT Try.prog 63 = true := by kernel_rfl
theorem sl76 : isSliceT Try.prog 76 = true := by kernel_rfl
theorem ti76 : tinfo Try.prog 76 = some (false, 1) := by kernel_rfl
theorem zi76 : zinfo Try.prog 76 = some [.zc] := by kernel_rfl

set_option maxRecDepth 100000 in
set_option maxHeartbeats 4000000 in
theorem spec_DrawDupWord_ok {N : Nat} {p0 : (List Int)} {r : (List Cell) × Int} (h0 : spec_DrawDupWord N p0 = some r) : ACalls Try.prog 58 [(.sl (List.map eI_u8 p0))] [] (fun v st => v = (.tup [(.own 0 0 (List.length r.1)), (i64 r.2)]) ∧ st = [⟨0, 41, 3, List.map eCell r.1⟩]) := by
  unfold spec_DrawDupWord at h0
  refine ACalls.intro Try.func58 rfl (by show 1 ≤ 15; decide) ?_
  show AW _ 0 _ (aret _ 0 Try.f58 _) ⟨15, _, _⟩
  refine AW.weaken (Wk.to (L := [(0, (.sl (List.map eI_u8 p0)))]) ⟨.rfl, trivial⟩) ?_
  refine AW.seq fun K1 hK1 => ?_
  refine AW.regionO (by rfl) ?_
  refine ao_q (v := .zc) go0 rfl (aq_as rfl) ?_
  refine ao_q (v := (i64 0)) go0 rfl (aq_as rfl) ?_
  refine AO.done (hK1 _ ?_)
  refine AW.seq fun K2 hK2 => ?_
  refine AW.regionO (by rfl) ?_
  refine ao_q (v := (.sl (List.map eI_u8 p0))) go0 rfl (aq_mv rfl) ?_
  obtain ⟨q3, gq3, h0⟩ := Sh.bind_some h0
  refine ao_call (v' := (.ptr 0 0 0 0)) (st' := [⟨0, 84, 2, [[(.sl (List.map eI_u8 q3.1)), (i64 q3.2)]]⟩]) go0 hb74 (spec_newReader_ok gq3) rfl rfl ⟨pure_raw rfl, trivial⟩ rfl rfl ?_
  refine ao_q (v := (.ptr 0 0 0 0)) go0 rfl (aq_as rfl) ?_
  refine AO.done (hK2 _ ?_)
  refine AW.seq fun K4 hK4 => ?_
  refine AW.regionO (by rfl) ?_
  refine ao_q (v := (.ptr 0 0 0 0)) go0 rfl (aq_mv rfl) ?_
  obtain ⟨q5, gq5, h0⟩ := Sh.bind_some h0
  refine ao_calls (rowsP := [⟨0, 84, 2, [[(.sl (List.map eI_u8 q3.1)), (i64 q3.2)]]⟩]) (rows0 := [⟨0, 84, 2, [[(.sl (List.map eI_u8 q3.1)), (i64 q3.2)]]⟩]) (rows1 := [⟨0, 84, 2, [[(.sl (List.map eI_u8 q3.1)), (i64 q5.2)]]⟩]) (rows2 := [⟨0, 41, 3, List.map eCell q5.1⟩]) (rows1' := [⟨0, 84, 2, [[(.sl (List.map eI_u8 q3.1)), (i64 q5.2)]]⟩]) (rows2' := [⟨0, 41, 3, List.map eCell q5.1⟩]) (st' := [⟨0, 84, 2, [[(.sl (List.map eI_u8 q3.1)), (i64 q5.2)]]⟩, ⟨0, 41, 3, List.map eCell q5.1⟩]) (v' := (.own 1 0 (List.length q5.1))) [0] go0 hb73 (spec_anyHeap_ok gq5) rfl (by decide) rfl rfl (.raw rfl rfl .nil) rfl rfl (.raw rfl rfl .nil) (.pure (pure_map fun _ => rfl) .nil) rfl rfl ?_
  refine ao_q (v := (.own 1 0 (List.length q5.1))) go0 rfl (aq_as rfl) ?_
  refine AO.done (hK4 _ ?_)
  refine AW.seq fun K6 hK6 => ?_
  refine AW.regionO (by rfl) ?_
  refine ao_q (v := (.own 1 0 (List.length q5.1))) go0 rfl (aq_mv rfl) ?_
  refine ao_q (v := (.ptr 0 0 0 0)) go0 rfl (aq_mv rfl) ?_
  refine ao_q (v := (.own 1 0 (List.length q5.1))) go0 rfl (aq_mv rfl) ?_
  refine ao_q (v := (i64 (Sh.len q5.1))) go0 rfl (aq_leno sl25 rfl rfl rfl) ?_
  obtain ⟨q7, gq7, h0⟩ := Sh.bind_some h0
  refine ao_calls (rowsP := [⟨0, 84, 2, [[(.sl (List.map eI_u8 q3.1)), (i64 q5.2)]]⟩]) (rows0 := [⟨0, 84, 2, [[(.sl (List.map eI_u8 q3.1)), (i64 q5.2)]]⟩]) (rows1 := [⟨0, 84, 2, [[(.sl (List.map eI_u8 q3.1)), (i64 q7.2)]]⟩]) (rows2 := []) (rows1' := [⟨0, 84, 2, [[(.sl (List.map eI_u8 q3.1)), (i64 q7.2)]]⟩]) (rows2' := []) (st' := [⟨0, 84, 2, [[(.sl (List.map eI_u8 q3.1)), (i64 q7.2)]]⟩, ⟨0, 41, 3, List.map eCell q5.1⟩]) (v' := (i64 q7.1)) [0] go0 hb87 (spec_wordFor_ok gq7) rfl (by decide) rfl rfl (.raw rfl rfl .nil) rfl rfl (.raw rfl rfl .nil) .nil rfl rfl ?_
  refine ao_q (v := (.own 1 0 (List.length q5.1))) go0 rfl (aq_as rfl) ?_
  refine ao_q (v := (i64 q7.1)) go0 rfl (aq_as rfl) ?_
  refine AO.done (hK6 _ ?_)
  replace h0 := Sh.some_eq h0
  subst r
  exact AW.ret (Exists.intro _ (And.intro ((Wk.permk (L := [(2, (.own 0 0 (List.length q5.1))), (3, (i64 q7.1))]) (st' := [⟨0, 41, 3, List.map eCell q5.1⟩]) (st1 := [⟨0, 41, 3, List.map eCell q5.1⟩]) [1] rfl .nil (by decide) rfl rfl (.pure (pure_map fun _ => rfl) .nil) ⟨.rfl, .rfl, trivial⟩).trans (Wk.to (L := [(2, (.own 0 0 (List.length q5.1))), (3, (i64 q7.1))]) ⟨.rfl, .rfl, trivial⟩)) (And.intro rfl rfl)))

set_option maxRecDepth 100000 in
set_option maxHeartbeats 4000000 in
theorem spec_DrawDropWord_ok {N : Nat} {p0 : (List Int)} {r : (List Cell) × Int} (h0 : spec_DrawDropWord N p0 = some r) : ACalls Try.prog 51 [(.sl (List.map eI_u8 p0))] [] (fun v st => v = (.tup [(.own 0 0 (List.length r.1)), (i64 r.2)]) ∧ st = [⟨0, 41, 3, List.map eCell r.1⟩]) := by
  unfold spec_DrawDropWord at h0
  refine ACalls.intro Try.func51 rfl (by show 1 ≤ 8; decide) ?_
  show AW _ 0 _ (aret _ 0 Try.f51 _) ⟨8, _, _⟩
  refine AW.weaken (Wk.to (L := [(0, (.sl (List.map eI_u8 p0)))]) ⟨.rfl, trivial⟩) ?_
  refine AW.seq fun K1 hK1 => ?_
  refine AW.regionO (by rfl) ?_
  refine ao_q (v := .zc) go0 rfl (aq_as rfl) ?_
  refine ao_q (v := (i64 0)) go0 rfl (aq_as rfl) ?_
  refine AO.done (hK1 _ ?_)
  refine AW.seq fun K2 hK2 => ?_
  refine AW.regionO (by rfl) ?_
  refine ao_q (v := (.sl (List.map eI_u8 p0))) go0 rfl (aq_mv rfl) ?_
  obtain ⟨q3, gq3, h0⟩ := Sh.bind_some h0
  refine ao_call (v' := (.tup [(.own 0 0 (List.length q3.1)), (i64 q3.2)])) (st' := [⟨0, 41, 3, List.map eCell q3.1⟩]) go0 hb58 (spec_DrawDupWord_ok gq3) rfl rfl ⟨pure_map fun _ => rfl, trivial⟩ rfl rfl ?_
  refine ao_q (v := (.own 0 0 (List.length q3.1))) go0 rfl (aq_ex rfl rfl) ?_
  refine ao_q (v := (i64 q3.2)) go0 rfl (aq_ex rfl rfl) ?_
  refine ao_q (v := (.own 0 0 (List.length q3.1))) go0 rfl (aq_as rfl) ?_
  refine ao_q (v := (i64 q3.2)) go0 rfl (aq_as rfl) ?_
  refine AO.done (hK2 _ ?_)
  replace h0 := Sh.some_eq h0
  subst r
  exact AW.ret (Exists.intro _ (And.intro (Wk.to (L := [(2, (.own 0 0 (List.length q3.1))), (3, (i64 q3.2))]) ⟨.rfl, .rfl, trivial⟩) (And.intro rfl rfl)))

set_option maxRecDepth 100000 in
set_option maxHeartbeats 4000000 in
theorem impl_liveAt_ok {p0 : (List Cell)} {p1 : Int} {r : Int × Bool} (h0 : impl_liveAt p0 p1 = some r) : ACalls Try.prog 71 [(.sl (List.map eCell p0)), (i64 p1)] [] (fun v st => v = (.tup [(i64 r.1), (.bool r.2)]) ∧ st = []) := by
  unfold impl_liveAt at h0
  refine ACalls.intro Try.func71 rfl (by show 2 ≤ 26; decide) ?_
  show AW _ 0 _ (aret _ 0 Try.f71 _) ⟨26, _, _⟩
  refine AW.weaken (Wk.to (L := [(0, (.sl (List.map eCell p0))), (1, (i64 p1))]) ⟨.rfl, .rfl, trivial⟩) ?_
  refine AW.seq fun K1 hK1 => ?_
  refine AW.regionO (by rfl) ?_
  refine ao_q (v := (i64 0)) go0 rfl (aq_as rfl) ?_
  refine ao_q (v := (.bool false)) go0 rfl (aq_as rfl) ?_
  refine AO.done (hK1 _ ?_)
  refine AW.seq fun K2 hK2 => ?_
  refine AW.regionO (by rfl) ?_
  refine ao_q (v := (i64 p1)) go0 rfl (aq_mv rfl) ?_
  refine ao_q (v := (i64 (Sh.w (p1 - 1000)))) go0 rfl (aq_sub rfl rfl) ?_
  refine ao_q (v := (i64 (Sh.w (p1 - 1000)))) go0 rfl (aq_as rfl) ?_
  refine AO.done (hK2 _ ?_)
  refine AW.seq fun K3 hK3 => ?_
  obtain ⟨o5, h1, h0⟩ := Sh.bind_some h0
  have M5 : ∀ (t4 : Bool), o5 = t4 → ∀ s, Wk 0 s ⟨26, envL [(4, (i64 (Sh.w (p1 - 1000)))), (5, (.bool t4))], []⟩ → K3 s := by
    intro t4 hq s hw
    subst o5
    try dsimp only at h0
    refine hK3 _ (AW.weaken hw ?_)
    replace h0 := Sh.some_eq h0
    subst r
    exact AW.ret (Exists.intro _ (And.intro (Wk.to (L := [(4, (i64 (Sh.w (p1 - 1000)))), (5, (.bool t4))]) ⟨.rfl, .rfl, trivial⟩) (And.intro rfl rfl)))
  refine AW.draw (by kernel_rfl) (by kernel_rfl) (by rfl) ?_
  refine d_q (v := (i64 (Sh.w (p1 - 1000)))) go0 rfl (aq_mv rfl) ?_
  refine d_q (v := (i64 p1)) go0 rfl (aq_mv rfl) ?_
  refine d_q (v := (.bool (decide (1000 ≤ p1)))) go0 rfl (aq_ge rfl rfl) ?_
  refine d_q (v := (.bool (decide (1000 ≤ p1)))) go0 rfl (aq_mv rfl) ?_
  rcases Sh.ite_some h1 with ⟨b6, h1⟩ | ⟨b6, h1⟩
  · skip
    refine d_q (v := (i64 (Sh.w (p1 - 1000)))) (go1 rfl rfl b6) rfl (aq_mv rfl) ?_
    refine d_q (v := (.sl (List.map eCell p0))) (go1 rfl rfl b6) rfl (aq_mv rfl) ?_
    refine d_q (v := (i64 (Sh.len p0))) (go1 rfl rfl b6) rfl (aq_lens sl25 rfl) ?_
    refine d_q (v := (.bool (decide ((Sh.w (p1 - 1000)) < (Sh.len p0))))) (go1 rfl rfl b6) rfl (aq_lt rfl rfl) ?_
    refine d_q (v := (.bool (decide ((Sh.w (p1 - 1000)) < (Sh.len p0))))) go0 rfl (aq_pkt rfl b6 rfl) ?_
    refine d_q (v := (.bool (decide ((Sh.w (p1 - 1000)) < (Sh.len p0))))) go0 rfl (aq_mv rfl) ?_
    rcases Sh.ite_some h1 with ⟨b7, h1⟩ | ⟨b7, h1⟩
    · skip
      refine d_q (v := (.sl (List.map eCell p0))) (go1 rfl rfl b7) rfl (aq_mv rfl) ?_
      refine d_q (v := (i64 (Sh.w (p1 - 1000)))) (go1 rfl rfl b7) rfl (aq_mv rfl) ?_
      obtain ⟨c8, gc8, h1⟩ := Sh.bind_some h1
      refine d_q (v := (.iptr (eCell c8) 0)) (go1 rfl rfl b7) rfl (aq_ixs ei25 rfl rfl gc8 rfl) ?_
      refine d_q (v := (.iptr (eCell c8) 0)) (go1 rfl rfl b7) rfl (aq_fai fi41_0 rfl rfl) ?_
      refine d_q (v := (i64 c8.count)) (go1 rfl rfl b7) rfl (aq_ldi ti3 rfl rfl) ?_
      refine d_q (v := (.bool (decide (0 < c8.count)))) (go1 rfl rfl b7) rfl (aq_gt rfl rfl) ?_
      refine d_q (v := (.bool (decide (0 < c8.count)))) go0 rfl (aq_pkt rfl b7 rfl) ?_
      refine d_q (v := (i64 (Sh.w (p1 - 1000)))) go0 rfl (aq_as rfl) ?_
      refine d_q (v := (.bool (decide (0 < c8.count)))) go0 rfl (aq_as rfl) ?_
      exact d_done (M5 (decide (0 < c8.count)) (Sh.some_eq h1).symm _ (Wk.to (L := [(4, (i64 (Sh.w (p1 - 1000)))), (5, (.bool (decide (0 < c8.count))))]) ⟨.rfl, .rfl, trivial⟩))
    · skip
      refine d_skip rfl rfl b7 ?_
      refine d_skip rfl rfl b7 ?_
      refine d_skip rfl rfl b7 ?_
      refine d_skip rfl rfl b7 ?_
      refine d_skip rfl rfl b7 ?_
      refine d_skip rfl rfl b7 ?_
      refine d_q (v := (.bool false)) go0 rfl (aq_pkf rfl b7 rfl) ?_
      refine d_q (v := (i64 (Sh.w (p1 - 1000)))) go0 rfl (aq_as rfl) ?_
      refine d_q (v := (.bool false)) go0 rfl (aq_as rfl) ?_
      exact d_done (M5 false (Sh.some_eq h1).symm _ (Wk.to (L := [(4, (i64 (Sh.w (p1 - 1000)))), (5, (.bool false))]) ⟨.rfl, .rfl, trivial⟩))
  · skip
    refine d_skip rfl rfl b6 ?_
    refine d_skip rfl rfl b6 ?_
    refine d_skip rfl rfl b6 ?_
    refine d_skip rfl rfl b6 ?_
    refine d_q (v := (.bool false)) go0 rfl (aq_pkf rfl b6 rfl) ?_
    refine d_q (v := (.bool false)) go0 rfl (aq_mv rfl) ?_
    refine d_skip rfl rfl rfl ?_
    refine d_skip rfl rfl rfl ?_
    refine d_skip rfl rfl rfl ?_
    refine d_skip rfl rfl rfl ?_
    refine d_skip rfl rfl rfl ?_
    refine d_skip rfl rfl rfl ?_
    refine d_q (v := (.bool false)) go0 rfl (aq_pkf rfl rfl rfl) ?_
    refine d_q (v := (i64 (Sh.w (p1 - 1000)))) go0 rfl (aq_as rfl) ?_
    refine d_q (v := (.bool false)) go0 rfl (aq_as rfl) ?_
    exact d_done (M5 false (Sh.some_eq h1).symm _ (Wk.to (L := [(4, (i64 (Sh.w (p1 - 1000)))), (5, (.bool false))]) ⟨.rfl, .rfl, trivial⟩))

set_option maxRecDepth 100000 in
set_option maxHeartbeats 4000000 in
theorem impl_isInt_ok {p0 : Int} {r : Bool} (h0 : impl_isInt p0 = some r) : ACalls Try.prog 96 [(i64 p0)] [] (fun v st => v = (.bool r) ∧ st = []) := by
  unfold impl_isInt at h0
  refine ACalls.intro Try.func96 rfl (by show 1 ≤ 9; decide) ?_
  show AW _ 0 _ (aret _ 0 Try.f96 _) ⟨9, _, _⟩
  refine AW.weaken (Wk.to (L := [(0, (i64 p0))]) ⟨.rfl, trivial⟩) ?_
  refine AW.seq fun K1 hK1 => ?_
  refine AW.regionO (by rfl) ?_
  refine ao_q (v := (.bool false)) go0 rfl (aq_as rfl) ?_
  refine AO.done (hK1 _ ?_)
  refine AW.seq fun K2 hK2 => ?_
  obtain ⟨o4, h1, h0⟩ := Sh.bind_some h0
  have M4 : ∀ (t3 : Bool), o4 = t3 → ∀ s, Wk 0 s ⟨9, envL [(2, (.bool t3))], []⟩ → K2 s := by
    intro t3 hq s hw
    subst o4
    try dsimp only at h0
    refine hK2 _ (AW.weaken hw ?_)
    replace h0 := Sh.some_eq h0
    subst r
    exact AW.ret (Exists.intro _ (And.intro (Wk.to (L := [(2, (.bool t3))]) ⟨.rfl, trivial⟩) (And.intro rfl rfl)))
  refine AW.regionO (by rfl) ?_
  refine ao_q (v := (i64 p0)) go0 rfl (aq_mv rfl) ?_
  refine ao_q (v := (.bool (decide ((-999) ≤ p0)))) go0 rfl (aq_ge rfl rfl) ?_
  refine ao_q (v := (.bool (decide ((-999) ≤ p0)))) go0 rfl (aq_mv rfl) ?_
  rcases Sh.ite_some h1 with ⟨b5, h1⟩ | ⟨b5, h1⟩
  · skip
    refine ao_q (v := (i64 p0)) (go1 rfl rfl b5) rfl (aq_mv rfl) ?_
    refine ao_q (v := (.bool (decide (p0 ≤ 999)))) (go1 rfl rfl b5) rfl (aq_le rfl rfl) ?_
    refine ao_q (v := (.bool (decide (p0 ≤ 999)))) go0 rfl (aq_pkt rfl b5 rfl) ?_
    refine ao_q (v := (.bool (decide (p0 ≤ 999)))) go0 rfl (aq_as rfl) ?_
    exact AO.done (M4 (decide (p0 ≤ 999)) (Sh.some_eq h1).symm _ (Wk.to (L := [(2, (.bool (decide (p0 ≤ 999))))]) ⟨.rfl, trivial⟩))
  · skip
    refine ao_skip rfl rfl b5 ?_
    refine ao_skip rfl rfl b5 ?_
    refine ao_q (v := (.bool false)) go0 rfl (aq_pkf rfl b5 rfl) ?_
    refine ao_q (v := (.bool false)) go0 rfl (aq_as rfl) ?_
    exact AO.done (M4 false (Sh.some_eq h1).symm _ (Wk.to (L := [(2, (.bool false))]) ⟨.rfl, trivial⟩))

set_option maxRecDepth 100000 in
set_option maxHeartbeats 4000000 in
theorem impl_wordValid_ok {p0 : (List Cell)} {p1 : Int} {r : Bool} (h0 : impl_wordValid p0 p1 = some r) : ACalls Try.prog 78 [(.sl (List.map eCell p0)), (i64 p1)] [] (fun v st => v = (.bool r) ∧ st = []) := by
  unfold impl_wordValid at h0
  refine ACalls.intro Try.func78 rfl (by show 2 ≤ 18; decide) ?_
  show AW _ 0 _ (aret _ 0 Try.f78 _) ⟨18, _, _⟩
  refine AW.weaken (Wk.to (L := [(0, (.sl (List.map eCell p0))), (1, (i64 p1))]) ⟨.rfl, .rfl, trivial⟩) ?_
  refine AW.seq fun K1 hK1 => ?_
  refine AW.regionO (by rfl) ?_
  refine ao_q (v := (.bool false)) go0 rfl (aq_as rfl) ?_
  refine AO.done (hK1 _ ?_)
  refine AW.seq fun K2 hK2 => ?_
  refine AW.regionO (by rfl) ?_
  refine ao_q (v := (.sl (List.map eCell p0))) go0 rfl (aq_mv rfl) ?_
  refine ao_q (v := (i64 p1)) go0 rfl (aq_mv rfl) ?_
  obtain ⟨q3, gq3, h0⟩ := Sh.bind_some h0
  refine ao_call (v' := (.tup [(i64 q3.1), (.bool q3.2)])) (st' := []) go0 hb71 (impl_liveAt_ok gq3) rfl rfl trivial rfl rfl ?_
  refine ao_q (v := (.tup [(i64 q3.1), (.bool q3.2)])) go0 rfl (aq_mv rfl) ?_
  refine ao_q (v := (i64 q3.1)) go0 rfl (aq_ex rfl rfl) ?_
  refine ao_q (v := (.bool q3.2)) go0 rfl (aq_ex rfl rfl) ?_
  refine ao_q (v := (i64 q3.1)) go0 rfl (aq_as rfl) ?_
  refine ao_q (v := (.bool q3.2)) go0 rfl (aq_as rfl) ?_
  refine AO.done (hK2 _ ?_)
  refine AW.seq fun K4 hK4 => ?_
  obtain ⟨o6, h1, h0⟩ := Sh.bind_some h0
  have M6 : ∀ (t5 : Bool), o6 = t5 → ∀ s, Wk 0 s ⟨18, envL [(4, (.bool t5))], []⟩ → K4 s := by
    intro t5 hq s hw
    subst o6
    try dsimp only at h0
    refine hK4 _ (AW.weaken hw ?_)
    replace h0 := Sh.some_eq h0
    subst r
    exact AW.ret (Exists.intro _ (And.intro (Wk.to (L := [(4, (.bool t5))]) ⟨.rfl, trivial⟩) (And.intro rfl rfl)))
  refine AW.regionO (by rfl) ?_
  refine ao_q (v := (.bool q3.2)) go0 rfl (aq_mv rfl) ?_
  refine ao_q (v := (.bool q3.2)) go0 rfl (aq_mv rfl) ?_
  rcases Sh.ite_some h1 with ⟨b7, h1⟩ | ⟨b7, h1⟩
  · skip
    refine ao_skip rfl rfl b7 ?_
    refine ao_skip rfl rfl b7 ?_
    refine ao_q (v := (.bool true)) go0 rfl (aq_pkt rfl b7 rfl) ?_
    refine ao_q (v := (.bool true)) go0 rfl (aq_as rfl) ?_
    exact AO.done (M6 true (Sh.some_eq h1).symm _ (Wk.to (L := [(4, (.bool true))]) ⟨.rfl, trivial⟩))
  · skip
    refine ao_q (v := (i64 p1)) (go1 rfl rfl b7) rfl (aq_mv rfl) ?_
    obtain ⟨q8, gq8, h1⟩ := Sh.bind_some h1
    refine ao_call (v' := (.bool q8)) (st' := []) (go1 rfl rfl b7) hb96 (impl_isInt_ok gq8) rfl rfl trivial rfl rfl ?_
    refine ao_q (v := (.bool q8)) go0 rfl (aq_pkf rfl b7 rfl) ?_
    refine ao_q (v := (.bool q8)) go0 rfl (aq_as rfl) ?_
    exact AO.done (M6 q8 (Sh.some_eq h1).symm _ (Wk.to (L := [(4, (.bool q8))]) ⟨.rfl, trivial⟩))

set_option maxRecDepth 100000 in
set_option maxHeartbeats 4000000 in
theorem impl_cellValid_ok {N : Nat} {p0 : (List Cell)} {p1 : Cell} {r : Bool} (h0 : impl_cellValid N p0 p1 = some r) : ACalls Try.prog 91 [(.sl (List.map eCell p0)), (.agg [(i64 p1.count), (i64 p1.tag), (.sl (List.map eI p1.fields))])] [] (fun v st => v = (.bool r) ∧ st = []) := by
  unfold impl_cellValid at h0
  refine ACalls.intro Try.func91 rfl (by show 2 ≤ 66; decide) ?_
  show AW _ 0 _ (aret _ 0 Try.f91 _) ⟨66, _, _⟩
  refine AW.weaken (Wk.to (L := [(0, (.sl (List.map eCell p0))), (1, (.agg [(i64 p1.count), (i64 p1.tag), (.sl (List.map eI p1.fields))]))]) ⟨.rfl, .rfl, trivial⟩) ?_
  refine AW.seq fun K1 hK1 => ?_
  refine AW.regionO (by rfl) ?_
  refine ao_box (m := 0) (st' := [⟨0, 41, 3, [[(i64 p1.count), (i64 p1.tag), (.sl (List.map eI p1.fields))]]⟩]) go0 rfl rfl rfl rfl rfl ?_
  refine ao_q (v := (.bool false)) go0 rfl (aq_as rfl) ?_
  refine AO.done (hK1 _ ?_)
  refine AW.seq fun K2 hK2 => ?_
  refine AW.seq fun K3 hK3 => ?_
  obtain ⟨o5, h1, h0⟩ := Sh.bind_some h0
  have M5 : ∀ (t4 : Bool), o5 = t4 → ∀ s, Wk 0 s ⟨66, envL [(0, (.sl (List.map eCell p0))), (3, (.ptr 0 0 0 0)), (25, (.bool t4))], [⟨0, 41, 3, [[(i64 p1.count), (i64 p1.tag), (.sl (List.map eI p1.fields))]]⟩]⟩ → K3 s := by
    intro t4 hq s hw
    subst o5
    try dsimp only at h0
    refine hK3 _ (AW.weaken hw ?_)
    refine AW.cond' (b := t4) rfl (fun b6 => ?_) (fun b6 => ?_)
    · replace h0 := Sh.ite_t b6 h0
      refine AW.seq fun K7 hK7 => ?_
      refine AW.regionO (by rfl) ?_
      refine ao_q (v := (.bool false)) go0 rfl (aq_as rfl) ?_
      refine AO.done (hK7 _ ?_)
      replace h0 := Sh.some_eq h0
      subst r
      exact AW.ret (Exists.intro _ (And.intro ((Wk.permk (L := [(4, (.bool false))]) (st' := []) (st1 := []) [] rfl .nil (by decide) rfl rfl .nil ⟨.rfl, trivial⟩).trans (Wk.to (L := [(4, (.bool false))]) ⟨.rfl, trivial⟩)) (And.intro rfl rfl)))
    · replace h0 := Sh.ite_f b6 h0
      refine AW.skip (hK2 _ ?_)
      refine AW.seq fun K8 hK8 => ?_
      refine AW.seq fun K9 hK9 => ?_
      obtain ⟨o11, h1, h0⟩ := Sh.bind_some h0
      have M11 : ∀ (t10 : Bool), o11 = t10 → ∀ s, Wk 0 s ⟨66, envL [(0, (.sl (List.map eCell p0))), (3, (.ptr 0 0 0 0)), (44, (.bool t10))], [⟨0, 41, 3, [[(i64 p1.count), (i64 p1.tag), (.sl (List.map eI p1.fields))]]⟩]⟩ → K9 s := by
        intro t10 hq s hw
        subst o11
        try dsimp only at h0
        refine hK9 _ (AW.weaken hw ?_)
        refine AW.cond' (b := t10) rfl (fun b12 => ?_) (fun b12 => ?_)
        · replace h0 := Sh.ite_t b12 h0
          refine AW.seq fun K13 hK13 => ?_
          refine AW.regionO (by rfl) ?_
          refine ao_q (v := (.bool false)) go0 rfl (aq_as rfl) ?_
          refine AO.done (hK13 _ ?_)
          replace h0 := Sh.some_eq h0
          subst r
          exact AW.ret (Exists.intro _ (And.intro ((Wk.permk (L := [(4, (.bool false))]) (st' := []) (st1 := []) [] rfl .nil (by decide) rfl rfl .nil ⟨.rfl, trivial⟩).trans (Wk.to (L := [(4, (.bool false))]) ⟨.rfl, trivial⟩)) (And.intro rfl rfl)))
        · replace h0 := Sh.ite_f b12 h0
          refine AW.skip (hK8 _ ?_)
          refine AW.seq fun K14 hK14 => ?_
          refine AW.seq fun K15 hK15 => ?_
          refine AW.regionO (by rfl) ?_
          refine ao_q (v := (.ptr 0 0 0 2)) go0 rfl (aq_fap fi41_2 rfl rfl (show 0 + 2 ≤ 3 by decide) rfl) ?_
          refine ao_q (v := (.sl (List.map eI p1.fields))) go0 rfl (aq_ldp ti32 rfl rfl rfl rfl) ?_
          refine ao_q (v := (i64 (Sh.len p1.fields))) go0 rfl (aq_lens sl32 rfl) ?_
          refine ao_q (v := (i64 0)) go0 rfl (aq_mv rfl) ?_
          refine AO.done (hK15 _ ?_)
          obtain ⟨o17, h1, h0⟩ := Sh.cont_some h0
          have M17 : ∀ (_ : Unit), o17 = Sum.inr () → ∀ s, Wk 0 s ⟨66, envL [], []⟩ → K14 s := by
            intro _ hq s hw
            subst o17
            try dsimp only at h0
            refine hK14 _ (AW.weaken hw ?_)
            refine AW.seq fun K18 hK18 => ?_
            refine AW.regionO (by rfl) ?_
            refine ao_q (v := (.bool true)) go0 rfl (aq_as rfl) ?_
            refine AO.done (hK18 _ ?_)
            replace h0 := Sh.some_eq h0
            subst r
            exact AW.ret (Exists.intro _ (And.intro (Wk.to (L := [(4, (.bool true))]) ⟨.rfl, trivial⟩) (And.intro rfl rfl)))
          refine AW.block (AW.loopF (σ := Int) (fun n v => impl_cellValid_L1 p0 p1 n v = some o17) (fun t16 => ⟨66, envL [(0, (.sl (List.map eCell p0))), (3, (.ptr 0 0 0 0)), (46, (.sl (List.map eI p1.fields))), (47, (i64 (Sh.len p1.fields))), (48, (i64 t16))], [⟨0, 41, 3, [[(i64 p1.count), (i64 p1.tag), (.sl (List.map eI p1.fields))]]⟩]⟩) N 0 h1 (Wk.to (L := [(0, (.sl (List.map eCell p0))), (3, (.ptr 0 0 0 0)), (46, (.sl (List.map eI p1.fields))), (47, (i64 (Sh.len p1.fields))), (48, (i64 0))]) ⟨.rfl, .rfl, .rfl, .rfl, .rfl, trivial⟩) (fun _ hv => by rw [impl_cellValid_L1] at hv; cases hv) ?_)
          rintro n t16 h1
          try dsimp only at h1 ⊢
          rw [impl_cellValid_L1] at h1
          refine AW.seq fun K19 hK19 => ?_
          refine AW.regionO (by rfl) ?_
          refine ao_q (v := (.bool (decide (t16 < (Sh.len p1.fields))))) go0 rfl (aq_lt rfl rfl) ?_
          refine AO.done (hK19 _ ?_)
          refine AW.seq fun K20 hK20 => ?_
          refine AW.cond' (b := decide (t16 < (Sh.len p1.fields))) rfl (fun b21 => ?_) (fun b21 => ?_)
          · replace h1 := Sh.ite_t b21 h1
            refine AW.skip (hK20 _ ?_)
            refine AW.seq fun K22 hK22 => ?_
            refine AW.block ?_
            refine AW.seq fun K23 hK23 => ?_
            refine AW.regionO (by rfl) ?_
            obtain ⟨c24, gc24, h1⟩ := Sh.bind_some h1
            refine ao_q (v := (.iptr (eI c24) 0)) go0 rfl (aq_ixs ei32 rfl rfl gc24 rfl) ?_
            refine ao_q (v := (i64 c24)) go0 rfl (aq_ldi ti3 rfl rfl) ?_
            refine ao_q (v := (i64 c24)) go0 rfl (aq_as rfl) ?_
            refine AO.done (hK23 _ ?_)
            refine AW.seq fun K25 hK25 => ?_
            obtain ⟨o27, h2, h1⟩ := Sh.bind_some h1
            have M27 : ∀ (t26 : Bool), o27 = t26 → ∀ s, Wk 0 s ⟨66, envL [(0, (.sl (List.map eCell p0))), (3, (.ptr 0 0 0 0)), (46, (.sl (List.map eI p1.fields))), (47, (i64 (Sh.len p1.fields))), (48, (i64 t16)), (64, (.bool t26))], [⟨0, 41, 3, [[(i64 p1.count), (i64 p1.tag), (.sl (List.map eI p1.fields))]]⟩]⟩ → K25 s := by
              intro t26 hq s hw
              subst o27
              try dsimp only at h1
              refine hK25 _ (AW.weaken hw ?_)
              refine AW.cond' (b := t26) rfl (fun b28 => ?_) (fun b28 => ?_)
              · replace h1 := Sh.ite_t b28 h1
                refine AW.seq fun K29 hK29 => ?_
                refine AW.regionO (by rfl) ?_
                refine ao_q (v := (.bool false)) go0 rfl (aq_as rfl) ?_
                refine AO.done (hK29 _ ?_)
                replace h1 := Sh.some_eq h1
                subst o17
                try dsimp only [id] at h0
                replace h0 := Sh.some_eq h0
                subst r
                exact AW.ret (Exists.intro _ (And.intro ((Wk.permk (L := [(4, (.bool false))]) (st' := []) (st1 := []) [] rfl .nil (by decide) rfl rfl .nil ⟨.rfl, trivial⟩).trans (Wk.to (L := [(4, (.bool false))]) ⟨.rfl, trivial⟩)) (And.intro rfl rfl)))
              · replace h1 := Sh.ite_f b28 h1
                refine AW.skip (hK22 _ ?_)
                refine AW.regionO (by rfl) ?_
                refine ao_q (v := (i64 (Sh.w (t16 + 1)))) go0 rfl (aq_add rfl rfl) ?_
                refine ao_q (v := (i64 (Sh.w (t16 + 1)))) go0 rfl (aq_mv rfl) ?_
                exact AO.done (Exists.intro (Sh.w (t16 + 1)) (And.intro h1 (Wk.to (L := [(0, (.sl (List.map eCell p0))), (3, (.ptr 0 0 0 0)), (46, (.sl (List.map eI p1.fields))), (47, (i64 (Sh.len p1.fields))), (48, (i64 (Sh.w (t16 + 1))))]) ⟨.rfl, .rfl, .rfl, .rfl, .rfl, trivial⟩)))
            refine AW.regionO (by rfl) ?_
            refine ao_q (v := (.sl (List.map eCell p0))) go0 rfl (aq_mv rfl) ?_
            refine ao_q (v := (i64 c24)) go0 rfl (aq_mv rfl) ?_
            obtain ⟨q30, gq30, h2⟩ := Sh.bind_some h2
            refine ao_call (v' := (.bool q30)) (st' := [⟨0, 41, 3, [[(i64 p1.count), (i64 p1.tag), (.sl (List.map eI p1.fields))]]⟩]) go0 hb78 (impl_wordValid_ok gq30) rfl rfl trivial rfl rfl ?_
            refine ao_q (v := (.bool (!q30))) go0 rfl (aq_not rfl) ?_
            refine ao_q (v := (.bool (!q30))) go0 rfl (aq_mv rfl) ?_
            rcases Sh.ite_some h2 with ⟨b31, h2⟩ | ⟨b31, h2⟩
            · skip
              refine ao_skip rfl rfl b31 ?_
              refine ao_skip rfl rfl b31 ?_
              refine ao_skip rfl rfl b31 ?_
              refine ao_skip rfl rfl b31 ?_
              refine ao_none rfl rfl ?_
              refine ao_none rfl rfl ?_
              refine ao_skip rfl rfl b31 ?_
              refine ao_q (v := (.bool true)) go0 rfl (aq_pkt rfl b31 rfl) ?_
              exact AO.done (M27 true (Sh.some_eq h2).symm _ (Wk.to (L := [(0, (.sl (List.map eCell p0))), (3, (.ptr 0 0 0 0)), (46, (.sl (List.map eI p1.fields))), (47, (i64 (Sh.len p1.fields))), (48, (i64 t16)), (64, (.bool true))]) ⟨.rfl, .rfl, .rfl, .rfl, .rfl, .rfl, trivial⟩))
            · skip
              refine ao_q (v := (.ptr 0 0 0 0)) (go1 rfl rfl b31) rfl (aq_fap fi41_0 rfl rfl (show 0 + 0 ≤ 3 by decide) rfl) ?_
              refine ao_q (v := (i64 p1.count)) (go1 rfl rfl b31) rfl (aq_ldp ti3 rfl rfl rfl rfl) ?_
              refine ao_q (v := (.bool (decide (p1.count < 0)))) (go1 rfl rfl b31) rfl (aq_lt rfl rfl) ?_
              refine ao_q (v := (.bool (decide (p1.count < 0)))) (go1 rfl rfl b31) rfl (aq_mv rfl) ?_
              rcases Sh.ite_some h2 with ⟨b32, h2⟩ | ⟨b32, h2⟩
              · skip
                refine ao_q (v := (i64 c24)) (go1 rfl rfl b32) rfl (aq_mv rfl) ?_
                refine ao_q (v := (.bool (!decide (c24 = 0)))) (go1 rfl rfl b32) rfl (aq_ne rfl rfl) ?_
                refine ao_q (v := (.bool (!decide (c24 = 0)))) (go1 rfl rfl b31) rfl (aq_pkt rfl b32 rfl) ?_
                refine ao_q (v := (.bool (!decide (c24 = 0)))) go0 rfl (aq_pkf rfl b31 rfl) ?_
                exact AO.done (M27 (!decide (c24 = 0)) (Sh.some_eq h2).symm _ (Wk.to (L := [(0, (.sl (List.map eCell p0))), (3, (.ptr 0 0 0 0)), (46, (.sl (List.map eI p1.fields))), (47, (i64 (Sh.len p1.fields))), (48, (i64 t16)), (64, (.bool (!decide (c24 = 0))))]) ⟨.rfl, .rfl, .rfl, .rfl, .rfl, .rfl, trivial⟩))
              · skip
                refine ao_skip rfl rfl b32 ?_
                refine ao_skip rfl rfl b32 ?_
                refine ao_q (v := (.bool false)) (go1 rfl rfl b31) rfl (aq_pkf rfl b32 rfl) ?_
                refine ao_q (v := (.bool false)) go0 rfl (aq_pkf rfl b31 rfl) ?_
                exact AO.done (M27 false (Sh.some_eq h2).symm _ (Wk.to (L := [(0, (.sl (List.map eCell p0))), (3, (.ptr 0 0 0 0)), (46, (.sl (List.map eI p1.fields))), (47, (i64 (Sh.len p1.fields))), (48, (i64 t16)), (64, (.bool false))]) ⟨.rfl, .rfl, .rfl, .rfl, .rfl, .rfl, trivial⟩))
          · replace h1 := Sh.ite_f b21 h1
            exact AW.exit (M17 () (Sh.some_eq h1).symm _ (by refine Wk.trans (Wk.permk (L := []) (st' := []) (st1 := []) [] rfl .nil (by decide) rfl rfl .nil trivial) ?_; exact Wk.to (L := []) trivial))
      refine AW.regionO (by rfl) ?_
      refine ao_q (v := (.ptr 0 0 0 0)) go0 rfl (aq_fap fi41_0 rfl rfl (show 0 + 0 ≤ 3 by decide) rfl) ?_
      refine ao_q (v := (i64 p1.count)) go0 rfl (aq_ldp ti3 rfl rfl rfl rfl) ?_
      refine ao_q (v := (.bool (decide (p1.count < 1)))) go0 rfl (aq_lt rfl rfl) ?_
      refine ao_q (v := (.bool (decide (p1.count < 1)))) go0 rfl (aq_mv rfl) ?_
      rcases Sh.ite_some h1 with ⟨b33, h1⟩ | ⟨b33, h1⟩
      · skip
        refine ao_q (v := (.ptr 0 0 0 1)) (go1 rfl rfl b33) rfl (aq_fap fi41_1 rfl rfl (show 0 + 1 ≤ 3 by decide) rfl) ?_
        refine ao_q (v := (i64 p1.tag)) (go1 rfl rfl b33) rfl (aq_ldp ti3 rfl rfl rfl rfl) ?_
        refine ao_q (v := (.bool (!decide (p1.tag = 0)))) (go1 rfl rfl b33) rfl (aq_ne rfl rfl) ?_
        refine ao_q (v := (.bool (!decide (p1.tag = 0)))) go0 rfl (aq_pkt rfl b33 rfl) ?_
        refine ao_q (v := (.bool (!decide (p1.tag = 0)))) go0 rfl (aq_mv rfl) ?_
        rcases Sh.ite_some h1 with ⟨b34, h1⟩ | ⟨b34, h1⟩
        · skip
          refine ao_skip rfl rfl b34 ?_
          refine ao_skip rfl rfl b34 ?_
          refine ao_skip rfl rfl b34 ?_
          refine ao_skip rfl rfl b34 ?_
          refine ao_none rfl rfl ?_
          refine ao_none rfl rfl ?_
          refine ao_none rfl rfl ?_
          refine ao_none rfl rfl ?_
          refine ao_skip rfl rfl b34 ?_
          refine ao_q (v := (.bool true)) go0 rfl (aq_pkt rfl b34 rfl) ?_
          exact AO.done (M11 true (Sh.some_eq h1).symm _ (Wk.to (L := [(0, (.sl (List.map eCell p0))), (3, (.ptr 0 0 0 0)), (44, (.bool true))]) ⟨.rfl, .rfl, .rfl, trivial⟩))
        · skip
          refine ao_q (v := (.ptr 0 0 0 0)) (go1 rfl rfl b34) rfl (aq_fap fi41_0 rfl rfl (show 0 + 0 ≤ 3 by decide) rfl) ?_
          refine ao_q (v := (i64 p1.count)) (go1 rfl rfl b34) rfl (aq_ldp ti3 rfl rfl rfl rfl) ?_
          refine ao_q (v := (.bool (decide (p1.count = 0)))) (go1 rfl rfl b34) rfl (aq_eq rfl rfl) ?_
          refine ao_q (v := (.bool (decide (p1.count = 0)))) (go1 rfl rfl b34) rfl (aq_mv rfl) ?_
          rcases Sh.ite_some h1 with ⟨b35, h1⟩ | ⟨b35, h1⟩
          · skip
            refine ao_q (v := (.ptr 0 0 0 2)) (go1 rfl rfl b35) rfl (aq_fap fi41_2 rfl rfl (show 0 + 2 ≤ 3 by decide) rfl) ?_
            refine ao_q (v := (.sl (List.map eI p1.fields))) (go1 rfl rfl b35) rfl (aq_ldp ti32 rfl rfl rfl rfl) ?_
            refine ao_q (v := (i64 (Sh.len p1.fields))) (go1 rfl rfl b35) rfl (aq_lens sl32 rfl) ?_
            refine ao_q (v := (.bool (decide (0 < (Sh.len p1.fields))))) (go1 rfl rfl b35) rfl (aq_gt rfl rfl) ?_
            refine ao_q (v := (.bool (decide (0 < (Sh.len p1.fields))))) (go1 rfl rfl b34) rfl (aq_pkt rfl b35 rfl) ?_
            refine ao_q (v := (.bool (decide (0 < (Sh.len p1.fields))))) go0 rfl (aq_pkf rfl b34 rfl) ?_
            exact AO.done (M11 (decide (0 < (Sh.len p1.fields))) (Sh.some_eq h1).symm _ (Wk.to (L := [(0, (.sl (List.map eCell p0))), (3, (.ptr 0 0 0 0)), (44, (.bool (decide (0 < (Sh.len p1.fields)))))]) ⟨.rfl, .rfl, .rfl, trivial⟩))
          · skip
            refine ao_skip rfl rfl b35 ?_
            refine ao_skip rfl rfl b35 ?_
            refine ao_skip rfl rfl b35 ?_
            refine ao_skip rfl rfl b35 ?_
            refine ao_q (v := (.bool false)) (go1 rfl rfl b34) rfl (aq_pkf rfl b35 rfl) ?_
            refine ao_q (v := (.bool false)) go0 rfl (aq_pkf rfl b34 rfl) ?_
            exact AO.done (M11 false (Sh.some_eq h1).symm _ (Wk.to (L := [(0, (.sl (List.map eCell p0))), (3, (.ptr 0 0 0 0)), (44, (.bool false))]) ⟨.rfl, .rfl, .rfl, trivial⟩))
      · skip
        refine ao_skip rfl rfl b33 ?_
        refine ao_skip rfl rfl b33 ?_
        refine ao_skip rfl rfl b33 ?_
        refine ao_q (v := (.bool false)) go0 rfl (aq_pkf rfl b33 rfl) ?_
        refine ao_q (v := (.bool false)) go0 rfl (aq_mv rfl) ?_
        refine ao_q (v := (.ptr 0 0 0 0)) (go1 rfl rfl rfl) rfl (aq_fap fi41_0 rfl rfl (show 0 + 0 ≤ 3 by decide) rfl) ?_
        refine ao_q (v := (i64 p1.count)) (go1 rfl rfl rfl) rfl (aq_ldp ti3 rfl rfl rfl rfl) ?_
        refine ao_q (v := (.bool (decide (p1.count = 0)))) (go1 rfl rfl rfl) rfl (aq_eq rfl rfl) ?_
        refine ao_q (v := (.bool (decide (p1.count = 0)))) (go1 rfl rfl rfl) rfl (aq_mv rfl) ?_
        rcases Sh.ite_some h1 with ⟨b36, h1⟩ | ⟨b36, h1⟩
        · skip
          refine ao_q (v := (.ptr 0 0 0 2)) (go1 rfl rfl b36) rfl (aq_fap fi41_2 rfl rfl (show 0 + 2 ≤ 3 by decide) rfl) ?_
          refine ao_q (v := (.sl (List.map eI p1.fields))) (go1 rfl rfl b36) rfl (aq_ldp ti32 rfl rfl rfl rfl) ?_
          refine ao_q (v := (i64 (Sh.len p1.fields))) (go1 rfl rfl b36) rfl (aq_lens sl32 rfl) ?_
          refine ao_q (v := (.bool (decide (0 < (Sh.len p1.fields))))) (go1 rfl rfl b36) rfl (aq_gt rfl rfl) ?_
          refine ao_q (v := (.bool (decide (0 < (Sh.len p1.fields))))) (go1 rfl rfl rfl) rfl (aq_pkt rfl b36 rfl) ?_
          refine ao_q (v := (.bool (decide (0 < (Sh.len p1.fields))))) go0 rfl (aq_pkf rfl rfl rfl) ?_
          exact AO.done (M11 (decide (0 < (Sh.len p1.fields))) (Sh.some_eq h1).symm _ (Wk.to (L := [(0, (.sl (List.map eCell p0))), (3, (.ptr 0 0 0 0)), (44, (.bool (decide (0 < (Sh.len p1.fields)))))]) ⟨.rfl, .rfl, .rfl, trivial⟩))
        · skip
          refine ao_skip rfl rfl b36 ?_
          refine ao_skip rfl rfl b36 ?_
          refine ao_skip rfl rfl b36 ?_
          refine ao_skip rfl rfl b36 ?_
          refine ao_q (v := (.bool false)) (go1 rfl rfl rfl) rfl (aq_pkf rfl b36 rfl) ?_
          refine ao_q (v := (.bool false)) go0 rfl (aq_pkf rfl rfl rfl) ?_
          exact AO.done (M11 false (Sh.some_eq h1).symm _ (Wk.to (L := [(0, (.sl (List.map eCell p0))), (3, (.ptr 0 0 0 0)), (44, (.bool false))]) ⟨.rfl, .rfl, .rfl, trivial⟩))
  refine AW.regionO (by rfl) ?_
  refine ao_q (v := (.ptr 0 0 0 0)) go0 rfl (aq_fap fi41_0 rfl rfl (show 0 + 0 ≤ 3 by decide) rfl) ?_
  refine ao_q (v := (i64 p1.count)) go0 rfl (aq_ldp ti3 rfl rfl rfl rfl) ?_
  refine ao_q (v := (.bool (decide (p1.count < (-1))))) go0 rfl (aq_lt rfl rfl) ?_
  refine ao_q (v := (.bool (decide (p1.count < (-1))))) go0 rfl (aq_mv rfl) ?_
  rcases Sh.ite_some h1 with ⟨b37, h1⟩ | ⟨b37, h1⟩
  · skip
    refine ao_skip rfl rfl b37 ?_
    refine ao_skip rfl rfl b37 ?_
    refine ao_skip rfl rfl b37 ?_
    refine ao_q (v := (.bool true)) go0 rfl (aq_pkt rfl b37 rfl) ?_
    refine ao_q (v := (.bool true)) go0 rfl (aq_mv rfl) ?_
    refine ao_skip rfl rfl rfl ?_
    refine ao_skip rfl rfl rfl ?_
    refine ao_skip rfl rfl rfl ?_
    refine ao_q (v := (.bool true)) go0 rfl (aq_pkt rfl rfl rfl) ?_
    refine ao_q (v := (.bool true)) go0 rfl (aq_mv rfl) ?_
    refine ao_skip rfl rfl rfl ?_
    refine ao_skip rfl rfl rfl ?_
    refine ao_skip rfl rfl rfl ?_
    refine ao_skip rfl rfl rfl ?_
    refine ao_q (v := (.bool true)) go0 rfl (aq_pkt rfl rfl rfl) ?_
    exact AO.done (M5 true (Sh.some_eq h1).symm _ (Wk.to (L := [(0, (.sl (List.map eCell p0))), (3, (.ptr 0 0 0 0)), (25, (.bool true))]) ⟨.rfl, .rfl, .rfl, trivial⟩))
  · skip
    refine ao_q (v := (.ptr 0 0 0 1)) (go1 rfl rfl b37) rfl (aq_fap fi41_1 rfl rfl (show 0 + 1 ≤ 3 by decide) rfl) ?_
    refine ao_q (v := (i64 p1.tag)) (go1 rfl rfl b37) rfl (aq_ldp ti3 rfl rfl rfl rfl) ?_
    refine ao_q (v := (.bool (decide (p1.tag < 0)))) (go1 rfl rfl b37) rfl (aq_lt rfl rfl) ?_
    refine ao_q (v := (.bool (decide (p1.tag < 0)))) go0 rfl (aq_pkf rfl b37 rfl) ?_
    refine ao_q (v := (.bool (decide (p1.tag < 0)))) go0 rfl (aq_mv rfl) ?_
    rcases Sh.ite_some h1 with ⟨b38, h1⟩ | ⟨b38, h1⟩
    · skip
      refine ao_skip rfl rfl b38 ?_
      refine ao_skip rfl rfl b38 ?_
      refine ao_skip rfl rfl b38 ?_
      refine ao_q (v := (.bool true)) go0 rfl (aq_pkt rfl b38 rfl) ?_
      refine ao_q (v := (.bool true)) go0 rfl (aq_mv rfl) ?_
      refine ao_skip rfl rfl rfl ?_
      refine ao_skip rfl rfl rfl ?_
      refine ao_skip rfl rfl rfl ?_
      refine ao_skip rfl rfl rfl ?_
      refine ao_q (v := (.bool true)) go0 rfl (aq_pkt rfl rfl rfl) ?_
      exact AO.done (M5 true (Sh.some_eq h1).symm _ (Wk.to (L := [(0, (.sl (List.map eCell p0))), (3, (.ptr 0 0 0 0)), (25, (.bool true))]) ⟨.rfl, .rfl, .rfl, trivial⟩))
    · skip
      refine ao_q (v := (.ptr 0 0 0 1)) (go1 rfl rfl b38) rfl (aq_fap fi41_1 rfl rfl (show 0 + 1 ≤ 3 by decide) rfl) ?_
      refine ao_q (v := (i64 p1.tag)) (go1 rfl rfl b38) rfl (aq_ldp ti3 rfl rfl rfl rfl) ?_
      refine ao_q (v := (.bool (decide (99 < p1.tag)))) (go1 rfl rfl b38) rfl (aq_gt rfl rfl) ?_
      refine ao_q (v := (.bool (decide (99 < p1.tag)))) go0 rfl (aq_pkf rfl b38 rfl) ?_
      refine ao_q (v := (.bool (decide (99 < p1.tag)))) go0 rfl (aq_mv rfl) ?_
      rcases Sh.ite_some h1 with ⟨b39, h1⟩ | ⟨b39, h1⟩
      · skip
        refine ao_skip rfl rfl b39 ?_
        refine ao_skip rfl rfl b39 ?_
        refine ao_skip rfl rfl b39 ?_
        refine ao_skip rfl rfl b39 ?_
        refine ao_q (v := (.bool true)) go0 rfl (aq_pkt rfl b39 rfl) ?_
        exact AO.done (M5 true (Sh.some_eq h1).symm _ (Wk.to (L := [(0, (.sl (List.map eCell p0))), (3, (.ptr 0 0 0 0)), (25, (.bool true))]) ⟨.rfl, .rfl, .rfl, trivial⟩))
      · skip
        refine ao_q (v := (.ptr 0 0 0 2)) (go1 rfl rfl b39) rfl (aq_fap fi41_2 rfl rfl (show 0 + 2 ≤ 3 by decide) rfl) ?_
        refine ao_q (v := (.sl (List.map eI p1.fields))) (go1 rfl rfl b39) rfl (aq_ldp ti32 rfl rfl rfl rfl) ?_
        refine ao_q (v := (i64 (Sh.len p1.fields))) (go1 rfl rfl b39) rfl (aq_lens sl32 rfl) ?_
        refine ao_q (v := (.bool (decide (3 < (Sh.len p1.fields))))) (go1 rfl rfl b39) rfl (aq_gt rfl rfl) ?_
        refine ao_q (v := (.bool (decide (3 < (Sh.len p1.fields))))) go0 rfl (aq_pkf rfl b39 rfl) ?_
        exact AO.done (M5 (decide (3 < (Sh.len p1.fields))) (Sh.some_eq h1).symm _ (Wk.to (L := [(0, (.sl (List.map eCell p0))), (3, (.ptr 0 0 0 0)), (25, (.bool (decide (3 < (Sh.len p1.fields)))))]) ⟨.rfl, .rfl, .rfl, trivial⟩))

set_option maxRecDepth 100000 in
set_option maxHeartbeats 4000000 in
theorem slices_Clone_int_int_ok {p0 : (List Int)} {r : (List Int)} (h0 : slices_Clone_int_int p0 = some r) : ACalls Try.prog 70 [(.sl (List.map eI p0))] [] (fun v st => v = (.own 0 0 (List.length r)) ∧ st = [⟨0, 3, 1, List.map eI r⟩]) := by
  unfold slices_Clone_int_int at h0
  refine ACalls.intro Try.func70 rfl (by show 1 ≤ 8; decide) ?_
  show AW _ 0 _ (aret _ 0 Try.f70 _) ⟨8, _, _⟩
  refine AW.weaken (Wk.to (L := [(0, (.sl (List.map eI p0)))]) ⟨.rfl, trivial⟩) ?_
  refine AW.seq fun K1 hK1 => ?_
  refine AW.regionO (by rfl) ?_
  refine ao_q (v := .zc) go0 rfl (aq_as rfl) ?_
  refine AO.done (hK1 _ ?_)
  refine AW.seq fun K2 hK2 => ?_
  refine AW.seq fun K3 hK3 => ?_
  refine AW.regionO (by rfl) ?_
  refine ao_q (v := (.sl (List.map eI p0))) go0 rfl (aq_mv rfl) ?_
  refine ao_nil go0 sl32 rfl (fun hn => ?_) ?_
  · subst hn
    replace h0 : some [] = some r := by rw [← h0]; first | rfl | simp [Sh.app]
    refine AO.done (hK3 _ ?_)
    refine AW.cond' (b := true) rfl (fun _ => ?_) (fun q => nomatch (show true = false from (rfl : true = true).symm.trans q))
    refine AW.seq fun K4 hK4 => ?_
    refine AW.regionO (by rfl) ?_
    refine ao_q (v := .zc) go0 rfl (aq_as rfl) ?_
    refine AO.done (hK4 _ ?_)
    replace h0 := Sh.some_eq h0
    subst r
    exact AW.ret (Exists.intro _ (And.intro (((Wk.adopt (t := 2) rfl 3 (size := 1) (by decide)).trans (Wk.to (L := [(2, (.own 0 0 (List.length ([] : List Int))))]) ⟨.rfl, trivial⟩)).trans (Wk.to (L := [(2, (.own 0 0 (List.length ([] : List Int))))]) ⟨.rfl, trivial⟩)) (And.intro rfl rfl)))
  · skip
    refine AO.done (hK3 _ ?_)
    refine AW.cond' (b := false) rfl (fun q => nomatch (show false = true from (rfl : false = false).symm.trans q)) (fun _ => ?_)
    refine AW.skip (hK2 _ ?_)
    refine AW.seq fun K5 hK5 => ?_
    refine AW.regionO (by rfl) ?_
    refine ao_bs (m := 0) (st' := [⟨0, 3, 1, List.map eI ([] : List Int)⟩]) (l := ([] : List Int)) (enc := eI) go0 ei32 (by decide) rfl rfl rfl rfl rfl rfl ?_
    refine ao_q (v := (.sl (List.map eI p0))) go0 rfl (aq_mv rfl) ?_
    obtain ⟨l6, gl6, h0⟩ := Sh.bind_some h0
    refine ao_apo (st' := [⟨1, 3, 1, List.map eI l6⟩]) (l2 := p0) go0 ei32 rfl rfl rfl rfl el_s (fun _ => rfl) gl6 rfl ?_
    refine ao_q (v := (.own 0 1 (List.length l6))) go0 rfl (aq_as rfl) ?_
    refine AO.done (hK5 _ ?_)
    replace h0 := Sh.some_eq h0
    subst r
    exact AW.ret (Exists.intro _ (And.intro ((Wk.rg (L := [(2, (.own 0 0 (List.length l6)))]) (st' := [⟨0, 3, 1, List.map eI l6⟩]) (.pure (pure_map fun _ => rfl) .nil) ⟨.rfl, trivial⟩).trans (Wk.to (L := [(2, (.own 0 0 (List.length l6)))]) ⟨.rfl, trivial⟩)) (And.intro rfl rfl)))

set_option maxRecDepth 100000 in
set_option maxHeartbeats 4000000 in
theorem impl_checkedHeap_ok {N : Nat} {p0 : (List Cell)} {r : (List Int) × Bool} (h0 : impl_checkedHeap N p0 = some r) : ACalls Try.prog 63 [(.sl (List.map eCell p0))] [] (fun v st => v = (.tup [(.own 0 0 (List.length r.1)), (.bool r.2)]) ∧ st = [⟨0, 3, 1, List.map eI r.1⟩]) := by
  unfold impl_checkedHeap at h0
  refine ACalls.intro Try.func63 rfl (by show 1 ≤ 159; decide) ?_
  show AW _ 0 _ (aret _ 0 Try.f63 _) ⟨159, _, _⟩
  refine AW.weaken (Wk.to (L := [(0, (.sl (List.map eCell p0)))]) ⟨.rfl, trivial⟩) ?_
  refine AW.seq fun K1 hK1 => ?_
  refine AW.regionO (by rfl) ?_
  refine ao_q (v := .zc) go0 rfl (aq_as rfl) ?_
  refine ao_q (v := (.bool false)) go0 rfl (aq_as rfl) ?_
  refine AO.done (hK1 _ ?_)
  refine AW.seq fun K2 hK2 => ?_
  refine AW.regionO (by rfl) ?_
  refine ao_q (v := (.sl (List.map eCell p0))) go0 rfl (aq_mv rfl) ?_
  refine ao_q (v := (i64 (Sh.len p0))) go0 rfl (aq_lens sl25 rfl) ?_
  obtain ⟨l3, gl3, h0⟩ := Sh.bind_some h0
  refine ao_make (m := 0) (st' := [⟨0, 3, 1, List.map eI l3⟩]) (enc := eI) (u := 0) go0 ei32 rfl rfl rfl gl3 rfl rfl ?_
  refine ao_q (v := (.own 0 0 (List.length l3))) go0 rfl (aq_as rfl) ?_
  refine AO.done (hK2 _ ?_)
  refine AW.seq fun K4 hK4 => ?_
  refine AW.seq fun K5 hK5 => ?_
  refine AW.regionO (by rfl) ?_
  refine ao_q (v := (.sl (List.map eCell p0))) go0 rfl (aq_mv rfl) ?_
  refine ao_q (v := (i64 (Sh.len p0))) go0 rfl (aq_lens sl25 rfl) ?_
  refine ao_q (v := (i64 0)) go0 rfl (aq_mv rfl) ?_
  refine AO.done (hK5 _ ?_)
  obtain ⟨o9, h1, h0⟩ := Sh.cont_some h0
  have M9 : ∀ (l8 : (List Int)), o9 = Sum.inr l8 → ∀ s, Wk 0 s ⟨159, envL [(0, (.sl (List.map eCell p0))), (4, (.own 0 0 (List.length l8)))], [⟨0, 3, 1, List.map eI l8⟩]⟩ → K4 s := by
    intro l8 hq s hw
    subst o9
    try dsimp only at h0
    refine hK4 _ (AW.weaken hw ?_)
    refine AW.seq fun K10 hK10 => ?_
    refine AW.seq fun K11 hK11 => ?_
    obtain ⟨o13, h1, h0⟩ := Sh.bind_some h0
    have M13 : ∀ (t12 : Bool), o13 = t12 → ∀ s, Wk 0 s ⟨159, envL [(0, (.sl (List.map eCell p0))), (4, (.own 0 0 (List.length l8))), (68, (.bool t12))], [⟨0, 3, 1, List.map eI l8⟩]⟩ → K11 s := by
      intro t12 hq s hw
      subst o13
      try dsimp only at h0
      refine hK11 _ (AW.weaken hw ?_)
      refine AW.cond' (b := t12) rfl (fun b14 => ?_) (fun b14 => ?_)
      · replace h0 := Sh.ite_t b14 h0
        refine AW.seq fun K15 hK15 => ?_
        refine AW.regionO (by rfl) ?_
        refine ao_q (v := .zc) go0 rfl (aq_as rfl) ?_
        refine ao_q (v := (.bool false)) go0 rfl (aq_as rfl) ?_
        refine AO.done (hK15 _ ?_)
        replace h0 := Sh.some_eq h0
        subst r
        exact AW.ret (Exists.intro _ (And.intro ((((Wk.adopt (t := 2) rfl 3 (size := 1) (by decide)).trans (Wk.to (L := [(2, (.own 1 0 (List.length ([] : List Int)))), (3, (.bool false))]) ⟨.rfl, .rfl, trivial⟩)).trans (Wk.permk (L := [(2, (.own 0 0 (List.length ([] : List Int)))), (3, (.bool false))]) (st' := [⟨0, 3, 1, List.map eI ([] : List Int)⟩]) (st1 := [⟨0, 3, 1, List.map eI ([] : List Int)⟩]) [1] rfl .nil (by decide) rfl rfl (.pure (pure_map fun _ => rfl) .nil) ⟨.rfl, .rfl, trivial⟩)).trans (Wk.to (L := [(2, (.own 0 0 (List.length ([] : List Int)))), (3, (.bool false))]) ⟨.rfl, .rfl, trivial⟩)) (And.intro rfl rfl)))
      · replace h0 := Sh.ite_f b14 h0
        refine AW.skip (hK10 _ ?_)
        refine AW.seq fun K16 hK16 => ?_
        refine AW.regionO (by rfl) ?_
        refine ao_q (v := (.own 0 0 (List.length l8))) go0 rfl (aq_mv rfl) ?_
        obtain ⟨q17, gq17, h0⟩ := Sh.bind_some h0
        refine ao_callb (v' := (.own 1 0 (List.length q17))) (st' := [⟨0, 3, 1, List.map eI l8⟩, ⟨0, 3, 1, List.map eI q17⟩]) go0 hb70 (slices_Clone_int_int_ok gq17) rfl (.own rfl rfl (fun _ => rfl) .nil) rfl (srow (fun _ => rfl) trivial) rfl rfl ?_
        refine ao_q (v := (.own 1 0 (List.length q17))) go0 rfl (aq_as rfl) ?_
        refine AO.done (hK16 _ ?_)
        refine AW.seq fun K18 hK18 => ?_
        refine AW.regionO (by rfl) ?_
        refine ao_q (v := .zc) go0 rfl (aq_as rfl) ?_
        refine AO.done (hK18 _ ?_)
        refine AW.seq fun K19 hK19 => ?_
        refine AW.regionO (by rfl) ?_
        refine ao_q (v := (i64 0)) go0 rfl (aq_as rfl) ?_
        refine AO.done (hK19 _ ?_)
        refine AW.seq fun K20 hK20 => ?_
        refine AW.seq fun K21 hK21 => ?_
        refine AW.regionO (by rfl) ?_
        refine ao_q (v := (.sl (List.map eCell p0))) go0 rfl (aq_mv rfl) ?_
        refine ao_q (v := (i64 (Sh.len p0))) go0 rfl (aq_lens sl25 rfl) ?_
        refine ao_q (v := (i64 0)) go0 rfl (aq_mv rfl) ?_
        refine AO.done (hK21 _ ?_)
        obtain ⟨o25, h1, h0⟩ := Sh.cont_some h0
        have M25 : ∀ (l24 : (List Int)), o25 = Sum.inr l24 → ∀ s, Wk 0 s ⟨159, envL [(0, (.sl (List.map eCell p0))), (4, (.own 0 0 (List.length l8))), (11, (.own 1 0 (List.length q17))), (12, (.own 2 0 (List.length l24))), (13, (i64 0))], [⟨0, 3, 1, List.map eI l8⟩, ⟨0, 3, 1, List.map eI q17⟩, ⟨0, 3, 1, List.map eI l24⟩]⟩ → K20 s := by
          intro l24 hq s hw
          subst o25
          try dsimp only at h0
          refine hK20 _ (AW.weaken hw ?_)
          refine AW.seq fun K26 hK26 => ?_
          obtain ⟨o31, h1, h0⟩ := Sh.bind_some h0
          have M31 : ∀ (many30 : Int), o31 = many30 → ∀ s, Wk 0 s ⟨159, envL [(0, (.sl (List.map eCell p0))), (4, (.own 0 0 (List.length l8))), (13, (i64 many30))], [⟨0, 3, 1, List.map eI l8⟩]⟩ → K26 s := by
            intro many30 hq s hw
            subst o31
            try dsimp only at h0
            refine hK26 _ (AW.weaken hw ?_)
            refine AW.seq fun K32 hK32 => ?_
            refine AW.regionO (by rfl) ?_
            refine ao_q (v := (.own 0 0 (List.length l8))) go0 rfl (aq_mv rfl) ?_
            refine ao_q (v := (i64 many30)) go0 rfl (aq_mv rfl) ?_
            refine ao_q (v := (.sl (List.map eCell p0))) go0 rfl (aq_mv rfl) ?_
            refine ao_q (v := (i64 (Sh.len p0))) go0 rfl (aq_lens sl25 rfl) ?_
            refine ao_q (v := (.bool (decide (many30 = (Sh.len p0))))) go0 rfl (aq_eq rfl rfl) ?_
            refine ao_q (v := (.own 0 0 (List.length l8))) go0 rfl (aq_as rfl) ?_
            refine ao_q (v := (.bool (decide (many30 = (Sh.len p0))))) go0 rfl (aq_as rfl) ?_
            refine AO.done (hK32 _ ?_)
            replace h0 := Sh.some_eq h0
            subst r
            exact AW.ret (Exists.intro _ (And.intro (Wk.to (L := [(2, (.own 0 0 (List.length l8))), (3, (.bool (decide (many30 = (Sh.len p0)))))]) ⟨.rfl, .rfl, trivial⟩) (And.intro rfl rfl)))
          refine AW.block (AW.loopF (σ := Int × (List Int) × (List Int)) (fun n v => impl_checkedHeap_L3 N p0 n v.1 v.2.1 v.2.2 = some o31) (fun (many27, l28, l29) => ⟨159, envL [(0, (.sl (List.map eCell p0))), (4, (.own 0 0 (List.length l8))), (11, (.own 1 0 (List.length l28))), (12, (.own 2 0 (List.length l29))), (13, (i64 many27))], [⟨0, 3, 1, List.map eI l8⟩, ⟨0, 3, 1, List.map eI l28⟩, ⟨0, 3, 1, List.map eI l29⟩]⟩) N (0, q17, l24) h1 (Wk.to (L := [(0, (.sl (List.map eCell p0))), (4, (.own 0 0 (List.length l8))), (11, (.own 1 0 (List.length q17))), (12, (.own 2 0 (List.length l24))), (13, (i64 0))]) ⟨.rfl, .rfl, .rfl, .rfl, .rfl, trivial⟩) (fun _ hv => by rw [impl_checkedHeap_L3] at hv; cases hv) ?_)
          rintro n ⟨many27, l28, l29⟩ h1
          try dsimp only at h1 ⊢
          rw [impl_checkedHeap_L3] at h1
          refine AW.seq fun K33 hK33 => ?_
          refine AW.seq fun K34 hK34 => ?_
          refine AW.regionO (by rfl) ?_
          refine ao_q (v := (.own 2 0 (List.length l29))) go0 rfl (aq_mv rfl) ?_
          refine ao_q (v := (i64 (Sh.len l29))) go0 rfl (aq_leno sl32 rfl rfl rfl) ?_
          refine ao_q (v := (.bool (decide (0 < (Sh.len l29))))) go0 rfl (aq_gt rfl rfl) ?_
          refine AO.done (hK34 _ ?_)
          refine AW.cond' (b := decide (0 < (Sh.len l29))) rfl (fun b35 => ?_) (fun b35 => ?_)
          · replace h1 := Sh.ite_t b35 h1
            refine AW.skip (hK33 _ ?_)
            refine AW.seq fun K36 hK36 => ?_
            refine AW.block ?_
            refine AW.seq fun K37 hK37 => ?_
            refine AW.regionO (by rfl) ?_
            refine ao_q (v := (.sl (List.map eCell p0))) go0 rfl (aq_mv rfl) ?_
            refine ao_q (v := (.own 2 0 (List.length l29))) go0 rfl (aq_mv rfl) ?_
            refine ao_q (v := (.own 2 0 (List.length l29))) go0 rfl (aq_mv rfl) ?_
            refine ao_q (v := (i64 (Sh.len l29))) go0 rfl (aq_leno sl32 rfl rfl rfl) ?_
            refine ao_q (v := (i64 (Sh.w ((Sh.len l29) - 1)))) go0 rfl (aq_sub rfl rfl) ?_
            obtain ⟨c38, gc38, h1⟩ := Sh.bind_some h1
            refine ao_q (v := (.ptr 2 0 (Int.toNat (Sh.w ((Sh.len l29) - 1))) 0)) go0 rfl (aq_ixo ei32 rfl rfl rfl rfl gc38) ?_
            refine ao_q (v := (i64 c38)) go0 rfl (aq_ldp ti3 rfl rfl (map_get gc38) rfl) ?_
            obtain ⟨c39, gc39, h1⟩ := Sh.bind_some h1
            refine ao_q (v := (.iptr (eCell c39) 0)) go0 rfl (aq_ixs ei25 rfl rfl gc39 rfl) ?_
            refine ao_q (v := (.agg [(i64 c39.count), (i64 c39.tag), (.sl (List.map eI c39.fields))])) go0 rfl (aq_ldia ti41 rfl (show 0 + 3 ≤ 3 by decide) rfl) ?_
            refine ao_alloc (m := 3) (st' := [⟨0, 3, 1, List.map eI l8⟩, ⟨0, 3, 1, List.map eI l28⟩, ⟨0, 3, 1, List.map eI l29⟩, ⟨0, 41, 3, [[(i64 0), (i64 0), .zc]]⟩]) go0 zi41 rfl rfl ?_
            refine ao_str (st' := [⟨0, 3, 1, List.map eI l8⟩, ⟨0, 3, 1, List.map eI l28⟩, ⟨0, 3, 1, List.map eI l29⟩, ⟨0, 41, 3, [[(i64 c39.count), (i64 c39.tag), (.sl (List.map eI c39.fields))]]⟩]) go0 ti41 rfl rfl rfl rfl rfl rfl (show 0 + 3 ≤ 3 by decide) rfl ?_
            refine AO.done (hK37 _ ?_)
            refine AW.seq fun K40 hK40 => ?_
            refine AW.regionO (by rfl) ?_
            refine ao_q (v := (.own 2 0 (List.length l29))) go0 rfl (aq_mv rfl) ?_
            refine ao_q (v := (.own 2 0 (List.length l29))) go0 rfl (aq_mv rfl) ?_
            refine ao_q (v := (i64 (Sh.len l29))) go0 rfl (aq_leno sl32 rfl rfl rfl) ?_
            refine ao_q (v := (i64 (Sh.w ((Sh.len l29) - 1)))) go0 rfl (aq_sub rfl rfl) ?_
            obtain ⟨l41, gl41, h1⟩ := Sh.bind_some h1
            refine ao_hio (st' := [⟨0, 3, 1, List.map eI l8⟩, ⟨0, 3, 1, List.map eI l28⟩, ⟨1, 3, 1, List.map eI l41⟩, ⟨0, 41, 3, [[(i64 c39.count), (i64 c39.tag), (.sl (List.map eI c39.fields))]]⟩]) go0 ei32 rfl rfl rfl rfl gl41 rfl ?_
            refine ao_q (v := (.own 2 1 (List.length l41))) go0 rfl (aq_as rfl) ?_
            refine AO.done (hK40 _ ?_)
            refine AW.seq fun K42 hK42 => ?_
            refine AW.regionO (by rfl) ?_
            refine ao_q (v := (.ptr 3 0 0 2)) go0 rfl (aq_fap fi41_2 rfl rfl (show 0 + 2 ≤ 3 by decide) rfl) ?_
            refine ao_q (v := (.sl (List.map eI c39.fields))) go0 rfl (aq_ldp ti32 rfl rfl rfl rfl) ?_
            refine ao_q (v := (i64 (Sh.len c39.fields))) go0 rfl (aq_lens sl32 rfl) ?_
            refine ao_q (v := (i64 0)) go0 rfl (aq_mv rfl) ?_
            refine AO.done (hK42 _ ?_)
            obtain ⟨o48, h2, h1⟩ := Sh.bind_some h1
            have M48 : ∀ (l46 : (List Int)) (l47 : (List Int)), o48 = (l46, l47) → ∀ s, Wk 0 s ⟨159, envL [(0, (.sl (List.map eCell p0))), (4, (.own 0 0 (List.length l8))), (11, (.own 1 0 (List.length l46))), (12, (.own 2 0 (List.length l47))), (13, (i64 many27))], [⟨0, 3, 1, List.map eI l8⟩, ⟨0, 3, 1, List.map eI l46⟩, ⟨0, 3, 1, List.map eI l47⟩]⟩ → K36 s := by
              intro l46 l47 hq s hw
              subst o48
              try dsimp only at h1
              refine hK36 _ (AW.weaken hw ?_)
              refine AW.regionO (by rfl) ?_
              refine ao_q (v := (i64 many27)) go0 rfl (aq_mv rfl) ?_
              refine ao_q (v := (i64 (Sh.w (many27 + 1)))) go0 rfl (aq_add rfl rfl) ?_
              refine ao_q (v := (i64 (Sh.w (many27 + 1)))) go0 rfl (aq_as rfl) ?_
              exact AO.done (Exists.intro (Sh.w (many27 + 1), l46, l47) (And.intro h1 (Wk.to (L := [(0, (.sl (List.map eCell p0))), (4, (.own 0 0 (List.length l8))), (11, (.own 1 0 (List.length l46))), (12, (.own 2 0 (List.length l47))), (13, (i64 (Sh.w (many27 + 1))))]) ⟨.rfl, .rfl, .rfl, .rfl, .rfl, trivial⟩)))
            refine AW.block (AW.loopF (σ := Int × (List Int) × (List Int)) (fun n v => impl_checkedHeap_L4 c39 p0 n v.1 v.2.1 v.2.2 = some o48) (fun (t43, l44, l45) => ⟨159, envL [(0, (.sl (List.map eCell p0))), (4, (.own 0 0 (List.length l8))), (11, (.own 1 0 (List.length l44))), (12, (.own 2 0 (List.length l45))), (13, (i64 many27)), (125, (.sl (List.map eI c39.fields))), (126, (i64 (Sh.len c39.fields))), (127, (i64 t43))], [⟨0, 3, 1, List.map eI l8⟩, ⟨0, 3, 1, List.map eI l44⟩, ⟨0, 3, 1, List.map eI l45⟩]⟩) N (0, l28, l41) h2 (by refine Wk.trans (Wk.rg (L := [(0, (.sl (List.map eCell p0))), (4, (.own 0 0 (List.length l8))), (11, (.own 1 0 (List.length l28))), (12, (.own 2 0 (List.length l41))), (13, (i64 many27)), (125, (.sl (List.map eI c39.fields))), (126, (i64 (Sh.len c39.fields))), (127, (i64 0))]) (st' := [⟨0, 3, 1, List.map eI l8⟩, ⟨0, 3, 1, List.map eI l28⟩, ⟨0, 3, 1, List.map eI l41⟩, ⟨0, 41, 3, [[(i64 c39.count), (i64 c39.tag), (.sl (List.map eI c39.fields))]]⟩]) (.pure (pure_map fun _ => rfl) (.pure (pure_map fun _ => rfl) (.pure (pure_map fun _ => rfl) (.raw rfl rfl .nil)))) ⟨.rfl, .rfl, .rfl, .rfl, .rfl, .rfl, .rfl, .rfl, trivial⟩) ?_; refine Wk.trans (Wk.permk (L := [(0, (.sl (List.map eCell p0))), (4, (.own 0 0 (List.length l8))), (11, (.own 1 0 (List.length l28))), (12, (.own 2 0 (List.length l41))), (13, (i64 many27)), (125, (.sl (List.map eI c39.fields))), (126, (i64 (Sh.len c39.fields))), (127, (i64 0))]) (st' := [⟨0, 3, 1, List.map eI l8⟩, ⟨0, 3, 1, List.map eI l28⟩, ⟨0, 3, 1, List.map eI l41⟩]) (st1 := [⟨0, 3, 1, List.map eI l8⟩, ⟨0, 3, 1, List.map eI l28⟩, ⟨0, 3, 1, List.map eI l41⟩]) [0, 1, 2] rfl .nil (by decide) rfl rfl (.pure (pure_map fun _ => rfl) (.pure (pure_map fun _ => rfl) (.pure (pure_map fun _ => rfl) .nil))) ⟨.rfl, .rfl, .rfl, .rfl, .rfl, .rfl, .rfl, .rfl, trivial⟩) ?_; exact Wk.to (L := [(0, (.sl (List.map eCell p0))), (4, (.own 0 0 (List.length l8))), (11, (.own 1 0 (List.length l28))), (12, (.own 2 0 (List.length l41))), (13, (i64 many27)), (125, (.sl (List.map eI c39.fields))), (126, (i64 (Sh.len c39.fields))), (127, (i64 0))]) ⟨.rfl, .rfl, .rfl, .rfl, .rfl, .rfl, .rfl, .rfl, trivial⟩) (fun _ hv => by rw [impl_checkedHeap_L4] at hv; cases hv) ?_)
            rintro n ⟨t43, l44, l45⟩ h2
            try dsimp only at h2 ⊢
            rw [impl_checkedHeap_L4] at h2
            refine AW.seq fun K49 hK49 => ?_
            refine AW.regionO (by rfl) ?_
            refine ao_q (v := (.bool (decide (t43 < (Sh.len c39.fields))))) go0 rfl (aq_lt rfl rfl) ?_
            refine AO.done (hK49 _ ?_)
            refine AW.seq fun K50 hK50 => ?_
            refine AW.cond' (b := decide (t43 < (Sh.len c39.fields))) rfl (fun b51 => ?_) (fun b51 => ?_)
            · replace h2 := Sh.ite_t b51 h2
              refine AW.skip (hK50 _ ?_)
              refine AW.seq fun K52 hK52 => ?_
              obtain ⟨o55, h3, h2⟩ := Sh.bind_some h2
              have M55 : ∀ (l53 : (List Int)) (l54 : (List Int)), o55 = (l53, l54) → ∀ s, Wk 0 s ⟨159, envL [(0, (.sl (List.map eCell p0))), (4, (.own 0 0 (List.length l8))), (11, (.own 1 0 (List.length l53))), (12, (.own 2 0 (List.length l54))), (13, (i64 many27)), (125, (.sl (List.map eI c39.fields))), (126, (i64 (Sh.len c39.fields))), (127, (i64 t43))], [⟨0, 3, 1, List.map eI l8⟩, ⟨0, 3, 1, List.map eI l53⟩, ⟨0, 3, 1, List.map eI l54⟩]⟩ → K52 s := by
                intro l53 l54 hq s hw
                subst o55
                try dsimp only at h2
                refine hK52 _ (AW.weaken hw ?_)
                refine AW.regionO (by rfl) ?_
                refine ao_q (v := (i64 (Sh.w (t43 + 1)))) go0 rfl (aq_add rfl rfl) ?_
                refine ao_q (v := (i64 (Sh.w (t43 + 1)))) go0 rfl (aq_mv rfl) ?_
                exact AO.done (Exists.intro (Sh.w (t43 + 1), l53, l54) (And.intro h2 (Wk.to (L := [(0, (.sl (List.map eCell p0))), (4, (.own 0 0 (List.length l8))), (11, (.own 1 0 (List.length l53))), (12, (.own 2 0 (List.length l54))), (13, (i64 many27)), (125, (.sl (List.map eI c39.fields))), (126, (i64 (Sh.len c39.fields))), (127, (i64 (Sh.w (t43 + 1))))]) ⟨.rfl, .rfl, .rfl, .rfl, .rfl, .rfl, .rfl, .rfl, trivial⟩)))
              refine AW.block ?_
              refine AW.seq fun K56 hK56 => ?_
              refine AW.regionO (by rfl) ?_
              obtain ⟨c57, gc57, h3⟩ := Sh.bind_some h3
              refine ao_q (v := (.iptr (eI c57) 0)) go0 rfl (aq_ixs ei32 rfl rfl gc57 rfl) ?_
              refine ao_q (v := (i64 c57)) go0 rfl (aq_ldi ti3 rfl rfl) ?_
              refine ao_q (v := (i64 c57)) go0 rfl (aq_as rfl) ?_
              refine AO.done (hK56 _ ?_)
              refine AW.seq fun K58 hK58 => ?_
              refine AW.regionO (by rfl) ?_
              refine ao_q (v := (.sl (List.map eCell p0))) go0 rfl (aq_mv rfl) ?_
              refine ao_q (v := (i64 c57)) go0 rfl (aq_mv rfl) ?_
              obtain ⟨q59, gq59, h3⟩ := Sh.bind_some h3
              refine ao_call (v' := (.tup [(i64 q59.1), (.bool q59.2)])) (st' := [⟨0, 3, 1, List.map eI l8⟩, ⟨0, 3, 1, List.map eI l44⟩, ⟨0, 3, 1, List.map eI l45⟩]) go0 hb71 (impl_liveAt_ok gq59) rfl rfl trivial rfl rfl ?_
              refine ao_q (v := (.tup [(i64 q59.1), (.bool q59.2)])) go0 rfl (aq_mv rfl) ?_
              refine ao_q (v := (i64 q59.1)) go0 rfl (aq_ex rfl rfl) ?_
              refine ao_q (v := (.bool q59.2)) go0 rfl (aq_ex rfl rfl) ?_
              refine ao_q (v := (i64 q59.1)) go0 rfl (aq_as rfl) ?_
              refine ao_q (v := (.bool q59.2)) go0 rfl (aq_as rfl) ?_
              refine AO.done (hK58 _ ?_)
              refine AW.seq fun K60 hK60 => ?_
              refine AW.regionO (by rfl) ?_
              refine ao_q (v := (.bool q59.2)) go0 rfl (aq_mv rfl) ?_
              refine AO.done (hK60 _ ?_)
              refine AW.cond' (b := q59.2) rfl (fun b61 => ?_) (fun b61 => ?_)
              · replace h3 := Sh.ite_t b61 h3
                refine AW.seq fun K62 hK62 => ?_
                refine AW.regionO (by rfl) ?_
                refine ao_q (v := (.own 1 0 (List.length l44))) go0 rfl (aq_mv rfl) ?_
                refine ao_q (v := (i64 q59.1)) go0 rfl (aq_mv rfl) ?_
                obtain ⟨c63, gc63, h3⟩ := Sh.bind_some h3
                refine ao_q (v := (.ptr 1 0 (Int.toNat q59.1) 0)) go0 rfl (aq_ixo ei32 rfl rfl rfl rfl gc63) ?_
                refine ao_q (v := (i64 c63)) go0 rfl (aq_ldp ti3 rfl rfl (map_get gc63) rfl) ?_
                refine ao_q (v := (i64 (Sh.w (c63 - 1)))) go0 rfl (aq_sub rfl rfl) ?_
                refine ao_q (v := (.ptr 1 0 (Int.toNat q59.1) 0)) go0 rfl (aq_ixo ei32 rfl rfl rfl rfl gc63) ?_
                refine ao_stl (st' := [⟨0, 3, 1, List.map eI l8⟩, ⟨0, 3, 1, List.map eI (Sh.put l44 q59.1 (Sh.w (c63 - 1)))⟩, ⟨0, 3, 1, List.map eI l45⟩]) (u' := Sh.w (c63 - 1)) go0 ti3 rfl rfl gc63 rfl rfl rfl (show 0 + 1 ≤ 1 by decide) rfl rfl ?_
                refine AO.done (hK62 _ ?_)
                refine AW.seq fun K64 hK64 => ?_
                refine AW.regionO (by rfl) ?_
                refine ao_q (v := (.own 1 0 (List.length l44))) go0 rfl (aq_mv rfl) ?_
                refine ao_q (v := (i64 q59.1)) go0 rfl (aq_mv rfl) ?_
                obtain ⟨c65, gc65, h3⟩ := Sh.bind_some h3
                refine ao_q (v := (.ptr 1 0 (Int.toNat q59.1) 0)) go0 rfl (aq_ixo ei32 rfl rfl rfl (by simp only [Sh.put_len]) gc65) ?_
                refine ao_q (v := (i64 c65)) go0 rfl (aq_ldp ti3 rfl rfl (map_get gc65) rfl) ?_
                refine ao_q (v := (.bool (decide (c65 = 0)))) go0 rfl (aq_eq rfl rfl) ?_
                refine AO.done (hK64 _ ?_)
                refine AW.cond' (b := decide (c65 = 0)) rfl (fun b66 => ?_) (fun b66 => ?_)
                · replace h3 := Sh.ite_t b66 h3
                  refine AW.regionO (by rfl) ?_
                  refine ao_q (v := (.own 2 0 (List.length l45))) go0 rfl (aq_mv rfl) ?_
                  refine ao_q (v := (i64 q59.1)) go0 rfl (aq_mv rfl) ?_
                  refine ao_bs (m := 3) (st' := [⟨0, 3, 1, List.map eI l8⟩, ⟨0, 3, 1, List.map eI (Sh.put l44 q59.1 (Sh.w (c63 - 1)))⟩, ⟨0, 3, 1, List.map eI l45⟩, ⟨0, 3, 1, List.map eI [q59.1]⟩]) (l := [q59.1]) (enc := eI) go0 ei32 (by decide) rfl rfl rfl rfl rfl rfl ?_
                  obtain ⟨l67, gl67, h3⟩ := Sh.bind_some h3
                  refine ao_apo (st' := [⟨0, 3, 1, List.map eI l8⟩, ⟨0, 3, 1, List.map eI (Sh.put l44 q59.1 (Sh.w (c63 - 1)))⟩, ⟨1, 3, 1, List.map eI l67⟩, ⟨0, 3, 1, List.map eI [q59.1]⟩]) (l2 := [q59.1]) go0 ei32 rfl rfl rfl rfl (el_o rfl rfl) (fun _ => rfl) gl67 rfl ?_
                  refine ao_q (v := (.own 2 1 (List.length l67))) go0 rfl (aq_as rfl) ?_
                  exact AO.done (M55 (Sh.put l44 q59.1 (Sh.w (c63 - 1))) l67 (Sh.some_eq h3).symm _ (by refine Wk.trans (Wk.rg (L := [(0, (.sl (List.map eCell p0))), (4, (.own 0 0 (List.length l8))), (11, (.own 1 0 (List.length l44))), (12, (.own 2 0 (List.length l67))), (13, (i64 many27)), (125, (.sl (List.map eI c39.fields))), (126, (i64 (Sh.len c39.fields))), (127, (i64 t43))]) (st' := [⟨0, 3, 1, List.map eI l8⟩, ⟨0, 3, 1, List.map eI (Sh.put l44 q59.1 (Sh.w (c63 - 1)))⟩, ⟨0, 3, 1, List.map eI l67⟩, ⟨0, 3, 1, List.map eI [q59.1]⟩]) (.pure (pure_map fun _ => rfl) (.pure (pure_map fun _ => rfl) (.pure (pure_map fun _ => rfl) (.pure (pure_map fun _ => rfl) .nil)))) ⟨.rfl, .rfl, .rfl, .rfl, .rfl, .rfl, .rfl, .rfl, trivial⟩) ?_; refine Wk.trans (Wk.permk (L := [(0, (.sl (List.map eCell p0))), (4, (.own 0 0 (List.length l8))), (11, (.own 1 0 (List.length l44))), (12, (.own 2 0 (List.length l67))), (13, (i64 many27)), (125, (.sl (List.map eI c39.fields))), (126, (i64 (Sh.len c39.fields))), (127, (i64 t43))]) (st' := [⟨0, 3, 1, List.map eI l8⟩, ⟨0, 3, 1, List.map eI (Sh.put l44 q59.1 (Sh.w (c63 - 1)))⟩, ⟨0, 3, 1, List.map eI l67⟩]) (st1 := [⟨0, 3, 1, List.map eI l8⟩, ⟨0, 3, 1, List.map eI (Sh.put l44 q59.1 (Sh.w (c63 - 1)))⟩, ⟨0, 3, 1, List.map eI l67⟩]) [0, 1, 2] rfl .nil (by decide) rfl rfl (.pure (pure_map fun _ => rfl) (.pure (pure_map fun _ => rfl) (.pure (pure_map fun _ => rfl) .nil))) ⟨.rfl, .rfl, .rfl, .rfl, .rfl, .rfl, .rfl, .rfl, trivial⟩) ?_; exact Wk.to (L := [(0, (.sl (List.map eCell p0))), (4, (.own 0 0 (List.length l8))), (11, (.own 1 0 (List.length (Sh.put l44 q59.1 (Sh.w (c63 - 1)))))), (12, (.own 2 0 (List.length l67))), (13, (i64 many27)), (125, (.sl (List.map eI c39.fields))), (126, (i64 (Sh.len c39.fields))), (127, (i64 t43))]) ⟨.rfl, .rfl, (.len (by simp only [Sh.put_len])), .rfl, .rfl, .rfl, .rfl, .rfl, trivial⟩))
                · replace h3 := Sh.ite_f b66 h3
                  exact AW.skip (M55 (Sh.put l44 q59.1 (Sh.w (c63 - 1))) l45 (Sh.some_eq h3).symm _ (Wk.to (L := [(0, (.sl (List.map eCell p0))), (4, (.own 0 0 (List.length l8))), (11, (.own 1 0 (List.length (Sh.put l44 q59.1 (Sh.w (c63 - 1)))))), (12, (.own 2 0 (List.length l45))), (13, (i64 many27)), (125, (.sl (List.map eI c39.fields))), (126, (i64 (Sh.len c39.fields))), (127, (i64 t43))]) ⟨.rfl, .rfl, (.len (by simp only [Sh.put_len])), .rfl, .rfl, .rfl, .rfl, .rfl, trivial⟩))
              · replace h3 := Sh.ite_f b61 h3
                exact AW.skip (M55 l44 l45 (Sh.some_eq h3).symm _ (Wk.to (L := [(0, (.sl (List.map eCell p0))), (4, (.own 0 0 (List.length l8))), (11, (.own 1 0 (List.length l44))), (12, (.own 2 0 (List.length l45))), (13, (i64 many27)), (125, (.sl (List.map eI c39.fields))), (126, (i64 (Sh.len c39.fields))), (127, (i64 t43))]) ⟨.rfl, .rfl, .rfl, .rfl, .rfl, .rfl, .rfl, .rfl, trivial⟩))
            · replace h2 := Sh.ite_f b51 h2
              exact AW.exit (M48 l44 l45 (Sh.some_eq h2).symm _ (Wk.to (L := [(0, (.sl (List.map eCell p0))), (4, (.own 0 0 (List.length l8))), (11, (.own 1 0 (List.length l44))), (12, (.own 2 0 (List.length l45))), (13, (i64 many27))]) ⟨.rfl, .rfl, .rfl, .rfl, .rfl, trivial⟩))
          · replace h1 := Sh.ite_f b35 h1
            exact AW.exit (M31 many27 (Sh.some_eq h1).symm _ (by refine Wk.trans (Wk.permk (L := [(0, (.sl (List.map eCell p0))), (4, (.own 0 0 (List.length l8))), (13, (i64 many27))]) (st' := [⟨0, 3, 1, List.map eI l8⟩]) (st1 := [⟨0, 3, 1, List.map eI l8⟩]) [0] rfl .nil (by decide) rfl rfl (.pure (pure_map fun _ => rfl) .nil) ⟨.rfl, .rfl, .rfl, trivial⟩) ?_; exact Wk.to (L := [(0, (.sl (List.map eCell p0))), (4, (.own 0 0 (List.length l8))), (13, (i64 many27))]) ⟨.rfl, .rfl, .rfl, trivial⟩))
        refine AW.block (AW.loopF (σ := Int × (List Int)) (fun n v => impl_checkedHeap_L2 l8 p0 n v.1 v.2 = some o25) (fun (t22, l23) => ⟨159, envL [(0, (.sl (List.map eCell p0))), (4, (.own 0 0 (List.length l8))), (11, (.own 1 0 (List.length q17))), (12, (.own 2 0 (List.length l23))), (13, (i64 0)), (71, (.sl (List.map eCell p0))), (72, (i64 (Sh.len p0))), (73, (i64 t22))], [⟨0, 3, 1, List.map eI l8⟩, ⟨0, 3, 1, List.map eI q17⟩, ⟨0, 3, 1, List.map eI l23⟩]⟩) N (0, []) h1 (by refine Wk.trans ((Wk.adopt (t := 12) rfl 3 (size := 1) (by decide)).trans (Wk.to (L := [(0, (.sl (List.map eCell p0))), (4, (.own 0 0 (List.length l8))), (11, (.own 1 0 (List.length q17))), (12, (.own 2 0 (List.length ([] : List Int)))), (13, (i64 0)), (71, (.sl (List.map eCell p0))), (72, (i64 (Sh.len p0))), (73, (i64 0))]) ⟨.rfl, .rfl, .rfl, .rfl, .rfl, .rfl, .rfl, .rfl, trivial⟩)) ?_; exact Wk.to (L := [(0, (.sl (List.map eCell p0))), (4, (.own 0 0 (List.length l8))), (11, (.own 1 0 (List.length q17))), (12, (.own 2 0 (List.length ([] : List Int)))), (13, (i64 0)), (71, (.sl (List.map eCell p0))), (72, (i64 (Sh.len p0))), (73, (i64 0))]) ⟨.rfl, .rfl, .rfl, .rfl, .rfl, .rfl, .rfl, .rfl, trivial⟩) (fun _ hv => by rw [impl_checkedHeap_L2] at hv; cases hv) ?_)
        rintro n ⟨t22, l23⟩ h1
        try dsimp only at h1 ⊢
        rw [impl_checkedHeap_L2] at h1
        refine AW.seq fun K68 hK68 => ?_
        refine AW.regionO (by rfl) ?_
        refine ao_q (v := (.bool (decide (t22 < (Sh.len p0))))) go0 rfl (aq_lt rfl rfl) ?_
        refine AO.done (hK68 _ ?_)
        refine AW.seq fun K69 hK69 => ?_
        refine AW.cond' (b := decide (t22 < (Sh.len p0))) rfl (fun b70 => ?_) (fun b70 => ?_)
        · replace h1 := Sh.ite_t b70 h1
          refine AW.skip (hK69 _ ?_)
          refine AW.seq fun K71 hK71 => ?_
          obtain ⟨o73, h2, h1⟩ := Sh.cont_some h1
          have M73 : ∀ (l72 : (List Int)), o73 = Sum.inr l72 → ∀ s, Wk 0 s ⟨159, envL [(0, (.sl (List.map eCell p0))), (4, (.own 0 0 (List.length l8))), (11, (.own 1 0 (List.length q17))), (12, (.own 2 0 (List.length l72))), (13, (i64 0)), (71, (.sl (List.map eCell p0))), (72, (i64 (Sh.len p0))), (73, (i64 t22))], [⟨0, 3, 1, List.map eI l8⟩, ⟨0, 3, 1, List.map eI q17⟩, ⟨0, 3, 1, List.map eI l72⟩]⟩ → K71 s := by
            intro l72 hq s hw
            subst o73
            try dsimp only at h1
            refine hK71 _ (AW.weaken hw ?_)
            refine AW.regionO (by rfl) ?_
            refine ao_q (v := (i64 (Sh.w (t22 + 1)))) go0 rfl (aq_add rfl rfl) ?_
            refine ao_q (v := (i64 (Sh.w (t22 + 1)))) go0 rfl (aq_mv rfl) ?_
            exact AO.done (Exists.intro (Sh.w (t22 + 1), l72) (And.intro h1 (Wk.to (L := [(0, (.sl (List.map eCell p0))), (4, (.own 0 0 (List.length l8))), (11, (.own 1 0 (List.length q17))), (12, (.own 2 0 (List.length l72))), (13, (i64 0)), (71, (.sl (List.map eCell p0))), (72, (i64 (Sh.len p0))), (73, (i64 (Sh.w (t22 + 1))))]) ⟨.rfl, .rfl, .rfl, .rfl, .rfl, .rfl, .rfl, .rfl, trivial⟩)))
          refine AW.block ?_
          refine AW.seq fun K74 hK74 => ?_
          refine AW.regionO (by rfl) ?_
          refine ao_q (v := (i64 t22)) go0 rfl (aq_mv rfl) ?_
          obtain ⟨c75, gc75, h2⟩ := Sh.bind_some h2
          refine ao_q (v := (.iptr (eCell c75) 0)) go0 rfl (aq_ixs ei25 rfl rfl gc75 rfl) ?_
          refine ao_q (v := (.agg [(i64 c75.count), (i64 c75.tag), (.sl (List.map eI c75.fields))])) go0 rfl (aq_ldia ti41 rfl (show 0 + 3 ≤ 3 by decide) rfl) ?_
          refine ao_alloc (m := 3) (st' := [⟨0, 3, 1, List.map eI l8⟩, ⟨0, 3, 1, List.map eI q17⟩, ⟨0, 3, 1, List.map eI l23⟩, ⟨0, 41, 3, [[(i64 0), (i64 0), .zc]]⟩]) go0 zi41 rfl rfl ?_
          refine ao_q (v := (i64 t22)) go0 rfl (aq_as rfl) ?_
          refine ao_str (st' := [⟨0, 3, 1, List.map eI l8⟩, ⟨0, 3, 1, List.map eI q17⟩, ⟨0, 3, 1, List.map eI l23⟩, ⟨0, 41, 3, [[(i64 c75.count), (i64 c75.tag), (.sl (List.map eI c75.fields))]]⟩]) go0 ti41 rfl rfl rfl rfl rfl rfl (show 0 + 3 ≤ 3 by decide) rfl ?_
          refine AO.done (hK74 _ ?_)
          refine AW.seq fun K76 hK76 => ?_
          refine AW.seq fun K77 hK77 => ?_
          obtain ⟨o79, h3, h2⟩ := Sh.bind_some h2
          have M79 : ∀ (t78 : Bool), o79 = t78 → ∀ s, Wk 0 s ⟨159, envL [(0, (.sl (List.map eCell p0))), (4, (.own 0 0 (List.length l8))), (11, (.own 1 0 (List.length q17))), (12, (.own 2 0 (List.length l23))), (13, (i64 0)), (14, (i64 t22)), (71, (.sl (List.map eCell p0))), (72, (i64 (Sh.len p0))), (73, (i64 t22)), (94, (.bool t78))], [⟨0, 3, 1, List.map eI l8⟩, ⟨0, 3, 1, List.map eI q17⟩, ⟨0, 3, 1, List.map eI l23⟩]⟩ → K77 s := by
            intro t78 hq s hw
            subst o79
            try dsimp only at h2
            refine hK77 _ (AW.weaken hw ?_)
            refine AW.cond' (b := t78) rfl (fun b80 => ?_) (fun b80 => ?_)
            · replace h2 := Sh.ite_t b80 h2
              refine AW.seq fun K81 hK81 => ?_
              refine AW.regionO (by rfl) ?_
              refine ao_q (v := .zc) go0 rfl (aq_as rfl) ?_
              refine ao_q (v := (.bool false)) go0 rfl (aq_as rfl) ?_
              refine AO.done (hK81 _ ?_)
              replace h2 := Sh.some_eq h2
              subst o73
              try dsimp only [id] at h1
              replace h1 := Sh.some_eq h1
              subst o25
              try dsimp only [id] at h0
              replace h0 := Sh.some_eq h0
              subst r
              exact AW.ret (Exists.intro _ (And.intro ((((Wk.adopt (t := 2) rfl 3 (size := 1) (by decide)).trans (Wk.to (L := [(2, (.own 3 0 (List.length ([] : List Int)))), (3, (.bool false))]) ⟨.rfl, .rfl, trivial⟩)).trans (Wk.permk (L := [(2, (.own 0 0 (List.length ([] : List Int)))), (3, (.bool false))]) (st' := [⟨0, 3, 1, List.map eI ([] : List Int)⟩]) (st1 := [⟨0, 3, 1, List.map eI ([] : List Int)⟩]) [3] rfl .nil (by decide) rfl rfl (.pure (pure_map fun _ => rfl) .nil) ⟨.rfl, .rfl, trivial⟩)).trans (Wk.to (L := [(2, (.own 0 0 (List.length ([] : List Int)))), (3, (.bool false))]) ⟨.rfl, .rfl, trivial⟩)) (And.intro rfl rfl)))
            · replace h2 := Sh.ite_f b80 h2
              refine AW.skip (hK76 _ ?_)
              refine AW.seq fun K82 hK82 => ?_
              refine AW.regionO (by rfl) ?_
              refine ao_q (v := (.own 0 0 (List.length l8))) go0 rfl (aq_mv rfl) ?_
              refine ao_q (v := (i64 t22)) go0 rfl (aq_mv rfl) ?_
              obtain ⟨c83, gc83, h2⟩ := Sh.bind_some h2
              refine ao_q (v := (.ptr 0 0 (Int.toNat t22) 0)) go0 rfl (aq_ixo ei32 rfl rfl rfl rfl gc83) ?_
              refine ao_q (v := (i64 c83)) go0 rfl (aq_ldp ti3 rfl rfl (map_get gc83) rfl) ?_
              refine ao_q (v := (.bool (decide (c83 = 0)))) go0 rfl (aq_eq rfl rfl) ?_
              refine AO.done (hK82 _ ?_)
              refine AW.cond' (b := decide (c83 = 0)) rfl (fun b84 => ?_) (fun b84 => ?_)
              · replace h2 := Sh.ite_t b84 h2
                refine AW.regionO (by rfl) ?_
                refine ao_q (v := (.own 2 0 (List.length l23))) go0 rfl (aq_mv rfl) ?_
                refine ao_q (v := (i64 t22)) go0 rfl (aq_mv rfl) ?_
                refine ao_bs (m := 3) (st' := [⟨0, 3, 1, List.map eI l8⟩, ⟨0, 3, 1, List.map eI q17⟩, ⟨0, 3, 1, List.map eI l23⟩, ⟨0, 3, 1, List.map eI [t22]⟩]) (l := [t22]) (enc := eI) go0 ei32 (by decide) rfl rfl rfl rfl rfl rfl ?_
                obtain ⟨l85, gl85, h2⟩ := Sh.bind_some h2
                refine ao_apo (st' := [⟨0, 3, 1, List.map eI l8⟩, ⟨0, 3, 1, List.map eI q17⟩, ⟨1, 3, 1, List.map eI l85⟩, ⟨0, 3, 1, List.map eI [t22]⟩]) (l2 := [t22]) go0 ei32 rfl rfl rfl rfl (el_o rfl rfl) (fun _ => rfl) gl85 rfl ?_
                refine ao_q (v := (.own 2 1 (List.length l85))) go0 rfl (aq_as rfl) ?_
                exact AO.done (M73 l85 (Sh.some_eq h2).symm _ (by refine Wk.trans (Wk.rg (L := [(0, (.sl (List.map eCell p0))), (4, (.own 0 0 (List.length l8))), (11, (.own 1 0 (List.length q17))), (12, (.own 2 0 (List.length l85))), (13, (i64 0)), (71, (.sl (List.map eCell p0))), (72, (i64 (Sh.len p0))), (73, (i64 t22))]) (st' := [⟨0, 3, 1, List.map eI l8⟩, ⟨0, 3, 1, List.map eI q17⟩, ⟨0, 3, 1, List.map eI l85⟩, ⟨0, 3, 1, List.map eI [t22]⟩]) (.pure (pure_map fun _ => rfl) (.pure (pure_map fun _ => rfl) (.pure (pure_map fun _ => rfl) (.pure (pure_map fun _ => rfl) .nil)))) ⟨.rfl, .rfl, .rfl, .rfl, .rfl, .rfl, .rfl, .rfl, trivial⟩) ?_; refine Wk.trans (Wk.permk (L := [(0, (.sl (List.map eCell p0))), (4, (.own 0 0 (List.length l8))), (11, (.own 1 0 (List.length q17))), (12, (.own 2 0 (List.length l85))), (13, (i64 0)), (71, (.sl (List.map eCell p0))), (72, (i64 (Sh.len p0))), (73, (i64 t22))]) (st' := [⟨0, 3, 1, List.map eI l8⟩, ⟨0, 3, 1, List.map eI q17⟩, ⟨0, 3, 1, List.map eI l85⟩]) (st1 := [⟨0, 3, 1, List.map eI l8⟩, ⟨0, 3, 1, List.map eI q17⟩, ⟨0, 3, 1, List.map eI l85⟩]) [0, 1, 2] rfl .nil (by decide) rfl rfl (.pure (pure_map fun _ => rfl) (.pure (pure_map fun _ => rfl) (.pure (pure_map fun _ => rfl) .nil))) ⟨.rfl, .rfl, .rfl, .rfl, .rfl, .rfl, .rfl, .rfl, trivial⟩) ?_; exact Wk.to (L := [(0, (.sl (List.map eCell p0))), (4, (.own 0 0 (List.length l8))), (11, (.own 1 0 (List.length q17))), (12, (.own 2 0 (List.length l85))), (13, (i64 0)), (71, (.sl (List.map eCell p0))), (72, (i64 (Sh.len p0))), (73, (i64 t22))]) ⟨.rfl, .rfl, .rfl, .rfl, .rfl, .rfl, .rfl, .rfl, trivial⟩))
              · replace h2 := Sh.ite_f b84 h2
                exact AW.skip (M73 l23 (Sh.some_eq h2).symm _ (Wk.to (L := [(0, (.sl (List.map eCell p0))), (4, (.own 0 0 (List.length l8))), (11, (.own 1 0 (List.length q17))), (12, (.own 2 0 (List.length l23))), (13, (i64 0)), (71, (.sl (List.map eCell p0))), (72, (i64 (Sh.len p0))), (73, (i64 t22))]) ⟨.rfl, .rfl, .rfl, .rfl, .rfl, .rfl, .rfl, .rfl, trivial⟩))
          refine AW.draw (by kernel_rfl) (by kernel_rfl) (by rfl) ?_
          refine d_q (v := (.ptr 3 0 0 0)) go0 rfl (aq_fap fi41_0 rfl rfl (show 0 + 0 ≤ 3 by decide) rfl) ?_
          refine d_q (v := (i64 c75.count)) go0 rfl (aq_ldp ti3 rfl rfl rfl rfl) ?_
          refine d_q (v := (.bool (decide (0 < c75.count)))) go0 rfl (aq_gt rfl rfl) ?_
          refine d_q (v := (.bool (decide (0 < c75.count)))) go0 rfl (aq_mv rfl) ?_
          rcases Sh.ite_some h3 with ⟨b86, h3⟩ | ⟨b86, h3⟩
          · skip
            refine d_q (v := (.ptr 3 0 0 0)) (go1 rfl rfl b86) rfl (aq_fap fi41_0 rfl rfl (show 0 + 0 ≤ 3 by decide) rfl) ?_
            refine d_q (v := (i64 c75.count)) (go1 rfl rfl b86) rfl (aq_ldp ti3 rfl rfl rfl rfl) ?_
            refine d_q (v := (.own 0 0 (List.length l8))) (go1 rfl rfl b86) rfl (aq_mv rfl) ?_
            refine d_q (v := (i64 t22)) (go1 rfl rfl b86) rfl (aq_mv rfl) ?_
            obtain ⟨c87, gc87, h3⟩ := Sh.bind_some h3
            refine d_q (v := (.ptr 0 0 (Int.toNat t22) 0)) (go1 rfl rfl b86) rfl (aq_ixo ei32 rfl rfl rfl rfl gc87) ?_
            refine d_q (v := (i64 c87)) (go1 rfl rfl b86) rfl (aq_ldp ti3 rfl rfl (map_get gc87) rfl) ?_
            refine d_q (v := (.bool (decide (c75.count < c87)))) (go1 rfl rfl b86) rfl (aq_lt rfl rfl) ?_
            refine d_q (v := (.bool (decide (c75.count < c87)))) (go1 rfl rfl b86) rfl (aq_mv rfl) ?_
            rcases Sh.ite_some h3 with ⟨b88, h3⟩ | ⟨b88, h3⟩
            · skip
              refine d_skip rfl rfl b88 ?_
              refine d_skip rfl rfl b88 ?_
              refine d_skip rfl rfl b88 ?_
              refine d_q (v := (.bool true)) (go1 rfl rfl b86) rfl (aq_pkt rfl b88 rfl) ?_
              refine d_q (v := (.bool true)) go0 rfl (aq_pkt rfl b86 rfl) ?_
              exact d_done (M79 true (Sh.some_eq h3).symm _ (by refine Wk.trans (Wk.permk (L := [(0, (.sl (List.map eCell p0))), (4, (.own 0 0 (List.length l8))), (11, (.own 1 0 (List.length q17))), (12, (.own 2 0 (List.length l23))), (13, (i64 0)), (14, (i64 t22)), (71, (.sl (List.map eCell p0))), (72, (i64 (Sh.len p0))), (73, (i64 t22)), (94, (.bool true))]) (st' := [⟨0, 3, 1, List.map eI l8⟩, ⟨0, 3, 1, List.map eI q17⟩, ⟨0, 3, 1, List.map eI l23⟩]) (st1 := [⟨0, 3, 1, List.map eI l8⟩, ⟨0, 3, 1, List.map eI q17⟩, ⟨0, 3, 1, List.map eI l23⟩]) [0, 1, 2] rfl .nil (by decide) rfl rfl (.pure (pure_map fun _ => rfl) (.pure (pure_map fun _ => rfl) (.pure (pure_map fun _ => rfl) .nil))) ⟨.rfl, .rfl, .rfl, .rfl, .rfl, .rfl, .rfl, .rfl, .rfl, .rfl, trivial⟩) ?_; exact Wk.to (L := [(0, (.sl (List.map eCell p0))), (4, (.own 0 0 (List.length l8))), (11, (.own 1 0 (List.length q17))), (12, (.own 2 0 (List.length l23))), (13, (i64 0)), (14, (i64 t22)), (71, (.sl (List.map eCell p0))), (72, (i64 (Sh.len p0))), (73, (i64 t22)), (94, (.bool true))]) ⟨.rfl, .rfl, .rfl, .rfl, .rfl, .rfl, .rfl, .rfl, .rfl, .rfl, trivial⟩))
            · skip
              refine d_q (v := (.ptr 3 0 0 0)) (go1 rfl rfl b88) rfl (aq_fap fi41_0 rfl rfl (show 0 + 0 ≤ 3 by decide) rfl) ?_
              refine d_q (v := (i64 c75.count)) (go1 rfl rfl b88) rfl (aq_ldp ti3 rfl rfl rfl rfl) ?_
              refine d_q (v := (.bool (decide (999999 < c75.count)))) (go1 rfl rfl b88) rfl (aq_gt rfl rfl) ?_
              refine d_q (v := (.bool (decide (999999 < c75.count)))) (go1 rfl rfl b86) rfl (aq_pkf rfl b88 rfl) ?_
              refine d_q (v := (.bool (decide (999999 < c75.count)))) go0 rfl (aq_pkt rfl b86 rfl) ?_
              exact d_done (M79 (decide (999999 < c75.count)) (Sh.some_eq h3).symm _ (by refine Wk.trans (Wk.permk (L := [(0, (.sl (List.map eCell p0))), (4, (.own 0 0 (List.length l8))), (11, (.own 1 0 (List.length q17))), (12, (.own 2 0 (List.length l23))), (13, (i64 0)), (14, (i64 t22)), (71, (.sl (List.map eCell p0))), (72, (i64 (Sh.len p0))), (73, (i64 t22)), (94, (.bool (decide (999999 < c75.count))))]) (st' := [⟨0, 3, 1, List.map eI l8⟩, ⟨0, 3, 1, List.map eI q17⟩, ⟨0, 3, 1, List.map eI l23⟩]) (st1 := [⟨0, 3, 1, List.map eI l8⟩, ⟨0, 3, 1, List.map eI q17⟩, ⟨0, 3, 1, List.map eI l23⟩]) [0, 1, 2] rfl .nil (by decide) rfl rfl (.pure (pure_map fun _ => rfl) (.pure (pure_map fun _ => rfl) (.pure (pure_map fun _ => rfl) .nil))) ⟨.rfl, .rfl, .rfl, .rfl, .rfl, .rfl, .rfl, .rfl, .rfl, .rfl, trivial⟩) ?_; exact Wk.to (L := [(0, (.sl (List.map eCell p0))), (4, (.own 0 0 (List.length l8))), (11, (.own 1 0 (List.length q17))), (12, (.own 2 0 (List.length l23))), (13, (i64 0)), (14, (i64 t22)), (71, (.sl (List.map eCell p0))), (72, (i64 (Sh.len p0))), (73, (i64 t22)), (94, (.bool (decide (999999 < c75.count))))]) ⟨.rfl, .rfl, .rfl, .rfl, .rfl, .rfl, .rfl, .rfl, .rfl, .rfl, trivial⟩))
          · skip
            refine d_skip rfl rfl b86 ?_
            refine d_skip rfl rfl b86 ?_
            refine d_skip rfl rfl b86 ?_
            refine d_skip rfl rfl b86 ?_
            refine d_skip rfl rfl b86 ?_
            refine d_skip rfl rfl b86 ?_
            refine d_skip rfl rfl b86 ?_
            refine d_skip rfl rfl b86 ?_
            refine d_none rfl rfl ?_
            refine d_none rfl rfl ?_
            refine d_none rfl rfl ?_
            refine d_skip rfl rfl b86 ?_
            refine d_q (v := (.bool false)) go0 rfl (aq_pkf rfl b86 rfl) ?_
            exact d_done (M79 false (Sh.some_eq h3).symm _ (by refine Wk.trans (Wk.permk (L := [(0, (.sl (List.map eCell p0))), (4, (.own 0 0 (List.length l8))), (11, (.own 1 0 (List.length q17))), (12, (.own 2 0 (List.length l23))), (13, (i64 0)), (14, (i64 t22)), (71, (.sl (List.map eCell p0))), (72, (i64 (Sh.len p0))), (73, (i64 t22)), (94, (.bool false))]) (st' := [⟨0, 3, 1, List.map eI l8⟩, ⟨0, 3, 1, List.map eI q17⟩, ⟨0, 3, 1, List.map eI l23⟩]) (st1 := [⟨0, 3, 1, List.map eI l8⟩, ⟨0, 3, 1, List.map eI q17⟩, ⟨0, 3, 1, List.map eI l23⟩]) [0, 1, 2] rfl .nil (by decide) rfl rfl (.pure (pure_map fun _ => rfl) (.pure (pure_map fun _ => rfl) (.pure (pure_map fun _ => rfl) .nil))) ⟨.rfl, .rfl, .rfl, .rfl, .rfl, .rfl, .rfl, .rfl, .rfl, .rfl, trivial⟩) ?_; exact Wk.to (L := [(0, (.sl (List.map eCell p0))), (4, (.own 0 0 (List.length l8))), (11, (.own 1 0 (List.length q17))), (12, (.own 2 0 (List.length l23))), (13, (i64 0)), (14, (i64 t22)), (71, (.sl (List.map eCell p0))), (72, (i64 (Sh.len p0))), (73, (i64 t22)), (94, (.bool false))]) ⟨.rfl, .rfl, .rfl, .rfl, .rfl, .rfl, .rfl, .rfl, .rfl, .rfl, trivial⟩))
        · replace h1 := Sh.ite_f b70 h1
          exact AW.exit (M25 l23 (Sh.some_eq h1).symm _ (Wk.to (L := [(0, (.sl (List.map eCell p0))), (4, (.own 0 0 (List.length l8))), (11, (.own 1 0 (List.length q17))), (12, (.own 2 0 (List.length l23))), (13, (i64 0))]) ⟨.rfl, .rfl, .rfl, .rfl, .rfl, trivial⟩))
    refine AW.regionO (by rfl) ?_
    refine ao_q (v := (.sl (List.map eCell p0))) go0 rfl (aq_mv rfl) ?_
    refine ao_q (v := (i64 (Sh.len p0))) go0 rfl (aq_lens sl25 rfl) ?_
    refine ao_q (v := (.bool (decide (0 < (Sh.len p0))))) go0 rfl (aq_gt rfl rfl) ?_
    refine ao_q (v := (.bool (decide (0 < (Sh.len p0))))) go0 rfl (aq_mv rfl) ?_
    rcases Sh.ite_some h1 with ⟨b89, h1⟩ | ⟨b89, h1⟩
    · skip
      refine ao_q (v := (.sl (List.map eCell p0))) (go1 rfl rfl b89) rfl (aq_mv rfl) ?_
      refine ao_q (v := (.sl (List.map eCell p0))) (go1 rfl rfl b89) rfl (aq_mv rfl) ?_
      refine ao_q (v := (i64 (Sh.len p0))) (go1 rfl rfl b89) rfl (aq_lens sl25 rfl) ?_
      refine ao_q (v := (i64 (Sh.w ((Sh.len p0) - 1)))) (go1 rfl rfl b89) rfl (aq_sub rfl rfl) ?_
      obtain ⟨c90, gc90, h1⟩ := Sh.bind_some h1
      refine ao_q (v := (.iptr (eCell c90) 0)) (go1 rfl rfl b89) rfl (aq_ixs ei25 rfl rfl gc90 rfl) ?_
      refine ao_q (v := (.iptr (eCell c90) 0)) (go1 rfl rfl b89) rfl (aq_fai fi41_0 rfl rfl) ?_
      refine ao_q (v := (i64 c90.count)) (go1 rfl rfl b89) rfl (aq_ldi ti3 rfl rfl) ?_
      refine ao_q (v := (.bool (decide (c90.count = 0)))) (go1 rfl rfl b89) rfl (aq_eq rfl rfl) ?_
      refine ao_q (v := (.bool (decide (c90.count = 0)))) go0 rfl (aq_pkt rfl b89 rfl) ?_
      exact AO.done (M13 (decide (c90.count = 0)) (Sh.some_eq h1).symm _ (Wk.to (L := [(0, (.sl (List.map eCell p0))), (4, (.own 0 0 (List.length l8))), (68, (.bool (decide (c90.count = 0))))]) ⟨.rfl, .rfl, .rfl, trivial⟩))
    · skip
      refine ao_skip rfl rfl b89 ?_
      refine ao_skip rfl rfl b89 ?_
      refine ao_skip rfl rfl b89 ?_
      refine ao_skip rfl rfl b89 ?_
      refine ao_skip rfl rfl b89 ?_
      refine ao_skip rfl rfl b89 ?_
      refine ao_skip rfl rfl b89 ?_
      refine ao_skip rfl rfl b89 ?_
      refine ao_q (v := (.bool false)) go0 rfl (aq_pkf rfl b89 rfl) ?_
      exact AO.done (M13 false (Sh.some_eq h1).symm _ (Wk.to (L := [(0, (.sl (List.map eCell p0))), (4, (.own 0 0 (List.length l8))), (68, (.bool false))]) ⟨.rfl, .rfl, .rfl, trivial⟩))
  refine AW.block (AW.loopF (σ := Int × (List Int)) (fun n v => impl_checkedHeap_L1 N p0 n v.1 v.2 = some o9) (fun (t6, l7) => ⟨159, envL [(0, (.sl (List.map eCell p0))), (4, (.own 0 0 (List.length l7))), (24, (.sl (List.map eCell p0))), (25, (i64 (Sh.len p0))), (26, (i64 t6))], [⟨0, 3, 1, List.map eI l7⟩]⟩) N (0, l3) h1 (Wk.to (L := [(0, (.sl (List.map eCell p0))), (4, (.own 0 0 (List.length l3))), (24, (.sl (List.map eCell p0))), (25, (i64 (Sh.len p0))), (26, (i64 0))]) ⟨.rfl, .rfl, .rfl, .rfl, .rfl, trivial⟩) (fun _ hv => by rw [impl_checkedHeap_L1] at hv; cases hv) ?_)
  rintro n ⟨t6, l7⟩ h1
  try dsimp only at h1 ⊢
  rw [impl_checkedHeap_L1] at h1
  refine AW.seq fun K91 hK91 => ?_
  refine AW.regionO (by rfl) ?_
  refine ao_q (v := (.bool (decide (t6 < (Sh.len p0))))) go0 rfl (aq_lt rfl rfl) ?_
  refine AO.done (hK91 _ ?_)
  refine AW.seq fun K92 hK92 => ?_
  refine AW.cond' (b := decide (t6 < (Sh.len p0))) rfl (fun b93 => ?_) (fun b93 => ?_)
  · replace h1 := Sh.ite_t b93 h1
    refine AW.skip (hK92 _ ?_)
    refine AW.seq fun K94 hK94 => ?_
    refine AW.block ?_
    refine AW.seq fun K95 hK95 => ?_
    refine AW.regionO (by rfl) ?_
    obtain ⟨c96, gc96, h1⟩ := Sh.bind_some h1
    refine ao_q (v := (.iptr (eCell c96) 0)) go0 rfl (aq_ixs ei25 rfl rfl gc96 rfl) ?_
    refine ao_q (v := (.agg [(i64 c96.count), (i64 c96.tag), (.sl (List.map eI c96.fields))])) go0 rfl (aq_ldia ti41 rfl (show 0 + 3 ≤ 3 by decide) rfl) ?_
    refine ao_alloc (m := 1) (st' := [⟨0, 3, 1, List.map eI l7⟩, ⟨0, 41, 3, [[(i64 0), (i64 0), .zc]]⟩]) go0 zi41 rfl rfl ?_
    refine ao_str (st' := [⟨0, 3, 1, List.map eI l7⟩, ⟨0, 41, 3, [[(i64 c96.count), (i64 c96.tag), (.sl (List.map eI c96.fields))]]⟩]) go0 ti41 rfl rfl rfl rfl rfl rfl (show 0 + 3 ≤ 3 by decide) rfl ?_
    refine AO.done (hK95 _ ?_)
    refine AW.seq fun K97 hK97 => ?_
    refine AW.seq fun K98 hK98 => ?_
    refine AW.regionO (by rfl) ?_
    refine ao_q (v := (.sl (List.map eCell p0))) go0 rfl (aq_mv rfl) ?_
    refine ao_q (v := (.agg [(i64 c96.count), (i64 c96.tag), (.sl (List.map eI c96.fields))])) go0 rfl (aq_ldpa ti41 rfl rfl rfl (show 0 + 3 ≤ 3 by decide) rfl) ?_
    obtain ⟨q99, gq99, h1⟩ := Sh.bind_some h1
    refine ao_call (v' := (.bool q99)) (st' := [⟨0, 3, 1, List.map eI l7⟩, ⟨0, 41, 3, [[(i64 c96.count), (i64 c96.tag), (.sl (List.map eI c96.fields))]]⟩]) go0 hb91 (impl_cellValid_ok gq99) rfl rfl trivial rfl rfl ?_
    refine ao_q (v := (.bool (!q99))) go0 rfl (aq_not rfl) ?_
    refine AO.done (hK98 _ ?_)
    refine AW.cond' (b := !q99) rfl (fun b100 => ?_) (fun b100 => ?_)
    · replace h1 := Sh.ite_t b100 h1
      have b101 : q99 = false := by simpa using b100
      refine AW.seq fun K102 hK102 => ?_
      refine AW.regionO (by rfl) ?_
      refine ao_q (v := .zc) go0 rfl (aq_as rfl) ?_
      refine ao_q (v := (.bool false)) go0 rfl (aq_as rfl) ?_
      refine AO.done (hK102 _ ?_)
      replace h1 := Sh.some_eq h1
      subst o9
      try dsimp only [id] at h0
      replace h0 := Sh.some_eq h0
      subst r
      exact AW.ret (Exists.intro _ (And.intro ((((Wk.adopt (t := 2) rfl 3 (size := 1) (by decide)).trans (Wk.to (L := [(2, (.own 2 0 (List.length ([] : List Int)))), (3, (.bool false))]) ⟨.rfl, .rfl, trivial⟩)).trans (Wk.permk (L := [(2, (.own 0 0 (List.length ([] : List Int)))), (3, (.bool false))]) (st' := [⟨0, 3, 1, List.map eI ([] : List Int)⟩]) (st1 := [⟨0, 3, 1, List.map eI ([] : List Int)⟩]) [2] rfl .nil (by decide) rfl rfl (.pure (pure_map fun _ => rfl) .nil) ⟨.rfl, .rfl, trivial⟩)).trans (Wk.to (L := [(2, (.own 0 0 (List.length ([] : List Int)))), (3, (.bool false))]) ⟨.rfl, .rfl, trivial⟩)) (And.intro rfl rfl)))
    · replace h1 := Sh.ite_f b100 h1
      have b103 : q99 = true := by simpa using b100
      refine AW.skip (hK97 _ ?_)
      refine AW.seq fun K104 hK104 => ?_
      refine AW.regionO (by rfl) ?_
      refine ao_q (v := (.ptr 1 0 0 2)) go0 rfl (aq_fap fi41_2 rfl rfl (show 0 + 2 ≤ 3 by decide) rfl) ?_
      refine ao_q (v := (.sl (List.map eI c96.fields))) go0 rfl (aq_ldp ti32 rfl rfl rfl rfl) ?_
      refine ao_q (v := (i64 (Sh.len c96.fields))) go0 rfl (aq_lens sl32 rfl) ?_
      refine ao_q (v := (i64 0)) go0 rfl (aq_mv rfl) ?_
      refine AO.done (hK104 _ ?_)
      obtain ⟨o108, h2, h1⟩ := Sh.bind_some h1
      have M108 : ∀ (l107 : (List Int)), o108 = l107 → ∀ s, Wk 0 s ⟨159, envL [(0, (.sl (List.map eCell p0))), (4, (.own 0 0 (List.length l107))), (24, (.sl (List.map eCell p0))), (25, (i64 (Sh.len p0))), (26, (i64 t6))], [⟨0, 3, 1, List.map eI l107⟩]⟩ → K94 s := by
        intro l107 hq s hw
        subst o108
        try dsimp only at h1
        refine hK94 _ (AW.weaken hw ?_)
        refine AW.regionO (by rfl) ?_
        refine ao_q (v := (i64 (Sh.w (t6 + 1)))) go0 rfl (aq_add rfl rfl) ?_
        refine ao_q (v := (i64 (Sh.w (t6 + 1)))) go0 rfl (aq_mv rfl) ?_
        exact AO.done (Exists.intro (Sh.w (t6 + 1), l107) (And.intro h1 (Wk.to (L := [(0, (.sl (List.map eCell p0))), (4, (.own 0 0 (List.length l107))), (24, (.sl (List.map eCell p0))), (25, (i64 (Sh.len p0))), (26, (i64 (Sh.w (t6 + 1))))]) ⟨.rfl, .rfl, .rfl, .rfl, .rfl, trivial⟩)))
      refine AW.block (AW.loopF (σ := Int × (List Int)) (fun n v => impl_checkedHeap_L5 c96 p0 n v.1 v.2 = some o108) (fun (t105, l106) => ⟨159, envL [(0, (.sl (List.map eCell p0))), (4, (.own 0 0 (List.length l106))), (24, (.sl (List.map eCell p0))), (25, (i64 (Sh.len p0))), (26, (i64 t6)), (35, (.sl (List.map eI c96.fields))), (36, (i64 (Sh.len c96.fields))), (37, (i64 t105))], [⟨0, 3, 1, List.map eI l106⟩]⟩) N (0, l7) h2 (by refine Wk.trans (Wk.permk (L := [(0, (.sl (List.map eCell p0))), (4, (.own 0 0 (List.length l7))), (24, (.sl (List.map eCell p0))), (25, (i64 (Sh.len p0))), (26, (i64 t6)), (35, (.sl (List.map eI c96.fields))), (36, (i64 (Sh.len c96.fields))), (37, (i64 0))]) (st' := [⟨0, 3, 1, List.map eI l7⟩]) (st1 := [⟨0, 3, 1, List.map eI l7⟩]) [0] rfl .nil (by decide) rfl rfl (.pure (pure_map fun _ => rfl) .nil) ⟨.rfl, .rfl, .rfl, .rfl, .rfl, .rfl, .rfl, .rfl, trivial⟩) ?_; exact Wk.to (L := [(0, (.sl (List.map eCell p0))), (4, (.own 0 0 (List.length l7))), (24, (.sl (List.map eCell p0))), (25, (i64 (Sh.len p0))), (26, (i64 t6)), (35, (.sl (List.map eI c96.fields))), (36, (i64 (Sh.len c96.fields))), (37, (i64 0))]) ⟨.rfl, .rfl, .rfl, .rfl, .rfl, .rfl, .rfl, .rfl, trivial⟩) (fun _ hv => by rw [impl_checkedHeap_L5] at hv; cases hv) ?_)
      rintro n ⟨t105, l106⟩ h2
      try dsimp only at h2 ⊢
      rw [impl_checkedHeap_L5] at h2
      refine AW.seq fun K109 hK109 => ?_
      refine AW.regionO (by rfl) ?_
      refine ao_q (v := (.bool (decide (t105 < (Sh.len c96.fields))))) go0 rfl (aq_lt rfl rfl) ?_
      refine AO.done (hK109 _ ?_)
      refine AW.seq fun K110 hK110 => ?_
      refine AW.cond' (b := decide (t105 < (Sh.len c96.fields))) rfl (fun b111 => ?_) (fun b111 => ?_)
      · replace h2 := Sh.ite_t b111 h2
        refine AW.skip (hK110 _ ?_)
        refine AW.seq fun K112 hK112 => ?_
        obtain ⟨o114, h3, h2⟩ := Sh.bind_some h2
        have M114 : ∀ (l113 : (List Int)), o114 = l113 → ∀ s, Wk 0 s ⟨159, envL [(0, (.sl (List.map eCell p0))), (4, (.own 0 0 (List.length l113))), (24, (.sl (List.map eCell p0))), (25, (i64 (Sh.len p0))), (26, (i64 t6)), (35, (.sl (List.map eI c96.fields))), (36, (i64 (Sh.len c96.fields))), (37, (i64 t105))], [⟨0, 3, 1, List.map eI l113⟩]⟩ → K112 s := by
          intro l113 hq s hw
          subst o114
          try dsimp only at h2
          refine hK112 _ (AW.weaken hw ?_)
          refine AW.regionO (by rfl) ?_
          refine ao_q (v := (i64 (Sh.w (t105 + 1)))) go0 rfl (aq_add rfl rfl) ?_
          refine ao_q (v := (i64 (Sh.w (t105 + 1)))) go0 rfl (aq_mv rfl) ?_
          exact AO.done (Exists.intro (Sh.w (t105 + 1), l113) (And.intro h2 (Wk.to (L := [(0, (.sl (List.map eCell p0))), (4, (.own 0 0 (List.length l113))), (24, (.sl (List.map eCell p0))), (25, (i64 (Sh.len p0))), (26, (i64 t6)), (35, (.sl (List.map eI c96.fields))), (36, (i64 (Sh.len c96.fields))), (37, (i64 (Sh.w (t105 + 1))))]) ⟨.rfl, .rfl, .rfl, .rfl, .rfl, .rfl, .rfl, .rfl, trivial⟩)))
        refine AW.block ?_
        refine AW.seq fun K115 hK115 => ?_
        refine AW.regionO (by rfl) ?_
        obtain ⟨c116, gc116, h3⟩ := Sh.bind_some h3
        refine ao_q (v := (.iptr (eI c116) 0)) go0 rfl (aq_ixs ei32 rfl rfl gc116 rfl) ?_
        refine ao_q (v := (i64 c116)) go0 rfl (aq_ldi ti3 rfl rfl) ?_
        refine ao_q (v := (i64 c116)) go0 rfl (aq_as rfl) ?_
        refine AO.done (hK115 _ ?_)
        refine AW.seq fun K117 hK117 => ?_
        refine AW.regionO (by rfl) ?_
        refine ao_q (v := (.sl (List.map eCell p0))) go0 rfl (aq_mv rfl) ?_
        refine ao_q (v := (i64 c116)) go0 rfl (aq_mv rfl) ?_
        obtain ⟨q118, gq118, h3⟩ := Sh.bind_some h3
        refine ao_call (v' := (.tup [(i64 q118.1), (.bool q118.2)])) (st' := [⟨0, 3, 1, List.map eI l106⟩]) go0 hb71 (impl_liveAt_ok gq118) rfl rfl trivial rfl rfl ?_
        refine ao_q (v := (.tup [(i64 q118.1), (.bool q118.2)])) go0 rfl (aq_mv rfl) ?_
        refine ao_q (v := (i64 q118.1)) go0 rfl (aq_ex rfl rfl) ?_
        refine ao_q (v := (.bool q118.2)) go0 rfl (aq_ex rfl rfl) ?_
        refine ao_q (v := (i64 q118.1)) go0 rfl (aq_as rfl) ?_
        refine ao_q (v := (.bool q118.2)) go0 rfl (aq_as rfl) ?_
        refine AO.done (hK117 _ ?_)
        refine AW.seq fun K119 hK119 => ?_
        refine AW.regionO (by rfl) ?_
        refine ao_q (v := (.bool q118.2)) go0 rfl (aq_mv rfl) ?_
        refine AO.done (hK119 _ ?_)
        refine AW.cond' (b := q118.2) rfl (fun b120 => ?_) (fun b120 => ?_)
        · replace h3 := Sh.ite_t b120 h3
          refine AW.regionO (by rfl) ?_
          refine ao_q (v := (.own 0 0 (List.length l106))) go0 rfl (aq_mv rfl) ?_
          refine ao_q (v := (i64 q118.1)) go0 rfl (aq_mv rfl) ?_
          obtain ⟨c121, gc121, h3⟩ := Sh.bind_some h3
          refine ao_q (v := (.ptr 0 0 (Int.toNat q118.1) 0)) go0 rfl (aq_ixo ei32 rfl rfl rfl rfl gc121) ?_
          refine ao_q (v := (i64 c121)) go0 rfl (aq_ldp ti3 rfl rfl (map_get gc121) rfl) ?_
          refine ao_q (v := (i64 (Sh.w (c121 + 1)))) go0 rfl (aq_add rfl rfl) ?_
          refine ao_q (v := (.ptr 0 0 (Int.toNat q118.1) 0)) go0 rfl (aq_ixo ei32 rfl rfl rfl rfl gc121) ?_
          refine ao_stl (st' := [⟨0, 3, 1, List.map eI (Sh.put l106 q118.1 (Sh.w (c121 + 1)))⟩]) (u' := Sh.w (c121 + 1)) go0 ti3 rfl rfl gc121 rfl rfl rfl (show 0 + 1 ≤ 1 by decide) rfl rfl ?_
          exact AO.done (M114 (Sh.put l106 q118.1 (Sh.w (c121 + 1))) (Sh.some_eq h3).symm _ (Wk.to (L := [(0, (.sl (List.map eCell p0))), (4, (.own 0 0 (List.length (Sh.put l106 q118.1 (Sh.w (c121 + 1)))))), (24, (.sl (List.map eCell p0))), (25, (i64 (Sh.len p0))), (26, (i64 t6)), (35, (.sl (List.map eI c96.fields))), (36, (i64 (Sh.len c96.fields))), (37, (i64 t105))]) ⟨.rfl, (.len (by simp only [Sh.put_len])), .rfl, .rfl, .rfl, .rfl, .rfl, .rfl, trivial⟩))
        · replace h3 := Sh.ite_f b120 h3
          exact AW.skip (M114 l106 (Sh.some_eq h3).symm _ (Wk.to (L := [(0, (.sl (List.map eCell p0))), (4, (.own 0 0 (List.length l106))), (24, (.sl (List.map eCell p0))), (25, (i64 (Sh.len p0))), (26, (i64 t6)), (35, (.sl (List.map eI c96.fields))), (36, (i64 (Sh.len c96.fields))), (37, (i64 t105))]) ⟨.rfl, .rfl, .rfl, .rfl, .rfl, .rfl, .rfl, .rfl, trivial⟩))
      · replace h2 := Sh.ite_f b111 h2
        exact AW.exit (M108 l106 (Sh.some_eq h2).symm _ (Wk.to (L := [(0, (.sl (List.map eCell p0))), (4, (.own 0 0 (List.length l106))), (24, (.sl (List.map eCell p0))), (25, (i64 (Sh.len p0))), (26, (i64 t6))]) ⟨.rfl, .rfl, .rfl, .rfl, .rfl, trivial⟩))
  · replace h1 := Sh.ite_f b93 h1
    exact AW.exit (M9 l7 (Sh.some_eq h1).symm _ (Wk.to (L := [(0, (.sl (List.map eCell p0))), (4, (.own 0 0 (List.length l7)))]) ⟨.rfl, .rfl, trivial⟩))

set_option maxRecDepth 100000 in
set_option maxHeartbeats 4000000 in
theorem slices_Clone_impl_Cell_impl_Cell_ok {p0 : (List Cell)} {r : (List Cell)} (h0 : slices_Clone_impl_Cell_impl_Cell p0 = some r) : ACalls Try.prog 97 [(.sl (List.map eCell p0))] [] (fun v st => v = (.own 0 0 (List.length r)) ∧ st = [⟨0, 41, 3, List.map eCell r⟩]) := by
  unfold slices_Clone_impl_Cell_impl_Cell at h0
  refine ACalls.intro Try.func97 rfl (by show 1 ≤ 8; decide) ?_
  show AW _ 0 _ (aret _ 0 Try.f97 _) ⟨8, _, _⟩
  refine AW.weaken (Wk.to (L := [(0, (.sl (List.map eCell p0)))]) ⟨.rfl, trivial⟩) ?_
  refine AW.seq fun K1 hK1 => ?_
  refine AW.regionO (by rfl) ?_
  refine ao_q (v := .zc) go0 rfl (aq_as rfl) ?_
  refine AO.done (hK1 _ ?_)
  refine AW.seq fun K2 hK2 => ?_
  refine AW.seq fun K3 hK3 => ?_
  refine AW.regionO (by rfl) ?_
  refine ao_q (v := (.sl (List.map eCell p0))) go0 rfl (aq_mv rfl) ?_
  refine ao_nil go0 sl25 rfl (fun hn => ?_) ?_
  · subst hn
    replace h0 : some [] = some r := by rw [← h0]; first | rfl | simp [Sh.app]
    refine AO.done (hK3 _ ?_)
    refine AW.cond' (b := true) rfl (fun _ => ?_) (fun q => nomatch (show true = false from (rfl : true = true).symm.trans q))
    refine AW.seq fun K4 hK4 => ?_
    refine AW.regionO (by rfl) ?_
    refine ao_q (v := .zc) go0 rfl (aq_as rfl) ?_
    refine AO.done (hK4 _ ?_)
    replace h0 := Sh.some_eq h0
    subst r
    exact AW.ret (Exists.intro _ (And.intro (((Wk.adopt (t := 2) rfl 41 (size := 3) (by decide)).trans (Wk.to (L := [(2, (.own 0 0 (List.length ([] : List Cell))))]) ⟨.rfl, trivial⟩)).trans (Wk.to (L := [(2, (.own 0 0 (List.length ([] : List Cell))))]) ⟨.rfl, trivial⟩)) (And.intro rfl rfl)))
  · skip
    refine AO.done (hK3 _ ?_)
    refine AW.cond' (b := false) rfl (fun q => nomatch (show false = true from (rfl : false = false).symm.trans q)) (fun _ => ?_)
    refine AW.skip (hK2 _ ?_)
    refine AW.seq fun K5 hK5 => ?_
    refine AW.regionO (by rfl) ?_
    refine ao_bs (m := 0) (st' := [⟨0, 41, 3, List.map eCell ([] : List Cell)⟩]) (l := ([] : List Cell)) (enc := eCell) go0 ei25 (by decide) rfl rfl rfl rfl rfl rfl ?_
    refine ao_q (v := (.sl (List.map eCell p0))) go0 rfl (aq_mv rfl) ?_
    obtain ⟨l6, gl6, h0⟩ := Sh.bind_some h0
    refine ao_apo (st' := [⟨1, 41, 3, List.map eCell l6⟩]) (l2 := p0) go0 ei25 rfl rfl rfl rfl el_s (fun _ => rfl) gl6 rfl ?_
    refine ao_q (v := (.own 0 1 (List.length l6))) go0 rfl (aq_as rfl) ?_
    refine AO.done (hK5 _ ?_)
    replace h0 := Sh.some_eq h0
    subst r
    exact AW.ret (Exists.intro _ (And.intro ((Wk.rg (L := [(2, (.own 0 0 (List.length l6)))]) (st' := [⟨0, 41, 3, List.map eCell l6⟩]) (.pure (pure_map fun _ => rfl) .nil) ⟨.rfl, trivial⟩).trans (Wk.to (L := [(2, (.own 0 0 (List.length l6)))]) ⟨.rfl, trivial⟩)) (And.intro rfl rfl)))

set_option maxRecDepth 100000 in
set_option maxHeartbeats 4000000 in
theorem impl_cloneHeap_ok {N : Nat} {p0 : (List Cell)} {r : (List Cell)} (h0 : impl_cloneHeap N p0 = some r) : ACalls Try.prog 79 [(.sl (List.map eCell p0))] [] (fun v st => v = (.own 0 0 (List.length r)) ∧ st = [⟨0, 41, 3, List.map eCell r⟩]) := by
  unfold impl_cloneHeap at h0
  refine ACalls.intro Try.func79 rfl (by show 1 ≤ 24; decide) ?_
  show AW _ 0 _ (aret _ 0 Try.f79 _) ⟨24, _, _⟩
  refine AW.weaken (Wk.to (L := [(0, (.sl (List.map eCell p0)))]) ⟨.rfl, trivial⟩) ?_
  refine AW.seq fun K1 hK1 => ?_
  refine AW.regionO (by rfl) ?_
  refine ao_q (v := .zc) go0 rfl (aq_as rfl) ?_
  refine AO.done (hK1 _ ?_)
  refine AW.seq fun K2 hK2 => ?_
  refine AW.regionO (by rfl) ?_
  refine ao_q (v := (.sl (List.map eCell p0))) go0 rfl (aq_mv rfl) ?_
  obtain ⟨q3, gq3, h0⟩ := Sh.bind_some h0
  refine ao_call (v' := (.own 0 0 (List.length q3))) (st' := [⟨0, 41, 3, List.map eCell q3⟩]) go0 hb97 (slices_Clone_impl_Cell_impl_Cell_ok gq3) rfl rfl ⟨pure_map fun _ => rfl, trivial⟩ rfl rfl ?_
  refine ao_q (v := (.own 0 0 (List.length q3))) go0 rfl (aq_as rfl) ?_
  refine AO.done (hK2 _ ?_)
  refine AW.seq fun K4 hK4 => ?_
  refine AW.seq fun K5 hK5 => ?_
  refine AW.regionO (by rfl) ?_
  refine ao_q (v := (.sl (List.map eCell p0))) go0 rfl (aq_mv rfl) ?_
  refine ao_q (v := (i64 (Sh.len p0))) go0 rfl (aq_lens sl25 rfl) ?_
  refine ao_q (v := (i64 0)) go0 rfl (aq_mv rfl) ?_
  refine AO.done (hK5 _ ?_)
  obtain ⟨o9, h1, h0⟩ := Sh.bind_some h0
  have M9 : ∀ (l8 : (List Cell)), o9 = l8 → ∀ s, Wk 0 s ⟨24, envL [(3, (.own 0 0 (List.length l8)))], [⟨0, 41, 3, List.map eCell l8⟩]⟩ → K4 s := by
    intro l8 hq s hw
    subst o9
    try dsimp only at h0
    refine hK4 _ (AW.weaken hw ?_)
    refine AW.seq fun K10 hK10 => ?_
    refine AW.regionO (by rfl) ?_
    refine ao_q (v := (.own 0 0 (List.length l8))) go0 rfl (aq_mv rfl) ?_
    refine ao_q (v := (.own 0 0 (List.length l8))) go0 rfl (aq_as rfl) ?_
    refine AO.done (hK10 _ ?_)
    replace h0 := Sh.some_eq h0
    subst r
    exact AW.ret (Exists.intro _ (And.intro (Wk.to (L := [(2, (.own 0 0 (List.length l8)))]) ⟨.rfl, trivial⟩) (And.intro rfl rfl)))
  refine AW.block (AW.loopF (σ := Int × (List Cell)) (fun n v => impl_cloneHeap_L1 p0 n v.1 v.2 = some o9) (fun (t6, l7) => ⟨24, envL [(3, (.own 0 0 (List.length l7))), (8, (.sl (List.map eCell p0))), (9, (i64 (Sh.len p0))), (10, (i64 t6))], [⟨0, 41, 3, List.map eCell l7⟩]⟩) N (0, q3) h1 (Wk.to (L := [(3, (.own 0 0 (List.length q3))), (8, (.sl (List.map eCell p0))), (9, (i64 (Sh.len p0))), (10, (i64 0))]) ⟨.rfl, .rfl, .rfl, .rfl, trivial⟩) (fun _ hv => by rw [impl_cloneHeap_L1] at hv; cases hv) ?_)
  rintro n ⟨t6, l7⟩ h1
  try dsimp only at h1 ⊢
  rw [impl_cloneHeap_L1] at h1
  refine AW.seq fun K11 hK11 => ?_
  refine AW.regionO (by rfl) ?_
  refine ao_q (v := (.bool (decide (t6 < (Sh.len p0))))) go0 rfl (aq_lt rfl rfl) ?_
  refine AO.done (hK11 _ ?_)
  refine AW.seq fun K12 hK12 => ?_
  refine AW.cond' (b := decide (t6 < (Sh.len p0))) rfl (fun b13 => ?_) (fun b13 => ?_)
  · replace h1 := Sh.ite_t b13 h1
    refine AW.skip (hK12 _ ?_)
    refine AW.seq fun K14 hK14 => ?_
    refine AW.block ?_
    refine AW.seq fun K15 hK15 => ?_
    refine AW.regionO (by rfl) ?_
    refine ao_q (v := (i64 t6)) go0 rfl (aq_mv rfl) ?_
    obtain ⟨c16, gc16, h1⟩ := Sh.bind_some h1
    refine ao_q (v := (.iptr (eCell c16) 0)) go0 rfl (aq_ixs ei25 rfl rfl gc16 rfl) ?_
    refine ao_q (v := (.agg [(i64 c16.count), (i64 c16.tag), (.sl (List.map eI c16.fields))])) go0 rfl (aq_ldia ti41 rfl (show 0 + 3 ≤ 3 by decide) rfl) ?_
    refine ao_alloc (m := 1) (st' := [⟨0, 41, 3, List.map eCell l7⟩, ⟨0, 41, 3, [[(i64 0), (i64 0), .zc]]⟩]) go0 zi41 rfl rfl ?_
    refine ao_q (v := (i64 t6)) go0 rfl (aq_as rfl) ?_
    refine ao_str (st' := [⟨0, 41, 3, List.map eCell l7⟩, ⟨0, 41, 3, [[(i64 c16.count), (i64 c16.tag), (.sl (List.map eI c16.fields))]]⟩]) go0 ti41 rfl rfl rfl rfl rfl rfl (show 0 + 3 ≤ 3 by decide) rfl ?_
    refine AO.done (hK15 _ ?_)
    refine AW.regionO (by rfl) ?_
    refine ao_q (v := (.own 0 0 (List.length l7))) go0 rfl (aq_mv rfl) ?_
    refine ao_q (v := (i64 t6)) go0 rfl (aq_mv rfl) ?_
    refine ao_q (v := (.ptr 1 0 0 2)) go0 rfl (aq_fap fi41_2 rfl rfl (show 0 + 2 ≤ 3 by decide) rfl) ?_
    refine ao_q (v := (.sl (List.map eI c16.fields))) go0 rfl (aq_ldp ti32 rfl rfl rfl rfl) ?_
    obtain ⟨q17, gq17, h1⟩ := Sh.bind_some h1
    refine ao_call (v' := (.own 2 0 (List.length q17))) (st' := [⟨0, 41, 3, List.map eCell l7⟩, ⟨0, 41, 3, [[(i64 c16.count), (i64 c16.tag), (.sl (List.map eI c16.fields))]]⟩, ⟨0, 3, 1, List.map eI q17⟩]) go0 hb70 (slices_Clone_int_int_ok gq17) rfl rfl ⟨pure_map fun _ => rfl, trivial⟩ rfl rfl ?_
    obtain ⟨c18, gc18, h1⟩ := Sh.bind_some h1
    refine ao_q (v := (.ptr 0 0 (Int.toNat t6) 0)) go0 rfl (aq_ixo ei25 rfl rfl rfl rfl gc18) ?_
    refine ao_q (v := (.ptr 0 0 (Int.toNat t6) 2)) go0 rfl (aq_fap fi41_2 rfl rfl (show 0 + 2 ≤ 3 by decide) rfl) ?_
    refine AO.weaken (Wk.frz (L := [(3, (.own 0 0 (List.length l7))), (8, (.sl (List.map eCell p0))), (9, (i64 (Sh.len p0))), (10, (i64 t6)), (19, (.sl (List.map eI q17))), (21, (.ptr 0 0 (Int.toNat t6) 2))]) (st' := [⟨0, 41, 3, List.map eCell l7⟩, ⟨0, 41, 3, [[(i64 c16.count), (i64 c16.tag), (.sl (List.map eI c16.fields))]]⟩, ⟨1, 3, 1, []⟩]) (id := 2) rfl (show 0 ≤ 2 by decide) (pure_map fun _ => rfl) ⟨.rfl, .rfl, .rfl, .rfl, (.frz rfl), .rfl, trivial⟩ rfl) ?_
    refine ao_stl (st' := [⟨0, 41, 3, List.map eCell (Sh.put l7 t6 (Cell.mk c18.count c18.tag q17))⟩, ⟨0, 41, 3, [[(i64 c16.count), (i64 c16.tag), (.sl (List.map eI c16.fields))]]⟩, ⟨1, 3, 1, []⟩]) (u' := (Cell.mk c18.count c18.tag q17)) go0 ti32 rfl rfl gc18 rfl rfl rfl (show 2 + 1 ≤ 3 by decide) rfl rfl ?_
    refine AO.done (hK14 _ ?_)
    refine AW.regionO (by rfl) ?_
    refine ao_q (v := (i64 (Sh.w (t6 + 1)))) go0 rfl (aq_add rfl rfl) ?_
    refine ao_q (v := (i64 (Sh.w (t6 + 1)))) go0 rfl (aq_mv rfl) ?_
    exact AO.done (Exists.intro (Sh.w (t6 + 1), Sh.put l7 t6 (Cell.mk c18.count c18.tag q17)) (And.intro h1 (by refine Wk.trans (Wk.permk (L := [(3, (.own 0 0 (List.length l7))), (8, (.sl (List.map eCell p0))), (9, (i64 (Sh.len p0))), (10, (i64 (Sh.w (t6 + 1))))]) (st' := [⟨0, 41, 3, List.map eCell (Sh.put l7 t6 (Cell.mk c18.count c18.tag q17))⟩]) (st1 := [⟨0, 41, 3, List.map eCell (Sh.put l7 t6 (Cell.mk c18.count c18.tag q17))⟩]) [0] rfl .nil (by decide) rfl rfl (.pure (pure_map fun _ => rfl) .nil) ⟨.rfl, .rfl, .rfl, .rfl, trivial⟩) ?_; exact Wk.to (L := [(3, (.own 0 0 (List.length (Sh.put l7 t6 (Cell.mk c18.count c18.tag q17))))), (8, (.sl (List.map eCell p0))), (9, (i64 (Sh.len p0))), (10, (i64 (Sh.w (t6 + 1))))]) ⟨(.len (by simp only [Sh.put_len])), .rfl, .rfl, .rfl, trivial⟩)))
  · replace h1 := Sh.ite_f b13 h1
    exact AW.exit (M9 l7 (Sh.some_eq h1).symm _ (Wk.to (L := [(3, (.own 0 0 (List.length l7)))]) ⟨.rfl, trivial⟩))

set_option maxRecDepth 100000 in
set_option maxHeartbeats 4000000 in
theorem impl_heap_trim_ok {N : Nat} {s1 : (List Cell)} {r : (List Cell)} (h0 : impl_heap_trim N s1 = some r) : ACalls Try.prog 101 [(.ptr 0 0 0 0)] [⟨0, 76, 1, [[(.own 1 0 (List.length s1))]]⟩, ⟨0, 41, 3, List.map eCell s1⟩] (fun v st => v = (.tup []) ∧ st = [⟨0, 76, 1, [[(.own 1 1 (List.length r))]]⟩, ⟨1, 41, 3, List.map eCell r⟩]) := by
  unfold impl_heap_trim at h0
  refine ACalls.intro Try.func101 rfl (by show 1 ≤ 29; decide) ?_
  show AW _ 2 _ (aret _ 2 Try.f101 _) ⟨29, _, _⟩
  refine AW.weaken (Wk.to (L := [(0, (.ptr 0 0 0 0))]) ⟨.rfl, trivial⟩) ?_
  refine AW.seq fun K1 hK1 => ?_
  refine AW.regionO (by rfl) ?_
  refine ao_q (v := (.ptr 0 0 0 0)) go0 rfl (aq_mv rfl) ?_
  refine ao_q (v := (.ptr 0 0 0 0)) go0 rfl (aq_nck rfl rfl) ?_
  refine ao_q (v := (.own 1 0 (List.length s1))) go0 rfl (aq_ldp ti76 rfl rfl rfl rfl) ?_
  refine ao_q (v := (i64 (Sh.len s1))) go0 rfl (aq_leno sl76 rfl rfl rfl) ?_
  refine ao_q (v := (i64 (Sh.len s1))) go0 rfl (aq_as rfl) ?_
  refine AO.done (hK1 _ ?_)
  refine AW.seq fun K2 hK2 => ?_
  obtain ⟨o5, h1, h0⟩ := Sh.bind_some h0
  have M5 : ∀ (n4 : Int), o5 = n4 → ∀ s, Wk 2 s ⟨29, envL [(0, (.ptr 0 0 0 0)), (2, (i64 n4))], [⟨0, 76, 1, [[(.own 1 0 (List.length s1))]]⟩, ⟨0, 41, 3, List.map eCell s1⟩]⟩ → K2 s := by
    intro n4 hq s hw
    subst o5
    try dsimp only at h0
    refine hK2 _ (AW.weaken hw ?_)
    refine AW.regionO (by rfl) ?_
    refine ao_q (v := (.ptr 0 0 0 0)) go0 rfl (aq_mv rfl) ?_
    refine ao_q (v := (.ptr 0 0 0 0)) go0 rfl (aq_mv rfl) ?_
    refine ao_q (v := (.ptr 0 0 0 0)) go0 rfl (aq_nck rfl rfl) ?_
    refine ao_q (v := (.own 1 0 (List.length s1))) go0 rfl (aq_ldp ti76 rfl rfl rfl rfl) ?_
    refine ao_q (v := (i64 n4)) go0 rfl (aq_mv rfl) ?_
    obtain ⟨l6, gl6, h0⟩ := Sh.bind_some h0
    refine ao_hio (st' := [⟨0, 76, 1, [[(.own 1 0 (List.length s1))]]⟩, ⟨1, 41, 3, List.map eCell l6⟩]) go0 ei76 rfl rfl rfl rfl gl6 rfl ?_
    refine ao_q (v := (.ptr 0 0 0 0)) go0 rfl (aq_nck rfl rfl) ?_
    refine ao_str (st' := [⟨0, 76, 1, [[(.own 1 1 (List.length l6))]]⟩, ⟨1, 41, 3, List.map eCell l6⟩]) go0 ti76 rfl rfl rfl rfl rfl rfl (show 0 + 1 ≤ 1 by decide) rfl ?_
    replace h0 := Sh.some_eq h0
    subst r
    exact AO.done (Exists.intro _ (And.intro (Wk.to (L := []) trivial) (And.intro rfl rfl)))
  refine AW.block (AW.loopF (σ := Int) (fun n v => impl_heap_trim_L1 s1 n v = some o5) (fun n3 => ⟨29, envL [(0, (.ptr 0 0 0 0)), (2, (i64 n3))], [⟨0, 76, 1, [[(.own 1 0 (List.length s1))]]⟩, ⟨0, 41, 3, List.map eCell s1⟩]⟩) N (Sh.len s1) h1 (Wk.to (L := [(0, (.ptr 0 0 0 0)), (2, (i64 (Sh.len s1)))]) ⟨.rfl, .rfl, trivial⟩) (fun _ hv => by rw [impl_heap_trim_L1] at hv; cases hv) ?_)
  rintro n n3 h1
  try dsimp only at h1 ⊢
  rw [impl_heap_trim_L1] at h1
  refine AW.seq fun K7 hK7 => ?_
  refine AW.seq fun K8 hK8 => ?_
  obtain ⟨o10, h2, h1⟩ := Sh.bind_some h1
  have M10 : ∀ (t9 : Bool), o10 = t9 → ∀ s, Wk 2 s ⟨29, envL [(0, (.ptr 0 0 0 0)), (2, (i64 n3)), (19, (.bool t9))], [⟨0, 76, 1, [[(.own 1 0 (List.length s1))]]⟩, ⟨0, 41, 3, List.map eCell s1⟩]⟩ → K8 s := by
    intro t9 hq s hw
    subst o10
    try dsimp only at h1
    refine hK8 _ (AW.weaken hw ?_)
    refine AW.cond' (b := t9) rfl (fun b11 => ?_) (fun b11 => ?_)
    · replace h1 := Sh.ite_t b11 h1
      refine AW.skip (hK7 _ ?_)
      refine AW.block ?_
      refine AW.regionO (by rfl) ?_
      refine ao_q (v := (i64 n3)) go0 rfl (aq_mv rfl) ?_
      refine ao_q (v := (i64 (Sh.w (n3 - 1)))) go0 rfl (aq_sub rfl rfl) ?_
      refine ao_q (v := (i64 (Sh.w (n3 - 1)))) go0 rfl (aq_as rfl) ?_
      exact AO.done (Exists.intro (Sh.w (n3 - 1)) (And.intro h1 (Wk.to (L := [(0, (.ptr 0 0 0 0)), (2, (i64 (Sh.w (n3 - 1))))]) ⟨.rfl, .rfl, trivial⟩)))
    · replace h1 := Sh.ite_f b11 h1
      exact AW.exit (M5 n3 (Sh.some_eq h1).symm _ (Wk.to (L := [(0, (.ptr 0 0 0 0)), (2, (i64 n3))]) ⟨.rfl, .rfl, trivial⟩))
  refine AW.regionO (by rfl) ?_
  refine ao_q (v := (i64 n3)) go0 rfl (aq_mv rfl) ?_
  refine ao_q (v := (.bool (decide (0 < n3)))) go0 rfl (aq_gt rfl rfl) ?_
  refine ao_q (v := (.bool (decide (0 < n3)))) go0 rfl (aq_mv rfl) ?_
  rcases Sh.ite_some h2 with ⟨b12, h2⟩ | ⟨b12, h2⟩
  · skip
    refine ao_q (v := (.ptr 0 0 0 0)) (go1 rfl rfl b12) rfl (aq_mv rfl) ?_
    refine ao_q (v := (.ptr 0 0 0 0)) (go1 rfl rfl b12) rfl (aq_nck rfl rfl) ?_
    refine ao_q (v := (.own 1 0 (List.length s1))) (go1 rfl rfl b12) rfl (aq_ldp ti76 rfl rfl rfl rfl) ?_
    refine ao_q (v := (i64 n3)) (go1 rfl rfl b12) rfl (aq_mv rfl) ?_
    refine ao_q (v := (i64 (Sh.w (n3 - 1)))) (go1 rfl rfl b12) rfl (aq_sub rfl rfl) ?_
    obtain ⟨c13, gc13, h2⟩ := Sh.bind_some h2
    refine ao_q (v := (.ptr 1 0 (Int.toNat (Sh.w (n3 - 1))) 0)) (go1 rfl rfl b12) rfl (aq_ixo ei76 rfl rfl rfl rfl gc13) ?_
    refine ao_q (v := (.ptr 1 0 (Int.toNat (Sh.w (n3 - 1))) 0)) (go1 rfl rfl b12) rfl (aq_fap fi41_0 rfl rfl (show 0 + 0 ≤ 3 by decide) rfl) ?_
    refine ao_q (v := (i64 c13.count)) (go1 rfl rfl b12) rfl (aq_ldp ti3 rfl rfl (map_get gc13) rfl) ?_
    refine ao_q (v := (.bool (decide (c13.count = 0)))) (go1 rfl rfl b12) rfl (aq_eq rfl rfl) ?_
    refine ao_q (v := (.bool (decide (c13.count = 0)))) go0 rfl (aq_pkt rfl b12 rfl) ?_
    exact AO.done (M10 (decide (c13.count = 0)) (Sh.some_eq h2).symm _ (Wk.to (L := [(0, (.ptr 0 0 0 0)), (2, (i64 n3)), (19, (.bool (decide (c13.count = 0))))]) ⟨.rfl, .rfl, .rfl, trivial⟩))
  · skip
    refine ao_skip rfl rfl b12 ?_
    refine ao_skip rfl rfl b12 ?_
    refine ao_skip rfl rfl b12 ?_
    refine ao_skip rfl rfl b12 ?_
    refine ao_skip rfl rfl b12 ?_
    refine ao_skip rfl rfl b12 ?_
    refine ao_skip rfl rfl b12 ?_
    refine ao_skip rfl rfl b12 ?_
    refine ao_skip rfl rfl b12 ?_
    refine ao_q (v := (.bool false)) go0 rfl (aq_pkf rfl b12 rfl) ?_
    exact AO.done (M10 false (Sh.some_eq h2).symm _ (Wk.to (L := [(0, (.ptr 0 0 0 0)), (2, (i64 n3)), (19, (.bool false))]) ⟨.rfl, .rfl, .rfl, trivial⟩))

set_option maxRecDepth 100000 in
set_option maxHeartbeats 4000000 in
theorem impl_heap_drop_ok {N : Nat} {s1 : (List Cell)} {p1 : Int} {r : (List Cell)} (h0 : impl_heap_drop N s1 p1 = some r) : ACalls Try.prog 86 [(.ptr 0 0 0 0), (i64 p1)] [⟨0, 76, 1, [[(.own 1 0 (List.length s1))]]⟩, ⟨0, 41, 3, List.map eCell s1⟩] (fun v st => v = (.tup []) ∧ st = [⟨0, 76, 1, [[(.own 1 1 (List.length r))]]⟩, ⟨1, 41, 3, List.map eCell r⟩]) := by
  unfold impl_heap_drop at h0
  refine ACalls.intro Try.func86 rfl (by show 2 ≤ 67; decide) ?_
  show AW _ 2 _ (aret _ 2 Try.f86 _) ⟨67, _, _⟩
  refine AW.weaken (Wk.to (L := [(0, (.ptr 0 0 0 0)), (1, (i64 p1))]) ⟨.rfl, .rfl, trivial⟩) ?_
  refine AW.seq fun K1 hK1 => ?_
  refine AW.seq fun K2 hK2 => ?_
  refine AW.regionO (by rfl) ?_
  refine ao_q (v := (i64 p1)) go0 rfl (aq_mv rfl) ?_
  refine ao_bs (m := 2) (st' := [⟨0, 76, 1, [[(.own 1 0 (List.length s1))]]⟩, ⟨0, 41, 3, List.map eCell s1⟩, ⟨0, 3, 1, List.map eI [p1]⟩]) (l := [p1]) (enc := eI) go0 ei32 (by decide) rfl rfl rfl rfl rfl rfl ?_
  refine ao_q (v := (.own 2 0 (List.length [p1]))) go0 rfl (aq_as rfl) ?_
  refine AO.done (hK2 _ ?_)
  obtain ⟨o6, h1, h0⟩ := Sh.bind_some h0
  have M6 : ∀ (l5 : (List Cell)), o6 = l5 → ∀ s, Wk 2 s ⟨67, envL [(0, (.ptr 0 0 0 0))], [⟨0, 76, 1, [[(.own 1 0 (List.length l5))]]⟩, ⟨0, 41, 3, List.map eCell l5⟩]⟩ → K1 s := by
    intro l5 hq s hw
    subst o6
    try dsimp only at h0
    refine hK1 _ (AW.weaken hw ?_)
    refine AW.regionO (by rfl) ?_
    refine ao_q (v := (.ptr 0 0 0 0)) go0 rfl (aq_mv rfl) ?_
    obtain ⟨q7, gq7, h0⟩ := Sh.bind_some h0
    refine ao_calls (rowsP := [⟨0, 76, 1, [[(.own 1 0 (List.length l5))]]⟩, ⟨0, 41, 3, List.map eCell l5⟩]) (rows0 := [⟨0, 76, 1, [[(.own 1 0 (List.length l5))]]⟩, ⟨0, 41, 3, List.map eCell l5⟩]) (rows1 := [⟨0, 76, 1, [[(.own 1 1 (List.length q7))]]⟩, ⟨1, 41, 3, List.map eCell q7⟩]) (rows2 := []) (rows1' := [⟨0, 76, 1, [[(.own 1 1 (List.length q7))]]⟩, ⟨1, 41, 3, List.map eCell q7⟩]) (rows2' := []) (st' := [⟨0, 76, 1, [[(.own 1 1 (List.length q7))]]⟩, ⟨1, 41, 3, List.map eCell q7⟩]) (v' := (.tup [])) [0, 1] go0 hb101 (impl_heap_trim_ok gq7) rfl (by decide) rfl rfl (.raw rfl rfl (.pure (pure_map fun _ => rfl) .nil)) rfl rfl (.raw rfl rfl (.pure (pure_map fun _ => rfl) .nil)) .nil rfl rfl ?_
    replace h0 := Sh.some_eq h0
    subst r
    exact AO.done (Exists.intro _ (And.intro (Wk.to (L := []) trivial) (And.intro rfl rfl)))
  refine AW.block (AW.loopF (σ := (List Cell) × (List Int)) (fun n v => impl_heap_drop_L1  n v.1 v.2 = some o6) (fun (l3, l4) => ⟨67, envL [(0, (.ptr 0 0 0 0)), (4, (.own 2 0 (List.length l4)))], [⟨0, 76, 1, [[(.own 1 0 (List.length l3))]]⟩, ⟨0, 41, 3, List.map eCell l3⟩, ⟨0, 3, 1, List.map eI l4⟩]⟩) N (s1, [p1]) h1 (Wk.to (L := [(0, (.ptr 0 0 0 0)), (4, (.own 2 0 (List.length [p1])))]) ⟨.rfl, .rfl, trivial⟩) (fun _ hv => by rw [impl_heap_drop_L1] at hv; cases hv) ?_)
  rintro n ⟨l3, l4⟩ h1
  try dsimp only at h1 ⊢
  rw [impl_heap_drop_L1] at h1
  refine AW.seq fun K8 hK8 => ?_
  refine AW.seq fun K9 hK9 => ?_
  refine AW.regionO (by rfl) ?_
  refine ao_q (v := (.own 2 0 (List.length l4))) go0 rfl (aq_mv rfl) ?_
  refine ao_q (v := (i64 (Sh.len l4))) go0 rfl (aq_leno sl32 rfl rfl rfl) ?_
  refine ao_q (v := (.bool (decide (0 < (Sh.len l4))))) go0 rfl (aq_gt rfl rfl) ?_
  refine AO.done (hK9 _ ?_)
  refine AW.cond' (b := decide (0 < (Sh.len l4))) rfl (fun b10 => ?_) (fun b10 => ?_)
  · replace h1 := Sh.ite_t b10 h1
    refine AW.skip (hK8 _ ?_)
    refine AW.block ?_
    refine AW.seq fun K11 hK11 => ?_
    refine AW.draw (by kernel_rfl) (by kernel_rfl) (by rfl) ?_
    refine d_q (v := (.ptr 0 0 0 0)) go0 rfl (aq_mv rfl) ?_
    refine d_q (v := (.ptr 0 0 0 0)) go0 rfl (aq_nck rfl rfl) ?_
    refine d_q (v := (.own 1 0 (List.length l3))) go0 rfl (aq_ldp ti76 rfl rfl rfl rfl) ?_
    refine d_q (v := (.own 2 0 (List.length l4))) go0 rfl (aq_mv rfl) ?_
    refine d_q (v := (.own 2 0 (List.length l4))) go0 rfl (aq_mv rfl) ?_
    refine d_q (v := (i64 (Sh.len l4))) go0 rfl (aq_leno sl32 rfl rfl rfl) ?_
    refine d_q (v := (i64 (Sh.w ((Sh.len l4) - 1)))) go0 rfl (aq_sub rfl rfl) ?_
    obtain ⟨c12, gc12, h1⟩ := Sh.bind_some h1
    refine d_q (v := (.ptr 2 0 (Int.toNat (Sh.w ((Sh.len l4) - 1))) 0)) go0 rfl (aq_ixo ei32 rfl rfl rfl rfl gc12) ?_
    refine d_q (v := (i64 c12)) go0 rfl (aq_ldp ti3 rfl rfl (map_get gc12) rfl) ?_
    obtain ⟨q13, gq13, h1⟩ := Sh.bind_some h1
    refine d_callb (v' := (.tup [(i64 q13.1), (.bool q13.2)])) go0 hb71 (impl_liveAt_ok gq13) rfl (.own rfl rfl (fun _ => rfl) (.val rfl .nil)) rfl rfl ?_
    refine d_q (v := (.tup [(i64 q13.1), (.bool q13.2)])) go0 rfl (aq_mv rfl) ?_
    refine d_q (v := (i64 q13.1)) go0 rfl (aq_ex rfl rfl) ?_
    refine d_q (v := (.bool q13.2)) go0 rfl (aq_ex rfl rfl) ?_
    refine d_q (v := (i64 q13.1)) go0 rfl (aq_as rfl) ?_
    refine d_q (v := (.bool q13.2)) go0 rfl (aq_as rfl) ?_
    refine d_done (hK11 _ ?_)
    refine AW.seq fun K14 hK14 => ?_
    refine AW.regionO (by rfl) ?_
    refine ao_q (v := (.own 2 0 (List.length l4))) go0 rfl (aq_mv rfl) ?_
    refine ao_q (v := (.own 2 0 (List.length l4))) go0 rfl (aq_mv rfl) ?_
    refine ao_q (v := (i64 (Sh.len l4))) go0 rfl (aq_leno sl32 rfl rfl rfl) ?_
    refine ao_q (v := (i64 (Sh.w ((Sh.len l4) - 1)))) go0 rfl (aq_sub rfl rfl) ?_
    obtain ⟨l15, gl15, h1⟩ := Sh.bind_some h1
    refine ao_hio (st' := [⟨0, 76, 1, [[(.own 1 0 (List.length l3))]]⟩, ⟨0, 41, 3, List.map eCell l3⟩, ⟨1, 3, 1, List.map eI l15⟩]) go0 ei32 rfl rfl rfl rfl gl15 rfl ?_
    refine ao_q (v := (.own 2 1 (List.length l15))) go0 rfl (aq_as rfl) ?_
    refine AO.done (hK14 _ ?_)
    refine AW.seq fun K16 hK16 => ?_
    refine AW.seq fun K17 hK17 => ?_
    refine AW.regionO (by rfl) ?_
    refine ao_q (v := (.bool q13.2)) go0 rfl (aq_mv rfl) ?_
    refine ao_q (v := (.bool (!q13.2))) go0 rfl (aq_not rfl) ?_
    refine AO.done (hK17 _ ?_)
    refine AW.cond' (b := !q13.2) rfl (fun b18 => ?_) (fun b18 => ?_)
    · replace h1 := Sh.ite_t b18 h1
      have b19 : q13.2 = false := by simpa using b18
      exact AW.exit (Exists.intro (l3, l15) (And.intro h1 (by refine Wk.trans (Wk.rk (L := [(0, (.ptr 0 0 0 0)), (4, (.own 2 0 (List.length l15)))]) (st' := [⟨0, 76, 1, [[(.own 1 0 (List.length l3))]]⟩, ⟨0, 41, 3, List.map eCell l3⟩, ⟨0, 3, 1, List.map eI l15⟩]) (.raw rfl rfl rfl (.pure rfl (pure_map fun _ => rfl) (.pure rfl (pure_map fun _ => rfl) .nil))) ⟨.rfl, .rfl, trivial⟩) ?_; exact Wk.to (L := [(0, (.ptr 0 0 0 0)), (4, (.own 2 0 (List.length l15)))]) ⟨.rfl, .rfl, trivial⟩)))
    · replace h1 := Sh.ite_f b18 h1
      have b20 : q13.2 = true := by simpa using b18
      refine AW.skip (hK16 _ ?_)
      refine AW.seq fun K21 hK21 => ?_
      refine AW.regionO (by rfl) ?_
      refine ao_q (v := (.ptr 0 0 0 0)) go0 rfl (aq_mv rfl) ?_
      refine ao_q (v := (.ptr 0 0 0 0)) go0 rfl (aq_nck rfl rfl) ?_
      refine ao_q (v := (.own 1 0 (List.length l3))) go0 rfl (aq_ldp ti76 rfl rfl rfl rfl) ?_
      refine ao_q (v := (i64 q13.1)) go0 rfl (aq_mv rfl) ?_
      obtain ⟨c22, gc22, h1⟩ := Sh.bind_some h1
      refine ao_q (v := (.ptr 1 0 (Int.toNat q13.1) 0)) go0 rfl (aq_ixo ei76 rfl rfl rfl rfl gc22) ?_
      refine ao_q (v := (.ptr 1 0 (Int.toNat q13.1) 0)) go0 rfl (aq_fap fi41_0 rfl rfl (show 0 + 0 ≤ 3 by decide) rfl) ?_
      refine ao_q (v := (i64 c22.count)) go0 rfl (aq_ldp ti3 rfl rfl (map_get gc22) rfl) ?_
      refine ao_q (v := (i64 (Sh.w (c22.count - 1)))) go0 rfl (aq_sub rfl rfl) ?_
      refine ao_q (v := (.ptr 1 0 (Int.toNat q13.1) 0)) go0 rfl (aq_ixo ei76 rfl rfl rfl rfl gc22) ?_
      refine ao_q (v := (.ptr 1 0 (Int.toNat q13.1) 0)) go0 rfl (aq_fap fi41_0 rfl rfl (show 0 + 0 ≤ 3 by decide) rfl) ?_
      refine ao_stl (st' := [⟨0, 76, 1, [[(.own 1 0 (List.length l3))]]⟩, ⟨0, 41, 3, List.map eCell (Sh.put l3 q13.1 (Cell.mk (Sh.w (c22.count - 1)) c22.tag c22.fields))⟩, ⟨1, 3, 1, List.map eI l15⟩]) (u' := (Cell.mk (Sh.w (c22.count - 1)) c22.tag c22.fields)) go0 ti3 rfl rfl gc22 rfl rfl rfl (show 0 + 1 ≤ 3 by decide) rfl rfl ?_
      refine AO.done (hK21 _ ?_)
      refine AW.seq fun K23 hK23 => ?_
      refine AW.regionO (by rfl) ?_
      refine ao_q (v := (.ptr 0 0 0 0)) go0 rfl (aq_mv rfl) ?_
      refine ao_q (v := (.ptr 0 0 0 0)) go0 rfl (aq_nck rfl rfl) ?_
      refine ao_q (v := (.own 1 0 (List.length l3))) go0 rfl (aq_ldp ti76 rfl rfl rfl rfl) ?_
      refine ao_q (v := (i64 q13.1)) go0 rfl (aq_mv rfl) ?_
      obtain ⟨c24, gc24, h1⟩ := Sh.bind_some h1
      refine ao_q (v := (.ptr 1 0 (Int.toNat q13.1) 0)) go0 rfl (aq_ixo ei76 rfl rfl rfl (by simp only [Sh.put_len]) gc24) ?_
      refine ao_q (v := (.ptr 1 0 (Int.toNat q13.1) 0)) go0 rfl (aq_fap fi41_0 rfl rfl (show 0 + 0 ≤ 3 by decide) rfl) ?_
      refine ao_q (v := (i64 c24.count)) go0 rfl (aq_ldp ti3 rfl rfl (map_get gc24) rfl) ?_
      refine ao_q (v := (.bool (decide (c24.count = 0)))) go0 rfl (aq_eq rfl rfl) ?_
      refine AO.done (hK23 _ ?_)
      refine AW.cond' (b := decide (c24.count = 0)) rfl (fun b25 => ?_) (fun b25 => ?_)
      · replace h1 := Sh.ite_t b25 h1
        refine AW.seq fun K26 hK26 => ?_
        refine AW.regionO (by rfl) ?_
        refine ao_q (v := (.own 2 1 (List.length l15))) go0 rfl (aq_mv rfl) ?_
        refine ao_q (v := (.ptr 0 0 0 0)) go0 rfl (aq_mv rfl) ?_
        refine ao_q (v := (.ptr 0 0 0 0)) go0 rfl (aq_nck rfl rfl) ?_
        refine ao_q (v := (.own 1 0 (List.length l3))) go0 rfl (aq_ldp ti76 rfl rfl rfl rfl) ?_
        refine ao_q (v := (i64 q13.1)) go0 rfl (aq_mv rfl) ?_
        refine ao_q (v := (.ptr 1 0 (Int.toNat q13.1) 0)) go0 rfl (aq_ixo ei76 rfl rfl rfl (by simp only [Sh.put_len]) gc24) ?_
        refine ao_q (v := (.ptr 1 0 (Int.toNat q13.1) 2)) go0 rfl (aq_fap fi41_2 rfl rfl (show 0 + 2 ≤ 3 by decide) rfl) ?_
        refine ao_q (v := (.sl (List.map eI c24.fields))) go0 rfl (aq_ldp ti32 rfl rfl (map_get gc24) rfl) ?_
        obtain ⟨l27, gl27, h1⟩ := Sh.bind_some h1
        refine ao_apo (st' := [⟨0, 76, 1, [[(.own 1 0 (List.length l3))]]⟩, ⟨0, 41, 3, List.map eCell (Sh.put l3 q13.1 (Cell.mk (Sh.w (c22.count - 1)) c22.tag c22.fields))⟩, ⟨2, 3, 1, List.map eI l27⟩]) (l2 := c24.fields) go0 ei32 rfl rfl rfl rfl el_s (fun _ => rfl) gl27 rfl ?_
        refine ao_q (v := (.own 2 2 (List.length l27))) go0 rfl (aq_as rfl) ?_
        refine AO.done (hK26 _ ?_)
        refine AW.regionO (by rfl) ?_
        refine ao_q (v := (.ptr 0 0 0 0)) go0 rfl (aq_mv rfl) ?_
        refine ao_q (v := (.ptr 0 0 0 0)) go0 rfl (aq_nck rfl rfl) ?_
        refine ao_q (v := (.own 1 0 (List.length l3))) go0 rfl (aq_ldp ti76 rfl rfl rfl rfl) ?_
        refine ao_q (v := (i64 q13.1)) go0 rfl (aq_mv rfl) ?_
        refine ao_q (v := (.agg [(i64 0), (i64 0), .zc])) go0 rfl (aq_bd ai41 bi41 zi41 rfl rfl) ?_
        refine ao_q (v := (.ptr 1 0 (Int.toNat q13.1) 0)) go0 rfl (aq_ixo ei76 rfl rfl rfl (by simp only [Sh.put_len]) gc24) ?_
        refine AO.weaken (Wk.to (L := [(0, (.ptr 0 0 0 0)), (4, (.own 2 2 (List.length l27))), (63, (.agg [(i64 0), (i64 0), (.sl (List.map eI []))])), (64, (.ptr 1 0 (Int.toNat q13.1) 0))]) ⟨.rfl, .rfl, (.agg ⟨.rfl, .rfl, .zc, trivial⟩), .rfl, trivial⟩) ?_
        refine ao_stl (st' := [⟨0, 76, 1, [[(.own 1 0 (List.length l3))]]⟩, ⟨0, 41, 3, List.map eCell (Sh.put (Sh.put l3 q13.1 (Cell.mk (Sh.w (c22.count - 1)) c22.tag c22.fields)) q13.1 (Cell.mk 0 0 []))⟩, ⟨2, 3, 1, List.map eI l27⟩]) (u' := (Cell.mk 0 0 [])) go0 ti41 rfl rfl gc24 rfl rfl rfl (show 0 + 3 ≤ 3 by decide) rfl rfl ?_
        exact AO.done (Exists.intro (Sh.put (Sh.put l3 q13.1 (Cell.mk (Sh.w (c22.count - 1)) c22.tag c22.fields)) q13.1 (Cell.mk 0 0 []), l27) (And.intro h1 (by refine Wk.trans (Wk.steq (st := [⟨0, 76, 1, [[(.own 1 0 (List.length l3))]]⟩, ⟨0, 41, 3, List.map eCell (Sh.put (Sh.put l3 q13.1 (Cell.mk (Sh.w (c22.count - 1)) c22.tag c22.fields)) q13.1 (Cell.mk 0 0 []))⟩, ⟨2, 3, 1, List.map eI l27⟩]) (st' := [⟨0, 76, 1, [[(.own 1 0 (List.length (Sh.put (Sh.put l3 q13.1 (Cell.mk (Sh.w (c22.count - 1)) c22.tag c22.fields)) q13.1 (Cell.mk 0 0 []))))]]⟩, ⟨0, 41, 3, List.map eCell (Sh.put (Sh.put l3 q13.1 (Cell.mk (Sh.w (c22.count - 1)) c22.tag c22.fields)) q13.1 (Cell.mk 0 0 []))⟩, ⟨2, 3, 1, List.map eI l27⟩]) (by simp only [Sh.put_len])) ?_; refine Wk.trans (Wk.rk (L := [(0, (.ptr 0 0 0 0)), (4, (.own 2 0 (List.length l27)))]) (st' := [⟨0, 76, 1, [[(.own 1 0 (List.length (Sh.put (Sh.put l3 q13.1 (Cell.mk (Sh.w (c22.count - 1)) c22.tag c22.fields)) q13.1 (Cell.mk 0 0 []))))]]⟩, ⟨0, 41, 3, List.map eCell (Sh.put (Sh.put l3 q13.1 (Cell.mk (Sh.w (c22.count - 1)) c22.tag c22.fields)) q13.1 (Cell.mk 0 0 []))⟩, ⟨0, 3, 1, List.map eI l27⟩]) (.raw rfl rfl rfl (.pure rfl (pure_map fun _ => rfl) (.pure rfl (pure_map fun _ => rfl) .nil))) ⟨.rfl, .rfl, trivial⟩) ?_; exact Wk.to (L := [(0, (.ptr 0 0 0 0)), (4, (.own 2 0 (List.length l27)))]) ⟨.rfl, .rfl, trivial⟩)))
      · replace h1 := Sh.ite_f b25 h1
        exact AW.skip (Exists.intro (Sh.put l3 q13.1 (Cell.mk (Sh.w (c22.count - 1)) c22.tag c22.fields), l15) (And.intro h1 (by refine Wk.trans (Wk.steq (st := [⟨0, 76, 1, [[(.own 1 0 (List.length l3))]]⟩, ⟨0, 41, 3, List.map eCell (Sh.put l3 q13.1 (Cell.mk (Sh.w (c22.count - 1)) c22.tag c22.fields))⟩, ⟨1, 3, 1, List.map eI l15⟩]) (st' := [⟨0, 76, 1, [[(.own 1 0 (List.length (Sh.put l3 q13.1 (Cell.mk (Sh.w (c22.count - 1)) c22.tag c22.fields))))]]⟩, ⟨0, 41, 3, List.map eCell (Sh.put l3 q13.1 (Cell.mk (Sh.w (c22.count - 1)) c22.tag c22.fields))⟩, ⟨1, 3, 1, List.map eI l15⟩]) (by simp only [Sh.put_len])) ?_; refine Wk.trans (Wk.rk (L := [(0, (.ptr 0 0 0 0)), (4, (.own 2 0 (List.length l15)))]) (st' := [⟨0, 76, 1, [[(.own 1 0 (List.length (Sh.put l3 q13.1 (Cell.mk (Sh.w (c22.count - 1)) c22.tag c22.fields))))]]⟩, ⟨0, 41, 3, List.map eCell (Sh.put l3 q13.1 (Cell.mk (Sh.w (c22.count - 1)) c22.tag c22.fields))⟩, ⟨0, 3, 1, List.map eI l15⟩]) (.raw rfl rfl rfl (.pure rfl (pure_map fun _ => rfl) (.pure rfl (pure_map fun _ => rfl) .nil))) ⟨.rfl, .rfl, trivial⟩) ?_; exact Wk.to (L := [(0, (.ptr 0 0 0 0)), (4, (.own 2 0 (List.length l15)))]) ⟨.rfl, .rfl, trivial⟩)))
  · replace h1 := Sh.ite_f b10 h1
    exact AW.exit (M6 l3 (Sh.some_eq h1).symm _ (by refine Wk.trans (Wk.permk (L := [(0, (.ptr 0 0 0 0))]) (st' := [⟨0, 76, 1, [[(.own 1 0 (List.length l3))]]⟩, ⟨0, 41, 3, List.map eCell l3⟩]) (st1 := [⟨0, 76, 1, [[(.own 1 0 (List.length l3))]]⟩, ⟨0, 41, 3, List.map eCell l3⟩]) [0, 1] rfl (.raw rfl rfl (.pure (pure_map fun _ => rfl) .nil)) (by decide) rfl rfl (.raw rfl rfl (.pure (pure_map fun _ => rfl) .nil)) ⟨.rfl, trivial⟩) ?_; exact Wk.to (L := [(0, (.ptr 0 0 0 0))]) ⟨.rfl, trivial⟩))

set_option maxRecDepth 100000 in
set_option maxHeartbeats 4000000 in
theorem impl_DropWord_ok {N : Nat} {p0 : (List Cell)} {p1 : Int} {r : (List Cell) × Bool} (h0 : impl_DropWord N p0 p1 = some r) : ACalls Try.prog 46 [(.sl (List.map eCell p0)), (i64 p1)] [] (fun v st => v = (.tup [(.own 0 0 (List.length r.1)), (.bool r.2)]) ∧ st = [⟨0, 41, 3, List.map eCell r.1⟩]) := by
  unfold impl_DropWord at h0
  refine ACalls.intro Try.func46 rfl (by show 2 ≤ 46; decide) ?_
  show AW _ 0 _ (aret _ 0 Try.f46 _) ⟨46, _, _⟩
  refine AW.weaken (Wk.to (L := [(0, (.sl (List.map eCell p0))), (1, (i64 p1))]) ⟨.rfl, .rfl, trivial⟩) ?_
  refine AW.seq fun K1 hK1 => ?_
  refine AW.regionO (by rfl) ?_
  refine ao_q (v := .zc) go0 rfl (aq_as rfl) ?_
  refine ao_q (v := (.bool false)) go0 rfl (aq_as rfl) ?_
  refine AO.done (hK1 _ ?_)
  refine AW.seq fun K2 hK2 => ?_
  refine AW.regionO (by rfl) ?_
  refine ao_q (v := (.sl (List.map eCell p0))) go0 rfl (aq_mv rfl) ?_
  obtain ⟨q3, gq3, h0⟩ := Sh.bind_some h0
  refine ao_call (v' := (.tup [(.own 0 0 (List.length q3.1)), (.bool q3.2)])) (st' := [⟨0, 3, 1, List.map eI q3.1⟩]) go0 hb63 (impl_checkedHeap_ok gq3) rfl rfl ⟨pure_map fun _ => rfl, trivial⟩ rfl rfl ?_
  refine ao_q (v := (.tup [(.own 0 0 (List.length q3.1)), (.bool q3.2)])) go0 rfl (aq_mv rfl) ?_
  refine ao_q (v := (.own 0 0 (List.length q3.1))) go0 rfl (aq_ex rfl rfl) ?_
  refine ao_q (v := (.bool q3.2)) go0 rfl (aq_ex rfl rfl) ?_
  refine ao_q (v := (.own 0 0 (List.length q3.1))) go0 rfl (aq_as rfl) ?_
  refine ao_q (v := (.bool q3.2)) go0 rfl (aq_as rfl) ?_
  refine AO.done (hK2 _ ?_)
  refine AW.seq fun K4 hK4 => ?_
  refine AW.seq fun K5 hK5 => ?_
  obtain ⟨o7, h1, h0⟩ := Sh.bind_some h0
  have M7 : ∀ (t6 : Bool), o7 = t6 → ∀ s, Wk 0 s ⟨46, envL [(0, (.sl (List.map eCell p0))), (1, (i64 p1)), (6, (.own 0 0 (List.length q3.1))), (23, (.bool t6))], [⟨0, 3, 1, List.map eI q3.1⟩]⟩ → K5 s := by
    intro t6 hq s hw
    subst o7
    try dsimp only at h0
    refine hK5 _ (AW.weaken hw ?_)
    refine AW.cond' (b := t6) rfl (fun b8 => ?_) (fun b8 => ?_)
    · replace h0 := Sh.ite_t b8 h0
      refine AW.seq fun K9 hK9 => ?_
      refine AW.regionO (by rfl) ?_
      refine ao_q (v := .zc) go0 rfl (aq_as rfl) ?_
      refine ao_q (v := (.bool false)) go0 rfl (aq_as rfl) ?_
      refine AO.done (hK9 _ ?_)
      replace h0 := Sh.some_eq h0
      subst r
      exact AW.ret (Exists.intro _ (And.intro ((((Wk.adopt (t := 4) rfl 41 (size := 3) (by decide)).trans (Wk.to (L := [(4, (.own 1 0 (List.length ([] : List Cell)))), (5, (.bool false))]) ⟨.rfl, .rfl, trivial⟩)).trans (Wk.permk (L := [(4, (.own 0 0 (List.length ([] : List Cell)))), (5, (.bool false))]) (st' := [⟨0, 41, 3, List.map eCell ([] : List Cell)⟩]) (st1 := [⟨0, 41, 3, List.map eCell ([] : List Cell)⟩]) [1] rfl .nil (by decide) rfl rfl (.pure (pure_map fun _ => rfl) .nil) ⟨.rfl, .rfl, trivial⟩)).trans (Wk.to (L := [(4, (.own 0 0 (List.length ([] : List Cell)))), (5, (.bool false))]) ⟨.rfl, .rfl, trivial⟩)) (And.intro rfl rfl)))
    · replace h0 := Sh.ite_f b8 h0
      refine AW.skip (hK4 _ ?_)
      refine AW.seq fun K10 hK10 => ?_
      refine AW.regionO (by rfl) ?_
      refine ao_q (v := (.sl (List.map eCell p0))) go0 rfl (aq_mv rfl) ?_
      obtain ⟨q11, gq11, h0⟩ := Sh.bind_some h0
      refine ao_call (v' := (.own 1 0 (List.length q11))) (st' := [⟨0, 3, 1, List.map eI q3.1⟩, ⟨0, 41, 3, List.map eCell q11⟩]) go0 hb79 (impl_cloneHeap_ok gq11) rfl rfl ⟨pure_map fun _ => rfl, trivial⟩ rfl rfl ?_
      refine ao_alloc (m := 2) (st' := [⟨0, 3, 1, List.map eI q3.1⟩, ⟨0, 41, 3, List.map eCell q11⟩, ⟨0, 76, 1, [[.zc]]⟩]) go0 zi76 rfl rfl ?_
      refine ao_str (st' := [⟨0, 3, 1, List.map eI q3.1⟩, ⟨0, 41, 3, List.map eCell q11⟩, ⟨0, 76, 1, [[(.own 1 0 (List.length q11))]]⟩]) go0 ti76 rfl rfl rfl rfl rfl rfl (show 0 + 1 ≤ 1 by decide) rfl ?_
      refine AO.done (hK10 _ ?_)
      refine AW.seq fun K12 hK12 => ?_
      obtain ⟨o14, h1, h0⟩ := Sh.cont_some h0
      have M14 : ∀ (l13 : (List Cell)), o14 = Sum.inr l13 → ∀ s, Wk 0 s ⟨46, envL [(8, (.ptr 1 0 0 0))], [⟨0, 41, 3, List.map eCell l13⟩, ⟨0, 76, 1, [[(.own 0 0 (List.length l13))]]⟩]⟩ → K12 s := by
        intro l13 hq s hw
        subst o14
        try dsimp only at h0
        refine hK12 _ (AW.weaken hw ?_)
        refine AW.seq fun K15 hK15 => ?_
        refine AW.regionO (by rfl) ?_
        refine ao_q (v := (.own 0 0 (List.length l13))) go0 rfl (aq_ldp ti76 rfl rfl rfl rfl) ?_
        refine ao_q (v := (.own 0 0 (List.length l13))) go0 rfl (aq_as rfl) ?_
        refine ao_q (v := (.bool true)) go0 rfl (aq_as rfl) ?_
        refine AO.done (hK15 _ ?_)
        replace h0 := Sh.some_eq h0
        subst r
        exact AW.ret (Exists.intro _ (And.intro ((Wk.permk (L := [(4, (.own 0 0 (List.length l13))), (5, (.bool true))]) (st' := [⟨0, 41, 3, List.map eCell l13⟩]) (st1 := [⟨0, 41, 3, List.map eCell l13⟩]) [0] rfl .nil (by decide) rfl rfl (.pure (pure_map fun _ => rfl) .nil) ⟨.rfl, .rfl, trivial⟩).trans (Wk.to (L := [(4, (.own 0 0 (List.length l13))), (5, (.bool true))]) ⟨.rfl, .rfl, trivial⟩)) (And.intro rfl rfl)))
      refine AW.seq fun K16 hK16 => ?_
      refine AW.regionO (by rfl) ?_
      refine ao_q (v := (.sl (List.map eCell p0))) go0 rfl (aq_mv rfl) ?_
      refine ao_q (v := (i64 p1)) go0 rfl (aq_mv rfl) ?_
      obtain ⟨q17, gq17, h1⟩ := Sh.bind_some h1
      refine ao_call (v' := (.tup [(i64 q17.1), (.bool q17.2)])) (st' := [⟨0, 3, 1, List.map eI q3.1⟩, ⟨0, 41, 3, List.map eCell q11⟩, ⟨0, 76, 1, [[(.own 1 0 (List.length q11))]]⟩]) go0 hb71 (impl_liveAt_ok gq17) rfl rfl trivial rfl rfl ?_
      refine ao_q (v := (.tup [(i64 q17.1), (.bool q17.2)])) go0 rfl (aq_mv rfl) ?_
      refine ao_q (v := (i64 q17.1)) go0 rfl (aq_ex rfl rfl) ?_
      refine ao_q (v := (.bool q17.2)) go0 rfl (aq_ex rfl rfl) ?_
      refine ao_q (v := (i64 q17.1)) go0 rfl (aq_as rfl) ?_
      refine ao_q (v := (.bool q17.2)) go0 rfl (aq_as rfl) ?_
      refine AO.done (hK16 _ ?_)
      refine AW.seq fun K18 hK18 => ?_
      refine AW.regionO (by rfl) ?_
      refine ao_q (v := (.bool q17.2)) go0 rfl (aq_mv rfl) ?_
      refine AO.done (hK18 _ ?_)
      refine AW.cond' (b := q17.2) rfl (fun b19 => ?_) (fun b19 => ?_)
      · replace h1 := Sh.ite_t b19 h1
        refine AW.seq fun K20 hK20 => ?_
        refine AW.seq fun K21 hK21 => ?_
        refine AW.draw (by kernel_rfl) (by kernel_rfl) (by rfl) ?_
        refine d_q (v := (.sl (List.map eCell p0))) go0 rfl (aq_mv rfl) ?_
        refine d_q (v := (i64 q17.1)) go0 rfl (aq_mv rfl) ?_
        obtain ⟨c22, gc22, h1⟩ := Sh.bind_some h1
        refine d_q (v := (.iptr (eCell c22) 0)) go0 rfl (aq_ixs ei25 rfl rfl gc22 rfl) ?_
        refine d_q (v := (.iptr (eCell c22) 0)) go0 rfl (aq_fai fi41_0 rfl rfl) ?_
        refine d_q (v := (i64 c22.count)) go0 rfl (aq_ldi ti3 rfl rfl) ?_
        refine d_q (v := (.own 0 0 (List.length q3.1))) go0 rfl (aq_mv rfl) ?_
        refine d_q (v := (i64 q17.1)) go0 rfl (aq_mv rfl) ?_
        obtain ⟨c23, gc23, h1⟩ := Sh.bind_some h1
        refine d_q (v := (.ptr 0 0 (Int.toNat q17.1) 0)) go0 rfl (aq_ixo ei32 rfl rfl rfl rfl gc23) ?_
        refine d_q (v := (i64 c23)) go0 rfl (aq_ldp ti3 rfl rfl (map_get gc23) rfl) ?_
        refine d_q (v := (.bool (decide (c22.count = c23)))) go0 rfl (aq_eq rfl rfl) ?_
        refine d_done (hK21 _ ?_)
        refine AW.cond' (b := decide (c22.count = c23)) rfl (fun b24 => ?_) (fun b24 => ?_)
        · replace h1 := Sh.ite_t b24 h1
          refine AW.seq fun K25 hK25 => ?_
          refine AW.regionO (by rfl) ?_
          refine ao_q (v := .zc) go0 rfl (aq_as rfl) ?_
          refine ao_q (v := (.bool false)) go0 rfl (aq_as rfl) ?_
          refine AO.done (hK25 _ ?_)
          replace h1 := Sh.some_eq h1
          subst o14
          try dsimp only [id] at h0
          replace h0 := Sh.some_eq h0
          subst r
          exact AW.ret (Exists.intro _ (And.intro ((((Wk.adopt (t := 4) rfl 41 (size := 3) (by decide)).trans (Wk.to (L := [(4, (.own 3 0 (List.length ([] : List Cell)))), (5, (.bool false))]) ⟨.rfl, .rfl, trivial⟩)).trans (Wk.permk (L := [(4, (.own 0 0 (List.length ([] : List Cell)))), (5, (.bool false))]) (st' := [⟨0, 41, 3, List.map eCell ([] : List Cell)⟩]) (st1 := [⟨0, 41, 3, List.map eCell ([] : List Cell)⟩]) [3] rfl .nil (by decide) rfl rfl (.pure (pure_map fun _ => rfl) .nil) ⟨.rfl, .rfl, trivial⟩)).trans (Wk.to (L := [(4, (.own 0 0 (List.length ([] : List Cell)))), (5, (.bool false))]) ⟨.rfl, .rfl, trivial⟩)) (And.intro rfl rfl)))
        · replace h1 := Sh.ite_f b24 h1
          refine AW.skip (hK20 _ ?_)
          refine AW.regionO (by rfl) ?_
          refine ao_q (v := (i64 p1)) go0 rfl (aq_mv rfl) ?_
          obtain ⟨q26, gq26, h1⟩ := Sh.bind_some h1
          refine ao_calls (rowsP := [⟨0, 76, 1, [[(.own 1 0 (List.length q11))]]⟩, ⟨0, 41, 3, List.map eCell q11⟩]) (rows0 := [⟨0, 76, 1, [[(.own 1 0 (List.length q11))]]⟩, ⟨0, 41, 3, List.map eCell q11⟩]) (rows1 := [⟨0, 76, 1, [[(.own 1 1 (List.length q26))]]⟩, ⟨1, 41, 3, List.map eCell q26⟩]) (rows2 := []) (rows1' := [⟨0, 76, 1, [[(.own 1 1 (List.length q26))]]⟩, ⟨1, 41, 3, List.map eCell q26⟩]) (rows2' := []) (st' := [⟨0, 3, 1, List.map eI q3.1⟩, ⟨1, 41, 3, List.map eCell q26⟩, ⟨0, 76, 1, [[(.own 1 1 (List.length q26))]]⟩]) (v' := (.tup [])) [2, 1] go0 hb86 (impl_heap_drop_ok gq26) rfl (by decide) rfl rfl (.raw rfl rfl (.pure (pure_map fun _ => rfl) .nil)) rfl rfl (.raw rfl rfl (.pure (pure_map fun _ => rfl) .nil)) .nil rfl rfl ?_
          exact AO.done (M14 q26 (Sh.some_eq h1).symm _ (by refine Wk.trans (Wk.rg (L := [(8, (.ptr 2 0 0 0))]) (st' := [⟨0, 3, 1, List.map eI q3.1⟩, ⟨0, 41, 3, List.map eCell q26⟩, ⟨0, 76, 1, [[(.own 1 0 (List.length q26))]]⟩]) (.pure (pure_map fun _ => rfl) (.pure (pure_map fun _ => rfl) (.raw rfl rfl .nil))) ⟨.rfl, trivial⟩) ?_; refine Wk.trans (Wk.permk (L := [(8, (.ptr 1 0 0 0))]) (st' := [⟨0, 41, 3, List.map eCell q26⟩, ⟨0, 76, 1, [[(.own 0 0 (List.length q26))]]⟩]) (st1 := [⟨0, 41, 3, List.map eCell q26⟩, ⟨0, 76, 1, [[(.own 1 0 (List.length q26))]]⟩]) [1, 2] rfl .nil (by decide) rfl rfl (.pure (pure_map fun _ => rfl) (.raw rfl rfl .nil)) ⟨.rfl, trivial⟩) ?_; exact Wk.to (L := [(8, (.ptr 1 0 0 0))]) ⟨.rfl, trivial⟩))
      · replace h1 := Sh.ite_f b19 h1
        exact AW.skip (M14 q11 (Sh.some_eq h1).symm _ (by refine Wk.trans (Wk.permk (L := [(8, (.ptr 1 0 0 0))]) (st' := [⟨0, 41, 3, List.map eCell q11⟩, ⟨0, 76, 1, [[(.own 0 0 (List.length q11))]]⟩]) (st1 := [⟨0, 41, 3, List.map eCell q11⟩, ⟨0, 76, 1, [[(.own 1 0 (List.length q11))]]⟩]) [1, 2] rfl .nil (by decide) rfl rfl (.pure (pure_map fun _ => rfl) (.raw rfl rfl .nil)) ⟨.rfl, trivial⟩) ?_; exact Wk.to (L := [(8, (.ptr 1 0 0 0))]) ⟨.rfl, trivial⟩))
  refine AW.regionO (by rfl) ?_
  refine ao_q (v := (.bool q3.2)) go0 rfl (aq_mv rfl) ?_
  refine ao_q (v := (.bool (!q3.2))) go0 rfl (aq_not rfl) ?_
  refine ao_q (v := (.bool (!q3.2))) go0 rfl (aq_mv rfl) ?_
  rcases Sh.ite_some h1 with ⟨b27, h1⟩ | ⟨b27, h1⟩
  · skip
    refine ao_skip rfl rfl b27 ?_
    refine ao_skip rfl rfl b27 ?_
    refine ao_skip rfl rfl b27 ?_
    refine ao_skip rfl rfl b27 ?_
    refine ao_q (v := (.bool true)) go0 rfl (aq_pkt rfl b27 rfl) ?_
    exact AO.done (M7 true (Sh.some_eq h1).symm _ (Wk.to (L := [(0, (.sl (List.map eCell p0))), (1, (i64 p1)), (6, (.own 0 0 (List.length q3.1))), (23, (.bool true))]) ⟨.rfl, .rfl, .rfl, .rfl, trivial⟩))
  · skip
    refine ao_q (v := (.sl (List.map eCell p0))) (go1 rfl rfl b27) rfl (aq_mv rfl) ?_
    refine ao_q (v := (i64 p1)) (go1 rfl rfl b27) rfl (aq_mv rfl) ?_
    obtain ⟨q28, gq28, h1⟩ := Sh.bind_some h1
    refine ao_call (v' := (.bool q28)) (st' := [⟨0, 3, 1, List.map eI q3.1⟩]) (go1 rfl rfl b27) hb78 (impl_wordValid_ok gq28) rfl rfl trivial rfl rfl ?_
    refine ao_q (v := (.bool (!q28))) (go1 rfl rfl b27) rfl (aq_not rfl) ?_
    refine ao_q (v := (.bool (!q28))) go0 rfl (aq_pkf rfl b27 rfl) ?_
    exact AO.done (M7 (!q28) (Sh.some_eq h1).symm _ (Wk.to (L := [(0, (.sl (List.map eCell p0))), (1, (i64 p1)), (6, (.own 0 0 (List.length q3.1))), (23, (.bool (!q28)))]) ⟨.rfl, .rfl, .rfl, .rfl, trivial⟩))

set_option maxRecDepth 100000 in
set_option maxHeartbeats 4000000 in
theorem spec_copyHeap_2_ok {N : Nat} {p0 : (List Cell)} {r : (List Cell)} (h0 : spec_copyHeap N p0 = some r) : ACalls Try.prog 76 [(.sl (List.map eCell p0))] [] (fun v st => v = (.own 0 0 (List.length r)) ∧ st = [⟨0, 41, 3, List.map eCell r⟩]) := by
  unfold spec_copyHeap at h0
  refine ACalls.intro Try.func76 rfl (by show 1 ≤ 33; decide) ?_
  show AW _ 0 _ (aret _ 0 Try.f76 _) ⟨33, _, _⟩
  refine AW.weaken (Wk.to (L := [(0, (.sl (List.map eCell p0)))]) ⟨.rfl, trivial⟩) ?_
  refine AW.seq fun K1 hK1 => ?_
  refine AW.regionO (by rfl) ?_
  refine ao_q (v := .zc) go0 rfl (aq_as rfl) ?_
  refine AO.done (hK1 _ ?_)
  refine AW.seq fun K2 hK2 => ?_
  refine AW.regionO (by rfl) ?_
  refine ao_bs (m := 0) (st' := [⟨0, 41, 3, List.map eCell ([] : List Cell)⟩]) (l := ([] : List Cell)) (enc := eCell) go0 ei25 (by decide) rfl rfl rfl rfl rfl rfl ?_
  refine ao_q (v := (.own 0 0 (List.length ([] : List Cell)))) go0 rfl (aq_as rfl) ?_
  refine AO.done (hK2 _ ?_)
  refine AW.seq fun K3 hK3 => ?_
  refine AW.seq fun K4 hK4 => ?_
  refine AW.regionO (by rfl) ?_
  refine ao_q (v := (i64 0)) go0 rfl (aq_as rfl) ?_
  refine AO.done (hK4 _ ?_)
  obtain ⟨o8, h1, h0⟩ := Sh.bind_some h0
  have M8 : ∀ (l7 : (List Cell)), o8 = l7 → ∀ s, Wk 0 s ⟨33, envL [(3, (.own 0 0 (List.length l7)))], [⟨0, 41, 3, List.map eCell l7⟩]⟩ → K3 s := by
    intro l7 hq s hw
    subst o8
    try dsimp only at h0
    refine hK3 _ (AW.weaken hw ?_)
    refine AW.seq fun K9 hK9 => ?_
    refine AW.regionO (by rfl) ?_
    refine ao_q (v := (.own 0 0 (List.length l7))) go0 rfl (aq_mv rfl) ?_
    refine ao_q (v := (.own 0 0 (List.length l7))) go0 rfl (aq_as rfl) ?_
    refine AO.done (hK9 _ ?_)
    replace h0 := Sh.some_eq h0
    subst r
    exact AW.ret (Exists.intro _ (And.intro (Wk.to (L := [(2, (.own 0 0 (List.length l7)))]) ⟨.rfl, trivial⟩) (And.intro rfl rfl)))
  refine AW.block (AW.loopF (σ := Int × (List Cell)) (fun n v => spec_copyHeap_L1 p0 n v.1 v.2 = some o8) (fun (i5, l6) => ⟨33, envL [(0, (.sl (List.map eCell p0))), (3, (.own 0 0 (List.length l6))), (4, (i64 i5))], [⟨0, 41, 3, List.map eCell l6⟩]⟩) N (0, []) h1 (Wk.to (L := [(0, (.sl (List.map eCell p0))), (3, (.own 0 0 (List.length ([] : List Cell)))), (4, (i64 0))]) ⟨.rfl, .rfl, .rfl, trivial⟩) (fun _ hv => by rw [spec_copyHeap_L1] at hv; cases hv) ?_)
  rintro n ⟨i5, l6⟩ h1
  try dsimp only at h1 ⊢
  rw [spec_copyHeap_L1] at h1
  refine AW.seq fun K10 hK10 => ?_
  refine AW.seq fun K11 hK11 => ?_
  refine AW.regionO (by rfl) ?_
  refine ao_q (v := (i64 i5)) go0 rfl (aq_mv rfl) ?_
  refine ao_q (v := (.sl (List.map eCell p0))) go0 rfl (aq_mv rfl) ?_
  refine ao_q (v := (i64 (Sh.len p0))) go0 rfl (aq_lens sl25 rfl) ?_
  refine ao_q (v := (.bool (decide (i5 < (Sh.len p0))))) go0 rfl (aq_lt rfl rfl) ?_
  refine AO.done (hK11 _ ?_)
  refine AW.cond' (b := decide (i5 < (Sh.len p0))) rfl (fun b12 => ?_) (fun b12 => ?_)
  · replace h1 := Sh.ite_t b12 h1
    refine AW.skip (hK10 _ ?_)
    refine AW.seq fun K13 hK13 => ?_
    refine AW.block ?_
    refine AW.drawTailO 19 (by kernel_rfl) (by kernel_rfl) (by rfl) ?_
    refine d_q (v := (.own 0 0 (List.length l6))) go0 rfl (aq_mv rfl) ?_
    refine d_q (v := (.sl (List.map eCell p0))) go0 rfl (aq_mv rfl) ?_
    refine d_q (v := (i64 i5)) go0 rfl (aq_mv rfl) ?_
    obtain ⟨c14, gc14, h1⟩ := Sh.bind_some h1
    refine d_q (v := (.iptr (eCell c14) 0)) go0 rfl (aq_ixs ei25 rfl rfl gc14 rfl) ?_
    refine d_q (v := (.iptr (eCell c14) 0)) go0 rfl (aq_fai fi41_0 rfl rfl) ?_
    refine d_q (v := (i64 c14.count)) go0 rfl (aq_ldi ti3 rfl rfl) ?_
    refine d_q (v := (.sl (List.map eCell p0))) go0 rfl (aq_mv rfl) ?_
    refine d_q (v := (i64 i5)) go0 rfl (aq_mv rfl) ?_
    refine d_q (v := (.iptr (eCell c14) 0)) go0 rfl (aq_ixs ei25 rfl rfl gc14 rfl) ?_
    refine d_q (v := (.iptr (eCell c14) 1)) go0 rfl (aq_fai fi41_1 rfl rfl) ?_
    refine d_q (v := (i64 c14.tag)) go0 rfl (aq_ldi ti3 rfl rfl) ?_
    refine d_q (v := (.sl (List.map eCell p0))) go0 rfl (aq_mv rfl) ?_
    refine d_q (v := (i64 i5)) go0 rfl (aq_mv rfl) ?_
    refine d_q (v := (.iptr (eCell c14) 0)) go0 rfl (aq_ixs ei25 rfl rfl gc14 rfl) ?_
    refine d_q (v := (.iptr (eCell c14) 2)) go0 rfl (aq_fai fi41_2 rfl rfl) ?_
    refine d_q (v := (.sl (List.map eI c14.fields))) go0 rfl (aq_ldi ti32 rfl rfl) ?_
    obtain ⟨q15, gq15, h1⟩ := Sh.bind_some h1
    refine d_call (v := (.sl (List.map eI q15))) go0 hb93 (ACalls.wk (spec_copyInts_ok gq15) (by refine Wk.trans (Wk.frz (L := [(0, (.sl (List.map eI q15)))]) (st' := [⟨1, 3, 1, []⟩]) (id := 0) rfl (show 0 ≤ 0 by decide) (pure_map fun _ => rfl) ⟨(.frz rfl), trivial⟩ rfl) ?_; refine Wk.trans (Wk.permk (L := [(0, (.sl (List.map eI q15)))]) (st' := []) (st1 := []) [] rfl .nil (by decide) rfl rfl .nil ⟨.rfl, trivial⟩) ?_; exact Wk.to (L := [(0, (.sl (List.map eI q15)))]) ⟨.rfl, trivial⟩)) rfl rfl rfl ?_
    refine d_q (v := (.agg [(i64 c14.count), (i64 c14.tag), (.sl (List.map eI q15))])) go0 rfl (aq_bd ai41 bi41 zi41 rfl rfl) ?_
    refine d_bs (l := [(Cell.mk c14.count c14.tag q15)]) (enc := eCell) go0 ei25 (by decide) rfl rfl rfl rfl rfl (pure_map fun _ => rfl) ?_
    refine d_done ?_
    obtain ⟨l16, gl16, h1⟩ := Sh.bind_some h1
    refine ao_apo (st' := [⟨1, 41, 3, List.map eCell l16⟩]) (l2 := [(Cell.mk c14.count c14.tag q15)]) go0 ei25 rfl rfl rfl rfl el_s (fun _ => rfl) gl16 rfl ?_
    refine ao_q (v := (.own 0 1 (List.length l16))) go0 rfl (aq_as rfl) ?_
    refine AO.done (hK13 _ ?_)
    refine AW.regionO (by rfl) ?_
    refine ao_q (v := (i64 i5)) go0 rfl (aq_mv rfl) ?_
    refine ao_q (v := (i64 (Sh.w (i5 + 1)))) go0 rfl (aq_add rfl rfl) ?_
    refine ao_q (v := (i64 (Sh.w (i5 + 1)))) go0 rfl (aq_as rfl) ?_
    exact AO.done (Exists.intro (Sh.w (i5 + 1), l16) (And.intro h1 (by refine Wk.trans (Wk.rg (L := [(0, (.sl (List.map eCell p0))), (3, (.own 0 0 (List.length l16))), (4, (i64 (Sh.w (i5 + 1))))]) (st' := [⟨0, 41, 3, List.map eCell l16⟩]) (.pure (pure_map fun _ => rfl) .nil) ⟨.rfl, .rfl, .rfl, trivial⟩) ?_; exact Wk.to (L := [(0, (.sl (List.map eCell p0))), (3, (.own 0 0 (List.length l16))), (4, (i64 (Sh.w (i5 + 1))))]) ⟨.rfl, .rfl, .rfl, trivial⟩)))
  · replace h1 := Sh.ite_f b12 h1
    exact AW.exit (M8 l6 (Sh.some_eq h1).symm _ (Wk.to (L := [(3, (.own 0 0 (List.length l6)))]) ⟨.rfl, trivial⟩))

set_option maxRecDepth 100000 in
set_option maxHeartbeats 4000000 in
theorem spec_DropWord_2_ok {N : Nat} {p0 : (List Cell)} {p1 : Int} {r : (List Cell) × Bool} (h0 : spec_DropWord N p0 p1 = some r) : ACalls Try.prog 45 [(.sl (List.map eCell p0)), (i64 p1)] [] (fun v st => v = (.tup [(.own 0 0 (List.length r.1)), (.bool r.2)]) ∧ st = [⟨0, 41, 3, List.map eCell r.1⟩]) := by
  unfold spec_DropWord at h0
  refine ACalls.intro Try.func45 rfl (by show 2 ≤ 37; decide) ?_
  show AW _ 0 _ (aret _ 0 Try.f45 _) ⟨37, _, _⟩
  refine AW.weaken (Wk.to (L := [(0, (.sl (List.map eCell p0))), (1, (i64 p1))]) ⟨.rfl, .rfl, trivial⟩) ?_
  refine AW.seq fun K1 hK1 => ?_
  refine AW.regionO (by rfl) ?_
  refine ao_q (v := .zc) go0 rfl (aq_as rfl) ?_
  refine ao_q (v := (.bool false)) go0 rfl (aq_as rfl) ?_
  refine AO.done (hK1 _ ?_)
  refine AW.seq fun K2 hK2 => ?_
  refine AW.seq fun K3 hK3 => ?_
  obtain ⟨o5, h1, h0⟩ := Sh.bind_some h0
  have M5 : ∀ (t4 : Bool), o5 = t4 → ∀ s, Wk 0 s ⟨37, envL [(0, (.sl (List.map eCell p0))), (1, (i64 p1)), (14, (.bool t4))], []⟩ → K3 s := by
    intro t4 hq s hw
    subst o5
    try dsimp only at h0
    refine hK3 _ (AW.weaken hw ?_)
    refine AW.cond' (b := t4) rfl (fun b6 => ?_) (fun b6 => ?_)
    · replace h0 := Sh.ite_t b6 h0
      refine AW.seq fun K7 hK7 => ?_
      refine AW.regionO (by rfl) ?_
      refine ao_q (v := .zc) go0 rfl (aq_as rfl) ?_
      refine ao_q (v := (.bool false)) go0 rfl (aq_as rfl) ?_
      refine AO.done (hK7 _ ?_)
      replace h0 := Sh.some_eq h0
      subst r
      exact AW.ret (Exists.intro _ (And.intro (((Wk.adopt (t := 4) rfl 41 (size := 3) (by decide)).trans (Wk.to (L := [(4, (.own 0 0 (List.length ([] : List Cell)))), (5, (.bool false))]) ⟨.rfl, .rfl, trivial⟩)).trans (Wk.to (L := [(4, (.own 0 0 (List.length ([] : List Cell)))), (5, (.bool false))]) ⟨.rfl, .rfl, trivial⟩)) (And.intro rfl rfl)))
    · replace h0 := Sh.ite_f b6 h0
      refine AW.skip (hK2 _ ?_)
      refine AW.seq fun K8 hK8 => ?_
      refine AW.seq fun K9 hK9 => ?_
      obtain ⟨o11, h1, h0⟩ := Sh.bind_some h0
      have M11 : ∀ (t10 : Bool), o11 = t10 → ∀ s, Wk 0 s ⟨37, envL [(0, (.sl (List.map eCell p0))), (1, (i64 p1)), (31, (.bool t10))], []⟩ → K9 s := by
        intro t10 hq s hw
        subst o11
        try dsimp only at h0
        refine hK9 _ (AW.weaken hw ?_)
        refine AW.cond' (b := t10) rfl (fun b12 => ?_) (fun b12 => ?_)
        · replace h0 := Sh.ite_t b12 h0
          refine AW.seq fun K13 hK13 => ?_
          refine AW.regionO (by rfl) ?_
          refine ao_q (v := .zc) go0 rfl (aq_as rfl) ?_
          refine ao_q (v := (.bool false)) go0 rfl (aq_as rfl) ?_
          refine AO.done (hK13 _ ?_)
          replace h0 := Sh.some_eq h0
          subst r
          exact AW.ret (Exists.intro _ (And.intro (((Wk.adopt (t := 4) rfl 41 (size := 3) (by decide)).trans (Wk.to (L := [(4, (.own 0 0 (List.length ([] : List Cell)))), (5, (.bool false))]) ⟨.rfl, .rfl, trivial⟩)).trans (Wk.to (L := [(4, (.own 0 0 (List.length ([] : List Cell)))), (5, (.bool false))]) ⟨.rfl, .rfl, trivial⟩)) (And.intro rfl rfl)))
        · replace h0 := Sh.ite_f b12 h0
          refine AW.skip (hK8 _ ?_)
          refine AW.seq fun K14 hK14 => ?_
          refine AW.regionO (by rfl) ?_
          refine ao_q (v := (.sl (List.map eCell p0))) go0 rfl (aq_mv rfl) ?_
          obtain ⟨q15, gq15, h0⟩ := Sh.bind_some h0
          refine ao_call (v' := (.own 0 0 (List.length q15))) (st' := [⟨0, 41, 3, List.map eCell q15⟩]) go0 hb76 (spec_copyHeap_2_ok gq15) rfl rfl ⟨pure_map fun _ => rfl, trivial⟩ rfl rfl ?_
          refine ao_q (v := (i64 p1)) go0 rfl (aq_mv rfl) ?_
          refine ao_bs (m := 1) (st' := [⟨0, 41, 3, List.map eCell q15⟩, ⟨0, 3, 1, List.map eI [p1]⟩]) (l := [p1]) (enc := eI) go0 ei32 (by decide) rfl rfl rfl rfl rfl rfl ?_
          refine AO.weaken (Wk.frz (L := [(33, (.own 0 0 (List.length q15))), (35, (.sl (List.map eI [p1])))]) (st' := [⟨0, 41, 3, List.map eCell q15⟩, ⟨1, 3, 1, []⟩]) (id := 1) rfl (show 0 ≤ 1 by decide) (pure_map fun _ => rfl) ⟨.rfl, (.frz rfl), trivial⟩ rfl) ?_
          obtain ⟨q16, gq16, h0⟩ := Sh.bind_some h0
          refine ao_calls (rowsP := [⟨0, 41, 3, List.map eCell q15⟩]) (rows0 := [⟨0, 41, 3, List.map eCell q15⟩]) (rows1 := [⟨1, 41, 3, List.map eCell q16⟩]) (rows2 := []) (rows1' := [⟨1, 41, 3, List.map eCell q16⟩]) (rows2' := []) (st' := [⟨1, 41, 3, List.map eCell q16⟩, ⟨1, 3, 1, []⟩]) (v' := (.own 0 1 (List.length q16))) [0] go0 hb85 (spec_dropWords_ok gq16) rfl (by decide) rfl rfl (.pure (pure_map fun _ => rfl) .nil) rfl rfl (.pure (pure_map fun _ => rfl) .nil) .nil rfl rfl ?_
          refine ao_q (v := (.own 0 1 (List.length q16))) go0 rfl (aq_as rfl) ?_
          refine ao_q (v := (.bool true)) go0 rfl (aq_as rfl) ?_
          refine AO.done (hK14 _ ?_)
          replace h0 := Sh.some_eq h0
          subst r
          exact AW.ret (Exists.intro _ (And.intro (((Wk.rg (L := [(4, (.own 0 0 (List.length q16))), (5, (.bool true))]) (st' := [⟨0, 41, 3, List.map eCell q16⟩, ⟨0, 3, 1, []⟩]) (.pure (pure_map fun _ => rfl) (.pure (by intro x hx; cases hx) .nil)) ⟨.rfl, .rfl, trivial⟩).trans (Wk.permk (L := [(4, (.own 0 0 (List.length q16))), (5, (.bool true))]) (st' := [⟨0, 41, 3, List.map eCell q16⟩]) (st1 := [⟨0, 41, 3, List.map eCell q16⟩]) [0] rfl .nil (by decide) rfl rfl (.pure (pure_map fun _ => rfl) .nil) ⟨.rfl, .rfl, trivial⟩)).trans (Wk.to (L := [(4, (.own 0 0 (List.length q16))), (5, (.bool true))]) ⟨.rfl, .rfl, trivial⟩)) (And.intro rfl rfl)))
      refine AW.drawTailO 16 (by kernel_rfl) (by kernel_rfl) (by rfl) ?_
      refine d_q (v := (i64 p1)) go0 rfl (aq_mv rfl) ?_
      obtain ⟨q17, gq17, h1⟩ := Sh.bind_some h1
      refine d_call (v := (.bool q17)) go0 hb77 (spec_isPointer_ok gq17) rfl rfl rfl ?_
      refine d_q (v := (.bool q17)) go0 rfl (aq_mv rfl) ?_
      rcases Sh.ite_some h1 with ⟨b18, h1⟩ | ⟨b18, h1⟩
      · skip
        refine d_q (v := (.sl (List.map eCell p0))) (go1 rfl rfl b18) rfl (aq_mv rfl) ?_
        refine d_q (v := (i64 p1)) (go1 rfl rfl b18) rfl (aq_mv rfl) ?_
        refine d_q (v := (i64 (Sh.w (p1 - 1000)))) (go1 rfl rfl b18) rfl (aq_sub rfl rfl) ?_
        obtain ⟨c19, gc19, h1⟩ := Sh.bind_some h1
        refine d_q (v := (.iptr (eCell c19) 0)) (go1 rfl rfl b18) rfl (aq_ixs ei25 rfl rfl gc19 rfl) ?_
        refine d_q (v := (.iptr (eCell c19) 0)) (go1 rfl rfl b18) rfl (aq_fai fi41_0 rfl rfl) ?_
        refine d_q (v := (i64 c19.count)) (go1 rfl rfl b18) rfl (aq_ldi ti3 rfl rfl) ?_
        refine d_q (v := (.sl (List.map eCell p0))) (go1 rfl rfl b18) rfl (aq_mv rfl) ?_
        obtain ⟨q20, gq20, h1⟩ := Sh.bind_some h1
        refine d_call (v := (.sl (List.map eI q20))) (go1 rfl rfl b18) hb66 (ACalls.wk (spec_refsOf_ok gq20) (by refine Wk.trans (Wk.frz (L := [(0, (.sl (List.map eI q20)))]) (st' := [⟨1, 3, 1, []⟩]) (id := 0) rfl (show 0 ≤ 0 by decide) (pure_map fun _ => rfl) ⟨(.frz rfl), trivial⟩ rfl) ?_; refine Wk.trans (Wk.permk (L := [(0, (.sl (List.map eI q20)))]) (st' := []) (st1 := []) [] rfl .nil (by decide) rfl rfl .nil ⟨.rfl, trivial⟩) ?_; exact Wk.to (L := [(0, (.sl (List.map eI q20)))]) ⟨.rfl, trivial⟩)) rfl rfl rfl ?_
        refine d_q (v := (i64 p1)) (go1 rfl rfl b18) rfl (aq_mv rfl) ?_
        refine d_q (v := (i64 (Sh.w (p1 - 1000)))) (go1 rfl rfl b18) rfl (aq_sub rfl rfl) ?_
        obtain ⟨c21, gc21, h1⟩ := Sh.bind_some h1
        refine d_q (v := (.iptr (eI c21) 0)) (go1 rfl rfl b18) rfl (aq_ixs ei32 rfl rfl gc21 rfl) ?_
        refine d_q (v := (i64 c21)) (go1 rfl rfl b18) rfl (aq_ldi ti3 rfl rfl) ?_
        refine d_q (v := (.bool (decide (c19.count = c21)))) (go1 rfl rfl b18) rfl (aq_eq rfl rfl) ?_
        refine d_done ?_
        refine ao_q (v := (.bool (decide (c19.count = c21)))) go0 rfl (aq_pkt rfl b18 rfl) ?_
        exact AO.done (M11 (decide (c19.count = c21)) (Sh.some_eq h1).symm _ (Wk.to (L := [(0, (.sl (List.map eCell p0))), (1, (i64 p1)), (31, (.bool (decide (c19.count = c21))))]) ⟨.rfl, .rfl, .rfl, trivial⟩))
      · skip
        refine d_skip rfl rfl b18 ?_
        refine d_skip rfl rfl b18 ?_
        refine d_skip rfl rfl b18 ?_
        refine d_skip rfl rfl b18 ?_
        refine d_skip rfl rfl b18 ?_
        refine d_skip rfl rfl b18 ?_
        refine d_skip rfl rfl b18 ?_
        refine d_skip rfl rfl b18 ?_
        refine d_skip rfl rfl b18 ?_
        refine d_skip rfl rfl b18 ?_
        refine d_skip rfl rfl b18 ?_
        refine d_skip rfl rfl b18 ?_
        refine d_skip rfl rfl b18 ?_
        refine d_done ?_
        refine ao_q (v := (.bool false)) go0 rfl (aq_pkf rfl b18 rfl) ?_
        exact AO.done (M11 false (Sh.some_eq h1).symm _ (Wk.to (L := [(0, (.sl (List.map eCell p0))), (1, (i64 p1)), (31, (.bool false))]) ⟨.rfl, .rfl, .rfl, trivial⟩))
  refine AW.regionO (by rfl) ?_
  refine ao_q (v := (.sl (List.map eCell p0))) go0 rfl (aq_mv rfl) ?_
  obtain ⟨q22, gq22, h1⟩ := Sh.bind_some h1
  refine ao_call (v' := (.bool q22)) (st' := []) go0 hb61 (spec_validHeap_ok gq22) rfl rfl trivial rfl rfl ?_
  refine ao_q (v := (.bool (!q22))) go0 rfl (aq_not rfl) ?_
  refine ao_q (v := (.bool (!q22))) go0 rfl (aq_mv rfl) ?_
  rcases Sh.ite_some h1 with ⟨b23, h1⟩ | ⟨b23, h1⟩
  · skip
    refine ao_skip rfl rfl b23 ?_
    refine ao_skip rfl rfl b23 ?_
    refine ao_skip rfl rfl b23 ?_
    refine ao_skip rfl rfl b23 ?_
    refine ao_q (v := (.bool true)) go0 rfl (aq_pkt rfl b23 rfl) ?_
    exact AO.done (M5 true (Sh.some_eq h1).symm _ (Wk.to (L := [(0, (.sl (List.map eCell p0))), (1, (i64 p1)), (14, (.bool true))]) ⟨.rfl, .rfl, .rfl, trivial⟩))
  · skip
    refine ao_q (v := (.sl (List.map eCell p0))) (go1 rfl rfl b23) rfl (aq_mv rfl) ?_
    refine ao_q (v := (i64 p1)) (go1 rfl rfl b23) rfl (aq_mv rfl) ?_
    obtain ⟨q24, gq24, h1⟩ := Sh.bind_some h1
    refine ao_call (v' := (.bool q24)) (st' := []) (go1 rfl rfl b23) hb75 (spec_isWord_ok gq24) rfl rfl trivial rfl rfl ?_
    refine ao_q (v := (.bool (!q24))) (go1 rfl rfl b23) rfl (aq_not rfl) ?_
    refine ao_q (v := (.bool (!q24))) go0 rfl (aq_pkf rfl b23 rfl) ?_
    exact AO.done (M5 (!q24) (Sh.some_eq h1).symm _ (Wk.to (L := [(0, (.sl (List.map eCell p0))), (1, (i64 p1)), (14, (.bool (!q24)))]) ⟨.rfl, .rfl, .rfl, trivial⟩))

set_option maxRecDepth 100000 in
set_option maxHeartbeats 4000000 in
theorem laws_equalInts_ok {N : Nat} {p0 : (List Int)} {p1 : (List Int)} {r : Bool} (h0 : laws_equalInts N p0 p1 = some r) : ACalls Try.prog 54 [(.sl (List.map eI p0)), (.sl (List.map eI p1))] [] (fun v st => v = (.bool r) ∧ st = []) := by
  unfold laws_equalInts at h0
  refine ACalls.intro Try.func54 rfl (by show 2 ≤ 26; decide) ?_
  show AW _ 0 _ (aret _ 0 Try.f54 _) ⟨26, _, _⟩
  refine AW.weaken (Wk.to (L := [(0, (.sl (List.map eI p0))), (1, (.sl (List.map eI p1)))]) ⟨.rfl, .rfl, trivial⟩) ?_
  refine AW.seq fun K1 hK1 => ?_
  refine AW.regionO (by rfl) ?_
  refine ao_q (v := (.bool false)) go0 rfl (aq_as rfl) ?_
  refine AO.done (hK1 _ ?_)
  refine AW.seq fun K2 hK2 => ?_
  refine AW.seq fun K3 hK3 => ?_
  refine AW.regionO (by rfl) ?_
  refine ao_q (v := (.sl (List.map eI p0))) go0 rfl (aq_mv rfl) ?_
  refine ao_q (v := (i64 (Sh.len p0))) go0 rfl (aq_lens sl32 rfl) ?_
  refine ao_q (v := (.sl (List.map eI p1))) go0 rfl (aq_mv rfl) ?_
  refine ao_q (v := (i64 (Sh.len p1))) go0 rfl (aq_lens sl32 rfl) ?_
  refine ao_q (v := (.bool (!decide ((Sh.len p0) = (Sh.len p1))))) go0 rfl (aq_ne rfl rfl) ?_
  refine AO.done (hK3 _ ?_)
  refine AW.cond' (b := !decide ((Sh.len p0) = (Sh.len p1))) rfl (fun b4 => ?_) (fun b4 => ?_)
  · replace h0 := Sh.ite_t b4 h0
    have b5 : decide ((Sh.len p0) = (Sh.len p1)) = false := by simpa using b4
    refine AW.seq fun K6 hK6 => ?_
    refine AW.regionO (by rfl) ?_
    refine ao_q (v := (.bool false)) go0 rfl (aq_as rfl) ?_
    refine AO.done (hK6 _ ?_)
    replace h0 := Sh.some_eq h0
    subst r
    exact AW.ret (Exists.intro _ (And.intro (Wk.to (L := [(4, (.bool false))]) ⟨.rfl, trivial⟩) (And.intro rfl rfl)))
  · replace h0 := Sh.ite_f b4 h0
    have b7 : decide ((Sh.len p0) = (Sh.len p1)) = true := by simpa using b4
    refine AW.skip (hK2 _ ?_)
    refine AW.seq fun K8 hK8 => ?_
    refine AW.seq fun K9 hK9 => ?_
    refine AW.regionO (by rfl) ?_
    refine ao_q (v := (i64 0)) go0 rfl (aq_as rfl) ?_
    refine AO.done (hK9 _ ?_)
    obtain ⟨o11, h1, h0⟩ := Sh.cont_some h0
    have M11 : ∀ (_ : Unit), o11 = Sum.inr () → ∀ s, Wk 0 s ⟨26, envL [], []⟩ → K8 s := by
      intro _ hq s hw
      subst o11
      try dsimp only at h0
      refine hK8 _ (AW.weaken hw ?_)
      refine AW.seq fun K12 hK12 => ?_
      refine AW.regionO (by rfl) ?_
      refine ao_q (v := (.bool true)) go0 rfl (aq_as rfl) ?_
      refine AO.done (hK12 _ ?_)
      replace h0 := Sh.some_eq h0
      subst r
      exact AW.ret (Exists.intro _ (And.intro (Wk.to (L := [(4, (.bool true))]) ⟨.rfl, trivial⟩) (And.intro rfl rfl)))
    refine AW.block (AW.loopF (σ := Int) (fun n v => laws_equalInts_L1 p0 p1 n v = some o11) (fun i10 => ⟨26, envL [(0, (.sl (List.map eI p0))), (1, (.sl (List.map eI p1))), (5, (i64 i10))], []⟩) N 0 h1 (Wk.to (L := [(0, (.sl (List.map eI p0))), (1, (.sl (List.map eI p1))), (5, (i64 0))]) ⟨.rfl, .rfl, .rfl, trivial⟩) (fun _ hv => by rw [laws_equalInts_L1] at hv; cases hv) ?_)
    rintro n i10 h1
    try dsimp only at h1 ⊢
    rw [laws_equalInts_L1] at h1
    refine AW.seq fun K13 hK13 => ?_
    refine AW.seq fun K14 hK14 => ?_
    refine AW.regionO (by rfl) ?_
    refine ao_q (v := (i64 i10)) go0 rfl (aq_mv rfl) ?_
    refine ao_q (v := (.sl (List.map eI p0))) go0 rfl (aq_mv rfl) ?_
    refine ao_q (v := (i64 (Sh.len p0))) go0 rfl (aq_lens sl32 rfl) ?_
    refine ao_q (v := (.bool (decide (i10 < (Sh.len p0))))) go0 rfl (aq_lt rfl rfl) ?_
    refine AO.done (hK14 _ ?_)
    refine AW.cond' (b := decide (i10 < (Sh.len p0))) rfl (fun b15 => ?_) (fun b15 => ?_)
    · replace h1 := Sh.ite_t b15 h1
      refine AW.skip (hK13 _ ?_)
      refine AW.seq fun K16 hK16 => ?_
      refine AW.block ?_
      refine AW.seq fun K17 hK17 => ?_
      refine AW.draw (by kernel_rfl) (by kernel_rfl) (by rfl) ?_
      refine d_q (v := (.sl (List.map eI p0))) go0 rfl (aq_mv rfl) ?_
      refine d_q (v := (i64 i10)) go0 rfl (aq_mv rfl) ?_
      obtain ⟨c18, gc18, h1⟩ := Sh.bind_some h1
      refine d_q (v := (.iptr (eI c18) 0)) go0 rfl (aq_ixs ei32 rfl rfl gc18 rfl) ?_
      refine d_q (v := (i64 c18)) go0 rfl (aq_ldi ti3 rfl rfl) ?_
      refine d_q (v := (.sl (List.map eI p1))) go0 rfl (aq_mv rfl) ?_
      refine d_q (v := (i64 i10)) go0 rfl (aq_mv rfl) ?_
      obtain ⟨c19, gc19, h1⟩ := Sh.bind_some h1
      refine d_q (v := (.iptr (eI c19) 0)) go0 rfl (aq_ixs ei32 rfl rfl gc19 rfl) ?_
      refine d_q (v := (i64 c19)) go0 rfl (aq_ldi ti3 rfl rfl) ?_
      refine d_q (v := (.bool (!decide (c18 = c19)))) go0 rfl (aq_ne rfl rfl) ?_
      refine d_done (hK17 _ ?_)
      refine AW.cond' (b := !decide (c18 = c19)) rfl (fun b20 => ?_) (fun b20 => ?_)
      · replace h1 := Sh.ite_t b20 h1
        have b21 : decide (c18 = c19) = false := by simpa using b20
        refine AW.seq fun K22 hK22 => ?_
        refine AW.regionO (by rfl) ?_
        refine ao_q (v := (.bool false)) go0 rfl (aq_as rfl) ?_
        refine AO.done (hK22 _ ?_)
        replace h1 := Sh.some_eq h1
        subst o11
        try dsimp only [id] at h0
        replace h0 := Sh.some_eq h0
        subst r
        exact AW.ret (Exists.intro _ (And.intro (Wk.to (L := [(4, (.bool false))]) ⟨.rfl, trivial⟩) (And.intro rfl rfl)))
      · replace h1 := Sh.ite_f b20 h1
        have b23 : decide (c18 = c19) = true := by simpa using b20
        refine AW.skip (hK16 _ ?_)
        refine AW.regionO (by rfl) ?_
        refine ao_q (v := (i64 i10)) go0 rfl (aq_mv rfl) ?_
        refine ao_q (v := (i64 (Sh.w (i10 + 1)))) go0 rfl (aq_add rfl rfl) ?_
        refine ao_q (v := (i64 (Sh.w (i10 + 1)))) go0 rfl (aq_as rfl) ?_
        exact AO.done (Exists.intro (Sh.w (i10 + 1)) (And.intro h1 (Wk.to (L := [(0, (.sl (List.map eI p0))), (1, (.sl (List.map eI p1))), (5, (i64 (Sh.w (i10 + 1))))]) ⟨.rfl, .rfl, .rfl, trivial⟩)))
    · replace h1 := Sh.ite_f b15 h1
      exact AW.exit (M11 () (Sh.some_eq h1).symm _ (Wk.to (L := []) trivial))

set_option maxRecDepth 100000 in
set_option maxHeartbeats 4000000 in
theorem laws_equalCell_ok {N : Nat} {p0 : Cell} {p1 : Cell} {r : Bool} (h0 : laws_equalCell N p0 p1 = some r) : ACalls Try.prog 57 [(.agg [(i64 p0.count), (i64 p0.tag), (.sl (List.map eI p0.fields))]), (.agg [(i64 p1.count), (i64 p1.tag), (.sl (List.map eI p1.fields))])] [] (fun v st => v = (.bool r) ∧ st = []) := by
  unfold laws_equalCell at h0
  refine ACalls.intro Try.func57 rfl (by show 2 ≤ 24; decide) ?_
  show AW _ 0 _ (aret _ 0 Try.f57 _) ⟨24, _, _⟩
  refine AW.weaken (Wk.to (L := [(0, (.agg [(i64 p0.count), (i64 p0.tag), (.sl (List.map eI p0.fields))])), (1, (.agg [(i64 p1.count), (i64 p1.tag), (.sl (List.map eI p1.fields))]))]) ⟨.rfl, .rfl, trivial⟩) ?_
  refine AW.seq fun K1 hK1 => ?_
  refine AW.regionO (by rfl) ?_
  refine ao_box (m := 0) (st' := [⟨0, 41, 3, [[(i64 p0.count), (i64 p0.tag), (.sl (List.map eI p0.fields))]]⟩]) go0 rfl rfl rfl rfl rfl ?_
  refine ao_box (m := 1) (st' := [⟨0, 41, 3, [[(i64 p0.count), (i64 p0.tag), (.sl (List.map eI p0.fields))]]⟩, ⟨0, 41, 3, [[(i64 p1.count), (i64 p1.tag), (.sl (List.map eI p1.fields))]]⟩]) go0 rfl rfl rfl rfl rfl ?_
  refine ao_q (v := (.bool false)) go0 rfl (aq_as rfl) ?_
  refine AO.done (hK1 _ ?_)
  refine AW.seq fun K2 hK2 => ?_
  obtain ⟨o4, h1, h0⟩ := Sh.bind_some h0
  have M4 : ∀ (t3 : Bool), o4 = t3 → ∀ s, Wk 0 s ⟨24, envL [(4, (.bool t3))], []⟩ → K2 s := by
    intro t3 hq s hw
    subst o4
    try dsimp only at h0
    refine hK2 _ (AW.weaken hw ?_)
    replace h0 := Sh.some_eq h0
    subst r
    exact AW.ret (Exists.intro _ (And.intro (Wk.to (L := [(4, (.bool t3))]) ⟨.rfl, trivial⟩) (And.intro rfl rfl)))
  refine AW.regionO (by rfl) ?_
  refine ao_q (v := (.ptr 0 0 0 0)) go0 rfl (aq_fap fi41_0 rfl rfl (show 0 + 0 ≤ 3 by decide) rfl) ?_
  refine ao_q (v := (i64 p0.count)) go0 rfl (aq_ldp ti3 rfl rfl rfl rfl) ?_
  refine ao_q (v := (.ptr 1 0 0 0)) go0 rfl (aq_fap fi41_0 rfl rfl (show 0 + 0 ≤ 3 by decide) rfl) ?_
  refine ao_q (v := (i64 p1.count)) go0 rfl (aq_ldp ti3 rfl rfl rfl rfl) ?_
  refine ao_q (v := (.bool (decide (p0.count = p1.count)))) go0 rfl (aq_eq rfl rfl) ?_
  refine ao_q (v := (.bool (decide (p0.count = p1.count)))) go0 rfl (aq_mv rfl) ?_
  rcases Sh.ite_some h1 with ⟨b5, h1⟩ | ⟨b5, h1⟩
  · skip
    refine ao_q (v := (.ptr 0 0 0 1)) (go1 rfl rfl b5) rfl (aq_fap fi41_1 rfl rfl (show 0 + 1 ≤ 3 by decide) rfl) ?_
    refine ao_q (v := (i64 p0.tag)) (go1 rfl rfl b5) rfl (aq_ldp ti3 rfl rfl rfl rfl) ?_
    refine ao_q (v := (.ptr 1 0 0 1)) (go1 rfl rfl b5) rfl (aq_fap fi41_1 rfl rfl (show 0 + 1 ≤ 3 by decide) rfl) ?_
    refine ao_q (v := (i64 p1.tag)) (go1 rfl rfl b5) rfl (aq_ldp ti3 rfl rfl rfl rfl) ?_
    refine ao_q (v := (.bool (decide (p0.tag = p1.tag)))) (go1 rfl rfl b5) rfl (aq_eq rfl rfl) ?_
    refine ao_q (v := (.bool (decide (p0.tag = p1.tag)))) go0 rfl (aq_pkt rfl b5 rfl) ?_
    refine ao_q (v := (.bool (decide (p0.tag = p1.tag)))) go0 rfl (aq_mv rfl) ?_
    rcases Sh.ite_some h1 with ⟨b6, h1⟩ | ⟨b6, h1⟩
    · skip
      refine ao_q (v := (.ptr 0 0 0 2)) (go1 rfl rfl b6) rfl (aq_fap fi41_2 rfl rfl (show 0 + 2 ≤ 3 by decide) rfl) ?_
      refine ao_q (v := (.sl (List.map eI p0.fields))) (go1 rfl rfl b6) rfl (aq_ldp ti32 rfl rfl rfl rfl) ?_
      refine ao_q (v := (.ptr 1 0 0 2)) (go1 rfl rfl b6) rfl (aq_fap fi41_2 rfl rfl (show 0 + 2 ≤ 3 by decide) rfl) ?_
      refine ao_q (v := (.sl (List.map eI p1.fields))) (go1 rfl rfl b6) rfl (aq_ldp ti32 rfl rfl rfl rfl) ?_
      obtain ⟨q7, gq7, h1⟩ := Sh.bind_some h1
      refine ao_call (v' := (.bool q7)) (st' := [⟨0, 41, 3, [[(i64 p0.count), (i64 p0.tag), (.sl (List.map eI p0.fields))]]⟩, ⟨0, 41, 3, [[(i64 p1.count), (i64 p1.tag), (.sl (List.map eI p1.fields))]]⟩]) (go1 rfl rfl b6) hb54 (laws_equalInts_ok gq7) rfl rfl trivial rfl rfl ?_
      refine ao_q (v := (.bool q7)) go0 rfl (aq_pkt rfl b6 rfl) ?_
      refine ao_q (v := (.bool q7)) go0 rfl (aq_as rfl) ?_
      exact AO.done (M4 q7 (Sh.some_eq h1).symm _ (by refine Wk.trans (Wk.permk (L := [(4, (.bool q7))]) (st' := []) (st1 := []) [] rfl .nil (by decide) rfl rfl .nil ⟨.rfl, trivial⟩) ?_; exact Wk.to (L := [(4, (.bool q7))]) ⟨.rfl, trivial⟩))
    · skip
      refine ao_skip rfl rfl b6 ?_
      refine ao_skip rfl rfl b6 ?_
      refine ao_skip rfl rfl b6 ?_
      refine ao_skip rfl rfl b6 ?_
      refine ao_skip rfl rfl b6 ?_
      refine ao_q (v := (.bool false)) go0 rfl (aq_pkf rfl b6 rfl) ?_
      refine ao_q (v := (.bool false)) go0 rfl (aq_as rfl) ?_
      exact AO.done (M4 false (Sh.some_eq h1).symm _ (by refine Wk.trans (Wk.permk (L := [(4, (.bool false))]) (st' := []) (st1 := []) [] rfl .nil (by decide) rfl rfl .nil ⟨.rfl, trivial⟩) ?_; exact Wk.to (L := [(4, (.bool false))]) ⟨.rfl, trivial⟩))
  · skip
    refine ao_skip rfl rfl b5 ?_
    refine ao_skip rfl rfl b5 ?_
    refine ao_skip rfl rfl b5 ?_
    refine ao_skip rfl rfl b5 ?_
    refine ao_skip rfl rfl b5 ?_
    refine ao_q (v := (.bool false)) go0 rfl (aq_pkf rfl b5 rfl) ?_
    refine ao_q (v := (.bool false)) go0 rfl (aq_mv rfl) ?_
    refine ao_skip rfl rfl rfl ?_
    refine ao_skip rfl rfl rfl ?_
    refine ao_skip rfl rfl rfl ?_
    refine ao_skip rfl rfl rfl ?_
    refine ao_skip rfl rfl rfl ?_
    refine ao_q (v := (.bool false)) go0 rfl (aq_pkf rfl rfl rfl) ?_
    refine ao_q (v := (.bool false)) go0 rfl (aq_as rfl) ?_
    exact AO.done (M4 false (Sh.some_eq h1).symm _ (by refine Wk.trans (Wk.permk (L := [(4, (.bool false))]) (st' := []) (st1 := []) [] rfl .nil (by decide) rfl rfl .nil ⟨.rfl, trivial⟩) ?_; exact Wk.to (L := [(4, (.bool false))]) ⟨.rfl, trivial⟩))

set_option maxRecDepth 100000 in
set_option maxHeartbeats 4000000 in
theorem laws_equalHeap_ok {N : Nat} {p0 : (List Cell)} {p1 : (List Cell)} {r : Bool} (h0 : laws_equalHeap N p0 p1 = some r) : ACalls Try.prog 50 [(.sl (List.map eCell p0)), (.sl (List.map eCell p1))] [] (fun v st => v = (.bool r) ∧ st = []) := by
  unfold laws_equalHeap at h0
  refine ACalls.intro Try.func50 rfl (by show 2 ≤ 27; decide) ?_
  show AW _ 0 _ (aret _ 0 Try.f50 _) ⟨27, _, _⟩
  refine AW.weaken (Wk.to (L := [(0, (.sl (List.map eCell p0))), (1, (.sl (List.map eCell p1)))]) ⟨.rfl, .rfl, trivial⟩) ?_
  refine AW.seq fun K1 hK1 => ?_
  refine AW.regionO (by rfl) ?_
  refine ao_q (v := (.bool false)) go0 rfl (aq_as rfl) ?_
  refine AO.done (hK1 _ ?_)
  refine AW.seq fun K2 hK2 => ?_
  refine AW.seq fun K3 hK3 => ?_
  refine AW.regionO (by rfl) ?_
  refine ao_q (v := (.sl (List.map eCell p0))) go0 rfl (aq_mv rfl) ?_
  refine ao_q (v := (i64 (Sh.len p0))) go0 rfl (aq_lens sl25 rfl) ?_
  refine ao_q (v := (.sl (List.map eCell p1))) go0 rfl (aq_mv rfl) ?_
  refine ao_q (v := (i64 (Sh.len p1))) go0 rfl (aq_lens sl25 rfl) ?_
  refine ao_q (v := (.bool (!decide ((Sh.len p0) = (Sh.len p1))))) go0 rfl (aq_ne rfl rfl) ?_
  refine AO.done (hK3 _ ?_)
  refine AW.cond' (b := !decide ((Sh.len p0) = (Sh.len p1))) rfl (fun b4 => ?_) (fun b4 => ?_)
  · replace h0 := Sh.ite_t b4 h0
    have b5 : decide ((Sh.len p0) = (Sh.len p1)) = false := by simpa using b4
    refine AW.seq fun K6 hK6 => ?_
    refine AW.regionO (by rfl) ?_
    refine ao_q (v := (.bool false)) go0 rfl (aq_as rfl) ?_
    refine AO.done (hK6 _ ?_)
    replace h0 := Sh.some_eq h0
    subst r
    exact AW.ret (Exists.intro _ (And.intro (Wk.to (L := [(4, (.bool false))]) ⟨.rfl, trivial⟩) (And.intro rfl rfl)))
  · replace h0 := Sh.ite_f b4 h0
    have b7 : decide ((Sh.len p0) = (Sh.len p1)) = true := by simpa using b4
    refine AW.skip (hK2 _ ?_)
    refine AW.seq fun K8 hK8 => ?_
    refine AW.seq fun K9 hK9 => ?_
    refine AW.regionO (by rfl) ?_
    refine ao_q (v := (i64 0)) go0 rfl (aq_as rfl) ?_
    refine AO.done (hK9 _ ?_)
    obtain ⟨o11, h1, h0⟩ := Sh.cont_some h0
    have M11 : ∀ (_ : Unit), o11 = Sum.inr () → ∀ s, Wk 0 s ⟨27, envL [], []⟩ → K8 s := by
      intro _ hq s hw
      subst o11
      try dsimp only at h0
      refine hK8 _ (AW.weaken hw ?_)
      refine AW.seq fun K12 hK12 => ?_
      refine AW.regionO (by rfl) ?_
      refine ao_q (v := (.bool true)) go0 rfl (aq_as rfl) ?_
      refine AO.done (hK12 _ ?_)
      replace h0 := Sh.some_eq h0
      subst r
      exact AW.ret (Exists.intro _ (And.intro (Wk.to (L := [(4, (.bool true))]) ⟨.rfl, trivial⟩) (And.intro rfl rfl)))
    refine AW.block (AW.loopF (σ := Int) (fun n v => laws_equalHeap_L1 N p0 p1 n v = some o11) (fun i10 => ⟨27, envL [(0, (.sl (List.map eCell p0))), (1, (.sl (List.map eCell p1))), (5, (i64 i10))], []⟩) N 0 h1 (Wk.to (L := [(0, (.sl (List.map eCell p0))), (1, (.sl (List.map eCell p1))), (5, (i64 0))]) ⟨.rfl, .rfl, .rfl, trivial⟩) (fun _ hv => by rw [laws_equalHeap_L1] at hv; cases hv) ?_)
    rintro n i10 h1
    try dsimp only at h1 ⊢
    rw [laws_equalHeap_L1] at h1
    refine AW.seq fun K13 hK13 => ?_
    refine AW.seq fun K14 hK14 => ?_
    refine AW.regionO (by rfl) ?_
    refine ao_q (v := (i64 i10)) go0 rfl (aq_mv rfl) ?_
    refine ao_q (v := (.sl (List.map eCell p0))) go0 rfl (aq_mv rfl) ?_
    refine ao_q (v := (i64 (Sh.len p0))) go0 rfl (aq_lens sl25 rfl) ?_
    refine ao_q (v := (.bool (decide (i10 < (Sh.len p0))))) go0 rfl (aq_lt rfl rfl) ?_
    refine AO.done (hK14 _ ?_)
    refine AW.cond' (b := decide (i10 < (Sh.len p0))) rfl (fun b15 => ?_) (fun b15 => ?_)
    · replace h1 := Sh.ite_t b15 h1
      refine AW.skip (hK13 _ ?_)
      refine AW.seq fun K16 hK16 => ?_
      refine AW.block ?_
      refine AW.seq fun K17 hK17 => ?_
      refine AW.draw (by kernel_rfl) (by kernel_rfl) (by rfl) ?_
      refine d_q (v := (.sl (List.map eCell p0))) go0 rfl (aq_mv rfl) ?_
      refine d_q (v := (i64 i10)) go0 rfl (aq_mv rfl) ?_
      obtain ⟨c18, gc18, h1⟩ := Sh.bind_some h1
      refine d_q (v := (.iptr (eCell c18) 0)) go0 rfl (aq_ixs ei25 rfl rfl gc18 rfl) ?_
      refine d_q (v := (.agg [(i64 c18.count), (i64 c18.tag), (.sl (List.map eI c18.fields))])) go0 rfl (aq_ldia ti41 rfl (show 0 + 3 ≤ 3 by decide) rfl) ?_
      refine d_q (v := (.sl (List.map eCell p1))) go0 rfl (aq_mv rfl) ?_
      refine d_q (v := (i64 i10)) go0 rfl (aq_mv rfl) ?_
      obtain ⟨c19, gc19, h1⟩ := Sh.bind_some h1
      refine d_q (v := (.iptr (eCell c19) 0)) go0 rfl (aq_ixs ei25 rfl rfl gc19 rfl) ?_
      refine d_q (v := (.agg [(i64 c19.count), (i64 c19.tag), (.sl (List.map eI c19.fields))])) go0 rfl (aq_ldia ti41 rfl (show 0 + 3 ≤ 3 by decide) rfl) ?_
      obtain ⟨q20, gq20, h1⟩ := Sh.bind_some h1
      refine d_call (v := (.bool q20)) go0 hb57 (laws_equalCell_ok gq20) rfl rfl rfl ?_
      refine d_q (v := (.bool (!q20))) go0 rfl (aq_not rfl) ?_
      refine d_done (hK17 _ ?_)
      refine AW.cond' (b := !q20) rfl (fun b21 => ?_) (fun b21 => ?_)
      · replace h1 := Sh.ite_t b21 h1
        have b22 : q20 = false := by simpa using b21
        refine AW.seq fun K23 hK23 => ?_
        refine AW.regionO (by rfl) ?_
        refine ao_q (v := (.bool false)) go0 rfl (aq_as rfl) ?_
        refine AO.done (hK23 _ ?_)
        replace h1 := Sh.some_eq h1
        subst o11
        try dsimp only [id] at h0
        replace h0 := Sh.some_eq h0
        subst r
        exact AW.ret (Exists.intro _ (And.intro (Wk.to (L := [(4, (.bool false))]) ⟨.rfl, trivial⟩) (And.intro rfl rfl)))
      · replace h1 := Sh.ite_f b21 h1
        have b24 : q20 = true := by simpa using b21
        refine AW.skip (hK16 _ ?_)
        refine AW.regionO (by rfl) ?_
        refine ao_q (v := (i64 i10)) go0 rfl (aq_mv rfl) ?_
        refine ao_q (v := (i64 (Sh.w (i10 + 1)))) go0 rfl (aq_add rfl rfl) ?_
        refine ao_q (v := (i64 (Sh.w (i10 + 1)))) go0 rfl (aq_as rfl) ?_
        exact AO.done (Exists.intro (Sh.w (i10 + 1)) (And.intro h1 (Wk.to (L := [(0, (.sl (List.map eCell p0))), (1, (.sl (List.map eCell p1))), (5, (i64 (Sh.w (i10 + 1))))]) ⟨.rfl, .rfl, .rfl, trivial⟩)))
    · replace h1 := Sh.ite_f b15 h1
      exact AW.exit (M11 () (Sh.some_eq h1).symm _ (Wk.to (L := []) trivial))

set_option maxRecDepth 100000 in
set_option maxHeartbeats 4000000 in
theorem laws_liveIn_ok {N : Nat} {p0 : (List Cell)} {r : (List Int)} (h0 : laws_liveIn N p0 = some r) : ACalls Try.prog 48 [(.sl (List.map eCell p0))] [] (fun v st => v = (.own 0 0 (List.length r)) ∧ st = [⟨0, 3, 1, List.map eI r⟩]) := by
  unfold laws_liveIn at h0
  refine ACalls.intro Try.func48 rfl (by show 1 ≤ 23; decide) ?_
  show AW _ 0 _ (aret _ 0 Try.f48 _) ⟨23, _, _⟩
  refine AW.weaken (Wk.to (L := [(0, (.sl (List.map eCell p0)))]) ⟨.rfl, trivial⟩) ?_
  refine AW.seq fun K1 hK1 => ?_
  refine AW.regionO (by rfl) ?_
  refine ao_q (v := .zc) go0 rfl (aq_as rfl) ?_
  refine AO.done (hK1 _ ?_)
  refine AW.seq fun K2 hK2 => ?_
  refine AW.regionO (by rfl) ?_
  refine ao_bs (m := 0) (st' := [⟨0, 3, 1, List.map eI ([] : List Int)⟩]) (l := ([] : List Int)) (enc := eI) go0 ei32 (by decide) rfl rfl rfl rfl rfl rfl ?_
  refine ao_q (v := (.own 0 0 (List.length ([] : List Int)))) go0 rfl (aq_as rfl) ?_
  refine AO.done (hK2 _ ?_)
  refine AW.seq fun K3 hK3 => ?_
  refine AW.seq fun K4 hK4 => ?_
  refine AW.regionO (by rfl) ?_
  refine ao_q (v := (i64 0)) go0 rfl (aq_as rfl) ?_
  refine AO.done (hK4 _ ?_)
  obtain ⟨o8, h1, h0⟩ := Sh.bind_some h0
  have M8 : ∀ (l7 : (List Int)), o8 = l7 → ∀ s, Wk 0 s ⟨23, envL [(3, (.own 0 0 (List.length l7)))], [⟨0, 3, 1, List.map eI l7⟩]⟩ → K3 s := by
    intro l7 hq s hw
    subst o8
    try dsimp only at h0
    refine hK3 _ (AW.weaken hw ?_)
    refine AW.seq fun K9 hK9 => ?_
    refine AW.regionO (by rfl) ?_
    refine ao_q (v := (.own 0 0 (List.length l7))) go0 rfl (aq_mv rfl) ?_
    refine ao_q (v := (.own 0 0 (List.length l7))) go0 rfl (aq_as rfl) ?_
    refine AO.done (hK9 _ ?_)
    replace h0 := Sh.some_eq h0
    subst r
    exact AW.ret (Exists.intro _ (And.intro (Wk.to (L := [(2, (.own 0 0 (List.length l7)))]) ⟨.rfl, trivial⟩) (And.intro rfl rfl)))
  refine AW.block (AW.loopF (σ := Int × (List Int)) (fun n v => laws_liveIn_L1 p0 n v.1 v.2 = some o8) (fun (i5, l6) => ⟨23, envL [(0, (.sl (List.map eCell p0))), (3, (.own 0 0 (List.length l6))), (4, (i64 i5))], [⟨0, 3, 1, List.map eI l6⟩]⟩) N (0, []) h1 (Wk.to (L := [(0, (.sl (List.map eCell p0))), (3, (.own 0 0 (List.length ([] : List Int)))), (4, (i64 0))]) ⟨.rfl, .rfl, .rfl, trivial⟩) (fun _ hv => by rw [laws_liveIn_L1] at hv; cases hv) ?_)
  rintro n ⟨i5, l6⟩ h1
  try dsimp only at h1 ⊢
  rw [laws_liveIn_L1] at h1
  refine AW.seq fun K10 hK10 => ?_
  refine AW.seq fun K11 hK11 => ?_
  refine AW.regionO (by rfl) ?_
  refine ao_q (v := (i64 i5)) go0 rfl (aq_mv rfl) ?_
  refine ao_q (v := (.sl (List.map eCell p0))) go0 rfl (aq_mv rfl) ?_
  refine ao_q (v := (i64 (Sh.len p0))) go0 rfl (aq_lens sl25 rfl) ?_
  refine ao_q (v := (.bool (decide (i5 < (Sh.len p0))))) go0 rfl (aq_lt rfl rfl) ?_
  refine AO.done (hK11 _ ?_)
  refine AW.cond' (b := decide (i5 < (Sh.len p0))) rfl (fun b12 => ?_) (fun b12 => ?_)
  · replace h1 := Sh.ite_t b12 h1
    refine AW.skip (hK10 _ ?_)
    refine AW.seq fun K13 hK13 => ?_
    obtain ⟨o15, h2, h1⟩ := Sh.bind_some h1
    have M15 : ∀ (l14 : (List Int)), o15 = l14 → ∀ s, Wk 0 s ⟨23, envL [(0, (.sl (List.map eCell p0))), (3, (.own 0 0 (List.length l14))), (4, (i64 i5))], [⟨0, 3, 1, List.map eI l14⟩]⟩ → K13 s := by
      intro l14 hq s hw
      subst o15
      try dsimp only at h1
      refine hK13 _ (AW.weaken hw ?_)
      refine AW.regionO (by rfl) ?_
      refine ao_q (v := (i64 i5)) go0 rfl (aq_mv rfl) ?_
      refine ao_q (v := (i64 (Sh.w (i5 + 1)))) go0 rfl (aq_add rfl rfl) ?_
      refine ao_q (v := (i64 (Sh.w (i5 + 1)))) go0 rfl (aq_as rfl) ?_
      exact AO.done (Exists.intro (Sh.w (i5 + 1), l14) (And.intro h1 (Wk.to (L := [(0, (.sl (List.map eCell p0))), (3, (.own 0 0 (List.length l14))), (4, (i64 (Sh.w (i5 + 1))))]) ⟨.rfl, .rfl, .rfl, trivial⟩)))
    refine AW.block ?_
    refine AW.seq fun K16 hK16 => ?_
    refine AW.regionO (by rfl) ?_
    refine ao_q (v := (.sl (List.map eCell p0))) go0 rfl (aq_mv rfl) ?_
    refine ao_q (v := (i64 i5)) go0 rfl (aq_mv rfl) ?_
    obtain ⟨c17, gc17, h2⟩ := Sh.bind_some h2
    refine ao_q (v := (.iptr (eCell c17) 0)) go0 rfl (aq_ixs ei25 rfl rfl gc17 rfl) ?_
    refine ao_q (v := (.iptr (eCell c17) 0)) go0 rfl (aq_fai fi41_0 rfl rfl) ?_
    refine ao_q (v := (i64 c17.count)) go0 rfl (aq_ldi ti3 rfl rfl) ?_
    refine ao_q (v := (.bool (decide (0 < c17.count)))) go0 rfl (aq_gt rfl rfl) ?_
    refine AO.done (hK16 _ ?_)
    refine AW.cond' (b := decide (0 < c17.count)) rfl (fun b18 => ?_) (fun b18 => ?_)
    · replace h2 := Sh.ite_t b18 h2
      refine AW.regionO (by rfl) ?_
      refine ao_q (v := (.own 0 0 (List.length l6))) go0 rfl (aq_mv rfl) ?_
      refine ao_q (v := (i64 i5)) go0 rfl (aq_mv rfl) ?_
      refine ao_bs (m := 1) (st' := [⟨0, 3, 1, List.map eI l6⟩, ⟨0, 3, 1, List.map eI [i5]⟩]) (l := [i5]) (enc := eI) go0 ei32 (by decide) rfl rfl rfl rfl rfl rfl ?_
      obtain ⟨l19, gl19, h2⟩ := Sh.bind_some h2
      refine ao_apo (st' := [⟨1, 3, 1, List.map eI l19⟩, ⟨0, 3, 1, List.map eI [i5]⟩]) (l2 := [i5]) go0 ei32 rfl rfl rfl rfl (el_o rfl rfl) (fun _ => rfl) gl19 rfl ?_
      refine ao_q (v := (.own 0 1 (List.length l19))) go0 rfl (aq_as rfl) ?_
      exact AO.done (M15 l19 (Sh.some_eq h2).symm _ (by refine Wk.trans (Wk.rg (L := [(0, (.sl (List.map eCell p0))), (3, (.own 0 0 (List.length l19))), (4, (i64 i5))]) (st' := [⟨0, 3, 1, List.map eI l19⟩, ⟨0, 3, 1, List.map eI [i5]⟩]) (.pure (pure_map fun _ => rfl) (.pure (pure_map fun _ => rfl) .nil)) ⟨.rfl, .rfl, .rfl, trivial⟩) ?_; refine Wk.trans (Wk.permk (L := [(0, (.sl (List.map eCell p0))), (3, (.own 0 0 (List.length l19))), (4, (i64 i5))]) (st' := [⟨0, 3, 1, List.map eI l19⟩]) (st1 := [⟨0, 3, 1, List.map eI l19⟩]) [0] rfl .nil (by decide) rfl rfl (.pure (pure_map fun _ => rfl) .nil) ⟨.rfl, .rfl, .rfl, trivial⟩) ?_; exact Wk.to (L := [(0, (.sl (List.map eCell p0))), (3, (.own 0 0 (List.length l19))), (4, (i64 i5))]) ⟨.rfl, .rfl, .rfl, trivial⟩))
    · replace h2 := Sh.ite_f b18 h2
      exact AW.skip (M15 l6 (Sh.some_eq h2).symm _ (Wk.to (L := [(0, (.sl (List.map eCell p0))), (3, (.own 0 0 (List.length l6))), (4, (i64 i5))]) ⟨.rfl, .rfl, .rfl, trivial⟩))
  · replace h1 := Sh.ite_f b12 h1
    exact AW.exit (M8 l6 (Sh.some_eq h1).symm _ (Wk.to (L := [(3, (.own 0 0 (List.length l6)))]) ⟨.rfl, trivial⟩))

set_option maxRecDepth 100000 in
set_option maxHeartbeats 4000000 in
theorem laws_isIn_ok {N : Nat} {p0 : (List Int)} {p1 : Int} {r : Bool} (h0 : laws_isIn N p0 p1 = some r) : ACalls Try.prog 55 [(.sl (List.map eI p0)), (i64 p1)] [] (fun v st => v = (.bool r) ∧ st = []) := by
  unfold laws_isIn at h0
  refine ACalls.intro Try.func55 rfl (by show 2 ≤ 18; decide) ?_
  show AW _ 0 _ (aret _ 0 Try.f55 _) ⟨18, _, _⟩
  refine AW.weaken (Wk.to (L := [(0, (.sl (List.map eI p0))), (1, (i64 p1))]) ⟨.rfl, .rfl, trivial⟩) ?_
  refine AW.seq fun K1 hK1 => ?_
  refine AW.regionO (by rfl) ?_
  refine ao_q (v := (.bool false)) go0 rfl (aq_as rfl) ?_
  refine AO.done (hK1 _ ?_)
  refine AW.seq fun K2 hK2 => ?_
  refine AW.seq fun K3 hK3 => ?_
  refine AW.regionO (by rfl) ?_
  refine ao_q (v := (i64 0)) go0 rfl (aq_as rfl) ?_
  refine AO.done (hK3 _ ?_)
  obtain ⟨o5, h1, h0⟩ := Sh.cont_some h0
  have M5 : ∀ (_ : Unit), o5 = Sum.inr () → ∀ s, Wk 0 s ⟨18, envL [], []⟩ → K2 s := by
    intro _ hq s hw
    subst o5
    try dsimp only at h0
    refine hK2 _ (AW.weaken hw ?_)
    refine AW.seq fun K6 hK6 => ?_
    refine AW.regionO (by rfl) ?_
    refine ao_q (v := (.bool false)) go0 rfl (aq_as rfl) ?_
    refine AO.done (hK6 _ ?_)
    replace h0 := Sh.some_eq h0
    subst r
    exact AW.ret (Exists.intro _ (And.intro (Wk.to (L := [(4, (.bool false))]) ⟨.rfl, trivial⟩) (And.intro rfl rfl)))
  refine AW.block (AW.loopF (σ := Int) (fun n v => laws_isIn_L1 p0 p1 n v = some o5) (fun i4 => ⟨18, envL [(0, (.sl (List.map eI p0))), (1, (i64 p1)), (5, (i64 i4))], []⟩) N 0 h1 (Wk.to (L := [(0, (.sl (List.map eI p0))), (1, (i64 p1)), (5, (i64 0))]) ⟨.rfl, .rfl, .rfl, trivial⟩) (fun _ hv => by rw [laws_isIn_L1] at hv; cases hv) ?_)
  rintro n i4 h1
  try dsimp only at h1 ⊢
  rw [laws_isIn_L1] at h1
  refine AW.seq fun K7 hK7 => ?_
  refine AW.seq fun K8 hK8 => ?_
  refine AW.regionO (by rfl) ?_
  refine ao_q (v := (i64 i4)) go0 rfl (aq_mv rfl) ?_
  refine ao_q (v := (.sl (List.map eI p0))) go0 rfl (aq_mv rfl) ?_
  refine ao_q (v := (i64 (Sh.len p0))) go0 rfl (aq_lens sl32 rfl) ?_
  refine ao_q (v := (.bool (decide (i4 < (Sh.len p0))))) go0 rfl (aq_lt rfl rfl) ?_
  refine AO.done (hK8 _ ?_)
  refine AW.cond' (b := decide (i4 < (Sh.len p0))) rfl (fun b9 => ?_) (fun b9 => ?_)
  · replace h1 := Sh.ite_t b9 h1
    refine AW.skip (hK7 _ ?_)
    refine AW.seq fun K10 hK10 => ?_
    refine AW.block ?_
    refine AW.seq fun K11 hK11 => ?_
    refine AW.regionO (by rfl) ?_
    refine ao_q (v := (.sl (List.map eI p0))) go0 rfl (aq_mv rfl) ?_
    refine ao_q (v := (i64 i4)) go0 rfl (aq_mv rfl) ?_
    obtain ⟨c12, gc12, h1⟩ := Sh.bind_some h1
    refine ao_q (v := (.iptr (eI c12) 0)) go0 rfl (aq_ixs ei32 rfl rfl gc12 rfl) ?_
    refine ao_q (v := (i64 c12)) go0 rfl (aq_ldi ti3 rfl rfl) ?_
    refine ao_q (v := (i64 p1)) go0 rfl (aq_mv rfl) ?_
    refine ao_q (v := (.bool (decide (c12 = p1)))) go0 rfl (aq_eq rfl rfl) ?_
    refine AO.done (hK11 _ ?_)
    refine AW.cond' (b := decide (c12 = p1)) rfl (fun b13 => ?_) (fun b13 => ?_)
    · replace h1 := Sh.ite_t b13 h1
      refine AW.seq fun K14 hK14 => ?_
      refine AW.regionO (by rfl) ?_
      refine ao_q (v := (.bool true)) go0 rfl (aq_as rfl) ?_
      refine AO.done (hK14 _ ?_)
      replace h1 := Sh.some_eq h1
      subst o5
      try dsimp only [id] at h0
      replace h0 := Sh.some_eq h0
      subst r
      exact AW.ret (Exists.intro _ (And.intro (Wk.to (L := [(4, (.bool true))]) ⟨.rfl, trivial⟩) (And.intro rfl rfl)))
    · replace h1 := Sh.ite_f b13 h1
      refine AW.skip (hK10 _ ?_)
      refine AW.regionO (by rfl) ?_
      refine ao_q (v := (i64 i4)) go0 rfl (aq_mv rfl) ?_
      refine ao_q (v := (i64 (Sh.w (i4 + 1)))) go0 rfl (aq_add rfl rfl) ?_
      refine ao_q (v := (i64 (Sh.w (i4 + 1)))) go0 rfl (aq_as rfl) ?_
      exact AO.done (Exists.intro (Sh.w (i4 + 1)) (And.intro h1 (Wk.to (L := [(0, (.sl (List.map eI p0))), (1, (i64 p1)), (5, (i64 (Sh.w (i4 + 1))))]) ⟨.rfl, .rfl, .rfl, trivial⟩)))
  · replace h1 := Sh.ite_f b9 h1
    exact AW.exit (M5 () (Sh.some_eq h1).symm _ (Wk.to (L := []) trivial))

set_option maxRecDepth 100000 in
set_option maxHeartbeats 4000000 in
theorem impl_ValidHeap_ok {N : Nat} {p0 : (List Cell)} {r : Bool} (h0 : impl_ValidHeap N p0 = some r) : ACalls Try.prog 25 [(.sl (List.map eCell p0))] [] (fun v st => v = (.bool r) ∧ st = []) := by
  unfold impl_ValidHeap at h0
  refine ACalls.intro Try.func25 rfl (by show 1 ≤ 11; decide) ?_
  show AW _ 0 _ (aret _ 0 Try.f25 _) ⟨11, _, _⟩
  refine AW.weaken (Wk.to (L := [(0, (.sl (List.map eCell p0)))]) ⟨.rfl, trivial⟩) ?_
  refine AW.seq fun K1 hK1 => ?_
  refine AW.regionO (by rfl) ?_
  refine ao_q (v := (.bool false)) go0 rfl (aq_as rfl) ?_
  refine AO.done (hK1 _ ?_)
  refine AW.seq fun K2 hK2 => ?_
  refine AW.regionO (by rfl) ?_
  refine ao_q (v := (.sl (List.map eCell p0))) go0 rfl (aq_mv rfl) ?_
  obtain ⟨q3, gq3, h0⟩ := Sh.bind_some h0
  refine ao_call (v' := (.tup [(.own 0 0 (List.length q3.1)), (.bool q3.2)])) (st' := [⟨0, 3, 1, List.map eI q3.1⟩]) go0 hb63 (impl_checkedHeap_ok gq3) rfl rfl ⟨pure_map fun _ => rfl, trivial⟩ rfl rfl ?_
  refine ao_q (v := (.tup [(.own 0 0 (List.length q3.1)), (.bool q3.2)])) go0 rfl (aq_mv rfl) ?_
  refine ao_q (v := (.own 0 0 (List.length q3.1))) go0 rfl (aq_ex rfl rfl) ?_
  refine ao_q (v := (.bool q3.2)) go0 rfl (aq_ex rfl rfl) ?_
  refine ao_q (v := (.own 0 0 (List.length q3.1))) go0 rfl (aq_as rfl) ?_
  refine ao_q (v := (.bool q3.2)) go0 rfl (aq_as rfl) ?_
  refine AO.done (hK2 _ ?_)
  refine AW.seq fun K4 hK4 => ?_
  refine AW.regionO (by rfl) ?_
  refine ao_q (v := (.bool q3.2)) go0 rfl (aq_mv rfl) ?_
  refine ao_q (v := (.bool q3.2)) go0 rfl (aq_as rfl) ?_
  refine AO.done (hK4 _ ?_)
  replace h0 := Sh.some_eq h0
  subst r
  exact AW.ret (Exists.intro _ (And.intro ((Wk.permk (L := [(2, (.bool q3.2))]) (st' := []) (st1 := []) [] rfl .nil (by decide) rfl rfl .nil ⟨.rfl, trivial⟩).trans (Wk.to (L := [(2, (.bool q3.2))]) ⟨.rfl, trivial⟩)) (And.intro rfl rfl)))

set_option maxRecDepth 100000 in
set_option maxHeartbeats 4000000 in
theorem laws_within_ok {N : Nat} {p0 : (List Int)} {p1 : (List Int)} {r : Bool} (h0 : laws_within N p0 p1 = some r) : ACalls Try.prog 59 [(.sl (List.map eI p0)), (.sl (List.map eI p1))] [] (fun v st => v = (.bool r) ∧ st = []) := by
  unfold laws_within at h0
  refine ACalls.intro Try.func59 rfl (by show 2 ≤ 19; decide) ?_
  show AW _ 0 _ (aret _ 0 Try.f59 _) ⟨19, _, _⟩
  refine AW.weaken (Wk.to (L := [(0, (.sl (List.map eI p0))), (1, (.sl (List.map eI p1)))]) ⟨.rfl, .rfl, trivial⟩) ?_
  refine AW.seq fun K1 hK1 => ?_
  refine AW.regionO (by rfl) ?_
  refine ao_q (v := (.bool false)) go0 rfl (aq_as rfl) ?_
  refine AO.done (hK1 _ ?_)
  refine AW.seq fun K2 hK2 => ?_
  refine AW.seq fun K3 hK3 => ?_
  refine AW.regionO (by rfl) ?_
  refine ao_q (v := (i64 0)) go0 rfl (aq_as rfl) ?_
  refine AO.done (hK3 _ ?_)
  obtain ⟨o5, h1, h0⟩ := Sh.cont_some h0
  have M5 : ∀ (_ : Unit), o5 = Sum.inr () → ∀ s, Wk 0 s ⟨19, envL [], []⟩ → K2 s := by
    intro _ hq s hw
    subst o5
    try dsimp only at h0
    refine hK2 _ (AW.weaken hw ?_)
    refine AW.seq fun K6 hK6 => ?_
    refine AW.regionO (by rfl) ?_
    refine ao_q (v := (.bool true)) go0 rfl (aq_as rfl) ?_
    refine AO.done (hK6 _ ?_)
    replace h0 := Sh.some_eq h0
    subst r
    exact AW.ret (Exists.intro _ (And.intro (Wk.to (L := [(4, (.bool true))]) ⟨.rfl, trivial⟩) (And.intro rfl rfl)))
  refine AW.block (AW.loopF (σ := Int) (fun n v => laws_within_L1 N p0 p1 n v = some o5) (fun i4 => ⟨19, envL [(0, (.sl (List.map eI p0))), (1, (.sl (List.map eI p1))), (5, (i64 i4))], []⟩) N 0 h1 (Wk.to (L := [(0, (.sl (List.map eI p0))), (1, (.sl (List.map eI p1))), (5, (i64 0))]) ⟨.rfl, .rfl, .rfl, trivial⟩) (fun _ hv => by rw [laws_within_L1] at hv; cases hv) ?_)
  rintro n i4 h1
  try dsimp only at h1 ⊢
  rw [laws_within_L1] at h1
  refine AW.seq fun K7 hK7 => ?_
  refine AW.seq fun K8 hK8 => ?_
  refine AW.regionO (by rfl) ?_
  refine ao_q (v := (i64 i4)) go0 rfl (aq_mv rfl) ?_
  refine ao_q (v := (.sl (List.map eI p0))) go0 rfl (aq_mv rfl) ?_
  refine ao_q (v := (i64 (Sh.len p0))) go0 rfl (aq_lens sl32 rfl) ?_
  refine ao_q (v := (.bool (decide (i4 < (Sh.len p0))))) go0 rfl (aq_lt rfl rfl) ?_
  refine AO.done (hK8 _ ?_)
  refine AW.cond' (b := decide (i4 < (Sh.len p0))) rfl (fun b9 => ?_) (fun b9 => ?_)
  · replace h1 := Sh.ite_t b9 h1
    refine AW.skip (hK7 _ ?_)
    refine AW.seq fun K10 hK10 => ?_
    refine AW.block ?_
    refine AW.seq fun K11 hK11 => ?_
    refine AW.regionO (by rfl) ?_
    refine ao_q (v := (.sl (List.map eI p1))) go0 rfl (aq_mv rfl) ?_
    refine ao_q (v := (.sl (List.map eI p0))) go0 rfl (aq_mv rfl) ?_
    refine ao_q (v := (i64 i4)) go0 rfl (aq_mv rfl) ?_
    obtain ⟨c12, gc12, h1⟩ := Sh.bind_some h1
    refine ao_q (v := (.iptr (eI c12) 0)) go0 rfl (aq_ixs ei32 rfl rfl gc12 rfl) ?_
    refine ao_q (v := (i64 c12)) go0 rfl (aq_ldi ti3 rfl rfl) ?_
    obtain ⟨q13, gq13, h1⟩ := Sh.bind_some h1
    refine ao_call (v' := (.bool q13)) (st' := []) go0 hb55 (laws_isIn_ok gq13) rfl rfl trivial rfl rfl ?_
    refine ao_q (v := (.bool (!q13))) go0 rfl (aq_not rfl) ?_
    refine AO.done (hK11 _ ?_)
    refine AW.cond' (b := !q13) rfl (fun b14 => ?_) (fun b14 => ?_)
    · replace h1 := Sh.ite_t b14 h1
      have b15 : q13 = false := by simpa using b14
      refine AW.seq fun K16 hK16 => ?_
      refine AW.regionO (by rfl) ?_
      refine ao_q (v := (.bool false)) go0 rfl (aq_as rfl) ?_
      refine AO.done (hK16 _ ?_)
      replace h1 := Sh.some_eq h1
      subst o5
      try dsimp only [id] at h0
      replace h0 := Sh.some_eq h0
      subst r
      exact AW.ret (Exists.intro _ (And.intro (Wk.to (L := [(4, (.bool false))]) ⟨.rfl, trivial⟩) (And.intro rfl rfl)))
    · replace h1 := Sh.ite_f b14 h1
      have b17 : q13 = true := by simpa using b14
      refine AW.skip (hK10 _ ?_)
      refine AW.regionO (by rfl) ?_
      refine ao_q (v := (i64 i4)) go0 rfl (aq_mv rfl) ?_
      refine ao_q (v := (i64 (Sh.w (i4 + 1)))) go0 rfl (aq_add rfl rfl) ?_
      refine ao_q (v := (i64 (Sh.w (i4 + 1)))) go0 rfl (aq_as rfl) ?_
      exact AO.done (Exists.intro (Sh.w (i4 + 1)) (And.intro h1 (Wk.to (L := [(0, (.sl (List.map eI p0))), (1, (.sl (List.map eI p1))), (5, (i64 (Sh.w (i4 + 1))))]) ⟨.rfl, .rfl, .rfl, trivial⟩)))
  · replace h1 := Sh.ite_f b9 h1
    exact AW.exit (M5 () (Sh.some_eq h1).symm _ (Wk.to (L := []) trivial))

set_option maxRecDepth 100000 in
set_option maxHeartbeats 4000000 in
theorem impl_indicesOf_ok {N : Nat} {p0 : (List Bool)} {r : (List Int)} (h0 : impl_indicesOf N p0 = some r) : ACalls Try.prog 72 [(.sl (List.map eB p0))] [] (fun v st => v = (.own 0 0 (List.length r)) ∧ st = [⟨0, 3, 1, List.map eI r⟩]) := by
  unfold impl_indicesOf at h0
  refine ACalls.intro Try.func72 rfl (by show 1 ≤ 20; decide) ?_
  show AW _ 0 _ (aret _ 0 Try.f72 _) ⟨20, _, _⟩
  refine AW.weaken (Wk.to (L := [(0, (.sl (List.map eB p0)))]) ⟨.rfl, trivial⟩) ?_
  refine AW.seq fun K1 hK1 => ?_
  refine AW.regionO (by rfl) ?_
  refine ao_q (v := .zc) go0 rfl (aq_as rfl) ?_
  refine AO.done (hK1 _ ?_)
  refine AW.seq fun K2 hK2 => ?_
  refine AW.regionO (by rfl) ?_
  refine ao_q (v := .zc) go0 rfl (aq_as rfl) ?_
  refine AO.done (hK2 _ ?_)
  refine AW.seq fun K3 hK3 => ?_
  refine AW.seq fun K4 hK4 => ?_
  refine AW.regionO (by rfl) ?_
  refine ao_q (v := (.sl (List.map eB p0))) go0 rfl (aq_mv rfl) ?_
  refine ao_q (v := (i64 (Sh.len p0))) go0 rfl (aq_lens sl63 rfl) ?_
  refine ao_q (v := (i64 0)) go0 rfl (aq_mv rfl) ?_
  refine AO.done (hK4 _ ?_)
  obtain ⟨o8, h1, h0⟩ := Sh.bind_some h0
  have M8 : ∀ (l7 : (List Int)), o8 = l7 → ∀ s, Wk 0 s ⟨20, envL [(3, (.own 0 0 (List.length l7)))], [⟨0, 3, 1, List.map eI l7⟩]⟩ → K3 s := by
    intro l7 hq s hw
    subst o8
    try dsimp only at h0
    refine hK3 _ (AW.weaken hw ?_)
    refine AW.seq fun K9 hK9 => ?_
    refine AW.regionO (by rfl) ?_
    refine ao_q (v := (.own 0 0 (List.length l7))) go0 rfl (aq_mv rfl) ?_
    refine ao_q (v := (.own 0 0 (List.length l7))) go0 rfl (aq_as rfl) ?_
    refine AO.done (hK9 _ ?_)
    replace h0 := Sh.some_eq h0
    subst r
    exact AW.ret (Exists.intro _ (And.intro (Wk.to (L := [(2, (.own 0 0 (List.length l7)))]) ⟨.rfl, trivial⟩) (And.intro rfl rfl)))
  refine AW.block (AW.loopF (σ := Int × (List Int)) (fun n v => impl_indicesOf_L1 p0 n v.1 v.2 = some o8) (fun (t5, l6) => ⟨20, envL [(3, (.own 0 0 (List.length l6))), (6, (.sl (List.map eB p0))), (7, (i64 (Sh.len p0))), (8, (i64 t5))], [⟨0, 3, 1, List.map eI l6⟩]⟩) N (0, []) h1 (by refine Wk.trans ((Wk.adopt (t := 3) rfl 3 (size := 1) (by decide)).trans (Wk.to (L := [(3, (.own 0 0 (List.length ([] : List Int)))), (6, (.sl (List.map eB p0))), (7, (i64 (Sh.len p0))), (8, (i64 0))]) ⟨.rfl, .rfl, .rfl, .rfl, trivial⟩)) ?_; exact Wk.to (L := [(3, (.own 0 0 (List.length ([] : List Int)))), (6, (.sl (List.map eB p0))), (7, (i64 (Sh.len p0))), (8, (i64 0))]) ⟨.rfl, .rfl, .rfl, .rfl, trivial⟩) (fun _ hv => by rw [impl_indicesOf_L1] at hv; cases hv) ?_)
  rintro n ⟨t5, l6⟩ h1
  try dsimp only at h1 ⊢
  rw [impl_indicesOf_L1] at h1
  refine AW.seq fun K10 hK10 => ?_
  refine AW.regionO (by rfl) ?_
  refine ao_q (v := (.bool (decide (t5 < (Sh.len p0))))) go0 rfl (aq_lt rfl rfl) ?_
  refine AO.done (hK10 _ ?_)
  refine AW.seq fun K11 hK11 => ?_
  refine AW.cond' (b := decide (t5 < (Sh.len p0))) rfl (fun b12 => ?_) (fun b12 => ?_)
  · replace h1 := Sh.ite_t b12 h1
    refine AW.skip (hK11 _ ?_)
    refine AW.seq fun K13 hK13 => ?_
    obtain ⟨o15, h2, h1⟩ := Sh.bind_some h1
    have M15 : ∀ (l14 : (List Int)), o15 = l14 → ∀ s, Wk 0 s ⟨20, envL [(3, (.own 0 0 (List.length l14))), (6, (.sl (List.map eB p0))), (7, (i64 (Sh.len p0))), (8, (i64 t5))], [⟨0, 3, 1, List.map eI l14⟩]⟩ → K13 s := by
      intro l14 hq s hw
      subst o15
      try dsimp only at h1
      refine hK13 _ (AW.weaken hw ?_)
      refine AW.regionO (by rfl) ?_
      refine ao_q (v := (i64 (Sh.w (t5 + 1)))) go0 rfl (aq_add rfl rfl) ?_
      refine ao_q (v := (i64 (Sh.w (t5 + 1)))) go0 rfl (aq_mv rfl) ?_
      exact AO.done (Exists.intro (Sh.w (t5 + 1), l14) (And.intro h1 (Wk.to (L := [(3, (.own 0 0 (List.length l14))), (6, (.sl (List.map eB p0))), (7, (i64 (Sh.len p0))), (8, (i64 (Sh.w (t5 + 1))))]) ⟨.rfl, .rfl, .rfl, .rfl, trivial⟩)))
    refine AW.block ?_
    refine AW.seq fun K16 hK16 => ?_
    refine AW.regionO (by rfl) ?_
    refine ao_q (v := (i64 t5)) go0 rfl (aq_mv rfl) ?_
    obtain ⟨c17, gc17, h2⟩ := Sh.bind_some h2
    refine ao_q (v := (.iptr (eB c17) 0)) go0 rfl (aq_ixs ei63 rfl rfl gc17 rfl) ?_
    refine ao_q (v := (.bool c17)) go0 rfl (aq_ldi ti4 rfl rfl) ?_
    refine ao_q (v := (i64 t5)) go0 rfl (aq_as rfl) ?_
    refine ao_q (v := (.bool c17)) go0 rfl (aq_as rfl) ?_
    refine AO.done (hK16 _ ?_)
    refine AW.seq fun K18 hK18 => ?_
    refine AW.regionO (by rfl) ?_
    refine ao_q (v := (.bool c17)) go0 rfl (aq_mv rfl) ?_
    refine AO.done (hK18 _ ?_)
    refine AW.cond' (b := c17) rfl (fun b19 => ?_) (fun b19 => ?_)
    · replace h2 := Sh.ite_t b19 h2
      refine AW.regionO (by rfl) ?_
      refine ao_q (v := (.own 0 0 (List.length l6))) go0 rfl (aq_mv rfl) ?_
      refine ao_q (v := (i64 t5)) go0 rfl (aq_mv rfl) ?_
      refine ao_bs (m := 1) (st' := [⟨0, 3, 1, List.map eI l6⟩, ⟨0, 3, 1, List.map eI [t5]⟩]) (l := [t5]) (enc := eI) go0 ei32 (by decide) rfl rfl rfl rfl rfl rfl ?_
      obtain ⟨l20, gl20, h2⟩ := Sh.bind_some h2
      refine ao_apo (st' := [⟨1, 3, 1, List.map eI l20⟩, ⟨0, 3, 1, List.map eI [t5]⟩]) (l2 := [t5]) go0 ei32 rfl rfl rfl rfl (el_o rfl rfl) (fun _ => rfl) gl20 rfl ?_
      refine ao_q (v := (.own 0 1 (List.length l20))) go0 rfl (aq_as rfl) ?_
      exact AO.done (M15 l20 (Sh.some_eq h2).symm _ (by refine Wk.trans (Wk.rg (L := [(3, (.own 0 0 (List.length l20))), (6, (.sl (List.map eB p0))), (7, (i64 (Sh.len p0))), (8, (i64 t5))]) (st' := [⟨0, 3, 1, List.map eI l20⟩, ⟨0, 3, 1, List.map eI [t5]⟩]) (.pure (pure_map fun _ => rfl) (.pure (pure_map fun _ => rfl) .nil)) ⟨.rfl, .rfl, .rfl, .rfl, trivial⟩) ?_; refine Wk.trans (Wk.permk (L := [(3, (.own 0 0 (List.length l20))), (6, (.sl (List.map eB p0))), (7, (i64 (Sh.len p0))), (8, (i64 t5))]) (st' := [⟨0, 3, 1, List.map eI l20⟩]) (st1 := [⟨0, 3, 1, List.map eI l20⟩]) [0] rfl .nil (by decide) rfl rfl (.pure (pure_map fun _ => rfl) .nil) ⟨.rfl, .rfl, .rfl, .rfl, trivial⟩) ?_; exact Wk.to (L := [(3, (.own 0 0 (List.length l20))), (6, (.sl (List.map eB p0))), (7, (i64 (Sh.len p0))), (8, (i64 t5))]) ⟨.rfl, .rfl, .rfl, .rfl, trivial⟩))
    · replace h2 := Sh.ite_f b19 h2
      exact AW.skip (M15 l6 (Sh.some_eq h2).symm _ (Wk.to (L := [(3, (.own 0 0 (List.length l6))), (6, (.sl (List.map eB p0))), (7, (i64 (Sh.len p0))), (8, (i64 t5))]) ⟨.rfl, .rfl, .rfl, .rfl, trivial⟩))
  · replace h1 := Sh.ite_f b12 h1
    exact AW.exit (M8 l6 (Sh.some_eq h1).symm _ (Wk.to (L := [(3, (.own 0 0 (List.length l6)))]) ⟨.rfl, trivial⟩))

set_option maxRecDepth 100000 in
set_option maxHeartbeats 4000000 in
theorem impl_ReachOf_ok {N : Nat} {p0 : (List Cell)} {p1 : (List Int)} {r : (List Int)} (h0 : impl_ReachOf N p0 p1 = some r) : ACalls Try.prog 33 [(.sl (List.map eCell p0)), (.sl (List.map eI p1))] [] (fun v st => v = (.own 0 0 (List.length r)) ∧ st = [⟨0, 3, 1, List.map eI r⟩]) := by
  unfold impl_ReachOf at h0
  refine ACalls.intro Try.func33 rfl (by show 2 ≤ 56; decide) ?_
  show AW _ 0 _ (aret _ 0 Try.f33 _) ⟨56, _, _⟩
  refine AW.weaken (Wk.to (L := [(0, (.sl (List.map eCell p0))), (1, (.sl (List.map eI p1)))]) ⟨.rfl, .rfl, trivial⟩) ?_
  refine AW.seq fun K1 hK1 => ?_
  refine AW.regionO (by rfl) ?_
  refine ao_q (v := .zc) go0 rfl (aq_as rfl) ?_
  refine AO.done (hK1 _ ?_)
  refine AW.seq fun K2 hK2 => ?_
  refine AW.seq fun K3 hK3 => ?_
  refine AW.regionO (by rfl) ?_
  refine ao_q (v := (.sl (List.map eCell p0))) go0 rfl (aq_mv rfl) ?_
  obtain ⟨q4, gq4, h0⟩ := Sh.bind_some h0
  refine ao_call (v' := (.bool q4)) (st' := []) go0 hb25 (impl_ValidHeap_ok gq4) rfl rfl trivial rfl rfl ?_
  refine ao_q (v := (.bool (!q4))) go0 rfl (aq_not rfl) ?_
  refine AO.done (hK3 _ ?_)
  refine AW.cond' (b := !q4) rfl (fun b5 => ?_) (fun b5 => ?_)
  · replace h0 := Sh.ite_t b5 h0
    have b6 : q4 = false := by simpa using b5
    refine AW.seq fun K7 hK7 => ?_
    refine AW.regionO (by rfl) ?_
    refine ao_q (v := .zc) go0 rfl (aq_as rfl) ?_
    refine AO.done (hK7 _ ?_)
    replace h0 := Sh.some_eq h0
    subst r
    exact AW.ret (Exists.intro _ (And.intro (((Wk.adopt (t := 4) rfl 3 (size := 1) (by decide)).trans (Wk.to (L := [(4, (.own 0 0 (List.length ([] : List Int))))]) ⟨.rfl, trivial⟩)).trans (Wk.to (L := [(4, (.own 0 0 (List.length ([] : List Int))))]) ⟨.rfl, trivial⟩)) (And.intro rfl rfl)))
  · replace h0 := Sh.ite_f b5 h0
    have b8 : q4 = true := by simpa using b5
    refine AW.skip (hK2 _ ?_)
    refine AW.seq fun K9 hK9 => ?_
    refine AW.regionO (by rfl) ?_
    refine ao_q (v := (.sl (List.map eCell p0))) go0 rfl (aq_mv rfl) ?_
    refine ao_q (v := (i64 (Sh.len p0))) go0 rfl (aq_lens sl25 rfl) ?_
    obtain ⟨l10, gl10, h0⟩ := Sh.bind_some h0
    refine ao_make (m := 0) (st' := [⟨0, 4, 1, List.map eB l10⟩]) (enc := eB) (u := false) go0 ei63 rfl rfl rfl gl10 rfl rfl ?_
    refine ao_q (v := (.own 0 0 (List.length l10))) go0 rfl (aq_as rfl) ?_
    refine AO.done (hK9 _ ?_)
    refine AW.seq fun K11 hK11 => ?_
    refine AW.regionO (by rfl) ?_
    refine ao_q (v := (.sl (List.map eI p1))) go0 rfl (aq_mv rfl) ?_
    obtain ⟨q12, gq12, h0⟩ := Sh.bind_some h0
    refine ao_call (v' := (.own 1 0 (List.length q12))) (st' := [⟨0, 4, 1, List.map eB l10⟩, ⟨0, 3, 1, List.map eI q12⟩]) go0 hb70 (slices_Clone_int_int_ok gq12) rfl rfl ⟨pure_map fun _ => rfl, trivial⟩ rfl rfl ?_
    refine ao_q (v := (.own 1 0 (List.length q12))) go0 rfl (aq_as rfl) ?_
    refine AO.done (hK11 _ ?_)
    refine AW.seq fun K13 hK13 => ?_
    obtain ⟨o17, h1, h0⟩ := Sh.bind_some h0
    have M17 : ∀ (l16 : (List Bool)), o17 = l16 → ∀ s, Wk 0 s ⟨56, envL [(5, (.own 0 0 (List.length l16)))], [⟨0, 4, 1, List.map eB l16⟩]⟩ → K13 s := by
      intro l16 hq s hw
      subst o17
      try dsimp only at h0
      refine hK13 _ (AW.weaken hw ?_)
      refine AW.seq fun K18 hK18 => ?_
      refine AW.regionO (by rfl) ?_
      refine ao_q (v := (.own 0 0 (List.length l16))) go0 rfl (aq_mv rfl) ?_
      refine AO.weaken (Wk.frz (L := [(54, (.sl (List.map eB l16)))]) (st' := [⟨1, 4, 1, []⟩]) (id := 0) rfl (show 0 ≤ 0 by decide) (pure_map fun _ => rfl) ⟨(.frz rfl), trivial⟩ rfl) ?_
      obtain ⟨q19, gq19, h0⟩ := Sh.bind_some h0
      refine ao_call (v' := (.own 1 0 (List.length q19))) (st' := [⟨1, 4, 1, []⟩, ⟨0, 3, 1, List.map eI q19⟩]) go0 hb72 (impl_indicesOf_ok gq19) rfl rfl ⟨pure_map fun _ => rfl, trivial⟩ rfl rfl ?_
      refine ao_q (v := (.own 1 0 (List.length q19))) go0 rfl (aq_as rfl) ?_
      refine AO.done (hK18 _ ?_)
      replace h0 := Sh.some_eq h0
      subst r
      exact AW.ret (Exists.intro _ (And.intro ((Wk.permk (L := [(4, (.own 0 0 (List.length q19)))]) (st' := [⟨0, 3, 1, List.map eI q19⟩]) (st1 := [⟨0, 3, 1, List.map eI q19⟩]) [1] rfl .nil (by decide) rfl rfl (.pure (pure_map fun _ => rfl) .nil) ⟨.rfl, trivial⟩).trans (Wk.to (L := [(4, (.own 0 0 (List.length q19)))]) ⟨.rfl, trivial⟩)) (And.intro rfl rfl)))
    refine AW.block (AW.loopF (σ := (List Bool) × (List Int)) (fun n v => impl_ReachOf_L1 p0 n v.1 v.2 = some o17) (fun (l14, l15) => ⟨56, envL [(0, (.sl (List.map eCell p0))), (5, (.own 0 0 (List.length l14))), (6, (.own 1 0 (List.length l15)))], [⟨0, 4, 1, List.map eB l14⟩, ⟨0, 3, 1, List.map eI l15⟩]⟩) N (l10, q12) h1 (Wk.to (L := [(0, (.sl (List.map eCell p0))), (5, (.own 0 0 (List.length l10))), (6, (.own 1 0 (List.length q12)))]) ⟨.rfl, .rfl, .rfl, trivial⟩) (fun _ hv => by rw [impl_ReachOf_L1] at hv; cases hv) ?_)
    rintro n ⟨l14, l15⟩ h1
    try dsimp only at h1 ⊢
    rw [impl_ReachOf_L1] at h1
    refine AW.seq fun K20 hK20 => ?_
    refine AW.seq fun K21 hK21 => ?_
    refine AW.regionO (by rfl) ?_
    refine ao_q (v := (.own 1 0 (List.length l15))) go0 rfl (aq_mv rfl) ?_
    refine ao_q (v := (i64 (Sh.len l15))) go0 rfl (aq_leno sl32 rfl rfl rfl) ?_
    refine ao_q (v := (.bool (decide (0 < (Sh.len l15))))) go0 rfl (aq_gt rfl rfl) ?_
    refine AO.done (hK21 _ ?_)
    refine AW.cond' (b := decide (0 < (Sh.len l15))) rfl (fun b22 => ?_) (fun b22 => ?_)
    · replace h1 := Sh.ite_t b22 h1
      refine AW.skip (hK20 _ ?_)
      refine AW.block ?_
      refine AW.seq fun K23 hK23 => ?_
      refine AW.regionO (by rfl) ?_
      refine ao_q (v := (.sl (List.map eCell p0))) go0 rfl (aq_mv rfl) ?_
      refine ao_q (v := (.own 1 0 (List.length l15))) go0 rfl (aq_mv rfl) ?_
      refine ao_q (v := (.own 1 0 (List.length l15))) go0 rfl (aq_mv rfl) ?_
      refine ao_q (v := (i64 (Sh.len l15))) go0 rfl (aq_leno sl32 rfl rfl rfl) ?_
      refine ao_q (v := (i64 (Sh.w ((Sh.len l15) - 1)))) go0 rfl (aq_sub rfl rfl) ?_
      obtain ⟨c24, gc24, h1⟩ := Sh.bind_some h1
      refine ao_q (v := (.ptr 1 0 (Int.toNat (Sh.w ((Sh.len l15) - 1))) 0)) go0 rfl (aq_ixo ei32 rfl rfl rfl rfl gc24) ?_
      refine ao_q (v := (i64 c24)) go0 rfl (aq_ldp ti3 rfl rfl (map_get gc24) rfl) ?_
      obtain ⟨q25, gq25, h1⟩ := Sh.bind_some h1
      refine ao_call (v' := (.tup [(i64 q25.1), (.bool q25.2)])) (st' := [⟨0, 4, 1, List.map eB l14⟩, ⟨0, 3, 1, List.map eI l15⟩]) go0 hb71 (impl_liveAt_ok gq25) rfl rfl trivial rfl rfl ?_
      refine ao_q (v := (.tup [(i64 q25.1), (.bool q25.2)])) go0 rfl (aq_mv rfl) ?_
      refine ao_q (v := (i64 q25.1)) go0 rfl (aq_ex rfl rfl) ?_
      refine ao_q (v := (.bool q25.2)) go0 rfl (aq_ex rfl rfl) ?_
      refine ao_q (v := (i64 q25.1)) go0 rfl (aq_as rfl) ?_
      refine ao_q (v := (.bool q25.2)) go0 rfl (aq_as rfl) ?_
      refine AO.done (hK23 _ ?_)
      refine AW.seq fun K26 hK26 => ?_
      refine AW.regionO (by rfl) ?_
      refine ao_q (v := (.own 1 0 (List.length l15))) go0 rfl (aq_mv rfl) ?_
      refine ao_q (v := (.own 1 0 (List.length l15))) go0 rfl (aq_mv rfl) ?_
      refine ao_q (v := (i64 (Sh.len l15))) go0 rfl (aq_leno sl32 rfl rfl rfl) ?_
      refine ao_q (v := (i64 (Sh.w ((Sh.len l15) - 1)))) go0 rfl (aq_sub rfl rfl) ?_
      obtain ⟨l27, gl27, h1⟩ := Sh.bind_some h1
      refine ao_hio (st' := [⟨0, 4, 1, List.map eB l14⟩, ⟨1, 3, 1, List.map eI l27⟩]) go0 ei32 rfl rfl rfl rfl gl27 rfl ?_
      refine ao_q (v := (.own 1 1 (List.length l27))) go0 rfl (aq_as rfl) ?_
      refine AO.done (hK26 _ ?_)
      refine AW.seq fun K28 hK28 => ?_
      obtain ⟨o30, h2, h1⟩ := Sh.bind_some h1
      have M30 : ∀ (t29 : Bool), o30 = t29 → ∀ s, Wk 0 s ⟨56, envL [(0, (.sl (List.map eCell p0))), (5, (.own 0 0 (List.length l14))), (6, (.own 1 0 (List.length l27))), (7, (i64 q25.1)), (43, (.bool t29))], [⟨0, 4, 1, List.map eB l14⟩, ⟨0, 3, 1, List.map eI l27⟩]⟩ → K28 s := by
        intro t29 hq s hw
        subst o30
        try dsimp only at h1
        refine hK28 _ (AW.weaken hw ?_)
        refine AW.cond' (b := t29) rfl (fun b31 => ?_) (fun b31 => ?_)
        · replace h1 := Sh.ite_t b31 h1
          refine AW.seq fun K32 hK32 => ?_
          refine AW.regionO (by rfl) ?_
          refine ao_q (v := (.own 0 0 (List.length l14))) go0 rfl (aq_mv rfl) ?_
          refine ao_q (v := (i64 q25.1)) go0 rfl (aq_mv rfl) ?_
          obtain ⟨c33, gc33, h1⟩ := Sh.bind_some h1
          refine ao_q (v := (.ptr 0 0 (Int.toNat q25.1) 0)) go0 rfl (aq_ixo ei63 rfl rfl rfl rfl gc33) ?_
          refine ao_stl (st' := [⟨0, 4, 1, List.map eB (Sh.put l14 q25.1 true)⟩, ⟨0, 3, 1, List.map eI l27⟩]) (u' := true) go0 ti4 rfl rfl gc33 rfl rfl rfl (show 0 + 1 ≤ 1 by decide) rfl rfl ?_
          refine AO.done (hK32 _ ?_)
          refine AW.regionO (by rfl) ?_
          refine ao_q (v := (.own 1 0 (List.length l27))) go0 rfl (aq_mv rfl) ?_
          refine ao_q (v := (.sl (List.map eCell p0))) go0 rfl (aq_mv rfl) ?_
          refine ao_q (v := (i64 q25.1)) go0 rfl (aq_mv rfl) ?_
          obtain ⟨c34, gc34, h1⟩ := Sh.bind_some h1
          refine ao_q (v := (.iptr (eCell c34) 0)) go0 rfl (aq_ixs ei25 rfl rfl gc34 rfl) ?_
          refine ao_q (v := (.iptr (eCell c34) 2)) go0 rfl (aq_fai fi41_2 rfl rfl) ?_
          refine ao_q (v := (.sl (List.map eI c34.fields))) go0 rfl (aq_ldi ti32 rfl rfl) ?_
          obtain ⟨l35, gl35, h1⟩ := Sh.bind_some h1
          refine ao_apo (st' := [⟨0, 4, 1, List.map eB (Sh.put l14 q25.1 true)⟩, ⟨1, 3, 1, List.map eI l35⟩]) (l2 := c34.fields) go0 ei32 rfl rfl rfl rfl el_s (fun _ => rfl) gl35 rfl ?_
          refine ao_q (v := (.own 1 1 (List.length l35))) go0 rfl (aq_as rfl) ?_
          exact AO.done (Exists.intro (Sh.put l14 q25.1 true, l35) (And.intro h1 (by refine Wk.trans (Wk.rg (L := [(0, (.sl (List.map eCell p0))), (5, (.own 0 0 (List.length l14))), (6, (.own 1 0 (List.length l35)))]) (st' := [⟨0, 4, 1, List.map eB (Sh.put l14 q25.1 true)⟩, ⟨0, 3, 1, List.map eI l35⟩]) (.pure (pure_map fun _ => rfl) (.pure (pure_map fun _ => rfl) .nil)) ⟨.rfl, .rfl, .rfl, trivial⟩) ?_; exact Wk.to (L := [(0, (.sl (List.map eCell p0))), (5, (.own 0 0 (List.length (Sh.put l14 q25.1 true)))), (6, (.own 1 0 (List.length l35)))]) ⟨.rfl, (.len (by simp only [Sh.put_len])), .rfl, trivial⟩)))
        · replace h1 := Sh.ite_f b31 h1
          exact AW.skip (Exists.intro (l14, l27) (And.intro h1 (Wk.to (L := [(0, (.sl (List.map eCell p0))), (5, (.own 0 0 (List.length l14))), (6, (.own 1 0 (List.length l27)))]) ⟨.rfl, .rfl, .rfl, trivial⟩)))
      refine AW.regionO (by rfl) ?_
      refine ao_q (v := (.bool q25.2)) go0 rfl (aq_mv rfl) ?_
      refine ao_q (v := (.bool q25.2)) go0 rfl (aq_mv rfl) ?_
      rcases Sh.ite_some h2 with ⟨b36, h2⟩ | ⟨b36, h2⟩
      · skip
        refine ao_q (v := (.own 0 0 (List.length l14))) (go1 rfl rfl b36) rfl (aq_mv rfl) ?_
        refine ao_q (v := (i64 q25.1)) (go1 rfl rfl b36) rfl (aq_mv rfl) ?_
        obtain ⟨c37, gc37, h2⟩ := Sh.bind_some h2
        refine ao_q (v := (.ptr 0 0 (Int.toNat q25.1) 0)) (go1 rfl rfl b36) rfl (aq_ixo ei63 rfl rfl rfl rfl gc37) ?_
        refine ao_q (v := (.bool c37)) (go1 rfl rfl b36) rfl (aq_ldp ti4 rfl rfl (map_get gc37) rfl) ?_
        refine ao_q (v := (.bool (!c37))) (go1 rfl rfl b36) rfl (aq_not rfl) ?_
        refine ao_q (v := (.bool (!c37))) go0 rfl (aq_pkt rfl b36 rfl) ?_
        exact AO.done (M30 (!c37) (Sh.some_eq h2).symm _ (by refine Wk.trans (Wk.rg (L := [(0, (.sl (List.map eCell p0))), (5, (.own 0 0 (List.length l14))), (6, (.own 1 0 (List.length l27))), (7, (i64 q25.1)), (43, (.bool (!c37)))]) (st' := [⟨0, 4, 1, List.map eB l14⟩, ⟨0, 3, 1, List.map eI l27⟩]) (.pure (pure_map fun _ => rfl) (.pure (pure_map fun _ => rfl) .nil)) ⟨.rfl, .rfl, .rfl, .rfl, .rfl, trivial⟩) ?_; exact Wk.to (L := [(0, (.sl (List.map eCell p0))), (5, (.own 0 0 (List.length l14))), (6, (.own 1 0 (List.length l27))), (7, (i64 q25.1)), (43, (.bool (!c37)))]) ⟨.rfl, .rfl, .rfl, .rfl, .rfl, trivial⟩))
      · skip
        refine ao_skip rfl rfl b36 ?_
        refine ao_skip rfl rfl b36 ?_
        refine ao_skip rfl rfl b36 ?_
        refine ao_skip rfl rfl b36 ?_
        refine ao_skip rfl rfl b36 ?_
        refine ao_q (v := (.bool false)) go0 rfl (aq_pkf rfl b36 rfl) ?_
        exact AO.done (M30 false (Sh.some_eq h2).symm _ (by refine Wk.trans (Wk.rg (L := [(0, (.sl (List.map eCell p0))), (5, (.own 0 0 (List.length l14))), (6, (.own 1 0 (List.length l27))), (7, (i64 q25.1)), (43, (.bool false))]) (st' := [⟨0, 4, 1, List.map eB l14⟩, ⟨0, 3, 1, List.map eI l27⟩]) (.pure (pure_map fun _ => rfl) (.pure (pure_map fun _ => rfl) .nil)) ⟨.rfl, .rfl, .rfl, .rfl, .rfl, trivial⟩) ?_; exact Wk.to (L := [(0, (.sl (List.map eCell p0))), (5, (.own 0 0 (List.length l14))), (6, (.own 1 0 (List.length l27))), (7, (i64 q25.1)), (43, (.bool false))]) ⟨.rfl, .rfl, .rfl, .rfl, .rfl, trivial⟩))
    · replace h1 := Sh.ite_f b22 h1
      exact AW.exit (M17 l14 (Sh.some_eq h1).symm _ (by refine Wk.trans (Wk.permk (L := [(5, (.own 0 0 (List.length l14)))]) (st' := [⟨0, 4, 1, List.map eB l14⟩]) (st1 := [⟨0, 4, 1, List.map eB l14⟩]) [0] rfl .nil (by decide) rfl rfl (.pure (pure_map fun _ => rfl) .nil) ⟨.rfl, trivial⟩) ?_; exact Wk.to (L := [(5, (.own 0 0 (List.length l14)))]) ⟨.rfl, trivial⟩))

set_option maxRecDepth 100000 in
set_option maxHeartbeats 4000000 in
theorem laws_FnDropWord_ok {N : Nat} {p0 : (List Int)} {r : Bool} (h0 : laws_FnDropWord N p0 = some r) : ACalls Try.prog 21 [(.sl (List.map eI_u8 p0))] [] (fun v st => v = (.bool r) ∧ st = []) := by
  unfold laws_FnDropWord at h0
  refine ACalls.intro Try.func21 rfl (by show 1 ≤ 94; decide) ?_
  show AW _ 0 _ (aret _ 0 Try.f21 _) ⟨94, _, _⟩
  refine AW.weaken (Wk.to (L := [(0, (.sl (List.map eI_u8 p0)))]) ⟨.rfl, trivial⟩) ?_
  refine AW.seq fun K1 hK1 => ?_
  refine AW.regionO (by rfl) ?_
  refine ao_q (v := (.bool false)) go0 rfl (aq_as rfl) ?_
  refine AO.done (hK1 _ ?_)
  refine AW.seq fun K2 hK2 => ?_
  refine AW.seq fun K3 hK3 => ?_
  refine AW.regionO (by rfl) ?_
  refine ao_q (v := (.sl (List.map eI_u8 p0))) go0 rfl (aq_mv rfl) ?_
  refine ao_q (v := (i64 (Sh.len p0))) go0 rfl (aq_lens sl38 rfl) ?_
  refine ao_q (v := (.bool (decide (1048576 < (Sh.len p0))))) go0 rfl (aq_gt rfl rfl) ?_
  refine AO.done (hK3 _ ?_)
  refine AW.cond' (b := decide (1048576 < (Sh.len p0))) rfl (fun b4 => ?_) (fun b4 => ?_)
  · replace h0 := Sh.ite_t b4 h0
    refine AW.seq fun K5 hK5 => ?_
    refine AW.regionO (by rfl) ?_
    refine ao_q (v := (.bool true)) go0 rfl (aq_as rfl) ?_
    refine AO.done (hK5 _ ?_)
    replace h0 := Sh.some_eq h0
    subst r
    exact AW.ret (Exists.intro _ (And.intro (Wk.to (L := [(2, (.bool true))]) ⟨.rfl, trivial⟩) (And.intro rfl rfl)))
  · replace h0 := Sh.ite_f b4 h0
    refine AW.skip (hK2 _ ?_)
    refine AW.seq fun K6 hK6 => ?_
    refine AW.regionO (by rfl) ?_
    refine ao_q (v := (.sl (List.map eI_u8 p0))) go0 rfl (aq_mv rfl) ?_
    obtain ⟨q7, gq7, h0⟩ := Sh.bind_some h0
    refine ao_call (v' := (.tup [(.own 0 0 (List.length q7.1)), (i64 q7.2)])) (st' := [⟨0, 41, 3, List.map eCell q7.1⟩]) go0 hb51 (spec_DrawDropWord_ok gq7) rfl rfl ⟨pure_map fun _ => rfl, trivial⟩ rfl rfl ?_
    refine ao_q (v := (.tup [(.own 0 0 (List.length q7.1)), (i64 q7.2)])) go0 rfl (aq_mv rfl) ?_
    refine ao_q (v := (.own 0 0 (List.length q7.1))) go0 rfl (aq_ex rfl rfl) ?_
    refine ao_q (v := (i64 q7.2)) go0 rfl (aq_ex rfl rfl) ?_
    refine ao_q (v := (.own 0 0 (List.length q7.1))) go0 rfl (aq_as rfl) ?_
    refine ao_q (v := (i64 q7.2)) go0 rfl (aq_as rfl) ?_
    refine AO.done (hK6 _ ?_)
    refine AW.seq fun K8 hK8 => ?_
    refine AW.regionO (by rfl) ?_
    refine ao_q (v := (.own 0 0 (List.length q7.1))) go0 rfl (aq_mv rfl) ?_
    refine ao_q (v := (i64 q7.2)) go0 rfl (aq_mv rfl) ?_
    refine AO.weaken (Wk.frz (L := [(3, (.sl (List.map eCell q7.1))), (4, (i64 q7.2)), (22, (.sl (List.map eCell q7.1))), (23, (i64 q7.2))]) (st' := [⟨1, 41, 3, []⟩]) (id := 0) rfl (show 0 ≤ 0 by decide) (pure_map fun _ => rfl) ⟨(.frz rfl), .rfl, (.frz rfl), .rfl, trivial⟩ rfl) ?_
    obtain ⟨q9, gq9, h0⟩ := Sh.bind_some h0
    refine ao_call (v' := (.tup [(.own 1 0 (List.length q9.1)), (.bool q9.2)])) (st' := [⟨1, 41, 3, []⟩, ⟨0, 41, 3, List.map eCell q9.1⟩]) go0 hb46 (impl_DropWord_ok gq9) rfl rfl ⟨pure_map fun _ => rfl, trivial⟩ rfl rfl ?_
    refine ao_q (v := (.tup [(.own 1 0 (List.length q9.1)), (.bool q9.2)])) go0 rfl (aq_mv rfl) ?_
    refine ao_q (v := (.own 1 0 (List.length q9.1))) go0 rfl (aq_ex rfl rfl) ?_
    refine ao_q (v := (.bool q9.2)) go0 rfl (aq_ex rfl rfl) ?_
    refine ao_q (v := (.own 1 0 (List.length q9.1))) go0 rfl (aq_as rfl) ?_
    refine ao_q (v := (.bool q9.2)) go0 rfl (aq_as rfl) ?_
    refine AO.done (hK8 _ ?_)
    refine AW.seq fun K10 hK10 => ?_
    refine AW.regionO (by rfl) ?_
    refine ao_q (v := (.sl (List.map eCell q7.1))) go0 rfl (aq_mv rfl) ?_
    refine ao_q (v := (i64 q7.2)) go0 rfl (aq_mv rfl) ?_
    obtain ⟨q11, gq11, h0⟩ := Sh.bind_some h0
    refine ao_call (v' := (.tup [(.own 2 0 (List.length q11.1)), (.bool q11.2)])) (st' := [⟨1, 41, 3, []⟩, ⟨0, 41, 3, List.map eCell q9.1⟩, ⟨0, 41, 3, List.map eCell q11.1⟩]) go0 hb45 (spec_DropWord_2_ok gq11) rfl rfl ⟨pure_map fun _ => rfl, trivial⟩ rfl rfl ?_
    refine ao_q (v := (.tup [(.own 2 0 (List.length q11.1)), (.bool q11.2)])) go0 rfl (aq_mv rfl) ?_
    refine ao_q (v := (.own 2 0 (List.length q11.1))) go0 rfl (aq_ex rfl rfl) ?_
    refine ao_q (v := (.bool q11.2)) go0 rfl (aq_ex rfl rfl) ?_
    refine ao_q (v := (.own 2 0 (List.length q11.1))) go0 rfl (aq_as rfl) ?_
    refine ao_q (v := (.bool q11.2)) go0 rfl (aq_as rfl) ?_
    refine AO.done (hK10 _ ?_)
    refine AW.seq fun K12 hK12 => ?_
    refine AW.seq fun K13 hK13 => ?_
    obtain ⟨o15, h1, h0⟩ := Sh.bind_some h0
    have M15 : ∀ (t14 : Bool), o15 = t14 → ∀ s, Wk 0 s ⟨94, envL [(3, (.sl (List.map eCell q7.1))), (4, (i64 q7.2)), (5, (.own 0 0 (List.length q9.1))), (6, (.bool q9.2)), (7, (.own 1 0 (List.length q11.1))), (8, (.bool q11.2)), (45, (.bool t14))], [⟨0, 41, 3, List.map eCell q9.1⟩, ⟨0, 41, 3, List.map eCell q11.1⟩]⟩ → K13 s := by
      intro t14 hq s hw
      subst o15
      try dsimp only at h0
      refine hK13 _ (AW.weaken hw ?_)
      refine AW.cond' (b := t14) rfl (fun b16 => ?_) (fun b16 => ?_)
      · replace h0 := Sh.ite_t b16 h0
        refine AW.seq fun K17 hK17 => ?_
        obtain ⟨o19, h1, h0⟩ := Sh.bind_some h0
        have M19 : ∀ (t18 : Bool), o19 = t18 → ∀ s, Wk 0 s ⟨94, envL [(2, (.bool t18))], []⟩ → K17 s := by
          intro t18 hq s hw
          subst o19
          try dsimp only at h0
          refine hK17 _ (AW.weaken hw ?_)
          replace h0 := Sh.some_eq h0
          subst r
          exact AW.ret (Exists.intro _ (And.intro (Wk.to (L := [(2, (.bool t18))]) ⟨.rfl, trivial⟩) (And.intro rfl rfl)))
        refine AW.regionO (by rfl) ?_
        refine ao_q (v := (.own 0 0 (List.length q9.1))) go0 rfl (aq_mv rfl) ?_
        refine ao_q (v := (.own 1 0 (List.length q11.1))) go0 rfl (aq_mv rfl) ?_
        refine AO.weaken (Wk.frz (L := [(6, (.bool q9.2)), (8, (.bool q11.2)), (46, (.sl (List.map eCell q9.1))), (47, (.own 1 0 (List.length q11.1)))]) (st' := [⟨1, 41, 3, []⟩, ⟨0, 41, 3, List.map eCell q11.1⟩]) (id := 0) rfl (show 0 ≤ 0 by decide) (pure_map fun _ => rfl) ⟨.rfl, .rfl, (.frz rfl), .rfl, trivial⟩ rfl) ?_
        refine AO.weaken (Wk.frz (L := [(6, (.bool q9.2)), (8, (.bool q11.2)), (46, (.sl (List.map eCell q9.1))), (47, (.sl (List.map eCell q11.1)))]) (st' := [⟨1, 41, 3, []⟩, ⟨1, 41, 3, []⟩]) (id := 1) rfl (show 0 ≤ 1 by decide) (pure_map fun _ => rfl) ⟨.rfl, .rfl, .rfl, (.frz rfl), trivial⟩ rfl) ?_
        obtain ⟨q20, gq20, h1⟩ := Sh.bind_some h1
        refine ao_call (v' := (.bool q20)) (st' := [⟨1, 41, 3, []⟩, ⟨1, 41, 3, []⟩]) go0 hb50 (laws_equalHeap_ok gq20) rfl rfl trivial rfl rfl ?_
        refine ao_q (v := (.bool q20)) go0 rfl (aq_mv rfl) ?_
        rcases Sh.ite_some h1 with ⟨b21, h1⟩ | ⟨b21, h1⟩
        · skip
          refine ao_q (v := (.bool q9.2)) (go1 rfl rfl b21) rfl (aq_mv rfl) ?_
          refine ao_q (v := (.bool q11.2)) (go1 rfl rfl b21) rfl (aq_mv rfl) ?_
          refine ao_q (v := (.bool (q9.2 == q11.2))) (go1 rfl rfl b21) rfl (aq_beq bo4 rfl rfl) ?_
          refine ao_q (v := (.bool (q9.2 == q11.2))) go0 rfl (aq_pkt rfl b21 rfl) ?_
          refine ao_q (v := (.bool (q9.2 == q11.2))) go0 rfl (aq_as rfl) ?_
          exact AO.done (M19 (q9.2 == q11.2) (Sh.some_eq h1).symm _ (by refine Wk.trans (Wk.permk (L := [(2, (.bool (q9.2 == q11.2)))]) (st' := []) (st1 := []) [] rfl .nil (by decide) rfl rfl .nil ⟨.rfl, trivial⟩) ?_; exact Wk.to (L := [(2, (.bool (q9.2 == q11.2)))]) ⟨.rfl, trivial⟩))
        · skip
          refine ao_skip rfl rfl b21 ?_
          refine ao_skip rfl rfl b21 ?_
          refine ao_skip rfl rfl b21 ?_
          refine ao_q (v := (.bool false)) go0 rfl (aq_pkf rfl b21 rfl) ?_
          refine ao_q (v := (.bool false)) go0 rfl (aq_as rfl) ?_
          exact AO.done (M19 false (Sh.some_eq h1).symm _ (by refine Wk.trans (Wk.permk (L := [(2, (.bool false))]) (st' := []) (st1 := []) [] rfl .nil (by decide) rfl rfl .nil ⟨.rfl, trivial⟩) ?_; exact Wk.to (L := [(2, (.bool false))]) ⟨.rfl, trivial⟩))
      · replace h0 := Sh.ite_f b16 h0
        refine AW.skip (hK12 _ ?_)
        refine AW.seq fun K22 hK22 => ?_
        refine AW.regionO (by rfl) ?_
        refine ao_bs (m := 2) (st' := [⟨0, 41, 3, List.map eCell q9.1⟩, ⟨0, 41, 3, List.map eCell q11.1⟩, ⟨0, 3, 1, List.map eI ([] : List Int)⟩]) (l := ([] : List Int)) (enc := eI) go0 ei32 (by decide) rfl rfl rfl rfl rfl rfl ?_
        refine ao_q (v := (.own 2 0 (List.length ([] : List Int)))) go0 rfl (aq_as rfl) ?_
        refine AO.done (hK22 _ ?_)
        refine AW.seq fun K23 hK23 => ?_
        refine AW.regionO (by rfl) ?_
        refine ao_q (v := (.own 0 0 (List.length q9.1))) go0 rfl (aq_mv rfl) ?_
        obtain ⟨q24, gq24, h0⟩ := Sh.bind_some h0
        refine ao_callb (v' := (.own 3 0 (List.length q24))) (st' := [⟨0, 41, 3, List.map eCell q9.1⟩, ⟨0, 41, 3, List.map eCell q11.1⟩, ⟨0, 3, 1, List.map eI ([] : List Int)⟩, ⟨0, 3, 1, List.map eI q24⟩]) go0 hb48 (laws_liveIn_ok gq24) rfl (.own rfl rfl (fun _ => rfl) .nil) rfl (srow (fun _ => rfl) trivial) rfl rfl ?_
        refine ao_q (v := (.own 3 0 (List.length q24))) go0 rfl (aq_as rfl) ?_
        refine AO.done (hK23 _ ?_)
        refine AW.seq fun K25 hK25 => ?_
        refine AW.regionO (by rfl) ?_
        refine ao_q (v := (.sl (List.map eCell q7.1))) go0 rfl (aq_mv rfl) ?_
        obtain ⟨q26, gq26, h0⟩ := Sh.bind_some h0
        refine ao_call (v' := (.own 4 0 (List.length q26))) (st' := [⟨0, 41, 3, List.map eCell q9.1⟩, ⟨0, 41, 3, List.map eCell q11.1⟩, ⟨0, 3, 1, List.map eI ([] : List Int)⟩, ⟨0, 3, 1, List.map eI q24⟩, ⟨0, 3, 1, List.map eI q26⟩]) go0 hb48 (laws_liveIn_ok gq26) rfl rfl ⟨pure_map fun _ => rfl, trivial⟩ rfl rfl ?_
        refine ao_q (v := (.own 4 0 (List.length q26))) go0 rfl (aq_as rfl) ?_
        refine AO.done (hK25 _ ?_)
        refine AW.seq fun K27 hK27 => ?_
        refine AW.seq fun K28 hK28 => ?_
        refine AW.regionO (by rfl) ?_
        refine ao_q (v := (i64 0)) go0 rfl (aq_as rfl) ?_
        refine AO.done (hK28 _ ?_)
        obtain ⟨o32, h1, h0⟩ := Sh.bind_some h0
        have M32 : ∀ (l31 : (List Int)), o32 = l31 → ∀ s, Wk 0 s ⟨94, envL [(3, (.sl (List.map eCell q7.1))), (4, (i64 q7.2)), (5, (.own 0 0 (List.length q9.1))), (9, (.own 1 0 (List.length l31))), (10, (.own 2 0 (List.length q24))), (11, (.own 3 0 (List.length q26)))], [⟨0, 41, 3, List.map eCell q9.1⟩, ⟨0, 3, 1, List.map eI l31⟩, ⟨0, 3, 1, List.map eI q24⟩, ⟨0, 3, 1, List.map eI q26⟩]⟩ → K27 s := by
          intro l31 hq s hw
          subst o32
          try dsimp only at h0
          refine hK27 _ (AW.weaken hw ?_)
          refine AW.seq fun K33 hK33 => ?_
          obtain ⟨o35, h1, h0⟩ := Sh.bind_some h0
          have M35 : ∀ (t34 : Bool), o35 = t34 → ∀ s, Wk 0 s ⟨94, envL [(2, (.bool t34))], []⟩ → K33 s := by
            intro t34 hq s hw
            subst o35
            try dsimp only at h0
            refine hK33 _ (AW.weaken hw ?_)
            replace h0 := Sh.some_eq h0
            subst r
            exact AW.ret (Exists.intro _ (And.intro (Wk.to (L := [(2, (.bool t34))]) ⟨.rfl, trivial⟩) (And.intro rfl rfl)))
          refine AW.regionO (by rfl) ?_
          refine ao_q (v := (.own 0 0 (List.length q9.1))) go0 rfl (aq_mv rfl) ?_
          refine AO.weaken (Wk.frz (L := [(3, (.sl (List.map eCell q7.1))), (4, (i64 q7.2)), (9, (.own 1 0 (List.length l31))), (10, (.own 2 0 (List.length q24))), (11, (.own 3 0 (List.length q26))), (79, (.sl (List.map eCell q9.1)))]) (st' := [⟨1, 41, 3, []⟩, ⟨0, 3, 1, List.map eI l31⟩, ⟨0, 3, 1, List.map eI q24⟩, ⟨0, 3, 1, List.map eI q26⟩]) (id := 0) rfl (show 0 ≤ 0 by decide) (pure_map fun _ => rfl) ⟨.rfl, .rfl, .rfl, .rfl, .rfl, (.frz rfl), trivial⟩ rfl) ?_
          obtain ⟨q36, gq36, h1⟩ := Sh.bind_some h1
          refine ao_call (v' := (.bool q36)) (st' := [⟨1, 41, 3, []⟩, ⟨0, 3, 1, List.map eI l31⟩, ⟨0, 3, 1, List.map eI q24⟩, ⟨0, 3, 1, List.map eI q26⟩]) go0 hb25 (impl_ValidHeap_ok gq36) rfl rfl trivial rfl rfl ?_
          refine ao_q (v := (.bool q36)) go0 rfl (aq_mv rfl) ?_
          rcases Sh.ite_some h1 with ⟨b37, h1⟩ | ⟨b37, h1⟩
          · skip
            refine ao_q (v := (.own 2 0 (List.length q24))) (go1 rfl rfl b37) rfl (aq_mv rfl) ?_
            refine ao_q (v := (.own 3 0 (List.length q26))) (go1 rfl rfl b37) rfl (aq_mv rfl) ?_
            refine AO.weaken (Wk.frz (L := [(3, (.sl (List.map eCell q7.1))), (4, (i64 q7.2)), (9, (.own 1 0 (List.length l31))), (81, (.bool q36)), (82, (.sl (List.map eI q24))), (83, (.own 3 0 (List.length q26)))]) (st' := [⟨1, 41, 3, []⟩, ⟨0, 3, 1, List.map eI l31⟩, ⟨1, 3, 1, []⟩, ⟨0, 3, 1, List.map eI q26⟩]) (id := 2) rfl (show 0 ≤ 2 by decide) (pure_map fun _ => rfl) ⟨.rfl, .rfl, .rfl, .rfl, (.frz rfl), .rfl, trivial⟩ rfl) ?_
            refine AO.weaken (Wk.frz (L := [(3, (.sl (List.map eCell q7.1))), (4, (i64 q7.2)), (9, (.own 1 0 (List.length l31))), (81, (.bool q36)), (82, (.sl (List.map eI q24))), (83, (.sl (List.map eI q26)))]) (st' := [⟨1, 41, 3, []⟩, ⟨0, 3, 1, List.map eI l31⟩, ⟨1, 3, 1, []⟩, ⟨1, 3, 1, []⟩]) (id := 3) rfl (show 0 ≤ 3 by decide) (pure_map fun _ => rfl) ⟨.rfl, .rfl, .rfl, .rfl, .rfl, (.frz rfl), trivial⟩ rfl) ?_
            obtain ⟨q38, gq38, h1⟩ := Sh.bind_some h1
            refine ao_call (v' := (.bool q38)) (st' := [⟨1, 41, 3, []⟩, ⟨0, 3, 1, List.map eI l31⟩, ⟨1, 3, 1, []⟩, ⟨1, 3, 1, []⟩]) (go1 rfl rfl b37) hb59 (laws_within_ok gq38) rfl rfl trivial rfl rfl ?_
            refine ao_q (v := (.bool q38)) go0 rfl (aq_pkt rfl b37 rfl) ?_
            refine ao_q (v := (.bool q38)) go0 rfl (aq_mv rfl) ?_
            rcases Sh.ite_some h1 with ⟨b39, h1⟩ | ⟨b39, h1⟩
            · skip
              refine ao_q (v := (.own 1 0 (List.length l31))) (go1 rfl rfl b39) rfl (aq_mv rfl) ?_
              refine ao_q (v := (.sl (List.map eCell q7.1))) (go1 rfl rfl b39) rfl (aq_mv rfl) ?_
              refine ao_q (v := (i64 q7.2)) (go1 rfl rfl b39) rfl (aq_mv rfl) ?_
              refine ao_bs (m := 4) (st' := [⟨1, 41, 3, []⟩, ⟨0, 3, 1, List.map eI l31⟩, ⟨1, 3, 1, []⟩, ⟨1, 3, 1, []⟩, ⟨0, 3, 1, List.map eI [q7.2]⟩]) (l := [q7.2]) (enc := eI) (go1 rfl rfl b39) ei32 (by decide) rfl rfl rfl rfl rfl rfl ?_
              refine AO.weaken (Wk.frz (L := [(86, (.bool q38)), (87, (.own 1 0 (List.length l31))), (88, (.sl (List.map eCell q7.1))), (90, (.sl (List.map eI [q7.2])))]) (st' := [⟨1, 41, 3, []⟩, ⟨0, 3, 1, List.map eI l31⟩, ⟨1, 3, 1, []⟩, ⟨1, 3, 1, []⟩, ⟨1, 3, 1, []⟩]) (id := 4) rfl (show 0 ≤ 4 by decide) (pure_map fun _ => rfl) ⟨.rfl, .rfl, .rfl, (.frz rfl), trivial⟩ rfl) ?_
              obtain ⟨q40, gq40, h1⟩ := Sh.bind_some h1
              refine ao_call (v' := (.own 5 0 (List.length q40))) (st' := [⟨1, 41, 3, []⟩, ⟨0, 3, 1, List.map eI l31⟩, ⟨1, 3, 1, []⟩, ⟨1, 3, 1, []⟩, ⟨1, 3, 1, []⟩, ⟨0, 3, 1, List.map eI q40⟩]) (go1 rfl rfl b39) hb33 (impl_ReachOf_ok gq40) rfl rfl ⟨pure_map fun _ => rfl, trivial⟩ rfl rfl ?_
              refine AO.weaken (Wk.frz (L := [(86, (.bool q38)), (87, (.sl (List.map eI l31))), (91, (.own 5 0 (List.length q40)))]) (st' := [⟨1, 41, 3, []⟩, ⟨1, 3, 1, []⟩, ⟨1, 3, 1, []⟩, ⟨1, 3, 1, []⟩, ⟨1, 3, 1, []⟩, ⟨0, 3, 1, List.map eI q40⟩]) (id := 1) rfl (show 0 ≤ 1 by decide) (pure_map fun _ => rfl) ⟨.rfl, (.frz rfl), .rfl, trivial⟩ rfl) ?_
              refine AO.weaken (Wk.frz (L := [(86, (.bool q38)), (87, (.sl (List.map eI l31))), (91, (.sl (List.map eI q40)))]) (st' := [⟨1, 41, 3, []⟩, ⟨1, 3, 1, []⟩, ⟨1, 3, 1, []⟩, ⟨1, 3, 1, []⟩, ⟨1, 3, 1, []⟩, ⟨1, 3, 1, []⟩]) (id := 5) rfl (show 0 ≤ 5 by decide) (pure_map fun _ => rfl) ⟨.rfl, .rfl, (.frz rfl), trivial⟩ rfl) ?_
              obtain ⟨q41, gq41, h1⟩ := Sh.bind_some h1
              refine ao_call (v' := (.bool q41)) (st' := [⟨1, 41, 3, []⟩, ⟨1, 3, 1, []⟩, ⟨1, 3, 1, []⟩, ⟨1, 3, 1, []⟩, ⟨1, 3, 1, []⟩, ⟨1, 3, 1, []⟩]) (go1 rfl rfl b39) hb59 (laws_within_ok gq41) rfl rfl trivial rfl rfl ?_
              refine ao_q (v := (.bool q41)) go0 rfl (aq_pkt rfl b39 rfl) ?_
              refine ao_q (v := (.bool q41)) go0 rfl (aq_as rfl) ?_
              exact AO.done (M35 q41 (Sh.some_eq h1).symm _ (by refine Wk.trans (Wk.permk (L := [(2, (.bool q41))]) (st' := []) (st1 := []) [] rfl .nil (by decide) rfl rfl .nil ⟨.rfl, trivial⟩) ?_; exact Wk.to (L := [(2, (.bool q41))]) ⟨.rfl, trivial⟩))
            · skip
              refine ao_skip rfl rfl b39 ?_
              refine ao_skip rfl rfl b39 ?_
              refine ao_skip rfl rfl b39 ?_
              refine ao_skip rfl rfl b39 ?_
              refine ao_skip rfl rfl b39 ?_
              refine ao_skip rfl rfl b39 ?_
              refine ao_q (v := (.bool false)) go0 rfl (aq_pkf rfl b39 rfl) ?_
              refine ao_q (v := (.bool false)) go0 rfl (aq_as rfl) ?_
              exact AO.done (M35 false (Sh.some_eq h1).symm _ (by refine Wk.trans (Wk.permk (L := [(2, (.bool false))]) (st' := []) (st1 := []) [] rfl .nil (by decide) rfl rfl .nil ⟨.rfl, trivial⟩) ?_; exact Wk.to (L := [(2, (.bool false))]) ⟨.rfl, trivial⟩))
          · skip
            refine ao_skip rfl rfl b37 ?_
            refine ao_skip rfl rfl b37 ?_
            refine ao_skip rfl rfl b37 ?_
            refine ao_q (v := (.bool false)) go0 rfl (aq_pkf rfl b37 rfl) ?_
            refine ao_q (v := (.bool false)) go0 rfl (aq_mv rfl) ?_
            refine ao_skip rfl rfl rfl ?_
            refine ao_skip rfl rfl rfl ?_
            refine ao_skip rfl rfl rfl ?_
            refine ao_skip rfl rfl rfl ?_
            refine ao_skip rfl rfl rfl ?_
            refine ao_skip rfl rfl rfl ?_
            refine ao_q (v := (.bool false)) go0 rfl (aq_pkf rfl rfl rfl) ?_
            refine ao_q (v := (.bool false)) go0 rfl (aq_as rfl) ?_
            exact AO.done (M35 false (Sh.some_eq h1).symm _ (by refine Wk.trans (Wk.permk (L := [(2, (.bool false))]) (st' := []) (st1 := []) [] rfl .nil (by decide) rfl rfl .nil ⟨.rfl, trivial⟩) ?_; exact Wk.to (L := [(2, (.bool false))]) ⟨.rfl, trivial⟩))
        refine AW.block (AW.loopF (σ := Int × (List Int)) (fun n v => laws_FnDropWord_L1 N q24 q26 n v.1 v.2 = some o32) (fun (i29, l30) => ⟨94, envL [(3, (.sl (List.map eCell q7.1))), (4, (i64 q7.2)), (5, (.own 0 0 (List.length q9.1))), (9, (.own 1 0 (List.length l30))), (10, (.own 2 0 (List.length q24))), (11, (.own 3 0 (List.length q26))), (12, (i64 i29))], [⟨0, 41, 3, List.map eCell q9.1⟩, ⟨0, 3, 1, List.map eI l30⟩, ⟨0, 3, 1, List.map eI q24⟩, ⟨0, 3, 1, List.map eI q26⟩]⟩) N (0, []) h1 (by refine Wk.trans (Wk.permk (L := [(3, (.sl (List.map eCell q7.1))), (4, (i64 q7.2)), (5, (.own 0 0 (List.length q9.1))), (9, (.own 1 0 (List.length ([] : List Int)))), (10, (.own 2 0 (List.length q24))), (11, (.own 3 0 (List.length q26))), (12, (i64 0))]) (st' := [⟨0, 41, 3, List.map eCell q9.1⟩, ⟨0, 3, 1, List.map eI ([] : List Int)⟩, ⟨0, 3, 1, List.map eI q24⟩, ⟨0, 3, 1, List.map eI q26⟩]) (st1 := [⟨0, 41, 3, List.map eCell q9.1⟩, ⟨0, 3, 1, List.map eI ([] : List Int)⟩, ⟨0, 3, 1, List.map eI q24⟩, ⟨0, 3, 1, List.map eI q26⟩]) [0, 2, 3, 4] rfl .nil (by decide) rfl rfl (.pure (pure_map fun _ => rfl) (.pure (pure_map fun _ => rfl) (.pure (pure_map fun _ => rfl) (.pure (pure_map fun _ => rfl) .nil)))) ⟨.rfl, .rfl, .rfl, .rfl, .rfl, .rfl, .rfl, trivial⟩) ?_; exact Wk.to (L := [(3, (.sl (List.map eCell q7.1))), (4, (i64 q7.2)), (5, (.own 0 0 (List.length q9.1))), (9, (.own 1 0 (List.length ([] : List Int)))), (10, (.own 2 0 (List.length q24))), (11, (.own 3 0 (List.length q26))), (12, (i64 0))]) ⟨.rfl, .rfl, .rfl, .rfl, .rfl, .rfl, .rfl, trivial⟩) (fun _ hv => by rw [laws_FnDropWord_L1] at hv; cases hv) ?_)
        rintro n ⟨i29, l30⟩ h1
        try dsimp only at h1 ⊢
        rw [laws_FnDropWord_L1] at h1
        refine AW.seq fun K42 hK42 => ?_
        refine AW.seq fun K43 hK43 => ?_
        refine AW.regionO (by rfl) ?_
        refine ao_q (v := (i64 i29)) go0 rfl (aq_mv rfl) ?_
        refine ao_q (v := (.own 3 0 (List.length q26))) go0 rfl (aq_mv rfl) ?_
        refine ao_q (v := (i64 (Sh.len q26))) go0 rfl (aq_leno sl32 rfl rfl rfl) ?_
        refine ao_q (v := (.bool (decide (i29 < (Sh.len q26))))) go0 rfl (aq_lt rfl rfl) ?_
        refine AO.done (hK43 _ ?_)
        refine AW.cond' (b := decide (i29 < (Sh.len q26))) rfl (fun b44 => ?_) (fun b44 => ?_)
        · replace h1 := Sh.ite_t b44 h1
          refine AW.skip (hK42 _ ?_)
          refine AW.seq fun K45 hK45 => ?_
          obtain ⟨o47, h2, h1⟩ := Sh.bind_some h1
          have M47 : ∀ (l46 : (List Int)), o47 = l46 → ∀ s, Wk 0 s ⟨94, envL [(3, (.sl (List.map eCell q7.1))), (4, (i64 q7.2)), (5, (.own 0 0 (List.length q9.1))), (9, (.own 1 0 (List.length l46))), (10, (.own 2 0 (List.length q24))), (11, (.own 3 0 (List.length q26))), (12, (i64 i29))], [⟨0, 41, 3, List.map eCell q9.1⟩, ⟨0, 3, 1, List.map eI l46⟩, ⟨0, 3, 1, List.map eI q24⟩, ⟨0, 3, 1, List.map eI q26⟩]⟩ → K45 s := by
            intro l46 hq s hw
            subst o47
            try dsimp only at h1
            refine hK45 _ (AW.weaken hw ?_)
            refine AW.regionO (by rfl) ?_
            refine ao_q (v := (i64 i29)) go0 rfl (aq_mv rfl) ?_
            refine ao_q (v := (i64 (Sh.w (i29 + 1)))) go0 rfl (aq_add rfl rfl) ?_
            refine ao_q (v := (i64 (Sh.w (i29 + 1)))) go0 rfl (aq_as rfl) ?_
            exact AO.done (Exists.intro (Sh.w (i29 + 1), l46) (And.intro h1 (Wk.to (L := [(3, (.sl (List.map eCell q7.1))), (4, (i64 q7.2)), (5, (.own 0 0 (List.length q9.1))), (9, (.own 1 0 (List.length l46))), (10, (.own 2 0 (List.length q24))), (11, (.own 3 0 (List.length q26))), (12, (i64 (Sh.w (i29 + 1))))]) ⟨.rfl, .rfl, .rfl, .rfl, .rfl, .rfl, .rfl, trivial⟩)))
          refine AW.block ?_
          refine AW.seq fun K48 hK48 => ?_
          refine AW.regionO (by rfl) ?_
          refine ao_q (v := (.own 2 0 (List.length q24))) go0 rfl (aq_mv rfl) ?_
          refine ao_q (v := (.own 3 0 (List.length q26))) go0 rfl (aq_mv rfl) ?_
          refine ao_q (v := (i64 i29)) go0 rfl (aq_mv rfl) ?_
          obtain ⟨c49, gc49, h2⟩ := Sh.bind_some h2
          refine ao_q (v := (.ptr 3 0 (Int.toNat i29) 0)) go0 rfl (aq_ixo ei32 rfl rfl rfl rfl gc49) ?_
          refine ao_q (v := (i64 c49)) go0 rfl (aq_ldp ti3 rfl rfl (map_get gc49) rfl) ?_
          obtain ⟨q50, gq50, h2⟩ := Sh.bind_some h2
          refine ao_callb (v' := (.bool q50)) (st' := [⟨0, 41, 3, List.map eCell q9.1⟩, ⟨0, 3, 1, List.map eI l30⟩, ⟨0, 3, 1, List.map eI q24⟩, ⟨0, 3, 1, List.map eI q26⟩]) go0 hb55 (laws_isIn_ok gq50) rfl (.own rfl rfl (fun _ => rfl) (.val rfl .nil)) rfl trivial rfl rfl ?_
          refine ao_q (v := (.bool (!q50))) go0 rfl (aq_not rfl) ?_
          refine AO.done (hK48 _ ?_)
          refine AW.cond' (b := !q50) rfl (fun b51 => ?_) (fun b51 => ?_)
          · replace h2 := Sh.ite_t b51 h2
            have b52 : q50 = false := by simpa using b51
            refine AW.regionO (by rfl) ?_
            refine ao_q (v := (.own 1 0 (List.length l30))) go0 rfl (aq_mv rfl) ?_
            refine ao_q (v := (.own 3 0 (List.length q26))) go0 rfl (aq_mv rfl) ?_
            refine ao_q (v := (i64 i29)) go0 rfl (aq_mv rfl) ?_
            refine ao_q (v := (.ptr 3 0 (Int.toNat i29) 0)) go0 rfl (aq_ixo ei32 rfl rfl rfl rfl gc49) ?_
            refine ao_q (v := (i64 c49)) go0 rfl (aq_ldp ti3 rfl rfl (map_get gc49) rfl) ?_
            refine ao_bs (m := 4) (st' := [⟨0, 41, 3, List.map eCell q9.1⟩, ⟨0, 3, 1, List.map eI l30⟩, ⟨0, 3, 1, List.map eI q24⟩, ⟨0, 3, 1, List.map eI q26⟩, ⟨0, 3, 1, List.map eI [c49]⟩]) (l := [c49]) (enc := eI) go0 ei32 (by decide) rfl rfl rfl rfl rfl rfl ?_
            obtain ⟨l53, gl53, h2⟩ := Sh.bind_some h2
            refine ao_apo (st' := [⟨0, 41, 3, List.map eCell q9.1⟩, ⟨1, 3, 1, List.map eI l53⟩, ⟨0, 3, 1, List.map eI q24⟩, ⟨0, 3, 1, List.map eI q26⟩, ⟨0, 3, 1, List.map eI [c49]⟩]) (l2 := [c49]) go0 ei32 rfl rfl rfl rfl (el_o rfl rfl) (fun _ => rfl) gl53 rfl ?_
            refine ao_q (v := (.own 1 1 (List.length l53))) go0 rfl (aq_as rfl) ?_
            exact AO.done (M47 l53 (Sh.some_eq h2).symm _ (by refine Wk.trans (Wk.rg (L := [(3, (.sl (List.map eCell q7.1))), (4, (i64 q7.2)), (5, (.own 0 0 (List.length q9.1))), (9, (.own 1 0 (List.length l53))), (10, (.own 2 0 (List.length q24))), (11, (.own 3 0 (List.length q26))), (12, (i64 i29))]) (st' := [⟨0, 41, 3, List.map eCell q9.1⟩, ⟨0, 3, 1, List.map eI l53⟩, ⟨0, 3, 1, List.map eI q24⟩, ⟨0, 3, 1, List.map eI q26⟩, ⟨0, 3, 1, List.map eI [c49]⟩]) (.pure (pure_map fun _ => rfl) (.pure (pure_map fun _ => rfl) (.pure (pure_map fun _ => rfl) (.pure (pure_map fun _ => rfl) (.pure (pure_map fun _ => rfl) .nil))))) ⟨.rfl, .rfl, .rfl, .rfl, .rfl, .rfl, .rfl, trivial⟩) ?_; refine Wk.trans (Wk.permk (L := [(3, (.sl (List.map eCell q7.1))), (4, (i64 q7.2)), (5, (.own 0 0 (List.length q9.1))), (9, (.own 1 0 (List.length l53))), (10, (.own 2 0 (List.length q24))), (11, (.own 3 0 (List.length q26))), (12, (i64 i29))]) (st' := [⟨0, 41, 3, List.map eCell q9.1⟩, ⟨0, 3, 1, List.map eI l53⟩, ⟨0, 3, 1, List.map eI q24⟩, ⟨0, 3, 1, List.map eI q26⟩]) (st1 := [⟨0, 41, 3, List.map eCell q9.1⟩, ⟨0, 3, 1, List.map eI l53⟩, ⟨0, 3, 1, List.map eI q24⟩, ⟨0, 3, 1, List.map eI q26⟩]) [0, 1, 2, 3] rfl .nil (by decide) rfl rfl (.pure (pure_map fun _ => rfl) (.pure (pure_map fun _ => rfl) (.pure (pure_map fun _ => rfl) (.pure (pure_map fun _ => rfl) .nil)))) ⟨.rfl, .rfl, .rfl, .rfl, .rfl, .rfl, .rfl, trivial⟩) ?_; exact Wk.to (L := [(3, (.sl (List.map eCell q7.1))), (4, (i64 q7.2)), (5, (.own 0 0 (List.length q9.1))), (9, (.own 1 0 (List.length l53))), (10, (.own 2 0 (List.length q24))), (11, (.own 3 0 (List.length q26))), (12, (i64 i29))]) ⟨.rfl, .rfl, .rfl, .rfl, .rfl, .rfl, .rfl, trivial⟩))
          · replace h2 := Sh.ite_f b51 h2
            have b54 : q50 = true := by simpa using b51
            exact AW.skip (M47 l30 (Sh.some_eq h2).symm _ (Wk.to (L := [(3, (.sl (List.map eCell q7.1))), (4, (i64 q7.2)), (5, (.own 0 0 (List.length q9.1))), (9, (.own 1 0 (List.length l30))), (10, (.own 2 0 (List.length q24))), (11, (.own 3 0 (List.length q26))), (12, (i64 i29))]) ⟨.rfl, .rfl, .rfl, .rfl, .rfl, .rfl, .rfl, trivial⟩))
        · replace h1 := Sh.ite_f b44 h1
          exact AW.exit (M32 l30 (Sh.some_eq h1).symm _ (Wk.to (L := [(3, (.sl (List.map eCell q7.1))), (4, (i64 q7.2)), (5, (.own 0 0 (List.length q9.1))), (9, (.own 1 0 (List.length l30))), (10, (.own 2 0 (List.length q24))), (11, (.own 3 0 (List.length q26)))]) ⟨.rfl, .rfl, .rfl, .rfl, .rfl, .rfl, trivial⟩))
    refine AW.regionO (by rfl) ?_
    refine ao_q (v := (.own 1 0 (List.length q9.1))) go0 rfl (aq_mv rfl) ?_
    refine ao_q (v := (.own 2 0 (List.length q11.1))) go0 rfl (aq_mv rfl) ?_
    obtain ⟨q55, gq55, h1⟩ := Sh.bind_some h1
    refine ao_callb (v' := (.bool q55)) (st' := [⟨1, 41, 3, []⟩, ⟨0, 41, 3, List.map eCell q9.1⟩, ⟨0, 41, 3, List.map eCell q11.1⟩]) go0 hb50 (laws_equalHeap_ok gq55) rfl (.own rfl rfl (fun _ => rfl) (.own rfl rfl (fun _ => rfl) .nil)) rfl trivial rfl rfl ?_
    refine ao_q (v := (.bool (!q55))) go0 rfl (aq_not rfl) ?_
    refine ao_q (v := (.bool (!q55))) go0 rfl (aq_mv rfl) ?_
    rcases Sh.ite_some h1 with ⟨b56, h1⟩ | ⟨b56, h1⟩
    · skip
      refine ao_skip rfl rfl b56 ?_
      refine ao_skip rfl rfl b56 ?_
      refine ao_skip rfl rfl b56 ?_
      refine ao_q (v := (.bool true)) go0 rfl (aq_pkt rfl b56 rfl) ?_
      refine ao_q (v := (.bool true)) go0 rfl (aq_mv rfl) ?_
      refine ao_skip rfl rfl rfl ?_
      refine ao_skip rfl rfl rfl ?_
      refine ao_q (v := (.bool true)) go0 rfl (aq_pkt rfl rfl rfl) ?_
      exact AO.done (M15 true (Sh.some_eq h1).symm _ (by refine Wk.trans (Wk.permk (L := [(3, (.sl (List.map eCell q7.1))), (4, (i64 q7.2)), (5, (.own 0 0 (List.length q9.1))), (6, (.bool q9.2)), (7, (.own 1 0 (List.length q11.1))), (8, (.bool q11.2)), (45, (.bool true))]) (st' := [⟨0, 41, 3, List.map eCell q9.1⟩, ⟨0, 41, 3, List.map eCell q11.1⟩]) (st1 := [⟨0, 41, 3, List.map eCell q9.1⟩, ⟨0, 41, 3, List.map eCell q11.1⟩]) [1, 2] rfl .nil (by decide) rfl rfl (.pure (pure_map fun _ => rfl) (.pure (pure_map fun _ => rfl) .nil)) ⟨.rfl, .rfl, .rfl, .rfl, .rfl, .rfl, .rfl, trivial⟩) ?_; exact Wk.to (L := [(3, (.sl (List.map eCell q7.1))), (4, (i64 q7.2)), (5, (.own 0 0 (List.length q9.1))), (6, (.bool q9.2)), (7, (.own 1 0 (List.length q11.1))), (8, (.bool q11.2)), (45, (.bool true))]) ⟨.rfl, .rfl, .rfl, .rfl, .rfl, .rfl, .rfl, trivial⟩))
    · skip
      refine ao_q (v := (.bool q9.2)) (go1 rfl rfl b56) rfl (aq_mv rfl) ?_
      refine ao_q (v := (.bool q11.2)) (go1 rfl rfl b56) rfl (aq_mv rfl) ?_
      refine ao_q (v := (.bool (q9.2 != q11.2))) (go1 rfl rfl b56) rfl (aq_bne bo4 rfl rfl) ?_
      refine ao_q (v := (.bool (q9.2 != q11.2))) go0 rfl (aq_pkf rfl b56 rfl) ?_
      refine ao_q (v := (.bool (q9.2 != q11.2))) go0 rfl (aq_mv rfl) ?_
      rcases Sh.ite_some h1 with ⟨b57, h1⟩ | ⟨b57, h1⟩
      · skip
        refine ao_skip rfl rfl b57 ?_
        refine ao_skip rfl rfl b57 ?_
        refine ao_q (v := (.bool true)) go0 rfl (aq_pkt rfl b57 rfl) ?_
        exact AO.done (M15 true (Sh.some_eq h1).symm _ (by refine Wk.trans (Wk.permk (L := [(3, (.sl (List.map eCell q7.1))), (4, (i64 q7.2)), (5, (.own 0 0 (List.length q9.1))), (6, (.bool q9.2)), (7, (.own 1 0 (List.length q11.1))), (8, (.bool q11.2)), (45, (.bool true))]) (st' := [⟨0, 41, 3, List.map eCell q9.1⟩, ⟨0, 41, 3, List.map eCell q11.1⟩]) (st1 := [⟨0, 41, 3, List.map eCell q9.1⟩, ⟨0, 41, 3, List.map eCell q11.1⟩]) [1, 2] rfl .nil (by decide) rfl rfl (.pure (pure_map fun _ => rfl) (.pure (pure_map fun _ => rfl) .nil)) ⟨.rfl, .rfl, .rfl, .rfl, .rfl, .rfl, .rfl, trivial⟩) ?_; exact Wk.to (L := [(3, (.sl (List.map eCell q7.1))), (4, (i64 q7.2)), (5, (.own 0 0 (List.length q9.1))), (6, (.bool q9.2)), (7, (.own 1 0 (List.length q11.1))), (8, (.bool q11.2)), (45, (.bool true))]) ⟨.rfl, .rfl, .rfl, .rfl, .rfl, .rfl, .rfl, trivial⟩))
      · skip
        refine ao_q (v := (.bool q9.2)) (go1 rfl rfl b57) rfl (aq_mv rfl) ?_
        refine ao_q (v := (.bool (!q9.2))) (go1 rfl rfl b57) rfl (aq_not rfl) ?_
        refine ao_q (v := (.bool (!q9.2))) go0 rfl (aq_pkf rfl b57 rfl) ?_
        exact AO.done (M15 (!q9.2) (Sh.some_eq h1).symm _ (by refine Wk.trans (Wk.permk (L := [(3, (.sl (List.map eCell q7.1))), (4, (i64 q7.2)), (5, (.own 0 0 (List.length q9.1))), (6, (.bool q9.2)), (7, (.own 1 0 (List.length q11.1))), (8, (.bool q11.2)), (45, (.bool (!q9.2)))]) (st' := [⟨0, 41, 3, List.map eCell q9.1⟩, ⟨0, 41, 3, List.map eCell q11.1⟩]) (st1 := [⟨0, 41, 3, List.map eCell q9.1⟩, ⟨0, 41, 3, List.map eCell q11.1⟩]) [1, 2] rfl .nil (by decide) rfl rfl (.pure (pure_map fun _ => rfl) (.pure (pure_map fun _ => rfl) .nil)) ⟨.rfl, .rfl, .rfl, .rfl, .rfl, .rfl, .rfl, trivial⟩) ?_; exact Wk.to (L := [(3, (.sl (List.map eCell q7.1))), (4, (i64 q7.2)), (5, (.own 0 0 (List.length q9.1))), (6, (.bool q9.2)), (7, (.own 1 0 (List.length q11.1))), (8, (.bool q11.2)), (45, (.bool (!q9.2)))]) ⟨.rfl, .rfl, .rfl, .rfl, .rfl, .rfl, .rfl, trivial⟩))

end Go.Proofs.Ytgpjhgoobijdjaa
