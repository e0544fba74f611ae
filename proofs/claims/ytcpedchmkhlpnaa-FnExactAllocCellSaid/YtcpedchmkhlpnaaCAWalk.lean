import Derived.Test.YtcpedchmkhlpnaaProg
import Derived.Test.YtcpedchmkhlpnaaCADefs
namespace Go.Proofs.Ytcpedchmkhlpnaa
open Go Go.Abs RC

theorem ei23 : einfo Try.prog 23 = some ⟨3, 1, 8, [.int .i64 0]⟩ := by kernel_rfl
theorem ei26 : einfo Try.prog 26 = some ⟨58, 3, 40, [.int .i64 0, .int .i64 0, .sl []]⟩ := by kernel_rfl
theorem fi58_2 : finfo Try.prog 58 2 = some 2 := by kernel_rfl
theorem hb39 : hasBody Try.prog 39 = true := by kernel_rfl
theorem hb72 : hasBody Try.prog 72 = true := by kernel_rfl
theorem sl23 : isSliceT Try.prog 23 = true := by kernel_rfl
theorem sl26 : isSliceT Try.prog 26 = true := by kernel_rfl
theorem ti23 : tinfo Try.prog 23 = some (false, 1) := by kernel_rfl
theorem ti58 : tinfo Try.prog 58 = some (true, 3) := by kernel_rfl
theorem zi58 : zinfo Try.prog 58 = some [.int .i64 0, .int .i64 0, .zc] := by kernel_rfl

set_option maxRecDepth 100000 in
set_option maxHeartbeats 4000000 in
theorem slices_Clone_impl_Cell_impl_Cell_ok {p0 : (List Cell)} {r : (List Cell)} (h0 : slices_Clone_impl_Cell_impl_Cell p0 = some r) : ACalls Try.prog 72 [(.sl (List.map eCell p0))] [] (fun v st => v = (.own 0 0 (List.length r)) ∧ st = [⟨0, 58, 3, List.map eCell r⟩]) := by
  unfold slices_Clone_impl_Cell_impl_Cell at h0
  refine ACalls.intro Try.func72 rfl (by show 1 ≤ 8; decide) ?_
  show AW _ 0 _ (aret _ 0 Try.f72 _) ⟨8, _, _⟩
  refine AW.weaken (Wk.to (L := [(0, (.sl (List.map eCell p0)))]) ⟨.rfl, trivial⟩) ?_
  refine AW.seq fun K1 hK1 => ?_
  refine AW.regionO (by rfl) ?_
  refine ao_q (v := .zc) go0 rfl (aq_as rfl) ?_
  refine AO.done (hK1 _ ?_)
  refine AW.seq fun K2 hK2 => ?_
  refine AW.seq fun K3 hK3 => ?_
  refine AW.regionO (by rfl) ?_
  refine ao_q (v := (.sl (List.map eCell p0))) go0 rfl (aq_mv rfl) ?_
  refine ao_nil go0 sl26 rfl (fun hn => ?_) ?_
  · subst hn
    replace h0 : some [] = some r := by rw [← h0]; first | rfl | simp [Sh.app]
    refine AO.done (hK3 _ ?_)
    refine AW.cond' (b := true) rfl (fun _ => ?_) (fun q => nomatch (show true = false from (rfl : true = true).symm.trans q))
    refine AW.seq fun K4 hK4 => ?_
    refine AW.regionO (by rfl) ?_
    refine ao_q (v := .zc) go0 rfl (aq_as rfl) ?_
    refine AO.done (hK4 _ ?_)
    replace h0 := Sh.some_eq h0
    subst r
    exact AW.ret (Exists.intro _ (And.intro (((Wk.adopt (t := 2) rfl 58 (size := 3) (by decide)).trans (Wk.to (L := [(2, (.own 0 0 (List.length ([] : List Cell))))]) ⟨.rfl, trivial⟩)).trans (Wk.to (L := [(2, (.own 0 0 (List.length ([] : List Cell))))]) ⟨.rfl, trivial⟩)) (And.intro rfl rfl)))
  · skip
    refine AO.done (hK3 _ ?_)
    refine AW.cond' (b := false) rfl (fun q => nomatch (show false = true from (rfl : false = false).symm.trans q)) (fun _ => ?_)
    refine AW.skip (hK2 _ ?_)
    refine AW.seq fun K5 hK5 => ?_
    refine AW.regionO (by rfl) ?_
    refine ao_bs (m := 0) (st' := [⟨0, 58, 3, List.map eCell ([] : List Cell)⟩]) (l := ([] : List Cell)) (enc := eCell) go0 ei26 (by decide) rfl rfl rfl rfl rfl rfl ?_
    refine ao_q (v := (.sl (List.map eCell p0))) go0 rfl (aq_mv rfl) ?_
    obtain ⟨l6, gl6, h0⟩ := Sh.bind_some h0
    refine ao_apo (st' := [⟨1, 58, 3, List.map eCell l6⟩]) (l2 := p0) go0 ei26 rfl rfl rfl rfl el_s (fun _ => rfl) gl6 rfl ?_
    refine ao_q (v := (.own 0 1 (List.length l6))) go0 rfl (aq_as rfl) ?_
    refine AO.done (hK5 _ ?_)
    replace h0 := Sh.some_eq h0
    subst r
    exact AW.ret (Exists.intro _ (And.intro ((Wk.rg (L := [(2, (.own 0 0 (List.length l6)))]) (st' := [⟨0, 58, 3, List.map eCell l6⟩]) (.pure (pure_map fun _ => rfl) .nil) ⟨.rfl, trivial⟩).trans (Wk.to (L := [(2, (.own 0 0 (List.length l6)))]) ⟨.rfl, trivial⟩)) (And.intro rfl rfl)))

set_option maxRecDepth 100000 in
set_option maxHeartbeats 4000000 in
theorem slices_Clone_int_int_ok {p0 : (List Int)} {r : (List Int)} (h0 : slices_Clone_int_int p0 = some r) : ACalls Try.prog 39 [(.sl (List.map eI p0))] [] (fun v st => v = (.own 0 0 (List.length r)) ∧ st = [⟨0, 3, 1, List.map eI r⟩]) := by
  unfold slices_Clone_int_int at h0
  refine ACalls.intro Try.func39 rfl (by show 1 ≤ 8; decide) ?_
  show AW _ 0 _ (aret _ 0 Try.f39 _) ⟨8, _, _⟩
  refine AW.weaken (Wk.to (L := [(0, (.sl (List.map eI p0)))]) ⟨.rfl, trivial⟩) ?_
  refine AW.seq fun K1 hK1 => ?_
  refine AW.regionO (by rfl) ?_
  refine ao_q (v := .zc) go0 rfl (aq_as rfl) ?_
  refine AO.done (hK1 _ ?_)
  refine AW.seq fun K2 hK2 => ?_
  refine AW.seq fun K3 hK3 => ?_
  refine AW.regionO (by rfl) ?_
  refine ao_q (v := (.sl (List.map eI p0))) go0 rfl (aq_mv rfl) ?_
  refine ao_nil go0 sl23 rfl (fun hn => ?_) ?_
  · subst hn
    replace h0 : some [] = some r := by rw [← h0]; first | rfl | simp [Sh.app]
    refine AO.done (hK3 _ ?_)
    refine AW.cond' (b := true) rfl (fun _ => ?_) (fun q => nomatch (show true = false from (rfl : true = true).symm.trans q))
    refine AW.seq fun K4 hK4 => ?_
    refine AW.regionO (by rfl) ?_
    refine ao_q (v := .zc) go0 rfl (aq_as rfl) ?_
    refine AO.done (hK4 _ ?_)
    replace h0 := Sh.some_eq h0
    subst r
    exact AW.ret (Exists.intro _ (And.intro (((Wk.adopt (t := 2) rfl 3 (size := 1) (by decide)).trans (Wk.to (L := [(2, (.own 0 0 (List.length ([] : List Int))))]) ⟨.rfl, trivial⟩)).trans (Wk.to (L := [(2, (.own 0 0 (List.length ([] : List Int))))]) ⟨.rfl, trivial⟩)) (And.intro rfl rfl)))
  · skip
    refine AO.done (hK3 _ ?_)
    refine AW.cond' (b := false) rfl (fun q => nomatch (show false = true from (rfl : false = false).symm.trans q)) (fun _ => ?_)
    refine AW.skip (hK2 _ ?_)
    refine AW.seq fun K5 hK5 => ?_
    refine AW.regionO (by rfl) ?_
    refine ao_bs (m := 0) (st' := [⟨0, 3, 1, List.map eI ([] : List Int)⟩]) (l := ([] : List Int)) (enc := eI) go0 ei23 (by decide) rfl rfl rfl rfl rfl rfl ?_
    refine ao_q (v := (.sl (List.map eI p0))) go0 rfl (aq_mv rfl) ?_
    obtain ⟨l6, gl6, h0⟩ := Sh.bind_some h0
    refine ao_apo (st' := [⟨1, 3, 1, List.map eI l6⟩]) (l2 := p0) go0 ei23 rfl rfl rfl rfl el_s (fun _ => rfl) gl6 rfl ?_
    refine ao_q (v := (.own 0 1 (List.length l6))) go0 rfl (aq_as rfl) ?_
    refine AO.done (hK5 _ ?_)
    replace h0 := Sh.some_eq h0
    subst r
    exact AW.ret (Exists.intro _ (And.intro ((Wk.rg (L := [(2, (.own 0 0 (List.length l6)))]) (st' := [⟨0, 3, 1, List.map eI l6⟩]) (.pure (pure_map fun _ => rfl) .nil) ⟨.rfl, trivial⟩).trans (Wk.to (L := [(2, (.own 0 0 (List.length l6)))]) ⟨.rfl, trivial⟩)) (And.intro rfl rfl)))

set_option maxRecDepth 100000 in
set_option maxHeartbeats 4000000 in
theorem impl_cloneHeap_ok {N : Nat} {p0 : (List Cell)} {r : (List Cell)} (h0 : impl_cloneHeap N p0 = some r) : ACalls Try.prog 47 [(.sl (List.map eCell p0))] [] (fun v st => v = (.own 0 0 (List.length r)) ∧ st = [⟨0, 58, 3, List.map eCell r⟩]) := by
  unfold impl_cloneHeap at h0
  refine ACalls.intro Try.func47 rfl (by show 1 ≤ 24; decide) ?_
  show AW _ 0 _ (aret _ 0 Try.f47 _) ⟨24, _, _⟩
  refine AW.weaken (Wk.to (L := [(0, (.sl (List.map eCell p0)))]) ⟨.rfl, trivial⟩) ?_
  refine AW.seq fun K1 hK1 => ?_
  refine AW.regionO (by rfl) ?_
  refine ao_q (v := .zc) go0 rfl (aq_as rfl) ?_
  refine AO.done (hK1 _ ?_)
  refine AW.seq fun K2 hK2 => ?_
  refine AW.regionO (by rfl) ?_
  refine ao_q (v := (.sl (List.map eCell p0))) go0 rfl (aq_mv rfl) ?_
  obtain ⟨q3, gq3, h0⟩ := Sh.bind_some h0
  refine ao_call (v' := (.own 0 0 (List.length q3))) (st' := [⟨0, 58, 3, List.map eCell q3⟩]) go0 hb72 (slices_Clone_impl_Cell_impl_Cell_ok gq3) rfl rfl ⟨(pure_map' fun _ => rfl), trivial⟩ rfl rfl ?_
  refine ao_q (v := (.own 0 0 (List.length q3))) go0 rfl (aq_as rfl) ?_
  refine AO.done (hK2 _ ?_)
  refine AW.seq fun K4 hK4 => ?_
  refine AW.seq fun K5 hK5 => ?_
  refine AW.regionO (by rfl) ?_
  refine ao_q (v := (.sl (List.map eCell p0))) go0 rfl (aq_mv rfl) ?_
  refine ao_q (v := (i64 (Sh.len p0))) go0 rfl (aq_lens sl26 rfl) ?_
  refine ao_q (v := (i64 0)) go0 rfl (aq_mv rfl) ?_
  refine AO.done (hK5 _ ?_)
  obtain ⟨o9, h1, h0⟩ := Sh.bind_some h0
  have M9 : ∀ (l8 : (List Cell)), o9 = l8 → ∀ s, Wk 0 s ⟨24, envL [(3, (.own 0 0 (List.length l8)))], [⟨0, 58, 3, List.map eCell l8⟩]⟩ → K4 s := by
    intro l8 hq s hw
    subst o9
    try dsimp only at h0
    refine hK4 _ (AW.weaken hw ?_)
    refine AW.seq fun K10 hK10 => ?_
    refine AW.regionO (by rfl) ?_
    refine ao_q (v := (.own 0 0 (List.length l8))) go0 rfl (aq_mv rfl) ?_
    refine ao_q (v := (.own 0 0 (List.length l8))) go0 rfl (aq_as rfl) ?_
    refine AO.done (hK10 _ ?_)
    replace h0 := Sh.some_eq h0
    subst r
    exact AW.ret (Exists.intro _ (And.intro (Wk.to (L := [(2, (.own 0 0 (List.length l8)))]) ⟨.rfl, trivial⟩) (And.intro rfl rfl)))
  refine AW.block (AW.loopF (σ := Int × (List Cell)) (fun n v => impl_cloneHeap_L1 p0 n v.1 v.2 = some o9) (fun (t6, l7) => ⟨24, envL [(3, (.own 0 0 (List.length l7))), (8, (.sl (List.map eCell p0))), (9, (i64 (Sh.len p0))), (10, (i64 t6))], [⟨0, 58, 3, List.map eCell l7⟩]⟩) N (0, q3) h1 (Wk.to (L := [(3, (.own 0 0 (List.length q3))), (8, (.sl (List.map eCell p0))), (9, (i64 (Sh.len p0))), (10, (i64 0))]) ⟨.rfl, .rfl, .rfl, .rfl, trivial⟩) (fun _ hv => by rw [impl_cloneHeap_L1] at hv; cases hv) ?_)
  rintro n ⟨t6, l7⟩ h1
  try dsimp only at h1 ⊢
  rw [impl_cloneHeap_L1] at h1
  refine AW.seq fun K11 hK11 => ?_
  refine AW.regionO (by rfl) ?_
  refine ao_q (v := (.bool (decide (t6 < (Sh.len p0))))) go0 rfl (aq_lt rfl rfl) ?_
  refine AO.done (hK11 _ ?_)
  refine AW.seq fun K12 hK12 => ?_
  refine AW.cond' (b := decide (t6 < (Sh.len p0))) rfl (fun b13 => ?_) (fun b13 => ?_)
  · replace h1 := Sh.ite_t b13 h1
    refine AW.skip (hK12 _ ?_)
    refine AW.seq fun K14 hK14 => ?_
    refine AW.block ?_
    refine AW.seq fun K15 hK15 => ?_
    refine AW.regionO (by rfl) ?_
    refine ao_q (v := (i64 t6)) go0 rfl (aq_mv rfl) ?_
    obtain ⟨c16, gc16, h1⟩ := Sh.bind_some h1
    refine ao_q (v := (.iptr (eCell c16) 0)) go0 rfl (aq_ixs ei26 rfl rfl gc16 rfl) ?_
    refine ao_q (v := (.agg [(i64 c16.count), (i64 c16.tag), (.sl (List.map eI c16.fields))])) go0 rfl (aq_ldia ti58 rfl (show 0 + 3 ≤ 3 by decide) rfl) ?_
    refine ao_alloc (m := 1) (st' := [⟨0, 58, 3, List.map eCell l7⟩, ⟨0, 58, 3, [[(i64 0), (i64 0), .zc]]⟩]) go0 zi58 rfl rfl ?_
    refine ao_q (v := (i64 t6)) go0 rfl (aq_as rfl) ?_
    refine ao_str (st' := [⟨0, 58, 3, List.map eCell l7⟩, ⟨0, 58, 3, [[(i64 c16.count), (i64 c16.tag), (.sl (List.map eI c16.fields))]]⟩]) go0 ti58 rfl rfl rfl rfl rfl rfl (show 0 + 3 ≤ 3 by decide) rfl ?_
    refine AO.done (hK15 _ ?_)
    refine AW.regionO (by rfl) ?_
    refine ao_q (v := (.own 0 0 (List.length l7))) go0 rfl (aq_mv rfl) ?_
    refine ao_q (v := (i64 t6)) go0 rfl (aq_mv rfl) ?_
    refine ao_q (v := (.ptr 1 0 0 2)) go0 rfl (aq_fap fi58_2 rfl rfl (show 0 + 2 ≤ 3 by decide) rfl) ?_
    refine ao_q (v := (.sl (List.map eI c16.fields))) go0 rfl (aq_ldp ti23 rfl rfl rfl rfl) ?_
    obtain ⟨q17, gq17, h1⟩ := Sh.bind_some h1
    refine ao_call (v' := (.own 2 0 (List.length q17))) (st' := [⟨0, 58, 3, List.map eCell l7⟩, ⟨0, 58, 3, [[(i64 c16.count), (i64 c16.tag), (.sl (List.map eI c16.fields))]]⟩, ⟨0, 3, 1, List.map eI q17⟩]) go0 hb39 (slices_Clone_int_int_ok gq17) rfl rfl ⟨(pure_map' fun _ => rfl), trivial⟩ rfl rfl ?_
    obtain ⟨c18, gc18, h1⟩ := Sh.bind_some h1
    refine ao_q (v := (.ptr 0 0 (Int.toNat t6) 0)) go0 rfl (aq_ixo ei26 rfl rfl rfl rfl gc18) ?_
    refine ao_q (v := (.ptr 0 0 (Int.toNat t6) 2)) go0 rfl (aq_fap fi58_2 rfl rfl (show 0 + 2 ≤ 3 by decide) rfl) ?_
    refine AO.weaken (Wk.frz (L := [(3, (.own 0 0 (List.length l7))), (8, (.sl (List.map eCell p0))), (9, (i64 (Sh.len p0))), (10, (i64 t6)), (19, (.sl (List.map eI q17))), (21, (.ptr 0 0 (Int.toNat t6) 2))]) (st' := [⟨0, 58, 3, List.map eCell l7⟩, ⟨0, 58, 3, [[(i64 c16.count), (i64 c16.tag), (.sl (List.map eI c16.fields))]]⟩, ⟨1, 3, 1, []⟩]) (id := 2) rfl (show 0 ≤ 2 by decide) (pure_map fun _ => rfl) ⟨.rfl, .rfl, .rfl, .rfl, (.frz rfl), .rfl, trivial⟩ rfl) ?_
    refine ao_stl (st' := [⟨0, 58, 3, List.map eCell (Sh.put l7 t6 (Cell.mk c18.count c18.tag q17))⟩, ⟨0, 58, 3, [[(i64 c16.count), (i64 c16.tag), (.sl (List.map eI c16.fields))]]⟩, ⟨1, 3, 1, []⟩]) (u' := (Cell.mk c18.count c18.tag q17)) go0 ti23 rfl rfl gc18 rfl rfl rfl (show 2 + 1 ≤ 3 by decide) rfl rfl ?_
    refine AO.done (hK14 _ ?_)
    refine AW.regionO (by rfl) ?_
    refine ao_q (v := (i64 (Sh.w (t6 + 1)))) go0 rfl (aq_add rfl rfl) ?_
    refine ao_q (v := (i64 (Sh.w (t6 + 1)))) go0 rfl (aq_mv rfl) ?_
    exact AO.done (Exists.intro (Sh.w (t6 + 1), Sh.put l7 t6 (Cell.mk c18.count c18.tag q17)) (And.intro h1 (by refine Wk.trans (Wk.permk (L := [(3, (.own 0 0 (List.length l7))), (8, (.sl (List.map eCell p0))), (9, (i64 (Sh.len p0))), (10, (i64 (Sh.w (t6 + 1))))]) (st' := [⟨0, 58, 3, List.map eCell (Sh.put l7 t6 (Cell.mk c18.count c18.tag q17))⟩]) (st1 := [⟨0, 58, 3, List.map eCell (Sh.put l7 t6 (Cell.mk c18.count c18.tag q17))⟩]) [0] rfl .nil (by decide) rfl rfl (.pure (pure_map fun _ => rfl) .nil) ⟨.rfl, .rfl, .rfl, .rfl, trivial⟩) ?_; exact Wk.to (L := [(3, (.own 0 0 (List.length (Sh.put l7 t6 (Cell.mk c18.count c18.tag q17))))), (8, (.sl (List.map eCell p0))), (9, (i64 (Sh.len p0))), (10, (i64 (Sh.w (t6 + 1))))]) ⟨(.len (by simp only [Sh.put_len])), .rfl, .rfl, .rfl, trivial⟩)))
  · replace h1 := Sh.ite_f b13 h1
    exact AW.exit (M9 l7 (Sh.some_eq h1).symm _ (Wk.to (L := [(3, (.own 0 0 (List.length l7)))]) ⟨.rfl, trivial⟩))

end Go.Proofs.Ytcpedchmkhlpnaa
