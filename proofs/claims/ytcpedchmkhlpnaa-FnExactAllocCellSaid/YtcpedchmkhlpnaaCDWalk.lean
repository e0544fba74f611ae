import Derived.Test.YtcpedchmkhlpnaaCloneD
import Derived.Test.YtcpedchmkhlpnaaCAWalk
namespace Go.Proofs.Ytcpedchmkhlpnaa
open Go Go.Abs RC

set_option maxRecDepth 100000 in
set_option maxHeartbeats 4000000 in
theorem impl_cloneHeap_D_ok {N : Nat} {p0 : (List Cell)} {r : (List Cell)} (h0 : impl_cloneHeap N p0 = some r) : ACalls Try.prog 47 [(.sl (List.map eCell p0))] [] (fun v st => v = (.own 0 0 (List.length r)) ∧ st = [⟨0, 58, 3, List.map (eCellD 3) r⟩]) := by
  unfold impl_cloneHeap at h0
  refine ACalls.intro Try.func47 rfl (by show 1 ≤ 24; decide) ?_
  show AW _ 0 _ (aret _ 0 Try.f47 _) ⟨24, _, _⟩
  refine AW.weaken (Wk.to (L := [(0, (.sl (List.map eCell p0)))]) ⟨.rfl, trivial⟩) ?_
  refine AW.seq fun K1 hK1 => ?_
  refine AW.regionO (by rfl) ?_
  refine ao_q (v := .zc) go0 rfl (aq_as rfl) ?_
  refine AO.done (hK1 _ ?_)
  refine AW.seq fun K2 hK2 => ?_
  refine AW.regionO (by rfl) ?_
  refine ao_q (v := (.sl (List.map eCell p0))) go0 rfl (aq_mv rfl) ?_
  obtain ⟨q3, gq3, h0⟩ := Sh.bind_some h0
  refine ao_call (v' := (.own 0 0 (List.length q3))) (st' := [⟨0, 58, 3, List.map eCell q3⟩]) go0 hb72 (slices_Clone_impl_Cell_impl_Cell_ok gq3) rfl rfl ⟨(pure_map' fun _ => rfl), trivial⟩ rfl rfl ?_
  refine ao_q (v := (.own 0 0 (List.length q3))) go0 rfl (aq_as rfl) ?_
  refine AO.done (hK2 _ ?_)
  have hq3 : q3 = p0 ∧ p0.length ≤ 9223372036854775807 := by
    unfold slices_Clone_impl_Cell_impl_Cell at gq3
    obtain ⟨l, hl, hs⟩ := Sh.bind_some gq3
    unfold Sh.app at hl
    split at hl
    · rename_i hb
      simp only [Option.some.injEq, List.nil_append] at hl hs
      exact ⟨by rw [← hs, ← hl], by simpa using hb.2⟩
    · cases hl
  obtain ⟨hq, hmax⟩ := hq3
  refine AW.seq fun K4 hK4 => ?_
  refine AW.seq fun K5 hK5 => ?_
  refine AW.regionO (by rfl) ?_
  refine ao_q (v := (.sl (List.map eCell p0))) go0 rfl (aq_mv rfl) ?_
  refine ao_q (v := (i64 (Sh.len p0))) go0 rfl (aq_lens sl26 rfl) ?_
  refine ao_q (v := (i64 0)) go0 rfl (aq_mv rfl) ?_
  refine AO.done (hK5 _ ?_)
  obtain ⟨o9, h1, h0⟩ := Sh.bind_some h0
  have M9 : ∀ (l8 : (List Cell)), o9 = l8 → ∀ s, Wk 0 s ⟨24, envL [(3, (.own 0 0 (List.length l8)))], [⟨0, 58, 3, List.map (eCellD 3) l8⟩]⟩ → K4 s := by
    intro l8 hq s hw
    subst o9
    try dsimp only at h0
    refine hK4 _ (AW.weaken hw ?_)
    refine AW.seq fun K10 hK10 => ?_
    refine AW.regionO (by rfl) ?_
    refine ao_q (v := (.own 0 0 (List.length l8))) go0 rfl (aq_mv rfl) ?_
    refine ao_q (v := (.own 0 0 (List.length l8))) go0 rfl (aq_as rfl) ?_
    refine AO.done (hK10 _ ?_)
    replace h0 := Sh.some_eq h0
    subst r
    exact AW.ret (Exists.intro _ (And.intro (Wk.to (L := [(2, (.own 0 0 (List.length l8)))]) ⟨.rfl, trivial⟩) (And.intro rfl rfl)))
  refine AW.block (AW.loopF (σ := Int × (List Cell)) (fun n v => impl_cloneHeap_L1 p0 n v.1 v.2 = some o9 ∧ v.2.length = p0.length ∧ 0 ≤ v.1 ∧ v.1 ≤ p0.length) (fun (t6, l7) => ⟨24, envL [(3, (.own 0 0 (List.length l7))), (8, (.sl (List.map eCell p0))), (9, (i64 (Sh.len p0))), (10, (i64 t6))], [⟨0, 58, 3, mixD 3 (Int.toNat t6) l7⟩]⟩) N (0, q3) ⟨h1, by rw [hq], Int.le_refl _, Int.natCast_nonneg _⟩ ((Wk.to (L := [(3, (.own 0 0 (List.length q3))), (8, (.sl (List.map eCell p0))), (9, (i64 (Sh.len p0))), (10, (i64 0))]) ⟨.rfl, .rfl, .rfl, .rfl, trivial⟩).trans (Wk.steq (by rw [show Int.toNat 0 = 0 from rfl, mixD_zero]))) (fun _ hv => by have hv := hv.1; rw [impl_cloneHeap_L1] at hv; cases hv) ?_)
  rintro n ⟨t6, l7⟩ ⟨h1, hll, ht0, ht1⟩
  try dsimp only at h1 hll ht0 ht1 ⊢
  rw [impl_cloneHeap_L1] at h1
  refine AW.seq fun K11 hK11 => ?_
  refine AW.regionO (by rfl) ?_
  refine ao_q (v := (.bool (decide (t6 < (Sh.len p0))))) go0 rfl (aq_lt rfl rfl) ?_
  refine AO.done (hK11 _ ?_)
  refine AW.seq fun K12 hK12 => ?_
  refine AW.cond' (b := decide (t6 < (Sh.len p0))) rfl (fun b13 => ?_) (fun b13 => ?_)
  · replace h1 := Sh.ite_t b13 h1
    refine AW.skip (hK12 _ ?_)
    refine AW.seq fun K14 hK14 => ?_
    refine AW.block ?_
    refine AW.seq fun K15 hK15 => ?_
    refine AW.regionO (by rfl) ?_
    refine ao_q (v := (i64 t6)) go0 rfl (aq_mv rfl) ?_
    obtain ⟨c16, gc16, h1⟩ := Sh.bind_some h1
    refine ao_q (v := (.iptr (eCell c16) 0)) go0 rfl (aq_ixs ei26 rfl rfl gc16 rfl) ?_
    refine ao_q (v := (.agg [(i64 c16.count), (i64 c16.tag), (.sl (List.map eI c16.fields))])) go0 rfl (aq_ldia ti58 rfl (show 0 + 3 ≤ 3 by decide) rfl) ?_
    refine ao_alloc (m := 1) (st' := [⟨0, 58, 3, mixD 3 (Int.toNat t6) l7⟩, ⟨0, 58, 3, [[(i64 0), (i64 0), .zc]]⟩]) go0 zi58 rfl rfl ?_
    refine ao_q (v := (i64 t6)) go0 rfl (aq_as rfl) ?_
    refine ao_str (st' := [⟨0, 58, 3, mixD 3 (Int.toNat t6) l7⟩, ⟨0, 58, 3, [[(i64 c16.count), (i64 c16.tag), (.sl (List.map eI c16.fields))]]⟩]) go0 ti58 rfl rfl rfl rfl rfl rfl (show 0 + 3 ≤ 3 by decide) rfl ?_
    refine AO.done (hK15 _ ?_)
    refine AW.regionO (by rfl) ?_
    refine ao_q (v := (.own 0 0 (List.length l7))) go0 rfl (aq_mv rfl) ?_
    refine ao_q (v := (i64 t6)) go0 rfl (aq_mv rfl) ?_
    refine ao_q (v := (.ptr 1 0 0 2)) go0 rfl (aq_fap fi58_2 rfl rfl (show 0 + 2 ≤ 3 by decide) rfl) ?_
    refine ao_q (v := (.sl (List.map eI c16.fields))) go0 rfl (aq_ldp ti23 rfl rfl rfl rfl) ?_
    obtain ⟨q17, gq17, h1⟩ := Sh.bind_some h1
    refine ao_call (v' := (.own 2 0 (List.length q17))) (st' := [⟨0, 58, 3, mixD 3 (Int.toNat t6) l7⟩, ⟨0, 58, 3, [[(i64 c16.count), (i64 c16.tag), (.sl (List.map eI c16.fields))]]⟩, ⟨0, 3, 1, List.map eI q17⟩]) go0 hb39 (slices_Clone_int_int_ok gq17) rfl rfl ⟨(pure_map' fun _ => rfl), trivial⟩ rfl rfl ?_
    obtain ⟨c18, gc18, h1⟩ := Sh.bind_some h1
    have hget : l7[Int.toNat t6]? = some c18 := by have h := gc18; unfold Sh.get at h; rw [if_pos ht0] at h; exact h
    refine ao_q (v := (.ptr 0 0 (Int.toNat t6) 0)) go0 rfl (aq_ixx ei26 rfl rfl rfl ht0 (Sh.get_some gc18).2.2) ?_
    refine ao_q (v := (.ptr 0 0 (Int.toNat t6) 2)) go0 rfl (aq_fap fi58_2 rfl rfl (show 0 + 2 ≤ 3 by decide) rfl) ?_
    have hmix : ((mixD 3 (Int.toNat t6) l7).set (Int.toNat t6) [(i64 c18.count), (i64 c18.tag), (.own 2 0 (List.length q17))]).set (Int.toNat t6) (eCellD 3 (Cell.mk c18.count c18.tag q17)) = mixD 3 (Int.toNat t6 + 1) (Sh.put l7 t6 (Cell.mk c18.count c18.tag q17)) := by rw [List.set_set]; exact mixD_set hget
    have hil : Int.toNat t6 < (mixD 3 (Int.toNat t6) l7).length := by rw [mixD_len]; exact (List.getElem?_eq_some_iff.1 hget).1
    refine ao_str (st' := [⟨0, 58, 3, (mixD 3 (Int.toNat t6) l7).set (Int.toNat t6) [(i64 c18.count), (i64 c18.tag), (.own 2 0 (List.length q17))]⟩, ⟨0, 58, 3, [[(i64 c16.count), (i64 c16.tag), (.sl (List.map eI c16.fields))]]⟩, ⟨0, 3, 1, List.map eI q17⟩]) go0 ti23 rfl rfl (mixD_get hget) rfl rfl rfl (show 2 + 1 ≤ 3 by decide) rfl ?_
    refine AO.weaken (Wk.adoptD (id := 0) (m := 2) (i := Int.toNat t6) (j := 2) (st' := [⟨0, 58, 3, mixD 3 (Int.toNat t6 + 1) (Sh.put l7 t6 (Cell.mk c18.count c18.tag q17))⟩, ⟨0, 58, 3, [[(i64 c16.count), (i64 c16.tag), (.sl (List.map eI c16.fields))]]⟩, ⟨1, 3, 1, []⟩]) rfl (List.getElem?_set_self hil) rfl rfl (by simp) (by decide) (show 0 ≤ 2 by decide) (deepR_map fun _ => rfl) (by rw [← hmix]; rfl)) ?_
    refine AO.done (hK14 _ ?_)
    refine AW.regionO (by rfl) ?_
    refine ao_q (v := (i64 (Sh.w (t6 + 1)))) go0 rfl (aq_add rfl rfl) ?_
    refine ao_q (v := (i64 (Sh.w (t6 + 1)))) go0 rfl (aq_mv rfl) ?_
    have htl : t6 < (p0.length : Int) := of_decide_eq_true b13
    have hw1 : Sh.w (t6 + 1) = t6 + 1 := Go.Abs.wrap_i64 (by omega) (by omega)
    have ht2 : Int.toNat (Sh.w (t6 + 1)) = Int.toNat t6 + 1 := by rw [hw1]; omega
    exact AO.done (Exists.intro (Sh.w (t6 + 1), Sh.put l7 t6 (Cell.mk c18.count c18.tag q17)) (And.intro ⟨h1, by rw [Sh.put_len]; exact hll, by rw [hw1]; omega, by rw [hw1]; omega⟩ (by refine Wk.trans (Wk.permk (L := [(3, (.own 0 0 (List.length l7))), (8, (.sl (List.map eCell p0))), (9, (i64 (Sh.len p0))), (10, (i64 (Sh.w (t6 + 1))))]) (st' := [⟨0, 58, 3, mixD 3 (Int.toNat t6 + 1) (Sh.put l7 t6 (Cell.mk c18.count c18.tag q17))⟩]) (st1 := [⟨0, 58, 3, mixD 3 (Int.toNat t6 + 1) (Sh.put l7 t6 (Cell.mk c18.count c18.tag q17))⟩]) [0] rfl .nil (by decide) rfl rfl (.deep mixD_pure .nil) ⟨.rfl, .rfl, .rfl, .rfl, trivial⟩) ?_; refine Wk.trans (Wk.to (L := [(3, (.own 0 0 (List.length (Sh.put l7 t6 (Cell.mk c18.count c18.tag q17))))), (8, (.sl (List.map eCell p0))), (9, (i64 (Sh.len p0))), (10, (i64 (Sh.w (t6 + 1))))]) ⟨(.len (by simp only [Sh.put_len])), .rfl, .rfl, .rfl, trivial⟩) ?_; exact Wk.steq (by rw [ht2]))))
  · replace h1 := Sh.ite_f b13 h1
    have hfull : mixD 3 (Int.toNat t6) l7 = List.map (eCellD 3) l7 := mixD_full (by have h := of_decide_eq_false b13; simp only [Sh.len] at h; omega)
    exact AW.exit (M9 l7 (Sh.some_eq h1).symm _ ((Wk.to (L := [(3, (.own 0 0 (List.length l7)))]) ⟨.rfl, trivial⟩).trans (Wk.steq (by rw [hfull]))))

end Go.Proofs.Ytcpedchmkhlpnaa
