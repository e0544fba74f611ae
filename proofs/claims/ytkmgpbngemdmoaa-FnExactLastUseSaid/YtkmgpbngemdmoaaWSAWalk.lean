import Derived.Test.YtkmgpbngemdmoaaProg
import Derived.Test.YtkmgpbngemdmoaaSADefs
import Derived.Test.YtkmgpbngemdmoaaWSAWalkP0
namespace Go.Proofs.Ytkmgpbngemdmoaa
open Go Go.Abs RC

theorem hb17 : hasBody Try.prog 17 = true := by kernel_rfl
theorem hb18 : hasBody Try.prog 18 = true := by kernel_rfl

set_option maxRecDepth 100000 in
set_option maxHeartbeats 4000000 in
theorem laws_FnExactLastUse_ok {N : Nat} {p0 : Block} {p1 : Int} {r : Bool} (h0 : laws_FnExactLastUse N p0 p1 = some r) : ACalls Try.prog 4 [(.agg [(.sl (List.map eStep p0.steps)), (i64 p0.result)]), (i64 p1)] [] (fun v st => v = (.bool r) ∧ st = []) := by
  unfold laws_FnExactLastUse at h0
  refine ACalls.intro Try.func4 rfl (by show 2 ≤ 31; decide) ?_
  show AW _ 0 _ (aret _ 0 Try.f4 _) ⟨31, _, _⟩
  refine AW.weaken (Wk.to (L := [(0, (.agg [(.sl (List.map eStep p0.steps)), (i64 p0.result)])), (1, (i64 p1))]) ⟨.rfl, .rfl, trivial⟩) ?_
  refine AW.seq fun K1 hK1 => ?_
  refine AW.regionO (by rfl) ?_
  refine ao_box (m := 0) (st' := [⟨0, 24, 2, [[(.sl (List.map eStep p0.steps)), (i64 p0.result)]]⟩]) go0 rfl rfl rfl rfl rfl ?_
  refine ao_q (v := (.bool false)) go0 rfl (aq_as rfl) ?_
  refine AO.done (hK1 _ ?_)
  refine AW.seq fun K2 hK2 => ?_
  refine AW.regionO (by rfl) ?_
  refine ao_q (v := (i64 1048576)) go0 rfl (aq_as rfl) ?_
  refine AO.done (hK2 _ ?_)
  refine AW.seq fun K3 hK3 => ?_
  refine AW.regionO (by rfl) ?_
  refine ao_q (v := (.agg [(.sl (List.map eStep p0.steps)), (i64 p0.result)])) go0 rfl (aq_ldpa ti24 rfl rfl rfl (show 0 + 2 ≤ 2 by decide) rfl) ?_
  refine ao_q (v := (i64 1048576)) go0 rfl (aq_mv rfl) ?_
  obtain ⟨q4, gq4, h0⟩ := Sh.bind_some h0
  refine ao_call (v' := (i64 q4)) (st' := [⟨0, 24, 2, [[(.sl (List.map eStep p0.steps)), (i64 p0.result)]]⟩]) go0 hb12 (laws_szBlock_ok gq4) rfl rfl trivial rfl rfl ?_
  refine ao_q (v := (i64 q4)) go0 rfl (aq_as rfl) ?_
  refine AO.done (hK3 _ ?_)
  refine AW.seq fun K5 hK5 => ?_
  refine AW.seq fun K6 hK6 => ?_
  refine AW.regionO (by rfl) ?_
  refine ao_q (v := (i64 q4)) go0 rfl (aq_mv rfl) ?_
  refine ao_q (v := (.bool (decide (q4 < 0)))) go0 rfl (aq_lt rfl rfl) ?_
  refine AO.done (hK6 _ ?_)
  refine AW.cond' (b := decide (q4 < 0)) rfl (fun b7 => ?_) (fun b7 => ?_)
  · replace h0 := Sh.ite_t b7 h0
    refine AW.seq fun K8 hK8 => ?_
    refine AW.regionO (by rfl) ?_
    refine ao_q (v := (.bool true)) go0 rfl (aq_as rfl) ?_
    refine AO.done (hK8 _ ?_)
    replace h0 := Sh.some_eq h0
    subst r
    exact AW.ret (Exists.intro _ (And.intro ((Wk.permk (L := [(4, (.bool true))]) (st' := []) (st1 := []) [] rfl .nil (by decide) rfl rfl .nil ⟨.rfl, trivial⟩).trans (Wk.to (L := [(4, (.bool true))]) ⟨.rfl, trivial⟩)) (And.intro rfl rfl)))
  · replace h0 := Sh.ite_f b7 h0
    refine AW.skip (hK5 _ ?_)
    refine AW.seq fun K9 hK9 => ?_
    refine AW.regionO (by rfl) ?_
    refine ao_q (v := (.agg [(.sl (List.map eStep p0.steps)), (i64 p0.result)])) go0 rfl (aq_ldpa ti24 rfl rfl rfl (show 0 + 2 ≤ 2 by decide) rfl) ?_
    obtain ⟨q10, gq10, h0⟩ := Sh.bind_some h0
    refine ao_call (v' := (.agg [(.sl (List.map eStep q10.steps)), (i64 q10.result)])) (st' := [⟨0, 24, 2, [[(.sl (List.map eStep p0.steps)), (i64 p0.result)]]⟩]) go0 hb14 (laws_toBlock_ok gq10) rfl rfl trivial rfl rfl ?_
    refine ao_q (v := (i64 p1)) go0 rfl (aq_mv rfl) ?_
    obtain ⟨q11, gq11, h0⟩ := Sh.bind_some h0
    refine ao_call (v' := (i64 q11)) (st' := [⟨0, 24, 2, [[(.sl (List.map eStep p0.steps)), (i64 p0.result)]]⟩]) go0 hb17 (spec_LastUse_ok gq11) rfl rfl trivial rfl rfl ?_
    refine ao_q (v := (i64 q11)) go0 rfl (aq_as rfl) ?_
    refine AO.done (hK9 _ ?_)
    refine AW.seq fun K12 hK12 => ?_
    refine AW.regionO (by rfl) ?_
    refine ao_q (v := (.agg [(.sl (List.map eStep p0.steps)), (i64 p0.result)])) go0 rfl (aq_ldpa ti24 rfl rfl rfl (show 0 + 2 ≤ 2 by decide) rfl) ?_
    obtain ⟨q13, gq13, h0⟩ := Sh.bind_some h0
    refine ao_call (v' := (.agg [(.sl (List.map eStep q13.steps)), (i64 q13.result)])) (st' := [⟨0, 24, 2, [[(.sl (List.map eStep p0.steps)), (i64 p0.result)]]⟩]) go0 hb14 (laws_toBlock_ok gq13) rfl rfl trivial rfl rfl ?_
    refine ao_alloc (m := 1) (st' := [⟨0, 24, 2, [[(.sl (List.map eStep p0.steps)), (i64 p0.result)]]⟩, ⟨0, 29, 2, [[.zc, (i64 0)]]⟩]) go0 zi29 rfl rfl ?_
    refine ao_str (st' := [⟨0, 24, 2, [[(.sl (List.map eStep p0.steps)), (i64 p0.result)]]⟩, ⟨0, 29, 2, [[(.sl (List.map eStep q13.steps)), (i64 q13.result)]]⟩]) go0 ti29 rfl rfl rfl rfl rfl rfl (show 0 + 2 ≤ 2 by decide) rfl ?_
    refine AO.done (hK12 _ ?_)
    refine AW.seq fun K14 hK14 => ?_
    refine AW.regionO (by rfl) ?_
    refine ao_q (v := (.agg [(.sl (List.map eStep q13.steps)), (i64 q13.result)])) go0 rfl (aq_ldpa ti29 rfl rfl rfl (show 0 + 2 ≤ 2 by decide) rfl) ?_
    refine ao_q (v := (i64 p1)) go0 rfl (aq_mv rfl) ?_
    obtain ⟨q15, gq15, h0⟩ := Sh.bind_some h0
    refine ao_call (v' := (i64 q15)) (st' := [⟨0, 24, 2, [[(.sl (List.map eStep p0.steps)), (i64 p0.result)]]⟩, ⟨0, 29, 2, [[(.sl (List.map eStep q13.steps)), (i64 q13.result)]]⟩]) go0 hb18 (impl_LastUse_ok gq15) rfl rfl trivial rfl rfl ?_
    refine ao_q (v := (i64 q15)) go0 rfl (aq_as rfl) ?_
    refine AO.done (hK14 _ ?_)
    refine AW.seq fun K16 hK16 => ?_
    refine AW.seq fun K17 hK17 => ?_
    refine AW.regionO (by rfl) ?_
    refine ao_q (v := (i64 q15)) go0 rfl (aq_mv rfl) ?_
    refine ao_q (v := (i64 q11)) go0 rfl (aq_mv rfl) ?_
    refine ao_q (v := (.bool (!decide (q15 = q11)))) go0 rfl (aq_ne rfl rfl) ?_
    refine AO.done (hK17 _ ?_)
    refine AW.cond' (b := !decide (q15 = q11)) rfl (fun b18 => ?_) (fun b18 => ?_)
    · replace h0 := Sh.ite_t b18 h0
      have b19 : decide (q15 = q11) = false := by simpa using b18
      refine AW.seq fun K20 hK20 => ?_
      refine AW.regionO (by rfl) ?_
      refine ao_q (v := (.bool false)) go0 rfl (aq_as rfl) ?_
      refine AO.done (hK20 _ ?_)
      replace h0 := Sh.some_eq h0
      subst r
      exact AW.ret (Exists.intro _ (And.intro ((Wk.permk (L := [(4, (.bool false))]) (st' := []) (st1 := []) [] rfl .nil (by decide) rfl rfl .nil ⟨.rfl, trivial⟩).trans (Wk.to (L := [(4, (.bool false))]) ⟨.rfl, trivial⟩)) (And.intro rfl rfl)))
    · replace h0 := Sh.ite_f b18 h0
      have b21 : decide (q15 = q11) = true := by simpa using b18
      refine AW.skip (hK16 _ ?_)
      refine AW.seq fun K22 hK22 => ?_
      refine AW.seq fun K23 hK23 => ?_
      refine AW.draw (by kernel_rfl) (by kernel_rfl) (by rfl) ?_
      refine d_q (v := (.agg [(.sl (List.map eStep q13.steps)), (i64 q13.result)])) go0 rfl (aq_ldpa ti29 rfl rfl rfl (show 0 + 2 ≤ 2 by decide) rfl) ?_
      refine d_q (v := (.agg [(.sl (List.map eStep p0.steps)), (i64 p0.result)])) go0 rfl (aq_ldpa ti24 rfl rfl rfl (show 0 + 2 ≤ 2 by decide) rfl) ?_
      obtain ⟨q24, gq24, h0⟩ := Sh.bind_some h0
      refine d_call (v := (.agg [(.sl (List.map eStep q24.steps)), (i64 q24.result)])) go0 hb14 (laws_toBlock_ok gq24) rfl rfl rfl ?_
      obtain ⟨q25, gq25, h0⟩ := Sh.bind_some h0
      refine d_call (v := (.bool q25)) go0 hb16 (laws_eqBlock_ok gq25) rfl rfl rfl ?_
      refine d_q (v := (.bool (!q25))) go0 rfl (aq_not rfl) ?_
      refine d_done (hK23 _ ?_)
      refine AW.cond' (b := !q25) rfl (fun b26 => ?_) (fun b26 => ?_)
      · replace h0 := Sh.ite_t b26 h0
        have b27 : q25 = false := by simpa using b26
        refine AW.seq fun K28 hK28 => ?_
        refine AW.regionO (by rfl) ?_
        refine ao_q (v := (.bool false)) go0 rfl (aq_as rfl) ?_
        refine AO.done (hK28 _ ?_)
        replace h0 := Sh.some_eq h0
        subst r
        exact AW.ret (Exists.intro _ (And.intro ((Wk.permk (L := [(4, (.bool false))]) (st' := []) (st1 := []) [] rfl .nil (by decide) rfl rfl .nil ⟨.rfl, trivial⟩).trans (Wk.to (L := [(4, (.bool false))]) ⟨.rfl, trivial⟩)) (And.intro rfl rfl)))
      · replace h0 := Sh.ite_f b26 h0
        have b29 : q25 = true := by simpa using b26
        refine AW.skip (hK22 _ ?_)
        refine AW.seq fun K30 hK30 => ?_
        refine AW.regionO (by rfl) ?_
        refine ao_q (v := (.bool true)) go0 rfl (aq_as rfl) ?_
        refine AO.done (hK30 _ ?_)
        replace h0 := Sh.some_eq h0
        subst r
        exact AW.ret (Exists.intro _ (And.intro ((Wk.permk (L := [(4, (.bool true))]) (st' := []) (st1 := []) [] rfl .nil (by decide) rfl rfl .nil ⟨.rfl, trivial⟩).trans (Wk.to (L := [(4, (.bool true))]) ⟨.rfl, trivial⟩)) (And.intro rfl rfl)))

end Go.Proofs.Ytkmgpbngemdmoaa
