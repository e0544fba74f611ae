import Derived.Test.YtgpjhgoobijdjaaProg
import Derived.Test.YtgpjhgoobijdjaaHBDefs
namespace Go.Proofs.Ytgpjhgoobijdjaa
open Go Go.Abs RC

theorem ai41 : allInfo Try.prog 41 = true := by kernel_rfl
theorem ai84 : allInfo Try.prog 84 = true := by kernel_rfl
theorem bi41 : finfos Try.prog 41 = some [(0, 1), (1, 1), (2, 1)] := by kernel_rfl
theorem bi84 : finfos Try.prog 84 = some [(0, 1), (1, 1)] := by kernel_rfl
theorem ci5_3 : cinfo Try.prog 5 3 = some .i64 := by kernel_rfl
theorem ei25 : einfo Try.prog 25 = some ⟨41, 3, 40, [.int .i64 0, .int .i64 0, .sl []]⟩ := by kernel_rfl
theorem ei32 : einfo Try.prog 32 = some ⟨3, 1, 8, [.int .i64 0]⟩ := by kernel_rfl
theorem ei38 : einfo Try.prog 38 = some ⟨5, 1, 1, [.int .u8 0]⟩ := by kernel_rfl
theorem ei63 : einfo Try.prog 63 = some ⟨4, 1, 1, [.bool false]⟩ := by kernel_rfl
theorem fi41_0 : finfo Try.prog 41 0 = some 0 := by kernel_rfl
theorem fi41_1 : finfo Try.prog 41 1 = some 1 := by kernel_rfl
theorem fi41_2 : finfo Try.prog 41 2 = some 2 := by kernel_rfl
theorem fi84_0 : finfo Try.prog 84 0 = some 0 := by kernel_rfl
theorem fi84_1 : finfo Try.prog 84 1 = some 1 := by kernel_rfl
theorem hb100 : hasBody Try.prog 100 = true := by kernel_rfl
theorem hb102 : hasBody Try.prog 102 = true := by kernel_rfl
theorem hb103 : hasBody Try.prog 103 = true := by kernel_rfl
theorem hb104 : hasBody Try.prog 104 = true := by kernel_rfl
theorem hb43 : hasBody Try.prog 43 = true := by kernel_rfl
theorem hb45 : hasBody Try.prog 45 = true := by kernel_rfl
theorem hb61 : hasBody Try.prog 61 = true := by kernel_rfl
theorem hb65 : hasBody Try.prog 65 = true := by kernel_rfl
theorem hb66 : hasBody Try.prog 66 = true := by kernel_rfl
theorem hb75 : hasBody Try.prog 75 = true := by kernel_rfl
theorem hb76 : hasBody Try.prog 76 = true := by kernel_rfl
theorem hb77 : hasBody Try.prog 77 = true := by kernel_rfl
theorem hb80 : hasBody Try.prog 80 = true := by kernel_rfl
theorem hb81 : hasBody Try.prog 81 = true := by kernel_rfl
theorem hb82 : hasBody Try.prog 82 = true := by kernel_rfl
theorem hb83 : hasBody Try.prog 83 = true := by kernel_rfl
theorem hb85 : hasBody Try.prog 85 = true := by kernel_rfl
theorem hb89 : hasBody Try.prog 89 = true := by kernel_rfl
theorem hb90 : hasBody Try.prog 90 = true := by kernel_rfl
theorem hb92 : hasBody Try.prog 92 = true := by kernel_rfl
theorem hb93 : hasBody Try.prog 93 = true := by kernel_rfl
theorem hb94 : hasBody Try.prog 94 = true := by kernel_rfl
theorem hb95 : hasBody Try.prog 95 = true := by kernel_rfl
theorem sl25 : isSliceT Try.prog 25 = true := by kernel_rfl
theorem sl32 : isSliceT Try.prog 32 = true := by kernel_rfl
theorem sl38 : isSliceT Try.prog 38 = true := by kernel_rfl
theorem ti3 : tinfo Try.prog 3 = some (false, 1) := by kernel_rfl
theorem ti32 : tinfo Try.prog 32 = some (false, 1) := by kernel_rfl
theorem ti38 : tinfo Try.prog 38 = some (false, 1) := by kernel_rfl
theorem ti4 : tinfo Try.prog 4 = some (false, 1) := by kernel_rfl
theorem ti41 : tinfo Try.prog 41 = some (true, 3) := by kernel_rfl
theorem ti5 : tinfo Try.prog 5 = some (false, 1) := by kernel_rfl
theorem zi41 : zinfo Try.prog 41 = some [.int .i64 0, .int .i64 0, .zc] := by kernel_rfl
theorem zi84 : zinfo Try.prog 84 = some [.zc, .int .i64 0] := by kernel_rfl

set_option maxRecDepth 100000 in
set_option maxHeartbeats 4000000 in
theorem spec_newReader_ok {p0 : (List Int)} {r : (List Int) × Int} (h0 : spec_newReader p0 = some r) : ACalls Try.prog 74 [(.sl (List.map eI_u8 p0))] [] (fun v st => v = (.ptr 0 0 0 0) ∧ st = [⟨0, 84, 2, [[(.sl (List.map eI_u8 r.1)), (i64 r.2)]]⟩]) := by
  unfold spec_newReader at h0
  refine ACalls.intro Try.func74 rfl (by show 1 ≤ 11; decide) ?_
  show AW _ 0 _ (aret _ 0 Try.f74 _) ⟨11, _, _⟩
  refine AW.weaken (Wk.to (L := [(0, (.sl (List.map eI_u8 p0)))]) ⟨.rfl, trivial⟩) ?_
  refine AW.seq fun K1 hK1 => ?_
  refine AW.regionO (by rfl) ?_
  refine ao_q (v := .nilp) go0 rfl (aq_as rfl) ?_
  refine AO.done (hK1 _ ?_)
  refine AW.seq fun K2 hK2 => ?_
  obtain ⟨o4, h1, h0⟩ := Sh.bind_some h0
  have M4 : ∀ (code3 : (List Int)), o4 = code3 → ∀ s, Wk 0 s ⟨11, envL [(0, (.sl (List.map eI_u8 code3)))], []⟩ → K2 s := by
    intro code3 hq s hw
    subst o4
    try dsimp only at h0
    refine hK2 _ (AW.weaken hw ?_)
    refine AW.seq fun K5 hK5 => ?_
    refine AW.regionO (by rfl) ?_
    refine ao_q (v := (.sl (List.map eI_u8 code3))) go0 rfl (aq_mv rfl) ?_
    refine ao_q (v := (.agg [(.sl (List.map eI_u8 code3)), (i64 0)])) go0 rfl (aq_bd ai84 bi84 zi84 rfl rfl) ?_
    refine ao_box (m := 0) (st' := [⟨0, 84, 2, [[(.sl (List.map eI_u8 code3)), (i64 0)]]⟩]) go0 rfl rfl rfl rfl rfl ?_
    refine ao_q (v := (.ptr 0 0 0 0)) go0 rfl (aq_as rfl) ?_
    refine AO.done (hK5 _ ?_)
    replace h0 := Sh.some_eq h0
    subst r
    exact AW.ret (Exists.intro _ (And.intro (Wk.to (L := [(2, (.ptr 0 0 0 0))]) ⟨.rfl, trivial⟩) (And.intro rfl rfl)))
  refine AW.seq fun K6 hK6 => ?_
  refine AW.regionO (by rfl) ?_
  refine ao_q (v := (.sl (List.map eI_u8 p0))) go0 rfl (aq_mv rfl) ?_
  refine ao_q (v := (i64 (Sh.len p0))) go0 rfl (aq_lens sl38 rfl) ?_
  refine ao_q (v := (.bool (decide (2000 < (Sh.len p0))))) go0 rfl (aq_gt rfl rfl) ?_
  refine AO.done (hK6 _ ?_)
  refine AW.cond' (b := decide (2000 < (Sh.len p0))) rfl (fun b7 => ?_) (fun b7 => ?_)
  · replace h1 := Sh.ite_t b7 h1
    refine AW.regionO (by rfl) ?_
    refine ao_q (v := (.sl (List.map eI_u8 p0))) go0 rfl (aq_mv rfl) ?_
    obtain ⟨l8, gl8, h1⟩ := Sh.bind_some h1
    refine ao_sls (i := 0) (j := 2000) go0 ei38 rfl rfl rfl (fun _ => rfl) gl8 ?_
    refine ao_q (v := (.sl (List.map eI_u8 l8))) go0 rfl (aq_as rfl) ?_
    exact AO.done (M4 l8 (Sh.some_eq h1).symm _ (Wk.to (L := [(0, (.sl (List.map eI_u8 l8)))]) ⟨.rfl, trivial⟩))
  · replace h1 := Sh.ite_f b7 h1
    exact AW.skip (M4 p0 (Sh.some_eq h1).symm _ (Wk.to (L := [(0, (.sl (List.map eI_u8 p0)))]) ⟨.rfl, trivial⟩))

set_option maxRecDepth 100000 in
set_option maxHeartbeats 4000000 in
theorem spec_reader_pick_ok {s0_0 : (List Int)} {s0_1 : Int} {p1 : Int} {r : Int × Int} (h0 : spec_reader_pick s0_0 s0_1 p1 = some r) : ACalls Try.prog 81 [(.ptr 0 0 0 0), (i64 p1)] [⟨0, 84, 2, [[(.sl (List.map eI_u8 s0_0)), (i64 s0_1)]]⟩] (fun v st => v = (i64 r.1) ∧ st = [⟨0, 84, 2, [[(.sl (List.map eI_u8 s0_0)), (i64 r.2)]]⟩]) := by
  unfold spec_reader_pick at h0
  refine ACalls.intro Try.func81 rfl (by show 2 ≤ 99; decide) ?_
  show AW _ 1 _ (aret _ 1 Try.f81 _) ⟨99, _, _⟩
  refine AW.weaken (Wk.to (L := [(0, (.ptr 0 0 0 0)), (1, (i64 p1))]) ⟨.rfl, .rfl, trivial⟩) ?_
  refine AW.seq fun K1 hK1 => ?_
  refine AW.regionO (by rfl) ?_
  refine ao_q (v := (i64 0)) go0 rfl (aq_as rfl) ?_
  refine AO.done (hK1 _ ?_)
  refine AW.seq fun K2 hK2 => ?_
  refine AW.regionO (by rfl) ?_
  refine ao_q (v := (.ptr 0 0 0 0)) go0 rfl (aq_mv rfl) ?_
  refine ao_q (v := (.ptr 0 0 0 0)) go0 rfl (aq_mv rfl) ?_
  refine ao_q (v := (.ptr 0 0 0 0)) go0 rfl (aq_nck rfl rfl) ?_
  refine ao_q (v := (.ptr 0 0 0 1)) go0 rfl (aq_fap fi84_1 rfl rfl (show 0 + 1 ≤ 2 by decide) rfl) ?_
  refine ao_q (v := (i64 s0_1)) go0 rfl (aq_ldp ti3 rfl rfl rfl rfl) ?_
  refine ao_q (v := (i64 (Sh.w (s0_1 + 1)))) go0 rfl (aq_add rfl rfl) ?_
  refine ao_q (v := (.ptr 0 0 0 0)) go0 rfl (aq_nck rfl rfl) ?_
  refine ao_q (v := (.ptr 0 0 0 1)) go0 rfl (aq_fap fi84_1 rfl rfl (show 0 + 1 ≤ 2 by decide) rfl) ?_
  refine ao_str (st' := [⟨0, 84, 2, [[(.sl (List.map eI_u8 s0_0)), (i64 (Sh.w (s0_1 + 1)))]]⟩]) go0 ti3 rfl rfl rfl rfl rfl rfl (show 1 + 1 ≤ 2 by decide) rfl ?_
  refine AO.done (hK2 _ ?_)
  refine AW.seq fun K3 hK3 => ?_
  refine AW.seq fun K4 hK4 => ?_
  obtain ⟨o6, h1, h0⟩ := Sh.bind_some h0
  have M6 : ∀ (t5 : Bool), o6 = t5 → ∀ s, Wk 1 s ⟨99, envL [(0, (.ptr 0 0 0 0)), (1, (i64 p1)), (24, (.bool t5))], [⟨0, 84, 2, [[(.sl (List.map eI_u8 s0_0)), (i64 (Sh.w (s0_1 + 1)))]]⟩]⟩ → K4 s := by
    intro t5 hq s hw
    subst o6
    try dsimp only at h0
    refine hK4 _ (AW.weaken hw ?_)
    refine AW.cond' (b := t5) rfl (fun b7 => ?_) (fun b7 => ?_)
    · replace h0 := Sh.ite_t b7 h0
      refine AW.seq fun K8 hK8 => ?_
      refine AW.regionO (by rfl) ?_
      refine ao_q (v := (i64 0)) go0 rfl (aq_as rfl) ?_
      refine AO.done (hK8 _ ?_)
      replace h0 := Sh.some_eq h0
      subst r
      exact AW.ret (Exists.intro _ (And.intro (Wk.to (L := [(4, (i64 0))]) ⟨.rfl, trivial⟩) (And.intro rfl rfl)))
    · replace h0 := Sh.ite_f b7 h0
      refine AW.skip (hK3 _ ?_)
      refine AW.seq fun K9 hK9 => ?_
      refine AW.regionO (by rfl) ?_
      refine ao_q (v := (.ptr 0 0 0 0)) go0 rfl (aq_mv rfl) ?_
      refine ao_q (v := (.ptr 0 0 0 0)) go0 rfl (aq_nck rfl rfl) ?_
      refine ao_q (v := (.ptr 0 0 0 1)) go0 rfl (aq_fap fi84_1 rfl rfl (show 0 + 1 ≤ 2 by decide) rfl) ?_
      refine ao_q (v := (i64 (Sh.w (s0_1 + 1)))) go0 rfl (aq_ldp ti3 rfl rfl rfl rfl) ?_
      refine ao_q (v := (i64 (Sh.w ((Sh.w (s0_1 + 1)) - 1)))) go0 rfl (aq_sub rfl rfl) ?_
      refine ao_q (v := (i64 (Sh.w ((Sh.w (s0_1 + 1)) - 1)))) go0 rfl (aq_as rfl) ?_
      refine AO.done (hK9 _ ?_)
      refine AW.seq fun K10 hK10 => ?_
      refine AW.seq fun K11 hK11 => ?_
      refine AW.regionO (by rfl) ?_
      refine ao_q (v := (i64 (Sh.w ((Sh.w (s0_1 + 1)) - 1)))) go0 rfl (aq_mv rfl) ?_
      refine ao_q (v := (.ptr 0 0 0 0)) go0 rfl (aq_mv rfl) ?_
      refine ao_q (v := (.ptr 0 0 0 0)) go0 rfl (aq_nck rfl rfl) ?_
      refine ao_q (v := (.ptr 0 0 0 0)) go0 rfl (aq_fap fi84_0 rfl rfl (show 0 + 0 ≤ 2 by decide) rfl) ?_
      refine ao_q (v := (.sl (List.map eI_u8 s0_0))) go0 rfl (aq_ldp ti38 rfl rfl rfl rfl) ?_
      refine ao_q (v := (i64 (Sh.len s0_0))) go0 rfl (aq_lens sl38 rfl) ?_
      refine ao_q (v := (.bool (decide ((Sh.w ((Sh.w (s0_1 + 1)) - 1)) < (Sh.len s0_0))))) go0 rfl (aq_lt rfl rfl) ?_
      refine AO.done (hK11 _ ?_)
      refine AW.cond' (b := decide ((Sh.w ((Sh.w (s0_1 + 1)) - 1)) < (Sh.len s0_0))) rfl (fun b12 => ?_) (fun b12 => ?_)
      · replace h0 := Sh.ite_t b12 h0
        refine AW.seq fun K13 hK13 => ?_
        refine AW.regionO (by rfl) ?_
        refine ao_q (v := (.ptr 0 0 0 0)) go0 rfl (aq_mv rfl) ?_
        refine ao_q (v := (.ptr 0 0 0 0)) go0 rfl (aq_nck rfl rfl) ?_
        refine ao_q (v := (.ptr 0 0 0 0)) go0 rfl (aq_fap fi84_0 rfl rfl (show 0 + 0 ≤ 2 by decide) rfl) ?_
        refine ao_q (v := (.sl (List.map eI_u8 s0_0))) go0 rfl (aq_ldp ti38 rfl rfl rfl rfl) ?_
        refine ao_q (v := (i64 (Sh.w ((Sh.w (s0_1 + 1)) - 1)))) go0 rfl (aq_mv rfl) ?_
        obtain ⟨c14, gc14, h0⟩ := Sh.bind_some h0
        refine ao_q (v := (.iptr (eI_u8 c14) 0)) go0 rfl (aq_ixs ei38 rfl rfl gc14 rfl) ?_
        refine ao_q (v := (.int .u8 c14)) go0 rfl (aq_ldi ti5 rfl rfl) ?_
        refine ao_q (v := (i64 (Sh.wk .i64 c14))) go0 rfl (aq_cv ci5_3 rfl) ?_
        refine ao_q (v := (i64 p1)) go0 rfl (aq_mv rfl) ?_
        obtain ⟨d15, gd15, h0⟩ := Sh.bind_some h0
        refine ao_q (v := (i64 d15)) go0 rfl (aq_remv rfl rfl gd15) ?_
        refine ao_q (v := (i64 d15)) go0 rfl (aq_as rfl) ?_
        refine AO.done (hK13 _ ?_)
        replace h0 := Sh.some_eq h0
        subst r
        exact AW.ret (Exists.intro _ (And.intro (Wk.to (L := [(4, (i64 d15))]) ⟨.rfl, trivial⟩) (And.intro rfl rfl)))
      · replace h0 := Sh.ite_f b12 h0
        refine AW.skip (hK10 _ ?_)
        refine AW.seq fun K16 hK16 => ?_
        refine AW.draw (by kernel_rfl) (by kernel_rfl) (by rfl) ?_
        refine d_q (v := (.ptr 0 0 0 0)) go0 rfl (aq_mv rfl) ?_
        refine d_q (v := (.ptr 0 0 0 0)) go0 rfl (aq_nck rfl rfl) ?_
        refine d_q (v := (.ptr 0 0 0 0)) go0 rfl (aq_fap fi84_0 rfl rfl (show 0 + 0 ≤ 2 by decide) rfl) ?_
        refine d_q (v := (.sl (List.map eI_u8 s0_0))) go0 rfl (aq_ldp ti38 rfl rfl rfl rfl) ?_
        refine d_q (v := (i64 (Sh.w ((Sh.w (s0_1 + 1)) - 1)))) go0 rfl (aq_mv rfl) ?_
        refine d_q (v := (.ptr 0 0 0 0)) go0 rfl (aq_mv rfl) ?_
        refine d_q (v := (.ptr 0 0 0 0)) go0 rfl (aq_nck rfl rfl) ?_
        refine d_q (v := (.ptr 0 0 0 0)) go0 rfl (aq_fap fi84_0 rfl rfl (show 0 + 0 ≤ 2 by decide) rfl) ?_
        refine d_q (v := (.sl (List.map eI_u8 s0_0))) go0 rfl (aq_ldp ti38 rfl rfl rfl rfl) ?_
        refine d_q (v := (i64 (Sh.len s0_0))) go0 rfl (aq_lens sl38 rfl) ?_
        obtain ⟨d17, gd17, h0⟩ := Sh.bind_some h0
        refine d_q (v := (i64 d17)) go0 rfl (aq_remv rfl rfl gd17) ?_
        obtain ⟨c18, gc18, h0⟩ := Sh.bind_some h0
        refine d_q (v := (.iptr (eI_u8 c18) 0)) go0 rfl (aq_ixs ei38 rfl rfl gc18 rfl) ?_
        refine d_q (v := (.int .u8 c18)) go0 rfl (aq_ldi ti5 rfl rfl) ?_
        refine d_q (v := (i64 (Sh.wk .i64 c18))) go0 rfl (aq_cv ci5_3 rfl) ?_
        refine d_q (v := (i64 (Sh.w ((Sh.wk .i64 c18) * 131)))) go0 rfl (aq_mul rfl rfl) ?_
        refine d_q (v := (.ptr 0 0 0 0)) go0 rfl (aq_mv rfl) ?_
        refine d_q (v := (.ptr 0 0 0 0)) go0 rfl (aq_nck rfl rfl) ?_
        refine d_q (v := (.ptr 0 0 0 0)) go0 rfl (aq_fap fi84_0 rfl rfl (show 0 + 0 ≤ 2 by decide) rfl) ?_
        refine d_q (v := (.sl (List.map eI_u8 s0_0))) go0 rfl (aq_ldp ti38 rfl rfl rfl rfl) ?_
        refine d_q (v := (i64 (Sh.w ((Sh.w (s0_1 + 1)) - 1)))) go0 rfl (aq_mv rfl) ?_
        refine d_q (v := (i64 (Sh.w ((Sh.w ((Sh.w (s0_1 + 1)) - 1)) * 7)))) go0 rfl (aq_mul rfl rfl) ?_
        refine d_q (v := (i64 (Sh.w ((Sh.w ((Sh.w ((Sh.w (s0_1 + 1)) - 1)) * 7)) + 3)))) go0 rfl (aq_add rfl rfl) ?_
        refine d_q (v := (.ptr 0 0 0 0)) go0 rfl (aq_mv rfl) ?_
        refine d_q (v := (.ptr 0 0 0 0)) go0 rfl (aq_nck rfl rfl) ?_
        refine d_q (v := (.ptr 0 0 0 0)) go0 rfl (aq_fap fi84_0 rfl rfl (show 0 + 0 ≤ 2 by decide) rfl) ?_
        refine d_q (v := (.sl (List.map eI_u8 s0_0))) go0 rfl (aq_ldp ti38 rfl rfl rfl rfl) ?_
        refine d_q (v := (i64 (Sh.len s0_0))) go0 rfl (aq_lens sl38 rfl) ?_
        obtain ⟨d19, gd19, h0⟩ := Sh.bind_some h0
        refine d_q (v := (i64 d19)) go0 rfl (aq_remv rfl rfl gd19) ?_
        obtain ⟨c20, gc20, h0⟩ := Sh.bind_some h0
        refine d_q (v := (.iptr (eI_u8 c20) 0)) go0 rfl (aq_ixs ei38 rfl rfl gc20 rfl) ?_
        refine d_q (v := (.int .u8 c20)) go0 rfl (aq_ldi ti5 rfl rfl) ?_
        refine d_q (v := (i64 (Sh.wk .i64 c20))) go0 rfl (aq_cv ci5_3 rfl) ?_
        refine d_q (v := (i64 (Sh.w ((Sh.wk .i64 c20) * 1117)))) go0 rfl (aq_mul rfl rfl) ?_
        refine d_q (v := (i64 (Sh.w ((Sh.w ((Sh.wk .i64 c18) * 131)) + (Sh.w ((Sh.wk .i64 c20) * 1117)))))) go0 rfl (aq_add rfl rfl) ?_
        refine d_q (v := (i64 (Sh.w ((Sh.w (s0_1 + 1)) - 1)))) go0 rfl (aq_mv rfl) ?_
        refine d_q (v := (i64 (Sh.w ((Sh.w ((Sh.w (s0_1 + 1)) - 1)) * 29)))) go0 rfl (aq_mul rfl rfl) ?_
        refine d_q (v := (i64 (Sh.w ((Sh.w ((Sh.w ((Sh.wk .i64 c18) * 131)) + (Sh.w ((Sh.wk .i64 c20) * 1117)))) + (Sh.w ((Sh.w ((Sh.w (s0_1 + 1)) - 1)) * 29)))))) go0 rfl (aq_add rfl rfl) ?_
        refine d_q (v := (i64 (Sh.w ((Sh.w (s0_1 + 1)) - 1)))) go0 rfl (aq_mv rfl) ?_
        refine d_q (v := (.ptr 0 0 0 0)) go0 rfl (aq_mv rfl) ?_
        refine d_q (v := (.ptr 0 0 0 0)) go0 rfl (aq_nck rfl rfl) ?_
        refine d_q (v := (.ptr 0 0 0 0)) go0 rfl (aq_fap fi84_0 rfl rfl (show 0 + 0 ≤ 2 by decide) rfl) ?_
        refine d_q (v := (.sl (List.map eI_u8 s0_0))) go0 rfl (aq_ldp ti38 rfl rfl rfl rfl) ?_
        refine d_q (v := (i64 (Sh.len s0_0))) go0 rfl (aq_lens sl38 rfl) ?_
        obtain ⟨d21, gd21, h0⟩ := Sh.bind_some h0
        refine d_q (v := (i64 d21)) go0 rfl (aq_quov rfl rfl gd21) ?_
        refine d_q (v := (i64 (Sh.w (d21 * 53)))) go0 rfl (aq_mul rfl rfl) ?_
        refine d_q (v := (i64 (Sh.w ((Sh.w ((Sh.w ((Sh.w ((Sh.wk .i64 c18) * 131)) + (Sh.w ((Sh.wk .i64 c20) * 1117)))) + (Sh.w ((Sh.w ((Sh.w (s0_1 + 1)) - 1)) * 29)))) + (Sh.w (d21 * 53)))))) go0 rfl (aq_add rfl rfl) ?_
        refine d_q (v := (i64 (Sh.w ((Sh.w ((Sh.w ((Sh.w ((Sh.wk .i64 c18) * 131)) + (Sh.w ((Sh.wk .i64 c20) * 1117)))) + (Sh.w ((Sh.w ((Sh.w (s0_1 + 1)) - 1)) * 29)))) + (Sh.w (d21 * 53)))))) go0 rfl (aq_as rfl) ?_
        refine d_done (hK16 _ ?_)
        refine AW.seq fun K22 hK22 => ?_
        refine AW.regionO (by rfl) ?_
        refine ao_q (v := (i64 (Sh.w ((Sh.w ((Sh.w ((Sh.w ((Sh.wk .i64 c18) * 131)) + (Sh.w ((Sh.wk .i64 c20) * 1117)))) + (Sh.w ((Sh.w ((Sh.w (s0_1 + 1)) - 1)) * 29)))) + (Sh.w (d21 * 53)))))) go0 rfl (aq_mv rfl) ?_
        refine ao_q (v := (i64 (Sh.w ((Sh.w ((Sh.w ((Sh.w ((Sh.wk .i64 c18) * 131)) + (Sh.w ((Sh.wk .i64 c20) * 1117)))) + (Sh.w ((Sh.w ((Sh.w (s0_1 + 1)) - 1)) * 29)))) + (Sh.w (d21 * 53)))))) go0 rfl (aq_mv rfl) ?_
        refine ao_q (v := (i64 (Sh.w (Int.tdiv (Sh.w ((Sh.w ((Sh.w ((Sh.w ((Sh.wk .i64 c18) * 131)) + (Sh.w ((Sh.wk .i64 c20) * 1117)))) + (Sh.w ((Sh.w ((Sh.w (s0_1 + 1)) - 1)) * 29)))) + (Sh.w (d21 * 53)))) 64)))) go0 rfl (aq_quo rfl rfl (by decide)) ?_
        refine ao_q (v := (i64 (Sh.xor (Sh.w ((Sh.w ((Sh.w ((Sh.w ((Sh.wk .i64 c18) * 131)) + (Sh.w ((Sh.wk .i64 c20) * 1117)))) + (Sh.w ((Sh.w ((Sh.w (s0_1 + 1)) - 1)) * 29)))) + (Sh.w (d21 * 53)))) (Sh.w (Int.tdiv (Sh.w ((Sh.w ((Sh.w ((Sh.w ((Sh.wk .i64 c18) * 131)) + (Sh.w ((Sh.wk .i64 c20) * 1117)))) + (Sh.w ((Sh.w ((Sh.w (s0_1 + 1)) - 1)) * 29)))) + (Sh.w (d21 * 53)))) 64))))) go0 rfl (aq_xor rfl rfl) ?_
        refine ao_q (v := (i64 (Sh.xor (Sh.w ((Sh.w ((Sh.w ((Sh.w ((Sh.wk .i64 c18) * 131)) + (Sh.w ((Sh.wk .i64 c20) * 1117)))) + (Sh.w ((Sh.w ((Sh.w (s0_1 + 1)) - 1)) * 29)))) + (Sh.w (d21 * 53)))) (Sh.w (Int.tdiv (Sh.w ((Sh.w ((Sh.w ((Sh.w ((Sh.wk .i64 c18) * 131)) + (Sh.w ((Sh.wk .i64 c20) * 1117)))) + (Sh.w ((Sh.w ((Sh.w (s0_1 + 1)) - 1)) * 29)))) + (Sh.w (d21 * 53)))) 64))))) go0 rfl (aq_as rfl) ?_
        refine AO.done (hK22 _ ?_)
        refine AW.seq fun K23 hK23 => ?_
        refine AW.regionO (by rfl) ?_
        refine ao_q (v := (i64 (Sh.xor (Sh.w ((Sh.w ((Sh.w ((Sh.w ((Sh.wk .i64 c18) * 131)) + (Sh.w ((Sh.wk .i64 c20) * 1117)))) + (Sh.w ((Sh.w ((Sh.w (s0_1 + 1)) - 1)) * 29)))) + (Sh.w (d21 * 53)))) (Sh.w (Int.tdiv (Sh.w ((Sh.w ((Sh.w ((Sh.w ((Sh.wk .i64 c18) * 131)) + (Sh.w ((Sh.wk .i64 c20) * 1117)))) + (Sh.w ((Sh.w ((Sh.w (s0_1 + 1)) - 1)) * 29)))) + (Sh.w (d21 * 53)))) 64))))) go0 rfl (aq_mv rfl) ?_
        refine ao_q (v := (i64 p1)) go0 rfl (aq_mv rfl) ?_
        obtain ⟨d24, gd24, h0⟩ := Sh.bind_some h0
        refine ao_q (v := (i64 d24)) go0 rfl (aq_remv rfl rfl gd24) ?_
        refine ao_q (v := (i64 d24)) go0 rfl (aq_as rfl) ?_
        refine AO.done (hK23 _ ?_)
        replace h0 := Sh.some_eq h0
        subst r
        exact AW.ret (Exists.intro _ (And.intro (Wk.to (L := [(4, (i64 d24))]) ⟨.rfl, trivial⟩) (And.intro rfl rfl)))
  refine AW.regionO (by rfl) ?_
  refine ao_q (v := (i64 p1)) go0 rfl (aq_mv rfl) ?_
  refine ao_q (v := (.bool (decide (p1 < 1)))) go0 rfl (aq_lt rfl rfl) ?_
  refine ao_q (v := (.bool (decide (p1 < 1)))) go0 rfl (aq_mv rfl) ?_
  rcases Sh.ite_some h1 with ⟨b25, h1⟩ | ⟨b25, h1⟩
  · skip
    refine ao_skip rfl rfl b25 ?_
    refine ao_skip rfl rfl b25 ?_
    refine ao_skip rfl rfl b25 ?_
    refine ao_skip rfl rfl b25 ?_
    refine ao_skip rfl rfl b25 ?_
    refine ao_skip rfl rfl b25 ?_
    refine ao_q (v := (.bool true)) go0 rfl (aq_pkt rfl b25 rfl) ?_
    exact AO.done (M6 true (Sh.some_eq h1).symm _ (Wk.to (L := [(0, (.ptr 0 0 0 0)), (1, (i64 p1)), (24, (.bool true))]) ⟨.rfl, .rfl, .rfl, trivial⟩))
  · skip
    refine ao_q (v := (.ptr 0 0 0 0)) (go1 rfl rfl b25) rfl (aq_mv rfl) ?_
    refine ao_q (v := (.ptr 0 0 0 0)) (go1 rfl rfl b25) rfl (aq_nck rfl rfl) ?_
    refine ao_q (v := (.ptr 0 0 0 0)) (go1 rfl rfl b25) rfl (aq_fap fi84_0 rfl rfl (show 0 + 0 ≤ 2 by decide) rfl) ?_
    refine ao_q (v := (.sl (List.map eI_u8 s0_0))) (go1 rfl rfl b25) rfl (aq_ldp ti38 rfl rfl rfl rfl) ?_
    refine ao_q (v := (i64 (Sh.len s0_0))) (go1 rfl rfl b25) rfl (aq_lens sl38 rfl) ?_
    refine ao_q (v := (.bool (decide ((Sh.len s0_0) = 0)))) (go1 rfl rfl b25) rfl (aq_eq rfl rfl) ?_
    refine ao_q (v := (.bool (decide ((Sh.len s0_0) = 0)))) go0 rfl (aq_pkf rfl b25 rfl) ?_
    exact AO.done (M6 (decide ((Sh.len s0_0) = 0)) (Sh.some_eq h1).symm _ (Wk.to (L := [(0, (.ptr 0 0 0 0)), (1, (i64 p1)), (24, (.bool (decide ((Sh.len s0_0) = 0))))]) ⟨.rfl, .rfl, .rfl, trivial⟩))

set_option maxRecDepth 100000 in
set_option maxHeartbeats 4000000 in
theorem spec_inRange_ok {p0 : Int} {p1 : Int} {p2 : Int} {r : Bool} (h0 : spec_inRange p0 p1 p2 = some r) : ACalls Try.prog 65 [(i64 p0), (i64 p1), (i64 p2)] [] (fun v st => v = (.bool r) ∧ st = []) := by
  unfold spec_inRange at h0
  refine ACalls.intro Try.func65 rfl (by show 3 ≤ 15; decide) ?_
  show AW _ 0 _ (aret _ 0 Try.f65 _) ⟨15, _, _⟩
  refine AW.weaken (Wk.to (L := [(0, (i64 p0)), (1, (i64 p1)), (2, (i64 p2))]) ⟨.rfl, .rfl, .rfl, trivial⟩) ?_
  refine AW.seq fun K1 hK1 => ?_
  refine AW.regionO (by rfl) ?_
  refine ao_q (v := (.bool false)) go0 rfl (aq_as rfl) ?_
  refine AO.done (hK1 _ ?_)
  refine AW.seq fun K2 hK2 => ?_
  obtain ⟨o4, h1, h0⟩ := Sh.bind_some h0
  have M4 : ∀ (t3 : Bool), o4 = t3 → ∀ s, Wk 0 s ⟨15, envL [(6, (.bool t3))], []⟩ → K2 s := by
    intro t3 hq s hw
    subst o4
    try dsimp only at h0
    refine hK2 _ (AW.weaken hw ?_)
    replace h0 := Sh.some_eq h0
    subst r
    exact AW.ret (Exists.intro _ (And.intro (Wk.to (L := [(6, (.bool t3))]) ⟨.rfl, trivial⟩) (And.intro rfl rfl)))
  refine AW.regionO (by rfl) ?_
  refine ao_q (v := (i64 p1)) go0 rfl (aq_mv rfl) ?_
  refine ao_q (v := (i64 p0)) go0 rfl (aq_mv rfl) ?_
  refine ao_q (v := (.bool (decide (p1 ≤ p0)))) go0 rfl (aq_le rfl rfl) ?_
  refine ao_q (v := (.bool (decide (p1 ≤ p0)))) go0 rfl (aq_mv rfl) ?_
  rcases Sh.ite_some h1 with ⟨b5, h1⟩ | ⟨b5, h1⟩
  · skip
    refine ao_q (v := (i64 p0)) (go1 rfl rfl b5) rfl (aq_mv rfl) ?_
    refine ao_q (v := (i64 p2)) (go1 rfl rfl b5) rfl (aq_mv rfl) ?_
    refine ao_q (v := (.bool (decide (p0 ≤ p2)))) (go1 rfl rfl b5) rfl (aq_le rfl rfl) ?_
    refine ao_q (v := (.bool (decide (p0 ≤ p2)))) go0 rfl (aq_pkt rfl b5 rfl) ?_
    refine ao_q (v := (.bool (decide (p0 ≤ p2)))) go0 rfl (aq_as rfl) ?_
    exact AO.done (M4 (decide (p0 ≤ p2)) (Sh.some_eq h1).symm _ (Wk.to (L := [(6, (.bool (decide (p0 ≤ p2))))]) ⟨.rfl, trivial⟩))
  · skip
    refine ao_skip rfl rfl b5 ?_
    refine ao_skip rfl rfl b5 ?_
    refine ao_skip rfl rfl b5 ?_
    refine ao_q (v := (.bool false)) go0 rfl (aq_pkf rfl b5 rfl) ?_
    refine ao_q (v := (.bool false)) go0 rfl (aq_as rfl) ?_
    exact AO.done (M4 false (Sh.some_eq h1).symm _ (Wk.to (L := [(6, (.bool false))]) ⟨.rfl, trivial⟩))

set_option maxRecDepth 100000 in
set_option maxHeartbeats 4000000 in
theorem spec_isPointer_ok {p0 : Int} {r : Bool} (h0 : spec_isPointer p0 = some r) : ACalls Try.prog 77 [(i64 p0)] [] (fun v st => v = (.bool r) ∧ st = []) := by
  unfold spec_isPointer at h0
  refine ACalls.intro Try.func77 rfl (by show 1 ≤ 5; decide) ?_
  show AW _ 0 _ (aret _ 0 Try.f77 _) ⟨5, _, _⟩
  refine AW.weaken (Wk.to (L := [(0, (i64 p0))]) ⟨.rfl, trivial⟩) ?_
  refine AW.seq fun K1 hK1 => ?_
  refine AW.regionO (by rfl) ?_
  refine ao_q (v := (.bool false)) go0 rfl (aq_as rfl) ?_
  refine AO.done (hK1 _ ?_)
  refine AW.seq fun K2 hK2 => ?_
  refine AW.regionO (by rfl) ?_
  refine ao_q (v := (i64 p0)) go0 rfl (aq_mv rfl) ?_
  refine ao_q (v := (.bool (decide (1000 ≤ p0)))) go0 rfl (aq_ge rfl rfl) ?_
  refine ao_q (v := (.bool (decide (1000 ≤ p0)))) go0 rfl (aq_as rfl) ?_
  refine AO.done (hK2 _ ?_)
  replace h0 := Sh.some_eq h0
  subst r
  exact AW.ret (Exists.intro _ (And.intro (Wk.to (L := [(2, (.bool (decide (1000 ≤ p0))))]) ⟨.rfl, trivial⟩) (And.intro rfl rfl)))

set_option maxRecDepth 100000 in
set_option maxHeartbeats 4000000 in
theorem spec_isLive_ok {p0 : (List Cell)} {p1 : Int} {r : Bool} (h0 : spec_isLive p0 p1 = some r) : ACalls Try.prog 92 [(.sl (List.map eCell p0)), (i64 p1)] [] (fun v st => v = (.bool r) ∧ st = []) := by
  unfold spec_isLive at h0
  refine ACalls.intro Try.func92 rfl (by show 2 ≤ 24; decide) ?_
  show AW _ 0 _ (aret _ 0 Try.f92 _) ⟨24, _, _⟩
  refine AW.weaken (Wk.to (L := [(0, (.sl (List.map eCell p0))), (1, (i64 p1))]) ⟨.rfl, .rfl, trivial⟩) ?_
  refine AW.seq fun K1 hK1 => ?_
  refine AW.regionO (by rfl) ?_
  refine ao_q (v := (.bool false)) go0 rfl (aq_as rfl) ?_
  refine AO.done (hK1 _ ?_)
  refine AW.seq fun K2 hK2 => ?_
  obtain ⟨o4, h1, h0⟩ := Sh.bind_some h0
  have M4 : ∀ (t3 : Bool), o4 = t3 → ∀ s, Wk 0 s ⟨24, envL [(4, (.bool t3))], []⟩ → K2 s := by
    intro t3 hq s hw
    subst o4
    try dsimp only at h0
    refine hK2 _ (AW.weaken hw ?_)
    replace h0 := Sh.some_eq h0
    subst r
    exact AW.ret (Exists.intro _ (And.intro (Wk.to (L := [(4, (.bool t3))]) ⟨.rfl, trivial⟩) (And.intro rfl rfl)))
  refine AW.regionO (by rfl) ?_
  refine ao_q (v := (i64 p1)) go0 rfl (aq_mv rfl) ?_
  refine ao_q (v := (i64 (Sh.w (p1 - 1000)))) go0 rfl (aq_sub rfl rfl) ?_
  refine ao_q (v := (.sl (List.map eCell p0))) go0 rfl (aq_mv rfl) ?_
  refine ao_q (v := (i64 (Sh.len p0))) go0 rfl (aq_lens sl25 rfl) ?_
  refine ao_q (v := (i64 (Sh.w ((Sh.len p0) - 1)))) go0 rfl (aq_sub rfl rfl) ?_
  obtain ⟨q5, gq5, h1⟩ := Sh.bind_some h1
  refine ao_call (v' := (.bool q5)) (st' := []) go0 hb65 (spec_inRange_ok gq5) rfl rfl trivial rfl rfl ?_
  refine ao_q (v := (.bool q5)) go0 rfl (aq_mv rfl) ?_
  rcases Sh.ite_some h1 with ⟨b6, h1⟩ | ⟨b6, h1⟩
  · skip
    refine ao_q (v := (i64 p1)) (go1 rfl rfl b6) rfl (aq_mv rfl) ?_
    obtain ⟨q7, gq7, h1⟩ := Sh.bind_some h1
    refine ao_call (v' := (.bool q7)) (st' := []) (go1 rfl rfl b6) hb77 (spec_isPointer_ok gq7) rfl rfl trivial rfl rfl ?_
    refine ao_q (v := (.bool q7)) go0 rfl (aq_pkt rfl b6 rfl) ?_
    refine ao_q (v := (.bool q7)) go0 rfl (aq_mv rfl) ?_
    rcases Sh.ite_some h1 with ⟨b8, h1⟩ | ⟨b8, h1⟩
    · skip
      refine ao_q (v := (.sl (List.map eCell p0))) (go1 rfl rfl b8) rfl (aq_mv rfl) ?_
      refine ao_q (v := (i64 p1)) (go1 rfl rfl b8) rfl (aq_mv rfl) ?_
      refine ao_q (v := (i64 (Sh.w (p1 - 1000)))) (go1 rfl rfl b8) rfl (aq_sub rfl rfl) ?_
      obtain ⟨c9, gc9, h1⟩ := Sh.bind_some h1
      refine ao_q (v := (.iptr (eCell c9) 0)) (go1 rfl rfl b8) rfl (aq_ixs ei25 rfl rfl gc9 rfl) ?_
      refine ao_q (v := (.iptr (eCell c9) 0)) (go1 rfl rfl b8) rfl (aq_fai fi41_0 rfl rfl) ?_
      refine ao_q (v := (i64 c9.count)) (go1 rfl rfl b8) rfl (aq_ldi ti3 rfl rfl) ?_
      refine ao_q (v := (.bool (decide (0 < c9.count)))) (go1 rfl rfl b8) rfl (aq_gt rfl rfl) ?_
      refine ao_q (v := (.bool (decide (0 < c9.count)))) go0 rfl (aq_pkt rfl b8 rfl) ?_
      refine ao_q (v := (.bool (decide (0 < c9.count)))) go0 rfl (aq_as rfl) ?_
      exact AO.done (M4 (decide (0 < c9.count)) (Sh.some_eq h1).symm _ (Wk.to (L := [(4, (.bool (decide (0 < c9.count))))]) ⟨.rfl, trivial⟩))
    · skip
      refine ao_skip rfl rfl b8 ?_
      refine ao_skip rfl rfl b8 ?_
      refine ao_skip rfl rfl b8 ?_
      refine ao_skip rfl rfl b8 ?_
      refine ao_skip rfl rfl b8 ?_
      refine ao_skip rfl rfl b8 ?_
      refine ao_skip rfl rfl b8 ?_
      refine ao_q (v := (.bool false)) go0 rfl (aq_pkf rfl b8 rfl) ?_
      refine ao_q (v := (.bool false)) go0 rfl (aq_as rfl) ?_
      exact AO.done (M4 false (Sh.some_eq h1).symm _ (Wk.to (L := [(4, (.bool false))]) ⟨.rfl, trivial⟩))
  · skip
    refine ao_skip rfl rfl b6 ?_
    refine ao_skip rfl rfl b6 ?_
    refine ao_q (v := (.bool false)) go0 rfl (aq_pkf rfl b6 rfl) ?_
    refine ao_q (v := (.bool false)) go0 rfl (aq_mv rfl) ?_
    refine ao_skip rfl rfl rfl ?_
    refine ao_skip rfl rfl rfl ?_
    refine ao_skip rfl rfl rfl ?_
    refine ao_skip rfl rfl rfl ?_
    refine ao_skip rfl rfl rfl ?_
    refine ao_skip rfl rfl rfl ?_
    refine ao_skip rfl rfl rfl ?_
    refine ao_q (v := (.bool false)) go0 rfl (aq_pkf rfl rfl rfl) ?_
    refine ao_q (v := (.bool false)) go0 rfl (aq_as rfl) ?_
    exact AO.done (M4 false (Sh.some_eq h1).symm _ (Wk.to (L := [(4, (.bool false))]) ⟨.rfl, trivial⟩))

set_option maxRecDepth 100000 in
set_option maxHeartbeats 4000000 in
theorem spec_refsOf_ok {N : Nat} {p0 : (List Cell)} {r : (List Int)} (h0 : spec_refsOf N p0 = some r) : ACalls Try.prog 66 [(.sl (List.map eCell p0))] [] (fun v st => v = (.own 0 0 (List.length r)) ∧ st = [⟨0, 3, 1, List.map eI r⟩]) := by
  unfold spec_refsOf at h0
  refine ACalls.intro Try.func66 rfl (by show 1 ≤ 54; decide) ?_
  show AW _ 0 _ (aret _ 0 Try.f66 _) ⟨54, _, _⟩
  refine AW.weaken (Wk.to (L := [(0, (.sl (List.map eCell p0)))]) ⟨.rfl, trivial⟩) ?_
  refine AW.seq fun K1 hK1 => ?_
  refine AW.regionO (by rfl) ?_
  refine ao_q (v := .zc) go0 rfl (aq_as rfl) ?_
  refine AO.done (hK1 _ ?_)
  refine AW.seq fun K2 hK2 => ?_
  refine AW.regionO (by rfl) ?_
  refine ao_q (v := (.sl (List.map eCell p0))) go0 rfl (aq_mv rfl) ?_
  refine ao_q (v := (i64 (Sh.len p0))) go0 rfl (aq_lens sl25 rfl) ?_
  obtain ⟨l3, gl3, h0⟩ := Sh.bind_some h0
  refine ao_make (m := 0) (st' := [⟨0, 3, 1, List.map eI l3⟩]) (enc := eI) (u := 0) go0 ei32 rfl rfl rfl gl3 rfl rfl ?_
  refine ao_q (v := (.own 0 0 (List.length l3))) go0 rfl (aq_as rfl) ?_
  refine AO.done (hK2 _ ?_)
  refine AW.seq fun K4 hK4 => ?_
  refine AW.seq fun K5 hK5 => ?_
  refine AW.regionO (by rfl) ?_
  refine ao_q (v := (i64 0)) go0 rfl (aq_as rfl) ?_
  refine AO.done (hK5 _ ?_)
  obtain ⟨o9, h1, h0⟩ := Sh.bind_some h0
  have M9 : ∀ (l8 : (List Int)), o9 = l8 → ∀ s, Wk 0 s ⟨54, envL [(3, (.own 0 0 (List.length l8)))], [⟨0, 3, 1, List.map eI l8⟩]⟩ → K4 s := by
    intro l8 hq s hw
    subst o9
    try dsimp only at h0
    refine hK4 _ (AW.weaken hw ?_)
    refine AW.seq fun K10 hK10 => ?_
    refine AW.regionO (by rfl) ?_
    refine ao_q (v := (.own 0 0 (List.length l8))) go0 rfl (aq_mv rfl) ?_
    refine ao_q (v := (.own 0 0 (List.length l8))) go0 rfl (aq_as rfl) ?_
    refine AO.done (hK10 _ ?_)
    replace h0 := Sh.some_eq h0
    subst r
    exact AW.ret (Exists.intro _ (And.intro (Wk.to (L := [(2, (.own 0 0 (List.length l8)))]) ⟨.rfl, trivial⟩) (And.intro rfl rfl)))
  refine AW.block (AW.loopF (σ := Int × (List Int)) (fun n v => spec_refsOf_L1 N p0 n v.1 v.2 = some o9) (fun (i6, l7) => ⟨54, envL [(0, (.sl (List.map eCell p0))), (3, (.own 0 0 (List.length l7))), (4, (i64 i6))], [⟨0, 3, 1, List.map eI l7⟩]⟩) N (0, l3) h1 (Wk.to (L := [(0, (.sl (List.map eCell p0))), (3, (.own 0 0 (List.length l3))), (4, (i64 0))]) ⟨.rfl, .rfl, .rfl, trivial⟩) (fun _ hv => by rw [spec_refsOf_L1] at hv; cases hv) ?_)
  rintro n ⟨i6, l7⟩ h1
  try dsimp only at h1 ⊢
  rw [spec_refsOf_L1] at h1
  refine AW.seq fun K11 hK11 => ?_
  refine AW.seq fun K12 hK12 => ?_
  refine AW.regionO (by rfl) ?_
  refine ao_q (v := (i64 i6)) go0 rfl (aq_mv rfl) ?_
  refine ao_q (v := (.sl (List.map eCell p0))) go0 rfl (aq_mv rfl) ?_
  refine ao_q (v := (i64 (Sh.len p0))) go0 rfl (aq_lens sl25 rfl) ?_
  refine ao_q (v := (.bool (decide (i6 < (Sh.len p0))))) go0 rfl (aq_lt rfl rfl) ?_
  refine AO.done (hK12 _ ?_)
  refine AW.cond' (b := decide (i6 < (Sh.len p0))) rfl (fun b13 => ?_) (fun b13 => ?_)
  · replace h1 := Sh.ite_t b13 h1
    refine AW.skip (hK11 _ ?_)
    refine AW.seq fun K14 hK14 => ?_
    refine AW.block ?_
    refine AW.seq fun K15 hK15 => ?_
    refine AW.regionO (by rfl) ?_
    refine ao_q (v := (i64 0)) go0 rfl (aq_as rfl) ?_
    refine AO.done (hK15 _ ?_)
    obtain ⟨o19, h2, h1⟩ := Sh.bind_some h1
    have M19 : ∀ (l18 : (List Int)), o19 = l18 → ∀ s, Wk 0 s ⟨54, envL [(0, (.sl (List.map eCell p0))), (3, (.own 0 0 (List.length l18))), (4, (i64 i6))], [⟨0, 3, 1, List.map eI l18⟩]⟩ → K14 s := by
      intro l18 hq s hw
      subst o19
      try dsimp only at h1
      refine hK14 _ (AW.weaken hw ?_)
      refine AW.regionO (by rfl) ?_
      refine ao_q (v := (i64 i6)) go0 rfl (aq_mv rfl) ?_
      refine ao_q (v := (i64 (Sh.w (i6 + 1)))) go0 rfl (aq_add rfl rfl) ?_
      refine ao_q (v := (i64 (Sh.w (i6 + 1)))) go0 rfl (aq_as rfl) ?_
      exact AO.done (Exists.intro (Sh.w (i6 + 1), l18) (And.intro h1 (Wk.to (L := [(0, (.sl (List.map eCell p0))), (3, (.own 0 0 (List.length l18))), (4, (i64 (Sh.w (i6 + 1))))]) ⟨.rfl, .rfl, .rfl, trivial⟩)))
    refine AW.block (AW.loopF (σ := Int × (List Int)) (fun n v => spec_refsOf_L2 i6 p0 n v.1 v.2 = some o19) (fun (k16, l17) => ⟨54, envL [(0, (.sl (List.map eCell p0))), (3, (.own 0 0 (List.length l17))), (4, (i64 i6)), (5, (i64 k16))], [⟨0, 3, 1, List.map eI l17⟩]⟩) N (0, l7) h2 (Wk.to (L := [(0, (.sl (List.map eCell p0))), (3, (.own 0 0 (List.length l7))), (4, (i64 i6)), (5, (i64 0))]) ⟨.rfl, .rfl, .rfl, .rfl, trivial⟩) (fun _ hv => by rw [spec_refsOf_L2] at hv; cases hv) ?_)
    rintro n ⟨k16, l17⟩ h2
    try dsimp only at h2 ⊢
    rw [spec_refsOf_L2] at h2
    refine AW.seq fun K20 hK20 => ?_
    refine AW.seq fun K21 hK21 => ?_
    refine AW.regionO (by rfl) ?_
    refine ao_q (v := (i64 k16)) go0 rfl (aq_mv rfl) ?_
    refine ao_q (v := (.sl (List.map eCell p0))) go0 rfl (aq_mv rfl) ?_
    refine ao_q (v := (i64 i6)) go0 rfl (aq_mv rfl) ?_
    obtain ⟨c22, gc22, h2⟩ := Sh.bind_some h2
    refine ao_q (v := (.iptr (eCell c22) 0)) go0 rfl (aq_ixs ei25 rfl rfl gc22 rfl) ?_
    refine ao_q (v := (.iptr (eCell c22) 2)) go0 rfl (aq_fai fi41_2 rfl rfl) ?_
    refine ao_q (v := (.sl (List.map eI c22.fields))) go0 rfl (aq_ldi ti32 rfl rfl) ?_
    refine ao_q (v := (i64 (Sh.len c22.fields))) go0 rfl (aq_lens sl32 rfl) ?_
    refine ao_q (v := (.bool (decide (k16 < (Sh.len c22.fields))))) go0 rfl (aq_lt rfl rfl) ?_
    refine AO.done (hK21 _ ?_)
    refine AW.cond' (b := decide (k16 < (Sh.len c22.fields))) rfl (fun b23 => ?_) (fun b23 => ?_)
    · replace h2 := Sh.ite_t b23 h2
      refine AW.skip (hK20 _ ?_)
      refine AW.seq fun K24 hK24 => ?_
      obtain ⟨o26, h3, h2⟩ := Sh.bind_some h2
      have M26 : ∀ (l25 : (List Int)), o26 = l25 → ∀ s, Wk 0 s ⟨54, envL [(0, (.sl (List.map eCell p0))), (3, (.own 0 0 (List.length l25))), (4, (i64 i6)), (5, (i64 k16))], [⟨0, 3, 1, List.map eI l25⟩]⟩ → K24 s := by
        intro l25 hq s hw
        subst o26
        try dsimp only at h2
        refine hK24 _ (AW.weaken hw ?_)
        refine AW.regionO (by rfl) ?_
        refine ao_q (v := (i64 k16)) go0 rfl (aq_mv rfl) ?_
        refine ao_q (v := (i64 (Sh.w (k16 + 1)))) go0 rfl (aq_add rfl rfl) ?_
        refine ao_q (v := (i64 (Sh.w (k16 + 1)))) go0 rfl (aq_as rfl) ?_
        exact AO.done (Exists.intro (Sh.w (k16 + 1), l25) (And.intro h2 (Wk.to (L := [(0, (.sl (List.map eCell p0))), (3, (.own 0 0 (List.length l25))), (4, (i64 i6)), (5, (i64 (Sh.w (k16 + 1))))]) ⟨.rfl, .rfl, .rfl, .rfl, trivial⟩)))
      refine AW.block ?_
      refine AW.seq fun K27 hK27 => ?_
      refine AW.regionO (by rfl) ?_
      refine ao_q (v := (.sl (List.map eCell p0))) go0 rfl (aq_mv rfl) ?_
      refine ao_q (v := (.sl (List.map eCell p0))) go0 rfl (aq_mv rfl) ?_
      refine ao_q (v := (i64 i6)) go0 rfl (aq_mv rfl) ?_
      refine ao_q (v := (.iptr (eCell c22) 0)) go0 rfl (aq_ixs ei25 rfl rfl gc22 rfl) ?_
      refine ao_q (v := (.iptr (eCell c22) 2)) go0 rfl (aq_fai fi41_2 rfl rfl) ?_
      refine ao_q (v := (.sl (List.map eI c22.fields))) go0 rfl (aq_ldi ti32 rfl rfl) ?_
      refine ao_q (v := (i64 k16)) go0 rfl (aq_mv rfl) ?_
      obtain ⟨c28, gc28, h3⟩ := Sh.bind_some h3
      refine ao_q (v := (.iptr (eI c28) 0)) go0 rfl (aq_ixs ei32 rfl rfl gc28 rfl) ?_
      refine ao_q (v := (i64 c28)) go0 rfl (aq_ldi ti3 rfl rfl) ?_
      obtain ⟨q29, gq29, h3⟩ := Sh.bind_some h3
      refine ao_call (v' := (.bool q29)) (st' := [⟨0, 3, 1, List.map eI l17⟩]) go0 hb92 (spec_isLive_ok gq29) rfl rfl trivial rfl rfl ?_
      refine AO.done (hK27 _ ?_)
      refine AW.cond' (b := q29) rfl (fun b30 => ?_) (fun b30 => ?_)
      · replace h3 := Sh.ite_t b30 h3
        refine AW.seq fun K31 hK31 => ?_
        refine AW.regionO (by rfl) ?_
        refine ao_q (v := (.sl (List.map eCell p0))) go0 rfl (aq_mv rfl) ?_
        refine ao_q (v := (i64 i6)) go0 rfl (aq_mv rfl) ?_
        refine ao_q (v := (.iptr (eCell c22) 0)) go0 rfl (aq_ixs ei25 rfl rfl gc22 rfl) ?_
        refine ao_q (v := (.iptr (eCell c22) 2)) go0 rfl (aq_fai fi41_2 rfl rfl) ?_
        refine ao_q (v := (.sl (List.map eI c22.fields))) go0 rfl (aq_ldi ti32 rfl rfl) ?_
        refine ao_q (v := (i64 k16)) go0 rfl (aq_mv rfl) ?_
        refine ao_q (v := (.iptr (eI c28) 0)) go0 rfl (aq_ixs ei32 rfl rfl gc28 rfl) ?_
        refine ao_q (v := (i64 c28)) go0 rfl (aq_ldi ti3 rfl rfl) ?_
        refine ao_q (v := (i64 (Sh.w (c28 - 1000)))) go0 rfl (aq_sub rfl rfl) ?_
        refine ao_q (v := (i64 (Sh.w (c28 - 1000)))) go0 rfl (aq_as rfl) ?_
        refine AO.done (hK31 _ ?_)
        refine AW.regionO (by rfl) ?_
        refine ao_q (v := (.own 0 0 (List.length l17))) go0 rfl (aq_mv rfl) ?_
        refine ao_q (v := (i64 (Sh.w (c28 - 1000)))) go0 rfl (aq_mv rfl) ?_
        refine ao_q (v := (.own 0 0 (List.length l17))) go0 rfl (aq_mv rfl) ?_
        refine ao_q (v := (i64 (Sh.w (c28 - 1000)))) go0 rfl (aq_mv rfl) ?_
        obtain ⟨c32, gc32, h3⟩ := Sh.bind_some h3
        refine ao_q (v := (.ptr 0 0 (Int.toNat (Sh.w (c28 - 1000))) 0)) go0 rfl (aq_ixo ei32 rfl rfl rfl rfl gc32) ?_
        refine ao_q (v := (i64 c32)) go0 rfl (aq_ldp ti3 rfl rfl (map_get gc32) rfl) ?_
        refine ao_q (v := (i64 (Sh.w (c32 + 1)))) go0 rfl (aq_add rfl rfl) ?_
        refine ao_q (v := (.ptr 0 0 (Int.toNat (Sh.w (c28 - 1000))) 0)) go0 rfl (aq_ixo ei32 rfl rfl rfl rfl gc32) ?_
        refine ao_stl (st' := [⟨0, 3, 1, List.map eI (Sh.put l17 (Sh.w (c28 - 1000)) (Sh.w (c32 + 1)))⟩]) (u' := Sh.w (c32 + 1)) go0 ti3 rfl rfl gc32 rfl rfl rfl (show 0 + 1 ≤ 1 by decide) rfl rfl ?_
        exact AO.done (M26 (Sh.put l17 (Sh.w (c28 - 1000)) (Sh.w (c32 + 1))) (Sh.some_eq h3).symm _ (Wk.to (L := [(0, (.sl (List.map eCell p0))), (3, (.own 0 0 (List.length (Sh.put l17 (Sh.w (c28 - 1000)) (Sh.w (c32 + 1)))))), (4, (i64 i6)), (5, (i64 k16))]) ⟨.rfl, (.len (by simp only [Sh.put_len])), .rfl, .rfl, trivial⟩))
      · replace h3 := Sh.ite_f b30 h3
        exact AW.skip (M26 l17 (Sh.some_eq h3).symm _ (Wk.to (L := [(0, (.sl (List.map eCell p0))), (3, (.own 0 0 (List.length l17))), (4, (i64 i6)), (5, (i64 k16))]) ⟨.rfl, .rfl, .rfl, .rfl, trivial⟩))
    · replace h2 := Sh.ite_f b23 h2
      exact AW.exit (M19 l17 (Sh.some_eq h2).symm _ (Wk.to (L := [(0, (.sl (List.map eCell p0))), (3, (.own 0 0 (List.length l17))), (4, (i64 i6))]) ⟨.rfl, .rfl, .rfl, trivial⟩))
  · replace h1 := Sh.ite_f b13 h1
    exact AW.exit (M9 l7 (Sh.some_eq h1).symm _ (Wk.to (L := [(3, (.own 0 0 (List.length l7)))]) ⟨.rfl, trivial⟩))

set_option maxRecDepth 100000 in
set_option maxHeartbeats 4000000 in
theorem spec_reader_one_ok {s0_0 : (List Int)} {s0_1 : Int} {p1 : (List Int)} {r : Int × Int} (h0 : spec_reader_one s0_0 s0_1 p1 = some r) : ACalls Try.prog 80 [(.ptr 0 0 0 0), (.sl (List.map eI p1))] [⟨0, 84, 2, [[(.sl (List.map eI_u8 s0_0)), (i64 s0_1)]]⟩] (fun v st => v = (i64 r.1) ∧ st = [⟨0, 84, 2, [[(.sl (List.map eI_u8 s0_0)), (i64 r.2)]]⟩]) := by
  unfold spec_reader_one at h0
  refine ACalls.intro Try.func80 rfl (by show 2 ≤ 12; decide) ?_
  show AW _ 1 _ (aret _ 1 Try.f80 _) ⟨12, _, _⟩
  refine AW.weaken (Wk.to (L := [(0, (.ptr 0 0 0 0)), (1, (.sl (List.map eI p1)))]) ⟨.rfl, .rfl, trivial⟩) ?_
  refine AW.seq fun K1 hK1 => ?_
  refine AW.regionO (by rfl) ?_
  refine ao_q (v := (i64 0)) go0 rfl (aq_as rfl) ?_
  refine AO.done (hK1 _ ?_)
  refine AW.seq fun K2 hK2 => ?_
  refine AW.regionO (by rfl) ?_
  refine ao_q (v := (.sl (List.map eI p1))) go0 rfl (aq_mv rfl) ?_
  refine ao_q (v := (.ptr 0 0 0 0)) go0 rfl (aq_mv rfl) ?_
  refine ao_q (v := (.sl (List.map eI p1))) go0 rfl (aq_mv rfl) ?_
  refine ao_q (v := (i64 (Sh.len p1))) go0 rfl (aq_lens sl32 rfl) ?_
  obtain ⟨q3, gq3, h0⟩ := Sh.bind_some h0
  refine ao_calls (rowsP := [⟨0, 84, 2, [[(.sl (List.map eI_u8 s0_0)), (i64 s0_1)]]⟩]) (rows0 := [⟨0, 84, 2, [[(.sl (List.map eI_u8 s0_0)), (i64 s0_1)]]⟩]) (rows1 := [⟨0, 84, 2, [[(.sl (List.map eI_u8 s0_0)), (i64 q3.2)]]⟩]) (rows2 := []) (rows1' := [⟨0, 84, 2, [[(.sl (List.map eI_u8 s0_0)), (i64 q3.2)]]⟩]) (rows2' := []) (st' := [⟨0, 84, 2, [[(.sl (List.map eI_u8 s0_0)), (i64 q3.2)]]⟩]) (v' := (i64 q3.1)) [0] go0 hb81 (spec_reader_pick_ok gq3) rfl (by decide) rfl rfl (.raw rfl rfl .nil) rfl rfl (.raw rfl rfl .nil) .nil rfl rfl ?_
  obtain ⟨c4, gc4, h0⟩ := Sh.bind_some h0
  refine ao_q (v := (.iptr (eI c4) 0)) go0 rfl (aq_ixs ei32 rfl rfl gc4 rfl) ?_
  refine ao_q (v := (i64 c4)) go0 rfl (aq_ldi ti3 rfl rfl) ?_
  refine ao_q (v := (i64 c4)) go0 rfl (aq_as rfl) ?_
  refine AO.done (hK2 _ ?_)
  replace h0 := Sh.some_eq h0
  subst r
  exact AW.ret (Exists.intro _ (And.intro (Wk.to (L := [(4, (i64 c4))]) ⟨.rfl, trivial⟩) (And.intro rfl rfl)))

set_option maxRecDepth 100000 in
set_option maxHeartbeats 4000000 in
theorem spec_allZero_ok {N : Nat} {p0 : (List Int)} {r : Bool} (h0 : spec_allZero N p0 = some r) : ACalls Try.prog 102 [(.sl (List.map eI p0))] [] (fun v st => v = (.bool r) ∧ st = []) := by
  unfold spec_allZero at h0
  refine ACalls.intro Try.func102 rfl (by show 1 ≤ 15; decide) ?_
  show AW _ 0 _ (aret _ 0 Try.f102 _) ⟨15, _, _⟩
  refine AW.weaken (Wk.to (L := [(0, (.sl (List.map eI p0)))]) ⟨.rfl, trivial⟩) ?_
  refine AW.seq fun K1 hK1 => ?_
  refine AW.regionO (by rfl) ?_
  refine ao_q (v := (.bool false)) go0 rfl (aq_as rfl) ?_
  refine AO.done (hK1 _ ?_)
  refine AW.seq fun K2 hK2 => ?_
  refine AW.seq fun K3 hK3 => ?_
  refine AW.regionO (by rfl) ?_
  refine ao_q (v := (i64 0)) go0 rfl (aq_as rfl) ?_
  refine AO.done (hK3 _ ?_)
  obtain ⟨o5, h1, h0⟩ := Sh.cont_some h0
  have M5 : ∀ (_ : Unit), o5 = Sum.inr () → ∀ s, Wk 0 s ⟨15, envL [], []⟩ → K2 s := by
    intro _ hq s hw
    subst o5
    try dsimp only at h0
    refine hK2 _ (AW.weaken hw ?_)
    refine AW.seq fun K6 hK6 => ?_
    refine AW.regionO (by rfl) ?_
    refine ao_q (v := (.bool true)) go0 rfl (aq_as rfl) ?_
    refine AO.done (hK6 _ ?_)
    replace h0 := Sh.some_eq h0
    subst r
    exact AW.ret (Exists.intro _ (And.intro (Wk.to (L := [(2, (.bool true))]) ⟨.rfl, trivial⟩) (And.intro rfl rfl)))
  refine AW.block (AW.loopF (σ := Int) (fun n v => spec_allZero_L1 p0 n v = some o5) (fun i4 => ⟨15, envL [(0, (.sl (List.map eI p0))), (3, (i64 i4))], []⟩) N 0 h1 (Wk.to (L := [(0, (.sl (List.map eI p0))), (3, (i64 0))]) ⟨.rfl, .rfl, trivial⟩) (fun _ hv => by rw [spec_allZero_L1] at hv; cases hv) ?_)
  rintro n i4 h1
  try dsimp only at h1 ⊢
  rw [spec_allZero_L1] at h1
  refine AW.seq fun K7 hK7 => ?_
  refine AW.seq fun K8 hK8 => ?_
  refine AW.regionO (by rfl) ?_
  refine ao_q (v := (i64 i4)) go0 rfl (aq_mv rfl) ?_
  refine ao_q (v := (.sl (List.map eI p0))) go0 rfl (aq_mv rfl) ?_
  refine ao_q (v := (i64 (Sh.len p0))) go0 rfl (aq_lens sl32 rfl) ?_
  refine ao_q (v := (.bool (decide (i4 < (Sh.len p0))))) go0 rfl (aq_lt rfl rfl) ?_
  refine AO.done (hK8 _ ?_)
  refine AW.cond' (b := decide (i4 < (Sh.len p0))) rfl (fun b9 => ?_) (fun b9 => ?_)
  · replace h1 := Sh.ite_t b9 h1
    refine AW.skip (hK7 _ ?_)
    refine AW.seq fun K10 hK10 => ?_
    refine AW.block ?_
    refine AW.seq fun K11 hK11 => ?_
    refine AW.regionO (by rfl) ?_
    refine ao_q (v := (.sl (List.map eI p0))) go0 rfl (aq_mv rfl) ?_
    refine ao_q (v := (i64 i4)) go0 rfl (aq_mv rfl) ?_
    obtain ⟨c12, gc12, h1⟩ := Sh.bind_some h1
    refine ao_q (v := (.iptr (eI c12) 0)) go0 rfl (aq_ixs ei32 rfl rfl gc12 rfl) ?_
    refine ao_q (v := (i64 c12)) go0 rfl (aq_ldi ti3 rfl rfl) ?_
    refine ao_q (v := (.bool (!decide (c12 = 0)))) go0 rfl (aq_ne rfl rfl) ?_
    refine AO.done (hK11 _ ?_)
    refine AW.cond' (b := !decide (c12 = 0)) rfl (fun b13 => ?_) (fun b13 => ?_)
    · replace h1 := Sh.ite_t b13 h1
      have b14 : decide (c12 = 0) = false := by simpa using b13
      refine AW.seq fun K15 hK15 => ?_
      refine AW.regionO (by rfl) ?_
      refine ao_q (v := (.bool false)) go0 rfl (aq_as rfl) ?_
      refine AO.done (hK15 _ ?_)
      replace h1 := Sh.some_eq h1
      subst o5
      try dsimp only [id] at h0
      replace h0 := Sh.some_eq h0
      subst r
      exact AW.ret (Exists.intro _ (And.intro (Wk.to (L := [(2, (.bool false))]) ⟨.rfl, trivial⟩) (And.intro rfl rfl)))
    · replace h1 := Sh.ite_f b13 h1
      have b16 : decide (c12 = 0) = true := by simpa using b13
      refine AW.skip (hK10 _ ?_)
      refine AW.regionO (by rfl) ?_
      refine ao_q (v := (i64 i4)) go0 rfl (aq_mv rfl) ?_
      refine ao_q (v := (i64 (Sh.w (i4 + 1)))) go0 rfl (aq_add rfl rfl) ?_
      refine ao_q (v := (i64 (Sh.w (i4 + 1)))) go0 rfl (aq_as rfl) ?_
      exact AO.done (Exists.intro (Sh.w (i4 + 1)) (And.intro h1 (Wk.to (L := [(0, (.sl (List.map eI p0))), (3, (i64 (Sh.w (i4 + 1))))]) ⟨.rfl, .rfl, trivial⟩)))
  · replace h1 := Sh.ite_f b9 h1
    exact AW.exit (M5 () (Sh.some_eq h1).symm _ (Wk.to (L := []) trivial))

set_option maxRecDepth 100000 in
set_option maxHeartbeats 4000000 in
theorem spec_isWord_ok {p0 : (List Cell)} {p1 : Int} {r : Bool} (h0 : spec_isWord p0 p1 = some r) : ACalls Try.prog 75 [(.sl (List.map eCell p0)), (i64 p1)] [] (fun v st => v = (.bool r) ∧ st = []) := by
  unfold spec_isWord at h0
  refine ACalls.intro Try.func75 rfl (by show 2 ≤ 12; decide) ?_
  show AW _ 0 _ (aret _ 0 Try.f75 _) ⟨12, _, _⟩
  refine AW.weaken (Wk.to (L := [(0, (.sl (List.map eCell p0))), (1, (i64 p1))]) ⟨.rfl, .rfl, trivial⟩) ?_
  refine AW.seq fun K1 hK1 => ?_
  refine AW.regionO (by rfl) ?_
  refine ao_q (v := (.bool false)) go0 rfl (aq_as rfl) ?_
  refine AO.done (hK1 _ ?_)
  refine AW.seq fun K2 hK2 => ?_
  obtain ⟨o4, h1, h0⟩ := Sh.bind_some h0
  have M4 : ∀ (t3 : Bool), o4 = t3 → ∀ s, Wk 0 s ⟨12, envL [(4, (.bool t3))], []⟩ → K2 s := by
    intro t3 hq s hw
    subst o4
    try dsimp only at h0
    refine hK2 _ (AW.weaken hw ?_)
    replace h0 := Sh.some_eq h0
    subst r
    exact AW.ret (Exists.intro _ (And.intro (Wk.to (L := [(4, (.bool t3))]) ⟨.rfl, trivial⟩) (And.intro rfl rfl)))
  refine AW.regionO (by rfl) ?_
  refine ao_q (v := (i64 p1)) go0 rfl (aq_mv rfl) ?_
  obtain ⟨q5, gq5, h1⟩ := Sh.bind_some h1
  refine ao_call (v' := (.bool q5)) (st' := []) go0 hb65 (spec_inRange_ok gq5) rfl rfl trivial rfl rfl ?_
  refine ao_q (v := (.bool q5)) go0 rfl (aq_mv rfl) ?_
  rcases Sh.ite_some h1 with ⟨b6, h1⟩ | ⟨b6, h1⟩
  · skip
    refine ao_skip rfl rfl b6 ?_
    refine ao_skip rfl rfl b6 ?_
    refine ao_skip rfl rfl b6 ?_
    refine ao_q (v := (.bool true)) go0 rfl (aq_pkt rfl b6 rfl) ?_
    refine ao_q (v := (.bool true)) go0 rfl (aq_as rfl) ?_
    exact AO.done (M4 true (Sh.some_eq h1).symm _ (Wk.to (L := [(4, (.bool true))]) ⟨.rfl, trivial⟩))
  · skip
    refine ao_q (v := (.sl (List.map eCell p0))) (go1 rfl rfl b6) rfl (aq_mv rfl) ?_
    refine ao_q (v := (i64 p1)) (go1 rfl rfl b6) rfl (aq_mv rfl) ?_
    obtain ⟨q7, gq7, h1⟩ := Sh.bind_some h1
    refine ao_call (v' := (.bool q7)) (st' := []) (go1 rfl rfl b6) hb92 (spec_isLive_ok gq7) rfl rfl trivial rfl rfl ?_
    refine ao_q (v := (.bool q7)) go0 rfl (aq_pkf rfl b6 rfl) ?_
    refine ao_q (v := (.bool q7)) go0 rfl (aq_as rfl) ?_
    exact AO.done (M4 q7 (Sh.some_eq h1).symm _ (Wk.to (L := [(4, (.bool q7))]) ⟨.rfl, trivial⟩))

set_option maxRecDepth 100000 in
set_option maxHeartbeats 4000000 in
theorem spec_validCell_ok {N : Nat} {p0 : (List Cell)} {p1 : Cell} {r : Bool} (h0 : spec_validCell N p0 p1 = some r) : ACalls Try.prog 89 [(.sl (List.map eCell p0)), (.agg [(i64 p1.count), (i64 p1.tag), (.sl (List.map eI p1.fields))])] [] (fun v st => v = (.bool r) ∧ st = []) := by
  unfold spec_validCell at h0
  refine ACalls.intro Try.func89 rfl (by show 2 ≤ 56; decide) ?_
  show AW _ 0 _ (aret _ 0 Try.f89 _) ⟨56, _, _⟩
  refine AW.weaken (Wk.to (L := [(0, (.sl (List.map eCell p0))), (1, (.agg [(i64 p1.count), (i64 p1.tag), (.sl (List.map eI p1.fields))]))]) ⟨.rfl, .rfl, trivial⟩) ?_
  refine AW.seq fun K1 hK1 => ?_
  refine AW.regionO (by rfl) ?_
  refine ao_box (m := 0) (st' := [⟨0, 41, 3, [[(i64 p1.count), (i64 p1.tag), (.sl (List.map eI p1.fields))]]⟩]) go0 rfl rfl rfl rfl rfl ?_
  refine ao_q (v := (.bool false)) go0 rfl (aq_as rfl) ?_
  refine AO.done (hK1 _ ?_)
  refine AW.seq fun K2 hK2 => ?_
  refine AW.seq fun K3 hK3 => ?_
  obtain ⟨o5, h1, h0⟩ := Sh.bind_some h0
  have M5 : ∀ (t4 : Bool), o5 = t4 → ∀ s, Wk 0 s ⟨56, envL [(0, (.sl (List.map eCell p0))), (3, (.ptr 0 0 0 0)), (15, (.bool t4))], [⟨0, 41, 3, [[(i64 p1.count), (i64 p1.tag), (.sl (List.map eI p1.fields))]]⟩]⟩ → K3 s := by
    intro t4 hq s hw
    subst o5
    try dsimp only at h0
    refine hK3 _ (AW.weaken hw ?_)
    refine AW.cond' (b := t4) rfl (fun b6 => ?_) (fun b6 => ?_)
    · replace h0 := Sh.ite_t b6 h0
      refine AW.seq fun K7 hK7 => ?_
      refine AW.regionO (by rfl) ?_
      refine ao_q (v := (.bool false)) go0 rfl (aq_as rfl) ?_
      refine AO.done (hK7 _ ?_)
      replace h0 := Sh.some_eq h0
      subst r
      exact AW.ret (Exists.intro _ (And.intro ((Wk.permk (L := [(4, (.bool false))]) (st' := []) (st1 := []) [] rfl .nil (by decide) rfl rfl .nil ⟨.rfl, trivial⟩).trans (Wk.to (L := [(4, (.bool false))]) ⟨.rfl, trivial⟩)) (And.intro rfl rfl)))
    · replace h0 := Sh.ite_f b6 h0
      refine AW.skip (hK2 _ ?_)
      refine AW.seq fun K8 hK8 => ?_
      refine AW.seq fun K9 hK9 => ?_
      refine AW.regionO (by rfl) ?_
      refine ao_q (v := (.ptr 0 0 0 0)) go0 rfl (aq_fap fi41_0 rfl rfl (show 0 + 0 ≤ 3 by decide) rfl) ?_
      refine ao_q (v := (i64 p1.count)) go0 rfl (aq_ldp ti3 rfl rfl rfl rfl) ?_
      refine ao_q (v := (.bool (decide (p1.count < 1)))) go0 rfl (aq_lt rfl rfl) ?_
      refine AO.done (hK9 _ ?_)
      refine AW.cond' (b := decide (p1.count < 1)) rfl (fun b10 => ?_) (fun b10 => ?_)
      · replace h0 := Sh.ite_t b10 h0
        refine AW.seq fun K11 hK11 => ?_
        obtain ⟨o13, h1, h0⟩ := Sh.bind_some h0
        have M13 : ∀ (t12 : Bool), o13 = t12 → ∀ s, Wk 0 s ⟨56, envL [(4, (.bool t12))], []⟩ → K11 s := by
          intro t12 hq s hw
          subst o13
          try dsimp only at h0
          refine hK11 _ (AW.weaken hw ?_)
          replace h0 := Sh.some_eq h0
          subst r
          exact AW.ret (Exists.intro _ (And.intro (Wk.to (L := [(4, (.bool t12))]) ⟨.rfl, trivial⟩) (And.intro rfl rfl)))
        refine AW.regionO (by rfl) ?_
        refine ao_q (v := (.ptr 0 0 0 1)) go0 rfl (aq_fap fi41_1 rfl rfl (show 0 + 1 ≤ 3 by decide) rfl) ?_
        refine ao_q (v := (i64 p1.tag)) go0 rfl (aq_ldp ti3 rfl rfl rfl rfl) ?_
        refine ao_q (v := (.bool (decide (p1.tag = 0)))) go0 rfl (aq_eq rfl rfl) ?_
        refine ao_q (v := (.bool (decide (p1.tag = 0)))) go0 rfl (aq_mv rfl) ?_
        rcases Sh.ite_some h1 with ⟨b14, h1⟩ | ⟨b14, h1⟩
        · skip
          refine ao_q (v := (.ptr 0 0 0 2)) (go1 rfl rfl b14) rfl (aq_fap fi41_2 rfl rfl (show 0 + 2 ≤ 3 by decide) rfl) ?_
          refine ao_q (v := (.sl (List.map eI p1.fields))) (go1 rfl rfl b14) rfl (aq_ldp ti32 rfl rfl rfl rfl) ?_
          obtain ⟨q15, gq15, h1⟩ := Sh.bind_some h1
          refine ao_call (v' := (.bool q15)) (st' := [⟨0, 41, 3, [[(i64 p1.count), (i64 p1.tag), (.sl (List.map eI p1.fields))]]⟩]) (go1 rfl rfl b14) hb102 (spec_allZero_ok gq15) rfl rfl trivial rfl rfl ?_
          refine ao_q (v := (.bool q15)) go0 rfl (aq_pkt rfl b14 rfl) ?_
          refine ao_q (v := (.bool q15)) go0 rfl (aq_mv rfl) ?_
          rcases Sh.ite_some h1 with ⟨b16, h1⟩ | ⟨b16, h1⟩
          · skip
            refine ao_q (v := (.ptr 0 0 0 0)) (go1 rfl rfl b16) rfl (aq_fap fi41_0 rfl rfl (show 0 + 0 ≤ 3 by decide) rfl) ?_
            refine ao_q (v := (i64 p1.count)) (go1 rfl rfl b16) rfl (aq_ldp ti3 rfl rfl rfl rfl) ?_
            refine ao_q (v := (.bool (decide (p1.count < 0)))) (go1 rfl rfl b16) rfl (aq_lt rfl rfl) ?_
            refine ao_q (v := (.bool (decide (p1.count < 0)))) (go1 rfl rfl b16) rfl (aq_mv rfl) ?_
            rcases Sh.ite_some h1 with ⟨b17, h1⟩ | ⟨b17, h1⟩
            · skip
              refine ao_skip rfl rfl b17 ?_
              refine ao_skip rfl rfl b17 ?_
              refine ao_skip rfl rfl b17 ?_
              refine ao_skip rfl rfl b17 ?_
              refine ao_q (v := (.bool true)) (go1 rfl rfl b16) rfl (aq_pkt rfl b17 rfl) ?_
              refine ao_q (v := (.bool true)) go0 rfl (aq_pkt rfl b16 rfl) ?_
              refine ao_q (v := (.bool true)) go0 rfl (aq_as rfl) ?_
              exact AO.done (M13 true (Sh.some_eq h1).symm _ (by refine Wk.trans (Wk.permk (L := [(4, (.bool true))]) (st' := []) (st1 := []) [] rfl .nil (by decide) rfl rfl .nil ⟨.rfl, trivial⟩) ?_; exact Wk.to (L := [(4, (.bool true))]) ⟨.rfl, trivial⟩))
            · skip
              refine ao_q (v := (.ptr 0 0 0 2)) (go1 rfl rfl b17) rfl (aq_fap fi41_2 rfl rfl (show 0 + 2 ≤ 3 by decide) rfl) ?_
              refine ao_q (v := (.sl (List.map eI p1.fields))) (go1 rfl rfl b17) rfl (aq_ldp ti32 rfl rfl rfl rfl) ?_
              refine ao_q (v := (i64 (Sh.len p1.fields))) (go1 rfl rfl b17) rfl (aq_lens sl32 rfl) ?_
              refine ao_q (v := (.bool (decide ((Sh.len p1.fields) = 0)))) (go1 rfl rfl b17) rfl (aq_eq rfl rfl) ?_
              refine ao_q (v := (.bool (decide ((Sh.len p1.fields) = 0)))) (go1 rfl rfl b16) rfl (aq_pkf rfl b17 rfl) ?_
              refine ao_q (v := (.bool (decide ((Sh.len p1.fields) = 0)))) go0 rfl (aq_pkt rfl b16 rfl) ?_
              refine ao_q (v := (.bool (decide ((Sh.len p1.fields) = 0)))) go0 rfl (aq_as rfl) ?_
              exact AO.done (M13 (decide ((Sh.len p1.fields) = 0)) (Sh.some_eq h1).symm _ (by refine Wk.trans (Wk.permk (L := [(4, (.bool (decide ((Sh.len p1.fields) = 0))))]) (st' := []) (st1 := []) [] rfl .nil (by decide) rfl rfl .nil ⟨.rfl, trivial⟩) ?_; exact Wk.to (L := [(4, (.bool (decide ((Sh.len p1.fields) = 0))))]) ⟨.rfl, trivial⟩))
          · skip
            refine ao_skip rfl rfl b16 ?_
            refine ao_skip rfl rfl b16 ?_
            refine ao_skip rfl rfl b16 ?_
            refine ao_skip rfl rfl b16 ?_
            refine ao_none rfl rfl ?_
            refine ao_none rfl rfl ?_
            refine ao_none rfl rfl ?_
            refine ao_none rfl rfl ?_
            refine ao_skip rfl rfl b16 ?_
            refine ao_q (v := (.bool false)) go0 rfl (aq_pkf rfl b16 rfl) ?_
            refine ao_q (v := (.bool false)) go0 rfl (aq_as rfl) ?_
            exact AO.done (M13 false (Sh.some_eq h1).symm _ (by refine Wk.trans (Wk.permk (L := [(4, (.bool false))]) (st' := []) (st1 := []) [] rfl .nil (by decide) rfl rfl .nil ⟨.rfl, trivial⟩) ?_; exact Wk.to (L := [(4, (.bool false))]) ⟨.rfl, trivial⟩))
        · skip
          refine ao_skip rfl rfl b14 ?_
          refine ao_skip rfl rfl b14 ?_
          refine ao_skip rfl rfl b14 ?_
          refine ao_q (v := (.bool false)) go0 rfl (aq_pkf rfl b14 rfl) ?_
          refine ao_q (v := (.bool false)) go0 rfl (aq_mv rfl) ?_
          refine ao_skip rfl rfl rfl ?_
          refine ao_skip rfl rfl rfl ?_
          refine ao_skip rfl rfl rfl ?_
          refine ao_skip rfl rfl rfl ?_
          refine ao_none rfl rfl ?_
          refine ao_none rfl rfl ?_
          refine ao_none rfl rfl ?_
          refine ao_none rfl rfl ?_
          refine ao_skip rfl rfl rfl ?_
          refine ao_q (v := (.bool false)) go0 rfl (aq_pkf rfl rfl rfl) ?_
          refine ao_q (v := (.bool false)) go0 rfl (aq_as rfl) ?_
          exact AO.done (M13 false (Sh.some_eq h1).symm _ (by refine Wk.trans (Wk.permk (L := [(4, (.bool false))]) (st' := []) (st1 := []) [] rfl .nil (by decide) rfl rfl .nil ⟨.rfl, trivial⟩) ?_; exact Wk.to (L := [(4, (.bool false))]) ⟨.rfl, trivial⟩))
      · replace h0 := Sh.ite_f b10 h0
        refine AW.skip (hK8 _ ?_)
        refine AW.seq fun K18 hK18 => ?_
        refine AW.seq fun K19 hK19 => ?_
        refine AW.regionO (by rfl) ?_
        refine ao_q (v := (i64 0)) go0 rfl (aq_as rfl) ?_
        refine AO.done (hK19 _ ?_)
        obtain ⟨o21, h1, h0⟩ := Sh.cont_some h0
        have M21 : ∀ (_ : Unit), o21 = Sum.inr () → ∀ s, Wk 0 s ⟨56, envL [(3, (.ptr 0 0 0 0))], [⟨0, 41, 3, [[(i64 p1.count), (i64 p1.tag), (.sl (List.map eI p1.fields))]]⟩]⟩ → K18 s := by
          intro _ hq s hw
          subst o21
          try dsimp only at h0
          refine hK18 _ (AW.weaken hw ?_)
          refine AW.seq fun K22 hK22 => ?_
          refine AW.regionO (by rfl) ?_
          refine ao_q (v := (.ptr 0 0 0 1)) go0 rfl (aq_fap fi41_1 rfl rfl (show 0 + 1 ≤ 3 by decide) rfl) ?_
          refine ao_q (v := (i64 p1.tag)) go0 rfl (aq_ldp ti3 rfl rfl rfl rfl) ?_
          obtain ⟨q23, gq23, h0⟩ := Sh.bind_some h0
          refine ao_call (v' := (.bool q23)) (st' := [⟨0, 41, 3, [[(i64 p1.count), (i64 p1.tag), (.sl (List.map eI p1.fields))]]⟩]) go0 hb65 (spec_inRange_ok gq23) rfl rfl trivial rfl rfl ?_
          refine ao_q (v := (.bool q23)) go0 rfl (aq_as rfl) ?_
          refine AO.done (hK22 _ ?_)
          replace h0 := Sh.some_eq h0
          subst r
          exact AW.ret (Exists.intro _ (And.intro ((Wk.permk (L := [(4, (.bool q23))]) (st' := []) (st1 := []) [] rfl .nil (by decide) rfl rfl .nil ⟨.rfl, trivial⟩).trans (Wk.to (L := [(4, (.bool q23))]) ⟨.rfl, trivial⟩)) (And.intro rfl rfl)))
        refine AW.block (AW.loopF (σ := Int) (fun n v => spec_validCell_L1 p0 p1 n v = some o21) (fun i20 => ⟨56, envL [(0, (.sl (List.map eCell p0))), (3, (.ptr 0 0 0 0)), (5, (i64 i20))], [⟨0, 41, 3, [[(i64 p1.count), (i64 p1.tag), (.sl (List.map eI p1.fields))]]⟩]⟩) N 0 h1 (Wk.to (L := [(0, (.sl (List.map eCell p0))), (3, (.ptr 0 0 0 0)), (5, (i64 0))]) ⟨.rfl, .rfl, .rfl, trivial⟩) (fun _ hv => by rw [spec_validCell_L1] at hv; cases hv) ?_)
        rintro n i20 h1
        try dsimp only at h1 ⊢
        rw [spec_validCell_L1] at h1
        refine AW.seq fun K24 hK24 => ?_
        refine AW.seq fun K25 hK25 => ?_
        refine AW.regionO (by rfl) ?_
        refine ao_q (v := (i64 i20)) go0 rfl (aq_mv rfl) ?_
        refine ao_q (v := (.ptr 0 0 0 2)) go0 rfl (aq_fap fi41_2 rfl rfl (show 0 + 2 ≤ 3 by decide) rfl) ?_
        refine ao_q (v := (.sl (List.map eI p1.fields))) go0 rfl (aq_ldp ti32 rfl rfl rfl rfl) ?_
        refine ao_q (v := (i64 (Sh.len p1.fields))) go0 rfl (aq_lens sl32 rfl) ?_
        refine ao_q (v := (.bool (decide (i20 < (Sh.len p1.fields))))) go0 rfl (aq_lt rfl rfl) ?_
        refine AO.done (hK25 _ ?_)
        refine AW.cond' (b := decide (i20 < (Sh.len p1.fields))) rfl (fun b26 => ?_) (fun b26 => ?_)
        · replace h1 := Sh.ite_t b26 h1
          refine AW.skip (hK24 _ ?_)
          refine AW.seq fun K27 hK27 => ?_
          refine AW.block ?_
          refine AW.seq fun K28 hK28 => ?_
          refine AW.regionO (by rfl) ?_
          refine ao_q (v := (.sl (List.map eCell p0))) go0 rfl (aq_mv rfl) ?_
          refine ao_q (v := (.ptr 0 0 0 2)) go0 rfl (aq_fap fi41_2 rfl rfl (show 0 + 2 ≤ 3 by decide) rfl) ?_
          refine ao_q (v := (.sl (List.map eI p1.fields))) go0 rfl (aq_ldp ti32 rfl rfl rfl rfl) ?_
          refine ao_q (v := (i64 i20)) go0 rfl (aq_mv rfl) ?_
          obtain ⟨c29, gc29, h1⟩ := Sh.bind_some h1
          refine ao_q (v := (.iptr (eI c29) 0)) go0 rfl (aq_ixs ei32 rfl rfl gc29 rfl) ?_
          refine ao_q (v := (i64 c29)) go0 rfl (aq_ldi ti3 rfl rfl) ?_
          obtain ⟨q30, gq30, h1⟩ := Sh.bind_some h1
          refine ao_call (v' := (.bool q30)) (st' := [⟨0, 41, 3, [[(i64 p1.count), (i64 p1.tag), (.sl (List.map eI p1.fields))]]⟩]) go0 hb75 (spec_isWord_ok gq30) rfl rfl trivial rfl rfl ?_
          refine ao_q (v := (.bool (!q30))) go0 rfl (aq_not rfl) ?_
          refine AO.done (hK28 _ ?_)
          refine AW.cond' (b := !q30) rfl (fun b31 => ?_) (fun b31 => ?_)
          · replace h1 := Sh.ite_t b31 h1
            have b32 : q30 = false := by simpa using b31
            refine AW.seq fun K33 hK33 => ?_
            refine AW.regionO (by rfl) ?_
            refine ao_q (v := (.bool false)) go0 rfl (aq_as rfl) ?_
            refine AO.done (hK33 _ ?_)
            replace h1 := Sh.some_eq h1
            subst o21
            try dsimp only [id] at h0
            replace h0 := Sh.some_eq h0
            subst r
            exact AW.ret (Exists.intro _ (And.intro ((Wk.permk (L := [(4, (.bool false))]) (st' := []) (st1 := []) [] rfl .nil (by decide) rfl rfl .nil ⟨.rfl, trivial⟩).trans (Wk.to (L := [(4, (.bool false))]) ⟨.rfl, trivial⟩)) (And.intro rfl rfl)))
          · replace h1 := Sh.ite_f b31 h1
            have b34 : q30 = true := by simpa using b31
            refine AW.skip (hK27 _ ?_)
            refine AW.regionO (by rfl) ?_
            refine ao_q (v := (i64 i20)) go0 rfl (aq_mv rfl) ?_
            refine ao_q (v := (i64 (Sh.w (i20 + 1)))) go0 rfl (aq_add rfl rfl) ?_
            refine ao_q (v := (i64 (Sh.w (i20 + 1)))) go0 rfl (aq_as rfl) ?_
            exact AO.done (Exists.intro (Sh.w (i20 + 1)) (And.intro h1 (Wk.to (L := [(0, (.sl (List.map eCell p0))), (3, (.ptr 0 0 0 0)), (5, (i64 (Sh.w (i20 + 1))))]) ⟨.rfl, .rfl, .rfl, trivial⟩)))
        · replace h1 := Sh.ite_f b26 h1
          exact AW.exit (M21 () (Sh.some_eq h1).symm _ (Wk.to (L := [(3, (.ptr 0 0 0 0))]) ⟨.rfl, trivial⟩))
  refine AW.regionO (by rfl) ?_
  refine ao_q (v := (.ptr 0 0 0 2)) go0 rfl (aq_fap fi41_2 rfl rfl (show 0 + 2 ≤ 3 by decide) rfl) ?_
  refine ao_q (v := (.sl (List.map eI p1.fields))) go0 rfl (aq_ldp ti32 rfl rfl rfl rfl) ?_
  refine ao_q (v := (i64 (Sh.len p1.fields))) go0 rfl (aq_lens sl32 rfl) ?_
  refine ao_q (v := (.bool (decide (3 < (Sh.len p1.fields))))) go0 rfl (aq_gt rfl rfl) ?_
  refine ao_q (v := (.bool (decide (3 < (Sh.len p1.fields))))) go0 rfl (aq_mv rfl) ?_
  rcases Sh.ite_some h1 with ⟨b35, h1⟩ | ⟨b35, h1⟩
  · skip
    refine ao_skip rfl rfl b35 ?_
    refine ao_skip rfl rfl b35 ?_
    refine ao_skip rfl rfl b35 ?_
    refine ao_skip rfl rfl b35 ?_
    refine ao_q (v := (.bool true)) go0 rfl (aq_pkt rfl b35 rfl) ?_
    exact AO.done (M5 true (Sh.some_eq h1).symm _ (Wk.to (L := [(0, (.sl (List.map eCell p0))), (3, (.ptr 0 0 0 0)), (15, (.bool true))]) ⟨.rfl, .rfl, .rfl, trivial⟩))
  · skip
    refine ao_q (v := (.ptr 0 0 0 0)) (go1 rfl rfl b35) rfl (aq_fap fi41_0 rfl rfl (show 0 + 0 ≤ 3 by decide) rfl) ?_
    refine ao_q (v := (i64 p1.count)) (go1 rfl rfl b35) rfl (aq_ldp ti3 rfl rfl rfl rfl) ?_
    obtain ⟨q36, gq36, h1⟩ := Sh.bind_some h1
    refine ao_call (v' := (.bool q36)) (st' := [⟨0, 41, 3, [[(i64 p1.count), (i64 p1.tag), (.sl (List.map eI p1.fields))]]⟩]) (go1 rfl rfl b35) hb65 (spec_inRange_ok gq36) rfl rfl trivial rfl rfl ?_
    refine ao_q (v := (.bool (!q36))) (go1 rfl rfl b35) rfl (aq_not rfl) ?_
    refine ao_q (v := (.bool (!q36))) go0 rfl (aq_pkf rfl b35 rfl) ?_
    exact AO.done (M5 (!q36) (Sh.some_eq h1).symm _ (Wk.to (L := [(0, (.sl (List.map eCell p0))), (3, (.ptr 0 0 0 0)), (15, (.bool (!q36)))]) ⟨.rfl, .rfl, .rfl, trivial⟩))

set_option maxRecDepth 100000 in
set_option maxHeartbeats 4000000 in
theorem spec_allMarked_ok {N : Nat} {p0 : (List Bool)} {p1 : (List Int)} {r : Bool} (h0 : spec_allMarked N p0 p1 = some r) : ACalls Try.prog 103 [(.sl (List.map eB p0)), (.sl (List.map eI p1))] [] (fun v st => v = (.bool r) ∧ st = []) := by
  unfold spec_allMarked at h0
  refine ACalls.intro Try.func103 rfl (by show 2 ≤ 28; decide) ?_
  show AW _ 0 _ (aret _ 0 Try.f103 _) ⟨28, _, _⟩
  refine AW.weaken (Wk.to (L := [(0, (.sl (List.map eB p0))), (1, (.sl (List.map eI p1)))]) ⟨.rfl, .rfl, trivial⟩) ?_
  refine AW.seq fun K1 hK1 => ?_
  refine AW.regionO (by rfl) ?_
  refine ao_q (v := (.bool false)) go0 rfl (aq_as rfl) ?_
  refine AO.done (hK1 _ ?_)
  refine AW.seq fun K2 hK2 => ?_
  refine AW.seq fun K3 hK3 => ?_
  refine AW.regionO (by rfl) ?_
  refine ao_q (v := (i64 0)) go0 rfl (aq_as rfl) ?_
  refine AO.done (hK3 _ ?_)
  obtain ⟨o5, h1, h0⟩ := Sh.cont_some h0
  have M5 : ∀ (_ : Unit), o5 = Sum.inr () → ∀ s, Wk 0 s ⟨28, envL [], []⟩ → K2 s := by
    intro _ hq s hw
    subst o5
    try dsimp only at h0
    refine hK2 _ (AW.weaken hw ?_)
    refine AW.seq fun K6 hK6 => ?_
    refine AW.regionO (by rfl) ?_
    refine ao_q (v := (.bool true)) go0 rfl (aq_as rfl) ?_
    refine AO.done (hK6 _ ?_)
    replace h0 := Sh.some_eq h0
    subst r
    exact AW.ret (Exists.intro _ (And.intro (Wk.to (L := [(4, (.bool true))]) ⟨.rfl, trivial⟩) (And.intro rfl rfl)))
  refine AW.block (AW.loopF (σ := Int) (fun n v => spec_allMarked_L1 p0 p1 n v = some o5) (fun i4 => ⟨28, envL [(0, (.sl (List.map eB p0))), (1, (.sl (List.map eI p1))), (5, (i64 i4))], []⟩) N 0 h1 (Wk.to (L := [(0, (.sl (List.map eB p0))), (1, (.sl (List.map eI p1))), (5, (i64 0))]) ⟨.rfl, .rfl, .rfl, trivial⟩) (fun _ hv => by rw [spec_allMarked_L1] at hv; cases hv) ?_)
  rintro n i4 h1
  try dsimp only at h1 ⊢
  rw [spec_allMarked_L1] at h1
  refine AW.seq fun K7 hK7 => ?_
  refine AW.seq fun K8 hK8 => ?_
  refine AW.regionO (by rfl) ?_
  refine ao_q (v := (i64 i4)) go0 rfl (aq_mv rfl) ?_
  refine ao_q (v := (.sl (List.map eI p1))) go0 rfl (aq_mv rfl) ?_
  refine ao_q (v := (i64 (Sh.len p1))) go0 rfl (aq_lens sl32 rfl) ?_
  refine ao_q (v := (.bool (decide (i4 < (Sh.len p1))))) go0 rfl (aq_lt rfl rfl) ?_
  refine AO.done (hK8 _ ?_)
  refine AW.cond' (b := decide (i4 < (Sh.len p1))) rfl (fun b9 => ?_) (fun b9 => ?_)
  · replace h1 := Sh.ite_t b9 h1
    refine AW.skip (hK7 _ ?_)
    refine AW.seq fun K10 hK10 => ?_
    refine AW.block ?_
    refine AW.seq fun K11 hK11 => ?_
    obtain ⟨o13, h2, h1⟩ := Sh.bind_some h1
    have M13 : ∀ (t12 : Bool), o13 = t12 → ∀ s, Wk 0 s ⟨28, envL [(0, (.sl (List.map eB p0))), (1, (.sl (List.map eI p1))), (5, (i64 i4)), (27, (.bool t12))], []⟩ → K11 s := by
      intro t12 hq s hw
      subst o13
      try dsimp only at h1
      refine hK11 _ (AW.weaken hw ?_)
      refine AW.cond' (b := t12) rfl (fun b14 => ?_) (fun b14 => ?_)
      · replace h1 := Sh.ite_t b14 h1
        refine AW.seq fun K15 hK15 => ?_
        refine AW.regionO (by rfl) ?_
        refine ao_q (v := (.bool false)) go0 rfl (aq_as rfl) ?_
        refine AO.done (hK15 _ ?_)
        replace h1 := Sh.some_eq h1
        subst o5
        try dsimp only [id] at h0
        replace h0 := Sh.some_eq h0
        subst r
        exact AW.ret (Exists.intro _ (And.intro (Wk.to (L := [(4, (.bool false))]) ⟨.rfl, trivial⟩) (And.intro rfl rfl)))
      · replace h1 := Sh.ite_f b14 h1
        refine AW.skip (hK10 _ ?_)
        refine AW.regionO (by rfl) ?_
        refine ao_q (v := (i64 i4)) go0 rfl (aq_mv rfl) ?_
        refine ao_q (v := (i64 (Sh.w (i4 + 1)))) go0 rfl (aq_add rfl rfl) ?_
        refine ao_q (v := (i64 (Sh.w (i4 + 1)))) go0 rfl (aq_as rfl) ?_
        exact AO.done (Exists.intro (Sh.w (i4 + 1)) (And.intro h1 (Wk.to (L := [(0, (.sl (List.map eB p0))), (1, (.sl (List.map eI p1))), (5, (i64 (Sh.w (i4 + 1))))]) ⟨.rfl, .rfl, .rfl, trivial⟩)))
    refine AW.regionO (by rfl) ?_
    refine ao_q (v := (.sl (List.map eI p1))) go0 rfl (aq_mv rfl) ?_
    refine ao_q (v := (i64 i4)) go0 rfl (aq_mv rfl) ?_
    obtain ⟨c16, gc16, h2⟩ := Sh.bind_some h2
    refine ao_q (v := (.iptr (eI c16) 0)) go0 rfl (aq_ixs ei32 rfl rfl gc16 rfl) ?_
    refine ao_q (v := (i64 c16)) go0 rfl (aq_ldi ti3 rfl rfl) ?_
    obtain ⟨q17, gq17, h2⟩ := Sh.bind_some h2
    refine ao_call (v' := (.bool q17)) (st' := []) go0 hb77 (spec_isPointer_ok gq17) rfl rfl trivial rfl rfl ?_
    refine ao_q (v := (.bool q17)) go0 rfl (aq_mv rfl) ?_
    rcases Sh.ite_some h2 with ⟨b18, h2⟩ | ⟨b18, h2⟩
    · skip
      refine ao_q (v := (.sl (List.map eB p0))) (go1 rfl rfl b18) rfl (aq_mv rfl) ?_
      refine ao_q (v := (.sl (List.map eI p1))) (go1 rfl rfl b18) rfl (aq_mv rfl) ?_
      refine ao_q (v := (i64 i4)) (go1 rfl rfl b18) rfl (aq_mv rfl) ?_
      refine ao_q (v := (.iptr (eI c16) 0)) (go1 rfl rfl b18) rfl (aq_ixs ei32 rfl rfl gc16 rfl) ?_
      refine ao_q (v := (i64 c16)) (go1 rfl rfl b18) rfl (aq_ldi ti3 rfl rfl) ?_
      refine ao_q (v := (i64 (Sh.w (c16 - 1000)))) (go1 rfl rfl b18) rfl (aq_sub rfl rfl) ?_
      obtain ⟨c19, gc19, h2⟩ := Sh.bind_some h2
      refine ao_q (v := (.iptr (eB c19) 0)) (go1 rfl rfl b18) rfl (aq_ixs ei63 rfl rfl gc19 rfl) ?_
      refine ao_q (v := (.bool c19)) (go1 rfl rfl b18) rfl (aq_ldi ti4 rfl rfl) ?_
      refine ao_q (v := (.bool (!c19))) (go1 rfl rfl b18) rfl (aq_not rfl) ?_
      refine ao_q (v := (.bool (!c19))) go0 rfl (aq_pkt rfl b18 rfl) ?_
      exact AO.done (M13 (!c19) (Sh.some_eq h2).symm _ (Wk.to (L := [(0, (.sl (List.map eB p0))), (1, (.sl (List.map eI p1))), (5, (i64 i4)), (27, (.bool (!c19)))]) ⟨.rfl, .rfl, .rfl, .rfl, trivial⟩))
    · skip
      refine ao_skip rfl rfl b18 ?_
      refine ao_skip rfl rfl b18 ?_
      refine ao_skip rfl rfl b18 ?_
      refine ao_skip rfl rfl b18 ?_
      refine ao_skip rfl rfl b18 ?_
      refine ao_skip rfl rfl b18 ?_
      refine ao_skip rfl rfl b18 ?_
      refine ao_skip rfl rfl b18 ?_
      refine ao_skip rfl rfl b18 ?_
      refine ao_q (v := (.bool false)) go0 rfl (aq_pkf rfl b18 rfl) ?_
      exact AO.done (M13 false (Sh.some_eq h2).symm _ (Wk.to (L := [(0, (.sl (List.map eB p0))), (1, (.sl (List.map eI p1))), (5, (i64 i4)), (27, (.bool false))]) ⟨.rfl, .rfl, .rfl, .rfl, trivial⟩))
  · replace h1 := Sh.ite_f b9 h1
    exact AW.exit (M5 () (Sh.some_eq h1).symm _ (Wk.to (L := []) trivial))

set_option maxRecDepth 100000 in
set_option maxHeartbeats 4000000 in
theorem spec_isAcyclic_ok {N : Nat} {p0 : (List Cell)} {r : Bool} (h0 : spec_isAcyclic N p0 = some r) : ACalls Try.prog 90 [(.sl (List.map eCell p0))] [] (fun v st => v = (.bool r) ∧ st = []) := by
  unfold spec_isAcyclic at h0
  refine ACalls.intro Try.func90 rfl (by show 1 ≤ 40; decide) ?_
  show AW _ 0 _ (aret _ 0 Try.f90 _) ⟨40, _, _⟩
  refine AW.weaken (Wk.to (L := [(0, (.sl (List.map eCell p0)))]) ⟨.rfl, trivial⟩) ?_
  refine AW.seq fun K1 hK1 => ?_
  refine AW.regionO (by rfl) ?_
  refine ao_q (v := (.bool false)) go0 rfl (aq_as rfl) ?_
  refine AO.done (hK1 _ ?_)
  refine AW.seq fun K2 hK2 => ?_
  refine AW.regionO (by rfl) ?_
  refine ao_q (v := (.sl (List.map eCell p0))) go0 rfl (aq_mv rfl) ?_
  refine ao_q (v := (i64 (Sh.len p0))) go0 rfl (aq_lens sl25 rfl) ?_
  obtain ⟨l3, gl3, h0⟩ := Sh.bind_some h0
  refine ao_make (m := 0) (st' := [⟨0, 4, 1, List.map eB l3⟩]) (enc := eB) (u := false) go0 ei63 rfl rfl rfl gl3 rfl rfl ?_
  refine ao_q (v := (.own 0 0 (List.length l3))) go0 rfl (aq_as rfl) ?_
  refine AO.done (hK2 _ ?_)
  refine AW.seq fun K4 hK4 => ?_
  refine AW.regionO (by rfl) ?_
  refine ao_q (v := (i64 0)) go0 rfl (aq_as rfl) ?_
  refine AO.done (hK4 _ ?_)
  refine AW.seq fun K5 hK5 => ?_
  refine AW.seq fun K6 hK6 => ?_
  refine AW.regionO (by rfl) ?_
  refine ao_q (v := (.bool true)) go0 rfl (aq_as rfl) ?_
  refine AO.done (hK6 _ ?_)
  obtain ⟨o11, h1, h0⟩ := Sh.bind_some h0
  have M11 : ∀ (many10 : Int), o11 = many10 → ∀ s, Wk 0 s ⟨40, envL [(0, (.sl (List.map eCell p0))), (4, (i64 many10))], []⟩ → K5 s := by
    intro many10 hq s hw
    subst o11
    try dsimp only at h0
    refine hK5 _ (AW.weaken hw ?_)
    refine AW.seq fun K12 hK12 => ?_
    refine AW.regionO (by rfl) ?_
    refine ao_q (v := (i64 many10)) go0 rfl (aq_mv rfl) ?_
    refine ao_q (v := (.sl (List.map eCell p0))) go0 rfl (aq_mv rfl) ?_
    refine ao_q (v := (i64 (Sh.len p0))) go0 rfl (aq_lens sl25 rfl) ?_
    refine ao_q (v := (.bool (decide (many10 = (Sh.len p0))))) go0 rfl (aq_eq rfl rfl) ?_
    refine ao_q (v := (.bool (decide (many10 = (Sh.len p0))))) go0 rfl (aq_as rfl) ?_
    refine AO.done (hK12 _ ?_)
    replace h0 := Sh.some_eq h0
    subst r
    exact AW.ret (Exists.intro _ (And.intro (Wk.to (L := [(2, (.bool (decide (many10 = (Sh.len p0)))))]) ⟨.rfl, trivial⟩) (And.intro rfl rfl)))
  refine AW.block (AW.loopF (σ := Int × Bool × (List Bool)) (fun n v => spec_isAcyclic_L1 N p0 n v.1 v.2.1 v.2.2 = some o11) (fun (many7, more8, l9) => ⟨40, envL [(0, (.sl (List.map eCell p0))), (3, (.own 0 0 (List.length l9))), (4, (i64 many7)), (5, (.bool more8))], [⟨0, 4, 1, List.map eB l9⟩]⟩) N (0, true, l3) h1 (Wk.to (L := [(0, (.sl (List.map eCell p0))), (3, (.own 0 0 (List.length l3))), (4, (i64 0)), (5, (.bool true))]) ⟨.rfl, .rfl, .rfl, .rfl, trivial⟩) (fun _ hv => by rw [spec_isAcyclic_L1] at hv; cases hv) ?_)
  rintro n ⟨many7, more8, l9⟩ h1
  try dsimp only at h1 ⊢
  rw [spec_isAcyclic_L1] at h1
  refine AW.seq fun K13 hK13 => ?_
  refine AW.seq fun K14 hK14 => ?_
  refine AW.regionO (by rfl) ?_
  refine ao_q (v := (.bool more8)) go0 rfl (aq_mv rfl) ?_
  refine AO.done (hK14 _ ?_)
  refine AW.cond' (b := more8) rfl (fun b15 => ?_) (fun b15 => ?_)
  · replace h1 := Sh.ite_t b15 h1
    refine AW.skip (hK13 _ ?_)
    refine AW.block ?_
    refine AW.seq fun K16 hK16 => ?_
    refine AW.regionO (by rfl) ?_
    refine ao_q (v := (.bool false)) go0 rfl (aq_as rfl) ?_
    refine AO.done (hK16 _ ?_)
    refine AW.seq fun K17 hK17 => ?_
    refine AW.regionO (by rfl) ?_
    refine ao_q (v := (i64 0)) go0 rfl (aq_as rfl) ?_
    refine AO.done (hK17 _ ?_)
    obtain ⟨o25, h2, h1⟩ := Sh.bind_some h1
    have M25 : ∀ (many22 : Int) (more23 : Bool) (l24 : (List Bool)), o25 = (many22, more23, l24) → ∀ s, Wk 0 s ⟨40, envL [(0, (.sl (List.map eCell p0))), (3, (.own 0 0 (List.length l24))), (4, (i64 many22)), (5, (.bool more23))], [⟨0, 4, 1, List.map eB l24⟩]⟩ → (∃ v, spec_isAcyclic_L1 N p0 n v.1 v.2.1 v.2.2 = some o11 ∧ Wk 0 s ((fun (many7, more8, l9) => ⟨40, envL [(0, (.sl (List.map eCell p0))), (3, (.own 0 0 (List.length l9))), (4, (i64 many7)), (5, (.bool more8))], [⟨0, 4, 1, List.map eB l9⟩]⟩) v)) := by
      intro many22 more23 l24 hq s hw
      subst o25
      try dsimp only at h1
      exact Exists.intro (many22, more23, l24) (And.intro h1 (hw.trans (Wk.to (L := [(0, (.sl (List.map eCell p0))), (3, (.own 0 0 (List.length l24))), (4, (i64 many22)), (5, (.bool more23))]) ⟨.rfl, .rfl, .rfl, .rfl, trivial⟩)))
    refine AW.block (AW.loopF (σ := Int × Bool × Int × (List Bool)) (fun n v => spec_isAcyclic_L2 N p0 n v.1 v.2.1 v.2.2.1 v.2.2.2 = some o25) (fun (many18, more19, i20, l21) => ⟨40, envL [(0, (.sl (List.map eCell p0))), (3, (.own 0 0 (List.length l21))), (4, (i64 many18)), (5, (.bool more19)), (6, (i64 i20))], [⟨0, 4, 1, List.map eB l21⟩]⟩) N (many7, false, 0, l9) h2 (Wk.to (L := [(0, (.sl (List.map eCell p0))), (3, (.own 0 0 (List.length l9))), (4, (i64 many7)), (5, (.bool false)), (6, (i64 0))]) ⟨.rfl, .rfl, .rfl, .rfl, .rfl, trivial⟩) (fun _ hv => by rw [spec_isAcyclic_L2] at hv; cases hv) ?_)
    rintro n ⟨many18, more19, i20, l21⟩ h2
    try dsimp only at h2 ⊢
    rw [spec_isAcyclic_L2] at h2
    refine AW.seq fun K26 hK26 => ?_
    refine AW.seq fun K27 hK27 => ?_
    refine AW.regionO (by rfl) ?_
    refine ao_q (v := (i64 i20)) go0 rfl (aq_mv rfl) ?_
    refine ao_q (v := (.sl (List.map eCell p0))) go0 rfl (aq_mv rfl) ?_
    refine ao_q (v := (i64 (Sh.len p0))) go0 rfl (aq_lens sl25 rfl) ?_
    refine ao_q (v := (.bool (decide (i20 < (Sh.len p0))))) go0 rfl (aq_lt rfl rfl) ?_
    refine AO.done (hK27 _ ?_)
    refine AW.cond' (b := decide (i20 < (Sh.len p0))) rfl (fun b28 => ?_) (fun b28 => ?_)
    · replace h2 := Sh.ite_t b28 h2
      refine AW.skip (hK26 _ ?_)
      refine AW.seq fun K29 hK29 => ?_
      obtain ⟨o33, h3, h2⟩ := Sh.bind_some h2
      have M33 : ∀ (many30 : Int) (more31 : Bool) (l32 : (List Bool)), o33 = (many30, more31, l32) → ∀ s, Wk 0 s ⟨40, envL [(0, (.sl (List.map eCell p0))), (3, (.own 0 0 (List.length l32))), (4, (i64 many30)), (5, (.bool more31)), (6, (i64 i20))], [⟨0, 4, 1, List.map eB l32⟩]⟩ → K29 s := by
        intro many30 more31 l32 hq s hw
        subst o33
        try dsimp only at h2
        refine hK29 _ (AW.weaken hw ?_)
        refine AW.regionO (by rfl) ?_
        refine ao_q (v := (i64 i20)) go0 rfl (aq_mv rfl) ?_
        refine ao_q (v := (i64 (Sh.w (i20 + 1)))) go0 rfl (aq_add rfl rfl) ?_
        refine ao_q (v := (i64 (Sh.w (i20 + 1)))) go0 rfl (aq_as rfl) ?_
        exact AO.done (Exists.intro (many30, more31, Sh.w (i20 + 1), l32) (And.intro h2 (Wk.to (L := [(0, (.sl (List.map eCell p0))), (3, (.own 0 0 (List.length l32))), (4, (i64 many30)), (5, (.bool more31)), (6, (i64 (Sh.w (i20 + 1))))]) ⟨.rfl, .rfl, .rfl, .rfl, .rfl, trivial⟩)))
      refine AW.block ?_
      refine AW.seq fun K34 hK34 => ?_
      obtain ⟨o36, h4, h3⟩ := Sh.bind_some h3
      have M36 : ∀ (t35 : Bool), o36 = t35 → ∀ s, Wk 0 s ⟨40, envL [(0, (.sl (List.map eCell p0))), (3, (.own 0 0 (List.length l21))), (4, (i64 many18)), (5, (.bool more19)), (6, (i64 i20)), (30, (.bool t35))], [⟨0, 4, 1, List.map eB l21⟩]⟩ → K34 s := by
        intro t35 hq s hw
        subst o36
        try dsimp only at h3
        refine hK34 _ (AW.weaken hw ?_)
        refine AW.cond' (b := t35) rfl (fun b37 => ?_) (fun b37 => ?_)
        · replace h3 := Sh.ite_t b37 h3
          refine AW.seq fun K38 hK38 => ?_
          refine AW.regionO (by rfl) ?_
          refine ao_q (v := (.own 0 0 (List.length l21))) go0 rfl (aq_mv rfl) ?_
          refine ao_q (v := (i64 i20)) go0 rfl (aq_mv rfl) ?_
          obtain ⟨c39, gc39, h3⟩ := Sh.bind_some h3
          refine ao_q (v := (.ptr 0 0 (Int.toNat i20) 0)) go0 rfl (aq_ixo ei63 rfl rfl rfl rfl gc39) ?_
          refine ao_stl (st' := [⟨0, 4, 1, List.map eB (Sh.put l21 i20 true)⟩]) (u' := true) go0 ti4 rfl rfl gc39 rfl rfl rfl (show 0 + 1 ≤ 1 by decide) rfl rfl ?_
          refine AO.done (hK38 _ ?_)
          refine AW.seq fun K40 hK40 => ?_
          refine AW.regionO (by rfl) ?_
          refine ao_q (v := (i64 many18)) go0 rfl (aq_mv rfl) ?_
          refine ao_q (v := (i64 (Sh.w (many18 + 1)))) go0 rfl (aq_add rfl rfl) ?_
          refine ao_q (v := (i64 (Sh.w (many18 + 1)))) go0 rfl (aq_as rfl) ?_
          refine AO.done (hK40 _ ?_)
          refine AW.regionO (by rfl) ?_
          refine ao_q (v := (.bool true)) go0 rfl (aq_as rfl) ?_
          exact AO.done (M33 (Sh.w (many18 + 1)) true (Sh.put l21 i20 true) (Sh.some_eq h3).symm _ (Wk.to (L := [(0, (.sl (List.map eCell p0))), (3, (.own 0 0 (List.length (Sh.put l21 i20 true)))), (4, (i64 (Sh.w (many18 + 1)))), (5, (.bool true)), (6, (i64 i20))]) ⟨.rfl, (.len (by simp only [Sh.put_len])), .rfl, .rfl, .rfl, trivial⟩))
        · replace h3 := Sh.ite_f b37 h3
          exact AW.skip (M33 many18 more19 l21 (Sh.some_eq h3).symm _ (Wk.to (L := [(0, (.sl (List.map eCell p0))), (3, (.own 0 0 (List.length l21))), (4, (i64 many18)), (5, (.bool more19)), (6, (i64 i20))]) ⟨.rfl, .rfl, .rfl, .rfl, .rfl, trivial⟩))
      refine AW.regionO (by rfl) ?_
      refine ao_q (v := (.own 0 0 (List.length l21))) go0 rfl (aq_mv rfl) ?_
      refine ao_q (v := (i64 i20)) go0 rfl (aq_mv rfl) ?_
      obtain ⟨c41, gc41, h4⟩ := Sh.bind_some h4
      refine ao_q (v := (.ptr 0 0 (Int.toNat i20) 0)) go0 rfl (aq_ixo ei63 rfl rfl rfl rfl gc41) ?_
      refine ao_q (v := (.bool c41)) go0 rfl (aq_ldp ti4 rfl rfl (map_get gc41) rfl) ?_
      refine ao_q (v := (.bool (!c41))) go0 rfl (aq_not rfl) ?_
      refine ao_q (v := (.bool (!c41))) go0 rfl (aq_mv rfl) ?_
      rcases Sh.ite_some h4 with ⟨b42, h4⟩ | ⟨b42, h4⟩
      · skip
        refine ao_q (v := (.own 0 0 (List.length l21))) (go1 rfl rfl b42) rfl (aq_mv rfl) ?_
        refine ao_q (v := (.sl (List.map eCell p0))) (go1 rfl rfl b42) rfl (aq_mv rfl) ?_
        refine ao_q (v := (i64 i20)) (go1 rfl rfl b42) rfl (aq_mv rfl) ?_
        obtain ⟨c43, gc43, h4⟩ := Sh.bind_some h4
        refine ao_q (v := (.iptr (eCell c43) 0)) (go1 rfl rfl b42) rfl (aq_ixs ei25 rfl rfl gc43 rfl) ?_
        refine ao_q (v := (.iptr (eCell c43) 2)) (go1 rfl rfl b42) rfl (aq_fai fi41_2 rfl rfl) ?_
        refine ao_q (v := (.sl (List.map eI c43.fields))) (go1 rfl rfl b42) rfl (aq_ldi ti32 rfl rfl) ?_
        obtain ⟨q44, gq44, h4⟩ := Sh.bind_some h4
        refine ao_callb (v' := (.bool q44)) (st' := [⟨0, 4, 1, List.map eB l21⟩]) (go1 rfl rfl b42) hb103 (spec_allMarked_ok gq44) rfl (.own rfl rfl (fun _ => rfl) (.val rfl .nil)) rfl trivial rfl rfl ?_
        refine ao_q (v := (.bool q44)) go0 rfl (aq_pkt rfl b42 rfl) ?_
        exact AO.done (M36 q44 (Sh.some_eq h4).symm _ (Wk.to (L := [(0, (.sl (List.map eCell p0))), (3, (.own 0 0 (List.length l21))), (4, (i64 many18)), (5, (.bool more19)), (6, (i64 i20)), (30, (.bool q44))]) ⟨.rfl, .rfl, .rfl, .rfl, .rfl, .rfl, trivial⟩))
      · skip
        refine ao_skip rfl rfl b42 ?_
        refine ao_skip rfl rfl b42 ?_
        refine ao_skip rfl rfl b42 ?_
        refine ao_skip rfl rfl b42 ?_
        refine ao_skip rfl rfl b42 ?_
        refine ao_skip rfl rfl b42 ?_
        refine ao_skip rfl rfl b42 ?_
        refine ao_q (v := (.bool false)) go0 rfl (aq_pkf rfl b42 rfl) ?_
        exact AO.done (M36 false (Sh.some_eq h4).symm _ (Wk.to (L := [(0, (.sl (List.map eCell p0))), (3, (.own 0 0 (List.length l21))), (4, (i64 many18)), (5, (.bool more19)), (6, (i64 i20)), (30, (.bool false))]) ⟨.rfl, .rfl, .rfl, .rfl, .rfl, .rfl, trivial⟩))
    · replace h2 := Sh.ite_f b28 h2
      exact AW.exit (M25 many18 more19 l21 (Sh.some_eq h2).symm _ (Wk.to (L := [(0, (.sl (List.map eCell p0))), (3, (.own 0 0 (List.length l21))), (4, (i64 many18)), (5, (.bool more19))]) ⟨.rfl, .rfl, .rfl, .rfl, trivial⟩))
  · replace h1 := Sh.ite_f b15 h1
    exact AW.exit (M11 many7 (Sh.some_eq h1).symm _ (by refine Wk.trans (Wk.permk (L := [(0, (.sl (List.map eCell p0))), (4, (i64 many7))]) (st' := []) (st1 := []) [] rfl .nil (by decide) rfl rfl .nil ⟨.rfl, .rfl, trivial⟩) ?_; exact Wk.to (L := [(0, (.sl (List.map eCell p0))), (4, (i64 many7))]) ⟨.rfl, .rfl, trivial⟩))

set_option maxRecDepth 100000 in
set_option maxHeartbeats 4000000 in
theorem spec_validHeap_ok {N : Nat} {p0 : (List Cell)} {r : Bool} (h0 : spec_validHeap N p0 = some r) : ACalls Try.prog 61 [(.sl (List.map eCell p0))] [] (fun v st => v = (.bool r) ∧ st = []) := by
  unfold spec_validHeap at h0
  refine ACalls.intro Try.func61 rfl (by show 1 ≤ 60; decide) ?_
  show AW _ 0 _ (aret _ 0 Try.f61 _) ⟨60, _, _⟩
  refine AW.weaken (Wk.to (L := [(0, (.sl (List.map eCell p0)))]) ⟨.rfl, trivial⟩) ?_
  refine AW.seq fun K1 hK1 => ?_
  refine AW.regionO (by rfl) ?_
  refine ao_q (v := (.bool false)) go0 rfl (aq_as rfl) ?_
  refine AO.done (hK1 _ ?_)
  refine AW.seq fun K2 hK2 => ?_
  refine AW.seq fun K3 hK3 => ?_
  obtain ⟨o5, h1, h0⟩ := Sh.bind_some h0
  have M5 : ∀ (t4 : Bool), o5 = t4 → ∀ s, Wk 0 s ⟨60, envL [(0, (.sl (List.map eCell p0))), (18, (.bool t4))], []⟩ → K3 s := by
    intro t4 hq s hw
    subst o5
    try dsimp only at h0
    refine hK3 _ (AW.weaken hw ?_)
    refine AW.cond' (b := t4) rfl (fun b6 => ?_) (fun b6 => ?_)
    · replace h0 := Sh.ite_t b6 h0
      refine AW.seq fun K7 hK7 => ?_
      refine AW.regionO (by rfl) ?_
      refine ao_q (v := (.bool false)) go0 rfl (aq_as rfl) ?_
      refine AO.done (hK7 _ ?_)
      replace h0 := Sh.some_eq h0
      subst r
      exact AW.ret (Exists.intro _ (And.intro (Wk.to (L := [(2, (.bool false))]) ⟨.rfl, trivial⟩) (And.intro rfl rfl)))
    · replace h0 := Sh.ite_f b6 h0
      refine AW.skip (hK2 _ ?_)
      refine AW.seq fun K8 hK8 => ?_
      refine AW.seq fun K9 hK9 => ?_
      refine AW.regionO (by rfl) ?_
      refine ao_q (v := (i64 0)) go0 rfl (aq_as rfl) ?_
      refine AO.done (hK9 _ ?_)
      obtain ⟨o11, h1, h0⟩ := Sh.cont_some h0
      have M11 : ∀ (_ : Unit), o11 = Sum.inr () → ∀ s, Wk 0 s ⟨60, envL [(0, (.sl (List.map eCell p0)))], []⟩ → K8 s := by
        intro _ hq s hw
        subst o11
        try dsimp only at h0
        refine hK8 _ (AW.weaken hw ?_)
        refine AW.seq fun K12 hK12 => ?_
        refine AW.regionO (by rfl) ?_
        refine ao_q (v := (.sl (List.map eCell p0))) go0 rfl (aq_mv rfl) ?_
        obtain ⟨q13, gq13, h0⟩ := Sh.bind_some h0
        refine ao_call (v' := (.own 0 0 (List.length q13))) (st' := [⟨0, 3, 1, List.map eI q13⟩]) go0 hb66 (spec_refsOf_ok gq13) rfl rfl ⟨pure_map fun _ => rfl, trivial⟩ rfl rfl ?_
        refine ao_q (v := (.own 0 0 (List.length q13))) go0 rfl (aq_as rfl) ?_
        refine AO.done (hK12 _ ?_)
        refine AW.seq fun K14 hK14 => ?_
        refine AW.seq fun K15 hK15 => ?_
        refine AW.regionO (by rfl) ?_
        refine ao_q (v := (i64 0)) go0 rfl (aq_as rfl) ?_
        refine AO.done (hK15 _ ?_)
        obtain ⟨o17, h1, h0⟩ := Sh.cont_some h0
        have M17 : ∀ (_ : Unit), o17 = Sum.inr () → ∀ s, Wk 0 s ⟨60, envL [(0, (.sl (List.map eCell p0)))], []⟩ → K14 s := by
          intro _ hq s hw
          subst o17
          try dsimp only at h0
          refine hK14 _ (AW.weaken hw ?_)
          refine AW.seq fun K18 hK18 => ?_
          refine AW.regionO (by rfl) ?_
          refine ao_q (v := (.sl (List.map eCell p0))) go0 rfl (aq_mv rfl) ?_
          obtain ⟨q19, gq19, h0⟩ := Sh.bind_some h0
          refine ao_call (v' := (.bool q19)) (st' := []) go0 hb90 (spec_isAcyclic_ok gq19) rfl rfl trivial rfl rfl ?_
          refine ao_q (v := (.bool q19)) go0 rfl (aq_as rfl) ?_
          refine AO.done (hK18 _ ?_)
          replace h0 := Sh.some_eq h0
          subst r
          exact AW.ret (Exists.intro _ (And.intro (Wk.to (L := [(2, (.bool q19))]) ⟨.rfl, trivial⟩) (And.intro rfl rfl)))
        refine AW.block (AW.loopF (σ := Int) (fun n v => spec_validHeap_L2 p0 q13 n v = some o17) (fun i16 => ⟨60, envL [(0, (.sl (List.map eCell p0))), (4, (.own 0 0 (List.length q13))), (5, (i64 i16))], [⟨0, 3, 1, List.map eI q13⟩]⟩) N 0 h1 (Wk.to (L := [(0, (.sl (List.map eCell p0))), (4, (.own 0 0 (List.length q13))), (5, (i64 0))]) ⟨.rfl, .rfl, .rfl, trivial⟩) (fun _ hv => by rw [spec_validHeap_L2] at hv; cases hv) ?_)
        rintro n i16 h1
        try dsimp only at h1 ⊢
        rw [spec_validHeap_L2] at h1
        refine AW.seq fun K20 hK20 => ?_
        refine AW.seq fun K21 hK21 => ?_
        refine AW.regionO (by rfl) ?_
        refine ao_q (v := (i64 i16)) go0 rfl (aq_mv rfl) ?_
        refine ao_q (v := (.sl (List.map eCell p0))) go0 rfl (aq_mv rfl) ?_
        refine ao_q (v := (i64 (Sh.len p0))) go0 rfl (aq_lens sl25 rfl) ?_
        refine ao_q (v := (.bool (decide (i16 < (Sh.len p0))))) go0 rfl (aq_lt rfl rfl) ?_
        refine AO.done (hK21 _ ?_)
        refine AW.cond' (b := decide (i16 < (Sh.len p0))) rfl (fun b22 => ?_) (fun b22 => ?_)
        · replace h1 := Sh.ite_t b22 h1
          refine AW.skip (hK20 _ ?_)
          refine AW.seq fun K23 hK23 => ?_
          refine AW.block ?_
          refine AW.seq fun K24 hK24 => ?_
          obtain ⟨o26, h2, h1⟩ := Sh.bind_some h1
          have M26 : ∀ (t25 : Bool), o26 = t25 → ∀ s, Wk 0 s ⟨60, envL [(0, (.sl (List.map eCell p0))), (4, (.own 0 0 (List.length q13))), (5, (i64 i16)), (57, (.bool t25))], [⟨0, 3, 1, List.map eI q13⟩]⟩ → K24 s := by
            intro t25 hq s hw
            subst o26
            try dsimp only at h1
            refine hK24 _ (AW.weaken hw ?_)
            refine AW.cond' (b := t25) rfl (fun b27 => ?_) (fun b27 => ?_)
            · replace h1 := Sh.ite_t b27 h1
              refine AW.seq fun K28 hK28 => ?_
              refine AW.regionO (by rfl) ?_
              refine ao_q (v := (.bool false)) go0 rfl (aq_as rfl) ?_
              refine AO.done (hK28 _ ?_)
              replace h1 := Sh.some_eq h1
              subst o17
              try dsimp only [id] at h0
              replace h0 := Sh.some_eq h0
              subst r
              exact AW.ret (Exists.intro _ (And.intro ((Wk.permk (L := [(2, (.bool false))]) (st' := []) (st1 := []) [] rfl .nil (by decide) rfl rfl .nil ⟨.rfl, trivial⟩).trans (Wk.to (L := [(2, (.bool false))]) ⟨.rfl, trivial⟩)) (And.intro rfl rfl)))
            · replace h1 := Sh.ite_f b27 h1
              refine AW.skip (hK23 _ ?_)
              refine AW.regionO (by rfl) ?_
              refine ao_q (v := (i64 i16)) go0 rfl (aq_mv rfl) ?_
              refine ao_q (v := (i64 (Sh.w (i16 + 1)))) go0 rfl (aq_add rfl rfl) ?_
              refine ao_q (v := (i64 (Sh.w (i16 + 1)))) go0 rfl (aq_as rfl) ?_
              exact AO.done (Exists.intro (Sh.w (i16 + 1)) (And.intro h1 (Wk.to (L := [(0, (.sl (List.map eCell p0))), (4, (.own 0 0 (List.length q13))), (5, (i64 (Sh.w (i16 + 1))))]) ⟨.rfl, .rfl, .rfl, trivial⟩)))
          refine AW.draw (by kernel_rfl) (by kernel_rfl) (by rfl) ?_
          refine d_q (v := (.sl (List.map eCell p0))) go0 rfl (aq_mv rfl) ?_
          refine d_q (v := (i64 i16)) go0 rfl (aq_mv rfl) ?_
          obtain ⟨c29, gc29, h2⟩ := Sh.bind_some h2
          refine d_q (v := (.iptr (eCell c29) 0)) go0 rfl (aq_ixs ei25 rfl rfl gc29 rfl) ?_
          refine d_q (v := (.iptr (eCell c29) 0)) go0 rfl (aq_fai fi41_0 rfl rfl) ?_
          refine d_q (v := (i64 c29.count)) go0 rfl (aq_ldi ti3 rfl rfl) ?_
          refine d_q (v := (.bool (decide (0 < c29.count)))) go0 rfl (aq_gt rfl rfl) ?_
          refine d_q (v := (.bool (decide (0 < c29.count)))) go0 rfl (aq_mv rfl) ?_
          rcases Sh.ite_some h2 with ⟨b30, h2⟩ | ⟨b30, h2⟩
          · skip
            refine d_q (v := (.sl (List.map eCell p0))) (go1 rfl rfl b30) rfl (aq_mv rfl) ?_
            refine d_q (v := (i64 i16)) (go1 rfl rfl b30) rfl (aq_mv rfl) ?_
            refine d_q (v := (.iptr (eCell c29) 0)) (go1 rfl rfl b30) rfl (aq_ixs ei25 rfl rfl gc29 rfl) ?_
            refine d_q (v := (.iptr (eCell c29) 0)) (go1 rfl rfl b30) rfl (aq_fai fi41_0 rfl rfl) ?_
            refine d_q (v := (i64 c29.count)) (go1 rfl rfl b30) rfl (aq_ldi ti3 rfl rfl) ?_
            refine d_q (v := (.own 0 0 (List.length q13))) (go1 rfl rfl b30) rfl (aq_mv rfl) ?_
            refine d_q (v := (i64 i16)) (go1 rfl rfl b30) rfl (aq_mv rfl) ?_
            obtain ⟨c31, gc31, h2⟩ := Sh.bind_some h2
            refine d_q (v := (.ptr 0 0 (Int.toNat i16) 0)) (go1 rfl rfl b30) rfl (aq_ixo ei32 rfl rfl rfl rfl gc31) ?_
            refine d_q (v := (i64 c31)) (go1 rfl rfl b30) rfl (aq_ldp ti3 rfl rfl (map_get gc31) rfl) ?_
            refine d_q (v := (.bool (decide (c29.count < c31)))) (go1 rfl rfl b30) rfl (aq_lt rfl rfl) ?_
            refine d_q (v := (.bool (decide (c29.count < c31)))) go0 rfl (aq_pkt rfl b30 rfl) ?_
            exact d_done (M26 (decide (c29.count < c31)) (Sh.some_eq h2).symm _ (Wk.to (L := [(0, (.sl (List.map eCell p0))), (4, (.own 0 0 (List.length q13))), (5, (i64 i16)), (57, (.bool (decide (c29.count < c31))))]) ⟨.rfl, .rfl, .rfl, .rfl, trivial⟩))
          · skip
            refine d_skip rfl rfl b30 ?_
            refine d_skip rfl rfl b30 ?_
            refine d_skip rfl rfl b30 ?_
            refine d_skip rfl rfl b30 ?_
            refine d_skip rfl rfl b30 ?_
            refine d_skip rfl rfl b30 ?_
            refine d_skip rfl rfl b30 ?_
            refine d_skip rfl rfl b30 ?_
            refine d_skip rfl rfl b30 ?_
            refine d_skip rfl rfl b30 ?_
            refine d_q (v := (.bool false)) go0 rfl (aq_pkf rfl b30 rfl) ?_
            exact d_done (M26 false (Sh.some_eq h2).symm _ (Wk.to (L := [(0, (.sl (List.map eCell p0))), (4, (.own 0 0 (List.length q13))), (5, (i64 i16)), (57, (.bool false))]) ⟨.rfl, .rfl, .rfl, .rfl, trivial⟩))
        · replace h1 := Sh.ite_f b22 h1
          exact AW.exit (M17 () (Sh.some_eq h1).symm _ (by refine Wk.trans (Wk.permk (L := [(0, (.sl (List.map eCell p0)))]) (st' := []) (st1 := []) [] rfl .nil (by decide) rfl rfl .nil ⟨.rfl, trivial⟩) ?_; exact Wk.to (L := [(0, (.sl (List.map eCell p0)))]) ⟨.rfl, trivial⟩))
      refine AW.block (AW.loopF (σ := Int) (fun n v => spec_validHeap_L1 N p0 n v = some o11) (fun i10 => ⟨60, envL [(0, (.sl (List.map eCell p0))), (3, (i64 i10))], []⟩) N 0 h1 (Wk.to (L := [(0, (.sl (List.map eCell p0))), (3, (i64 0))]) ⟨.rfl, .rfl, trivial⟩) (fun _ hv => by rw [spec_validHeap_L1] at hv; cases hv) ?_)
      rintro n i10 h1
      try dsimp only at h1 ⊢
      rw [spec_validHeap_L1] at h1
      refine AW.seq fun K32 hK32 => ?_
      refine AW.seq fun K33 hK33 => ?_
      refine AW.regionO (by rfl) ?_
      refine ao_q (v := (i64 i10)) go0 rfl (aq_mv rfl) ?_
      refine ao_q (v := (.sl (List.map eCell p0))) go0 rfl (aq_mv rfl) ?_
      refine ao_q (v := (i64 (Sh.len p0))) go0 rfl (aq_lens sl25 rfl) ?_
      refine ao_q (v := (.bool (decide (i10 < (Sh.len p0))))) go0 rfl (aq_lt rfl rfl) ?_
      refine AO.done (hK33 _ ?_)
      refine AW.cond' (b := decide (i10 < (Sh.len p0))) rfl (fun b34 => ?_) (fun b34 => ?_)
      · replace h1 := Sh.ite_t b34 h1
        refine AW.skip (hK32 _ ?_)
        refine AW.seq fun K35 hK35 => ?_
        refine AW.block ?_
        refine AW.seq fun K36 hK36 => ?_
        refine AW.regionO (by rfl) ?_
        refine ao_q (v := (.sl (List.map eCell p0))) go0 rfl (aq_mv rfl) ?_
        refine ao_q (v := (.sl (List.map eCell p0))) go0 rfl (aq_mv rfl) ?_
        refine ao_q (v := (i64 i10)) go0 rfl (aq_mv rfl) ?_
        obtain ⟨c37, gc37, h1⟩ := Sh.bind_some h1
        refine ao_q (v := (.iptr (eCell c37) 0)) go0 rfl (aq_ixs ei25 rfl rfl gc37 rfl) ?_
        refine ao_q (v := (.agg [(i64 c37.count), (i64 c37.tag), (.sl (List.map eI c37.fields))])) go0 rfl (aq_ldia ti41 rfl (show 0 + 3 ≤ 3 by decide) rfl) ?_
        obtain ⟨q38, gq38, h1⟩ := Sh.bind_some h1
        refine ao_call (v' := (.bool q38)) (st' := []) go0 hb89 (spec_validCell_ok gq38) rfl rfl trivial rfl rfl ?_
        refine ao_q (v := (.bool (!q38))) go0 rfl (aq_not rfl) ?_
        refine AO.done (hK36 _ ?_)
        refine AW.cond' (b := !q38) rfl (fun b39 => ?_) (fun b39 => ?_)
        · replace h1 := Sh.ite_t b39 h1
          have b40 : q38 = false := by simpa using b39
          refine AW.seq fun K41 hK41 => ?_
          refine AW.regionO (by rfl) ?_
          refine ao_q (v := (.bool false)) go0 rfl (aq_as rfl) ?_
          refine AO.done (hK41 _ ?_)
          replace h1 := Sh.some_eq h1
          subst o11
          try dsimp only [id] at h0
          replace h0 := Sh.some_eq h0
          subst r
          exact AW.ret (Exists.intro _ (And.intro (Wk.to (L := [(2, (.bool false))]) ⟨.rfl, trivial⟩) (And.intro rfl rfl)))
        · replace h1 := Sh.ite_f b39 h1
          have b42 : q38 = true := by simpa using b39
          refine AW.skip (hK35 _ ?_)
          refine AW.regionO (by rfl) ?_
          refine ao_q (v := (i64 i10)) go0 rfl (aq_mv rfl) ?_
          refine ao_q (v := (i64 (Sh.w (i10 + 1)))) go0 rfl (aq_add rfl rfl) ?_
          refine ao_q (v := (i64 (Sh.w (i10 + 1)))) go0 rfl (aq_as rfl) ?_
          exact AO.done (Exists.intro (Sh.w (i10 + 1)) (And.intro h1 (Wk.to (L := [(0, (.sl (List.map eCell p0))), (3, (i64 (Sh.w (i10 + 1))))]) ⟨.rfl, .rfl, trivial⟩)))
      · replace h1 := Sh.ite_f b34 h1
        exact AW.exit (M11 () (Sh.some_eq h1).symm _ (Wk.to (L := [(0, (.sl (List.map eCell p0)))]) ⟨.rfl, trivial⟩))
  refine AW.regionO (by rfl) ?_
  refine ao_q (v := (.sl (List.map eCell p0))) go0 rfl (aq_mv rfl) ?_
  refine ao_q (v := (i64 (Sh.len p0))) go0 rfl (aq_lens sl25 rfl) ?_
  refine ao_q (v := (.bool (decide (0 < (Sh.len p0))))) go0 rfl (aq_gt rfl rfl) ?_
  refine ao_q (v := (.bool (decide (0 < (Sh.len p0))))) go0 rfl (aq_mv rfl) ?_
  rcases Sh.ite_some h1 with ⟨b43, h1⟩ | ⟨b43, h1⟩
  · skip
    refine ao_q (v := (.sl (List.map eCell p0))) (go1 rfl rfl b43) rfl (aq_mv rfl) ?_
    refine ao_q (v := (.sl (List.map eCell p0))) (go1 rfl rfl b43) rfl (aq_mv rfl) ?_
    refine ao_q (v := (i64 (Sh.len p0))) (go1 rfl rfl b43) rfl (aq_lens sl25 rfl) ?_
    refine ao_q (v := (i64 (Sh.w ((Sh.len p0) - 1)))) (go1 rfl rfl b43) rfl (aq_sub rfl rfl) ?_
    obtain ⟨c44, gc44, h1⟩ := Sh.bind_some h1
    refine ao_q (v := (.iptr (eCell c44) 0)) (go1 rfl rfl b43) rfl (aq_ixs ei25 rfl rfl gc44 rfl) ?_
    refine ao_q (v := (.iptr (eCell c44) 0)) (go1 rfl rfl b43) rfl (aq_fai fi41_0 rfl rfl) ?_
    refine ao_q (v := (i64 c44.count)) (go1 rfl rfl b43) rfl (aq_ldi ti3 rfl rfl) ?_
    refine ao_q (v := (.bool (decide (c44.count = 0)))) (go1 rfl rfl b43) rfl (aq_eq rfl rfl) ?_
    refine ao_q (v := (.bool (decide (c44.count = 0)))) go0 rfl (aq_pkt rfl b43 rfl) ?_
    exact AO.done (M5 (decide (c44.count = 0)) (Sh.some_eq h1).symm _ (Wk.to (L := [(0, (.sl (List.map eCell p0))), (18, (.bool (decide (c44.count = 0))))]) ⟨.rfl, .rfl, trivial⟩))
  · skip
    refine ao_skip rfl rfl b43 ?_
    refine ao_skip rfl rfl b43 ?_
    refine ao_skip rfl rfl b43 ?_
    refine ao_skip rfl rfl b43 ?_
    refine ao_skip rfl rfl b43 ?_
    refine ao_skip rfl rfl b43 ?_
    refine ao_skip rfl rfl b43 ?_
    refine ao_skip rfl rfl b43 ?_
    refine ao_q (v := (.bool false)) go0 rfl (aq_pkf rfl b43 rfl) ?_
    exact AO.done (M5 false (Sh.some_eq h1).symm _ (Wk.to (L := [(0, (.sl (List.map eCell p0))), (18, (.bool false))]) ⟨.rfl, .rfl, trivial⟩))

set_option maxRecDepth 100000 in
set_option maxHeartbeats 4000000 in
theorem spec_freeIndex_ok {N : Nat} {p0 : (List Cell)} {r : Int} (h0 : spec_freeIndex N p0 = some r) : ACalls Try.prog 82 [(.sl (List.map eCell p0))] [] (fun v st => v = (i64 r) ∧ st = []) := by
  unfold spec_freeIndex at h0
  refine ACalls.intro Try.func82 rfl (by show 1 ≤ 19; decide) ?_
  show AW _ 0 _ (aret _ 0 Try.f82 _) ⟨19, _, _⟩
  refine AW.weaken (Wk.to (L := [(0, (.sl (List.map eCell p0)))]) ⟨.rfl, trivial⟩) ?_
  refine AW.seq fun K1 hK1 => ?_
  refine AW.regionO (by rfl) ?_
  refine ao_q (v := (i64 0)) go0 rfl (aq_as rfl) ?_
  refine AO.done (hK1 _ ?_)
  refine AW.seq fun K2 hK2 => ?_
  refine AW.seq fun K3 hK3 => ?_
  refine AW.regionO (by rfl) ?_
  refine ao_q (v := (i64 0)) go0 rfl (aq_as rfl) ?_
  refine AO.done (hK3 _ ?_)
  obtain ⟨o5, h1, h0⟩ := Sh.cont_some h0
  have M5 : ∀ (_ : Unit), o5 = Sum.inr () → ∀ s, Wk 0 s ⟨19, envL [(0, (.sl (List.map eCell p0)))], []⟩ → K2 s := by
    intro _ hq s hw
    subst o5
    try dsimp only at h0
    refine hK2 _ (AW.weaken hw ?_)
    refine AW.seq fun K6 hK6 => ?_
    refine AW.regionO (by rfl) ?_
    refine ao_q (v := (.sl (List.map eCell p0))) go0 rfl (aq_mv rfl) ?_
    refine ao_q (v := (i64 (Sh.len p0))) go0 rfl (aq_lens sl25 rfl) ?_
    refine ao_q (v := (i64 (Sh.len p0))) go0 rfl (aq_as rfl) ?_
    refine AO.done (hK6 _ ?_)
    replace h0 := Sh.some_eq h0
    subst r
    exact AW.ret (Exists.intro _ (And.intro (Wk.to (L := [(2, (i64 (Sh.len p0)))]) ⟨.rfl, trivial⟩) (And.intro rfl rfl)))
  refine AW.block (AW.loopF (σ := Int) (fun n v => spec_freeIndex_L1 p0 n v = some o5) (fun i4 => ⟨19, envL [(0, (.sl (List.map eCell p0))), (3, (i64 i4))], []⟩) N 0 h1 (Wk.to (L := [(0, (.sl (List.map eCell p0))), (3, (i64 0))]) ⟨.rfl, .rfl, trivial⟩) (fun _ hv => by rw [spec_freeIndex_L1] at hv; cases hv) ?_)
  rintro n i4 h1
  try dsimp only at h1 ⊢
  rw [spec_freeIndex_L1] at h1
  refine AW.seq fun K7 hK7 => ?_
  refine AW.seq fun K8 hK8 => ?_
  refine AW.regionO (by rfl) ?_
  refine ao_q (v := (i64 i4)) go0 rfl (aq_mv rfl) ?_
  refine ao_q (v := (.sl (List.map eCell p0))) go0 rfl (aq_mv rfl) ?_
  refine ao_q (v := (i64 (Sh.len p0))) go0 rfl (aq_lens sl25 rfl) ?_
  refine ao_q (v := (.bool (decide (i4 < (Sh.len p0))))) go0 rfl (aq_lt rfl rfl) ?_
  refine AO.done (hK8 _ ?_)
  refine AW.cond' (b := decide (i4 < (Sh.len p0))) rfl (fun b9 => ?_) (fun b9 => ?_)
  · replace h1 := Sh.ite_t b9 h1
    refine AW.skip (hK7 _ ?_)
    refine AW.seq fun K10 hK10 => ?_
    refine AW.block ?_
    refine AW.seq fun K11 hK11 => ?_
    refine AW.regionO (by rfl) ?_
    refine ao_q (v := (.sl (List.map eCell p0))) go0 rfl (aq_mv rfl) ?_
    refine ao_q (v := (i64 i4)) go0 rfl (aq_mv rfl) ?_
    obtain ⟨c12, gc12, h1⟩ := Sh.bind_some h1
    refine ao_q (v := (.iptr (eCell c12) 0)) go0 rfl (aq_ixs ei25 rfl rfl gc12 rfl) ?_
    refine ao_q (v := (.iptr (eCell c12) 0)) go0 rfl (aq_fai fi41_0 rfl rfl) ?_
    refine ao_q (v := (i64 c12.count)) go0 rfl (aq_ldi ti3 rfl rfl) ?_
    refine ao_q (v := (.bool (decide (c12.count = 0)))) go0 rfl (aq_eq rfl rfl) ?_
    refine AO.done (hK11 _ ?_)
    refine AW.cond' (b := decide (c12.count = 0)) rfl (fun b13 => ?_) (fun b13 => ?_)
    · replace h1 := Sh.ite_t b13 h1
      refine AW.seq fun K14 hK14 => ?_
      refine AW.regionO (by rfl) ?_
      refine ao_q (v := (i64 i4)) go0 rfl (aq_mv rfl) ?_
      refine ao_q (v := (i64 i4)) go0 rfl (aq_as rfl) ?_
      refine AO.done (hK14 _ ?_)
      replace h1 := Sh.some_eq h1
      subst o5
      try dsimp only [id] at h0
      replace h0 := Sh.some_eq h0
      subst r
      exact AW.ret (Exists.intro _ (And.intro (Wk.to (L := [(2, (i64 i4))]) ⟨.rfl, trivial⟩) (And.intro rfl rfl)))
    · replace h1 := Sh.ite_f b13 h1
      refine AW.skip (hK10 _ ?_)
      refine AW.regionO (by rfl) ?_
      refine ao_q (v := (i64 i4)) go0 rfl (aq_mv rfl) ?_
      refine ao_q (v := (i64 (Sh.w (i4 + 1)))) go0 rfl (aq_add rfl rfl) ?_
      refine ao_q (v := (i64 (Sh.w (i4 + 1)))) go0 rfl (aq_as rfl) ?_
      exact AO.done (Exists.intro (Sh.w (i4 + 1)) (And.intro h1 (Wk.to (L := [(0, (.sl (List.map eCell p0))), (3, (i64 (Sh.w (i4 + 1))))]) ⟨.rfl, .rfl, trivial⟩)))
  · replace h1 := Sh.ite_f b9 h1
    exact AW.exit (M5 () (Sh.some_eq h1).symm _ (Wk.to (L := [(0, (.sl (List.map eCell p0)))]) ⟨.rfl, trivial⟩))

set_option maxRecDepth 100000 in
set_option maxHeartbeats 4000000 in
theorem spec_copyInts_ok {p0 : (List Int)} {r : (List Int)} (h0 : spec_copyInts p0 = some r) : ACalls Try.prog 93 [(.sl (List.map eI p0))] [] (fun v st => v = (.own 0 0 (List.length r)) ∧ st = [⟨0, 3, 1, List.map eI r⟩]) := by
  unfold spec_copyInts at h0
  refine ACalls.intro Try.func93 rfl (by show 1 ≤ 6; decide) ?_
  show AW _ 0 _ (aret _ 0 Try.f93 _) ⟨6, _, _⟩
  refine AW.weaken (Wk.to (L := [(0, (.sl (List.map eI p0)))]) ⟨.rfl, trivial⟩) ?_
  refine AW.seq fun K1 hK1 => ?_
  refine AW.regionO (by rfl) ?_
  refine ao_q (v := .zc) go0 rfl (aq_as rfl) ?_
  refine AO.done (hK1 _ ?_)
  refine AW.seq fun K2 hK2 => ?_
  refine AW.regionO (by rfl) ?_
  refine ao_bs (m := 0) (st' := [⟨0, 3, 1, List.map eI ([] : List Int)⟩]) (l := ([] : List Int)) (enc := eI) go0 ei32 (by decide) rfl rfl rfl rfl rfl rfl ?_
  refine ao_q (v := (.sl (List.map eI p0))) go0 rfl (aq_mv rfl) ?_
  obtain ⟨l3, gl3, h0⟩ := Sh.bind_some h0
  refine ao_apo (st' := [⟨1, 3, 1, List.map eI l3⟩]) (l2 := p0) go0 ei32 rfl rfl rfl rfl el_s (fun _ => rfl) gl3 rfl ?_
  refine ao_q (v := (.own 0 1 (List.length l3))) go0 rfl (aq_as rfl) ?_
  refine AO.done (hK2 _ ?_)
  replace h0 := Sh.some_eq h0
  subst r
  exact AW.ret (Exists.intro _ (And.intro ((Wk.rg (L := [(2, (.own 0 0 (List.length l3)))]) (st' := [⟨0, 3, 1, List.map eI l3⟩]) (.pure (pure_map fun _ => rfl) .nil) ⟨.rfl, trivial⟩).trans (Wk.to (L := [(2, (.own 0 0 (List.length l3)))]) ⟨.rfl, trivial⟩)) (And.intro rfl rfl)))

set_option maxRecDepth 100000 in
set_option maxHeartbeats 4000000 in
theorem spec_copyHeap_ok {N : Nat} {s0 : (List Cell)} {r : (List Cell)} (h0 : spec_copyHeap N s0 = some r) : ACalls Try.prog 76 [(.own 0 0 (List.length s0))] [⟨0, 41, 3, List.map eCell s0⟩] (fun v st => v = (.own 1 0 (List.length r)) ∧ st = [⟨0, 41, 3, List.map eCell s0⟩, ⟨0, 41, 3, List.map eCell r⟩]) := by
  unfold spec_copyHeap at h0
  refine ACalls.intro Try.func76 rfl (by show 1 ≤ 33; decide) ?_
  show AW _ 1 _ (aret _ 1 Try.f76 _) ⟨33, _, _⟩
  refine AW.weaken (Wk.to (L := [(0, (.own 0 0 (List.length s0)))]) ⟨.rfl, trivial⟩) ?_
  refine AW.seq fun K1 hK1 => ?_
  refine AW.regionO (by rfl) ?_
  refine ao_q (v := .zc) go0 rfl (aq_as rfl) ?_
  refine AO.done (hK1 _ ?_)
  refine AW.seq fun K2 hK2 => ?_
  refine AW.regionO (by rfl) ?_
  refine ao_bs (m := 1) (st' := [⟨0, 41, 3, List.map eCell s0⟩, ⟨0, 41, 3, List.map eCell ([] : List Cell)⟩]) (l := ([] : List Cell)) (enc := eCell) go0 ei25 (by decide) rfl rfl rfl rfl rfl rfl ?_
  refine ao_q (v := (.own 1 0 (List.length ([] : List Cell)))) go0 rfl (aq_as rfl) ?_
  refine AO.done (hK2 _ ?_)
  refine AW.seq fun K3 hK3 => ?_
  refine AW.seq fun K4 hK4 => ?_
  refine AW.regionO (by rfl) ?_
  refine ao_q (v := (i64 0)) go0 rfl (aq_as rfl) ?_
  refine AO.done (hK4 _ ?_)
  obtain ⟨o8, h1, h0⟩ := Sh.bind_some h0
  have M8 : ∀ (l7 : (List Cell)), o8 = l7 → ∀ s, Wk 1 s ⟨33, envL [(3, (.own 1 0 (List.length l7)))], [⟨0, 41, 3, List.map eCell s0⟩, ⟨0, 41, 3, List.map eCell l7⟩]⟩ → K3 s := by
    intro l7 hq s hw
    subst o8
    try dsimp only at h0
    refine hK3 _ (AW.weaken hw ?_)
    refine AW.seq fun K9 hK9 => ?_
    refine AW.regionO (by rfl) ?_
    refine ao_q (v := (.own 1 0 (List.length l7))) go0 rfl (aq_mv rfl) ?_
    refine ao_q (v := (.own 1 0 (List.length l7))) go0 rfl (aq_as rfl) ?_
    refine AO.done (hK9 _ ?_)
    replace h0 := Sh.some_eq h0
    subst r
    exact AW.ret (Exists.intro _ (And.intro (Wk.to (L := [(2, (.own 1 0 (List.length l7)))]) ⟨.rfl, trivial⟩) (And.intro rfl rfl)))
  refine AW.block (AW.loopF (σ := Int × (List Cell)) (fun n v => spec_copyHeap_L1 s0 n v.1 v.2 = some o8) (fun (i5, l6) => ⟨33, envL [(0, (.own 0 0 (List.length s0))), (3, (.own 1 0 (List.length l6))), (4, (i64 i5))], [⟨0, 41, 3, List.map eCell s0⟩, ⟨0, 41, 3, List.map eCell l6⟩]⟩) N (0, []) h1 (Wk.to (L := [(0, (.own 0 0 (List.length s0))), (3, (.own 1 0 (List.length ([] : List Cell)))), (4, (i64 0))]) ⟨.rfl, .rfl, .rfl, trivial⟩) (fun _ hv => by rw [spec_copyHeap_L1] at hv; cases hv) ?_)
  rintro n ⟨i5, l6⟩ h1
  try dsimp only at h1 ⊢
  rw [spec_copyHeap_L1] at h1
  refine AW.seq fun K10 hK10 => ?_
  refine AW.seq fun K11 hK11 => ?_
  refine AW.regionO (by rfl) ?_
  refine ao_q (v := (i64 i5)) go0 rfl (aq_mv rfl) ?_
  refine ao_q (v := (.own 0 0 (List.length s0))) go0 rfl (aq_mv rfl) ?_
  refine ao_q (v := (i64 (Sh.len s0))) go0 rfl (aq_leno sl25 rfl rfl rfl) ?_
  refine ao_q (v := (.bool (decide (i5 < (Sh.len s0))))) go0 rfl (aq_lt rfl rfl) ?_
  refine AO.done (hK11 _ ?_)
  refine AW.cond' (b := decide (i5 < (Sh.len s0))) rfl (fun b12 => ?_) (fun b12 => ?_)
  · replace h1 := Sh.ite_t b12 h1
    refine AW.skip (hK10 _ ?_)
    refine AW.seq fun K13 hK13 => ?_
    refine AW.block ?_
    refine AW.drawTailO 19 (by kernel_rfl) (by kernel_rfl) (by rfl) ?_
    refine d_q (v := (.own 1 0 (List.length l6))) go0 rfl (aq_mv rfl) ?_
    refine d_q (v := (.own 0 0 (List.length s0))) go0 rfl (aq_mv rfl) ?_
    refine d_q (v := (i64 i5)) go0 rfl (aq_mv rfl) ?_
    obtain ⟨c14, gc14, h1⟩ := Sh.bind_some h1
    refine d_q (v := (.ptr 0 0 (Int.toNat i5) 0)) go0 rfl (aq_ixo ei25 rfl rfl rfl rfl gc14) ?_
    refine d_q (v := (.ptr 0 0 (Int.toNat i5) 0)) go0 rfl (aq_fap fi41_0 rfl rfl (show 0 + 0 ≤ 3 by decide) rfl) ?_
    refine d_q (v := (i64 c14.count)) go0 rfl (aq_ldp ti3 rfl rfl (map_get gc14) rfl) ?_
    refine d_q (v := (.own 0 0 (List.length s0))) go0 rfl (aq_mv rfl) ?_
    refine d_q (v := (i64 i5)) go0 rfl (aq_mv rfl) ?_
    refine d_q (v := (.ptr 0 0 (Int.toNat i5) 0)) go0 rfl (aq_ixo ei25 rfl rfl rfl rfl gc14) ?_
    refine d_q (v := (.ptr 0 0 (Int.toNat i5) 1)) go0 rfl (aq_fap fi41_1 rfl rfl (show 0 + 1 ≤ 3 by decide) rfl) ?_
    refine d_q (v := (i64 c14.tag)) go0 rfl (aq_ldp ti3 rfl rfl (map_get gc14) rfl) ?_
    refine d_q (v := (.own 0 0 (List.length s0))) go0 rfl (aq_mv rfl) ?_
    refine d_q (v := (i64 i5)) go0 rfl (aq_mv rfl) ?_
    refine d_q (v := (.ptr 0 0 (Int.toNat i5) 0)) go0 rfl (aq_ixo ei25 rfl rfl rfl rfl gc14) ?_
    refine d_q (v := (.ptr 0 0 (Int.toNat i5) 2)) go0 rfl (aq_fap fi41_2 rfl rfl (show 0 + 2 ≤ 3 by decide) rfl) ?_
    refine d_q (v := (.sl (List.map eI c14.fields))) go0 rfl (aq_ldp ti32 rfl rfl (map_get gc14) rfl) ?_
    obtain ⟨q15, gq15, h1⟩ := Sh.bind_some h1
    refine d_call (v := (.sl (List.map eI q15))) go0 hb93 (ACalls.wk (spec_copyInts_ok gq15) (by refine Wk.trans (Wk.frz (L := [(0, (.sl (List.map eI q15)))]) (st' := [⟨1, 3, 1, []⟩]) (id := 0) rfl (show 0 ≤ 0 by decide) (pure_map fun _ => rfl) ⟨(.frz rfl), trivial⟩ rfl) ?_; refine Wk.trans (Wk.permk (L := [(0, (.sl (List.map eI q15)))]) (st' := []) (st1 := []) [] rfl .nil (by decide) rfl rfl .nil ⟨.rfl, trivial⟩) ?_; exact Wk.to (L := [(0, (.sl (List.map eI q15)))]) ⟨.rfl, trivial⟩)) rfl rfl rfl ?_
    refine d_q (v := (.agg [(i64 c14.count), (i64 c14.tag), (.sl (List.map eI q15))])) go0 rfl (aq_bd ai41 bi41 zi41 rfl rfl) ?_
    refine d_bs (l := [(Cell.mk c14.count c14.tag q15)]) (enc := eCell) go0 ei25 (by decide) rfl rfl rfl rfl rfl (pure_map fun _ => rfl) ?_
    refine d_done ?_
    obtain ⟨l16, gl16, h1⟩ := Sh.bind_some h1
    refine ao_apo (st' := [⟨0, 41, 3, List.map eCell s0⟩, ⟨1, 41, 3, List.map eCell l16⟩]) (l2 := [(Cell.mk c14.count c14.tag q15)]) go0 ei25 rfl rfl rfl rfl el_s (fun _ => rfl) gl16 rfl ?_
    refine ao_q (v := (.own 1 1 (List.length l16))) go0 rfl (aq_as rfl) ?_
    refine AO.done (hK13 _ ?_)
    refine AW.regionO (by rfl) ?_
    refine ao_q (v := (i64 i5)) go0 rfl (aq_mv rfl) ?_
    refine ao_q (v := (i64 (Sh.w (i5 + 1)))) go0 rfl (aq_add rfl rfl) ?_
    refine ao_q (v := (i64 (Sh.w (i5 + 1)))) go0 rfl (aq_as rfl) ?_
    exact AO.done (Exists.intro (Sh.w (i5 + 1), l16) (And.intro h1 (by refine Wk.trans (Wk.rk (L := [(0, (.own 0 0 (List.length s0))), (3, (.own 1 0 (List.length l16))), (4, (i64 (Sh.w (i5 + 1))))]) (st' := [⟨0, 41, 3, List.map eCell s0⟩, ⟨0, 41, 3, List.map eCell l16⟩]) (.pure rfl (pure_map fun _ => rfl) (.pure rfl (pure_map fun _ => rfl) .nil)) ⟨.rfl, .rfl, .rfl, trivial⟩) ?_; exact Wk.to (L := [(0, (.own 0 0 (List.length s0))), (3, (.own 1 0 (List.length l16))), (4, (i64 (Sh.w (i5 + 1))))]) ⟨.rfl, .rfl, .rfl, trivial⟩)))
  · replace h1 := Sh.ite_f b12 h1
    exact AW.exit (M8 l6 (Sh.some_eq h1).symm _ (Wk.to (L := [(3, (.own 1 0 (List.length l6)))]) ⟨.rfl, trivial⟩))

set_option maxRecDepth 100000 in
set_option maxHeartbeats 4000000 in
theorem spec_place_ok {s0 : (List Cell)} {p1 : Int} {p2 : Int} {p3 : (List Int)} {r : (List Cell)} (h0 : spec_place s0 p1 p2 p3 = some r) : ACalls Try.prog 83 [(.own 0 0 (List.length s0)), (i64 p1), (i64 p2), (.sl (List.map eI p3))] [⟨0, 41, 3, List.map eCell s0⟩] (fun v st => v = (.own 0 1 (List.length r)) ∧ st = [⟨1, 41, 3, List.map eCell r⟩]) := by
  unfold spec_place at h0
  refine ACalls.intro Try.func83 rfl (by show 4 ≤ 27; decide) ?_
  show AW _ 1 _ (aret _ 1 Try.f83 _) ⟨27, _, _⟩
  refine AW.weaken (Wk.to (L := [(0, (.own 0 0 (List.length s0))), (1, (i64 p1)), (2, (i64 p2)), (3, (.sl (List.map eI p3)))]) ⟨.rfl, .rfl, .rfl, .rfl, trivial⟩) ?_
  refine AW.seq fun K1 hK1 => ?_
  refine AW.regionO (by rfl) ?_
  refine ao_q (v := .zc) go0 rfl (aq_as rfl) ?_
  refine AO.done (hK1 _ ?_)
  refine AW.seq fun K2 hK2 => ?_
  refine AW.regionO (by rfl) ?_
  refine ao_q (v := (i64 p2)) go0 rfl (aq_mv rfl) ?_
  refine ao_q (v := (.sl (List.map eI p3))) go0 rfl (aq_mv rfl) ?_
  obtain ⟨q3, gq3, h0⟩ := Sh.bind_some h0
  refine ao_call (v' := (.own 1 0 (List.length q3))) (st' := [⟨0, 41, 3, List.map eCell s0⟩, ⟨0, 3, 1, List.map eI q3⟩]) go0 hb93 (spec_copyInts_ok gq3) rfl rfl ⟨pure_map fun _ => rfl, trivial⟩ rfl rfl ?_
  refine ao_q (v := (.agg [(i64 1), (i64 p2), (.own 1 0 (List.length q3))])) go0 rfl (aq_bd ai41 bi41 zi41 rfl rfl) ?_
  refine ao_alloc (m := 2) (st' := [⟨0, 41, 3, List.map eCell s0⟩, ⟨0, 3, 1, List.map eI q3⟩, ⟨0, 41, 3, [[(i64 0), (i64 0), .zc]]⟩]) go0 zi41 rfl rfl ?_
  refine AO.weaken (Wk.frz (L := [(0, (.own 0 0 (List.length s0))), (1, (i64 p1)), (9, (.ptr 2 0 0 0)), (13, (.agg [(i64 1), (i64 p2), (.sl (List.map eI q3))]))]) (st' := [⟨0, 41, 3, List.map eCell s0⟩, ⟨1, 3, 1, []⟩, ⟨0, 41, 3, [[(i64 0), (i64 0), .zc]]⟩]) (id := 1) rfl (show 1 ≤ 1 by decide) (pure_map fun _ => rfl) ⟨.rfl, .rfl, .rfl, (.agg ⟨.rfl, .rfl, (.frz1 rfl), trivial⟩), trivial⟩ rfl) ?_
  refine ao_str (st' := [⟨0, 41, 3, List.map eCell s0⟩, ⟨1, 3, 1, []⟩, ⟨0, 41, 3, [[(i64 1), (i64 p2), (.sl (List.map eI q3))]]⟩]) go0 ti41 rfl rfl rfl rfl rfl rfl (show 0 + 3 ≤ 3 by decide) rfl ?_
  refine AO.done (hK2 _ ?_)
  refine AW.seq fun K4 hK4 => ?_
  refine AW.seq fun K5 hK5 => ?_
  refine AW.regionO (by rfl) ?_
  refine ao_q (v := (i64 p1)) go0 rfl (aq_mv rfl) ?_
  refine ao_q (v := (.own 0 0 (List.length s0))) go0 rfl (aq_mv rfl) ?_
  refine ao_q (v := (i64 (Sh.len s0))) go0 rfl (aq_leno sl25 rfl rfl rfl) ?_
  refine ao_q (v := (.bool (decide (p1 = (Sh.len s0))))) go0 rfl (aq_eq rfl rfl) ?_
  refine AO.done (hK5 _ ?_)
  refine AW.cond' (b := decide (p1 = (Sh.len s0))) rfl (fun b6 => ?_) (fun b6 => ?_)
  · replace h0 := Sh.ite_t b6 h0
    refine AW.seq fun K7 hK7 => ?_
    refine AW.regionO (by rfl) ?_
    refine ao_q (v := (.own 0 0 (List.length s0))) go0 rfl (aq_mv rfl) ?_
    refine ao_q (v := (.agg [(i64 1), (i64 p2), (.sl (List.map eI q3))])) go0 rfl (aq_ldpa ti41 rfl rfl rfl (show 0 + 3 ≤ 3 by decide) rfl) ?_
    refine ao_bs (m := 3) (st' := [⟨0, 41, 3, List.map eCell s0⟩, ⟨1, 3, 1, []⟩, ⟨0, 41, 3, [[(i64 1), (i64 p2), (.sl (List.map eI q3))]]⟩, ⟨0, 41, 3, List.map eCell [(Cell.mk 1 p2 q3)]⟩]) (l := [(Cell.mk 1 p2 q3)]) (enc := eCell) go0 ei25 (by decide) rfl rfl rfl rfl rfl rfl ?_
    obtain ⟨l8, gl8, h0⟩ := Sh.bind_some h0
    refine ao_apo (st' := [⟨1, 41, 3, List.map eCell l8⟩, ⟨1, 3, 1, []⟩, ⟨0, 41, 3, [[(i64 1), (i64 p2), (.sl (List.map eI q3))]]⟩, ⟨0, 41, 3, List.map eCell [(Cell.mk 1 p2 q3)]⟩]) (l2 := [(Cell.mk 1 p2 q3)]) go0 ei25 rfl rfl rfl rfl (el_o rfl rfl) (fun _ => rfl) gl8 rfl ?_
    refine ao_q (v := (.own 0 1 (List.length l8))) go0 rfl (aq_as rfl) ?_
    refine AO.done (hK7 _ ?_)
    replace h0 := Sh.some_eq h0
    subst r
    exact AW.ret (Exists.intro _ (And.intro ((Wk.permk (L := [(8, (.own 0 1 (List.length l8)))]) (st' := [⟨1, 41, 3, List.map eCell l8⟩]) (st1 := [⟨1, 41, 3, List.map eCell l8⟩]) [0] rfl (.pure (pure_map fun _ => rfl) .nil) (by decide) rfl rfl (.pure (pure_map fun _ => rfl) .nil) ⟨.rfl, trivial⟩).trans (Wk.to (L := [(8, (.own 0 1 (List.length l8)))]) ⟨.rfl, trivial⟩)) (And.intro rfl rfl)))
  · replace h0 := Sh.ite_f b6 h0
    refine AW.skip (hK4 _ ?_)
    refine AW.seq fun K9 hK9 => ?_
    refine AW.regionO (by rfl) ?_
    refine ao_q (v := (.own 0 0 (List.length s0))) go0 rfl (aq_mv rfl) ?_
    refine ao_q (v := (i64 p1)) go0 rfl (aq_mv rfl) ?_
    refine ao_q (v := (.agg [(i64 1), (i64 p2), (.sl (List.map eI q3))])) go0 rfl (aq_ldpa ti41 rfl rfl rfl (show 0 + 3 ≤ 3 by decide) rfl) ?_
    obtain ⟨c10, gc10, h0⟩ := Sh.bind_some h0
    refine ao_q (v := (.ptr 0 0 (Int.toNat p1) 0)) go0 rfl (aq_ixo ei25 rfl rfl rfl rfl gc10) ?_
    refine ao_stl (st' := [⟨0, 41, 3, List.map eCell (Sh.put s0 p1 (Cell.mk 1 p2 q3))⟩, ⟨1, 3, 1, []⟩, ⟨0, 41, 3, [[(i64 1), (i64 p2), (.sl (List.map eI q3))]]⟩]) (u' := (Cell.mk 1 p2 q3)) go0 ti41 rfl rfl gc10 rfl rfl rfl (show 0 + 3 ≤ 3 by decide) rfl rfl ?_
    refine AO.done (hK9 _ ?_)
    refine AW.seq fun K11 hK11 => ?_
    refine AW.regionO (by rfl) ?_
    refine ao_q (v := (.own 0 0 (List.length s0))) go0 rfl (aq_mv rfl) ?_
    refine ao_q (v := (.own 0 0 (List.length s0))) go0 rfl (aq_as rfl) ?_
    refine AO.done (hK11 _ ?_)
    replace h0 := Sh.some_eq h0
    subst r
    exact AW.ret (Exists.intro _ (And.intro (((Wk.bump (L := [(8, (.own 0 1 (List.length s0)))]) (st' := [⟨1, 41, 3, List.map eCell (Sh.put s0 p1 (Cell.mk 1 p2 q3))⟩, ⟨1, 3, 1, []⟩, ⟨0, 41, 3, [[(i64 1), (i64 p2), (.sl (List.map eI q3))]]⟩]) (st1 := [⟨0, 41, 3, List.map eCell (Sh.put s0 p1 (Cell.mk 1 p2 q3))⟩, ⟨1, 3, 1, []⟩, ⟨0, 41, 3, [[(i64 1), (i64 p2), (.sl (List.map eI q3))]]⟩]) 0 rfl (.pure (pure_map fun _ => rfl) (.pure (by intro x hx; cases hx) (.raw rfl rfl .nil))) rfl ⟨.rfl, trivial⟩).trans (Wk.permk (L := [(8, (.own 0 1 (List.length s0)))]) (st' := [⟨1, 41, 3, List.map eCell (Sh.put s0 p1 (Cell.mk 1 p2 q3))⟩]) (st1 := [⟨1, 41, 3, List.map eCell (Sh.put s0 p1 (Cell.mk 1 p2 q3))⟩]) [0] rfl (.pure (pure_map fun _ => rfl) .nil) (by decide) rfl rfl (.pure (pure_map fun _ => rfl) .nil) ⟨.rfl, trivial⟩)).trans (Wk.to (L := [(8, (.own 0 1 (List.length (Sh.put s0 p1 (Cell.mk 1 p2 q3)))))]) ⟨(.len (by simp only [Sh.put_len])), trivial⟩)) (And.intro rfl rfl)))

set_option maxRecDepth 100000 in
set_option maxHeartbeats 4000000 in
theorem spec_AllocCell_ok {N : Nat} {s0 : (List Cell)} {p1 : Int} {p2 : (List Int)} {r : (List Cell) × Int} (h0 : spec_AllocCell N s0 p1 p2 = some r) : ACalls Try.prog 43 [(.own 0 0 (List.length s0)), (i64 p1), (.sl (List.map eI p2))] [⟨0, 41, 3, List.map eCell s0⟩] (fun v st => v = (.tup [(.own 1 0 (List.length r.1)), (i64 r.2)]) ∧ st = [⟨0, 41, 3, List.map eCell s0⟩, ⟨0, 41, 3, List.map eCell r.1⟩]) := by
  unfold spec_AllocCell at h0
  refine ACalls.intro Try.func43 rfl (by show 3 ≤ 41; decide) ?_
  show AW _ 1 _ (aret _ 1 Try.f43 _) ⟨41, _, _⟩
  refine AW.weaken (Wk.to (L := [(0, (.own 0 0 (List.length s0))), (1, (i64 p1)), (2, (.sl (List.map eI p2)))]) ⟨.rfl, .rfl, .rfl, trivial⟩) ?_
  refine AW.seq fun K1 hK1 => ?_
  refine AW.regionO (by rfl) ?_
  refine ao_q (v := .zc) go0 rfl (aq_as rfl) ?_
  refine ao_q (v := (i64 0)) go0 rfl (aq_as rfl) ?_
  refine AO.done (hK1 _ ?_)
  refine AW.seq fun K2 hK2 => ?_
  refine AW.seq fun K3 hK3 => ?_
  refine AW.regionO (by rfl) ?_
  refine ao_q (v := (.own 0 0 (List.length s0))) go0 rfl (aq_mv rfl) ?_
  obtain ⟨q4, gq4, h0⟩ := Sh.bind_some h0
  refine ao_callb (v' := (.bool q4)) (st' := [⟨0, 41, 3, List.map eCell s0⟩]) go0 hb61 (spec_validHeap_ok gq4) rfl (.own rfl rfl (fun _ => rfl) .nil) rfl trivial rfl rfl ?_
  refine ao_q (v := (.bool (!q4))) go0 rfl (aq_not rfl) ?_
  refine AO.done (hK3 _ ?_)
  refine AW.cond' (b := !q4) rfl (fun b5 => ?_) (fun b5 => ?_)
  · replace h0 := Sh.ite_t b5 h0
    have b6 : q4 = false := by simpa using b5
    refine AW.seq fun K7 hK7 => ?_
    refine AW.regionO (by rfl) ?_
    refine ao_q (v := .zc) go0 rfl (aq_as rfl) ?_
    refine ao_q (v := (i64 0)) go0 rfl (aq_as rfl) ?_
    refine AO.done (hK7 _ ?_)
    replace h0 := Sh.some_eq h0
    subst r
    exact AW.ret (Exists.intro _ (And.intro (((Wk.adopt (t := 6) rfl 41 (size := 3) (by decide)).trans (Wk.to (L := [(6, (.own 1 0 (List.length ([] : List Cell)))), (7, (i64 0))]) ⟨.rfl, .rfl, trivial⟩)).trans (Wk.to (L := [(6, (.own 1 0 (List.length ([] : List Cell)))), (7, (i64 0))]) ⟨.rfl, .rfl, trivial⟩)) (And.intro rfl rfl)))
  · replace h0 := Sh.ite_f b5 h0
    have b8 : q4 = true := by simpa using b5
    refine AW.skip (hK2 _ ?_)
    refine AW.seq fun K9 hK9 => ?_
    refine AW.regionO (by rfl) ?_
    refine ao_q (v := (.own 0 0 (List.length s0))) go0 rfl (aq_mv rfl) ?_
    obtain ⟨q10, gq10, h0⟩ := Sh.bind_some h0
    refine ao_callb (v' := (i64 q10)) (st' := [⟨0, 41, 3, List.map eCell s0⟩]) go0 hb82 (spec_freeIndex_ok gq10) rfl (.own rfl rfl (fun _ => rfl) .nil) rfl trivial rfl rfl ?_
    refine ao_q (v := (i64 q10)) go0 rfl (aq_as rfl) ?_
    refine AO.done (hK9 _ ?_)
    refine AW.seq fun K11 hK11 => ?_
    refine AW.seq fun K12 hK12 => ?_
    refine AW.regionO (by rfl) ?_
    refine ao_q (v := (i64 0)) go0 rfl (aq_as rfl) ?_
    refine AO.done (hK12 _ ?_)
    obtain ⟨o14, h1, h0⟩ := Sh.cont_some h0
    have M14 : ∀ (_ : Unit), o14 = Sum.inr () → ∀ s, Wk 1 s ⟨41, envL [(0, (.own 0 0 (List.length s0))), (1, (i64 p1)), (2, (.sl (List.map eI p2))), (8, (i64 q10))], [⟨0, 41, 3, List.map eCell s0⟩]⟩ → K11 s := by
      intro _ hq s hw
      subst o14
      try dsimp only at h0
      refine hK11 _ (AW.weaken hw ?_)
      refine AW.seq fun K15 hK15 => ?_
      refine AW.regionO (by rfl) ?_
      refine ao_q (v := (.own 0 0 (List.length s0))) go0 rfl (aq_mv rfl) ?_
      obtain ⟨q16, gq16, h0⟩ := Sh.bind_some h0
      refine ao_calls (rowsP := [⟨0, 41, 3, List.map eCell s0⟩]) (rows0 := [⟨0, 41, 3, List.map eCell s0⟩]) (rows1 := [⟨0, 41, 3, List.map eCell s0⟩]) (rows2 := [⟨0, 41, 3, List.map eCell q16⟩]) (rows1' := [⟨0, 41, 3, List.map eCell s0⟩]) (rows2' := [⟨0, 41, 3, List.map eCell q16⟩]) (st' := [⟨0, 41, 3, List.map eCell s0⟩, ⟨0, 41, 3, List.map eCell q16⟩]) (v' := (.own 1 0 (List.length q16))) [0] go0 hb76 (spec_copyHeap_ok gq16) rfl (by decide) rfl rfl (.pure (pure_map fun _ => rfl) .nil) rfl rfl (.pure (pure_map fun _ => rfl) .nil) (.pure (pure_map fun _ => rfl) .nil) rfl rfl ?_
      refine ao_q (v := (i64 q10)) go0 rfl (aq_mv rfl) ?_
      refine ao_q (v := (i64 p1)) go0 rfl (aq_mv rfl) ?_
      refine ao_q (v := (.sl (List.map eI p2))) go0 rfl (aq_mv rfl) ?_
      obtain ⟨q17, gq17, h0⟩ := Sh.bind_some h0
      refine ao_calls (rowsP := [⟨0, 41, 3, List.map eCell q16⟩]) (rows0 := [⟨0, 41, 3, List.map eCell q16⟩]) (rows1 := [⟨1, 41, 3, List.map eCell q17⟩]) (rows2 := []) (rows1' := [⟨1, 41, 3, List.map eCell q17⟩]) (rows2' := []) (st' := [⟨0, 41, 3, List.map eCell s0⟩, ⟨1, 41, 3, List.map eCell q17⟩]) (v' := (.own 1 1 (List.length q17))) [1] go0 hb83 (spec_place_ok gq17) rfl (by decide) rfl rfl (.pure (pure_map fun _ => rfl) .nil) rfl rfl (.pure (pure_map fun _ => rfl) .nil) .nil rfl rfl ?_
      refine ao_q (v := (.own 1 1 (List.length q17))) go0 rfl (aq_as rfl) ?_
      refine AO.done (hK15 _ ?_)
      refine AW.seq fun K18 hK18 => ?_
      refine AW.seq fun K19 hK19 => ?_
      refine AW.regionO (by rfl) ?_
      refine ao_q (v := (.own 1 1 (List.length q17))) go0 rfl (aq_mv rfl) ?_
      obtain ⟨q20, gq20, h0⟩ := Sh.bind_some h0
      refine ao_callb (v' := (.bool q20)) (st' := [⟨0, 41, 3, List.map eCell s0⟩, ⟨1, 41, 3, List.map eCell q17⟩]) go0 hb61 (spec_validHeap_ok gq20) rfl (.own rfl rfl (fun _ => rfl) .nil) rfl trivial rfl rfl ?_
      refine ao_q (v := (.bool (!q20))) go0 rfl (aq_not rfl) ?_
      refine AO.done (hK19 _ ?_)
      refine AW.cond' (b := !q20) rfl (fun b21 => ?_) (fun b21 => ?_)
      · replace h0 := Sh.ite_t b21 h0
        have b22 : q20 = false := by simpa using b21
        refine AW.seq fun K23 hK23 => ?_
        refine AW.regionO (by rfl) ?_
        refine ao_q (v := .zc) go0 rfl (aq_as rfl) ?_
        refine ao_q (v := (i64 0)) go0 rfl (aq_as rfl) ?_
        refine AO.done (hK23 _ ?_)
        replace h0 := Sh.some_eq h0
        subst r
        exact AW.ret (Exists.intro _ (And.intro ((((Wk.adopt (t := 6) rfl 41 (size := 3) (by decide)).trans (Wk.to (L := [(6, (.own 2 0 (List.length ([] : List Cell)))), (7, (i64 0))]) ⟨.rfl, .rfl, trivial⟩)).trans (Wk.permk (L := [(6, (.own 1 0 (List.length ([] : List Cell)))), (7, (i64 0))]) (st' := [⟨0, 41, 3, List.map eCell s0⟩, ⟨0, 41, 3, List.map eCell ([] : List Cell)⟩]) (st1 := [⟨0, 41, 3, List.map eCell s0⟩, ⟨0, 41, 3, List.map eCell ([] : List Cell)⟩]) [0, 2] rfl (.pure (pure_map fun _ => rfl) .nil) (by decide) rfl rfl (.pure (pure_map fun _ => rfl) (.pure (pure_map fun _ => rfl) .nil)) ⟨.rfl, .rfl, trivial⟩)).trans (Wk.to (L := [(6, (.own 1 0 (List.length ([] : List Cell)))), (7, (i64 0))]) ⟨.rfl, .rfl, trivial⟩)) (And.intro rfl rfl)))
      · replace h0 := Sh.ite_f b21 h0
        have b24 : q20 = true := by simpa using b21
        refine AW.skip (hK18 _ ?_)
        refine AW.seq fun K25 hK25 => ?_
        refine AW.regionO (by rfl) ?_
        refine ao_q (v := (.own 1 1 (List.length q17))) go0 rfl (aq_mv rfl) ?_
        refine ao_q (v := (i64 q10)) go0 rfl (aq_mv rfl) ?_
        refine ao_q (v := (i64 (Sh.w (1000 + q10)))) go0 rfl (aq_add rfl rfl) ?_
        refine ao_q (v := (.own 1 1 (List.length q17))) go0 rfl (aq_as rfl) ?_
        refine ao_q (v := (i64 (Sh.w (1000 + q10)))) go0 rfl (aq_as rfl) ?_
        refine AO.done (hK25 _ ?_)
        replace h0 := Sh.some_eq h0
        subst r
        exact AW.ret (Exists.intro _ (And.intro ((Wk.rk (L := [(6, (.own 1 0 (List.length q17))), (7, (i64 (Sh.w (1000 + q10))))]) (st' := [⟨0, 41, 3, List.map eCell s0⟩, ⟨0, 41, 3, List.map eCell q17⟩]) (.pure rfl (pure_map fun _ => rfl) (.pure rfl (pure_map fun _ => rfl) .nil)) ⟨.rfl, .rfl, trivial⟩).trans (Wk.to (L := [(6, (.own 1 0 (List.length q17))), (7, (i64 (Sh.w (1000 + q10))))]) ⟨.rfl, .rfl, trivial⟩)) (And.intro rfl rfl)))
    refine AW.block (AW.loopF (σ := Int) (fun n v => spec_AllocCell_L1 s0 p2 n v = some o14) (fun i13 => ⟨41, envL [(0, (.own 0 0 (List.length s0))), (1, (i64 p1)), (2, (.sl (List.map eI p2))), (8, (i64 q10)), (9, (i64 i13))], [⟨0, 41, 3, List.map eCell s0⟩]⟩) N 0 h1 (Wk.to (L := [(0, (.own 0 0 (List.length s0))), (1, (i64 p1)), (2, (.sl (List.map eI p2))), (8, (i64 q10)), (9, (i64 0))]) ⟨.rfl, .rfl, .rfl, .rfl, .rfl, trivial⟩) (fun _ hv => by rw [spec_AllocCell_L1] at hv; cases hv) ?_)
    rintro n i13 h1
    try dsimp only at h1 ⊢
    rw [spec_AllocCell_L1] at h1
    refine AW.seq fun K26 hK26 => ?_
    refine AW.seq fun K27 hK27 => ?_
    refine AW.regionO (by rfl) ?_
    refine ao_q (v := (i64 i13)) go0 rfl (aq_mv rfl) ?_
    refine ao_q (v := (.sl (List.map eI p2))) go0 rfl (aq_mv rfl) ?_
    refine ao_q (v := (i64 (Sh.len p2))) go0 rfl (aq_lens sl32 rfl) ?_
    refine ao_q (v := (.bool (decide (i13 < (Sh.len p2))))) go0 rfl (aq_lt rfl rfl) ?_
    refine AO.done (hK27 _ ?_)
    refine AW.cond' (b := decide (i13 < (Sh.len p2))) rfl (fun b28 => ?_) (fun b28 => ?_)
    · replace h1 := Sh.ite_t b28 h1
      refine AW.skip (hK26 _ ?_)
      refine AW.seq fun K29 hK29 => ?_
      refine AW.block ?_
      refine AW.seq fun K30 hK30 => ?_
      refine AW.regionO (by rfl) ?_
      refine ao_q (v := (.own 0 0 (List.length s0))) go0 rfl (aq_mv rfl) ?_
      refine ao_q (v := (.sl (List.map eI p2))) go0 rfl (aq_mv rfl) ?_
      refine ao_q (v := (i64 i13)) go0 rfl (aq_mv rfl) ?_
      obtain ⟨c31, gc31, h1⟩ := Sh.bind_some h1
      refine ao_q (v := (.iptr (eI c31) 0)) go0 rfl (aq_ixs ei32 rfl rfl gc31 rfl) ?_
      refine ao_q (v := (i64 c31)) go0 rfl (aq_ldi ti3 rfl rfl) ?_
      obtain ⟨q32, gq32, h1⟩ := Sh.bind_some h1
      refine ao_callb (v' := (.bool q32)) (st' := [⟨0, 41, 3, List.map eCell s0⟩]) go0 hb75 (spec_isWord_ok gq32) rfl (.own rfl rfl (fun _ => rfl) (.val rfl .nil)) rfl trivial rfl rfl ?_
      refine ao_q (v := (.bool (!q32))) go0 rfl (aq_not rfl) ?_
      refine AO.done (hK30 _ ?_)
      refine AW.cond' (b := !q32) rfl (fun b33 => ?_) (fun b33 => ?_)
      · replace h1 := Sh.ite_t b33 h1
        have b34 : q32 = false := by simpa using b33
        refine AW.seq fun K35 hK35 => ?_
        refine AW.regionO (by rfl) ?_
        refine ao_q (v := .zc) go0 rfl (aq_as rfl) ?_
        refine ao_q (v := (i64 0)) go0 rfl (aq_as rfl) ?_
        refine AO.done (hK35 _ ?_)
        replace h1 := Sh.some_eq h1
        subst o14
        try dsimp only [id] at h0
        replace h0 := Sh.some_eq h0
        subst r
        exact AW.ret (Exists.intro _ (And.intro (((Wk.adopt (t := 6) rfl 41 (size := 3) (by decide)).trans (Wk.to (L := [(6, (.own 1 0 (List.length ([] : List Cell)))), (7, (i64 0))]) ⟨.rfl, .rfl, trivial⟩)).trans (Wk.to (L := [(6, (.own 1 0 (List.length ([] : List Cell)))), (7, (i64 0))]) ⟨.rfl, .rfl, trivial⟩)) (And.intro rfl rfl)))
      · replace h1 := Sh.ite_f b33 h1
        have b36 : q32 = true := by simpa using b33
        refine AW.skip (hK29 _ ?_)
        refine AW.regionO (by rfl) ?_
        refine ao_q (v := (i64 i13)) go0 rfl (aq_mv rfl) ?_
        refine ao_q (v := (i64 (Sh.w (i13 + 1)))) go0 rfl (aq_add rfl rfl) ?_
        refine ao_q (v := (i64 (Sh.w (i13 + 1)))) go0 rfl (aq_as rfl) ?_
        exact AO.done (Exists.intro (Sh.w (i13 + 1)) (And.intro h1 (Wk.to (L := [(0, (.own 0 0 (List.length s0))), (1, (i64 p1)), (2, (.sl (List.map eI p2))), (8, (i64 q10)), (9, (i64 (Sh.w (i13 + 1))))]) ⟨.rfl, .rfl, .rfl, .rfl, .rfl, trivial⟩)))
    · replace h1 := Sh.ite_f b28 h1
      exact AW.exit (M14 () (Sh.some_eq h1).symm _ (Wk.to (L := [(0, (.own 0 0 (List.length s0))), (1, (i64 p1)), (2, (.sl (List.map eI p2))), (8, (i64 q10))]) ⟨.rfl, .rfl, .rfl, .rfl, trivial⟩))

set_option maxRecDepth 100000 in
set_option maxHeartbeats 4000000 in
theorem spec_trim_ok {N : Nat} {s0 : (List Cell)} {r : (List Cell)} (h0 : spec_trim N s0 = some r) : ACalls Try.prog 100 [(.own 0 0 (List.length s0))] [⟨0, 41, 3, List.map eCell s0⟩] (fun v st => v = (.own 0 1 (List.length r)) ∧ st = [⟨1, 41, 3, List.map eCell r⟩]) := by
  unfold spec_trim at h0
  refine ACalls.intro Try.func100 rfl (by show 1 ≤ 22; decide) ?_
  show AW _ 1 _ (aret _ 1 Try.f100 _) ⟨22, _, _⟩
  refine AW.weaken (Wk.to (L := [(0, (.own 0 0 (List.length s0)))]) ⟨.rfl, trivial⟩) ?_
  refine AW.seq fun K1 hK1 => ?_
  refine AW.regionO (by rfl) ?_
  refine ao_q (v := .zc) go0 rfl (aq_as rfl) ?_
  refine AO.done (hK1 _ ?_)
  refine AW.seq fun K2 hK2 => ?_
  refine AW.regionO (by rfl) ?_
  refine ao_q (v := (.own 0 0 (List.length s0))) go0 rfl (aq_mv rfl) ?_
  refine ao_q (v := (i64 (Sh.len s0))) go0 rfl (aq_leno sl25 rfl rfl rfl) ?_
  refine ao_q (v := (i64 (Sh.len s0))) go0 rfl (aq_as rfl) ?_
  refine AO.done (hK2 _ ?_)
  refine AW.seq fun K3 hK3 => ?_
  obtain ⟨o6, h1, h0⟩ := Sh.bind_some h0
  have M6 : ∀ (n5 : Int), o6 = n5 → ∀ s, Wk 1 s ⟨22, envL [(0, (.own 0 0 (List.length s0))), (3, (i64 n5))], [⟨0, 41, 3, List.map eCell s0⟩]⟩ → K3 s := by
    intro n5 hq s hw
    subst o6
    try dsimp only at h0
    refine hK3 _ (AW.weaken hw ?_)
    refine AW.seq fun K7 hK7 => ?_
    refine AW.regionO (by rfl) ?_
    refine ao_q (v := (.own 0 0 (List.length s0))) go0 rfl (aq_mv rfl) ?_
    refine ao_q (v := (i64 n5)) go0 rfl (aq_mv rfl) ?_
    obtain ⟨l8, gl8, h0⟩ := Sh.bind_some h0
    refine ao_hio (st' := [⟨1, 41, 3, List.map eCell l8⟩]) go0 ei25 rfl rfl rfl rfl gl8 rfl ?_
    refine ao_q (v := (.own 0 1 (List.length l8))) go0 rfl (aq_as rfl) ?_
    refine AO.done (hK7 _ ?_)
    replace h0 := Sh.some_eq h0
    subst r
    exact AW.ret (Exists.intro _ (And.intro (Wk.to (L := [(2, (.own 0 1 (List.length l8)))]) ⟨.rfl, trivial⟩) (And.intro rfl rfl)))
  refine AW.block (AW.loopF (σ := Int) (fun n v => spec_trim_L1 s0 n v = some o6) (fun n4 => ⟨22, envL [(0, (.own 0 0 (List.length s0))), (3, (i64 n4))], [⟨0, 41, 3, List.map eCell s0⟩]⟩) N (Sh.len s0) h1 (Wk.to (L := [(0, (.own 0 0 (List.length s0))), (3, (i64 (Sh.len s0)))]) ⟨.rfl, .rfl, trivial⟩) (fun _ hv => by rw [spec_trim_L1] at hv; cases hv) ?_)
  rintro n n4 h1
  try dsimp only at h1 ⊢
  rw [spec_trim_L1] at h1
  refine AW.seq fun K9 hK9 => ?_
  refine AW.seq fun K10 hK10 => ?_
  obtain ⟨o12, h2, h1⟩ := Sh.bind_some h1
  have M12 : ∀ (t11 : Bool), o12 = t11 → ∀ s, Wk 1 s ⟨22, envL [(0, (.own 0 0 (List.length s0))), (3, (i64 n4)), (16, (.bool t11))], [⟨0, 41, 3, List.map eCell s0⟩]⟩ → K10 s := by
    intro t11 hq s hw
    subst o12
    try dsimp only at h1
    refine hK10 _ (AW.weaken hw ?_)
    refine AW.cond' (b := t11) rfl (fun b13 => ?_) (fun b13 => ?_)
    · replace h1 := Sh.ite_t b13 h1
      refine AW.skip (hK9 _ ?_)
      refine AW.block ?_
      refine AW.regionO (by rfl) ?_
      refine ao_q (v := (i64 n4)) go0 rfl (aq_mv rfl) ?_
      refine ao_q (v := (i64 (Sh.w (n4 - 1)))) go0 rfl (aq_sub rfl rfl) ?_
      refine ao_q (v := (i64 (Sh.w (n4 - 1)))) go0 rfl (aq_as rfl) ?_
      exact AO.done (Exists.intro (Sh.w (n4 - 1)) (And.intro h1 (Wk.to (L := [(0, (.own 0 0 (List.length s0))), (3, (i64 (Sh.w (n4 - 1))))]) ⟨.rfl, .rfl, trivial⟩)))
    · replace h1 := Sh.ite_f b13 h1
      exact AW.exit (M6 n4 (Sh.some_eq h1).symm _ (Wk.to (L := [(0, (.own 0 0 (List.length s0))), (3, (i64 n4))]) ⟨.rfl, .rfl, trivial⟩))
  refine AW.regionO (by rfl) ?_
  refine ao_q (v := (i64 n4)) go0 rfl (aq_mv rfl) ?_
  refine ao_q (v := (.bool (decide (0 < n4)))) go0 rfl (aq_gt rfl rfl) ?_
  refine ao_q (v := (.bool (decide (0 < n4)))) go0 rfl (aq_mv rfl) ?_
  rcases Sh.ite_some h2 with ⟨b14, h2⟩ | ⟨b14, h2⟩
  · skip
    refine ao_q (v := (.own 0 0 (List.length s0))) (go1 rfl rfl b14) rfl (aq_mv rfl) ?_
    refine ao_q (v := (i64 n4)) (go1 rfl rfl b14) rfl (aq_mv rfl) ?_
    refine ao_q (v := (i64 (Sh.w (n4 - 1)))) (go1 rfl rfl b14) rfl (aq_sub rfl rfl) ?_
    obtain ⟨c15, gc15, h2⟩ := Sh.bind_some h2
    refine ao_q (v := (.ptr 0 0 (Int.toNat (Sh.w (n4 - 1))) 0)) (go1 rfl rfl b14) rfl (aq_ixo ei25 rfl rfl rfl rfl gc15) ?_
    refine ao_q (v := (.ptr 0 0 (Int.toNat (Sh.w (n4 - 1))) 0)) (go1 rfl rfl b14) rfl (aq_fap fi41_0 rfl rfl (show 0 + 0 ≤ 3 by decide) rfl) ?_
    refine ao_q (v := (i64 c15.count)) (go1 rfl rfl b14) rfl (aq_ldp ti3 rfl rfl (map_get gc15) rfl) ?_
    refine ao_q (v := (.bool (decide (c15.count = 0)))) (go1 rfl rfl b14) rfl (aq_eq rfl rfl) ?_
    refine ao_q (v := (.bool (decide (c15.count = 0)))) go0 rfl (aq_pkt rfl b14 rfl) ?_
    exact AO.done (M12 (decide (c15.count = 0)) (Sh.some_eq h2).symm _ (Wk.to (L := [(0, (.own 0 0 (List.length s0))), (3, (i64 n4)), (16, (.bool (decide (c15.count = 0))))]) ⟨.rfl, .rfl, .rfl, trivial⟩))
  · skip
    refine ao_skip rfl rfl b14 ?_
    refine ao_skip rfl rfl b14 ?_
    refine ao_skip rfl rfl b14 ?_
    refine ao_skip rfl rfl b14 ?_
    refine ao_skip rfl rfl b14 ?_
    refine ao_skip rfl rfl b14 ?_
    refine ao_skip rfl rfl b14 ?_
    refine ao_q (v := (.bool false)) go0 rfl (aq_pkf rfl b14 rfl) ?_
    exact AO.done (M12 false (Sh.some_eq h2).symm _ (Wk.to (L := [(0, (.own 0 0 (List.length s0))), (3, (i64 n4)), (16, (.bool false))]) ⟨.rfl, .rfl, .rfl, trivial⟩))

set_option maxRecDepth 100000 in
set_option maxHeartbeats 4000000 in
theorem spec_dropWords_ok {N : Nat} {s0 : (List Cell)} {p1 : (List Int)} {r : (List Cell)} (h0 : spec_dropWords N s0 p1 = some r) : ACalls Try.prog 85 [(.own 0 0 (List.length s0)), (.sl (List.map eI p1))] [⟨0, 41, 3, List.map eCell s0⟩] (fun v st => v = (.own 0 1 (List.length r)) ∧ st = [⟨1, 41, 3, List.map eCell r⟩]) := by
  unfold spec_dropWords at h0
  refine ACalls.intro Try.func85 rfl (by show 2 ≤ 58; decide) ?_
  show AW _ 1 _ (aret _ 1 Try.f85 _) ⟨58, _, _⟩
  refine AW.weaken (Wk.to (L := [(0, (.own 0 0 (List.length s0))), (1, (.sl (List.map eI p1)))]) ⟨.rfl, .rfl, trivial⟩) ?_
  refine AW.seq fun K1 hK1 => ?_
  refine AW.regionO (by rfl) ?_
  refine ao_q (v := .zc) go0 rfl (aq_as rfl) ?_
  refine AO.done (hK1 _ ?_)
  refine AW.seq fun K2 hK2 => ?_
  refine AW.regionO (by rfl) ?_
  refine ao_q (v := (.sl (List.map eI p1))) go0 rfl (aq_mv rfl) ?_
  obtain ⟨q3, gq3, h0⟩ := Sh.bind_some h0
  refine ao_call (v' := (.own 1 0 (List.length q3))) (st' := [⟨0, 41, 3, List.map eCell s0⟩, ⟨0, 3, 1, List.map eI q3⟩]) go0 hb93 (spec_copyInts_ok gq3) rfl rfl ⟨pure_map fun _ => rfl, trivial⟩ rfl rfl ?_
  refine ao_q (v := (.own 1 0 (List.length q3))) go0 rfl (aq_as rfl) ?_
  refine AO.done (hK2 _ ?_)
  refine AW.seq fun K4 hK4 => ?_
  obtain ⟨o8, h1, h0⟩ := Sh.bind_some h0
  have M8 : ∀ (l7 : (List Cell)), o8 = l7 → ∀ s, Wk 1 s ⟨58, envL [(0, (.own 0 0 (List.length l7)))], [⟨0, 41, 3, List.map eCell l7⟩]⟩ → K4 s := by
    intro l7 hq s hw
    subst o8
    try dsimp only at h0
    refine hK4 _ (AW.weaken hw ?_)
    refine AW.seq fun K9 hK9 => ?_
    refine AW.regionO (by rfl) ?_
    refine ao_q (v := (.own 0 0 (List.length l7))) go0 rfl (aq_mv rfl) ?_
    obtain ⟨q10, gq10, h0⟩ := Sh.bind_some h0
    refine ao_calls (rowsP := [⟨0, 41, 3, List.map eCell l7⟩]) (rows0 := [⟨0, 41, 3, List.map eCell l7⟩]) (rows1 := [⟨1, 41, 3, List.map eCell q10⟩]) (rows2 := []) (rows1' := [⟨1, 41, 3, List.map eCell q10⟩]) (rows2' := []) (st' := [⟨1, 41, 3, List.map eCell q10⟩]) (v' := (.own 0 1 (List.length q10))) [0] go0 hb100 (spec_trim_ok gq10) rfl (by decide) rfl rfl (.pure (pure_map fun _ => rfl) .nil) rfl rfl (.pure (pure_map fun _ => rfl) .nil) .nil rfl rfl ?_
    refine ao_q (v := (.own 0 1 (List.length q10))) go0 rfl (aq_as rfl) ?_
    refine AO.done (hK9 _ ?_)
    replace h0 := Sh.some_eq h0
    subst r
    exact AW.ret (Exists.intro _ (And.intro (Wk.to (L := [(4, (.own 0 1 (List.length q10)))]) ⟨.rfl, trivial⟩) (And.intro rfl rfl)))
  refine AW.block (AW.loopF (σ := (List Cell) × (List Int)) (fun n v => spec_dropWords_L1  n v.1 v.2 = some o8) (fun (l5, l6) => ⟨58, envL [(0, (.own 0 0 (List.length l5))), (5, (.own 1 0 (List.length l6)))], [⟨0, 41, 3, List.map eCell l5⟩, ⟨0, 3, 1, List.map eI l6⟩]⟩) N (s0, q3) h1 (Wk.to (L := [(0, (.own 0 0 (List.length s0))), (5, (.own 1 0 (List.length q3)))]) ⟨.rfl, .rfl, trivial⟩) (fun _ hv => by rw [spec_dropWords_L1] at hv; cases hv) ?_)
  rintro n ⟨l5, l6⟩ h1
  try dsimp only at h1 ⊢
  rw [spec_dropWords_L1] at h1
  refine AW.seq fun K11 hK11 => ?_
  refine AW.seq fun K12 hK12 => ?_
  refine AW.regionO (by rfl) ?_
  refine ao_q (v := (.own 1 0 (List.length l6))) go0 rfl (aq_mv rfl) ?_
  refine ao_q (v := (i64 (Sh.len l6))) go0 rfl (aq_leno sl32 rfl rfl rfl) ?_
  refine ao_q (v := (.bool (decide (0 < (Sh.len l6))))) go0 rfl (aq_gt rfl rfl) ?_
  refine AO.done (hK12 _ ?_)
  refine AW.cond' (b := decide (0 < (Sh.len l6))) rfl (fun b13 => ?_) (fun b13 => ?_)
  · replace h1 := Sh.ite_t b13 h1
    refine AW.skip (hK11 _ ?_)
    refine AW.block ?_
    refine AW.seq fun K14 hK14 => ?_
    refine AW.regionO (by rfl) ?_
    refine ao_q (v := (.own 1 0 (List.length l6))) go0 rfl (aq_mv rfl) ?_
    refine ao_q (v := (.own 1 0 (List.length l6))) go0 rfl (aq_mv rfl) ?_
    refine ao_q (v := (i64 (Sh.len l6))) go0 rfl (aq_leno sl32 rfl rfl rfl) ?_
    refine ao_q (v := (i64 (Sh.w ((Sh.len l6) - 1)))) go0 rfl (aq_sub rfl rfl) ?_
    obtain ⟨c15, gc15, h1⟩ := Sh.bind_some h1
    refine ao_q (v := (.ptr 1 0 (Int.toNat (Sh.w ((Sh.len l6) - 1))) 0)) go0 rfl (aq_ixo ei32 rfl rfl rfl rfl gc15) ?_
    refine ao_q (v := (i64 c15)) go0 rfl (aq_ldp ti3 rfl rfl (map_get gc15) rfl) ?_
    refine ao_q (v := (i64 c15)) go0 rfl (aq_as rfl) ?_
    refine AO.done (hK14 _ ?_)
    refine AW.seq fun K16 hK16 => ?_
    refine AW.regionO (by rfl) ?_
    refine ao_q (v := (.own 1 0 (List.length l6))) go0 rfl (aq_mv rfl) ?_
    refine ao_q (v := (.own 1 0 (List.length l6))) go0 rfl (aq_mv rfl) ?_
    refine ao_q (v := (i64 (Sh.len l6))) go0 rfl (aq_leno sl32 rfl rfl rfl) ?_
    refine ao_q (v := (i64 (Sh.w ((Sh.len l6) - 1)))) go0 rfl (aq_sub rfl rfl) ?_
    obtain ⟨l17, gl17, h1⟩ := Sh.bind_some h1
    refine ao_hio (st' := [⟨0, 41, 3, List.map eCell l5⟩, ⟨1, 3, 1, List.map eI l17⟩]) go0 ei32 rfl rfl rfl rfl gl17 rfl ?_
    refine ao_q (v := (.own 1 1 (List.length l17))) go0 rfl (aq_as rfl) ?_
    refine AO.done (hK16 _ ?_)
    refine AW.seq fun K18 hK18 => ?_
    refine AW.regionO (by rfl) ?_
    refine ao_q (v := (i64 c15)) go0 rfl (aq_mv rfl) ?_
    obtain ⟨q19, gq19, h1⟩ := Sh.bind_some h1
    refine ao_call (v' := (.bool q19)) (st' := [⟨0, 41, 3, List.map eCell l5⟩, ⟨1, 3, 1, List.map eI l17⟩]) go0 hb77 (spec_isPointer_ok gq19) rfl rfl trivial rfl rfl ?_
    refine AO.done (hK18 _ ?_)
    refine AW.cond' (b := q19) rfl (fun b20 => ?_) (fun b20 => ?_)
    · replace h1 := Sh.ite_t b20 h1
      refine AW.seq fun K21 hK21 => ?_
      refine AW.regionO (by rfl) ?_
      refine ao_q (v := (i64 c15)) go0 rfl (aq_mv rfl) ?_
      refine ao_q (v := (i64 (Sh.w (c15 - 1000)))) go0 rfl (aq_sub rfl rfl) ?_
      refine ao_q (v := (i64 (Sh.w (c15 - 1000)))) go0 rfl (aq_as rfl) ?_
      refine AO.done (hK21 _ ?_)
      refine AW.seq fun K22 hK22 => ?_
      refine AW.regionO (by rfl) ?_
      refine ao_q (v := (.own 0 0 (List.length l5))) go0 rfl (aq_mv rfl) ?_
      refine ao_q (v := (i64 (Sh.w (c15 - 1000)))) go0 rfl (aq_mv rfl) ?_
      refine ao_q (v := (.own 0 0 (List.length l5))) go0 rfl (aq_mv rfl) ?_
      refine ao_q (v := (i64 (Sh.w (c15 - 1000)))) go0 rfl (aq_mv rfl) ?_
      obtain ⟨c23, gc23, h1⟩ := Sh.bind_some h1
      refine ao_q (v := (.ptr 0 0 (Int.toNat (Sh.w (c15 - 1000))) 0)) go0 rfl (aq_ixo ei25 rfl rfl rfl rfl gc23) ?_
      refine ao_q (v := (.ptr 0 0 (Int.toNat (Sh.w (c15 - 1000))) 0)) go0 rfl (aq_fap fi41_0 rfl rfl (show 0 + 0 ≤ 3 by decide) rfl) ?_
      refine ao_q (v := (i64 c23.count)) go0 rfl (aq_ldp ti3 rfl rfl (map_get gc23) rfl) ?_
      refine ao_q (v := (i64 (Sh.w (c23.count - 1)))) go0 rfl (aq_sub rfl rfl) ?_
      refine ao_q (v := (.ptr 0 0 (Int.toNat (Sh.w (c15 - 1000))) 0)) go0 rfl (aq_ixo ei25 rfl rfl rfl rfl gc23) ?_
      refine ao_q (v := (.ptr 0 0 (Int.toNat (Sh.w (c15 - 1000))) 0)) go0 rfl (aq_fap fi41_0 rfl rfl (show 0 + 0 ≤ 3 by decide) rfl) ?_
      refine ao_stl (st' := [⟨0, 41, 3, List.map eCell (Sh.put l5 (Sh.w (c15 - 1000)) (Cell.mk (Sh.w (c23.count - 1)) c23.tag c23.fields))⟩, ⟨1, 3, 1, List.map eI l17⟩]) (u' := (Cell.mk (Sh.w (c23.count - 1)) c23.tag c23.fields)) go0 ti3 rfl rfl gc23 rfl rfl rfl (show 0 + 1 ≤ 3 by decide) rfl rfl ?_
      refine AO.done (hK22 _ ?_)
      refine AW.seq fun K24 hK24 => ?_
      refine AW.regionO (by rfl) ?_
      refine ao_q (v := (.own 0 0 (List.length l5))) go0 rfl (aq_mv rfl) ?_
      refine ao_q (v := (i64 (Sh.w (c15 - 1000)))) go0 rfl (aq_mv rfl) ?_
      obtain ⟨c25, gc25, h1⟩ := Sh.bind_some h1
      refine ao_q (v := (.ptr 0 0 (Int.toNat (Sh.w (c15 - 1000))) 0)) go0 rfl (aq_ixo ei25 rfl rfl rfl (by simp only [Sh.put_len]) gc25) ?_
      refine ao_q (v := (.ptr 0 0 (Int.toNat (Sh.w (c15 - 1000))) 0)) go0 rfl (aq_fap fi41_0 rfl rfl (show 0 + 0 ≤ 3 by decide) rfl) ?_
      refine ao_q (v := (i64 c25.count)) go0 rfl (aq_ldp ti3 rfl rfl (map_get gc25) rfl) ?_
      refine ao_q (v := (.bool (decide (c25.count = 0)))) go0 rfl (aq_eq rfl rfl) ?_
      refine AO.done (hK24 _ ?_)
      refine AW.cond' (b := decide (c25.count = 0)) rfl (fun b26 => ?_) (fun b26 => ?_)
      · replace h1 := Sh.ite_t b26 h1
        refine AW.seq fun K27 hK27 => ?_
        refine AW.regionO (by rfl) ?_
        refine ao_q (v := (.own 1 1 (List.length l17))) go0 rfl (aq_mv rfl) ?_
        refine ao_q (v := (.own 0 0 (List.length l5))) go0 rfl (aq_mv rfl) ?_
        refine ao_q (v := (i64 (Sh.w (c15 - 1000)))) go0 rfl (aq_mv rfl) ?_
        refine ao_q (v := (.ptr 0 0 (Int.toNat (Sh.w (c15 - 1000))) 0)) go0 rfl (aq_ixo ei25 rfl rfl rfl (by simp only [Sh.put_len]) gc25) ?_
        refine ao_q (v := (.ptr 0 0 (Int.toNat (Sh.w (c15 - 1000))) 2)) go0 rfl (aq_fap fi41_2 rfl rfl (show 0 + 2 ≤ 3 by decide) rfl) ?_
        refine ao_q (v := (.sl (List.map eI c25.fields))) go0 rfl (aq_ldp ti32 rfl rfl (map_get gc25) rfl) ?_
        obtain ⟨l28, gl28, h1⟩ := Sh.bind_some h1
        refine ao_apo (st' := [⟨0, 41, 3, List.map eCell (Sh.put l5 (Sh.w (c15 - 1000)) (Cell.mk (Sh.w (c23.count - 1)) c23.tag c23.fields))⟩, ⟨2, 3, 1, List.map eI l28⟩]) (l2 := c25.fields) go0 ei32 rfl rfl rfl rfl el_s (fun _ => rfl) gl28 rfl ?_
        refine ao_q (v := (.own 1 2 (List.length l28))) go0 rfl (aq_as rfl) ?_
        refine AO.done (hK27 _ ?_)
        refine AW.regionO (by rfl) ?_
        refine ao_q (v := (.own 0 0 (List.length l5))) go0 rfl (aq_mv rfl) ?_
        refine ao_q (v := (i64 (Sh.w (c15 - 1000)))) go0 rfl (aq_mv rfl) ?_
        refine ao_bs (m := 2) (st' := [⟨0, 41, 3, List.map eCell (Sh.put l5 (Sh.w (c15 - 1000)) (Cell.mk (Sh.w (c23.count - 1)) c23.tag c23.fields))⟩, ⟨2, 3, 1, List.map eI l28⟩, ⟨0, 3, 1, List.map eI ([] : List Int)⟩]) (l := ([] : List Int)) (enc := eI) go0 ei32 (by decide) rfl rfl rfl rfl rfl rfl ?_
        refine ao_q (v := (.agg [(i64 0), (i64 0), (.own 2 0 (List.length ([] : List Int)))])) go0 rfl (aq_bd ai41 bi41 zi41 rfl rfl) ?_
        refine ao_q (v := (.ptr 0 0 (Int.toNat (Sh.w (c15 - 1000))) 0)) go0 rfl (aq_ixo ei25 rfl rfl rfl (by simp only [Sh.put_len]) gc25) ?_
        refine AO.weaken (Wk.frz (L := [(0, (.own 0 0 (List.length l5))), (5, (.own 1 2 (List.length l28))), (54, (.agg [(i64 0), (i64 0), (.sl (List.map eI []))])), (55, (.ptr 0 0 (Int.toNat (Sh.w (c15 - 1000))) 0))]) (st' := [⟨0, 41, 3, List.map eCell (Sh.put l5 (Sh.w (c15 - 1000)) (Cell.mk (Sh.w (c23.count - 1)) c23.tag c23.fields))⟩, ⟨2, 3, 1, List.map eI l28⟩, ⟨1, 3, 1, []⟩]) (id := 2) rfl (show 1 ≤ 2 by decide) (pure_map fun _ => rfl) ⟨.rfl, .rfl, (.agg ⟨.rfl, .rfl, (.frz1 rfl), trivial⟩), .rfl, trivial⟩ rfl) ?_
        refine ao_stl (st' := [⟨0, 41, 3, List.map eCell (Sh.put (Sh.put l5 (Sh.w (c15 - 1000)) (Cell.mk (Sh.w (c23.count - 1)) c23.tag c23.fields)) (Sh.w (c15 - 1000)) (Cell.mk 0 0 []))⟩, ⟨2, 3, 1, List.map eI l28⟩, ⟨1, 3, 1, []⟩]) (u' := (Cell.mk 0 0 [])) go0 ti41 rfl rfl gc25 rfl rfl rfl (show 0 + 3 ≤ 3 by decide) rfl rfl ?_
        exact AO.done (Exists.intro (Sh.put (Sh.put l5 (Sh.w (c15 - 1000)) (Cell.mk (Sh.w (c23.count - 1)) c23.tag c23.fields)) (Sh.w (c15 - 1000)) (Cell.mk 0 0 []), l28) (And.intro h1 (by refine Wk.trans (Wk.rk (L := [(0, (.own 0 0 (List.length l5))), (5, (.own 1 0 (List.length l28)))]) (st' := [⟨0, 41, 3, List.map eCell (Sh.put (Sh.put l5 (Sh.w (c15 - 1000)) (Cell.mk (Sh.w (c23.count - 1)) c23.tag c23.fields)) (Sh.w (c15 - 1000)) (Cell.mk 0 0 []))⟩, ⟨0, 3, 1, List.map eI l28⟩, ⟨0, 3, 1, []⟩]) (.pure rfl (pure_map fun _ => rfl) (.pure rfl (pure_map fun _ => rfl) (.pure rfl (by intro x hx; cases hx) .nil))) ⟨.rfl, .rfl, trivial⟩) ?_; refine Wk.trans (Wk.permk (L := [(0, (.own 0 0 (List.length l5))), (5, (.own 1 0 (List.length l28)))]) (st' := [⟨0, 41, 3, List.map eCell (Sh.put (Sh.put l5 (Sh.w (c15 - 1000)) (Cell.mk (Sh.w (c23.count - 1)) c23.tag c23.fields)) (Sh.w (c15 - 1000)) (Cell.mk 0 0 []))⟩, ⟨0, 3, 1, List.map eI l28⟩]) (st1 := [⟨0, 41, 3, List.map eCell (Sh.put (Sh.put l5 (Sh.w (c15 - 1000)) (Cell.mk (Sh.w (c23.count - 1)) c23.tag c23.fields)) (Sh.w (c15 - 1000)) (Cell.mk 0 0 []))⟩, ⟨0, 3, 1, List.map eI l28⟩]) [0, 1] rfl (.pure (pure_map fun _ => rfl) .nil) (by decide) rfl rfl (.pure (pure_map fun _ => rfl) (.pure (pure_map fun _ => rfl) .nil)) ⟨.rfl, .rfl, trivial⟩) ?_; exact Wk.to (L := [(0, (.own 0 0 (List.length (Sh.put (Sh.put l5 (Sh.w (c15 - 1000)) (Cell.mk (Sh.w (c23.count - 1)) c23.tag c23.fields)) (Sh.w (c15 - 1000)) (Cell.mk 0 0 []))))), (5, (.own 1 0 (List.length l28)))]) ⟨(.len (by simp only [Sh.put_len])), .rfl, trivial⟩)))
      · replace h1 := Sh.ite_f b26 h1
        exact AW.skip (Exists.intro (Sh.put l5 (Sh.w (c15 - 1000)) (Cell.mk (Sh.w (c23.count - 1)) c23.tag c23.fields), l17) (And.intro h1 (by refine Wk.trans (Wk.rk (L := [(0, (.own 0 0 (List.length l5))), (5, (.own 1 0 (List.length l17)))]) (st' := [⟨0, 41, 3, List.map eCell (Sh.put l5 (Sh.w (c15 - 1000)) (Cell.mk (Sh.w (c23.count - 1)) c23.tag c23.fields))⟩, ⟨0, 3, 1, List.map eI l17⟩]) (.pure rfl (pure_map fun _ => rfl) (.pure rfl (pure_map fun _ => rfl) .nil)) ⟨.rfl, .rfl, trivial⟩) ?_; exact Wk.to (L := [(0, (.own 0 0 (List.length (Sh.put l5 (Sh.w (c15 - 1000)) (Cell.mk (Sh.w (c23.count - 1)) c23.tag c23.fields))))), (5, (.own 1 0 (List.length l17)))]) ⟨(.len (by simp only [Sh.put_len])), .rfl, trivial⟩)))
    · replace h1 := Sh.ite_f b20 h1
      exact AW.skip (Exists.intro (l5, l17) (And.intro h1 (by refine Wk.trans (Wk.rk (L := [(0, (.own 0 0 (List.length l5))), (5, (.own 1 0 (List.length l17)))]) (st' := [⟨0, 41, 3, List.map eCell l5⟩, ⟨0, 3, 1, List.map eI l17⟩]) (.pure rfl (pure_map fun _ => rfl) (.pure rfl (pure_map fun _ => rfl) .nil)) ⟨.rfl, .rfl, trivial⟩) ?_; exact Wk.to (L := [(0, (.own 0 0 (List.length l5))), (5, (.own 1 0 (List.length l17)))]) ⟨.rfl, .rfl, trivial⟩)))
  · replace h1 := Sh.ite_f b13 h1
    exact AW.exit (M8 l5 (Sh.some_eq h1).symm _ (by refine Wk.trans (Wk.permk (L := [(0, (.own 0 0 (List.length l5)))]) (st' := [⟨0, 41, 3, List.map eCell l5⟩]) (st1 := [⟨0, 41, 3, List.map eCell l5⟩]) [0] rfl (.pure (pure_map fun _ => rfl) .nil) (by decide) rfl rfl (.pure (pure_map fun _ => rfl) .nil) ⟨.rfl, trivial⟩) ?_; exact Wk.to (L := [(0, (.own 0 0 (List.length l5)))]) ⟨.rfl, trivial⟩))

set_option maxRecDepth 100000 in
set_option maxHeartbeats 4000000 in
theorem spec_DropWord_ok {N : Nat} {s0 : (List Cell)} {p1 : Int} {r : (List Cell) × Bool} (h0 : spec_DropWord N s0 p1 = some r) : ACalls Try.prog 45 [(.own 0 0 (List.length s0)), (i64 p1)] [⟨0, 41, 3, List.map eCell s0⟩] (fun v st => v = (.tup [(.own 1 0 (List.length r.1)), (.bool r.2)]) ∧ st = [⟨0, 41, 3, List.map eCell s0⟩, ⟨0, 41, 3, List.map eCell r.1⟩]) := by
  unfold spec_DropWord at h0
  refine ACalls.intro Try.func45 rfl (by show 2 ≤ 37; decide) ?_
  show AW _ 1 _ (aret _ 1 Try.f45 _) ⟨37, _, _⟩
  refine AW.weaken (Wk.to (L := [(0, (.own 0 0 (List.length s0))), (1, (i64 p1))]) ⟨.rfl, .rfl, trivial⟩) ?_
  refine AW.seq fun K1 hK1 => ?_
  refine AW.regionO (by rfl) ?_
  refine ao_q (v := .zc) go0 rfl (aq_as rfl) ?_
  refine ao_q (v := (.bool false)) go0 rfl (aq_as rfl) ?_
  refine AO.done (hK1 _ ?_)
  refine AW.seq fun K2 hK2 => ?_
  refine AW.seq fun K3 hK3 => ?_
  obtain ⟨o5, h1, h0⟩ := Sh.bind_some h0
  have M5 : ∀ (t4 : Bool), o5 = t4 → ∀ s, Wk 1 s ⟨37, envL [(0, (.own 0 0 (List.length s0))), (1, (i64 p1)), (14, (.bool t4))], [⟨0, 41, 3, List.map eCell s0⟩]⟩ → K3 s := by
    intro t4 hq s hw
    subst o5
    try dsimp only at h0
    refine hK3 _ (AW.weaken hw ?_)
    refine AW.cond' (b := t4) rfl (fun b6 => ?_) (fun b6 => ?_)
    · replace h0 := Sh.ite_t b6 h0
      refine AW.seq fun K7 hK7 => ?_
      refine AW.regionO (by rfl) ?_
      refine ao_q (v := .zc) go0 rfl (aq_as rfl) ?_
      refine ao_q (v := (.bool false)) go0 rfl (aq_as rfl) ?_
      refine AO.done (hK7 _ ?_)
      replace h0 := Sh.some_eq h0
      subst r
      exact AW.ret (Exists.intro _ (And.intro (((Wk.adopt (t := 4) rfl 41 (size := 3) (by decide)).trans (Wk.to (L := [(4, (.own 1 0 (List.length ([] : List Cell)))), (5, (.bool false))]) ⟨.rfl, .rfl, trivial⟩)).trans (Wk.to (L := [(4, (.own 1 0 (List.length ([] : List Cell)))), (5, (.bool false))]) ⟨.rfl, .rfl, trivial⟩)) (And.intro rfl rfl)))
    · replace h0 := Sh.ite_f b6 h0
      refine AW.skip (hK2 _ ?_)
      refine AW.seq fun K8 hK8 => ?_
      refine AW.seq fun K9 hK9 => ?_
      obtain ⟨o11, h1, h0⟩ := Sh.bind_some h0
      have M11 : ∀ (t10 : Bool), o11 = t10 → ∀ s, Wk 1 s ⟨37, envL [(0, (.own 0 0 (List.length s0))), (1, (i64 p1)), (31, (.bool t10))], [⟨0, 41, 3, List.map eCell s0⟩]⟩ → K9 s := by
        intro t10 hq s hw
        subst o11
        try dsimp only at h0
        refine hK9 _ (AW.weaken hw ?_)
        refine AW.cond' (b := t10) rfl (fun b12 => ?_) (fun b12 => ?_)
        · replace h0 := Sh.ite_t b12 h0
          refine AW.seq fun K13 hK13 => ?_
          refine AW.regionO (by rfl) ?_
          refine ao_q (v := .zc) go0 rfl (aq_as rfl) ?_
          refine ao_q (v := (.bool false)) go0 rfl (aq_as rfl) ?_
          refine AO.done (hK13 _ ?_)
          replace h0 := Sh.some_eq h0
          subst r
          exact AW.ret (Exists.intro _ (And.intro (((Wk.adopt (t := 4) rfl 41 (size := 3) (by decide)).trans (Wk.to (L := [(4, (.own 1 0 (List.length ([] : List Cell)))), (5, (.bool false))]) ⟨.rfl, .rfl, trivial⟩)).trans (Wk.to (L := [(4, (.own 1 0 (List.length ([] : List Cell)))), (5, (.bool false))]) ⟨.rfl, .rfl, trivial⟩)) (And.intro rfl rfl)))
        · replace h0 := Sh.ite_f b12 h0
          refine AW.skip (hK8 _ ?_)
          refine AW.seq fun K14 hK14 => ?_
          refine AW.regionO (by rfl) ?_
          refine ao_q (v := (.own 0 0 (List.length s0))) go0 rfl (aq_mv rfl) ?_
          obtain ⟨q15, gq15, h0⟩ := Sh.bind_some h0
          refine ao_calls (rowsP := [⟨0, 41, 3, List.map eCell s0⟩]) (rows0 := [⟨0, 41, 3, List.map eCell s0⟩]) (rows1 := [⟨0, 41, 3, List.map eCell s0⟩]) (rows2 := [⟨0, 41, 3, List.map eCell q15⟩]) (rows1' := [⟨0, 41, 3, List.map eCell s0⟩]) (rows2' := [⟨0, 41, 3, List.map eCell q15⟩]) (st' := [⟨0, 41, 3, List.map eCell s0⟩, ⟨0, 41, 3, List.map eCell q15⟩]) (v' := (.own 1 0 (List.length q15))) [0] go0 hb76 (spec_copyHeap_ok gq15) rfl (by decide) rfl rfl (.pure (pure_map fun _ => rfl) .nil) rfl rfl (.pure (pure_map fun _ => rfl) .nil) (.pure (pure_map fun _ => rfl) .nil) rfl rfl ?_
          refine ao_q (v := (i64 p1)) go0 rfl (aq_mv rfl) ?_
          refine ao_bs (m := 2) (st' := [⟨0, 41, 3, List.map eCell s0⟩, ⟨0, 41, 3, List.map eCell q15⟩, ⟨0, 3, 1, List.map eI [p1]⟩]) (l := [p1]) (enc := eI) go0 ei32 (by decide) rfl rfl rfl rfl rfl rfl ?_
          refine AO.weaken (Wk.frz (L := [(33, (.own 1 0 (List.length q15))), (35, (.sl (List.map eI [p1])))]) (st' := [⟨0, 41, 3, List.map eCell s0⟩, ⟨0, 41, 3, List.map eCell q15⟩, ⟨1, 3, 1, []⟩]) (id := 2) rfl (show 1 ≤ 2 by decide) (pure_map fun _ => rfl) ⟨.rfl, (.frz rfl), trivial⟩ rfl) ?_
          obtain ⟨q16, gq16, h0⟩ := Sh.bind_some h0
          refine ao_calls (rowsP := [⟨0, 41, 3, List.map eCell q15⟩]) (rows0 := [⟨0, 41, 3, List.map eCell q15⟩]) (rows1 := [⟨1, 41, 3, List.map eCell q16⟩]) (rows2 := []) (rows1' := [⟨1, 41, 3, List.map eCell q16⟩]) (rows2' := []) (st' := [⟨0, 41, 3, List.map eCell s0⟩, ⟨1, 41, 3, List.map eCell q16⟩, ⟨1, 3, 1, []⟩]) (v' := (.own 1 1 (List.length q16))) [1] go0 hb85 (spec_dropWords_ok gq16) rfl (by decide) rfl rfl (.pure (pure_map fun _ => rfl) .nil) rfl rfl (.pure (pure_map fun _ => rfl) .nil) .nil rfl rfl ?_
          refine ao_q (v := (.own 1 1 (List.length q16))) go0 rfl (aq_as rfl) ?_
          refine ao_q (v := (.bool true)) go0 rfl (aq_as rfl) ?_
          refine AO.done (hK14 _ ?_)
          replace h0 := Sh.some_eq h0
          subst r
          exact AW.ret (Exists.intro _ (And.intro (((Wk.rk (L := [(4, (.own 1 0 (List.length q16))), (5, (.bool true))]) (st' := [⟨0, 41, 3, List.map eCell s0⟩, ⟨0, 41, 3, List.map eCell q16⟩, ⟨0, 3, 1, []⟩]) (.pure rfl (pure_map fun _ => rfl) (.pure rfl (pure_map fun _ => rfl) (.pure rfl (by intro x hx; cases hx) .nil))) ⟨.rfl, .rfl, trivial⟩).trans (Wk.permk (L := [(4, (.own 1 0 (List.length q16))), (5, (.bool true))]) (st' := [⟨0, 41, 3, List.map eCell s0⟩, ⟨0, 41, 3, List.map eCell q16⟩]) (st1 := [⟨0, 41, 3, List.map eCell s0⟩, ⟨0, 41, 3, List.map eCell q16⟩]) [0, 1] rfl (.pure (pure_map fun _ => rfl) .nil) (by decide) rfl rfl (.pure (pure_map fun _ => rfl) (.pure (pure_map fun _ => rfl) .nil)) ⟨.rfl, .rfl, trivial⟩)).trans (Wk.to (L := [(4, (.own 1 0 (List.length q16))), (5, (.bool true))]) ⟨.rfl, .rfl, trivial⟩)) (And.intro rfl rfl)))
      refine AW.drawTailO 16 (by kernel_rfl) (by kernel_rfl) (by rfl) ?_
      refine d_q (v := (i64 p1)) go0 rfl (aq_mv rfl) ?_
      obtain ⟨q17, gq17, h1⟩ := Sh.bind_some h1
      refine d_call (v := (.bool q17)) go0 hb77 (spec_isPointer_ok gq17) rfl rfl rfl ?_
      refine d_q (v := (.bool q17)) go0 rfl (aq_mv rfl) ?_
      rcases Sh.ite_some h1 with ⟨b18, h1⟩ | ⟨b18, h1⟩
      · skip
        refine d_q (v := (.own 0 0 (List.length s0))) (go1 rfl rfl b18) rfl (aq_mv rfl) ?_
        refine d_q (v := (i64 p1)) (go1 rfl rfl b18) rfl (aq_mv rfl) ?_
        refine d_q (v := (i64 (Sh.w (p1 - 1000)))) (go1 rfl rfl b18) rfl (aq_sub rfl rfl) ?_
        obtain ⟨c19, gc19, h1⟩ := Sh.bind_some h1
        refine d_q (v := (.ptr 0 0 (Int.toNat (Sh.w (p1 - 1000))) 0)) (go1 rfl rfl b18) rfl (aq_ixo ei25 rfl rfl rfl rfl gc19) ?_
        refine d_q (v := (.ptr 0 0 (Int.toNat (Sh.w (p1 - 1000))) 0)) (go1 rfl rfl b18) rfl (aq_fap fi41_0 rfl rfl (show 0 + 0 ≤ 3 by decide) rfl) ?_
        refine d_q (v := (i64 c19.count)) (go1 rfl rfl b18) rfl (aq_ldp ti3 rfl rfl (map_get gc19) rfl) ?_
        refine d_q (v := (.own 0 0 (List.length s0))) (go1 rfl rfl b18) rfl (aq_mv rfl) ?_
        obtain ⟨q20, gq20, h1⟩ := Sh.bind_some h1
        refine d_callbz (v := (.sl (List.map eI q20))) (go1 rfl rfl b18) hb66 (spec_refsOf_ok gq20) rfl (.own rfl rfl (fun _ => rfl) .nil) rfl (srow (fun _ => rfl) trivial) (by refine Wk.trans (Wk.frz (L := [(0, (.sl (List.map eI q20)))]) (st' := [⟨1, 3, 1, []⟩]) (id := 0) rfl (show 0 ≤ 0 by decide) (pure_map fun _ => rfl) ⟨(.frz rfl), trivial⟩ rfl) ?_; refine Wk.trans (Wk.permk (L := [(0, (.sl (List.map eI q20)))]) (st' := []) (st1 := []) [] rfl .nil (by decide) rfl rfl .nil ⟨.rfl, trivial⟩) ?_; exact Wk.to (L := [(0, (.sl (List.map eI q20)))]) ⟨.rfl, trivial⟩) rfl ?_
        refine d_q (v := (i64 p1)) (go1 rfl rfl b18) rfl (aq_mv rfl) ?_
        refine d_q (v := (i64 (Sh.w (p1 - 1000)))) (go1 rfl rfl b18) rfl (aq_sub rfl rfl) ?_
        obtain ⟨c21, gc21, h1⟩ := Sh.bind_some h1
        refine d_q (v := (.iptr (eI c21) 0)) (go1 rfl rfl b18) rfl (aq_ixs ei32 rfl rfl gc21 rfl) ?_
        refine d_q (v := (i64 c21)) (go1 rfl rfl b18) rfl (aq_ldi ti3 rfl rfl) ?_
        refine d_q (v := (.bool (decide (c19.count = c21)))) (go1 rfl rfl b18) rfl (aq_eq rfl rfl) ?_
        refine d_done ?_
        refine ao_q (v := (.bool (decide (c19.count = c21)))) go0 rfl (aq_pkt rfl b18 rfl) ?_
        exact AO.done (M11 (decide (c19.count = c21)) (Sh.some_eq h1).symm _ (Wk.to (L := [(0, (.own 0 0 (List.length s0))), (1, (i64 p1)), (31, (.bool (decide (c19.count = c21))))]) ⟨.rfl, .rfl, .rfl, trivial⟩))
      · skip
        refine d_skip rfl rfl b18 ?_
        refine d_skip rfl rfl b18 ?_
        refine d_skip rfl rfl b18 ?_
        refine d_skip rfl rfl b18 ?_
        refine d_skip rfl rfl b18 ?_
        refine d_skip rfl rfl b18 ?_
        refine d_skip rfl rfl b18 ?_
        refine d_skip rfl rfl b18 ?_
        refine d_skip rfl rfl b18 ?_
        refine d_skip rfl rfl b18 ?_
        refine d_skip rfl rfl b18 ?_
        refine d_skip rfl rfl b18 ?_
        refine d_skip rfl rfl b18 ?_
        refine d_done ?_
        refine ao_q (v := (.bool false)) go0 rfl (aq_pkf rfl b18 rfl) ?_
        exact AO.done (M11 false (Sh.some_eq h1).symm _ (Wk.to (L := [(0, (.own 0 0 (List.length s0))), (1, (i64 p1)), (31, (.bool false))]) ⟨.rfl, .rfl, .rfl, trivial⟩))
  refine AW.regionO (by rfl) ?_
  refine ao_q (v := (.own 0 0 (List.length s0))) go0 rfl (aq_mv rfl) ?_
  obtain ⟨q22, gq22, h1⟩ := Sh.bind_some h1
  refine ao_callb (v' := (.bool q22)) (st' := [⟨0, 41, 3, List.map eCell s0⟩]) go0 hb61 (spec_validHeap_ok gq22) rfl (.own rfl rfl (fun _ => rfl) .nil) rfl trivial rfl rfl ?_
  refine ao_q (v := (.bool (!q22))) go0 rfl (aq_not rfl) ?_
  refine ao_q (v := (.bool (!q22))) go0 rfl (aq_mv rfl) ?_
  rcases Sh.ite_some h1 with ⟨b23, h1⟩ | ⟨b23, h1⟩
  · skip
    refine ao_skip rfl rfl b23 ?_
    refine ao_skip rfl rfl b23 ?_
    refine ao_skip rfl rfl b23 ?_
    refine ao_skip rfl rfl b23 ?_
    refine ao_q (v := (.bool true)) go0 rfl (aq_pkt rfl b23 rfl) ?_
    exact AO.done (M5 true (Sh.some_eq h1).symm _ (Wk.to (L := [(0, (.own 0 0 (List.length s0))), (1, (i64 p1)), (14, (.bool true))]) ⟨.rfl, .rfl, .rfl, trivial⟩))
  · skip
    refine ao_q (v := (.own 0 0 (List.length s0))) (go1 rfl rfl b23) rfl (aq_mv rfl) ?_
    refine ao_q (v := (i64 p1)) (go1 rfl rfl b23) rfl (aq_mv rfl) ?_
    obtain ⟨q24, gq24, h1⟩ := Sh.bind_some h1
    refine ao_callb (v' := (.bool q24)) (st' := [⟨0, 41, 3, List.map eCell s0⟩]) (go1 rfl rfl b23) hb75 (spec_isWord_ok gq24) rfl (.own rfl rfl (fun _ => rfl) (.val rfl .nil)) rfl trivial rfl rfl ?_
    refine ao_q (v := (.bool (!q24))) (go1 rfl rfl b23) rfl (aq_not rfl) ?_
    refine ao_q (v := (.bool (!q24))) go0 rfl (aq_pkf rfl b23 rfl) ?_
    exact AO.done (M5 (!q24) (Sh.some_eq h1).symm _ (Wk.to (L := [(0, (.own 0 0 (List.length s0))), (1, (i64 p1)), (14, (.bool (!q24)))]) ⟨.rfl, .rfl, .rfl, trivial⟩))

set_option maxRecDepth 100000 in
set_option maxHeartbeats 4000000 in
theorem spec_zeros_ok {p0 : Int} {r : (List Int)} (h0 : spec_zeros p0 = some r) : ACalls Try.prog 104 [(i64 p0)] [] (fun v st => v = (.own 0 0 (List.length r)) ∧ st = [⟨0, 3, 1, List.map eI r⟩]) := by
  unfold spec_zeros at h0
  refine ACalls.intro Try.func104 rfl (by show 1 ≤ 5; decide) ?_
  show AW _ 0 _ (aret _ 0 Try.f104 _) ⟨5, _, _⟩
  refine AW.weaken (Wk.to (L := [(0, (i64 p0))]) ⟨.rfl, trivial⟩) ?_
  refine AW.seq fun K1 hK1 => ?_
  refine AW.regionO (by rfl) ?_
  refine ao_q (v := .zc) go0 rfl (aq_as rfl) ?_
  refine AO.done (hK1 _ ?_)
  refine AW.seq fun K2 hK2 => ?_
  refine AW.regionO (by rfl) ?_
  refine ao_q (v := (i64 p0)) go0 rfl (aq_mv rfl) ?_
  obtain ⟨l3, gl3, h0⟩ := Sh.bind_some h0
  refine ao_make (m := 0) (st' := [⟨0, 3, 1, List.map eI l3⟩]) (enc := eI) (u := 0) go0 ei32 rfl rfl rfl gl3 rfl rfl ?_
  refine ao_q (v := (.own 0 0 (List.length l3))) go0 rfl (aq_as rfl) ?_
  refine AO.done (hK2 _ ?_)
  replace h0 := Sh.some_eq h0
  subst r
  exact AW.ret (Exists.intro _ (And.intro (Wk.to (L := [(2, (.own 0 0 (List.length l3)))]) ⟨.rfl, trivial⟩) (And.intro rfl rfl)))

set_option maxRecDepth 100000 in
set_option maxHeartbeats 4000000 in
theorem spec_goodHeap_ok {N : Nat} {s0_0 : (List Int)} {s0_1 : Int} {p1 : Bool} {r : (List Cell) × Int} (h0 : spec_goodHeap N s0_0 s0_1 p1 = some r) : ACalls Try.prog 94 [(.ptr 0 0 0 0), (.bool p1)] [⟨0, 84, 2, [[(.sl (List.map eI_u8 s0_0)), (i64 s0_1)]]⟩] (fun v st => v = (.own 1 0 (List.length r.1)) ∧ st = [⟨0, 84, 2, [[(.sl (List.map eI_u8 s0_0)), (i64 r.2)]]⟩, ⟨0, 41, 3, List.map eCell r.1⟩]) := by
  unfold spec_goodHeap at h0
  refine ACalls.intro Try.func94 rfl (by show 2 ≤ 133; decide) ?_
  show AW _ 1 _ (aret _ 1 Try.f94 _) ⟨133, _, _⟩
  refine AW.weaken (Wk.to (L := [(0, (.ptr 0 0 0 0)), (1, (.bool p1))]) ⟨.rfl, .rfl, trivial⟩) ?_
  refine AW.seq fun K1 hK1 => ?_
  refine AW.regionO (by rfl) ?_
  refine ao_q (v := .zc) go0 rfl (aq_as rfl) ?_
  refine AO.done (hK1 _ ?_)
  refine AW.seq fun K2 hK2 => ?_
  refine AW.regionO (by rfl) ?_
  refine ao_bs (m := 1) (st' := [⟨0, 84, 2, [[(.sl (List.map eI_u8 s0_0)), (i64 s0_1)]]⟩, ⟨0, 41, 3, List.map eCell ([] : List Cell)⟩]) (l := ([] : List Cell)) (enc := eCell) go0 ei25 (by decide) rfl rfl rfl rfl rfl rfl ?_
  refine ao_q (v := (.own 1 0 (List.length ([] : List Cell)))) go0 rfl (aq_as rfl) ?_
  refine AO.done (hK2 _ ?_)
  refine AW.seq fun K3 hK3 => ?_
  refine AW.seq fun K4 hK4 => ?_
  refine AW.regionO (by rfl) ?_
  refine ao_q (v := (.ptr 0 0 0 0)) go0 rfl (aq_mv rfl) ?_
  obtain ⟨q5, gq5, h0⟩ := Sh.bind_some h0
  refine ao_calls (rowsP := [⟨0, 84, 2, [[(.sl (List.map eI_u8 s0_0)), (i64 s0_1)]]⟩]) (rows0 := [⟨0, 84, 2, [[(.sl (List.map eI_u8 s0_0)), (i64 s0_1)]]⟩]) (rows1 := [⟨0, 84, 2, [[(.sl (List.map eI_u8 s0_0)), (i64 q5.2)]]⟩]) (rows2 := []) (rows1' := [⟨0, 84, 2, [[(.sl (List.map eI_u8 s0_0)), (i64 q5.2)]]⟩]) (rows2' := []) (st' := [⟨0, 84, 2, [[(.sl (List.map eI_u8 s0_0)), (i64 q5.2)]]⟩, ⟨0, 41, 3, List.map eCell ([] : List Cell)⟩]) (v' := (i64 q5.1)) [0] go0 hb81 (spec_reader_pick_ok gq5) rfl (by decide) rfl rfl (.raw rfl rfl .nil) rfl rfl (.raw rfl rfl .nil) .nil rfl rfl ?_
  refine ao_q (v := (i64 (Sh.w (3 + q5.1)))) go0 rfl (aq_add rfl rfl) ?_
  refine ao_q (v := (i64 (Sh.w (3 + q5.1)))) go0 rfl (aq_as rfl) ?_
  refine AO.done (hK4 _ ?_)
  obtain ⟨o11, h1, h0⟩ := Sh.bind_some h0
  have M11 : ∀ (f9 : Int) (l10 : (List Cell)), o11 = (f9, l10) → ∀ s, Wk 1 s ⟨133, envL [(0, (.ptr 0 0 0 0)), (1, (.bool p1)), (5, (.own 1 0 (List.length l10)))], [⟨0, 84, 2, [[(.sl (List.map eI_u8 s0_0)), (i64 f9)]]⟩, ⟨0, 41, 3, List.map eCell l10⟩]⟩ → K3 s := by
    intro f9 l10 hq s hw
    subst o11
    try dsimp only at h0
    refine hK3 _ (AW.weaken hw ?_)
    refine AW.seq fun K12 hK12 => ?_
    obtain ⟨o15, h1, h0⟩ := Sh.bind_some h0
    have M15 : ∀ (f13 : Int) (l14 : (List Cell)), o15 = (f13, l14) → ∀ s, Wk 1 s ⟨133, envL [(5, (.own 1 0 (List.length l14)))], [⟨0, 84, 2, [[(.sl (List.map eI_u8 s0_0)), (i64 f13)]]⟩, ⟨0, 41, 3, List.map eCell l14⟩]⟩ → K12 s := by
      intro f13 l14 hq s hw
      subst o15
      try dsimp only at h0
      refine hK12 _ (AW.weaken hw ?_)
      refine AW.seq fun K16 hK16 => ?_
      refine AW.regionO (by rfl) ?_
      refine ao_q (v := (.own 1 0 (List.length l14))) go0 rfl (aq_mv rfl) ?_
      refine ao_q (v := (.own 1 0 (List.length l14))) go0 rfl (aq_as rfl) ?_
      refine AO.done (hK16 _ ?_)
      replace h0 := Sh.some_eq h0
      subst r
      exact AW.ret (Exists.intro _ (And.intro (Wk.to (L := [(4, (.own 1 0 (List.length l14)))]) ⟨.rfl, trivial⟩) (And.intro rfl rfl)))
    refine AW.seq fun K17 hK17 => ?_
    obtain ⟨o20, h2, h1⟩ := Sh.bind_some h1
    have M20 : ∀ (t18 : Bool) (f19 : Int), o20 = (t18, f19) → ∀ s, Wk 1 s ⟨133, envL [(0, (.ptr 0 0 0 0)), (5, (.own 1 0 (List.length l10))), (124, (.bool t18))], [⟨0, 84, 2, [[(.sl (List.map eI_u8 s0_0)), (i64 f19)]]⟩, ⟨0, 41, 3, List.map eCell l10⟩]⟩ → K17 s := by
      intro t18 f19 hq s hw
      subst o20
      try dsimp only at h1
      refine hK17 _ (AW.weaken hw ?_)
      refine AW.cond' (b := t18) rfl (fun b21 => ?_) (fun b21 => ?_)
      · replace h1 := Sh.ite_t b21 h1
        refine AW.regionO (by rfl) ?_
        refine ao_q (v := (.own 1 0 (List.length l10))) go0 rfl (aq_mv rfl) ?_
        refine ao_q (v := (.ptr 0 0 0 0)) go0 rfl (aq_mv rfl) ?_
        obtain ⟨q22, gq22, h1⟩ := Sh.bind_some h1
        refine ao_calls (rowsP := [⟨0, 84, 2, [[(.sl (List.map eI_u8 s0_0)), (i64 f19)]]⟩]) (rows0 := [⟨0, 84, 2, [[(.sl (List.map eI_u8 s0_0)), (i64 f19)]]⟩]) (rows1 := [⟨0, 84, 2, [[(.sl (List.map eI_u8 s0_0)), (i64 q22.2)]]⟩]) (rows2 := []) (rows1' := [⟨0, 84, 2, [[(.sl (List.map eI_u8 s0_0)), (i64 q22.2)]]⟩]) (rows2' := []) (st' := [⟨0, 84, 2, [[(.sl (List.map eI_u8 s0_0)), (i64 q22.2)]]⟩, ⟨0, 41, 3, List.map eCell l10⟩]) (v' := (i64 q22.1)) [0] go0 hb81 (spec_reader_pick_ok gq22) rfl (by decide) rfl rfl (.raw rfl rfl .nil) rfl rfl (.raw rfl rfl .nil) .nil rfl rfl ?_
        obtain ⟨q23, gq23, h1⟩ := Sh.bind_some h1
        refine ao_call (v' := (.own 2 0 (List.length q23))) (st' := [⟨0, 84, 2, [[(.sl (List.map eI_u8 s0_0)), (i64 q22.2)]]⟩, ⟨0, 41, 3, List.map eCell l10⟩, ⟨0, 3, 1, List.map eI q23⟩]) go0 hb104 (spec_zeros_ok gq23) rfl rfl ⟨pure_map fun _ => rfl, trivial⟩ rfl rfl ?_
        refine ao_q (v := (.agg [(i64 (-1)), (i64 0), (.own 2 0 (List.length q23))])) go0 rfl (aq_bd ai41 bi41 zi41 rfl rfl) ?_
        refine AO.weaken (Wk.frz (L := [(125, (.own 1 0 (List.length l10))), (129, (.agg [(i64 (-1)), (i64 0), (.sl (List.map eI q23))]))]) (st' := [⟨0, 84, 2, [[(.sl (List.map eI_u8 s0_0)), (i64 q22.2)]]⟩, ⟨0, 41, 3, List.map eCell l10⟩, ⟨1, 3, 1, []⟩]) (id := 2) rfl (show 1 ≤ 2 by decide) (pure_map fun _ => rfl) ⟨.rfl, (.agg ⟨.rfl, .rfl, (.frz1 rfl), trivial⟩), trivial⟩ rfl) ?_
        refine ao_bs (m := 3) (st' := [⟨0, 84, 2, [[(.sl (List.map eI_u8 s0_0)), (i64 q22.2)]]⟩, ⟨0, 41, 3, List.map eCell l10⟩, ⟨1, 3, 1, []⟩, ⟨0, 41, 3, List.map eCell [(Cell.mk (-1) 0 q23)]⟩]) (l := [(Cell.mk (-1) 0 q23)]) (enc := eCell) go0 ei25 (by decide) rfl rfl rfl rfl rfl rfl ?_
        obtain ⟨l24, gl24, h1⟩ := Sh.bind_some h1
        refine ao_apo (st' := [⟨0, 84, 2, [[(.sl (List.map eI_u8 s0_0)), (i64 q22.2)]]⟩, ⟨1, 41, 3, List.map eCell l24⟩, ⟨1, 3, 1, []⟩, ⟨0, 41, 3, List.map eCell [(Cell.mk (-1) 0 q23)]⟩]) (l2 := [(Cell.mk (-1) 0 q23)]) go0 ei25 rfl rfl rfl rfl (el_o rfl rfl) (fun _ => rfl) gl24 rfl ?_
        refine ao_q (v := (.own 1 1 (List.length l24))) go0 rfl (aq_as rfl) ?_
        exact AO.done (M15 q22.2 l24 (Sh.some_eq h1).symm _ (by refine Wk.trans (Wk.rk (L := [(5, (.own 1 0 (List.length l24)))]) (st' := [⟨0, 84, 2, [[(.sl (List.map eI_u8 s0_0)), (i64 q22.2)]]⟩, ⟨0, 41, 3, List.map eCell l24⟩, ⟨0, 3, 1, []⟩, ⟨0, 41, 3, List.map eCell [(Cell.mk (-1) 0 q23)]⟩]) (.raw rfl rfl rfl (.pure rfl (pure_map fun _ => rfl) (.pure rfl (by intro x hx; cases hx) (.pure rfl (pure_map fun _ => rfl) .nil)))) ⟨.rfl, trivial⟩) ?_; refine Wk.trans (Wk.permk (L := [(5, (.own 1 0 (List.length l24)))]) (st' := [⟨0, 84, 2, [[(.sl (List.map eI_u8 s0_0)), (i64 q22.2)]]⟩, ⟨0, 41, 3, List.map eCell l24⟩]) (st1 := [⟨0, 84, 2, [[(.sl (List.map eI_u8 s0_0)), (i64 q22.2)]]⟩, ⟨0, 41, 3, List.map eCell l24⟩]) [0, 1] rfl (.raw rfl rfl .nil) (by decide) rfl rfl (.raw rfl rfl (.pure (pure_map fun _ => rfl) .nil)) ⟨.rfl, trivial⟩) ?_; exact Wk.to (L := [(5, (.own 1 0 (List.length l24)))]) ⟨.rfl, trivial⟩))
      · replace h1 := Sh.ite_f b21 h1
        exact AW.skip (M15 f19 l10 (Sh.some_eq h1).symm _ (Wk.to (L := [(5, (.own 1 0 (List.length l10)))]) ⟨.rfl, trivial⟩))
    refine AW.regionO (by rfl) ?_
    refine ao_q (v := (.bool p1)) go0 rfl (aq_mv rfl) ?_
    refine ao_q (v := (.bool p1)) go0 rfl (aq_mv rfl) ?_
    rcases Sh.ite_some h2 with ⟨b25, h2⟩ | ⟨b25, h2⟩
    · skip
      refine ao_q (v := (.ptr 0 0 0 0)) (go1 rfl rfl b25) rfl (aq_mv rfl) ?_
      obtain ⟨q26, gq26, h2⟩ := Sh.bind_some h2
      refine ao_calls (rowsP := [⟨0, 84, 2, [[(.sl (List.map eI_u8 s0_0)), (i64 f9)]]⟩]) (rows0 := [⟨0, 84, 2, [[(.sl (List.map eI_u8 s0_0)), (i64 f9)]]⟩]) (rows1 := [⟨0, 84, 2, [[(.sl (List.map eI_u8 s0_0)), (i64 q26.2)]]⟩]) (rows2 := []) (rows1' := [⟨0, 84, 2, [[(.sl (List.map eI_u8 s0_0)), (i64 q26.2)]]⟩]) (rows2' := []) (st' := [⟨0, 84, 2, [[(.sl (List.map eI_u8 s0_0)), (i64 q26.2)]]⟩, ⟨0, 41, 3, List.map eCell l10⟩]) (v' := (i64 q26.1)) [0] (go1 rfl rfl b25) hb81 (spec_reader_pick_ok gq26) rfl (by decide) rfl rfl (.raw rfl rfl .nil) rfl rfl (.raw rfl rfl .nil) .nil rfl rfl ?_
      refine ao_q (v := (.bool (decide (q26.1 = 0)))) (go1 rfl rfl b25) rfl (aq_eq rfl rfl) ?_
      refine ao_q (v := (.bool (decide (q26.1 = 0)))) go0 rfl (aq_pkt rfl b25 rfl) ?_
      exact AO.done (M20 (decide (q26.1 = 0)) q26.2 (Sh.some_eq h2).symm _ (Wk.to (L := [(0, (.ptr 0 0 0 0)), (5, (.own 1 0 (List.length l10))), (124, (.bool (decide (q26.1 = 0))))]) ⟨.rfl, .rfl, .rfl, trivial⟩))
    · skip
      refine ao_skip rfl rfl b25 ?_
      refine ao_skip rfl rfl b25 ?_
      refine ao_skip rfl rfl b25 ?_
      refine ao_q (v := (.bool false)) go0 rfl (aq_pkf rfl b25 rfl) ?_
      exact AO.done (M20 false f9 (Sh.some_eq h2).symm _ (Wk.to (L := [(0, (.ptr 0 0 0 0)), (5, (.own 1 0 (List.length l10))), (124, (.bool false))]) ⟨.rfl, .rfl, .rfl, trivial⟩))
  refine AW.block (AW.loopF (σ := Int × Int × (List Cell)) (fun n v => spec_goodHeap_L1 N s0_0 n v.1 v.2.1 v.2.2 = some o11) (fun (n6, f7, l8) => ⟨133, envL [(0, (.ptr 0 0 0 0)), (1, (.bool p1)), (5, (.own 1 0 (List.length l8))), (6, (i64 n6))], [⟨0, 84, 2, [[(.sl (List.map eI_u8 s0_0)), (i64 f7)]]⟩, ⟨0, 41, 3, List.map eCell l8⟩]⟩) N (Sh.w (3 + q5.1), q5.2, []) h1 (Wk.to (L := [(0, (.ptr 0 0 0 0)), (1, (.bool p1)), (5, (.own 1 0 (List.length ([] : List Cell)))), (6, (i64 (Sh.w (3 + q5.1))))]) ⟨.rfl, .rfl, .rfl, .rfl, trivial⟩) (fun _ hv => by rw [spec_goodHeap_L1] at hv; cases hv) ?_)
  rintro n ⟨n6, f7, l8⟩ h1
  try dsimp only at h1 ⊢
  rw [spec_goodHeap_L1] at h1
  refine AW.seq fun K27 hK27 => ?_
  refine AW.seq fun K28 hK28 => ?_
  refine AW.regionO (by rfl) ?_
  refine ao_q (v := (i64 n6)) go0 rfl (aq_mv rfl) ?_
  refine ao_q (v := (.bool (decide (0 < n6)))) go0 rfl (aq_gt rfl rfl) ?_
  refine AO.done (hK28 _ ?_)
  refine AW.cond' (b := decide (0 < n6)) rfl (fun b29 => ?_) (fun b29 => ?_)
  · replace h1 := Sh.ite_t b29 h1
    refine AW.skip (hK27 _ ?_)
    refine AW.seq fun K30 hK30 => ?_
    obtain ⟨o33, h2, h1⟩ := Sh.bind_some h1
    have M33 : ∀ (f31 : Int) (l32 : (List Cell)), o33 = (f31, l32) → ∀ s, Wk 1 s ⟨133, envL [(0, (.ptr 0 0 0 0)), (1, (.bool p1)), (5, (.own 1 0 (List.length l32))), (6, (i64 n6))], [⟨0, 84, 2, [[(.sl (List.map eI_u8 s0_0)), (i64 f31)]]⟩, ⟨0, 41, 3, List.map eCell l32⟩]⟩ → K30 s := by
      intro f31 l32 hq s hw
      subst o33
      try dsimp only at h1
      refine hK30 _ (AW.weaken hw ?_)
      refine AW.regionO (by rfl) ?_
      refine ao_q (v := (i64 n6)) go0 rfl (aq_mv rfl) ?_
      refine ao_q (v := (i64 (Sh.w (n6 - 1)))) go0 rfl (aq_sub rfl rfl) ?_
      refine ao_q (v := (i64 (Sh.w (n6 - 1)))) go0 rfl (aq_as rfl) ?_
      exact AO.done (Exists.intro (Sh.w (n6 - 1), f31, l32) (And.intro h1 (Wk.to (L := [(0, (.ptr 0 0 0 0)), (1, (.bool p1)), (5, (.own 1 0 (List.length l32))), (6, (i64 (Sh.w (n6 - 1))))]) ⟨.rfl, .rfl, .rfl, .rfl, trivial⟩)))
    refine AW.block ?_
    refine AW.seq fun K34 hK34 => ?_
    refine AW.regionO (by rfl) ?_
    refine ao_bs (m := 2) (st' := [⟨0, 84, 2, [[(.sl (List.map eI_u8 s0_0)), (i64 f7)]]⟩, ⟨0, 41, 3, List.map eCell l8⟩, ⟨0, 3, 1, List.map eI ([] : List Int)⟩]) (l := ([] : List Int)) (enc := eI) go0 ei32 (by decide) rfl rfl rfl rfl rfl rfl ?_
    refine ao_q (v := (.own 2 0 (List.length ([] : List Int)))) go0 rfl (aq_as rfl) ?_
    refine AO.done (hK34 _ ?_)
    refine AW.seq fun K35 hK35 => ?_
    refine AW.seq fun K36 hK36 => ?_
    refine AW.regionO (by rfl) ?_
    refine ao_q (v := (.ptr 0 0 0 0)) go0 rfl (aq_mv rfl) ?_
    obtain ⟨q37, gq37, h2⟩ := Sh.bind_some h2
    refine ao_calls (rowsP := [⟨0, 84, 2, [[(.sl (List.map eI_u8 s0_0)), (i64 f7)]]⟩]) (rows0 := [⟨0, 84, 2, [[(.sl (List.map eI_u8 s0_0)), (i64 f7)]]⟩]) (rows1 := [⟨0, 84, 2, [[(.sl (List.map eI_u8 s0_0)), (i64 q37.2)]]⟩]) (rows2 := []) (rows1' := [⟨0, 84, 2, [[(.sl (List.map eI_u8 s0_0)), (i64 q37.2)]]⟩]) (rows2' := []) (st' := [⟨0, 84, 2, [[(.sl (List.map eI_u8 s0_0)), (i64 q37.2)]]⟩, ⟨0, 41, 3, List.map eCell l8⟩, ⟨0, 3, 1, List.map eI ([] : List Int)⟩]) (v' := (i64 q37.1)) [0] go0 hb81 (spec_reader_pick_ok gq37) rfl (by decide) rfl rfl (.raw rfl rfl .nil) rfl rfl (.raw rfl rfl .nil) .nil rfl rfl ?_
    refine ao_q (v := (i64 q37.1)) go0 rfl (aq_as rfl) ?_
    refine AO.done (hK36 _ ?_)
    obtain ⟨o45, h3, h2⟩ := Sh.bind_some h2
    have M45 : ∀ (f42 : Int) (l43 : (List Cell)) (l44 : (List Int)), o45 = (f42, l43, l44) → ∀ s, Wk 1 s ⟨133, envL [(0, (.ptr 0 0 0 0)), (1, (.bool p1)), (5, (.own 1 0 (List.length l43))), (6, (i64 n6)), (7, (.own 2 0 (List.length l44)))], [⟨0, 84, 2, [[(.sl (List.map eI_u8 s0_0)), (i64 f42)]]⟩, ⟨0, 41, 3, List.map eCell l43⟩, ⟨0, 3, 1, List.map eI l44⟩]⟩ → K35 s := by
      intro f42 l43 l44 hq s hw
      subst o45
      try dsimp only at h2
      refine hK35 _ (AW.weaken hw ?_)
      refine AW.seq fun K46 hK46 => ?_
      refine AW.regionO (by rfl) ?_
      refine ao_q (v := (.own 1 0 (List.length l43))) go0 rfl (aq_mv rfl) ?_
      refine ao_q (v := (.ptr 0 0 0 0)) go0 rfl (aq_mv rfl) ?_
      refine ao_q (v := (.ptr 0 0 0 0)) go0 rfl (aq_mv rfl) ?_
      obtain ⟨q47, gq47, h2⟩ := Sh.bind_some h2
      refine ao_calls (rowsP := [⟨0, 84, 2, [[(.sl (List.map eI_u8 s0_0)), (i64 f42)]]⟩]) (rows0 := [⟨0, 84, 2, [[(.sl (List.map eI_u8 s0_0)), (i64 f42)]]⟩]) (rows1 := [⟨0, 84, 2, [[(.sl (List.map eI_u8 s0_0)), (i64 q47.2)]]⟩]) (rows2 := []) (rows1' := [⟨0, 84, 2, [[(.sl (List.map eI_u8 s0_0)), (i64 q47.2)]]⟩]) (rows2' := []) (st' := [⟨0, 84, 2, [[(.sl (List.map eI_u8 s0_0)), (i64 q47.2)]]⟩, ⟨0, 41, 3, List.map eCell l43⟩, ⟨0, 3, 1, List.map eI l44⟩]) (v' := (i64 q47.1)) [0] go0 hb81 (spec_reader_pick_ok gq47) rfl (by decide) rfl rfl (.raw rfl rfl .nil) rfl rfl (.raw rfl rfl .nil) .nil rfl rfl ?_
      refine ao_q (v := (.ptr 0 0 0 0)) go0 rfl (aq_mv rfl) ?_
      obtain ⟨q48, gq48, h2⟩ := Sh.bind_some h2
      refine ao_calls (rowsP := [⟨0, 84, 2, [[(.sl (List.map eI_u8 s0_0)), (i64 q47.2)]]⟩]) (rows0 := [⟨0, 84, 2, [[(.sl (List.map eI_u8 s0_0)), (i64 q47.2)]]⟩]) (rows1 := [⟨0, 84, 2, [[(.sl (List.map eI_u8 s0_0)), (i64 q48.2)]]⟩]) (rows2 := []) (rows1' := [⟨0, 84, 2, [[(.sl (List.map eI_u8 s0_0)), (i64 q48.2)]]⟩]) (rows2' := []) (st' := [⟨0, 84, 2, [[(.sl (List.map eI_u8 s0_0)), (i64 q48.2)]]⟩, ⟨0, 41, 3, List.map eCell l43⟩, ⟨0, 3, 1, List.map eI l44⟩]) (v' := (i64 q48.1)) [0] go0 hb81 (spec_reader_pick_ok gq48) rfl (by decide) rfl rfl (.raw rfl rfl .nil) rfl rfl (.raw rfl rfl .nil) .nil rfl rfl ?_
      refine ao_bs (m := 3) (st' := [⟨0, 84, 2, [[(.sl (List.map eI_u8 s0_0)), (i64 q48.2)]]⟩, ⟨0, 41, 3, List.map eCell l43⟩, ⟨0, 3, 1, List.map eI l44⟩, ⟨0, 3, 1, List.map eI [q47.1, q48.1, 0, 99]⟩]) (l := [q47.1, q48.1, 0, 99]) (enc := eI) go0 ei32 (by decide) rfl rfl rfl rfl rfl rfl ?_
      refine AO.weaken (Wk.frz (L := [(0, (.ptr 0 0 0 0)), (1, (.bool p1)), (5, (.own 1 0 (List.length l43))), (6, (i64 n6)), (7, (.own 2 0 (List.length l44))), (84, (.own 1 0 (List.length l43))), (85, (.ptr 0 0 0 0)), (90, (.sl (List.map eI [q47.1, q48.1, 0, 99])))]) (st' := [⟨0, 84, 2, [[(.sl (List.map eI_u8 s0_0)), (i64 q48.2)]]⟩, ⟨0, 41, 3, List.map eCell l43⟩, ⟨0, 3, 1, List.map eI l44⟩, ⟨1, 3, 1, []⟩]) (id := 3) rfl (show 1 ≤ 3 by decide) (pure_map fun _ => rfl) ⟨.rfl, .rfl, .rfl, .rfl, .rfl, .rfl, .rfl, (.frz rfl), trivial⟩ rfl) ?_
      obtain ⟨q49, gq49, h2⟩ := Sh.bind_some h2
      refine ao_calls (rowsP := [⟨0, 84, 2, [[(.sl (List.map eI_u8 s0_0)), (i64 q48.2)]]⟩]) (rows0 := [⟨0, 84, 2, [[(.sl (List.map eI_u8 s0_0)), (i64 q48.2)]]⟩]) (rows1 := [⟨0, 84, 2, [[(.sl (List.map eI_u8 s0_0)), (i64 q49.2)]]⟩]) (rows2 := []) (rows1' := [⟨0, 84, 2, [[(.sl (List.map eI_u8 s0_0)), (i64 q49.2)]]⟩]) (rows2' := []) (st' := [⟨0, 84, 2, [[(.sl (List.map eI_u8 s0_0)), (i64 q49.2)]]⟩, ⟨0, 41, 3, List.map eCell l43⟩, ⟨0, 3, 1, List.map eI l44⟩, ⟨1, 3, 1, []⟩]) (v' := (i64 q49.1)) [0] go0 hb80 (spec_reader_one_ok gq49) rfl (by decide) rfl rfl (.raw rfl rfl .nil) rfl rfl (.raw rfl rfl .nil) .nil rfl rfl ?_
      refine ao_q (v := (.own 2 0 (List.length l44))) go0 rfl (aq_mv rfl) ?_
      refine AO.weaken (Wk.frz (L := [(0, (.ptr 0 0 0 0)), (1, (.bool p1)), (5, (.own 1 0 (List.length l43))), (6, (i64 n6)), (84, (.own 1 0 (List.length l43))), (91, (i64 q49.1)), (92, (.sl (List.map eI l44)))]) (st' := [⟨0, 84, 2, [[(.sl (List.map eI_u8 s0_0)), (i64 q49.2)]]⟩, ⟨0, 41, 3, List.map eCell l43⟩, ⟨1, 3, 1, []⟩, ⟨1, 3, 1, []⟩]) (id := 2) rfl (show 1 ≤ 2 by decide) (pure_map fun _ => rfl) ⟨.rfl, .rfl, .rfl, .rfl, .rfl, .rfl, (.frz rfl), trivial⟩ rfl) ?_
      obtain ⟨q50, gq50, h2⟩ := Sh.bind_some h2
      refine ao_calls (rowsP := [⟨0, 41, 3, List.map eCell l43⟩]) (rows0 := [⟨0, 41, 3, List.map eCell l43⟩]) (rows1 := [⟨0, 41, 3, List.map eCell l43⟩]) (rows2 := [⟨0, 41, 3, List.map eCell q50.1⟩]) (rows1' := [⟨0, 41, 3, List.map eCell l43⟩]) (rows2' := [⟨0, 41, 3, List.map eCell q50.1⟩]) (st' := [⟨0, 84, 2, [[(.sl (List.map eI_u8 s0_0)), (i64 q49.2)]]⟩, ⟨0, 41, 3, List.map eCell l43⟩, ⟨1, 3, 1, []⟩, ⟨1, 3, 1, []⟩, ⟨0, 41, 3, List.map eCell q50.1⟩]) (v' := (.tup [(.own 4 0 (List.length q50.1)), (i64 q50.2)])) [1] go0 hb43 (spec_AllocCell_ok gq50) rfl (by decide) rfl rfl (.pure (pure_map fun _ => rfl) .nil) rfl rfl (.pure (pure_map fun _ => rfl) .nil) (.pure (pure_map fun _ => rfl) .nil) rfl rfl ?_
      refine ao_q (v := (.tup [(.own 4 0 (List.length q50.1)), (i64 q50.2)])) go0 rfl (aq_mv rfl) ?_
      refine ao_q (v := (.own 4 0 (List.length q50.1))) go0 rfl (aq_ex rfl rfl) ?_
      refine ao_q (v := (i64 q50.2)) go0 rfl (aq_ex rfl rfl) ?_
      refine ao_q (v := (.own 4 0 (List.length q50.1))) go0 rfl (aq_as rfl) ?_
      refine ao_q (v := (i64 q50.2)) go0 rfl (aq_as rfl) ?_
      refine AO.done (hK46 _ ?_)
      refine AW.seq fun K51 hK51 => ?_
      obtain ⟨o53, h3, h2⟩ := Sh.bind_some h2
      have M53 : ∀ (l52 : (List Cell)), o53 = l52 → ∀ s, Wk 1 s ⟨133, envL [(0, (.ptr 0 0 0 0)), (1, (.bool p1)), (5, (.own 1 0 (List.length l52))), (6, (i64 n6))], [⟨0, 84, 2, [[(.sl (List.map eI_u8 s0_0)), (i64 q49.2)]]⟩, ⟨0, 41, 3, List.map eCell l52⟩]⟩ → K51 s := by
        intro l52 hq s hw
        subst o53
        try dsimp only at h2
        refine hK51 _ (AW.weaken hw ?_)
        refine AW.seq fun K54 hK54 => ?_
        obtain ⟨o57, h3, h2⟩ := Sh.bind_some h2
        have M57 : ∀ (t55 : Bool) (f56 : Int), o57 = (t55, f56) → ∀ s, Wk 1 s ⟨133, envL [(0, (.ptr 0 0 0 0)), (1, (.bool p1)), (5, (.own 1 0 (List.length l52))), (6, (i64 n6)), (106, (.bool t55))], [⟨0, 84, 2, [[(.sl (List.map eI_u8 s0_0)), (i64 f56)]]⟩, ⟨0, 41, 3, List.map eCell l52⟩]⟩ → K54 s := by
          intro t55 f56 hq s hw
          subst o57
          try dsimp only at h2
          refine hK54 _ (AW.weaken hw ?_)
          refine AW.cond' (b := t55) rfl (fun b58 => ?_) (fun b58 => ?_)
          · replace h2 := Sh.ite_t b58 h2
            refine AW.seq fun K59 hK59 => ?_
            refine AW.regionO (by rfl) ?_
            refine ao_q (v := (.own 1 0 (List.length l52))) go0 rfl (aq_mv rfl) ?_
            refine ao_q (v := (.ptr 0 0 0 0)) go0 rfl (aq_mv rfl) ?_
            refine ao_q (v := (.own 1 0 (List.length l52))) go0 rfl (aq_mv rfl) ?_
            refine ao_q (v := (i64 (Sh.len l52))) go0 rfl (aq_leno sl25 rfl rfl rfl) ?_
            obtain ⟨q60, gq60, h2⟩ := Sh.bind_some h2
            refine ao_calls (rowsP := [⟨0, 84, 2, [[(.sl (List.map eI_u8 s0_0)), (i64 f56)]]⟩]) (rows0 := [⟨0, 84, 2, [[(.sl (List.map eI_u8 s0_0)), (i64 f56)]]⟩]) (rows1 := [⟨0, 84, 2, [[(.sl (List.map eI_u8 s0_0)), (i64 q60.2)]]⟩]) (rows2 := []) (rows1' := [⟨0, 84, 2, [[(.sl (List.map eI_u8 s0_0)), (i64 q60.2)]]⟩]) (rows2' := []) (st' := [⟨0, 84, 2, [[(.sl (List.map eI_u8 s0_0)), (i64 q60.2)]]⟩, ⟨0, 41, 3, List.map eCell l52⟩]) (v' := (i64 q60.1)) [0] go0 hb81 (spec_reader_pick_ok gq60) rfl (by decide) rfl rfl (.raw rfl rfl .nil) rfl rfl (.raw rfl rfl .nil) .nil rfl rfl ?_
            refine ao_q (v := (i64 (Sh.w (1000 + q60.1)))) go0 rfl (aq_add rfl rfl) ?_
            obtain ⟨q61, gq61, h2⟩ := Sh.bind_some h2
            refine ao_calls (rowsP := [⟨0, 41, 3, List.map eCell l52⟩]) (rows0 := [⟨0, 41, 3, List.map eCell l52⟩]) (rows1 := [⟨0, 41, 3, List.map eCell l52⟩]) (rows2 := [⟨0, 41, 3, List.map eCell q61.1⟩]) (rows1' := [⟨0, 41, 3, List.map eCell l52⟩]) (rows2' := [⟨0, 41, 3, List.map eCell q61.1⟩]) (st' := [⟨0, 84, 2, [[(.sl (List.map eI_u8 s0_0)), (i64 q60.2)]]⟩, ⟨0, 41, 3, List.map eCell l52⟩, ⟨0, 41, 3, List.map eCell q61.1⟩]) (v' := (.tup [(.own 2 0 (List.length q61.1)), (.bool q61.2)])) [1] go0 hb45 (spec_DropWord_ok gq61) rfl (by decide) rfl rfl (.pure (pure_map fun _ => rfl) .nil) rfl rfl (.pure (pure_map fun _ => rfl) .nil) (.pure (pure_map fun _ => rfl) .nil) rfl rfl ?_
            refine ao_q (v := (.tup [(.own 2 0 (List.length q61.1)), (.bool q61.2)])) go0 rfl (aq_mv rfl) ?_
            refine ao_q (v := (.own 2 0 (List.length q61.1))) go0 rfl (aq_ex rfl rfl) ?_
            refine ao_q (v := (.bool q61.2)) go0 rfl (aq_ex rfl rfl) ?_
            refine ao_q (v := (.own 2 0 (List.length q61.1))) go0 rfl (aq_as rfl) ?_
            refine ao_q (v := (.bool q61.2)) go0 rfl (aq_as rfl) ?_
            refine AO.done (hK59 _ ?_)
            refine AW.seq fun K62 hK62 => ?_
            refine AW.regionO (by rfl) ?_
            refine ao_q (v := (.bool q61.2)) go0 rfl (aq_mv rfl) ?_
            refine AO.done (hK62 _ ?_)
            refine AW.cond' (b := q61.2) rfl (fun b63 => ?_) (fun b63 => ?_)
            · replace h2 := Sh.ite_t b63 h2
              refine AW.regionO (by rfl) ?_
              refine ao_q (v := (.own 2 0 (List.length q61.1))) go0 rfl (aq_mv rfl) ?_
              refine ao_q (v := (.own 2 0 (List.length q61.1))) go0 rfl (aq_as rfl) ?_
              exact AO.done (M33 q60.2 q61.1 (Sh.some_eq h2).symm _ (by refine Wk.trans (Wk.permk (L := [(0, (.ptr 0 0 0 0)), (1, (.bool p1)), (5, (.own 1 0 (List.length q61.1))), (6, (i64 n6))]) (st' := [⟨0, 84, 2, [[(.sl (List.map eI_u8 s0_0)), (i64 q60.2)]]⟩, ⟨0, 41, 3, List.map eCell q61.1⟩]) (st1 := [⟨0, 84, 2, [[(.sl (List.map eI_u8 s0_0)), (i64 q60.2)]]⟩, ⟨0, 41, 3, List.map eCell q61.1⟩]) [0, 2] rfl (.raw rfl rfl .nil) (by decide) rfl rfl (.raw rfl rfl (.pure (pure_map fun _ => rfl) .nil)) ⟨.rfl, .rfl, .rfl, .rfl, trivial⟩) ?_; exact Wk.to (L := [(0, (.ptr 0 0 0 0)), (1, (.bool p1)), (5, (.own 1 0 (List.length q61.1))), (6, (i64 n6))]) ⟨.rfl, .rfl, .rfl, .rfl, trivial⟩))
            · replace h2 := Sh.ite_f b63 h2
              exact AW.skip (M33 q60.2 l52 (Sh.some_eq h2).symm _ (by refine Wk.trans (Wk.permk (L := [(0, (.ptr 0 0 0 0)), (1, (.bool p1)), (5, (.own 1 0 (List.length l52))), (6, (i64 n6))]) (st' := [⟨0, 84, 2, [[(.sl (List.map eI_u8 s0_0)), (i64 q60.2)]]⟩, ⟨0, 41, 3, List.map eCell l52⟩]) (st1 := [⟨0, 84, 2, [[(.sl (List.map eI_u8 s0_0)), (i64 q60.2)]]⟩, ⟨0, 41, 3, List.map eCell l52⟩]) [0, 1] rfl (.raw rfl rfl .nil) (by decide) rfl rfl (.raw rfl rfl (.pure (pure_map fun _ => rfl) .nil)) ⟨.rfl, .rfl, .rfl, .rfl, trivial⟩) ?_; exact Wk.to (L := [(0, (.ptr 0 0 0 0)), (1, (.bool p1)), (5, (.own 1 0 (List.length l52))), (6, (i64 n6))]) ⟨.rfl, .rfl, .rfl, .rfl, trivial⟩))
          · replace h2 := Sh.ite_f b58 h2
            exact AW.skip (M33 f56 l52 (Sh.some_eq h2).symm _ (Wk.to (L := [(0, (.ptr 0 0 0 0)), (1, (.bool p1)), (5, (.own 1 0 (List.length l52))), (6, (i64 n6))]) ⟨.rfl, .rfl, .rfl, .rfl, trivial⟩))
        refine AW.regionO (by rfl) ?_
        refine ao_q (v := (.own 1 0 (List.length l52))) go0 rfl (aq_mv rfl) ?_
        refine ao_q (v := (i64 (Sh.len l52))) go0 rfl (aq_leno sl25 rfl rfl rfl) ?_
        refine ao_q (v := (.bool (decide (0 < (Sh.len l52))))) go0 rfl (aq_gt rfl rfl) ?_
        refine ao_q (v := (.bool (decide (0 < (Sh.len l52))))) go0 rfl (aq_mv rfl) ?_
        rcases Sh.ite_some h3 with ⟨b64, h3⟩ | ⟨b64, h3⟩
        · skip
          refine ao_q (v := (.ptr 0 0 0 0)) (go1 rfl rfl b64) rfl (aq_mv rfl) ?_
          obtain ⟨q65, gq65, h3⟩ := Sh.bind_some h3
          refine ao_calls (rowsP := [⟨0, 84, 2, [[(.sl (List.map eI_u8 s0_0)), (i64 q49.2)]]⟩]) (rows0 := [⟨0, 84, 2, [[(.sl (List.map eI_u8 s0_0)), (i64 q49.2)]]⟩]) (rows1 := [⟨0, 84, 2, [[(.sl (List.map eI_u8 s0_0)), (i64 q65.2)]]⟩]) (rows2 := []) (rows1' := [⟨0, 84, 2, [[(.sl (List.map eI_u8 s0_0)), (i64 q65.2)]]⟩]) (rows2' := []) (st' := [⟨0, 84, 2, [[(.sl (List.map eI_u8 s0_0)), (i64 q65.2)]]⟩, ⟨0, 41, 3, List.map eCell l52⟩]) (v' := (i64 q65.1)) [0] (go1 rfl rfl b64) hb81 (spec_reader_pick_ok gq65) rfl (by decide) rfl rfl (.raw rfl rfl .nil) rfl rfl (.raw rfl rfl .nil) .nil rfl rfl ?_
          refine ao_q (v := (.bool (decide (q65.1 = 0)))) (go1 rfl rfl b64) rfl (aq_eq rfl rfl) ?_
          refine ao_q (v := (.bool (decide (q65.1 = 0)))) go0 rfl (aq_pkt rfl b64 rfl) ?_
          exact AO.done (M57 (decide (q65.1 = 0)) q65.2 (Sh.some_eq h3).symm _ (Wk.to (L := [(0, (.ptr 0 0 0 0)), (1, (.bool p1)), (5, (.own 1 0 (List.length l52))), (6, (i64 n6)), (106, (.bool (decide (q65.1 = 0))))]) ⟨.rfl, .rfl, .rfl, .rfl, .rfl, trivial⟩))
        · skip
          refine ao_skip rfl rfl b64 ?_
          refine ao_skip rfl rfl b64 ?_
          refine ao_skip rfl rfl b64 ?_
          refine ao_q (v := (.bool false)) go0 rfl (aq_pkf rfl b64 rfl) ?_
          exact AO.done (M57 false q49.2 (Sh.some_eq h3).symm _ (Wk.to (L := [(0, (.ptr 0 0 0 0)), (1, (.bool p1)), (5, (.own 1 0 (List.length l52))), (6, (i64 n6)), (106, (.bool false))]) ⟨.rfl, .rfl, .rfl, .rfl, .rfl, trivial⟩))
      refine AW.seq fun K66 hK66 => ?_
      refine AW.regionO (by rfl) ?_
      refine ao_q (v := (i64 q50.2)) go0 rfl (aq_mv rfl) ?_
      refine ao_q (v := (.bool (decide (0 < q50.2)))) go0 rfl (aq_gt rfl rfl) ?_
      refine AO.done (hK66 _ ?_)
      refine AW.cond' (b := decide (0 < q50.2)) rfl (fun b67 => ?_) (fun b67 => ?_)
      · replace h3 := Sh.ite_t b67 h3
        refine AW.regionO (by rfl) ?_
        refine ao_q (v := (.own 4 0 (List.length q50.1))) go0 rfl (aq_mv rfl) ?_
        refine ao_q (v := (.own 4 0 (List.length q50.1))) go0 rfl (aq_as rfl) ?_
        exact AO.done (M53 q50.1 (Sh.some_eq h3).symm _ (by refine Wk.trans (Wk.permk (L := [(0, (.ptr 0 0 0 0)), (1, (.bool p1)), (5, (.own 1 0 (List.length q50.1))), (6, (i64 n6))]) (st' := [⟨0, 84, 2, [[(.sl (List.map eI_u8 s0_0)), (i64 q49.2)]]⟩, ⟨0, 41, 3, List.map eCell q50.1⟩]) (st1 := [⟨0, 84, 2, [[(.sl (List.map eI_u8 s0_0)), (i64 q49.2)]]⟩, ⟨0, 41, 3, List.map eCell q50.1⟩]) [0, 4] rfl (.raw rfl rfl .nil) (by decide) rfl rfl (.raw rfl rfl (.pure (pure_map fun _ => rfl) .nil)) ⟨.rfl, .rfl, .rfl, .rfl, trivial⟩) ?_; exact Wk.to (L := [(0, (.ptr 0 0 0 0)), (1, (.bool p1)), (5, (.own 1 0 (List.length q50.1))), (6, (i64 n6))]) ⟨.rfl, .rfl, .rfl, .rfl, trivial⟩))
      · replace h3 := Sh.ite_f b67 h3
        exact AW.skip (M53 l43 (Sh.some_eq h3).symm _ (by refine Wk.trans (Wk.permk (L := [(0, (.ptr 0 0 0 0)), (1, (.bool p1)), (5, (.own 1 0 (List.length l43))), (6, (i64 n6))]) (st' := [⟨0, 84, 2, [[(.sl (List.map eI_u8 s0_0)), (i64 q49.2)]]⟩, ⟨0, 41, 3, List.map eCell l43⟩]) (st1 := [⟨0, 84, 2, [[(.sl (List.map eI_u8 s0_0)), (i64 q49.2)]]⟩, ⟨0, 41, 3, List.map eCell l43⟩]) [0, 1] rfl (.raw rfl rfl .nil) (by decide) rfl rfl (.raw rfl rfl (.pure (pure_map fun _ => rfl) .nil)) ⟨.rfl, .rfl, .rfl, .rfl, trivial⟩) ?_; exact Wk.to (L := [(0, (.ptr 0 0 0 0)), (1, (.bool p1)), (5, (.own 1 0 (List.length l43))), (6, (i64 n6))]) ⟨.rfl, .rfl, .rfl, .rfl, trivial⟩))
    refine AW.block (AW.loopF (σ := Int × Int × (List Cell) × (List Int)) (fun n v => spec_goodHeap_L2 N s0_0 n v.1 v.2.1 v.2.2.1 v.2.2.2 = some o45) (fun (k38, f39, l40, l41) => ⟨133, envL [(0, (.ptr 0 0 0 0)), (1, (.bool p1)), (5, (.own 1 0 (List.length l40))), (6, (i64 n6)), (7, (.own 2 0 (List.length l41))), (8, (i64 k38))], [⟨0, 84, 2, [[(.sl (List.map eI_u8 s0_0)), (i64 f39)]]⟩, ⟨0, 41, 3, List.map eCell l40⟩, ⟨0, 3, 1, List.map eI l41⟩]⟩) N (q37.1, q37.2, l8, []) h3 (Wk.to (L := [(0, (.ptr 0 0 0 0)), (1, (.bool p1)), (5, (.own 1 0 (List.length l8))), (6, (i64 n6)), (7, (.own 2 0 (List.length ([] : List Int)))), (8, (i64 q37.1))]) ⟨.rfl, .rfl, .rfl, .rfl, .rfl, .rfl, trivial⟩) (fun _ hv => by rw [spec_goodHeap_L2] at hv; cases hv) ?_)
    rintro n ⟨k38, f39, l40, l41⟩ h3
    try dsimp only at h3 ⊢
    rw [spec_goodHeap_L2] at h3
    refine AW.seq fun K68 hK68 => ?_
    refine AW.seq fun K69 hK69 => ?_
    refine AW.regionO (by rfl) ?_
    refine ao_q (v := (i64 k38)) go0 rfl (aq_mv rfl) ?_
    refine ao_q (v := (.bool (decide (0 < k38)))) go0 rfl (aq_gt rfl rfl) ?_
    refine AO.done (hK69 _ ?_)
    refine AW.cond' (b := decide (0 < k38)) rfl (fun b70 => ?_) (fun b70 => ?_)
    · replace h3 := Sh.ite_t b70 h3
      refine AW.skip (hK68 _ ?_)
      refine AW.seq fun K71 hK71 => ?_
      refine AW.block ?_
      refine AW.seq fun K72 hK72 => ?_
      refine AW.regionO (by rfl) ?_
      refine ao_q (v := (.ptr 0 0 0 0)) go0 rfl (aq_mv rfl) ?_
      obtain ⟨q73, gq73, h3⟩ := Sh.bind_some h3
      refine ao_calls (rowsP := [⟨0, 84, 2, [[(.sl (List.map eI_u8 s0_0)), (i64 f39)]]⟩]) (rows0 := [⟨0, 84, 2, [[(.sl (List.map eI_u8 s0_0)), (i64 f39)]]⟩]) (rows1 := [⟨0, 84, 2, [[(.sl (List.map eI_u8 s0_0)), (i64 q73.2)]]⟩]) (rows2 := []) (rows1' := [⟨0, 84, 2, [[(.sl (List.map eI_u8 s0_0)), (i64 q73.2)]]⟩]) (rows2' := []) (st' := [⟨0, 84, 2, [[(.sl (List.map eI_u8 s0_0)), (i64 q73.2)]]⟩, ⟨0, 41, 3, List.map eCell l40⟩, ⟨0, 3, 1, List.map eI l41⟩]) (v' := (i64 q73.1)) [0] go0 hb81 (spec_reader_pick_ok gq73) rfl (by decide) rfl rfl (.raw rfl rfl .nil) rfl rfl (.raw rfl rfl .nil) .nil rfl rfl ?_
      refine ao_q (v := (i64 (Sh.w (q73.1 - 5)))) go0 rfl (aq_sub rfl rfl) ?_
      refine ao_q (v := (i64 (Sh.w (q73.1 - 5)))) go0 rfl (aq_as rfl) ?_
      refine AO.done (hK72 _ ?_)
      refine AW.seq fun K74 hK74 => ?_
      obtain ⟨o78, h4, h3⟩ := Sh.bind_some h3
      have M78 : ∀ (w75 : Int) (f76 : Int) (l77 : (List Cell)), o78 = (w75, f76, l77) → ∀ s, Wk 1 s ⟨133, envL [(0, (.ptr 0 0 0 0)), (1, (.bool p1)), (5, (.own 1 0 (List.length l77))), (6, (i64 n6)), (7, (.own 2 0 (List.length l41))), (8, (i64 k38)), (9, (i64 w75))], [⟨0, 84, 2, [[(.sl (List.map eI_u8 s0_0)), (i64 f76)]]⟩, ⟨0, 41, 3, List.map eCell l77⟩, ⟨0, 3, 1, List.map eI l41⟩]⟩ → K74 s := by
        intro w75 f76 l77 hq s hw
        subst o78
        try dsimp only at h3
        refine hK74 _ (AW.weaken hw ?_)
        refine AW.regionO (by rfl) ?_
        refine ao_q (v := (.own 2 0 (List.length l41))) go0 rfl (aq_mv rfl) ?_
        refine ao_q (v := (i64 w75)) go0 rfl (aq_mv rfl) ?_
        refine ao_bs (m := 3) (st' := [⟨0, 84, 2, [[(.sl (List.map eI_u8 s0_0)), (i64 f76)]]⟩, ⟨0, 41, 3, List.map eCell l77⟩, ⟨0, 3, 1, List.map eI l41⟩, ⟨0, 3, 1, List.map eI [w75]⟩]) (l := [w75]) (enc := eI) go0 ei32 (by decide) rfl rfl rfl rfl rfl rfl ?_
        obtain ⟨l79, gl79, h3⟩ := Sh.bind_some h3
        refine ao_apo (st' := [⟨0, 84, 2, [[(.sl (List.map eI_u8 s0_0)), (i64 f76)]]⟩, ⟨0, 41, 3, List.map eCell l77⟩, ⟨1, 3, 1, List.map eI l79⟩, ⟨0, 3, 1, List.map eI [w75]⟩]) (l2 := [w75]) go0 ei32 rfl rfl rfl rfl (el_o rfl rfl) (fun _ => rfl) gl79 rfl ?_
        refine ao_q (v := (.own 2 1 (List.length l79))) go0 rfl (aq_as rfl) ?_
        refine AO.done (hK71 _ ?_)
        refine AW.regionO (by rfl) ?_
        refine ao_q (v := (i64 k38)) go0 rfl (aq_mv rfl) ?_
        refine ao_q (v := (i64 (Sh.w (k38 - 1)))) go0 rfl (aq_sub rfl rfl) ?_
        refine ao_q (v := (i64 (Sh.w (k38 - 1)))) go0 rfl (aq_as rfl) ?_
        exact AO.done (Exists.intro (Sh.w (k38 - 1), f76, l77, l79) (And.intro h3 (by refine Wk.trans (Wk.rk (L := [(0, (.ptr 0 0 0 0)), (1, (.bool p1)), (5, (.own 1 0 (List.length l77))), (6, (i64 n6)), (7, (.own 2 0 (List.length l79))), (8, (i64 (Sh.w (k38 - 1))))]) (st' := [⟨0, 84, 2, [[(.sl (List.map eI_u8 s0_0)), (i64 f76)]]⟩, ⟨0, 41, 3, List.map eCell l77⟩, ⟨0, 3, 1, List.map eI l79⟩, ⟨0, 3, 1, List.map eI [w75]⟩]) (.raw rfl rfl rfl (.pure rfl (pure_map fun _ => rfl) (.pure rfl (pure_map fun _ => rfl) (.pure rfl (pure_map fun _ => rfl) .nil)))) ⟨.rfl, .rfl, .rfl, .rfl, .rfl, .rfl, trivial⟩) ?_; refine Wk.trans (Wk.permk (L := [(0, (.ptr 0 0 0 0)), (1, (.bool p1)), (5, (.own 1 0 (List.length l77))), (6, (i64 n6)), (7, (.own 2 0 (List.length l79))), (8, (i64 (Sh.w (k38 - 1))))]) (st' := [⟨0, 84, 2, [[(.sl (List.map eI_u8 s0_0)), (i64 f76)]]⟩, ⟨0, 41, 3, List.map eCell l77⟩, ⟨0, 3, 1, List.map eI l79⟩]) (st1 := [⟨0, 84, 2, [[(.sl (List.map eI_u8 s0_0)), (i64 f76)]]⟩, ⟨0, 41, 3, List.map eCell l77⟩, ⟨0, 3, 1, List.map eI l79⟩]) [0, 1, 2] rfl (.raw rfl rfl .nil) (by decide) rfl rfl (.raw rfl rfl (.pure (pure_map fun _ => rfl) (.pure (pure_map fun _ => rfl) .nil))) ⟨.rfl, .rfl, .rfl, .rfl, .rfl, .rfl, trivial⟩) ?_; exact Wk.to (L := [(0, (.ptr 0 0 0 0)), (1, (.bool p1)), (5, (.own 1 0 (List.length l77))), (6, (i64 n6)), (7, (.own 2 0 (List.length l79))), (8, (i64 (Sh.w (k38 - 1))))]) ⟨.rfl, .rfl, .rfl, .rfl, .rfl, .rfl, trivial⟩)))
      refine AW.seq fun K80 hK80 => ?_
      obtain ⟨o83, h5, h4⟩ := Sh.bind_some h4
      have M83 : ∀ (t81 : Bool) (f82 : Int), o83 = (t81, f82) → ∀ s, Wk 1 s ⟨133, envL [(0, (.ptr 0 0 0 0)), (1, (.bool p1)), (5, (.own 1 0 (List.length l40))), (6, (i64 n6)), (7, (.own 2 0 (List.length l41))), (8, (i64 k38)), (9, (i64 (Sh.w (q73.1 - 5)))), (40, (.bool t81))], [⟨0, 84, 2, [[(.sl (List.map eI_u8 s0_0)), (i64 f82)]]⟩, ⟨0, 41, 3, List.map eCell l40⟩, ⟨0, 3, 1, List.map eI l41⟩]⟩ → K80 s := by
        intro t81 f82 hq s hw
        subst o83
        try dsimp only at h4
        refine hK80 _ (AW.weaken hw ?_)
        refine AW.cond' (b := t81) rfl (fun b84 => ?_) (fun b84 => ?_)
        · replace h4 := Sh.ite_t b84 h4
          refine AW.seq fun K85 hK85 => ?_
          refine AW.regionO (by rfl) ?_
          refine ao_q (v := (.ptr 0 0 0 0)) go0 rfl (aq_mv rfl) ?_
          refine ao_q (v := (.own 1 0 (List.length l40))) go0 rfl (aq_mv rfl) ?_
          refine ao_q (v := (i64 (Sh.len l40))) go0 rfl (aq_leno sl25 rfl rfl rfl) ?_
          obtain ⟨q86, gq86, h4⟩ := Sh.bind_some h4
          refine ao_calls (rowsP := [⟨0, 84, 2, [[(.sl (List.map eI_u8 s0_0)), (i64 f82)]]⟩]) (rows0 := [⟨0, 84, 2, [[(.sl (List.map eI_u8 s0_0)), (i64 f82)]]⟩]) (rows1 := [⟨0, 84, 2, [[(.sl (List.map eI_u8 s0_0)), (i64 q86.2)]]⟩]) (rows2 := []) (rows1' := [⟨0, 84, 2, [[(.sl (List.map eI_u8 s0_0)), (i64 q86.2)]]⟩]) (rows2' := []) (st' := [⟨0, 84, 2, [[(.sl (List.map eI_u8 s0_0)), (i64 q86.2)]]⟩, ⟨0, 41, 3, List.map eCell l40⟩, ⟨0, 3, 1, List.map eI l41⟩]) (v' := (i64 q86.1)) [0] go0 hb81 (spec_reader_pick_ok gq86) rfl (by decide) rfl rfl (.raw rfl rfl .nil) rfl rfl (.raw rfl rfl .nil) .nil rfl rfl ?_
          refine ao_q (v := (i64 q86.1)) go0 rfl (aq_as rfl) ?_
          refine AO.done (hK85 _ ?_)
          refine AW.seq fun K87 hK87 => ?_
          refine AW.regionO (by rfl) ?_
          refine ao_q (v := (.own 1 0 (List.length l40))) go0 rfl (aq_mv rfl) ?_
          refine ao_q (v := (i64 q86.1)) go0 rfl (aq_mv rfl) ?_
          obtain ⟨c88, gc88, h4⟩ := Sh.bind_some h4
          refine ao_q (v := (.ptr 1 0 (Int.toNat q86.1) 0)) go0 rfl (aq_ixo ei25 rfl rfl rfl rfl gc88) ?_
          refine ao_q (v := (.ptr 1 0 (Int.toNat q86.1) 0)) go0 rfl (aq_fap fi41_0 rfl rfl (show 0 + 0 ≤ 3 by decide) rfl) ?_
          refine ao_q (v := (i64 c88.count)) go0 rfl (aq_ldp ti3 rfl rfl (map_get gc88) rfl) ?_
          refine ao_q (v := (.bool (decide (0 < c88.count)))) go0 rfl (aq_gt rfl rfl) ?_
          refine AO.done (hK87 _ ?_)
          refine AW.cond' (b := decide (0 < c88.count)) rfl (fun b89 => ?_) (fun b89 => ?_)
          · replace h4 := Sh.ite_t b89 h4
            refine AW.seq fun K90 hK90 => ?_
            refine AW.regionO (by rfl) ?_
            refine ao_q (v := (i64 q86.1)) go0 rfl (aq_mv rfl) ?_
            refine ao_q (v := (i64 (Sh.w (1000 + q86.1)))) go0 rfl (aq_add rfl rfl) ?_
            refine ao_q (v := (i64 (Sh.w (1000 + q86.1)))) go0 rfl (aq_as rfl) ?_
            refine AO.done (hK90 _ ?_)
            refine AW.seq fun K91 hK91 => ?_
            obtain ⟨o94, h5, h4⟩ := Sh.bind_some h4
            have M94 : ∀ (t92 : Bool) (f93 : Int), o94 = (t92, f93) → ∀ s, Wk 1 s ⟨133, envL [(0, (.ptr 0 0 0 0)), (1, (.bool p1)), (5, (.own 1 0 (List.length l40))), (6, (i64 n6)), (7, (.own 2 0 (List.length l41))), (8, (i64 k38)), (9, (i64 (Sh.w (1000 + q86.1)))), (10, (i64 q86.1)), (68, (.bool t92))], [⟨0, 84, 2, [[(.sl (List.map eI_u8 s0_0)), (i64 f93)]]⟩, ⟨0, 41, 3, List.map eCell l40⟩, ⟨0, 3, 1, List.map eI l41⟩]⟩ → K91 s := by
              intro t92 f93 hq s hw
              subst o94
              try dsimp only at h4
              refine hK91 _ (AW.weaken hw ?_)
              refine AW.cond' (b := t92) rfl (fun b95 => ?_) (fun b95 => ?_)
              · replace h4 := Sh.ite_t b95 h4
                refine AW.regionO (by rfl) ?_
                refine ao_q (v := (.own 1 0 (List.length l40))) go0 rfl (aq_mv rfl) ?_
                refine ao_q (v := (i64 q86.1)) go0 rfl (aq_mv rfl) ?_
                refine ao_q (v := (.own 1 0 (List.length l40))) go0 rfl (aq_mv rfl) ?_
                refine ao_q (v := (i64 q86.1)) go0 rfl (aq_mv rfl) ?_
                refine ao_q (v := (.ptr 1 0 (Int.toNat q86.1) 0)) go0 rfl (aq_ixo ei25 rfl rfl rfl rfl gc88) ?_
                refine ao_q (v := (.ptr 1 0 (Int.toNat q86.1) 0)) go0 rfl (aq_fap fi41_0 rfl rfl (show 0 + 0 ≤ 3 by decide) rfl) ?_
                refine ao_q (v := (i64 c88.count)) go0 rfl (aq_ldp ti3 rfl rfl (map_get gc88) rfl) ?_
                refine ao_q (v := (i64 (Sh.w (c88.count + 1)))) go0 rfl (aq_add rfl rfl) ?_
                refine ao_q (v := (.ptr 1 0 (Int.toNat q86.1) 0)) go0 rfl (aq_ixo ei25 rfl rfl rfl rfl gc88) ?_
                refine ao_q (v := (.ptr 1 0 (Int.toNat q86.1) 0)) go0 rfl (aq_fap fi41_0 rfl rfl (show 0 + 0 ≤ 3 by decide) rfl) ?_
                refine ao_stl (st' := [⟨0, 84, 2, [[(.sl (List.map eI_u8 s0_0)), (i64 f93)]]⟩, ⟨0, 41, 3, List.map eCell (Sh.put l40 q86.1 (Cell.mk (Sh.w (c88.count + 1)) c88.tag c88.fields))⟩, ⟨0, 3, 1, List.map eI l41⟩]) (u' := (Cell.mk (Sh.w (c88.count + 1)) c88.tag c88.fields)) go0 ti3 rfl rfl gc88 rfl rfl rfl (show 0 + 1 ≤ 3 by decide) rfl rfl ?_
                exact AO.done (M78 (Sh.w (1000 + q86.1)) f93 (Sh.put l40 q86.1 (Cell.mk (Sh.w (c88.count + 1)) c88.tag c88.fields)) (Sh.some_eq h4).symm _ (Wk.to (L := [(0, (.ptr 0 0 0 0)), (1, (.bool p1)), (5, (.own 1 0 (List.length (Sh.put l40 q86.1 (Cell.mk (Sh.w (c88.count + 1)) c88.tag c88.fields))))), (6, (i64 n6)), (7, (.own 2 0 (List.length l41))), (8, (i64 k38)), (9, (i64 (Sh.w (1000 + q86.1))))]) ⟨.rfl, .rfl, (.len (by simp only [Sh.put_len])), .rfl, .rfl, .rfl, .rfl, trivial⟩))
              · replace h4 := Sh.ite_f b95 h4
                exact AW.skip (M78 (Sh.w (1000 + q86.1)) f93 l40 (Sh.some_eq h4).symm _ (Wk.to (L := [(0, (.ptr 0 0 0 0)), (1, (.bool p1)), (5, (.own 1 0 (List.length l40))), (6, (i64 n6)), (7, (.own 2 0 (List.length l41))), (8, (i64 k38)), (9, (i64 (Sh.w (1000 + q86.1))))]) ⟨.rfl, .rfl, .rfl, .rfl, .rfl, .rfl, .rfl, trivial⟩))
            refine AW.drawTailO 13 (by kernel_rfl) (by kernel_rfl) (by rfl) ?_
            refine d_q (v := (.own 1 0 (List.length l40))) go0 rfl (aq_mv rfl) ?_
            refine d_q (v := (i64 q86.1)) go0 rfl (aq_mv rfl) ?_
            refine d_q (v := (.ptr 1 0 (Int.toNat q86.1) 0)) go0 rfl (aq_ixo ei25 rfl rfl rfl rfl gc88) ?_
            refine d_q (v := (.ptr 1 0 (Int.toNat q86.1) 0)) go0 rfl (aq_fap fi41_0 rfl rfl (show 0 + 0 ≤ 3 by decide) rfl) ?_
            refine d_q (v := (i64 c88.count)) go0 rfl (aq_ldp ti3 rfl rfl (map_get gc88) rfl) ?_
            refine d_q (v := (.own 1 0 (List.length l40))) go0 rfl (aq_mv rfl) ?_
            obtain ⟨q96, gq96, h5⟩ := Sh.bind_some h5
            refine d_callbz (v := (.sl (List.map eI q96))) go0 hb66 (spec_refsOf_ok gq96) rfl (.own rfl rfl (fun _ => rfl) .nil) rfl (srow (fun _ => rfl) trivial) (by refine Wk.trans (Wk.frz (L := [(0, (.sl (List.map eI q96)))]) (st' := [⟨1, 3, 1, []⟩]) (id := 0) rfl (show 0 ≤ 0 by decide) (pure_map fun _ => rfl) ⟨(.frz rfl), trivial⟩ rfl) ?_; refine Wk.trans (Wk.permk (L := [(0, (.sl (List.map eI q96)))]) (st' := []) (st1 := []) [] rfl .nil (by decide) rfl rfl .nil ⟨.rfl, trivial⟩) ?_; exact Wk.to (L := [(0, (.sl (List.map eI q96)))]) ⟨.rfl, trivial⟩) rfl ?_
            refine d_q (v := (i64 q86.1)) go0 rfl (aq_mv rfl) ?_
            obtain ⟨c97, gc97, h5⟩ := Sh.bind_some h5
            refine d_q (v := (.iptr (eI c97) 0)) go0 rfl (aq_ixs ei32 rfl rfl gc97 rfl) ?_
            refine d_q (v := (i64 c97)) go0 rfl (aq_ldi ti3 rfl rfl) ?_
            refine d_q (v := (.bool (decide (c88.count = c97)))) go0 rfl (aq_eq rfl rfl) ?_
            refine d_q (v := (.bool (decide (c88.count = c97)))) go0 rfl (aq_mv rfl) ?_
            rcases Sh.ite_some h5 with ⟨b98, h5⟩ | ⟨b98, h5⟩
            · skip
              refine d_skip rfl rfl b98 ?_
              refine d_done ?_
              refine ao_skip rfl rfl b98 ?_
              refine ao_skip rfl rfl b98 ?_
              refine ao_q (v := (.bool true)) go0 rfl (aq_pkt rfl b98 rfl) ?_
              exact AO.done (M94 true q86.2 (Sh.some_eq h5).symm _ (Wk.to (L := [(0, (.ptr 0 0 0 0)), (1, (.bool p1)), (5, (.own 1 0 (List.length l40))), (6, (i64 n6)), (7, (.own 2 0 (List.length l41))), (8, (i64 k38)), (9, (i64 (Sh.w (1000 + q86.1)))), (10, (i64 q86.1)), (68, (.bool true))]) ⟨.rfl, .rfl, .rfl, .rfl, .rfl, .rfl, .rfl, .rfl, .rfl, trivial⟩))
            · skip
              refine d_q (v := (.ptr 0 0 0 0)) (go1 rfl rfl b98) rfl (aq_mv rfl) ?_
              refine d_done ?_
              obtain ⟨q99, gq99, h5⟩ := Sh.bind_some h5
              refine ao_calls (rowsP := [⟨0, 84, 2, [[(.sl (List.map eI_u8 s0_0)), (i64 q86.2)]]⟩]) (rows0 := [⟨0, 84, 2, [[(.sl (List.map eI_u8 s0_0)), (i64 q86.2)]]⟩]) (rows1 := [⟨0, 84, 2, [[(.sl (List.map eI_u8 s0_0)), (i64 q99.2)]]⟩]) (rows2 := []) (rows1' := [⟨0, 84, 2, [[(.sl (List.map eI_u8 s0_0)), (i64 q99.2)]]⟩]) (rows2' := []) (st' := [⟨0, 84, 2, [[(.sl (List.map eI_u8 s0_0)), (i64 q99.2)]]⟩, ⟨0, 41, 3, List.map eCell l40⟩, ⟨0, 3, 1, List.map eI l41⟩]) (v' := (i64 q99.1)) [0] (go1 rfl rfl b98) hb81 (spec_reader_pick_ok gq99) rfl (by decide) rfl rfl (.raw rfl rfl .nil) rfl rfl (.raw rfl rfl .nil) .nil rfl rfl ?_
              refine ao_q (v := (.bool (decide (q99.1 = 0)))) (go1 rfl rfl b98) rfl (aq_eq rfl rfl) ?_
              refine ao_q (v := (.bool (decide (q99.1 = 0)))) go0 rfl (aq_pkf rfl b98 rfl) ?_
              exact AO.done (M94 (decide (q99.1 = 0)) q99.2 (Sh.some_eq h5).symm _ (Wk.to (L := [(0, (.ptr 0 0 0 0)), (1, (.bool p1)), (5, (.own 1 0 (List.length l40))), (6, (i64 n6)), (7, (.own 2 0 (List.length l41))), (8, (i64 k38)), (9, (i64 (Sh.w (1000 + q86.1)))), (10, (i64 q86.1)), (68, (.bool (decide (q99.1 = 0))))]) ⟨.rfl, .rfl, .rfl, .rfl, .rfl, .rfl, .rfl, .rfl, .rfl, trivial⟩))
          · replace h4 := Sh.ite_f b89 h4
            exact AW.skip (M78 (Sh.w (q73.1 - 5)) q86.2 l40 (Sh.some_eq h4).symm _ (Wk.to (L := [(0, (.ptr 0 0 0 0)), (1, (.bool p1)), (5, (.own 1 0 (List.length l40))), (6, (i64 n6)), (7, (.own 2 0 (List.length l41))), (8, (i64 k38)), (9, (i64 (Sh.w (q73.1 - 5))))]) ⟨.rfl, .rfl, .rfl, .rfl, .rfl, .rfl, .rfl, trivial⟩))
        · replace h4 := Sh.ite_f b84 h4
          exact AW.skip (M78 (Sh.w (q73.1 - 5)) f82 l40 (Sh.some_eq h4).symm _ (Wk.to (L := [(0, (.ptr 0 0 0 0)), (1, (.bool p1)), (5, (.own 1 0 (List.length l40))), (6, (i64 n6)), (7, (.own 2 0 (List.length l41))), (8, (i64 k38)), (9, (i64 (Sh.w (q73.1 - 5))))]) ⟨.rfl, .rfl, .rfl, .rfl, .rfl, .rfl, .rfl, trivial⟩))
      refine AW.regionO (by rfl) ?_
      refine ao_q (v := (.own 1 0 (List.length l40))) go0 rfl (aq_mv rfl) ?_
      refine ao_q (v := (i64 (Sh.len l40))) go0 rfl (aq_leno sl25 rfl rfl rfl) ?_
      refine ao_q (v := (.bool (decide (0 < (Sh.len l40))))) go0 rfl (aq_gt rfl rfl) ?_
      refine ao_q (v := (.bool (decide (0 < (Sh.len l40))))) go0 rfl (aq_mv rfl) ?_
      rcases Sh.ite_some h5 with ⟨b100, h5⟩ | ⟨b100, h5⟩
      · skip
        refine ao_q (v := (.ptr 0 0 0 0)) (go1 rfl rfl b100) rfl (aq_mv rfl) ?_
        obtain ⟨q101, gq101, h5⟩ := Sh.bind_some h5
        refine ao_calls (rowsP := [⟨0, 84, 2, [[(.sl (List.map eI_u8 s0_0)), (i64 q73.2)]]⟩]) (rows0 := [⟨0, 84, 2, [[(.sl (List.map eI_u8 s0_0)), (i64 q73.2)]]⟩]) (rows1 := [⟨0, 84, 2, [[(.sl (List.map eI_u8 s0_0)), (i64 q101.2)]]⟩]) (rows2 := []) (rows1' := [⟨0, 84, 2, [[(.sl (List.map eI_u8 s0_0)), (i64 q101.2)]]⟩]) (rows2' := []) (st' := [⟨0, 84, 2, [[(.sl (List.map eI_u8 s0_0)), (i64 q101.2)]]⟩, ⟨0, 41, 3, List.map eCell l40⟩, ⟨0, 3, 1, List.map eI l41⟩]) (v' := (i64 q101.1)) [0] (go1 rfl rfl b100) hb81 (spec_reader_pick_ok gq101) rfl (by decide) rfl rfl (.raw rfl rfl .nil) rfl rfl (.raw rfl rfl .nil) .nil rfl rfl ?_
        refine ao_q (v := (.bool (decide (0 < q101.1)))) (go1 rfl rfl b100) rfl (aq_gt rfl rfl) ?_
        refine ao_q (v := (.bool (decide (0 < q101.1)))) go0 rfl (aq_pkt rfl b100 rfl) ?_
        exact AO.done (M83 (decide (0 < q101.1)) q101.2 (Sh.some_eq h5).symm _ (Wk.to (L := [(0, (.ptr 0 0 0 0)), (1, (.bool p1)), (5, (.own 1 0 (List.length l40))), (6, (i64 n6)), (7, (.own 2 0 (List.length l41))), (8, (i64 k38)), (9, (i64 (Sh.w (q73.1 - 5)))), (40, (.bool (decide (0 < q101.1))))]) ⟨.rfl, .rfl, .rfl, .rfl, .rfl, .rfl, .rfl, .rfl, trivial⟩))
      · skip
        refine ao_skip rfl rfl b100 ?_
        refine ao_skip rfl rfl b100 ?_
        refine ao_skip rfl rfl b100 ?_
        refine ao_q (v := (.bool false)) go0 rfl (aq_pkf rfl b100 rfl) ?_
        exact AO.done (M83 false q73.2 (Sh.some_eq h5).symm _ (Wk.to (L := [(0, (.ptr 0 0 0 0)), (1, (.bool p1)), (5, (.own 1 0 (List.length l40))), (6, (i64 n6)), (7, (.own 2 0 (List.length l41))), (8, (i64 k38)), (9, (i64 (Sh.w (q73.1 - 5)))), (40, (.bool false))]) ⟨.rfl, .rfl, .rfl, .rfl, .rfl, .rfl, .rfl, .rfl, trivial⟩))
    · replace h3 := Sh.ite_f b70 h3
      exact AW.exit (M45 f39 l40 l41 (Sh.some_eq h3).symm _ (Wk.to (L := [(0, (.ptr 0 0 0 0)), (1, (.bool p1)), (5, (.own 1 0 (List.length l40))), (6, (i64 n6)), (7, (.own 2 0 (List.length l41)))]) ⟨.rfl, .rfl, .rfl, .rfl, .rfl, trivial⟩))
  · replace h1 := Sh.ite_f b29 h1
    exact AW.exit (M11 f7 l8 (Sh.some_eq h1).symm _ (Wk.to (L := [(0, (.ptr 0 0 0 0)), (1, (.bool p1)), (5, (.own 1 0 (List.length l8)))]) ⟨.rfl, .rfl, .rfl, trivial⟩))

set_option maxRecDepth 100000 in
set_option maxHeartbeats 4000000 in
theorem spec_reader_spoilInts_ok {s0_0 : (List Int)} {s0_1 : Int} {p1 : (List Int)} {r : (List Int) × Int} (h0 : spec_reader_spoilInts s0_0 s0_1 p1 = some r) : ACalls Try.prog 95 [(.ptr 0 0 0 0), (.sl (List.map eI p1))] [⟨0, 84, 2, [[(.sl (List.map eI_u8 s0_0)), (i64 s0_1)]]⟩] (fun v st => v = (.own 1 0 (List.length r.1)) ∧ st = [⟨0, 84, 2, [[(.sl (List.map eI_u8 s0_0)), (i64 r.2)]]⟩, ⟨0, 3, 1, List.map eI r.1⟩]) := by
  unfold spec_reader_spoilInts at h0
  refine ACalls.intro Try.func95 rfl (by show 2 ≤ 32; decide) ?_
  show AW _ 1 _ (aret _ 1 Try.f95 _) ⟨32, _, _⟩
  refine AW.weaken (Wk.to (L := [(0, (.ptr 0 0 0 0)), (1, (.sl (List.map eI p1)))]) ⟨.rfl, .rfl, trivial⟩) ?_
  refine AW.seq fun K1 hK1 => ?_
  refine AW.regionO (by rfl) ?_
  refine ao_q (v := .zc) go0 rfl (aq_as rfl) ?_
  refine AO.done (hK1 _ ?_)
  refine AW.seq fun K2 hK2 => ?_
  refine AW.regionO (by rfl) ?_
  refine ao_q (v := (.sl (List.map eI p1))) go0 rfl (aq_mv rfl) ?_
  obtain ⟨q3, gq3, h0⟩ := Sh.bind_some h0
  refine ao_call (v' := (.own 1 0 (List.length q3))) (st' := [⟨0, 84, 2, [[(.sl (List.map eI_u8 s0_0)), (i64 s0_1)]]⟩, ⟨0, 3, 1, List.map eI q3⟩]) go0 hb93 (spec_copyInts_ok gq3) rfl rfl ⟨pure_map fun _ => rfl, trivial⟩ rfl rfl ?_
  refine ao_q (v := (.own 1 0 (List.length q3))) go0 rfl (aq_as rfl) ?_
  refine AO.done (hK2 _ ?_)
  refine AW.seq fun K4 hK4 => ?_
  refine AW.seq fun K5 hK5 => ?_
  obtain ⟨o8, h1, h0⟩ := Sh.bind_some h0
  have M8 : ∀ (t6 : Bool) (f7 : Int), o8 = (t6, f7) → ∀ s, Wk 1 s ⟨32, envL [(0, (.ptr 0 0 0 0)), (5, (.own 1 0 (List.length q3))), (15, (.bool t6))], [⟨0, 84, 2, [[(.sl (List.map eI_u8 s0_0)), (i64 f7)]]⟩, ⟨0, 3, 1, List.map eI q3⟩]⟩ → K5 s := by
    intro t6 f7 hq s hw
    subst o8
    try dsimp only at h0
    refine hK5 _ (AW.weaken hw ?_)
    refine AW.cond' (b := t6) rfl (fun b9 => ?_) (fun b9 => ?_)
    · replace h0 := Sh.ite_t b9 h0
      refine AW.seq fun K10 hK10 => ?_
      refine AW.regionO (by rfl) ?_
      refine ao_q (v := (.own 1 0 (List.length q3))) go0 rfl (aq_mv rfl) ?_
      refine ao_q (v := (.ptr 0 0 0 0)) go0 rfl (aq_mv rfl) ?_
      refine ao_q (v := (.own 1 0 (List.length q3))) go0 rfl (aq_mv rfl) ?_
      refine ao_q (v := (i64 (Sh.len q3))) go0 rfl (aq_leno sl32 rfl rfl rfl) ?_
      obtain ⟨q11, gq11, h0⟩ := Sh.bind_some h0
      refine ao_calls (rowsP := [⟨0, 84, 2, [[(.sl (List.map eI_u8 s0_0)), (i64 f7)]]⟩]) (rows0 := [⟨0, 84, 2, [[(.sl (List.map eI_u8 s0_0)), (i64 f7)]]⟩]) (rows1 := [⟨0, 84, 2, [[(.sl (List.map eI_u8 s0_0)), (i64 q11.2)]]⟩]) (rows2 := []) (rows1' := [⟨0, 84, 2, [[(.sl (List.map eI_u8 s0_0)), (i64 q11.2)]]⟩]) (rows2' := []) (st' := [⟨0, 84, 2, [[(.sl (List.map eI_u8 s0_0)), (i64 q11.2)]]⟩, ⟨0, 3, 1, List.map eI q3⟩]) (v' := (i64 q11.1)) [0] go0 hb81 (spec_reader_pick_ok gq11) rfl (by decide) rfl rfl (.raw rfl rfl .nil) rfl rfl (.raw rfl rfl .nil) .nil rfl rfl ?_
      refine ao_q (v := (.ptr 0 0 0 0)) go0 rfl (aq_mv rfl) ?_
      refine ao_bs (m := 2) (st' := [⟨0, 84, 2, [[(.sl (List.map eI_u8 s0_0)), (i64 q11.2)]]⟩, ⟨0, 3, 1, List.map eI q3⟩, ⟨0, 3, 1, List.map eI [0, 1, -1, 7, 1000, 1001]⟩]) (l := [0, 1, -1, 7, 1000, 1001]) (enc := eI) go0 ei32 (by decide) rfl rfl rfl rfl rfl rfl ?_
      refine AO.weaken (Wk.frz (L := [(5, (.own 1 0 (List.length q3))), (16, (.own 1 0 (List.length q3))), (20, (i64 q11.1)), (21, (.ptr 0 0 0 0)), (22, (.sl (List.map eI [0, 1, -1, 7, 1000, 1001])))]) (st' := [⟨0, 84, 2, [[(.sl (List.map eI_u8 s0_0)), (i64 q11.2)]]⟩, ⟨0, 3, 1, List.map eI q3⟩, ⟨1, 3, 1, []⟩]) (id := 2) rfl (show 1 ≤ 2 by decide) (pure_map fun _ => rfl) ⟨.rfl, .rfl, .rfl, .rfl, (.frz rfl), trivial⟩ rfl) ?_
      obtain ⟨q12, gq12, h0⟩ := Sh.bind_some h0
      refine ao_calls (rowsP := [⟨0, 84, 2, [[(.sl (List.map eI_u8 s0_0)), (i64 q11.2)]]⟩]) (rows0 := [⟨0, 84, 2, [[(.sl (List.map eI_u8 s0_0)), (i64 q11.2)]]⟩]) (rows1 := [⟨0, 84, 2, [[(.sl (List.map eI_u8 s0_0)), (i64 q12.2)]]⟩]) (rows2 := []) (rows1' := [⟨0, 84, 2, [[(.sl (List.map eI_u8 s0_0)), (i64 q12.2)]]⟩]) (rows2' := []) (st' := [⟨0, 84, 2, [[(.sl (List.map eI_u8 s0_0)), (i64 q12.2)]]⟩, ⟨0, 3, 1, List.map eI q3⟩, ⟨1, 3, 1, []⟩]) (v' := (i64 q12.1)) [0] go0 hb80 (spec_reader_one_ok gq12) rfl (by decide) rfl rfl (.raw rfl rfl .nil) rfl rfl (.raw rfl rfl .nil) .nil rfl rfl ?_
      obtain ⟨c13, gc13, h0⟩ := Sh.bind_some h0
      refine ao_q (v := (.ptr 1 0 (Int.toNat q11.1) 0)) go0 rfl (aq_ixo ei32 rfl rfl rfl rfl gc13) ?_
      refine ao_stl (st' := [⟨0, 84, 2, [[(.sl (List.map eI_u8 s0_0)), (i64 q12.2)]]⟩, ⟨0, 3, 1, List.map eI (Sh.put q3 q11.1 q12.1)⟩, ⟨1, 3, 1, []⟩]) (u' := q12.1) go0 ti3 rfl rfl gc13 rfl rfl rfl (show 0 + 1 ≤ 1 by decide) rfl rfl ?_
      refine AO.done (hK10 _ ?_)
      refine AW.seq fun K14 hK14 => ?_
      refine AW.regionO (by rfl) ?_
      refine ao_q (v := (.own 1 0 (List.length q3))) go0 rfl (aq_mv rfl) ?_
      refine ao_q (v := (.own 1 0 (List.length q3))) go0 rfl (aq_as rfl) ?_
      refine AO.done (hK14 _ ?_)
      replace h0 := Sh.some_eq h0
      subst r
      exact AW.ret (Exists.intro _ (And.intro ((Wk.permk (L := [(4, (.own 1 0 (List.length q3)))]) (st' := [⟨0, 84, 2, [[(.sl (List.map eI_u8 s0_0)), (i64 q12.2)]]⟩, ⟨0, 3, 1, List.map eI (Sh.put q3 q11.1 q12.1)⟩]) (st1 := [⟨0, 84, 2, [[(.sl (List.map eI_u8 s0_0)), (i64 q12.2)]]⟩, ⟨0, 3, 1, List.map eI (Sh.put q3 q11.1 q12.1)⟩]) [0, 1] rfl (.raw rfl rfl .nil) (by decide) rfl rfl (.raw rfl rfl (.pure (pure_map fun _ => rfl) .nil)) ⟨.rfl, trivial⟩).trans (Wk.to (L := [(4, (.own 1 0 (List.length (Sh.put q3 q11.1 q12.1))))]) ⟨(.len (by simp only [Sh.put_len])), trivial⟩)) (And.intro rfl rfl)))
    · replace h0 := Sh.ite_f b9 h0
      refine AW.skip (hK4 _ ?_)
      refine AW.seq fun K15 hK15 => ?_
      refine AW.regionO (by rfl) ?_
      refine ao_q (v := (.own 1 0 (List.length q3))) go0 rfl (aq_mv rfl) ?_
      refine ao_q (v := (.ptr 0 0 0 0)) go0 rfl (aq_mv rfl) ?_
      refine ao_bs (m := 2) (st' := [⟨0, 84, 2, [[(.sl (List.map eI_u8 s0_0)), (i64 f7)]]⟩, ⟨0, 3, 1, List.map eI q3⟩, ⟨0, 3, 1, List.map eI [0, 1, 2, -1, 1000]⟩]) (l := [0, 1, 2, -1, 1000]) (enc := eI) go0 ei32 (by decide) rfl rfl rfl rfl rfl rfl ?_
      refine AO.weaken (Wk.frz (L := [(26, (.own 1 0 (List.length q3))), (27, (.ptr 0 0 0 0)), (28, (.sl (List.map eI [0, 1, 2, -1, 1000])))]) (st' := [⟨0, 84, 2, [[(.sl (List.map eI_u8 s0_0)), (i64 f7)]]⟩, ⟨0, 3, 1, List.map eI q3⟩, ⟨1, 3, 1, []⟩]) (id := 2) rfl (show 1 ≤ 2 by decide) (pure_map fun _ => rfl) ⟨.rfl, .rfl, (.frz rfl), trivial⟩ rfl) ?_
      obtain ⟨q16, gq16, h0⟩ := Sh.bind_some h0
      refine ao_calls (rowsP := [⟨0, 84, 2, [[(.sl (List.map eI_u8 s0_0)), (i64 f7)]]⟩]) (rows0 := [⟨0, 84, 2, [[(.sl (List.map eI_u8 s0_0)), (i64 f7)]]⟩]) (rows1 := [⟨0, 84, 2, [[(.sl (List.map eI_u8 s0_0)), (i64 q16.2)]]⟩]) (rows2 := []) (rows1' := [⟨0, 84, 2, [[(.sl (List.map eI_u8 s0_0)), (i64 q16.2)]]⟩]) (rows2' := []) (st' := [⟨0, 84, 2, [[(.sl (List.map eI_u8 s0_0)), (i64 q16.2)]]⟩, ⟨0, 3, 1, List.map eI q3⟩, ⟨1, 3, 1, []⟩]) (v' := (i64 q16.1)) [0] go0 hb80 (spec_reader_one_ok gq16) rfl (by decide) rfl rfl (.raw rfl rfl .nil) rfl rfl (.raw rfl rfl .nil) .nil rfl rfl ?_
      refine ao_bs (m := 3) (st' := [⟨0, 84, 2, [[(.sl (List.map eI_u8 s0_0)), (i64 q16.2)]]⟩, ⟨0, 3, 1, List.map eI q3⟩, ⟨1, 3, 1, []⟩, ⟨0, 3, 1, List.map eI [q16.1]⟩]) (l := [q16.1]) (enc := eI) go0 ei32 (by decide) rfl rfl rfl rfl rfl rfl ?_
      obtain ⟨l17, gl17, h0⟩ := Sh.bind_some h0
      refine ao_apo (st' := [⟨0, 84, 2, [[(.sl (List.map eI_u8 s0_0)), (i64 q16.2)]]⟩, ⟨1, 3, 1, List.map eI l17⟩, ⟨1, 3, 1, []⟩, ⟨0, 3, 1, List.map eI [q16.1]⟩]) (l2 := [q16.1]) go0 ei32 rfl rfl rfl rfl (el_o rfl rfl) (fun _ => rfl) gl17 rfl ?_
      refine ao_q (v := (.own 1 1 (List.length l17))) go0 rfl (aq_as rfl) ?_
      refine AO.done (hK15 _ ?_)
      replace h0 := Sh.some_eq h0
      subst r
      exact AW.ret (Exists.intro _ (And.intro (((Wk.rk (L := [(4, (.own 1 0 (List.length l17)))]) (st' := [⟨0, 84, 2, [[(.sl (List.map eI_u8 s0_0)), (i64 q16.2)]]⟩, ⟨0, 3, 1, List.map eI l17⟩, ⟨0, 3, 1, []⟩, ⟨0, 3, 1, List.map eI [q16.1]⟩]) (.raw rfl rfl rfl (.pure rfl (pure_map fun _ => rfl) (.pure rfl (by intro x hx; cases hx) (.pure rfl (pure_map fun _ => rfl) .nil)))) ⟨.rfl, trivial⟩).trans (Wk.permk (L := [(4, (.own 1 0 (List.length l17)))]) (st' := [⟨0, 84, 2, [[(.sl (List.map eI_u8 s0_0)), (i64 q16.2)]]⟩, ⟨0, 3, 1, List.map eI l17⟩]) (st1 := [⟨0, 84, 2, [[(.sl (List.map eI_u8 s0_0)), (i64 q16.2)]]⟩, ⟨0, 3, 1, List.map eI l17⟩]) [0, 1] rfl (.raw rfl rfl .nil) (by decide) rfl rfl (.raw rfl rfl (.pure (pure_map fun _ => rfl) .nil)) ⟨.rfl, trivial⟩)).trans (Wk.to (L := [(4, (.own 1 0 (List.length l17)))]) ⟨.rfl, trivial⟩)) (And.intro rfl rfl)))
  refine AW.regionO (by rfl) ?_
  refine ao_q (v := (.own 1 0 (List.length q3))) go0 rfl (aq_mv rfl) ?_
  refine ao_q (v := (i64 (Sh.len q3))) go0 rfl (aq_leno sl32 rfl rfl rfl) ?_
  refine ao_q (v := (.bool (decide (0 < (Sh.len q3))))) go0 rfl (aq_gt rfl rfl) ?_
  refine ao_q (v := (.bool (decide (0 < (Sh.len q3))))) go0 rfl (aq_mv rfl) ?_
  rcases Sh.ite_some h1 with ⟨b18, h1⟩ | ⟨b18, h1⟩
  · skip
    refine ao_q (v := (.ptr 0 0 0 0)) (go1 rfl rfl b18) rfl (aq_mv rfl) ?_
    obtain ⟨q19, gq19, h1⟩ := Sh.bind_some h1
    refine ao_calls (rowsP := [⟨0, 84, 2, [[(.sl (List.map eI_u8 s0_0)), (i64 s0_1)]]⟩]) (rows0 := [⟨0, 84, 2, [[(.sl (List.map eI_u8 s0_0)), (i64 s0_1)]]⟩]) (rows1 := [⟨0, 84, 2, [[(.sl (List.map eI_u8 s0_0)), (i64 q19.2)]]⟩]) (rows2 := []) (rows1' := [⟨0, 84, 2, [[(.sl (List.map eI_u8 s0_0)), (i64 q19.2)]]⟩]) (rows2' := []) (st' := [⟨0, 84, 2, [[(.sl (List.map eI_u8 s0_0)), (i64 q19.2)]]⟩, ⟨0, 3, 1, List.map eI q3⟩]) (v' := (i64 q19.1)) [0] (go1 rfl rfl b18) hb81 (spec_reader_pick_ok gq19) rfl (by decide) rfl rfl (.raw rfl rfl .nil) rfl rfl (.raw rfl rfl .nil) .nil rfl rfl ?_
    refine ao_q (v := (.bool (decide (q19.1 = 0)))) (go1 rfl rfl b18) rfl (aq_eq rfl rfl) ?_
    refine ao_q (v := (.bool (decide (q19.1 = 0)))) go0 rfl (aq_pkt rfl b18 rfl) ?_
    exact AO.done (M8 (decide (q19.1 = 0)) q19.2 (Sh.some_eq h1).symm _ (Wk.to (L := [(0, (.ptr 0 0 0 0)), (5, (.own 1 0 (List.length q3))), (15, (.bool (decide (q19.1 = 0))))]) ⟨.rfl, .rfl, .rfl, trivial⟩))
  · skip
    refine ao_skip rfl rfl b18 ?_
    refine ao_skip rfl rfl b18 ?_
    refine ao_skip rfl rfl b18 ?_
    refine ao_q (v := (.bool false)) go0 rfl (aq_pkf rfl b18 rfl) ?_
    exact AO.done (M8 false s0_1 (Sh.some_eq h1).symm _ (Wk.to (L := [(0, (.ptr 0 0 0 0)), (5, (.own 1 0 (List.length q3))), (15, (.bool false))]) ⟨.rfl, .rfl, .rfl, trivial⟩))

set_option maxRecDepth 100000 in
set_option maxHeartbeats 4000000 in
theorem spec_anyHeap_ok {N : Nat} {s0_0 : (List Int)} {s0_1 : Int} {r : (List Cell) × Int} (h0 : spec_anyHeap N s0_0 s0_1 = some r) : ACalls Try.prog 73 [(.ptr 0 0 0 0)] [⟨0, 84, 2, [[(.sl (List.map eI_u8 s0_0)), (i64 s0_1)]]⟩] (fun v st => v = (.own 1 0 (List.length r.1)) ∧ st = [⟨0, 84, 2, [[(.sl (List.map eI_u8 s0_0)), (i64 r.2)]]⟩, ⟨0, 41, 3, List.map eCell r.1⟩]) := by
  unfold spec_anyHeap at h0
  refine ACalls.intro Try.func73 rfl (by show 1 ≤ 68; decide) ?_
  show AW _ 1 _ (aret _ 1 Try.f73 _) ⟨68, _, _⟩
  refine AW.weaken (Wk.to (L := [(0, (.ptr 0 0 0 0))]) ⟨.rfl, trivial⟩) ?_
  refine AW.seq fun K1 hK1 => ?_
  refine AW.regionO (by rfl) ?_
  refine ao_q (v := .zc) go0 rfl (aq_as rfl) ?_
  refine AO.done (hK1 _ ?_)
  refine AW.seq fun K2 hK2 => ?_
  refine AW.regionO (by rfl) ?_
  refine ao_q (v := (.ptr 0 0 0 0)) go0 rfl (aq_mv rfl) ?_
  obtain ⟨q3, gq3, h0⟩ := Sh.bind_some h0
  refine ao_calls (rowsP := [⟨0, 84, 2, [[(.sl (List.map eI_u8 s0_0)), (i64 s0_1)]]⟩]) (rows0 := [⟨0, 84, 2, [[(.sl (List.map eI_u8 s0_0)), (i64 s0_1)]]⟩]) (rows1 := [⟨0, 84, 2, [[(.sl (List.map eI_u8 s0_0)), (i64 q3.2)]]⟩]) (rows2 := [⟨0, 41, 3, List.map eCell q3.1⟩]) (rows1' := [⟨0, 84, 2, [[(.sl (List.map eI_u8 s0_0)), (i64 q3.2)]]⟩]) (rows2' := [⟨0, 41, 3, List.map eCell q3.1⟩]) (st' := [⟨0, 84, 2, [[(.sl (List.map eI_u8 s0_0)), (i64 q3.2)]]⟩, ⟨0, 41, 3, List.map eCell q3.1⟩]) (v' := (.own 1 0 (List.length q3.1))) [0] go0 hb94 (spec_goodHeap_ok gq3) rfl (by decide) rfl rfl (.raw rfl rfl .nil) rfl rfl (.raw rfl rfl .nil) (.pure (pure_map fun _ => rfl) .nil) rfl rfl ?_
  refine ao_q (v := (.own 1 0 (List.length q3.1))) go0 rfl (aq_as rfl) ?_
  refine AO.done (hK2 _ ?_)
  refine AW.seq fun K4 hK4 => ?_
  refine AW.seq fun K5 hK5 => ?_
  refine AW.regionO (by rfl) ?_
  refine ao_q (v := (.own 1 0 (List.length q3.1))) go0 rfl (aq_mv rfl) ?_
  refine ao_q (v := (i64 (Sh.len q3.1))) go0 rfl (aq_leno sl25 rfl rfl rfl) ?_
  refine ao_q (v := (.bool (decide ((Sh.len q3.1) = 0)))) go0 rfl (aq_eq rfl rfl) ?_
  refine AO.done (hK5 _ ?_)
  refine AW.cond' (b := decide ((Sh.len q3.1) = 0)) rfl (fun b6 => ?_) (fun b6 => ?_)
  · replace h0 := Sh.ite_t b6 h0
    refine AW.seq fun K7 hK7 => ?_
    refine AW.regionO (by rfl) ?_
    refine ao_q (v := (.own 1 0 (List.length q3.1))) go0 rfl (aq_mv rfl) ?_
    refine ao_q (v := (.own 1 0 (List.length q3.1))) go0 rfl (aq_as rfl) ?_
    refine AO.done (hK7 _ ?_)
    replace h0 := Sh.some_eq h0
    subst r
    exact AW.ret (Exists.intro _ (And.intro (Wk.to (L := [(2, (.own 1 0 (List.length q3.1)))]) ⟨.rfl, trivial⟩) (And.intro rfl rfl)))
  · replace h0 := Sh.ite_f b6 h0
    refine AW.skip (hK4 _ ?_)
    refine AW.seq fun K8 hK8 => ?_
    refine AW.regionO (by rfl) ?_
    refine ao_q (v := (.ptr 0 0 0 0)) go0 rfl (aq_mv rfl) ?_
    refine ao_q (v := (.own 1 0 (List.length q3.1))) go0 rfl (aq_mv rfl) ?_
    refine ao_q (v := (i64 (Sh.len q3.1))) go0 rfl (aq_leno sl25 rfl rfl rfl) ?_
    obtain ⟨q9, gq9, h0⟩ := Sh.bind_some h0
    refine ao_calls (rowsP := [⟨0, 84, 2, [[(.sl (List.map eI_u8 s0_0)), (i64 q3.2)]]⟩]) (rows0 := [⟨0, 84, 2, [[(.sl (List.map eI_u8 s0_0)), (i64 q3.2)]]⟩]) (rows1 := [⟨0, 84, 2, [[(.sl (List.map eI_u8 s0_0)), (i64 q9.2)]]⟩]) (rows2 := []) (rows1' := [⟨0, 84, 2, [[(.sl (List.map eI_u8 s0_0)), (i64 q9.2)]]⟩]) (rows2' := []) (st' := [⟨0, 84, 2, [[(.sl (List.map eI_u8 s0_0)), (i64 q9.2)]]⟩, ⟨0, 41, 3, List.map eCell q3.1⟩]) (v' := (i64 q9.1)) [0] go0 hb81 (spec_reader_pick_ok gq9) rfl (by decide) rfl rfl (.raw rfl rfl .nil) rfl rfl (.raw rfl rfl .nil) .nil rfl rfl ?_
    refine ao_q (v := (i64 q9.1)) go0 rfl (aq_as rfl) ?_
    refine AO.done (hK8 _ ?_)
    refine AW.seq fun K10 hK10 => ?_
    obtain ⟨o13, h1, h0⟩ := Sh.bind_some h0
    have M13 : ∀ (f11 : Int) (l12 : (List Cell)), o13 = (f11, l12) → ∀ s, Wk 1 s ⟨68, envL [(3, (.own 1 0 (List.length l12)))], [⟨0, 84, 2, [[(.sl (List.map eI_u8 s0_0)), (i64 f11)]]⟩, ⟨0, 41, 3, List.map eCell l12⟩]⟩ → K10 s := by
      intro f11 l12 hq s hw
      subst o13
      try dsimp only at h0
      refine hK10 _ (AW.weaken hw ?_)
      refine AW.seq fun K14 hK14 => ?_
      refine AW.regionO (by rfl) ?_
      refine ao_q (v := (.own 1 0 (List.length l12))) go0 rfl (aq_mv rfl) ?_
      refine ao_q (v := (.own 1 0 (List.length l12))) go0 rfl (aq_as rfl) ?_
      refine AO.done (hK14 _ ?_)
      replace h0 := Sh.some_eq h0
      subst r
      exact AW.ret (Exists.intro _ (And.intro (Wk.to (L := [(2, (.own 1 0 (List.length l12)))]) ⟨.rfl, trivial⟩) (And.intro rfl rfl)))
    refine AW.seq fun K15 hK15 => ?_
    refine AW.regionO (by rfl) ?_
    refine ao_q (v := (.ptr 0 0 0 0)) go0 rfl (aq_mv rfl) ?_
    obtain ⟨q16, gq16, h1⟩ := Sh.bind_some h1
    refine ao_calls (rowsP := [⟨0, 84, 2, [[(.sl (List.map eI_u8 s0_0)), (i64 q9.2)]]⟩]) (rows0 := [⟨0, 84, 2, [[(.sl (List.map eI_u8 s0_0)), (i64 q9.2)]]⟩]) (rows1 := [⟨0, 84, 2, [[(.sl (List.map eI_u8 s0_0)), (i64 q16.2)]]⟩]) (rows2 := []) (rows1' := [⟨0, 84, 2, [[(.sl (List.map eI_u8 s0_0)), (i64 q16.2)]]⟩]) (rows2' := []) (st' := [⟨0, 84, 2, [[(.sl (List.map eI_u8 s0_0)), (i64 q16.2)]]⟩, ⟨0, 41, 3, List.map eCell q3.1⟩]) (v' := (i64 q16.1)) [0] go0 hb81 (spec_reader_pick_ok gq16) rfl (by decide) rfl rfl (.raw rfl rfl .nil) rfl rfl (.raw rfl rfl .nil) .nil rfl rfl ?_
    refine AO.done (hK15 _ ?_)
    refine AW.block ?_
    refine AW.seq fun K17 hK17 => ?_
    refine AW.regionO (by rfl) ?_
    refine ao_q (v := (.bool (decide (q16.1 = 0)))) go0 rfl (aq_eq rfl rfl) ?_
    refine ao_q (v := (.bool (decide (q16.1 = 0)))) go0 rfl (aq_as rfl) ?_
    refine AO.done (hK17 _ ?_)
    refine AW.cond' (b := decide (q16.1 = 0)) rfl (fun b18 => ?_) (fun b18 => ?_)
    · replace h1 := Sh.ite_t b18 h1
      refine AW.regionO (by rfl) ?_
      refine ao_q (v := (.own 1 0 (List.length q3.1))) go0 rfl (aq_mv rfl) ?_
      refine ao_q (v := (i64 q9.1)) go0 rfl (aq_mv rfl) ?_
      refine ao_q (v := (.ptr 0 0 0 0)) go0 rfl (aq_mv rfl) ?_
      refine ao_bs (m := 2) (st' := [⟨0, 84, 2, [[(.sl (List.map eI_u8 s0_0)), (i64 q16.2)]]⟩, ⟨0, 41, 3, List.map eCell q3.1⟩, ⟨0, 3, 1, List.map eI [0, -1, -2, 1, 9, 1000000]⟩]) (l := [0, -1, -2, 1, 9, 1000000]) (enc := eI) go0 ei32 (by decide) rfl rfl rfl rfl rfl rfl ?_
      refine AO.weaken (Wk.frz (L := [(3, (.own 1 0 (List.length q3.1))), (19, (.own 1 0 (List.length q3.1))), (20, (i64 q9.1)), (21, (.ptr 0 0 0 0)), (22, (.sl (List.map eI [0, -1, -2, 1, 9, 1000000])))]) (st' := [⟨0, 84, 2, [[(.sl (List.map eI_u8 s0_0)), (i64 q16.2)]]⟩, ⟨0, 41, 3, List.map eCell q3.1⟩, ⟨1, 3, 1, []⟩]) (id := 2) rfl (show 1 ≤ 2 by decide) (pure_map fun _ => rfl) ⟨.rfl, .rfl, .rfl, .rfl, (.frz rfl), trivial⟩ rfl) ?_
      obtain ⟨q19, gq19, h1⟩ := Sh.bind_some h1
      refine ao_calls (rowsP := [⟨0, 84, 2, [[(.sl (List.map eI_u8 s0_0)), (i64 q16.2)]]⟩]) (rows0 := [⟨0, 84, 2, [[(.sl (List.map eI_u8 s0_0)), (i64 q16.2)]]⟩]) (rows1 := [⟨0, 84, 2, [[(.sl (List.map eI_u8 s0_0)), (i64 q19.2)]]⟩]) (rows2 := []) (rows1' := [⟨0, 84, 2, [[(.sl (List.map eI_u8 s0_0)), (i64 q19.2)]]⟩]) (rows2' := []) (st' := [⟨0, 84, 2, [[(.sl (List.map eI_u8 s0_0)), (i64 q19.2)]]⟩, ⟨0, 41, 3, List.map eCell q3.1⟩, ⟨1, 3, 1, []⟩]) (v' := (i64 q19.1)) [0] go0 hb80 (spec_reader_one_ok gq19) rfl (by decide) rfl rfl (.raw rfl rfl .nil) rfl rfl (.raw rfl rfl .nil) .nil rfl rfl ?_
      obtain ⟨c20, gc20, h1⟩ := Sh.bind_some h1
      refine ao_q (v := (.ptr 1 0 (Int.toNat q9.1) 0)) go0 rfl (aq_ixo ei25 rfl rfl rfl rfl gc20) ?_
      refine ao_q (v := (.ptr 1 0 (Int.toNat q9.1) 0)) go0 rfl (aq_fap fi41_0 rfl rfl (show 0 + 0 ≤ 3 by decide) rfl) ?_
      refine ao_stl (st' := [⟨0, 84, 2, [[(.sl (List.map eI_u8 s0_0)), (i64 q19.2)]]⟩, ⟨0, 41, 3, List.map eCell (Sh.put q3.1 q9.1 (Cell.mk q19.1 c20.tag c20.fields))⟩, ⟨1, 3, 1, []⟩]) (u' := (Cell.mk q19.1 c20.tag c20.fields)) go0 ti3 rfl rfl gc20 rfl rfl rfl (show 0 + 1 ≤ 3 by decide) rfl rfl ?_
      exact AO.done (M13 q19.2 (Sh.put q3.1 q9.1 (Cell.mk q19.1 c20.tag c20.fields)) (Sh.some_eq h1).symm _ (by refine Wk.trans (Wk.permk (L := [(3, (.own 1 0 (List.length q3.1)))]) (st' := [⟨0, 84, 2, [[(.sl (List.map eI_u8 s0_0)), (i64 q19.2)]]⟩, ⟨0, 41, 3, List.map eCell (Sh.put q3.1 q9.1 (Cell.mk q19.1 c20.tag c20.fields))⟩]) (st1 := [⟨0, 84, 2, [[(.sl (List.map eI_u8 s0_0)), (i64 q19.2)]]⟩, ⟨0, 41, 3, List.map eCell (Sh.put q3.1 q9.1 (Cell.mk q19.1 c20.tag c20.fields))⟩]) [0, 1] rfl (.raw rfl rfl .nil) (by decide) rfl rfl (.raw rfl rfl (.pure (pure_map fun _ => rfl) .nil)) ⟨.rfl, trivial⟩) ?_; exact Wk.to (L := [(3, (.own 1 0 (List.length (Sh.put q3.1 q9.1 (Cell.mk q19.1 c20.tag c20.fields)))))]) ⟨(.len (by simp only [Sh.put_len])), trivial⟩))
    · replace h1 := Sh.ite_f b18 h1
      refine AW.seq fun K21 hK21 => ?_
      refine AW.regionO (by rfl) ?_
      refine ao_q (v := (.bool (decide (q16.1 = 1)))) go0 rfl (aq_eq rfl rfl) ?_
      refine ao_q (v := (.bool (decide (q16.1 = 1)))) go0 rfl (aq_as rfl) ?_
      refine AO.done (hK21 _ ?_)
      refine AW.cond' (b := decide (q16.1 = 1)) rfl (fun b22 => ?_) (fun b22 => ?_)
      · replace h1 := Sh.ite_t b22 h1
        refine AW.regionO (by rfl) ?_
        refine ao_q (v := (.own 1 0 (List.length q3.1))) go0 rfl (aq_mv rfl) ?_
        refine ao_q (v := (i64 q9.1)) go0 rfl (aq_mv rfl) ?_
        refine ao_q (v := (.ptr 0 0 0 0)) go0 rfl (aq_mv rfl) ?_
        refine ao_bs (m := 2) (st' := [⟨0, 84, 2, [[(.sl (List.map eI_u8 s0_0)), (i64 q16.2)]]⟩, ⟨0, 41, 3, List.map eCell q3.1⟩, ⟨0, 3, 1, List.map eI [-1, 100, 3, 0]⟩]) (l := [-1, 100, 3, 0]) (enc := eI) go0 ei32 (by decide) rfl rfl rfl rfl rfl rfl ?_
        refine AO.weaken (Wk.frz (L := [(3, (.own 1 0 (List.length q3.1))), (28, (.own 1 0 (List.length q3.1))), (29, (i64 q9.1)), (30, (.ptr 0 0 0 0)), (31, (.sl (List.map eI [-1, 100, 3, 0])))]) (st' := [⟨0, 84, 2, [[(.sl (List.map eI_u8 s0_0)), (i64 q16.2)]]⟩, ⟨0, 41, 3, List.map eCell q3.1⟩, ⟨1, 3, 1, []⟩]) (id := 2) rfl (show 1 ≤ 2 by decide) (pure_map fun _ => rfl) ⟨.rfl, .rfl, .rfl, .rfl, (.frz rfl), trivial⟩ rfl) ?_
        obtain ⟨q23, gq23, h1⟩ := Sh.bind_some h1
        refine ao_calls (rowsP := [⟨0, 84, 2, [[(.sl (List.map eI_u8 s0_0)), (i64 q16.2)]]⟩]) (rows0 := [⟨0, 84, 2, [[(.sl (List.map eI_u8 s0_0)), (i64 q16.2)]]⟩]) (rows1 := [⟨0, 84, 2, [[(.sl (List.map eI_u8 s0_0)), (i64 q23.2)]]⟩]) (rows2 := []) (rows1' := [⟨0, 84, 2, [[(.sl (List.map eI_u8 s0_0)), (i64 q23.2)]]⟩]) (rows2' := []) (st' := [⟨0, 84, 2, [[(.sl (List.map eI_u8 s0_0)), (i64 q23.2)]]⟩, ⟨0, 41, 3, List.map eCell q3.1⟩, ⟨1, 3, 1, []⟩]) (v' := (i64 q23.1)) [0] go0 hb80 (spec_reader_one_ok gq23) rfl (by decide) rfl rfl (.raw rfl rfl .nil) rfl rfl (.raw rfl rfl .nil) .nil rfl rfl ?_
        obtain ⟨c24, gc24, h1⟩ := Sh.bind_some h1
        refine ao_q (v := (.ptr 1 0 (Int.toNat q9.1) 0)) go0 rfl (aq_ixo ei25 rfl rfl rfl rfl gc24) ?_
        refine ao_q (v := (.ptr 1 0 (Int.toNat q9.1) 1)) go0 rfl (aq_fap fi41_1 rfl rfl (show 0 + 1 ≤ 3 by decide) rfl) ?_
        refine ao_stl (st' := [⟨0, 84, 2, [[(.sl (List.map eI_u8 s0_0)), (i64 q23.2)]]⟩, ⟨0, 41, 3, List.map eCell (Sh.put q3.1 q9.1 (Cell.mk c24.count q23.1 c24.fields))⟩, ⟨1, 3, 1, []⟩]) (u' := (Cell.mk c24.count q23.1 c24.fields)) go0 ti3 rfl rfl gc24 rfl rfl rfl (show 1 + 1 ≤ 3 by decide) rfl rfl ?_
        exact AO.done (M13 q23.2 (Sh.put q3.1 q9.1 (Cell.mk c24.count q23.1 c24.fields)) (Sh.some_eq h1).symm _ (by refine Wk.trans (Wk.permk (L := [(3, (.own 1 0 (List.length q3.1)))]) (st' := [⟨0, 84, 2, [[(.sl (List.map eI_u8 s0_0)), (i64 q23.2)]]⟩, ⟨0, 41, 3, List.map eCell (Sh.put q3.1 q9.1 (Cell.mk c24.count q23.1 c24.fields))⟩]) (st1 := [⟨0, 84, 2, [[(.sl (List.map eI_u8 s0_0)), (i64 q23.2)]]⟩, ⟨0, 41, 3, List.map eCell (Sh.put q3.1 q9.1 (Cell.mk c24.count q23.1 c24.fields))⟩]) [0, 1] rfl (.raw rfl rfl .nil) (by decide) rfl rfl (.raw rfl rfl (.pure (pure_map fun _ => rfl) .nil)) ⟨.rfl, trivial⟩) ?_; exact Wk.to (L := [(3, (.own 1 0 (List.length (Sh.put q3.1 q9.1 (Cell.mk c24.count q23.1 c24.fields)))))]) ⟨(.len (by simp only [Sh.put_len])), trivial⟩))
      · replace h1 := Sh.ite_f b22 h1
        refine AW.seq fun K25 hK25 => ?_
        refine AW.regionO (by rfl) ?_
        refine ao_q (v := (.bool (decide (q16.1 = 2)))) go0 rfl (aq_eq rfl rfl) ?_
        refine ao_q (v := (.bool (decide (q16.1 = 2)))) go0 rfl (aq_as rfl) ?_
        refine AO.done (hK25 _ ?_)
        refine AW.cond' (b := decide (q16.1 = 2)) rfl (fun b26 => ?_) (fun b26 => ?_)
        · replace h1 := Sh.ite_t b26 h1
          refine AW.regionO (by rfl) ?_
          refine ao_q (v := (.own 1 0 (List.length q3.1))) go0 rfl (aq_mv rfl) ?_
          refine ao_q (v := (i64 q9.1)) go0 rfl (aq_mv rfl) ?_
          refine ao_q (v := (.ptr 0 0 0 0)) go0 rfl (aq_mv rfl) ?_
          refine ao_q (v := (.own 1 0 (List.length q3.1))) go0 rfl (aq_mv rfl) ?_
          refine ao_q (v := (i64 q9.1)) go0 rfl (aq_mv rfl) ?_
          obtain ⟨c27, gc27, h1⟩ := Sh.bind_some h1
          refine ao_q (v := (.ptr 1 0 (Int.toNat q9.1) 0)) go0 rfl (aq_ixo ei25 rfl rfl rfl rfl gc27) ?_
          refine ao_q (v := (.ptr 1 0 (Int.toNat q9.1) 2)) go0 rfl (aq_fap fi41_2 rfl rfl (show 0 + 2 ≤ 3 by decide) rfl) ?_
          refine ao_q (v := (.sl (List.map eI c27.fields))) go0 rfl (aq_ldp ti32 rfl rfl (map_get gc27) rfl) ?_
          obtain ⟨q28, gq28, h1⟩ := Sh.bind_some h1
          refine ao_calls (rowsP := [⟨0, 84, 2, [[(.sl (List.map eI_u8 s0_0)), (i64 q16.2)]]⟩]) (rows0 := [⟨0, 84, 2, [[(.sl (List.map eI_u8 s0_0)), (i64 q16.2)]]⟩]) (rows1 := [⟨0, 84, 2, [[(.sl (List.map eI_u8 s0_0)), (i64 q28.2)]]⟩]) (rows2 := [⟨0, 3, 1, List.map eI q28.1⟩]) (rows1' := [⟨0, 84, 2, [[(.sl (List.map eI_u8 s0_0)), (i64 q28.2)]]⟩]) (rows2' := [⟨0, 3, 1, List.map eI q28.1⟩]) (st' := [⟨0, 84, 2, [[(.sl (List.map eI_u8 s0_0)), (i64 q28.2)]]⟩, ⟨0, 41, 3, List.map eCell q3.1⟩, ⟨0, 3, 1, List.map eI q28.1⟩]) (v' := (.own 2 0 (List.length q28.1))) [0] go0 hb95 (spec_reader_spoilInts_ok gq28) rfl (by decide) rfl rfl (.raw rfl rfl .nil) rfl rfl (.raw rfl rfl .nil) (.pure (pure_map fun _ => rfl) .nil) rfl rfl ?_
          refine ao_q (v := (.ptr 1 0 (Int.toNat q9.1) 0)) go0 rfl (aq_ixo ei25 rfl rfl rfl rfl gc27) ?_
          refine ao_q (v := (.ptr 1 0 (Int.toNat q9.1) 2)) go0 rfl (aq_fap fi41_2 rfl rfl (show 0 + 2 ≤ 3 by decide) rfl) ?_
          refine AO.weaken (Wk.frz (L := [(3, (.own 1 0 (List.length q3.1))), (45, (.sl (List.map eI q28.1))), (47, (.ptr 1 0 (Int.toNat q9.1) 2))]) (st' := [⟨0, 84, 2, [[(.sl (List.map eI_u8 s0_0)), (i64 q28.2)]]⟩, ⟨0, 41, 3, List.map eCell q3.1⟩, ⟨1, 3, 1, []⟩]) (id := 2) rfl (show 1 ≤ 2 by decide) (pure_map fun _ => rfl) ⟨.rfl, (.frz rfl), .rfl, trivial⟩ rfl) ?_
          refine ao_stl (st' := [⟨0, 84, 2, [[(.sl (List.map eI_u8 s0_0)), (i64 q28.2)]]⟩, ⟨0, 41, 3, List.map eCell (Sh.put q3.1 q9.1 (Cell.mk c27.count c27.tag q28.1))⟩, ⟨1, 3, 1, []⟩]) (u' := (Cell.mk c27.count c27.tag q28.1)) go0 ti32 rfl rfl gc27 rfl rfl rfl (show 2 + 1 ≤ 3 by decide) rfl rfl ?_
          exact AO.done (M13 q28.2 (Sh.put q3.1 q9.1 (Cell.mk c27.count c27.tag q28.1)) (Sh.some_eq h1).symm _ (by refine Wk.trans (Wk.permk (L := [(3, (.own 1 0 (List.length q3.1)))]) (st' := [⟨0, 84, 2, [[(.sl (List.map eI_u8 s0_0)), (i64 q28.2)]]⟩, ⟨0, 41, 3, List.map eCell (Sh.put q3.1 q9.1 (Cell.mk c27.count c27.tag q28.1))⟩]) (st1 := [⟨0, 84, 2, [[(.sl (List.map eI_u8 s0_0)), (i64 q28.2)]]⟩, ⟨0, 41, 3, List.map eCell (Sh.put q3.1 q9.1 (Cell.mk c27.count c27.tag q28.1))⟩]) [0, 1] rfl (.raw rfl rfl .nil) (by decide) rfl rfl (.raw rfl rfl (.pure (pure_map fun _ => rfl) .nil)) ⟨.rfl, trivial⟩) ?_; exact Wk.to (L := [(3, (.own 1 0 (List.length (Sh.put q3.1 q9.1 (Cell.mk c27.count c27.tag q28.1)))))]) ⟨(.len (by simp only [Sh.put_len])), trivial⟩))
        · replace h1 := Sh.ite_f b26 h1
          refine AW.seq fun K29 hK29 => ?_
          refine AW.regionO (by rfl) ?_
          refine ao_q (v := (.bool (decide (q16.1 = 3)))) go0 rfl (aq_eq rfl rfl) ?_
          refine ao_q (v := (.bool (decide (q16.1 = 3)))) go0 rfl (aq_as rfl) ?_
          refine AO.done (hK29 _ ?_)
          refine AW.cond' (b := decide (q16.1 = 3)) rfl (fun b30 => ?_) (fun b30 => ?_)
          · replace h1 := Sh.ite_t b30 h1
            refine AW.regionO (by rfl) ?_
            refine ao_q (v := (.own 1 0 (List.length q3.1))) go0 rfl (aq_mv rfl) ?_
            refine ao_q (v := (i64 q9.1)) go0 rfl (aq_mv rfl) ?_
            refine ao_q (v := (.ptr 0 0 0 0)) go0 rfl (aq_mv rfl) ?_
            refine ao_q (v := (.own 1 0 (List.length q3.1))) go0 rfl (aq_mv rfl) ?_
            refine ao_q (v := (i64 (Sh.len q3.1))) go0 rfl (aq_leno sl25 rfl rfl rfl) ?_
            obtain ⟨q31, gq31, h1⟩ := Sh.bind_some h1
            refine ao_calls (rowsP := [⟨0, 84, 2, [[(.sl (List.map eI_u8 s0_0)), (i64 q16.2)]]⟩]) (rows0 := [⟨0, 84, 2, [[(.sl (List.map eI_u8 s0_0)), (i64 q16.2)]]⟩]) (rows1 := [⟨0, 84, 2, [[(.sl (List.map eI_u8 s0_0)), (i64 q31.2)]]⟩]) (rows2 := []) (rows1' := [⟨0, 84, 2, [[(.sl (List.map eI_u8 s0_0)), (i64 q31.2)]]⟩]) (rows2' := []) (st' := [⟨0, 84, 2, [[(.sl (List.map eI_u8 s0_0)), (i64 q31.2)]]⟩, ⟨0, 41, 3, List.map eCell q3.1⟩]) (v' := (i64 q31.1)) [0] go0 hb81 (spec_reader_pick_ok gq31) rfl (by decide) rfl rfl (.raw rfl rfl .nil) rfl rfl (.raw rfl rfl .nil) .nil rfl rfl ?_
            refine ao_q (v := (i64 (Sh.w (1000 + q31.1)))) go0 rfl (aq_add rfl rfl) ?_
            refine ao_bs (m := 2) (st' := [⟨0, 84, 2, [[(.sl (List.map eI_u8 s0_0)), (i64 q31.2)]]⟩, ⟨0, 41, 3, List.map eCell q3.1⟩, ⟨0, 3, 1, List.map eI [Sh.w (1000 + q31.1)]⟩]) (l := [Sh.w (1000 + q31.1)]) (enc := eI) go0 ei32 (by decide) rfl rfl rfl rfl rfl rfl ?_
            obtain ⟨c32, gc32, h1⟩ := Sh.bind_some h1
            refine ao_q (v := (.ptr 1 0 (Int.toNat q9.1) 0)) go0 rfl (aq_ixo ei25 rfl rfl rfl rfl gc32) ?_
            refine ao_q (v := (.ptr 1 0 (Int.toNat q9.1) 2)) go0 rfl (aq_fap fi41_2 rfl rfl (show 0 + 2 ≤ 3 by decide) rfl) ?_
            refine AO.weaken (Wk.frz (L := [(3, (.own 1 0 (List.length q3.1))), (57, (.sl (List.map eI [Sh.w (1000 + q31.1)]))), (59, (.ptr 1 0 (Int.toNat q9.1) 2))]) (st' := [⟨0, 84, 2, [[(.sl (List.map eI_u8 s0_0)), (i64 q31.2)]]⟩, ⟨0, 41, 3, List.map eCell q3.1⟩, ⟨1, 3, 1, []⟩]) (id := 2) rfl (show 1 ≤ 2 by decide) (pure_map fun _ => rfl) ⟨.rfl, (.frz rfl), .rfl, trivial⟩ rfl) ?_
            refine ao_stl (st' := [⟨0, 84, 2, [[(.sl (List.map eI_u8 s0_0)), (i64 q31.2)]]⟩, ⟨0, 41, 3, List.map eCell (Sh.put q3.1 q9.1 (Cell.mk c32.count c32.tag [Sh.w (1000 + q31.1)]))⟩, ⟨1, 3, 1, []⟩]) (u' := (Cell.mk c32.count c32.tag [Sh.w (1000 + q31.1)])) go0 ti32 rfl rfl gc32 rfl rfl rfl (show 2 + 1 ≤ 3 by decide) rfl rfl ?_
            exact AO.done (M13 q31.2 (Sh.put q3.1 q9.1 (Cell.mk c32.count c32.tag [Sh.w (1000 + q31.1)])) (Sh.some_eq h1).symm _ (by refine Wk.trans (Wk.permk (L := [(3, (.own 1 0 (List.length q3.1)))]) (st' := [⟨0, 84, 2, [[(.sl (List.map eI_u8 s0_0)), (i64 q31.2)]]⟩, ⟨0, 41, 3, List.map eCell (Sh.put q3.1 q9.1 (Cell.mk c32.count c32.tag [Sh.w (1000 + q31.1)]))⟩]) (st1 := [⟨0, 84, 2, [[(.sl (List.map eI_u8 s0_0)), (i64 q31.2)]]⟩, ⟨0, 41, 3, List.map eCell (Sh.put q3.1 q9.1 (Cell.mk c32.count c32.tag [Sh.w (1000 + q31.1)]))⟩]) [0, 1] rfl (.raw rfl rfl .nil) (by decide) rfl rfl (.raw rfl rfl (.pure (pure_map fun _ => rfl) .nil)) ⟨.rfl, trivial⟩) ?_; exact Wk.to (L := [(3, (.own 1 0 (List.length (Sh.put q3.1 q9.1 (Cell.mk c32.count c32.tag [Sh.w (1000 + q31.1)])))))]) ⟨(.len (by simp only [Sh.put_len])), trivial⟩))
          · replace h1 := Sh.ite_f b30 h1
            refine AW.seq fun K33 hK33 => ?_
            refine AW.regionO (by rfl) ?_
            refine ao_q (v := (.bool (decide (q16.1 = 4)))) go0 rfl (aq_eq rfl rfl) ?_
            refine ao_q (v := (.bool (decide (q16.1 = 4)))) go0 rfl (aq_as rfl) ?_
            refine AO.done (hK33 _ ?_)
            refine AW.cond' (b := decide (q16.1 = 4)) rfl (fun b34 => ?_) (fun b34 => ?_)
            · replace h1 := Sh.ite_t b34 h1
              refine AW.regionO (by rfl) ?_
              refine ao_q (v := (.own 1 0 (List.length q3.1))) go0 rfl (aq_mv rfl) ?_
              refine ao_bs (m := 2) (st' := [⟨0, 84, 2, [[(.sl (List.map eI_u8 s0_0)), (i64 q16.2)]]⟩, ⟨0, 41, 3, List.map eCell q3.1⟩, ⟨0, 3, 1, List.map eI ([] : List Int)⟩]) (l := ([] : List Int)) (enc := eI) go0 ei32 (by decide) rfl rfl rfl rfl rfl rfl ?_
              refine ao_q (v := (.agg [(i64 0), (i64 0), (.own 2 0 (List.length ([] : List Int)))])) go0 rfl (aq_bd ai41 bi41 zi41 rfl rfl) ?_
              refine AO.weaken (Wk.frz (L := [(62, (.own 1 0 (List.length q3.1))), (64, (.agg [(i64 0), (i64 0), (.sl (List.map eI []))]))]) (st' := [⟨0, 84, 2, [[(.sl (List.map eI_u8 s0_0)), (i64 q16.2)]]⟩, ⟨0, 41, 3, List.map eCell q3.1⟩, ⟨1, 3, 1, []⟩]) (id := 2) rfl (show 1 ≤ 2 by decide) (pure_map fun _ => rfl) ⟨.rfl, (.agg ⟨.rfl, .rfl, (.frz1 rfl), trivial⟩), trivial⟩ rfl) ?_
              refine ao_bs (m := 3) (st' := [⟨0, 84, 2, [[(.sl (List.map eI_u8 s0_0)), (i64 q16.2)]]⟩, ⟨0, 41, 3, List.map eCell q3.1⟩, ⟨1, 3, 1, []⟩, ⟨0, 41, 3, List.map eCell ([(Cell.mk 0 0 [])])⟩]) (l := ([(Cell.mk 0 0 [])])) (enc := eCell) go0 ei25 (by decide) rfl rfl rfl rfl rfl rfl ?_
              obtain ⟨l35, gl35, h1⟩ := Sh.bind_some h1
              refine ao_apo (st' := [⟨0, 84, 2, [[(.sl (List.map eI_u8 s0_0)), (i64 q16.2)]]⟩, ⟨1, 41, 3, List.map eCell l35⟩, ⟨1, 3, 1, []⟩, ⟨0, 41, 3, List.map eCell ([(Cell.mk 0 0 [])])⟩]) (l2 := ([(Cell.mk 0 0 [])])) go0 ei25 rfl rfl rfl rfl (el_o rfl rfl) (fun _ => rfl) gl35 rfl ?_
              refine ao_q (v := (.own 1 1 (List.length l35))) go0 rfl (aq_as rfl) ?_
              exact AO.done (M13 q16.2 l35 (Sh.some_eq h1).symm _ (by refine Wk.trans (Wk.rk (L := [(3, (.own 1 0 (List.length l35)))]) (st' := [⟨0, 84, 2, [[(.sl (List.map eI_u8 s0_0)), (i64 q16.2)]]⟩, ⟨0, 41, 3, List.map eCell l35⟩, ⟨0, 3, 1, []⟩, ⟨0, 41, 3, List.map eCell ([(Cell.mk 0 0 [])])⟩]) (.raw rfl rfl rfl (.pure rfl (pure_map fun _ => rfl) (.pure rfl (by intro x hx; cases hx) (.pure rfl (pure_map fun _ => rfl) .nil)))) ⟨.rfl, trivial⟩) ?_; refine Wk.trans (Wk.permk (L := [(3, (.own 1 0 (List.length l35)))]) (st' := [⟨0, 84, 2, [[(.sl (List.map eI_u8 s0_0)), (i64 q16.2)]]⟩, ⟨0, 41, 3, List.map eCell l35⟩]) (st1 := [⟨0, 84, 2, [[(.sl (List.map eI_u8 s0_0)), (i64 q16.2)]]⟩, ⟨0, 41, 3, List.map eCell l35⟩]) [0, 1] rfl (.raw rfl rfl .nil) (by decide) rfl rfl (.raw rfl rfl (.pure (pure_map fun _ => rfl) .nil)) ⟨.rfl, trivial⟩) ?_; exact Wk.to (L := [(3, (.own 1 0 (List.length l35)))]) ⟨.rfl, trivial⟩))
            · replace h1 := Sh.ite_f b34 h1
              exact AW.skip (M13 q16.2 q3.1 (Sh.some_eq h1).symm _ (Wk.to (L := [(3, (.own 1 0 (List.length q3.1)))]) ⟨.rfl, trivial⟩))

set_option maxRecDepth 100000 in
set_option maxHeartbeats 4000000 in
theorem spec_wordFor_ok {s0_0 : (List Int)} {s0_1 : Int} {p1 : Int} {r : Int × Int} (h0 : spec_wordFor s0_0 s0_1 p1 = some r) : ACalls Try.prog 87 [(.ptr 0 0 0 0), (i64 p1)] [⟨0, 84, 2, [[(.sl (List.map eI_u8 s0_0)), (i64 s0_1)]]⟩] (fun v st => v = (i64 r.1) ∧ st = [⟨0, 84, 2, [[(.sl (List.map eI_u8 s0_0)), (i64 r.2)]]⟩]) := by
  unfold spec_wordFor at h0
  refine ACalls.intro Try.func87 rfl (by show 2 ≤ 28; decide) ?_
  show AW _ 1 _ (aret _ 1 Try.f87 _) ⟨28, _, _⟩
  refine AW.weaken (Wk.to (L := [(0, (.ptr 0 0 0 0)), (1, (i64 p1))]) ⟨.rfl, .rfl, trivial⟩) ?_
  refine AW.seq fun K1 hK1 => ?_
  refine AW.regionO (by rfl) ?_
  refine ao_q (v := (i64 0)) go0 rfl (aq_as rfl) ?_
  refine AO.done (hK1 _ ?_)
  refine AW.seq fun K2 hK2 => ?_
  refine AW.regionO (by rfl) ?_
  refine ao_q (v := (.ptr 0 0 0 0)) go0 rfl (aq_mv rfl) ?_
  refine ao_q (v := (.ptr 0 0 0 0)) go0 rfl (aq_mv rfl) ?_
  refine ao_q (v := (i64 p1)) go0 rfl (aq_mv rfl) ?_
  refine ao_q (v := (i64 (if p1 > 1 then p1 else 1))) go0 rfl (aq_max rfl rfl) ?_
  obtain ⟨q3, gq3, h0⟩ := Sh.bind_some h0
  refine ao_calls (rowsP := [⟨0, 84, 2, [[(.sl (List.map eI_u8 s0_0)), (i64 s0_1)]]⟩]) (rows0 := [⟨0, 84, 2, [[(.sl (List.map eI_u8 s0_0)), (i64 s0_1)]]⟩]) (rows1 := [⟨0, 84, 2, [[(.sl (List.map eI_u8 s0_0)), (i64 q3.2)]]⟩]) (rows2 := []) (rows1' := [⟨0, 84, 2, [[(.sl (List.map eI_u8 s0_0)), (i64 q3.2)]]⟩]) (rows2' := []) (st' := [⟨0, 84, 2, [[(.sl (List.map eI_u8 s0_0)), (i64 q3.2)]]⟩]) (v' := (i64 q3.1)) [0] go0 hb81 (spec_reader_pick_ok gq3) rfl (by decide) rfl rfl (.raw rfl rfl .nil) rfl rfl (.raw rfl rfl .nil) .nil rfl rfl ?_
  refine ao_q (v := (i64 (Sh.w (1000 + q3.1)))) go0 rfl (aq_add rfl rfl) ?_
  refine ao_q (v := (.ptr 0 0 0 0)) go0 rfl (aq_mv rfl) ?_
  refine ao_q (v := (i64 p1)) go0 rfl (aq_mv rfl) ?_
  refine ao_q (v := (i64 (if p1 > 1 then p1 else 1))) go0 rfl (aq_max rfl rfl) ?_
  obtain ⟨q4, gq4, h0⟩ := Sh.bind_some h0
  refine ao_calls (rowsP := [⟨0, 84, 2, [[(.sl (List.map eI_u8 s0_0)), (i64 q3.2)]]⟩]) (rows0 := [⟨0, 84, 2, [[(.sl (List.map eI_u8 s0_0)), (i64 q3.2)]]⟩]) (rows1 := [⟨0, 84, 2, [[(.sl (List.map eI_u8 s0_0)), (i64 q4.2)]]⟩]) (rows2 := []) (rows1' := [⟨0, 84, 2, [[(.sl (List.map eI_u8 s0_0)), (i64 q4.2)]]⟩]) (rows2' := []) (st' := [⟨0, 84, 2, [[(.sl (List.map eI_u8 s0_0)), (i64 q4.2)]]⟩]) (v' := (i64 q4.1)) [0] go0 hb81 (spec_reader_pick_ok gq4) rfl (by decide) rfl rfl (.raw rfl rfl .nil) rfl rfl (.raw rfl rfl .nil) .nil rfl rfl ?_
  refine ao_q (v := (i64 (Sh.w (1000 + q4.1)))) go0 rfl (aq_add rfl rfl) ?_
  refine ao_q (v := (.ptr 0 0 0 0)) go0 rfl (aq_mv rfl) ?_
  refine ao_q (v := (i64 p1)) go0 rfl (aq_mv rfl) ?_
  refine ao_q (v := (i64 (if p1 > 1 then p1 else 1))) go0 rfl (aq_max rfl rfl) ?_
  obtain ⟨q5, gq5, h0⟩ := Sh.bind_some h0
  refine ao_calls (rowsP := [⟨0, 84, 2, [[(.sl (List.map eI_u8 s0_0)), (i64 q4.2)]]⟩]) (rows0 := [⟨0, 84, 2, [[(.sl (List.map eI_u8 s0_0)), (i64 q4.2)]]⟩]) (rows1 := [⟨0, 84, 2, [[(.sl (List.map eI_u8 s0_0)), (i64 q5.2)]]⟩]) (rows2 := []) (rows1' := [⟨0, 84, 2, [[(.sl (List.map eI_u8 s0_0)), (i64 q5.2)]]⟩]) (rows2' := []) (st' := [⟨0, 84, 2, [[(.sl (List.map eI_u8 s0_0)), (i64 q5.2)]]⟩]) (v' := (i64 q5.1)) [0] go0 hb81 (spec_reader_pick_ok gq5) rfl (by decide) rfl rfl (.raw rfl rfl .nil) rfl rfl (.raw rfl rfl .nil) .nil rfl rfl ?_
  refine ao_q (v := (i64 (Sh.w (1000 + q5.1)))) go0 rfl (aq_add rfl rfl) ?_
  refine ao_q (v := (.ptr 0 0 0 0)) go0 rfl (aq_mv rfl) ?_
  obtain ⟨q6, gq6, h0⟩ := Sh.bind_some h0
  refine ao_calls (rowsP := [⟨0, 84, 2, [[(.sl (List.map eI_u8 s0_0)), (i64 q5.2)]]⟩]) (rows0 := [⟨0, 84, 2, [[(.sl (List.map eI_u8 s0_0)), (i64 q5.2)]]⟩]) (rows1 := [⟨0, 84, 2, [[(.sl (List.map eI_u8 s0_0)), (i64 q6.2)]]⟩]) (rows2 := []) (rows1' := [⟨0, 84, 2, [[(.sl (List.map eI_u8 s0_0)), (i64 q6.2)]]⟩]) (rows2' := []) (st' := [⟨0, 84, 2, [[(.sl (List.map eI_u8 s0_0)), (i64 q6.2)]]⟩]) (v' := (i64 q6.1)) [0] go0 hb81 (spec_reader_pick_ok gq6) rfl (by decide) rfl rfl (.raw rfl rfl .nil) rfl rfl (.raw rfl rfl .nil) .nil rfl rfl ?_
  refine ao_q (v := (i64 (Sh.w (q6.1 - 10)))) go0 rfl (aq_sub rfl rfl) ?_
  refine ao_q (v := (i64 p1)) go0 rfl (aq_mv rfl) ?_
  refine ao_q (v := (i64 (Sh.w (1000 + p1)))) go0 rfl (aq_add rfl rfl) ?_
  refine ao_bs (m := 1) (st' := [⟨0, 84, 2, [[(.sl (List.map eI_u8 s0_0)), (i64 q6.2)]]⟩, ⟨0, 3, 1, List.map eI [Sh.w (1000 + q3.1), Sh.w (1000 + q4.1), Sh.w (1000 + q5.1), Sh.w (q6.1 - 10), Sh.w (1000 + p1), 1000000, -1000, 5]⟩]) (l := [Sh.w (1000 + q3.1), Sh.w (1000 + q4.1), Sh.w (1000 + q5.1), Sh.w (q6.1 - 10), Sh.w (1000 + p1), 1000000, -1000, 5]) (enc := eI) go0 ei32 (by decide) rfl rfl rfl rfl rfl rfl ?_
  refine AO.weaken (Wk.frz (L := [(5, (.ptr 0 0 0 0)), (26, (.sl (List.map eI [Sh.w (1000 + q3.1), Sh.w (1000 + q4.1), Sh.w (1000 + q5.1), Sh.w (q6.1 - 10), Sh.w (1000 + p1), 1000000, -1000, 5])))]) (st' := [⟨0, 84, 2, [[(.sl (List.map eI_u8 s0_0)), (i64 q6.2)]]⟩, ⟨1, 3, 1, []⟩]) (id := 1) rfl (show 1 ≤ 1 by decide) (pure_map fun _ => rfl) ⟨.rfl, (.frz rfl), trivial⟩ rfl) ?_
  obtain ⟨q7, gq7, h0⟩ := Sh.bind_some h0
  refine ao_calls (rowsP := [⟨0, 84, 2, [[(.sl (List.map eI_u8 s0_0)), (i64 q6.2)]]⟩]) (rows0 := [⟨0, 84, 2, [[(.sl (List.map eI_u8 s0_0)), (i64 q6.2)]]⟩]) (rows1 := [⟨0, 84, 2, [[(.sl (List.map eI_u8 s0_0)), (i64 q7.2)]]⟩]) (rows2 := []) (rows1' := [⟨0, 84, 2, [[(.sl (List.map eI_u8 s0_0)), (i64 q7.2)]]⟩]) (rows2' := []) (st' := [⟨0, 84, 2, [[(.sl (List.map eI_u8 s0_0)), (i64 q7.2)]]⟩, ⟨1, 3, 1, []⟩]) (v' := (i64 q7.1)) [0] go0 hb80 (spec_reader_one_ok gq7) rfl (by decide) rfl rfl (.raw rfl rfl .nil) rfl rfl (.raw rfl rfl .nil) .nil rfl rfl ?_
  refine ao_q (v := (i64 q7.1)) go0 rfl (aq_as rfl) ?_
  refine AO.done (hK2 _ ?_)
  replace h0 := Sh.some_eq h0
  subst r
  exact AW.ret (Exists.intro _ (And.intro ((Wk.permk (L := [(4, (i64 q7.1))]) (st' := [⟨0, 84, 2, [[(.sl (List.map eI_u8 s0_0)), (i64 q7.2)]]⟩]) (st1 := [⟨0, 84, 2, [[(.sl (List.map eI_u8 s0_0)), (i64 q7.2)]]⟩]) [0] rfl (.raw rfl rfl .nil) (by decide) rfl rfl (.raw rfl rfl .nil) ⟨.rfl, trivial⟩).trans (Wk.to (L := [(4, (i64 q7.1))]) ⟨.rfl, trivial⟩)) (And.intro rfl rfl)))

end Go.Proofs.Ytgpjhgoobijdjaa
