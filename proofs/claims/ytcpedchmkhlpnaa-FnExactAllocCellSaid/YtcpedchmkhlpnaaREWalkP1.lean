import Derived.Test.YtcpedchmkhlpnaaProg
import Derived.Test.YtcpedchmkhlpnaaREDefs
import Derived.Test.YtcpedchmkhlpnaaCAWalk
import Derived.Test.YtcpedchmkhlpnaaCDWalk
import Derived.Test.YtcpedchmkhlpnaaREWalkP0
namespace Go.Proofs.Ytcpedchmkhlpnaa
open Go Go.Abs RC

theorem ei70 : einfo Try.prog 70 = some ⟨58, 3, 40, [.int .i64 0, .int .i64 0, .sl []]⟩ := by kernel_rfl
theorem hb14 : hasBody Try.prog 14 = true := by kernel_rfl
theorem hb17 : hasBody Try.prog 17 = true := by kernel_rfl
theorem hb18 : hasBody Try.prog 18 = true := by kernel_rfl
theorem hb38 : hasBody Try.prog 38 = true := by kernel_rfl
theorem hb42 : hasBody Try.prog 42 = true := by kernel_rfl
theorem hb47 : hasBody Try.prog 47 = true := by kernel_rfl
theorem hb50 : hasBody Try.prog 50 = true := by kernel_rfl
theorem hb53 : hasBody Try.prog 53 = true := by kernel_rfl
theorem hb73 : hasBody Try.prog 73 = true := by kernel_rfl
theorem hb74 : hasBody Try.prog 74 = true := by kernel_rfl
theorem hb76 : hasBody Try.prog 76 = true := by kernel_rfl
theorem sl70 : isSliceT Try.prog 70 = true := by kernel_rfl
theorem ti70 : tinfo Try.prog 70 = some (false, 1) := by kernel_rfl
theorem zi70 : zinfo Try.prog 70 = some [.zc] := by kernel_rfl

set_option maxRecDepth 100000 in
set_option maxHeartbeats 4000000 in
theorem impl_checkedHeap_ok {N : Nat} {p0 : (List Cell)} {r : (List Int) × Bool} (h0 : impl_checkedHeap N p0 = some r) : ACalls Try.prog 53 [(.sl (List.map eCell p0))] [] (fun v st => v = (.tup [(.own 0 0 (List.length r.1)), (.bool r.2)]) ∧ st = [⟨0, 3, 1, List.map eI r.1⟩]) := by
  unfold impl_checkedHeap at h0
  refine ACalls.intro Try.func53 rfl (by show 1 ≤ 159; decide) ?_
  show AW _ 0 _ (aret _ 0 Try.f53 _) ⟨159, _, _⟩
  refine AW.weaken (Wk.to (L := [(0, (.sl (List.map eCell p0)))]) ⟨.rfl, trivial⟩) ?_
  refine AW.seq fun K1 hK1 => ?_
  refine AW.regionO (by rfl) ?_
  refine ao_q (v := .zc) go0 rfl (aq_as rfl) ?_
  refine ao_q (v := (.bool false)) go0 rfl (aq_as rfl) ?_
  refine AO.done (hK1 _ ?_)
  refine AW.seq fun K2 hK2 => ?_
  refine AW.regionO (by rfl) ?_
  refine ao_q (v := (.sl (List.map eCell p0))) go0 rfl (aq_mv rfl) ?_
  refine ao_q (v := (i64 (Sh.len p0))) go0 rfl (aq_lens sl26 rfl) ?_
  obtain ⟨l3, gl3, h0⟩ := Sh.bind_some h0
  refine ao_make (m := 0) (st' := [⟨0, 3, 1, List.map eI l3⟩]) (enc := eI) (u := 0) go0 ei23 rfl rfl rfl gl3 rfl rfl ?_
  refine ao_q (v := (.own 0 0 (List.length l3))) go0 rfl (aq_as rfl) ?_
  refine AO.done (hK2 _ ?_)
  refine AW.seq fun K4 hK4 => ?_
  refine AW.seq fun K5 hK5 => ?_
  refine AW.regionO (by rfl) ?_
  refine ao_q (v := (.sl (List.map eCell p0))) go0 rfl (aq_mv rfl) ?_
  refine ao_q (v := (i64 (Sh.len p0))) go0 rfl (aq_lens sl26 rfl) ?_
  refine ao_q (v := (i64 0)) go0 rfl (aq_mv rfl) ?_
  refine AO.done (hK5 _ ?_)
  obtain ⟨o9, h1, h0⟩ := Sh.cont_some h0
  have M9 : ∀ (l8 : (List Int)), o9 = Sum.inr l8 → ∀ s, Wk 0 s ⟨159, envL [(0, (.sl (List.map eCell p0))), (4, (.own 0 0 (List.length l8)))], [⟨0, 3, 1, List.map eI l8⟩]⟩ → K4 s := by
    intro l8 hq s hw
    subst o9
    try dsimp only at h0
    refine hK4 _ (AW.weaken hw ?_)
    refine AW.seq fun K10 hK10 => ?_
    refine AW.seq fun K11 hK11 => ?_
    obtain ⟨o13, h1, h0⟩ := Sh.bind_some h0
    have M13 : ∀ (t12 : Bool), o13 = t12 → ∀ s, Wk 0 s ⟨159, envL [(0, (.sl (List.map eCell p0))), (4, (.own 0 0 (List.length l8))), (68, (.bool t12))], [⟨0, 3, 1, List.map eI l8⟩]⟩ → K11 s := by
      intro t12 hq s hw
      subst o13
      try dsimp only at h0
      refine hK11 _ (AW.weaken hw ?_)
      refine AW.cond' (b := t12) rfl (fun b14 => ?_) (fun b14 => ?_)
      · replace h0 := Sh.ite_t b14 h0
        refine AW.seq fun K15 hK15 => ?_
        refine AW.regionO (by rfl) ?_
        refine ao_q (v := .zc) go0 rfl (aq_as rfl) ?_
        refine ao_q (v := (.bool false)) go0 rfl (aq_as rfl) ?_
        refine AO.done (hK15 _ ?_)
        replace h0 := Sh.some_eq h0
        subst r
        exact AW.ret (Exists.intro _ (And.intro ((((Wk.adopt (t := 2) rfl 3 (size := 1) (by decide)).trans (Wk.to (L := [(2, (.own 1 0 (List.length ([] : List Int)))), (3, (.bool false))]) ⟨.rfl, .rfl, trivial⟩)).trans (Wk.permk (L := [(2, (.own 0 0 (List.length ([] : List Int)))), (3, (.bool false))]) (st' := [⟨0, 3, 1, List.map eI ([] : List Int)⟩]) (st1 := [⟨0, 3, 1, List.map eI ([] : List Int)⟩]) [1] rfl .nil (by decide) rfl rfl (.pure (pure_map fun _ => rfl) .nil) ⟨.rfl, .rfl, trivial⟩)).trans (Wk.to (L := [(2, (.own 0 0 (List.length ([] : List Int)))), (3, (.bool false))]) ⟨.rfl, .rfl, trivial⟩)) (And.intro rfl rfl)))
      · replace h0 := Sh.ite_f b14 h0
        refine AW.skip (hK10 _ ?_)
        refine AW.seq fun K16 hK16 => ?_
        refine AW.regionO (by rfl) ?_
        refine ao_q (v := (.own 0 0 (List.length l8))) go0 rfl (aq_mv rfl) ?_
        obtain ⟨q17, gq17, h0⟩ := Sh.bind_some h0
        refine ao_callb (v' := (.own 1 0 (List.length q17))) (st' := [⟨0, 3, 1, List.map eI l8⟩, ⟨0, 3, 1, List.map eI q17⟩]) go0 hb39 (slices_Clone_int_int_ok gq17) rfl (.own rfl rfl (fun _ => rfl) .nil) rfl (srow (fun _ => rfl) trivial) rfl rfl ?_
        refine ao_q (v := (.own 1 0 (List.length q17))) go0 rfl (aq_as rfl) ?_
        refine AO.done (hK16 _ ?_)
        refine AW.seq fun K18 hK18 => ?_
        refine AW.regionO (by rfl) ?_
        refine ao_q (v := .zc) go0 rfl (aq_as rfl) ?_
        refine AO.done (hK18 _ ?_)
        refine AW.seq fun K19 hK19 => ?_
        refine AW.regionO (by rfl) ?_
        refine ao_q (v := (i64 0)) go0 rfl (aq_as rfl) ?_
        refine AO.done (hK19 _ ?_)
        refine AW.seq fun K20 hK20 => ?_
        refine AW.seq fun K21 hK21 => ?_
        refine AW.regionO (by rfl) ?_
        refine ao_q (v := (.sl (List.map eCell p0))) go0 rfl (aq_mv rfl) ?_
        refine ao_q (v := (i64 (Sh.len p0))) go0 rfl (aq_lens sl26 rfl) ?_
        refine ao_q (v := (i64 0)) go0 rfl (aq_mv rfl) ?_
        refine AO.done (hK21 _ ?_)
        obtain ⟨o25, h1, h0⟩ := Sh.cont_some h0
        have M25 : ∀ (l24 : (List Int)), o25 = Sum.inr l24 → ∀ s, Wk 0 s ⟨159, envL [(0, (.sl (List.map eCell p0))), (4, (.own 0 0 (List.length l8))), (11, (.own 1 0 (List.length q17))), (12, (.own 2 0 (List.length l24))), (13, (i64 0))], [⟨0, 3, 1, List.map eI l8⟩, ⟨0, 3, 1, List.map eI q17⟩, ⟨0, 3, 1, List.map eI l24⟩]⟩ → K20 s := by
          intro l24 hq s hw
          subst o25
          try dsimp only at h0
          refine hK20 _ (AW.weaken hw ?_)
          refine AW.seq fun K26 hK26 => ?_
          obtain ⟨o31, h1, h0⟩ := Sh.bind_some h0
          have M31 : ∀ (many30 : Int), o31 = many30 → ∀ s, Wk 0 s ⟨159, envL [(0, (.sl (List.map eCell p0))), (4, (.own 0 0 (List.length l8))), (13, (i64 many30))], [⟨0, 3, 1, List.map eI l8⟩]⟩ → K26 s := by
            intro many30 hq s hw
            subst o31
            try dsimp only at h0
            refine hK26 _ (AW.weaken hw ?_)
            refine AW.seq fun K32 hK32 => ?_
            refine AW.regionO (by rfl) ?_
            refine ao_q (v := (.own 0 0 (List.length l8))) go0 rfl (aq_mv rfl) ?_
            refine ao_q (v := (i64 many30)) go0 rfl (aq_mv rfl) ?_
            refine ao_q (v := (.sl (List.map eCell p0))) go0 rfl (aq_mv rfl) ?_
            refine ao_q (v := (i64 (Sh.len p0))) go0 rfl (aq_lens sl26 rfl) ?_
            refine ao_q (v := (.bool (decide (many30 = (Sh.len p0))))) go0 rfl (aq_eq rfl rfl) ?_
            refine ao_q (v := (.own 0 0 (List.length l8))) go0 rfl (aq_as rfl) ?_
            refine ao_q (v := (.bool (decide (many30 = (Sh.len p0))))) go0 rfl (aq_as rfl) ?_
            refine AO.done (hK32 _ ?_)
            replace h0 := Sh.some_eq h0
            subst r
            exact AW.ret (Exists.intro _ (And.intro (Wk.to (L := [(2, (.own 0 0 (List.length l8))), (3, (.bool (decide (many30 = (Sh.len p0)))))]) ⟨.rfl, .rfl, trivial⟩) (And.intro rfl rfl)))
          refine AW.block (AW.loopF (σ := Int × (List Int) × (List Int)) (fun n v => impl_checkedHeap_L3 N p0 n v.1 v.2.1 v.2.2 = some o31) (fun (many27, l28, l29) => ⟨159, envL [(0, (.sl (List.map eCell p0))), (4, (.own 0 0 (List.length l8))), (11, (.own 1 0 (List.length l28))), (12, (.own 2 0 (List.length l29))), (13, (i64 many27))], [⟨0, 3, 1, List.map eI l8⟩, ⟨0, 3, 1, List.map eI l28⟩, ⟨0, 3, 1, List.map eI l29⟩]⟩) N (0, q17, l24) h1 (Wk.to (L := [(0, (.sl (List.map eCell p0))), (4, (.own 0 0 (List.length l8))), (11, (.own 1 0 (List.length q17))), (12, (.own 2 0 (List.length l24))), (13, (i64 0))]) ⟨.rfl, .rfl, .rfl, .rfl, .rfl, trivial⟩) (fun _ hv => by rw [impl_checkedHeap_L3] at hv; cases hv) ?_)
          rintro n ⟨many27, l28, l29⟩ h1
          try dsimp only at h1 ⊢
          rw [impl_checkedHeap_L3] at h1
          refine AW.seq fun K33 hK33 => ?_
          refine AW.seq fun K34 hK34 => ?_
          refine AW.regionO (by rfl) ?_
          refine ao_q (v := (.own 2 0 (List.length l29))) go0 rfl (aq_mv rfl) ?_
          refine ao_q (v := (i64 (Sh.len l29))) go0 rfl (aq_leno sl23 rfl rfl rfl) ?_
          refine ao_q (v := (.bool (decide (0 < (Sh.len l29))))) go0 rfl (aq_gt rfl rfl) ?_
          refine AO.done (hK34 _ ?_)
          refine AW.cond' (b := decide (0 < (Sh.len l29))) rfl (fun b35 => ?_) (fun b35 => ?_)
          · replace h1 := Sh.ite_t b35 h1
            refine AW.skip (hK33 _ ?_)
            refine AW.seq fun K36 hK36 => ?_
            refine AW.block ?_
            refine AW.seq fun K37 hK37 => ?_
            refine AW.regionO (by rfl) ?_
            refine ao_q (v := (.sl (List.map eCell p0))) go0 rfl (aq_mv rfl) ?_
            refine ao_q (v := (.own 2 0 (List.length l29))) go0 rfl (aq_mv rfl) ?_
            refine ao_q (v := (.own 2 0 (List.length l29))) go0 rfl (aq_mv rfl) ?_
            refine ao_q (v := (i64 (Sh.len l29))) go0 rfl (aq_leno sl23 rfl rfl rfl) ?_
            refine ao_q (v := (i64 (Sh.w ((Sh.len l29) - 1)))) go0 rfl (aq_sub rfl rfl) ?_
            obtain ⟨c38, gc38, h1⟩ := Sh.bind_some h1
            refine ao_q (v := (.ptr 2 0 (Int.toNat (Sh.w ((Sh.len l29) - 1))) 0)) go0 rfl (aq_ixo ei23 rfl rfl rfl rfl gc38) ?_
            refine ao_q (v := (i64 c38)) go0 rfl (aq_ldp ti3 rfl rfl (map_get gc38) rfl) ?_
            obtain ⟨c39, gc39, h1⟩ := Sh.bind_some h1
            refine ao_q (v := (.iptr (eCell c39) 0)) go0 rfl (aq_ixs ei26 rfl rfl gc39 rfl) ?_
            refine ao_q (v := (.agg [(i64 c39.count), (i64 c39.tag), (.sl (List.map eI c39.fields))])) go0 rfl (aq_ldia ti58 rfl (show 0 + 3 ≤ 3 by decide) rfl) ?_
            refine ao_alloc (m := 3) (st' := [⟨0, 3, 1, List.map eI l8⟩, ⟨0, 3, 1, List.map eI l28⟩, ⟨0, 3, 1, List.map eI l29⟩, ⟨0, 58, 3, [[(i64 0), (i64 0), .zc]]⟩]) go0 zi58 rfl rfl ?_
            refine ao_str (st' := [⟨0, 3, 1, List.map eI l8⟩, ⟨0, 3, 1, List.map eI l28⟩, ⟨0, 3, 1, List.map eI l29⟩, ⟨0, 58, 3, [[(i64 c39.count), (i64 c39.tag), (.sl (List.map eI c39.fields))]]⟩]) go0 ti58 rfl rfl rfl rfl rfl rfl (show 0 + 3 ≤ 3 by decide) rfl ?_
            refine AO.done (hK37 _ ?_)
            refine AW.seq fun K40 hK40 => ?_
            refine AW.regionO (by rfl) ?_
            refine ao_q (v := (.own 2 0 (List.length l29))) go0 rfl (aq_mv rfl) ?_
            refine ao_q (v := (.own 2 0 (List.length l29))) go0 rfl (aq_mv rfl) ?_
            refine ao_q (v := (i64 (Sh.len l29))) go0 rfl (aq_leno sl23 rfl rfl rfl) ?_
            refine ao_q (v := (i64 (Sh.w ((Sh.len l29) - 1)))) go0 rfl (aq_sub rfl rfl) ?_
            obtain ⟨l41, gl41, h1⟩ := Sh.bind_some h1
            refine ao_hio (st' := [⟨0, 3, 1, List.map eI l8⟩, ⟨0, 3, 1, List.map eI l28⟩, ⟨1, 3, 1, List.map eI l41⟩, ⟨0, 58, 3, [[(i64 c39.count), (i64 c39.tag), (.sl (List.map eI c39.fields))]]⟩]) go0 ei23 rfl rfl rfl rfl gl41 rfl ?_
            refine ao_q (v := (.own 2 1 (List.length l41))) go0 rfl (aq_as rfl) ?_
            refine AO.done (hK40 _ ?_)
            refine AW.seq fun K42 hK42 => ?_
            refine AW.regionO (by rfl) ?_
            refine ao_q (v := (.ptr 3 0 0 2)) go0 rfl (aq_fap fi58_2 rfl rfl (show 0 + 2 ≤ 3 by decide) rfl) ?_
            refine ao_q (v := (.sl (List.map eI c39.fields))) go0 rfl (aq_ldp ti23 rfl rfl rfl rfl) ?_
            refine ao_q (v := (i64 (Sh.len c39.fields))) go0 rfl (aq_lens sl23 rfl) ?_
            refine ao_q (v := (i64 0)) go0 rfl (aq_mv rfl) ?_
            refine AO.done (hK42 _ ?_)
            obtain ⟨o48, h2, h1⟩ := Sh.bind_some h1
            have M48 : ∀ (l46 : (List Int)) (l47 : (List Int)), o48 = (l46, l47) → ∀ s, Wk 0 s ⟨159, envL [(0, (.sl (List.map eCell p0))), (4, (.own 0 0 (List.length l8))), (11, (.own 1 0 (List.length l46))), (12, (.own 2 0 (List.length l47))), (13, (i64 many27))], [⟨0, 3, 1, List.map eI l8⟩, ⟨0, 3, 1, List.map eI l46⟩, ⟨0, 3, 1, List.map eI l47⟩]⟩ → K36 s := by
              intro l46 l47 hq s hw
              subst o48
              try dsimp only at h1
              refine hK36 _ (AW.weaken hw ?_)
              refine AW.regionO (by rfl) ?_
              refine ao_q (v := (i64 many27)) go0 rfl (aq_mv rfl) ?_
              refine ao_q (v := (i64 (Sh.w (many27 + 1)))) go0 rfl (aq_add rfl rfl) ?_
              refine ao_q (v := (i64 (Sh.w (many27 + 1)))) go0 rfl (aq_as rfl) ?_
              exact AO.done (Exists.intro (Sh.w (many27 + 1), l46, l47) (And.intro h1 (Wk.to (L := [(0, (.sl (List.map eCell p0))), (4, (.own 0 0 (List.length l8))), (11, (.own 1 0 (List.length l46))), (12, (.own 2 0 (List.length l47))), (13, (i64 (Sh.w (many27 + 1))))]) ⟨.rfl, .rfl, .rfl, .rfl, .rfl, trivial⟩)))
            refine AW.block (AW.loopF (σ := Int × (List Int) × (List Int)) (fun n v => impl_checkedHeap_L4 c39 p0 n v.1 v.2.1 v.2.2 = some o48) (fun (t43, l44, l45) => ⟨159, envL [(0, (.sl (List.map eCell p0))), (4, (.own 0 0 (List.length l8))), (11, (.own 1 0 (List.length l44))), (12, (.own 2 0 (List.length l45))), (13, (i64 many27)), (125, (.sl (List.map eI c39.fields))), (126, (i64 (Sh.len c39.fields))), (127, (i64 t43))], [⟨0, 3, 1, List.map eI l8⟩, ⟨0, 3, 1, List.map eI l44⟩, ⟨0, 3, 1, List.map eI l45⟩]⟩) N (0, l28, l41) h2 (by refine Wk.trans (Wk.rg (L := [(0, (.sl (List.map eCell p0))), (4, (.own 0 0 (List.length l8))), (11, (.own 1 0 (List.length l28))), (12, (.own 2 0 (List.length l41))), (13, (i64 many27)), (125, (.sl (List.map eI c39.fields))), (126, (i64 (Sh.len c39.fields))), (127, (i64 0))]) (st' := [⟨0, 3, 1, List.map eI l8⟩, ⟨0, 3, 1, List.map eI l28⟩, ⟨0, 3, 1, List.map eI l41⟩, ⟨0, 58, 3, [[(i64 c39.count), (i64 c39.tag), (.sl (List.map eI c39.fields))]]⟩]) (.pure (pure_map fun _ => rfl) (.pure (pure_map fun _ => rfl) (.pure (pure_map fun _ => rfl) (.raw rfl rfl .nil)))) ⟨.rfl, .rfl, .rfl, .rfl, .rfl, .rfl, .rfl, .rfl, trivial⟩) ?_; refine Wk.trans (Wk.permk (L := [(0, (.sl (List.map eCell p0))), (4, (.own 0 0 (List.length l8))), (11, (.own 1 0 (List.length l28))), (12, (.own 2 0 (List.length l41))), (13, (i64 many27)), (125, (.sl (List.map eI c39.fields))), (126, (i64 (Sh.len c39.fields))), (127, (i64 0))]) (st' := [⟨0, 3, 1, List.map eI l8⟩, ⟨0, 3, 1, List.map eI l28⟩, ⟨0, 3, 1, List.map eI l41⟩]) (st1 := [⟨0, 3, 1, List.map eI l8⟩, ⟨0, 3, 1, List.map eI l28⟩, ⟨0, 3, 1, List.map eI l41⟩]) [0, 1, 2] rfl .nil (by decide) rfl rfl (.pure (pure_map fun _ => rfl) (.pure (pure_map fun _ => rfl) (.pure (pure_map fun _ => rfl) .nil))) ⟨.rfl, .rfl, .rfl, .rfl, .rfl, .rfl, .rfl, .rfl, trivial⟩) ?_; exact Wk.to (L := [(0, (.sl (List.map eCell p0))), (4, (.own 0 0 (List.length l8))), (11, (.own 1 0 (List.length l28))), (12, (.own 2 0 (List.length l41))), (13, (i64 many27)), (125, (.sl (List.map eI c39.fields))), (126, (i64 (Sh.len c39.fields))), (127, (i64 0))]) ⟨.rfl, .rfl, .rfl, .rfl, .rfl, .rfl, .rfl, .rfl, trivial⟩) (fun _ hv => by rw [impl_checkedHeap_L4] at hv; cases hv) ?_)
            rintro n ⟨t43, l44, l45⟩ h2
            try dsimp only at h2 ⊢
            rw [impl_checkedHeap_L4] at h2
            refine AW.seq fun K49 hK49 => ?_
            refine AW.regionO (by rfl) ?_
            refine ao_q (v := (.bool (decide (t43 < (Sh.len c39.fields))))) go0 rfl (aq_lt rfl rfl) ?_
            refine AO.done (hK49 _ ?_)
            refine AW.seq fun K50 hK50 => ?_
            refine AW.cond' (b := decide (t43 < (Sh.len c39.fields))) rfl (fun b51 => ?_) (fun b51 => ?_)
            · replace h2 := Sh.ite_t b51 h2
              refine AW.skip (hK50 _ ?_)
              refine AW.seq fun K52 hK52 => ?_
              obtain ⟨o55, h3, h2⟩ := Sh.bind_some h2
              have M55 : ∀ (l53 : (List Int)) (l54 : (List Int)), o55 = (l53, l54) → ∀ s, Wk 0 s ⟨159, envL [(0, (.sl (List.map eCell p0))), (4, (.own 0 0 (List.length l8))), (11, (.own 1 0 (List.length l53))), (12, (.own 2 0 (List.length l54))), (13, (i64 many27)), (125, (.sl (List.map eI c39.fields))), (126, (i64 (Sh.len c39.fields))), (127, (i64 t43))], [⟨0, 3, 1, List.map eI l8⟩, ⟨0, 3, 1, List.map eI l53⟩, ⟨0, 3, 1, List.map eI l54⟩]⟩ → K52 s := by
                intro l53 l54 hq s hw
                subst o55
                try dsimp only at h2
                refine hK52 _ (AW.weaken hw ?_)
                refine AW.regionO (by rfl) ?_
                refine ao_q (v := (i64 (Sh.w (t43 + 1)))) go0 rfl (aq_add rfl rfl) ?_
                refine ao_q (v := (i64 (Sh.w (t43 + 1)))) go0 rfl (aq_mv rfl) ?_
                exact AO.done (Exists.intro (Sh.w (t43 + 1), l53, l54) (And.intro h2 (Wk.to (L := [(0, (.sl (List.map eCell p0))), (4, (.own 0 0 (List.length l8))), (11, (.own 1 0 (List.length l53))), (12, (.own 2 0 (List.length l54))), (13, (i64 many27)), (125, (.sl (List.map eI c39.fields))), (126, (i64 (Sh.len c39.fields))), (127, (i64 (Sh.w (t43 + 1))))]) ⟨.rfl, .rfl, .rfl, .rfl, .rfl, .rfl, .rfl, .rfl, trivial⟩)))
              refine AW.block ?_
              refine AW.seq fun K56 hK56 => ?_
              refine AW.regionO (by rfl) ?_
              obtain ⟨c57, gc57, h3⟩ := Sh.bind_some h3
              refine ao_q (v := (.iptr (eI c57) 0)) go0 rfl (aq_ixs ei23 rfl rfl gc57 rfl) ?_
              refine ao_q (v := (i64 c57)) go0 rfl (aq_ldi ti3 rfl rfl) ?_
              refine ao_q (v := (i64 c57)) go0 rfl (aq_as rfl) ?_
              refine AO.done (hK56 _ ?_)
              refine AW.seq fun K58 hK58 => ?_
              refine AW.regionO (by rfl) ?_
              refine ao_q (v := (.sl (List.map eCell p0))) go0 rfl (aq_mv rfl) ?_
              refine ao_q (v := (i64 c57)) go0 rfl (aq_mv rfl) ?_
              obtain ⟨q59, gq59, h3⟩ := Sh.bind_some h3
              refine ao_call (v' := (.tup [(i64 q59.1), (.bool q59.2)])) (st' := [⟨0, 3, 1, List.map eI l8⟩, ⟨0, 3, 1, List.map eI l44⟩, ⟨0, 3, 1, List.map eI l45⟩]) go0 hb40 (impl_liveAt_ok gq59) rfl rfl trivial rfl rfl ?_
              refine ao_q (v := (.tup [(i64 q59.1), (.bool q59.2)])) go0 rfl (aq_mv rfl) ?_
              refine ao_q (v := (i64 q59.1)) go0 rfl (aq_ex rfl rfl) ?_
              refine ao_q (v := (.bool q59.2)) go0 rfl (aq_ex rfl rfl) ?_
              refine ao_q (v := (i64 q59.1)) go0 rfl (aq_as rfl) ?_
              refine ao_q (v := (.bool q59.2)) go0 rfl (aq_as rfl) ?_
              refine AO.done (hK58 _ ?_)
              refine AW.seq fun K60 hK60 => ?_
              refine AW.regionO (by rfl) ?_
              refine ao_q (v := (.bool q59.2)) go0 rfl (aq_mv rfl) ?_
              refine AO.done (hK60 _ ?_)
              refine AW.cond' (b := q59.2) rfl (fun b61 => ?_) (fun b61 => ?_)
              · replace h3 := Sh.ite_t b61 h3
                refine AW.seq fun K62 hK62 => ?_
                refine AW.regionO (by rfl) ?_
                refine ao_q (v := (.own 1 0 (List.length l44))) go0 rfl (aq_mv rfl) ?_
                refine ao_q (v := (i64 q59.1)) go0 rfl (aq_mv rfl) ?_
                obtain ⟨c63, gc63, h3⟩ := Sh.bind_some h3
                refine ao_q (v := (.ptr 1 0 (Int.toNat q59.1) 0)) go0 rfl (aq_ixo ei23 rfl rfl rfl rfl gc63) ?_
                refine ao_q (v := (i64 c63)) go0 rfl (aq_ldp ti3 rfl rfl (map_get gc63) rfl) ?_
                refine ao_q (v := (i64 (Sh.w (c63 - 1)))) go0 rfl (aq_sub rfl rfl) ?_
                refine ao_q (v := (.ptr 1 0 (Int.toNat q59.1) 0)) go0 rfl (aq_ixo ei23 rfl rfl rfl rfl gc63) ?_
                refine ao_stl (st' := [⟨0, 3, 1, List.map eI l8⟩, ⟨0, 3, 1, List.map eI (Sh.put l44 q59.1 (Sh.w (c63 - 1)))⟩, ⟨0, 3, 1, List.map eI l45⟩]) (u' := Sh.w (c63 - 1)) go0 ti3 rfl rfl gc63 rfl rfl rfl (show 0 + 1 ≤ 1 by decide) rfl rfl ?_
                refine AO.done (hK62 _ ?_)
                refine AW.seq fun K64 hK64 => ?_
                refine AW.regionO (by rfl) ?_
                refine ao_q (v := (.own 1 0 (List.length l44))) go0 rfl (aq_mv rfl) ?_
                refine ao_q (v := (i64 q59.1)) go0 rfl (aq_mv rfl) ?_
                obtain ⟨c65, gc65, h3⟩ := Sh.bind_some h3
                refine ao_q (v := (.ptr 1 0 (Int.toNat q59.1) 0)) go0 rfl (aq_ixo ei23 rfl rfl rfl (by simp only [Sh.put_len]) gc65) ?_
                refine ao_q (v := (i64 c65)) go0 rfl (aq_ldp ti3 rfl rfl (map_get gc65) rfl) ?_
                refine ao_q (v := (.bool (decide (c65 = 0)))) go0 rfl (aq_eq rfl rfl) ?_
                refine AO.done (hK64 _ ?_)
                refine AW.cond' (b := decide (c65 = 0)) rfl (fun b66 => ?_) (fun b66 => ?_)
                · replace h3 := Sh.ite_t b66 h3
                  refine AW.regionO (by rfl) ?_
                  refine ao_q (v := (.own 2 0 (List.length l45))) go0 rfl (aq_mv rfl) ?_
                  refine ao_q (v := (i64 q59.1)) go0 rfl (aq_mv rfl) ?_
                  refine ao_bs (m := 3) (st' := [⟨0, 3, 1, List.map eI l8⟩, ⟨0, 3, 1, List.map eI (Sh.put l44 q59.1 (Sh.w (c63 - 1)))⟩, ⟨0, 3, 1, List.map eI l45⟩, ⟨0, 3, 1, List.map eI [q59.1]⟩]) (l := [q59.1]) (enc := eI) go0 ei23 (by decide) rfl rfl rfl rfl rfl rfl ?_
                  obtain ⟨l67, gl67, h3⟩ := Sh.bind_some h3
                  refine ao_apo (st' := [⟨0, 3, 1, List.map eI l8⟩, ⟨0, 3, 1, List.map eI (Sh.put l44 q59.1 (Sh.w (c63 - 1)))⟩, ⟨1, 3, 1, List.map eI l67⟩, ⟨0, 3, 1, List.map eI [q59.1]⟩]) (l2 := [q59.1]) go0 ei23 rfl rfl rfl rfl (el_o rfl rfl) (fun _ => rfl) gl67 rfl ?_
                  refine ao_q (v := (.own 2 1 (List.length l67))) go0 rfl (aq_as rfl) ?_
                  exact AO.done (M55 (Sh.put l44 q59.1 (Sh.w (c63 - 1))) l67 (Sh.some_eq h3).symm _ (by refine Wk.trans (Wk.rg (L := [(0, (.sl (List.map eCell p0))), (4, (.own 0 0 (List.length l8))), (11, (.own 1 0 (List.length l44))), (12, (.own 2 0 (List.length l67))), (13, (i64 many27)), (125, (.sl (List.map eI c39.fields))), (126, (i64 (Sh.len c39.fields))), (127, (i64 t43))]) (st' := [⟨0, 3, 1, List.map eI l8⟩, ⟨0, 3, 1, List.map eI (Sh.put l44 q59.1 (Sh.w (c63 - 1)))⟩, ⟨0, 3, 1, List.map eI l67⟩, ⟨0, 3, 1, List.map eI [q59.1]⟩]) (.pure (pure_map fun _ => rfl) (.pure (pure_map fun _ => rfl) (.pure (pure_map fun _ => rfl) (.pure (pure_map fun _ => rfl) .nil)))) ⟨.rfl, .rfl, .rfl, .rfl, .rfl, .rfl, .rfl, .rfl, trivial⟩) ?_; refine Wk.trans (Wk.permk (L := [(0, (.sl (List.map eCell p0))), (4, (.own 0 0 (List.length l8))), (11, (.own 1 0 (List.length l44))), (12, (.own 2 0 (List.length l67))), (13, (i64 many27)), (125, (.sl (List.map eI c39.fields))), (126, (i64 (Sh.len c39.fields))), (127, (i64 t43))]) (st' := [⟨0, 3, 1, List.map eI l8⟩, ⟨0, 3, 1, List.map eI (Sh.put l44 q59.1 (Sh.w (c63 - 1)))⟩, ⟨0, 3, 1, List.map eI l67⟩]) (st1 := [⟨0, 3, 1, List.map eI l8⟩, ⟨0, 3, 1, List.map eI (Sh.put l44 q59.1 (Sh.w (c63 - 1)))⟩, ⟨0, 3, 1, List.map eI l67⟩]) [0, 1, 2] rfl .nil (by decide) rfl rfl (.pure (pure_map fun _ => rfl) (.pure (pure_map fun _ => rfl) (.pure (pure_map fun _ => rfl) .nil))) ⟨.rfl, .rfl, .rfl, .rfl, .rfl, .rfl, .rfl, .rfl, trivial⟩) ?_; exact Wk.to (L := [(0, (.sl (List.map eCell p0))), (4, (.own 0 0 (List.length l8))), (11, (.own 1 0 (List.length (Sh.put l44 q59.1 (Sh.w (c63 - 1)))))), (12, (.own 2 0 (List.length l67))), (13, (i64 many27)), (125, (.sl (List.map eI c39.fields))), (126, (i64 (Sh.len c39.fields))), (127, (i64 t43))]) ⟨.rfl, .rfl, (.len (by simp only [Sh.put_len])), .rfl, .rfl, .rfl, .rfl, .rfl, trivial⟩))
                · replace h3 := Sh.ite_f b66 h3
                  exact AW.skip (M55 (Sh.put l44 q59.1 (Sh.w (c63 - 1))) l45 (Sh.some_eq h3).symm _ (Wk.to (L := [(0, (.sl (List.map eCell p0))), (4, (.own 0 0 (List.length l8))), (11, (.own 1 0 (List.length (Sh.put l44 q59.1 (Sh.w (c63 - 1)))))), (12, (.own 2 0 (List.length l45))), (13, (i64 many27)), (125, (.sl (List.map eI c39.fields))), (126, (i64 (Sh.len c39.fields))), (127, (i64 t43))]) ⟨.rfl, .rfl, (.len (by simp only [Sh.put_len])), .rfl, .rfl, .rfl, .rfl, .rfl, trivial⟩))
              · replace h3 := Sh.ite_f b61 h3
                exact AW.skip (M55 l44 l45 (Sh.some_eq h3).symm _ (Wk.to (L := [(0, (.sl (List.map eCell p0))), (4, (.own 0 0 (List.length l8))), (11, (.own 1 0 (List.length l44))), (12, (.own 2 0 (List.length l45))), (13, (i64 many27)), (125, (.sl (List.map eI c39.fields))), (126, (i64 (Sh.len c39.fields))), (127, (i64 t43))]) ⟨.rfl, .rfl, .rfl, .rfl, .rfl, .rfl, .rfl, .rfl, trivial⟩))
            · replace h2 := Sh.ite_f b51 h2
              exact AW.exit (M48 l44 l45 (Sh.some_eq h2).symm _ (Wk.to (L := [(0, (.sl (List.map eCell p0))), (4, (.own 0 0 (List.length l8))), (11, (.own 1 0 (List.length l44))), (12, (.own 2 0 (List.length l45))), (13, (i64 many27))]) ⟨.rfl, .rfl, .rfl, .rfl, .rfl, trivial⟩))
          · replace h1 := Sh.ite_f b35 h1
            exact AW.exit (M31 many27 (Sh.some_eq h1).symm _ (by refine Wk.trans (Wk.permk (L := [(0, (.sl (List.map eCell p0))), (4, (.own 0 0 (List.length l8))), (13, (i64 many27))]) (st' := [⟨0, 3, 1, List.map eI l8⟩]) (st1 := [⟨0, 3, 1, List.map eI l8⟩]) [0] rfl .nil (by decide) rfl rfl (.pure (pure_map fun _ => rfl) .nil) ⟨.rfl, .rfl, .rfl, trivial⟩) ?_; exact Wk.to (L := [(0, (.sl (List.map eCell p0))), (4, (.own 0 0 (List.length l8))), (13, (i64 many27))]) ⟨.rfl, .rfl, .rfl, trivial⟩))
        refine AW.block (AW.loopF (σ := Int × (List Int)) (fun n v => impl_checkedHeap_L2 l8 p0 n v.1 v.2 = some o25) (fun (t22, l23) => ⟨159, envL [(0, (.sl (List.map eCell p0))), (4, (.own 0 0 (List.length l8))), (11, (.own 1 0 (List.length q17))), (12, (.own 2 0 (List.length l23))), (13, (i64 0)), (71, (.sl (List.map eCell p0))), (72, (i64 (Sh.len p0))), (73, (i64 t22))], [⟨0, 3, 1, List.map eI l8⟩, ⟨0, 3, 1, List.map eI q17⟩, ⟨0, 3, 1, List.map eI l23⟩]⟩) N (0, []) h1 (by refine Wk.trans ((Wk.adopt (t := 12) rfl 3 (size := 1) (by decide)).trans (Wk.to (L := [(0, (.sl (List.map eCell p0))), (4, (.own 0 0 (List.length l8))), (11, (.own 1 0 (List.length q17))), (12, (.own 2 0 (List.length ([] : List Int)))), (13, (i64 0)), (71, (.sl (List.map eCell p0))), (72, (i64 (Sh.len p0))), (73, (i64 0))]) ⟨.rfl, .rfl, .rfl, .rfl, .rfl, .rfl, .rfl, .rfl, trivial⟩)) ?_; exact Wk.to (L := [(0, (.sl (List.map eCell p0))), (4, (.own 0 0 (List.length l8))), (11, (.own 1 0 (List.length q17))), (12, (.own 2 0 (List.length ([] : List Int)))), (13, (i64 0)), (71, (.sl (List.map eCell p0))), (72, (i64 (Sh.len p0))), (73, (i64 0))]) ⟨.rfl, .rfl, .rfl, .rfl, .rfl, .rfl, .rfl, .rfl, trivial⟩) (fun _ hv => by rw [impl_checkedHeap_L2] at hv; cases hv) ?_)
        rintro n ⟨t22, l23⟩ h1
        try dsimp only at h1 ⊢
        rw [impl_checkedHeap_L2] at h1
        refine AW.seq fun K68 hK68 => ?_
        refine AW.regionO (by rfl) ?_
        refine ao_q (v := (.bool (decide (t22 < (Sh.len p0))))) go0 rfl (aq_lt rfl rfl) ?_
        refine AO.done (hK68 _ ?_)
        refine AW.seq fun K69 hK69 => ?_
        refine AW.cond' (b := decide (t22 < (Sh.len p0))) rfl (fun b70 => ?_) (fun b70 => ?_)
        · replace h1 := Sh.ite_t b70 h1
          refine AW.skip (hK69 _ ?_)
          refine AW.seq fun K71 hK71 => ?_
          obtain ⟨o73, h2, h1⟩ := Sh.cont_some h1
          have M73 : ∀ (l72 : (List Int)), o73 = Sum.inr l72 → ∀ s, Wk 0 s ⟨159, envL [(0, (.sl (List.map eCell p0))), (4, (.own 0 0 (List.length l8))), (11, (.own 1 0 (List.length q17))), (12, (.own 2 0 (List.length l72))), (13, (i64 0)), (71, (.sl (List.map eCell p0))), (72, (i64 (Sh.len p0))), (73, (i64 t22))], [⟨0, 3, 1, List.map eI l8⟩, ⟨0, 3, 1, List.map eI q17⟩, ⟨0, 3, 1, List.map eI l72⟩]⟩ → K71 s := by
            intro l72 hq s hw
            subst o73
            try dsimp only at h1
            refine hK71 _ (AW.weaken hw ?_)
            refine AW.regionO (by rfl) ?_
            refine ao_q (v := (i64 (Sh.w (t22 + 1)))) go0 rfl (aq_add rfl rfl) ?_
            refine ao_q (v := (i64 (Sh.w (t22 + 1)))) go0 rfl (aq_mv rfl) ?_
            exact AO.done (Exists.intro (Sh.w (t22 + 1), l72) (And.intro h1 (Wk.to (L := [(0, (.sl (List.map eCell p0))), (4, (.own 0 0 (List.length l8))), (11, (.own 1 0 (List.length q17))), (12, (.own 2 0 (List.length l72))), (13, (i64 0)), (71, (.sl (List.map eCell p0))), (72, (i64 (Sh.len p0))), (73, (i64 (Sh.w (t22 + 1))))]) ⟨.rfl, .rfl, .rfl, .rfl, .rfl, .rfl, .rfl, .rfl, trivial⟩)))
          refine AW.block ?_
          refine AW.seq fun K74 hK74 => ?_
          refine AW.regionO (by rfl) ?_
          refine ao_q (v := (i64 t22)) go0 rfl (aq_mv rfl) ?_
          obtain ⟨c75, gc75, h2⟩ := Sh.bind_some h2
          refine ao_q (v := (.iptr (eCell c75) 0)) go0 rfl (aq_ixs ei26 rfl rfl gc75 rfl) ?_
          refine ao_q (v := (.agg [(i64 c75.count), (i64 c75.tag), (.sl (List.map eI c75.fields))])) go0 rfl (aq_ldia ti58 rfl (show 0 + 3 ≤ 3 by decide) rfl) ?_
          refine ao_alloc (m := 3) (st' := [⟨0, 3, 1, List.map eI l8⟩, ⟨0, 3, 1, List.map eI q17⟩, ⟨0, 3, 1, List.map eI l23⟩, ⟨0, 58, 3, [[(i64 0), (i64 0), .zc]]⟩]) go0 zi58 rfl rfl ?_
          refine ao_q (v := (i64 t22)) go0 rfl (aq_as rfl) ?_
          refine ao_str (st' := [⟨0, 3, 1, List.map eI l8⟩, ⟨0, 3, 1, List.map eI q17⟩, ⟨0, 3, 1, List.map eI l23⟩, ⟨0, 58, 3, [[(i64 c75.count), (i64 c75.tag), (.sl (List.map eI c75.fields))]]⟩]) go0 ti58 rfl rfl rfl rfl rfl rfl (show 0 + 3 ≤ 3 by decide) rfl ?_
          refine AO.done (hK74 _ ?_)
          refine AW.seq fun K76 hK76 => ?_
          refine AW.seq fun K77 hK77 => ?_
          obtain ⟨o79, h3, h2⟩ := Sh.bind_some h2
          have M79 : ∀ (t78 : Bool), o79 = t78 → ∀ s, Wk 0 s ⟨159, envL [(0, (.sl (List.map eCell p0))), (4, (.own 0 0 (List.length l8))), (11, (.own 1 0 (List.length q17))), (12, (.own 2 0 (List.length l23))), (13, (i64 0)), (14, (i64 t22)), (71, (.sl (List.map eCell p0))), (72, (i64 (Sh.len p0))), (73, (i64 t22)), (94, (.bool t78))], [⟨0, 3, 1, List.map eI l8⟩, ⟨0, 3, 1, List.map eI q17⟩, ⟨0, 3, 1, List.map eI l23⟩]⟩ → K77 s := by
            intro t78 hq s hw
            subst o79
            try dsimp only at h2
            refine hK77 _ (AW.weaken hw ?_)
            refine AW.cond' (b := t78) rfl (fun b80 => ?_) (fun b80 => ?_)
            · replace h2 := Sh.ite_t b80 h2
              refine AW.seq fun K81 hK81 => ?_
              refine AW.regionO (by rfl) ?_
              refine ao_q (v := .zc) go0 rfl (aq_as rfl) ?_
              refine ao_q (v := (.bool false)) go0 rfl (aq_as rfl) ?_
              refine AO.done (hK81 _ ?_)
              replace h2 := Sh.some_eq h2
              subst o73
              try dsimp only [id] at h1
              replace h1 := Sh.some_eq h1
              subst o25
              try dsimp only [id] at h0
              replace h0 := Sh.some_eq h0
              subst r
              exact AW.ret (Exists.intro _ (And.intro ((((Wk.adopt (t := 2) rfl 3 (size := 1) (by decide)).trans (Wk.to (L := [(2, (.own 3 0 (List.length ([] : List Int)))), (3, (.bool false))]) ⟨.rfl, .rfl, trivial⟩)).trans (Wk.permk (L := [(2, (.own 0 0 (List.length ([] : List Int)))), (3, (.bool false))]) (st' := [⟨0, 3, 1, List.map eI ([] : List Int)⟩]) (st1 := [⟨0, 3, 1, List.map eI ([] : List Int)⟩]) [3] rfl .nil (by decide) rfl rfl (.pure (pure_map fun _ => rfl) .nil) ⟨.rfl, .rfl, trivial⟩)).trans (Wk.to (L := [(2, (.own 0 0 (List.length ([] : List Int)))), (3, (.bool false))]) ⟨.rfl, .rfl, trivial⟩)) (And.intro rfl rfl)))
            · replace h2 := Sh.ite_f b80 h2
              refine AW.skip (hK76 _ ?_)
              refine AW.seq fun K82 hK82 => ?_
              refine AW.regionO (by rfl) ?_
              refine ao_q (v := (.own 0 0 (List.length l8))) go0 rfl (aq_mv rfl) ?_
              refine ao_q (v := (i64 t22)) go0 rfl (aq_mv rfl) ?_
              obtain ⟨c83, gc83, h2⟩ := Sh.bind_some h2
              refine ao_q (v := (.ptr 0 0 (Int.toNat t22) 0)) go0 rfl (aq_ixo ei23 rfl rfl rfl rfl gc83) ?_
              refine ao_q (v := (i64 c83)) go0 rfl (aq_ldp ti3 rfl rfl (map_get gc83) rfl) ?_
              refine ao_q (v := (.bool (decide (c83 = 0)))) go0 rfl (aq_eq rfl rfl) ?_
              refine AO.done (hK82 _ ?_)
              refine AW.cond' (b := decide (c83 = 0)) rfl (fun b84 => ?_) (fun b84 => ?_)
              · replace h2 := Sh.ite_t b84 h2
                refine AW.regionO (by rfl) ?_
                refine ao_q (v := (.own 2 0 (List.length l23))) go0 rfl (aq_mv rfl) ?_
                refine ao_q (v := (i64 t22)) go0 rfl (aq_mv rfl) ?_
                refine ao_bs (m := 3) (st' := [⟨0, 3, 1, List.map eI l8⟩, ⟨0, 3, 1, List.map eI q17⟩, ⟨0, 3, 1, List.map eI l23⟩, ⟨0, 3, 1, List.map eI [t22]⟩]) (l := [t22]) (enc := eI) go0 ei23 (by decide) rfl rfl rfl rfl rfl rfl ?_
                obtain ⟨l85, gl85, h2⟩ := Sh.bind_some h2
                refine ao_apo (st' := [⟨0, 3, 1, List.map eI l8⟩, ⟨0, 3, 1, List.map eI q17⟩, ⟨1, 3, 1, List.map eI l85⟩, ⟨0, 3, 1, List.map eI [t22]⟩]) (l2 := [t22]) go0 ei23 rfl rfl rfl rfl (el_o rfl rfl) (fun _ => rfl) gl85 rfl ?_
                refine ao_q (v := (.own 2 1 (List.length l85))) go0 rfl (aq_as rfl) ?_
                exact AO.done (M73 l85 (Sh.some_eq h2).symm _ (by refine Wk.trans (Wk.rg (L := [(0, (.sl (List.map eCell p0))), (4, (.own 0 0 (List.length l8))), (11, (.own 1 0 (List.length q17))), (12, (.own 2 0 (List.length l85))), (13, (i64 0)), (71, (.sl (List.map eCell p0))), (72, (i64 (Sh.len p0))), (73, (i64 t22))]) (st' := [⟨0, 3, 1, List.map eI l8⟩, ⟨0, 3, 1, List.map eI q17⟩, ⟨0, 3, 1, List.map eI l85⟩, ⟨0, 3, 1, List.map eI [t22]⟩]) (.pure (pure_map fun _ => rfl) (.pure (pure_map fun _ => rfl) (.pure (pure_map fun _ => rfl) (.pure (pure_map fun _ => rfl) .nil)))) ⟨.rfl, .rfl, .rfl, .rfl, .rfl, .rfl, .rfl, .rfl, trivial⟩) ?_; refine Wk.trans (Wk.permk (L := [(0, (.sl (List.map eCell p0))), (4, (.own 0 0 (List.length l8))), (11, (.own 1 0 (List.length q17))), (12, (.own 2 0 (List.length l85))), (13, (i64 0)), (71, (.sl (List.map eCell p0))), (72, (i64 (Sh.len p0))), (73, (i64 t22))]) (st' := [⟨0, 3, 1, List.map eI l8⟩, ⟨0, 3, 1, List.map eI q17⟩, ⟨0, 3, 1, List.map eI l85⟩]) (st1 := [⟨0, 3, 1, List.map eI l8⟩, ⟨0, 3, 1, List.map eI q17⟩, ⟨0, 3, 1, List.map eI l85⟩]) [0, 1, 2] rfl .nil (by decide) rfl rfl (.pure (pure_map fun _ => rfl) (.pure (pure_map fun _ => rfl) (.pure (pure_map fun _ => rfl) .nil))) ⟨.rfl, .rfl, .rfl, .rfl, .rfl, .rfl, .rfl, .rfl, trivial⟩) ?_; exact Wk.to (L := [(0, (.sl (List.map eCell p0))), (4, (.own 0 0 (List.length l8))), (11, (.own 1 0 (List.length q17))), (12, (.own 2 0 (List.length l85))), (13, (i64 0)), (71, (.sl (List.map eCell p0))), (72, (i64 (Sh.len p0))), (73, (i64 t22))]) ⟨.rfl, .rfl, .rfl, .rfl, .rfl, .rfl, .rfl, .rfl, trivial⟩))
              · replace h2 := Sh.ite_f b84 h2
                exact AW.skip (M73 l23 (Sh.some_eq h2).symm _ (Wk.to (L := [(0, (.sl (List.map eCell p0))), (4, (.own 0 0 (List.length l8))), (11, (.own 1 0 (List.length q17))), (12, (.own 2 0 (List.length l23))), (13, (i64 0)), (71, (.sl (List.map eCell p0))), (72, (i64 (Sh.len p0))), (73, (i64 t22))]) ⟨.rfl, .rfl, .rfl, .rfl, .rfl, .rfl, .rfl, .rfl, trivial⟩))
          refine AW.draw (by kernel_rfl) (by kernel_rfl) (by rfl) ?_
          refine d_q (v := (.ptr 3 0 0 0)) go0 rfl (aq_fap fi58_0 rfl rfl (show 0 + 0 ≤ 3 by decide) rfl) ?_
          refine d_q (v := (i64 c75.count)) go0 rfl (aq_ldp ti3 rfl rfl rfl rfl) ?_
          refine d_q (v := (.bool (decide (0 < c75.count)))) go0 rfl (aq_gt rfl rfl) ?_
          refine d_q (v := (.bool (decide (0 < c75.count)))) go0 rfl (aq_mv rfl) ?_
          rcases Sh.ite_some h3 with ⟨b86, h3⟩ | ⟨b86, h3⟩
          · skip
            refine d_q (v := (.ptr 3 0 0 0)) (go1 rfl rfl b86) rfl (aq_fap fi58_0 rfl rfl (show 0 + 0 ≤ 3 by decide) rfl) ?_
            refine d_q (v := (i64 c75.count)) (go1 rfl rfl b86) rfl (aq_ldp ti3 rfl rfl rfl rfl) ?_
            refine d_q (v := (.own 0 0 (List.length l8))) (go1 rfl rfl b86) rfl (aq_mv rfl) ?_
            refine d_q (v := (i64 t22)) (go1 rfl rfl b86) rfl (aq_mv rfl) ?_
            obtain ⟨c87, gc87, h3⟩ := Sh.bind_some h3
            refine d_q (v := (.ptr 0 0 (Int.toNat t22) 0)) (go1 rfl rfl b86) rfl (aq_ixo ei23 rfl rfl rfl rfl gc87) ?_
            refine d_q (v := (i64 c87)) (go1 rfl rfl b86) rfl (aq_ldp ti3 rfl rfl (map_get gc87) rfl) ?_
            refine d_q (v := (.bool (decide (c75.count < c87)))) (go1 rfl rfl b86) rfl (aq_lt rfl rfl) ?_
            refine d_q (v := (.bool (decide (c75.count < c87)))) (go1 rfl rfl b86) rfl (aq_mv rfl) ?_
            rcases Sh.ite_some h3 with ⟨b88, h3⟩ | ⟨b88, h3⟩
            · skip
              refine d_skip rfl rfl b88 ?_
              refine d_skip rfl rfl b88 ?_
              refine d_skip rfl rfl b88 ?_
              refine d_q (v := (.bool true)) (go1 rfl rfl b86) rfl (aq_pkt rfl b88 rfl) ?_
              refine d_q (v := (.bool true)) go0 rfl (aq_pkt rfl b86 rfl) ?_
              exact d_done (M79 true (Sh.some_eq h3).symm _ (by refine Wk.trans (Wk.permk (L := [(0, (.sl (List.map eCell p0))), (4, (.own 0 0 (List.length l8))), (11, (.own 1 0 (List.length q17))), (12, (.own 2 0 (List.length l23))), (13, (i64 0)), (14, (i64 t22)), (71, (.sl (List.map eCell p0))), (72, (i64 (Sh.len p0))), (73, (i64 t22)), (94, (.bool true))]) (st' := [⟨0, 3, 1, List.map eI l8⟩, ⟨0, 3, 1, List.map eI q17⟩, ⟨0, 3, 1, List.map eI l23⟩]) (st1 := [⟨0, 3, 1, List.map eI l8⟩, ⟨0, 3, 1, List.map eI q17⟩, ⟨0, 3, 1, List.map eI l23⟩]) [0, 1, 2] rfl .nil (by decide) rfl rfl (.pure (pure_map fun _ => rfl) (.pure (pure_map fun _ => rfl) (.pure (pure_map fun _ => rfl) .nil))) ⟨.rfl, .rfl, .rfl, .rfl, .rfl, .rfl, .rfl, .rfl, .rfl, .rfl, trivial⟩) ?_; exact Wk.to (L := [(0, (.sl (List.map eCell p0))), (4, (.own 0 0 (List.length l8))), (11, (.own 1 0 (List.length q17))), (12, (.own 2 0 (List.length l23))), (13, (i64 0)), (14, (i64 t22)), (71, (.sl (List.map eCell p0))), (72, (i64 (Sh.len p0))), (73, (i64 t22)), (94, (.bool true))]) ⟨.rfl, .rfl, .rfl, .rfl, .rfl, .rfl, .rfl, .rfl, .rfl, .rfl, trivial⟩))
            · skip
              refine d_q (v := (.ptr 3 0 0 0)) (go1 rfl rfl b88) rfl (aq_fap fi58_0 rfl rfl (show 0 + 0 ≤ 3 by decide) rfl) ?_
              refine d_q (v := (i64 c75.count)) (go1 rfl rfl b88) rfl (aq_ldp ti3 rfl rfl rfl rfl) ?_
              refine d_q (v := (.bool (decide (999999 < c75.count)))) (go1 rfl rfl b88) rfl (aq_gt rfl rfl) ?_
              refine d_q (v := (.bool (decide (999999 < c75.count)))) (go1 rfl rfl b86) rfl (aq_pkf rfl b88 rfl) ?_
              refine d_q (v := (.bool (decide (999999 < c75.count)))) go0 rfl (aq_pkt rfl b86 rfl) ?_
              exact d_done (M79 (decide (999999 < c75.count)) (Sh.some_eq h3).symm _ (by refine Wk.trans (Wk.permk (L := [(0, (.sl (List.map eCell p0))), (4, (.own 0 0 (List.length l8))), (11, (.own 1 0 (List.length q17))), (12, (.own 2 0 (List.length l23))), (13, (i64 0)), (14, (i64 t22)), (71, (.sl (List.map eCell p0))), (72, (i64 (Sh.len p0))), (73, (i64 t22)), (94, (.bool (decide (999999 < c75.count))))]) (st' := [⟨0, 3, 1, List.map eI l8⟩, ⟨0, 3, 1, List.map eI q17⟩, ⟨0, 3, 1, List.map eI l23⟩]) (st1 := [⟨0, 3, 1, List.map eI l8⟩, ⟨0, 3, 1, List.map eI q17⟩, ⟨0, 3, 1, List.map eI l23⟩]) [0, 1, 2] rfl .nil (by decide) rfl rfl (.pure (pure_map fun _ => rfl) (.pure (pure_map fun _ => rfl) (.pure (pure_map fun _ => rfl) .nil))) ⟨.rfl, .rfl, .rfl, .rfl, .rfl, .rfl, .rfl, .rfl, .rfl, .rfl, trivial⟩) ?_; exact Wk.to (L := [(0, (.sl (List.map eCell p0))), (4, (.own 0 0 (List.length l8))), (11, (.own 1 0 (List.length q17))), (12, (.own 2 0 (List.length l23))), (13, (i64 0)), (14, (i64 t22)), (71, (.sl (List.map eCell p0))), (72, (i64 (Sh.len p0))), (73, (i64 t22)), (94, (.bool (decide (999999 < c75.count))))]) ⟨.rfl, .rfl, .rfl, .rfl, .rfl, .rfl, .rfl, .rfl, .rfl, .rfl, trivial⟩))
          · skip
            refine d_skip rfl rfl b86 ?_
            refine d_skip rfl rfl b86 ?_
            refine d_skip rfl rfl b86 ?_
            refine d_skip rfl rfl b86 ?_
            refine d_skip rfl rfl b86 ?_
            refine d_skip rfl rfl b86 ?_
            refine d_skip rfl rfl b86 ?_
            refine d_skip rfl rfl b86 ?_
            refine d_none rfl rfl ?_
            refine d_none rfl rfl ?_
            refine d_none rfl rfl ?_
            refine d_skip rfl rfl b86 ?_
            refine d_q (v := (.bool false)) go0 rfl (aq_pkf rfl b86 rfl) ?_
            exact d_done (M79 false (Sh.some_eq h3).symm _ (by refine Wk.trans (Wk.permk (L := [(0, (.sl (List.map eCell p0))), (4, (.own 0 0 (List.length l8))), (11, (.own 1 0 (List.length q17))), (12, (.own 2 0 (List.length l23))), (13, (i64 0)), (14, (i64 t22)), (71, (.sl (List.map eCell p0))), (72, (i64 (Sh.len p0))), (73, (i64 t22)), (94, (.bool false))]) (st' := [⟨0, 3, 1, List.map eI l8⟩, ⟨0, 3, 1, List.map eI q17⟩, ⟨0, 3, 1, List.map eI l23⟩]) (st1 := [⟨0, 3, 1, List.map eI l8⟩, ⟨0, 3, 1, List.map eI q17⟩, ⟨0, 3, 1, List.map eI l23⟩]) [0, 1, 2] rfl .nil (by decide) rfl rfl (.pure (pure_map fun _ => rfl) (.pure (pure_map fun _ => rfl) (.pure (pure_map fun _ => rfl) .nil))) ⟨.rfl, .rfl, .rfl, .rfl, .rfl, .rfl, .rfl, .rfl, .rfl, .rfl, trivial⟩) ?_; exact Wk.to (L := [(0, (.sl (List.map eCell p0))), (4, (.own 0 0 (List.length l8))), (11, (.own 1 0 (List.length q17))), (12, (.own 2 0 (List.length l23))), (13, (i64 0)), (14, (i64 t22)), (71, (.sl (List.map eCell p0))), (72, (i64 (Sh.len p0))), (73, (i64 t22)), (94, (.bool false))]) ⟨.rfl, .rfl, .rfl, .rfl, .rfl, .rfl, .rfl, .rfl, .rfl, .rfl, trivial⟩))
        · replace h1 := Sh.ite_f b70 h1
          exact AW.exit (M25 l23 (Sh.some_eq h1).symm _ (Wk.to (L := [(0, (.sl (List.map eCell p0))), (4, (.own 0 0 (List.length l8))), (11, (.own 1 0 (List.length q17))), (12, (.own 2 0 (List.length l23))), (13, (i64 0))]) ⟨.rfl, .rfl, .rfl, .rfl, .rfl, trivial⟩))
    refine AW.regionO (by rfl) ?_
    refine ao_q (v := (.sl (List.map eCell p0))) go0 rfl (aq_mv rfl) ?_
    refine ao_q (v := (i64 (Sh.len p0))) go0 rfl (aq_lens sl26 rfl) ?_
    refine ao_q (v := (.bool (decide (0 < (Sh.len p0))))) go0 rfl (aq_gt rfl rfl) ?_
    refine ao_q (v := (.bool (decide (0 < (Sh.len p0))))) go0 rfl (aq_mv rfl) ?_
    rcases Sh.ite_some h1 with ⟨b89, h1⟩ | ⟨b89, h1⟩
    · skip
      refine ao_q (v := (.sl (List.map eCell p0))) (go1 rfl rfl b89) rfl (aq_mv rfl) ?_
      refine ao_q (v := (.sl (List.map eCell p0))) (go1 rfl rfl b89) rfl (aq_mv rfl) ?_
      refine ao_q (v := (i64 (Sh.len p0))) (go1 rfl rfl b89) rfl (aq_lens sl26 rfl) ?_
      refine ao_q (v := (i64 (Sh.w ((Sh.len p0) - 1)))) (go1 rfl rfl b89) rfl (aq_sub rfl rfl) ?_
      obtain ⟨c90, gc90, h1⟩ := Sh.bind_some h1
      refine ao_q (v := (.iptr (eCell c90) 0)) (go1 rfl rfl b89) rfl (aq_ixs ei26 rfl rfl gc90 rfl) ?_
      refine ao_q (v := (.iptr (eCell c90) 0)) (go1 rfl rfl b89) rfl (aq_fai fi58_0 rfl rfl) ?_
      refine ao_q (v := (i64 c90.count)) (go1 rfl rfl b89) rfl (aq_ldi ti3 rfl rfl) ?_
      refine ao_q (v := (.bool (decide (c90.count = 0)))) (go1 rfl rfl b89) rfl (aq_eq rfl rfl) ?_
      refine ao_q (v := (.bool (decide (c90.count = 0)))) go0 rfl (aq_pkt rfl b89 rfl) ?_
      exact AO.done (M13 (decide (c90.count = 0)) (Sh.some_eq h1).symm _ (Wk.to (L := [(0, (.sl (List.map eCell p0))), (4, (.own 0 0 (List.length l8))), (68, (.bool (decide (c90.count = 0))))]) ⟨.rfl, .rfl, .rfl, trivial⟩))
    · skip
      refine ao_skip rfl rfl b89 ?_
      refine ao_skip rfl rfl b89 ?_
      refine ao_skip rfl rfl b89 ?_
      refine ao_skip rfl rfl b89 ?_
      refine ao_skip rfl rfl b89 ?_
      refine ao_skip rfl rfl b89 ?_
      refine ao_skip rfl rfl b89 ?_
      refine ao_skip rfl rfl b89 ?_
      refine ao_q (v := (.bool false)) go0 rfl (aq_pkf rfl b89 rfl) ?_
      exact AO.done (M13 false (Sh.some_eq h1).symm _ (Wk.to (L := [(0, (.sl (List.map eCell p0))), (4, (.own 0 0 (List.length l8))), (68, (.bool false))]) ⟨.rfl, .rfl, .rfl, trivial⟩))
  refine AW.block (AW.loopF (σ := Int × (List Int)) (fun n v => impl_checkedHeap_L1 N p0 n v.1 v.2 = some o9) (fun (t6, l7) => ⟨159, envL [(0, (.sl (List.map eCell p0))), (4, (.own 0 0 (List.length l7))), (24, (.sl (List.map eCell p0))), (25, (i64 (Sh.len p0))), (26, (i64 t6))], [⟨0, 3, 1, List.map eI l7⟩]⟩) N (0, l3) h1 (Wk.to (L := [(0, (.sl (List.map eCell p0))), (4, (.own 0 0 (List.length l3))), (24, (.sl (List.map eCell p0))), (25, (i64 (Sh.len p0))), (26, (i64 0))]) ⟨.rfl, .rfl, .rfl, .rfl, .rfl, trivial⟩) (fun _ hv => by rw [impl_checkedHeap_L1] at hv; cases hv) ?_)
  rintro n ⟨t6, l7⟩ h1
  try dsimp only at h1 ⊢
  rw [impl_checkedHeap_L1] at h1
  refine AW.seq fun K91 hK91 => ?_
  refine AW.regionO (by rfl) ?_
  refine ao_q (v := (.bool (decide (t6 < (Sh.len p0))))) go0 rfl (aq_lt rfl rfl) ?_
  refine AO.done (hK91 _ ?_)
  refine AW.seq fun K92 hK92 => ?_
  refine AW.cond' (b := decide (t6 < (Sh.len p0))) rfl (fun b93 => ?_) (fun b93 => ?_)
  · replace h1 := Sh.ite_t b93 h1
    refine AW.skip (hK92 _ ?_)
    refine AW.seq fun K94 hK94 => ?_
    refine AW.block ?_
    refine AW.seq fun K95 hK95 => ?_
    refine AW.regionO (by rfl) ?_
    obtain ⟨c96, gc96, h1⟩ := Sh.bind_some h1
    refine ao_q (v := (.iptr (eCell c96) 0)) go0 rfl (aq_ixs ei26 rfl rfl gc96 rfl) ?_
    refine ao_q (v := (.agg [(i64 c96.count), (i64 c96.tag), (.sl (List.map eI c96.fields))])) go0 rfl (aq_ldia ti58 rfl (show 0 + 3 ≤ 3 by decide) rfl) ?_
    refine ao_alloc (m := 1) (st' := [⟨0, 3, 1, List.map eI l7⟩, ⟨0, 58, 3, [[(i64 0), (i64 0), .zc]]⟩]) go0 zi58 rfl rfl ?_
    refine ao_str (st' := [⟨0, 3, 1, List.map eI l7⟩, ⟨0, 58, 3, [[(i64 c96.count), (i64 c96.tag), (.sl (List.map eI c96.fields))]]⟩]) go0 ti58 rfl rfl rfl rfl rfl rfl (show 0 + 3 ≤ 3 by decide) rfl ?_
    refine AO.done (hK95 _ ?_)
    refine AW.seq fun K97 hK97 => ?_
    refine AW.seq fun K98 hK98 => ?_
    refine AW.regionO (by rfl) ?_
    refine ao_q (v := (.sl (List.map eCell p0))) go0 rfl (aq_mv rfl) ?_
    refine ao_q (v := (.agg [(i64 c96.count), (i64 c96.tag), (.sl (List.map eI c96.fields))])) go0 rfl (aq_ldpa ti58 rfl rfl rfl (show 0 + 3 ≤ 3 by decide) rfl) ?_
    obtain ⟨q99, gq99, h1⟩ := Sh.bind_some h1
    refine ao_call (v' := (.bool q99)) (st' := [⟨0, 3, 1, List.map eI l7⟩, ⟨0, 58, 3, [[(i64 c96.count), (i64 c96.tag), (.sl (List.map eI c96.fields))]]⟩]) go0 hb76 (impl_cellValid_ok gq99) rfl rfl trivial rfl rfl ?_
    refine ao_q (v := (.bool (!q99))) go0 rfl (aq_not rfl) ?_
    refine AO.done (hK98 _ ?_)
    refine AW.cond' (b := !q99) rfl (fun b100 => ?_) (fun b100 => ?_)
    · replace h1 := Sh.ite_t b100 h1
      have b101 : q99 = false := by simpa using b100
      refine AW.seq fun K102 hK102 => ?_
      refine AW.regionO (by rfl) ?_
      refine ao_q (v := .zc) go0 rfl (aq_as rfl) ?_
      refine ao_q (v := (.bool false)) go0 rfl (aq_as rfl) ?_
      refine AO.done (hK102 _ ?_)
      replace h1 := Sh.some_eq h1
      subst o9
      try dsimp only [id] at h0
      replace h0 := Sh.some_eq h0
      subst r
      exact AW.ret (Exists.intro _ (And.intro ((((Wk.adopt (t := 2) rfl 3 (size := 1) (by decide)).trans (Wk.to (L := [(2, (.own 2 0 (List.length ([] : List Int)))), (3, (.bool false))]) ⟨.rfl, .rfl, trivial⟩)).trans (Wk.permk (L := [(2, (.own 0 0 (List.length ([] : List Int)))), (3, (.bool false))]) (st' := [⟨0, 3, 1, List.map eI ([] : List Int)⟩]) (st1 := [⟨0, 3, 1, List.map eI ([] : List Int)⟩]) [2] rfl .nil (by decide) rfl rfl (.pure (pure_map fun _ => rfl) .nil) ⟨.rfl, .rfl, trivial⟩)).trans (Wk.to (L := [(2, (.own 0 0 (List.length ([] : List Int)))), (3, (.bool false))]) ⟨.rfl, .rfl, trivial⟩)) (And.intro rfl rfl)))
    · replace h1 := Sh.ite_f b100 h1
      have b103 : q99 = true := by simpa using b100
      refine AW.skip (hK97 _ ?_)
      refine AW.seq fun K104 hK104 => ?_
      refine AW.regionO (by rfl) ?_
      refine ao_q (v := (.ptr 1 0 0 2)) go0 rfl (aq_fap fi58_2 rfl rfl (show 0 + 2 ≤ 3 by decide) rfl) ?_
      refine ao_q (v := (.sl (List.map eI c96.fields))) go0 rfl (aq_ldp ti23 rfl rfl rfl rfl) ?_
      refine ao_q (v := (i64 (Sh.len c96.fields))) go0 rfl (aq_lens sl23 rfl) ?_
      refine ao_q (v := (i64 0)) go0 rfl (aq_mv rfl) ?_
      refine AO.done (hK104 _ ?_)
      obtain ⟨o108, h2, h1⟩ := Sh.bind_some h1
      have M108 : ∀ (l107 : (List Int)), o108 = l107 → ∀ s, Wk 0 s ⟨159, envL [(0, (.sl (List.map eCell p0))), (4, (.own 0 0 (List.length l107))), (24, (.sl (List.map eCell p0))), (25, (i64 (Sh.len p0))), (26, (i64 t6))], [⟨0, 3, 1, List.map eI l107⟩]⟩ → K94 s := by
        intro l107 hq s hw
        subst o108
        try dsimp only at h1
        refine hK94 _ (AW.weaken hw ?_)
        refine AW.regionO (by rfl) ?_
        refine ao_q (v := (i64 (Sh.w (t6 + 1)))) go0 rfl (aq_add rfl rfl) ?_
        refine ao_q (v := (i64 (Sh.w (t6 + 1)))) go0 rfl (aq_mv rfl) ?_
        exact AO.done (Exists.intro (Sh.w (t6 + 1), l107) (And.intro h1 (Wk.to (L := [(0, (.sl (List.map eCell p0))), (4, (.own 0 0 (List.length l107))), (24, (.sl (List.map eCell p0))), (25, (i64 (Sh.len p0))), (26, (i64 (Sh.w (t6 + 1))))]) ⟨.rfl, .rfl, .rfl, .rfl, .rfl, trivial⟩)))
      refine AW.block (AW.loopF (σ := Int × (List Int)) (fun n v => impl_checkedHeap_L5 c96 p0 n v.1 v.2 = some o108) (fun (t105, l106) => ⟨159, envL [(0, (.sl (List.map eCell p0))), (4, (.own 0 0 (List.length l106))), (24, (.sl (List.map eCell p0))), (25, (i64 (Sh.len p0))), (26, (i64 t6)), (35, (.sl (List.map eI c96.fields))), (36, (i64 (Sh.len c96.fields))), (37, (i64 t105))], [⟨0, 3, 1, List.map eI l106⟩]⟩) N (0, l7) h2 (by refine Wk.trans (Wk.permk (L := [(0, (.sl (List.map eCell p0))), (4, (.own 0 0 (List.length l7))), (24, (.sl (List.map eCell p0))), (25, (i64 (Sh.len p0))), (26, (i64 t6)), (35, (.sl (List.map eI c96.fields))), (36, (i64 (Sh.len c96.fields))), (37, (i64 0))]) (st' := [⟨0, 3, 1, List.map eI l7⟩]) (st1 := [⟨0, 3, 1, List.map eI l7⟩]) [0] rfl .nil (by decide) rfl rfl (.pure (pure_map fun _ => rfl) .nil) ⟨.rfl, .rfl, .rfl, .rfl, .rfl, .rfl, .rfl, .rfl, trivial⟩) ?_; exact Wk.to (L := [(0, (.sl (List.map eCell p0))), (4, (.own 0 0 (List.length l7))), (24, (.sl (List.map eCell p0))), (25, (i64 (Sh.len p0))), (26, (i64 t6)), (35, (.sl (List.map eI c96.fields))), (36, (i64 (Sh.len c96.fields))), (37, (i64 0))]) ⟨.rfl, .rfl, .rfl, .rfl, .rfl, .rfl, .rfl, .rfl, trivial⟩) (fun _ hv => by rw [impl_checkedHeap_L5] at hv; cases hv) ?_)
      rintro n ⟨t105, l106⟩ h2
      try dsimp only at h2 ⊢
      rw [impl_checkedHeap_L5] at h2
      refine AW.seq fun K109 hK109 => ?_
      refine AW.regionO (by rfl) ?_
      refine ao_q (v := (.bool (decide (t105 < (Sh.len c96.fields))))) go0 rfl (aq_lt rfl rfl) ?_
      refine AO.done (hK109 _ ?_)
      refine AW.seq fun K110 hK110 => ?_
      refine AW.cond' (b := decide (t105 < (Sh.len c96.fields))) rfl (fun b111 => ?_) (fun b111 => ?_)
      · replace h2 := Sh.ite_t b111 h2
        refine AW.skip (hK110 _ ?_)
        refine AW.seq fun K112 hK112 => ?_
        obtain ⟨o114, h3, h2⟩ := Sh.bind_some h2
        have M114 : ∀ (l113 : (List Int)), o114 = l113 → ∀ s, Wk 0 s ⟨159, envL [(0, (.sl (List.map eCell p0))), (4, (.own 0 0 (List.length l113))), (24, (.sl (List.map eCell p0))), (25, (i64 (Sh.len p0))), (26, (i64 t6)), (35, (.sl (List.map eI c96.fields))), (36, (i64 (Sh.len c96.fields))), (37, (i64 t105))], [⟨0, 3, 1, List.map eI l113⟩]⟩ → K112 s := by
          intro l113 hq s hw
          subst o114
          try dsimp only at h2
          refine hK112 _ (AW.weaken hw ?_)
          refine AW.regionO (by rfl) ?_
          refine ao_q (v := (i64 (Sh.w (t105 + 1)))) go0 rfl (aq_add rfl rfl) ?_
          refine ao_q (v := (i64 (Sh.w (t105 + 1)))) go0 rfl (aq_mv rfl) ?_
          exact AO.done (Exists.intro (Sh.w (t105 + 1), l113) (And.intro h2 (Wk.to (L := [(0, (.sl (List.map eCell p0))), (4, (.own 0 0 (List.length l113))), (24, (.sl (List.map eCell p0))), (25, (i64 (Sh.len p0))), (26, (i64 t6)), (35, (.sl (List.map eI c96.fields))), (36, (i64 (Sh.len c96.fields))), (37, (i64 (Sh.w (t105 + 1))))]) ⟨.rfl, .rfl, .rfl, .rfl, .rfl, .rfl, .rfl, .rfl, trivial⟩)))
        refine AW.block ?_
        refine AW.seq fun K115 hK115 => ?_
        refine AW.regionO (by rfl) ?_
        obtain ⟨c116, gc116, h3⟩ := Sh.bind_some h3
        refine ao_q (v := (.iptr (eI c116) 0)) go0 rfl (aq_ixs ei23 rfl rfl gc116 rfl) ?_
        refine ao_q (v := (i64 c116)) go0 rfl (aq_ldi ti3 rfl rfl) ?_
        refine ao_q (v := (i64 c116)) go0 rfl (aq_as rfl) ?_
        refine AO.done (hK115 _ ?_)
        refine AW.seq fun K117 hK117 => ?_
        refine AW.regionO (by rfl) ?_
        refine ao_q (v := (.sl (List.map eCell p0))) go0 rfl (aq_mv rfl) ?_
        refine ao_q (v := (i64 c116)) go0 rfl (aq_mv rfl) ?_
        obtain ⟨q118, gq118, h3⟩ := Sh.bind_some h3
        refine ao_call (v' := (.tup [(i64 q118.1), (.bool q118.2)])) (st' := [⟨0, 3, 1, List.map eI l106⟩]) go0 hb40 (impl_liveAt_ok gq118) rfl rfl trivial rfl rfl ?_
        refine ao_q (v := (.tup [(i64 q118.1), (.bool q118.2)])) go0 rfl (aq_mv rfl) ?_
        refine ao_q (v := (i64 q118.1)) go0 rfl (aq_ex rfl rfl) ?_
        refine ao_q (v := (.bool q118.2)) go0 rfl (aq_ex rfl rfl) ?_
        refine ao_q (v := (i64 q118.1)) go0 rfl (aq_as rfl) ?_
        refine ao_q (v := (.bool q118.2)) go0 rfl (aq_as rfl) ?_
        refine AO.done (hK117 _ ?_)
        refine AW.seq fun K119 hK119 => ?_
        refine AW.regionO (by rfl) ?_
        refine ao_q (v := (.bool q118.2)) go0 rfl (aq_mv rfl) ?_
        refine AO.done (hK119 _ ?_)
        refine AW.cond' (b := q118.2) rfl (fun b120 => ?_) (fun b120 => ?_)
        · replace h3 := Sh.ite_t b120 h3
          refine AW.regionO (by rfl) ?_
          refine ao_q (v := (.own 0 0 (List.length l106))) go0 rfl (aq_mv rfl) ?_
          refine ao_q (v := (i64 q118.1)) go0 rfl (aq_mv rfl) ?_
          obtain ⟨c121, gc121, h3⟩ := Sh.bind_some h3
          refine ao_q (v := (.ptr 0 0 (Int.toNat q118.1) 0)) go0 rfl (aq_ixo ei23 rfl rfl rfl rfl gc121) ?_
          refine ao_q (v := (i64 c121)) go0 rfl (aq_ldp ti3 rfl rfl (map_get gc121) rfl) ?_
          refine ao_q (v := (i64 (Sh.w (c121 + 1)))) go0 rfl (aq_add rfl rfl) ?_
          refine ao_q (v := (.ptr 0 0 (Int.toNat q118.1) 0)) go0 rfl (aq_ixo ei23 rfl rfl rfl rfl gc121) ?_
          refine ao_stl (st' := [⟨0, 3, 1, List.map eI (Sh.put l106 q118.1 (Sh.w (c121 + 1)))⟩]) (u' := Sh.w (c121 + 1)) go0 ti3 rfl rfl gc121 rfl rfl rfl (show 0 + 1 ≤ 1 by decide) rfl rfl ?_
          exact AO.done (M114 (Sh.put l106 q118.1 (Sh.w (c121 + 1))) (Sh.some_eq h3).symm _ (Wk.to (L := [(0, (.sl (List.map eCell p0))), (4, (.own 0 0 (List.length (Sh.put l106 q118.1 (Sh.w (c121 + 1)))))), (24, (.sl (List.map eCell p0))), (25, (i64 (Sh.len p0))), (26, (i64 t6)), (35, (.sl (List.map eI c96.fields))), (36, (i64 (Sh.len c96.fields))), (37, (i64 t105))]) ⟨.rfl, (.len (by simp only [Sh.put_len])), .rfl, .rfl, .rfl, .rfl, .rfl, .rfl, trivial⟩))
        · replace h3 := Sh.ite_f b120 h3
          exact AW.skip (M114 l106 (Sh.some_eq h3).symm _ (Wk.to (L := [(0, (.sl (List.map eCell p0))), (4, (.own 0 0 (List.length l106))), (24, (.sl (List.map eCell p0))), (25, (i64 (Sh.len p0))), (26, (i64 t6)), (35, (.sl (List.map eI c96.fields))), (36, (i64 (Sh.len c96.fields))), (37, (i64 t105))]) ⟨.rfl, .rfl, .rfl, .rfl, .rfl, .rfl, .rfl, .rfl, trivial⟩))
      · replace h2 := Sh.ite_f b111 h2
        exact AW.exit (M108 l106 (Sh.some_eq h2).symm _ (Wk.to (L := [(0, (.sl (List.map eCell p0))), (4, (.own 0 0 (List.length l106))), (24, (.sl (List.map eCell p0))), (25, (i64 (Sh.len p0))), (26, (i64 t6))]) ⟨.rfl, .rfl, .rfl, .rfl, .rfl, trivial⟩))
  · replace h1 := Sh.ite_f b93 h1
    exact AW.exit (M9 l7 (Sh.some_eq h1).symm _ (Wk.to (L := [(0, (.sl (List.map eCell p0))), (4, (.own 0 0 (List.length l7)))]) ⟨.rfl, .rfl, trivial⟩))

set_option maxRecDepth 100000 in
set_option maxHeartbeats 4000000 in
theorem impl_ValidHeap_ok {N : Nat} {p0 : (List Cell)} {r : Bool} (h0 : impl_ValidHeap N p0 = some r) : ACalls Try.prog 38 [(.sl (List.map eCell p0))] [] (fun v st => v = (.bool r) ∧ st = []) := by
  unfold impl_ValidHeap at h0
  refine ACalls.intro Try.func38 rfl (by show 1 ≤ 11; decide) ?_
  show AW _ 0 _ (aret _ 0 Try.f38 _) ⟨11, _, _⟩
  refine AW.weaken (Wk.to (L := [(0, (.sl (List.map eCell p0)))]) ⟨.rfl, trivial⟩) ?_
  refine AW.seq fun K1 hK1 => ?_
  refine AW.regionO (by rfl) ?_
  refine ao_q (v := (.bool false)) go0 rfl (aq_as rfl) ?_
  refine AO.done (hK1 _ ?_)
  refine AW.seq fun K2 hK2 => ?_
  refine AW.regionO (by rfl) ?_
  refine ao_q (v := (.sl (List.map eCell p0))) go0 rfl (aq_mv rfl) ?_
  obtain ⟨q3, gq3, h0⟩ := Sh.bind_some h0
  refine ao_call (v' := (.tup [(.own 0 0 (List.length q3.1)), (.bool q3.2)])) (st' := [⟨0, 3, 1, List.map eI q3.1⟩]) go0 hb53 (impl_checkedHeap_ok gq3) rfl rfl ⟨(pure_map' fun _ => rfl), trivial⟩ rfl rfl ?_
  refine ao_q (v := (.tup [(.own 0 0 (List.length q3.1)), (.bool q3.2)])) go0 rfl (aq_mv rfl) ?_
  refine ao_q (v := (.own 0 0 (List.length q3.1))) go0 rfl (aq_ex rfl rfl) ?_
  refine ao_q (v := (.bool q3.2)) go0 rfl (aq_ex rfl rfl) ?_
  refine ao_q (v := (.own 0 0 (List.length q3.1))) go0 rfl (aq_as rfl) ?_
  refine ao_q (v := (.bool q3.2)) go0 rfl (aq_as rfl) ?_
  refine AO.done (hK2 _ ?_)
  refine AW.seq fun K4 hK4 => ?_
  refine AW.regionO (by rfl) ?_
  refine ao_q (v := (.bool q3.2)) go0 rfl (aq_mv rfl) ?_
  refine ao_q (v := (.bool q3.2)) go0 rfl (aq_as rfl) ?_
  refine AO.done (hK4 _ ?_)
  replace h0 := Sh.some_eq h0
  subst r
  exact AW.ret (Exists.intro _ (And.intro ((Wk.permk (L := [(2, (.bool q3.2))]) (st' := []) (st1 := []) [] rfl .nil (by decide) rfl rfl .nil ⟨.rfl, trivial⟩).trans (Wk.to (L := [(2, (.bool q3.2))]) ⟨.rfl, trivial⟩)) (And.intro rfl rfl)))

set_option maxRecDepth 100000 in
set_option maxHeartbeats 4000000 in
theorem impl_heap_alloc_1_ok {p0 : Cell} {r : Bool} (h0 : impl_heap_alloc_1 p0 = some r) : ACalls Try.prog 74 [(.agg [(i64 p0.count), (i64 p0.tag), (.sl (List.map eI p0.fields))])] [] (fun v st => v = (.bool r) ∧ st = []) := by
  unfold impl_heap_alloc_1 at h0
  refine ACalls.intro Try.func74 rfl (by show 1 ≤ 6; decide) ?_
  show AW _ 0 _ (aret _ 0 Try.f74 _) ⟨6, _, _⟩
  refine AW.weaken (Wk.to (L := [(0, (.agg [(i64 p0.count), (i64 p0.tag), (.sl (List.map eI p0.fields))]))]) ⟨.rfl, trivial⟩) ?_
  refine AW.seq fun K1 hK1 => ?_
  refine AW.regionO (by rfl) ?_
  refine ao_box (m := 0) (st' := [⟨0, 58, 3, [[(i64 p0.count), (i64 p0.tag), (.sl (List.map eI p0.fields))]]⟩]) go0 rfl rfl rfl rfl rfl ?_
  refine ao_q (v := (.bool false)) go0 rfl (aq_as rfl) ?_
  refine AO.done (hK1 _ ?_)
  refine AW.seq fun K2 hK2 => ?_
  refine AW.regionO (by rfl) ?_
  refine ao_q (v := (.ptr 0 0 0 0)) go0 rfl (aq_fap fi58_0 rfl rfl (show 0 + 0 ≤ 3 by decide) rfl) ?_
  refine ao_q (v := (i64 p0.count)) go0 rfl (aq_ldp ti3 rfl rfl rfl rfl) ?_
  refine ao_q (v := (.bool (decide (p0.count = 0)))) go0 rfl (aq_eq rfl rfl) ?_
  refine ao_q (v := (.bool (decide (p0.count = 0)))) go0 rfl (aq_as rfl) ?_
  refine AO.done (hK2 _ ?_)
  replace h0 := Sh.some_eq h0
  subst r
  exact AW.ret (Exists.intro _ (And.intro ((Wk.permk (L := [(2, (.bool (decide (p0.count = 0))))]) (st' := []) (st1 := []) [] rfl .nil (by decide) rfl rfl .nil ⟨.rfl, trivial⟩).trans (Wk.to (L := [(2, (.bool (decide (p0.count = 0))))]) ⟨.rfl, trivial⟩)) (And.intro rfl rfl)))

set_option maxRecDepth 100000 in
set_option maxHeartbeats 4000000 in
theorem slices_IndexFunc_impl_heap_impl_Cell_ok {N : Nat} {p0 : (List Cell)} {r : Int} (h0 : slices_IndexFunc_impl_heap_impl_Cell N p0 = some r) : ACalls Try.prog 73 [(.sl (List.map eCell p0)), (.fn 74 [])] [] (fun v st => v = (i64 r) ∧ st = []) := by
  unfold slices_IndexFunc_impl_heap_impl_Cell at h0
  refine ACalls.intro Try.func73 rfl (by show 2 ≤ 19; decide) ?_
  show AW _ 0 _ (aret _ 0 Try.f73 _) ⟨19, _, _⟩
  refine AW.weaken (Wk.to (L := [(0, (.sl (List.map eCell p0))), (1, (.fn 74 []))]) ⟨.rfl, .rfl, trivial⟩) ?_
  refine AW.seq fun K1 hK1 => ?_
  refine AW.regionO (by rfl) ?_
  refine ao_q (v := (i64 0)) go0 rfl (aq_as rfl) ?_
  refine AO.done (hK1 _ ?_)
  refine AW.seq fun K2 hK2 => ?_
  refine AW.seq fun K3 hK3 => ?_
  refine AW.regionO (by rfl) ?_
  refine ao_q (v := (.sl (List.map eCell p0))) go0 rfl (aq_mv rfl) ?_
  refine ao_q (v := (i64 (Sh.len p0))) go0 rfl (aq_lens sl70 rfl) ?_
  refine ao_q (v := (i64 0)) go0 rfl (aq_mv rfl) ?_
  refine AO.done (hK3 _ ?_)
  obtain ⟨o5, h1, h0⟩ := Sh.cont_some h0
  have M5 : ∀ (_ : Unit), o5 = Sum.inr () → ∀ s, Wk 0 s ⟨19, envL [], []⟩ → K2 s := by
    intro _ hq s hw
    subst o5
    try dsimp only at h0
    refine hK2 _ (AW.weaken hw ?_)
    refine AW.seq fun K6 hK6 => ?_
    refine AW.regionO (by rfl) ?_
    refine ao_q (v := (i64 (-1))) go0 rfl (aq_as rfl) ?_
    refine AO.done (hK6 _ ?_)
    replace h0 := Sh.some_eq h0
    subst r
    exact AW.ret (Exists.intro _ (And.intro (Wk.to (L := [(4, (i64 (-1)))]) ⟨.rfl, trivial⟩) (And.intro rfl rfl)))
  refine AW.block (AW.loopF (σ := Int) (fun n v => slices_IndexFunc_impl_heap_impl_Cell_L1 p0 n v = some o5) (fun t4 => ⟨19, envL [(0, (.sl (List.map eCell p0))), (1, (.fn 74 [])), (7, (i64 (Sh.len p0))), (8, (i64 t4))], []⟩) N 0 h1 (Wk.to (L := [(0, (.sl (List.map eCell p0))), (1, (.fn 74 [])), (7, (i64 (Sh.len p0))), (8, (i64 0))]) ⟨.rfl, .rfl, .rfl, .rfl, trivial⟩) (fun _ hv => by rw [slices_IndexFunc_impl_heap_impl_Cell_L1] at hv; cases hv) ?_)
  rintro n t4 h1
  try dsimp only at h1 ⊢
  rw [slices_IndexFunc_impl_heap_impl_Cell_L1] at h1
  refine AW.seq fun K7 hK7 => ?_
  refine AW.regionO (by rfl) ?_
  refine ao_q (v := (.bool (decide (t4 < (Sh.len p0))))) go0 rfl (aq_lt rfl rfl) ?_
  refine AO.done (hK7 _ ?_)
  refine AW.seq fun K8 hK8 => ?_
  refine AW.cond' (b := decide (t4 < (Sh.len p0))) rfl (fun b9 => ?_) (fun b9 => ?_)
  · replace h1 := Sh.ite_t b9 h1
    refine AW.skip (hK8 _ ?_)
    refine AW.seq fun K10 hK10 => ?_
    refine AW.block ?_
    refine AW.seq fun K11 hK11 => ?_
    refine AW.regionO (by rfl) ?_
    refine ao_q (v := (i64 t4)) go0 rfl (aq_mv rfl) ?_
    refine ao_q (v := (i64 t4)) go0 rfl (aq_as rfl) ?_
    refine AO.done (hK11 _ ?_)
    refine AW.seq fun K12 hK12 => ?_
    refine AW.regionO (by rfl) ?_
    refine ao_q (v := (.fn 74 [])) go0 rfl (aq_mv rfl) ?_
    refine ao_q (v := (.sl (List.map eCell p0))) go0 rfl (aq_mv rfl) ?_
    refine ao_q (v := (i64 t4)) go0 rfl (aq_mv rfl) ?_
    obtain ⟨c13, gc13, h1⟩ := Sh.bind_some h1
    refine ao_q (v := (.iptr (eCell c13) 0)) go0 rfl (aq_ixs ei70 rfl rfl gc13 rfl) ?_
    refine ao_q (v := (.agg [(i64 c13.count), (i64 c13.tag), (.sl (List.map eI c13.fields))])) go0 rfl (aq_ldia ti58 rfl (show 0 + 3 ≤ 3 by decide) rfl) ?_
    obtain ⟨q14, gq14, h1⟩ := Sh.bind_some h1
    refine ao_callt (v' := (.bool q14)) (st' := []) go0 rfl hb74 (impl_heap_alloc_1_ok gq14) rfl rfl trivial rfl rfl ?_
    refine AO.done (hK12 _ ?_)
    refine AW.cond' (b := q14) rfl (fun b15 => ?_) (fun b15 => ?_)
    · replace h1 := Sh.ite_t b15 h1
      refine AW.seq fun K16 hK16 => ?_
      refine AW.regionO (by rfl) ?_
      refine ao_q (v := (i64 t4)) go0 rfl (aq_mv rfl) ?_
      refine ao_q (v := (i64 t4)) go0 rfl (aq_as rfl) ?_
      refine AO.done (hK16 _ ?_)
      replace h1 := Sh.some_eq h1
      subst o5
      try dsimp only [id] at h0
      replace h0 := Sh.some_eq h0
      subst r
      exact AW.ret (Exists.intro _ (And.intro (Wk.to (L := [(4, (i64 t4))]) ⟨.rfl, trivial⟩) (And.intro rfl rfl)))
    · replace h1 := Sh.ite_f b15 h1
      refine AW.skip (hK10 _ ?_)
      refine AW.regionO (by rfl) ?_
      refine ao_q (v := (i64 (Sh.w (t4 + 1)))) go0 rfl (aq_add rfl rfl) ?_
      refine ao_q (v := (i64 (Sh.w (t4 + 1)))) go0 rfl (aq_mv rfl) ?_
      exact AO.done (Exists.intro (Sh.w (t4 + 1)) (And.intro h1 (Wk.to (L := [(0, (.sl (List.map eCell p0))), (1, (.fn 74 [])), (7, (i64 (Sh.len p0))), (8, (i64 (Sh.w (t4 + 1))))]) ⟨.rfl, .rfl, .rfl, .rfl, trivial⟩)))
  · replace h1 := Sh.ite_f b9 h1
    exact AW.exit (M5 () (Sh.some_eq h1).symm _ (Wk.to (L := []) trivial))

set_option maxRecDepth 100000 in
set_option maxHeartbeats 4000000 in
theorem impl_heap_alloc_ok {N : Nat} {s1 : (List Cell)} {p1 : Int} {p2 : (List Int)} {r : Int × (List Cell)} (h0 : impl_heap_alloc N s1 p1 p2 = some r) : ACalls Try.prog 50 [(.ptr 0 0 0 0), (i64 p1), (.sl (List.map eI p2))] [⟨0, 70, 1, [[(.own 1 0 (List.length s1))]]⟩, ⟨0, 58, 3, List.map (eCellD 3) s1⟩] (fun v st => v = (i64 r.1) ∧ st = [⟨0, 70, 1, [[(.own 1 1 (List.length r.2))]]⟩, ⟨1, 58, 3, List.map (eCellD 3) r.2⟩]) := by
  unfold impl_heap_alloc at h0
  refine ACalls.intro Try.func50 rfl (by show 3 ≤ 39; decide) ?_
  show AW _ 2 _ (aret _ 2 Try.f50 _) ⟨39, _, _⟩
  refine AW.weaken (Wk.to (L := [(0, (.ptr 0 0 0 0)), (1, (i64 p1)), (2, (.sl (List.map eI p2)))]) ⟨.rfl, .rfl, .rfl, trivial⟩) ?_
  refine AW.seq fun K1 hK1 => ?_
  refine AW.regionO (by rfl) ?_
  refine ao_q (v := (i64 0)) go0 rfl (aq_as rfl) ?_
  refine AO.done (hK1 _ ?_)
  refine AW.seq fun K2 hK2 => ?_
  refine AW.regionO (by rfl) ?_
  refine ao_q (v := (i64 p1)) go0 rfl (aq_mv rfl) ?_
  refine ao_q (v := (.sl (List.map eI p2))) go0 rfl (aq_mv rfl) ?_
  obtain ⟨q3, gq3, h0⟩ := Sh.bind_some h0
  refine ao_call (v' := (.own 2 0 (List.length q3))) (st' := [⟨0, 70, 1, [[(.own 1 0 (List.length s1))]]⟩, ⟨0, 58, 3, List.map (eCellD 3) s1⟩, ⟨0, 3, 1, List.map eI q3⟩]) go0 hb39 (slices_Clone_int_int_ok gq3) rfl rfl ⟨(pure_map' fun _ => rfl), trivial⟩ rfl rfl ?_
  refine ao_q (v := (.agg [(i64 1), (i64 p1), (.own 2 0 (List.length q3))])) go0 rfl (aq_bd ai58 bi58 zi58 rfl rfl) ?_
  refine ao_alloc (m := 3) (st' := [⟨0, 70, 1, [[(.own 1 0 (List.length s1))]]⟩, ⟨0, 58, 3, List.map (eCellD 3) s1⟩, ⟨0, 3, 1, List.map eI q3⟩, ⟨0, 58, 3, [[(i64 0), (i64 0), .zc]]⟩]) go0 zi58 rfl rfl ?_
  refine ao_str (st' := [⟨0, 70, 1, [[(.own 1 0 (List.length s1))]]⟩, ⟨0, 58, 3, List.map (eCellD 3) s1⟩, ⟨0, 3, 1, List.map eI q3⟩, ⟨0, 58, 3, [[(i64 1), (i64 p1), (.own 2 0 (List.length q3))]]⟩]) go0 ti58 rfl rfl rfl rfl rfl rfl (show 0 + 3 ≤ 3 by decide) rfl ?_
  refine AO.done (hK2 _ ?_)
  refine AW.seq fun K4 hK4 => ?_
  refine AW.regionO (by rfl) ?_
  refine ao_q (v := (.ptr 0 0 0 0)) go0 rfl (aq_mv rfl) ?_
  refine ao_q (v := (.ptr 0 0 0 0)) go0 rfl (aq_nck rfl rfl) ?_
  refine ao_q (v := (.own 1 0 (List.length s1))) go0 rfl (aq_ldp ti70 rfl rfl rfl rfl) ?_
  obtain ⟨q5, gq5, h0⟩ := Sh.bind_some h0
  refine ao_callb (v' := (i64 q5)) (st' := [⟨0, 70, 1, [[(.own 1 0 (List.length s1))]]⟩, ⟨0, 58, 3, List.map (eCellD 3) s1⟩, ⟨0, 3, 1, List.map eI q3⟩, ⟨0, 58, 3, [[(i64 1), (i64 p1), (.own 2 0 (List.length q3))]]⟩]) go0 hb73 (slices_IndexFunc_impl_heap_impl_Cell_ok gq5) rfl (.ownD rfl rfl (fun _ => rfl) (fun x => eCellD_und x) (.val rfl .nil)) rfl trivial rfl rfl ?_
  refine ao_q (v := (i64 q5)) go0 rfl (aq_as rfl) ?_
  refine AO.done (hK4 _ ?_)
  refine AW.seq fun K6 hK6 => ?_
  obtain ⟨o9, h1, h0⟩ := Sh.bind_some h0
  have M9 : ∀ (at7 : Int) (l8 : (List Cell)), o9 = (at7, l8) → ∀ s, Wk 2 s ⟨39, envL [(8, (i64 at7))], [⟨0, 70, 1, [[(.own 1 1 (List.length l8))]]⟩, ⟨1, 58, 3, List.map (eCellD 3) l8⟩]⟩ → K6 s := by
    intro at7 l8 hq s hw
    subst o9
    try dsimp only at h0
    refine hK6 _ (AW.weaken hw ?_)
    refine AW.seq fun K10 hK10 => ?_
    refine AW.regionO (by rfl) ?_
    refine ao_q (v := (i64 at7)) go0 rfl (aq_mv rfl) ?_
    refine ao_q (v := (i64 (Sh.w (1000 + at7)))) go0 rfl (aq_add rfl rfl) ?_
    refine ao_q (v := (i64 (Sh.w (1000 + at7)))) go0 rfl (aq_as rfl) ?_
    refine AO.done (hK10 _ ?_)
    replace h0 := Sh.some_eq h0
    subst r
    exact AW.ret (Exists.intro _ (And.intro (Wk.to (L := [(6, (i64 (Sh.w (1000 + at7))))]) ⟨.rfl, trivial⟩) (And.intro rfl rfl)))
  refine AW.seq fun K11 hK11 => ?_
  refine AW.regionO (by rfl) ?_
  refine ao_q (v := (i64 q5)) go0 rfl (aq_mv rfl) ?_
  refine ao_q (v := (.bool (decide (q5 < 0)))) go0 rfl (aq_lt rfl rfl) ?_
  refine AO.done (hK11 _ ?_)
  refine AW.cond' (b := decide (q5 < 0)) rfl (fun b12 => ?_) (fun b12 => ?_)
  · replace h1 := Sh.ite_t b12 h1
    refine AW.seq fun K13 hK13 => ?_
    refine AW.regionO (by rfl) ?_
    refine ao_q (v := (.ptr 0 0 0 0)) go0 rfl (aq_mv rfl) ?_
    refine ao_q (v := (.ptr 0 0 0 0)) go0 rfl (aq_nck rfl rfl) ?_
    refine ao_q (v := (.own 1 0 (List.length s1))) go0 rfl (aq_ldp ti70 rfl rfl rfl rfl) ?_
    refine ao_q (v := (i64 (Sh.len s1))) go0 rfl (aq_leno sl70 rfl rfl rfl) ?_
    refine ao_q (v := (i64 (Sh.len s1))) go0 rfl (aq_as rfl) ?_
    refine AO.done (hK13 _ ?_)
    refine AW.drawX (by kernel_rfl) ?_
    refine AX.hoist 0 (v := (.ptr 0 0 0 0)) rfl rfl (by kernel_rfl) (by kernel_rfl) (by kernel_rfl) rfl (hoist_mv rfl) ?_
    refine AX.hoist 1 (v := (.ptr 0 0 0 0)) rfl rfl (by kernel_rfl) (by kernel_rfl) (by kernel_rfl) rfl (hoist_mv rfl) ?_
    refine AX.hoist 2 (v := (.ptr 0 0 0 0)) rfl rfl (by kernel_rfl) (by kernel_rfl) (by kernel_rfl) rfl (hoist_nck rfl rfl) ?_
    refine AX.all [3, 4] rfl (by kernel_rfl) (by decide) ⟨?_, ?_, trivial⟩
    · refine AXs.of (i := 3) rfl rfl (by rfl) ?_
      refine ao_q (v := (.own 1 0 (List.length s1))) go0 rfl (aq_ldp ti70 rfl rfl rfl rfl) ?_
      refine AO.done ⟨rfl, ?_⟩
      refine AX.all [4] rfl (by kernel_rfl) (by decide) ⟨?_, trivial⟩
      · refine AXs.of (i := 4) rfl rfl (by rfl) ?_
        refine ao_q (v := (.agg [(i64 1), (i64 p1), (.own 2 0 (List.length q3))])) go0 rfl (aq_ldpa ti58 rfl rfl rfl (show 0 + 3 ≤ 3 by decide) rfl) ?_
        refine AO.done ⟨rfl, ?_⟩
        refine AX.all [5] rfl (by kernel_rfl) (by decide) ⟨?_, trivial⟩
        · refine AXs.of (i := 5) rfl rfl (by rfl) ?_
          refine ao_bs (m := 4) (st' := [⟨0, 70, 1, [[(.own 1 0 (List.length s1))]]⟩, ⟨0, 58, 3, List.map (eCellD 3) s1⟩, ⟨0, 3, 1, List.map eI q3⟩, ⟨0, 58, 3, [[(i64 1), (i64 p1), (.own 2 0 (List.length q3))]]⟩, ⟨0, 58, 3, [[(i64 1), (i64 p1), (.own 2 0 (List.length q3))]]⟩]) (l := [()]) (enc := fun _ => [(i64 1), (i64 p1), (.own 2 0 (List.length q3))]) go0 ei70 (by decide) rfl rfl rfl rfl rfl rfl ?_
          refine AO.done ⟨rfl, ?_⟩
          refine AX.all [6] rfl (by kernel_rfl) (by decide) ⟨?_, trivial⟩
          · refine AXs.of (i := 6) rfl rfl (by rfl) ?_
            obtain ⟨l14, gl14, h1⟩ := Sh.bind_some h1
            have g15 := app_get gl14
            refine ao_apd (st' := [⟨0, 70, 1, [[(.own 1 0 (List.length s1))]]⟩, ⟨1, 58, 3, hole l14 (eCellD 3) (Sh.len s1) [(i64 1), (i64 p1), (.own 2 0 (List.length q3))]⟩, ⟨0, 3, 1, List.map eI q3⟩, ⟨0, 58, 3, [[(i64 1), (i64 p1), (.own 2 0 (List.length q3))]]⟩, ⟨0, 58, 3, [[(i64 1), (i64 p1), (.own 2 0 (List.length q3))]]⟩]) (c := (Cell.mk 1 p1 q3)) go0 ei70 rfl rfl rfl rfl rfl rfl rfl gl14 rfl ?_
            refine AO.weaken (Wk.take (id := 1) (m := 2) (j := 2) (i := Sh.len s1) (c := (Cell.mk 1 p1 q3)) (ys := q3) (encY := eI) (x' := [(i64 1), (i64 p1), (.dv 3 1 (List.map eI q3))]) (st' := [⟨0, 70, 1, [[(.own 1 0 (List.length s1))]]⟩, ⟨1, 58, 3, hole l14 (eCellD 3) (Sh.len s1) [(i64 1), (i64 p1), (.dv 3 1 (List.map eI q3))]⟩, ⟨1, 3, 1, []⟩, ⟨0, 58, 3, [[(i64 1), (i64 p1), (.own 2 0 (List.length q3))]]⟩, ⟨0, 58, 3, [[(i64 1), (i64 p1), (.own 2 0 (List.length q3))]]⟩]) rfl g15 rfl rfl rfl (by decide) (show 2 ≤ 2 by decide) (fun _ => rfl) rfl rfl) ?_
            refine AO.weaken (Wk.restored (id := 1) (i := Sh.len s1) (c := (Cell.mk 1 p1 q3)) (st' := [⟨0, 70, 1, [[(.own 1 0 (List.length s1))]]⟩, ⟨1, 58, 3, List.map (eCellD 3) l14⟩, ⟨1, 3, 1, []⟩, ⟨0, 58, 3, [[(i64 1), (i64 p1), (.own 2 0 (List.length q3))]]⟩, ⟨0, 58, 3, [[(i64 1), (i64 p1), (.own 2 0 (List.length q3))]]⟩]) rfl g15 rfl rfl) ?_
            refine AO.done ⟨rfl, ?_⟩
            refine AX.hoist 7 (v := (.ptr 0 0 0 0)) rfl rfl (by kernel_rfl) (by kernel_rfl) (by kernel_rfl) rfl (hoist_nck rfl rfl) ?_
            refine AX.all [8] rfl (by kernel_rfl) (by decide) ⟨?_, trivial⟩
            · refine AXs.of (i := 8) rfl rfl (by rfl) ?_
              refine ao_str (st' := [⟨0, 70, 1, [[(.own 1 1 (List.length l14))]]⟩, ⟨1, 58, 3, List.map (eCellD 3) l14⟩, ⟨1, 3, 1, []⟩, ⟨0, 58, 3, [[(i64 1), (i64 p1), (.own 2 0 (List.length q3))]]⟩, ⟨0, 58, 3, [[(i64 1), (i64 p1), (.own 2 0 (List.length q3))]]⟩]) go0 ti70 rfl rfl rfl rfl rfl rfl (show 0 + 1 ≤ 1 by decide) rfl ?_
              refine AO.done ⟨rfl, ?_⟩
              exact AX.done rfl (by kernel_rfl) (M9 (Sh.len s1) l14 (Sh.some_eq h1).symm _ (by refine Wk.trans (Wk.permk (L := [(8, (i64 (Sh.len s1)))]) (st' := [⟨0, 70, 1, [[(.own 1 1 (List.length l14))]]⟩, ⟨1, 58, 3, List.map (eCellD 3) l14⟩]) (st1 := [⟨0, 70, 1, [[(.own 1 1 (List.length l14))]]⟩, ⟨1, 58, 3, List.map (eCellD 3) l14⟩]) [0, 1] rfl (.raw rfl rfl (.deep (pure_mapD fun _ => rfl) .nil)) (by decide) rfl rfl (.raw rfl rfl (.deep (pure_mapD fun _ => rfl) .nil)) ⟨.rfl, trivial⟩) ?_; exact Wk.to (L := [(8, (i64 (Sh.len s1)))]) ⟨.rfl, trivial⟩))
    · refine AXs.of (i := 4) rfl rfl (by rfl) ?_
      refine ao_q (v := (.agg [(i64 1), (i64 p1), (.own 2 0 (List.length q3))])) go0 rfl (aq_ldpa ti58 rfl rfl rfl (show 0 + 3 ≤ 3 by decide) rfl) ?_
      refine AO.done ⟨rfl, ?_⟩
      refine AX.all [3, 5] rfl (by kernel_rfl) (by decide) ⟨?_, ?_, trivial⟩
      · refine AXs.of (i := 3) rfl rfl (by rfl) ?_
        refine ao_q (v := (.own 1 0 (List.length s1))) go0 rfl (aq_ldp ti70 rfl rfl rfl rfl) ?_
        refine AO.done ⟨rfl, ?_⟩
        refine AX.all [5] rfl (by kernel_rfl) (by decide) ⟨?_, trivial⟩
        · refine AXs.of (i := 5) rfl rfl (by rfl) ?_
          refine ao_bs (m := 4) (st' := [⟨0, 70, 1, [[(.own 1 0 (List.length s1))]]⟩, ⟨0, 58, 3, List.map (eCellD 3) s1⟩, ⟨0, 3, 1, List.map eI q3⟩, ⟨0, 58, 3, [[(i64 1), (i64 p1), (.own 2 0 (List.length q3))]]⟩, ⟨0, 58, 3, [[(i64 1), (i64 p1), (.own 2 0 (List.length q3))]]⟩]) (l := [()]) (enc := fun _ => [(i64 1), (i64 p1), (.own 2 0 (List.length q3))]) go0 ei70 (by decide) rfl rfl rfl rfl rfl rfl ?_
          refine AO.done ⟨rfl, ?_⟩
          refine AX.all [6] rfl (by kernel_rfl) (by decide) ⟨?_, trivial⟩
          · refine AXs.of (i := 6) rfl rfl (by rfl) ?_
            obtain ⟨l16, gl16, h1⟩ := Sh.bind_some h1
            have g17 := app_get gl16
            refine ao_apd (st' := [⟨0, 70, 1, [[(.own 1 0 (List.length s1))]]⟩, ⟨1, 58, 3, hole l16 (eCellD 3) (Sh.len s1) [(i64 1), (i64 p1), (.own 2 0 (List.length q3))]⟩, ⟨0, 3, 1, List.map eI q3⟩, ⟨0, 58, 3, [[(i64 1), (i64 p1), (.own 2 0 (List.length q3))]]⟩, ⟨0, 58, 3, [[(i64 1), (i64 p1), (.own 2 0 (List.length q3))]]⟩]) (c := (Cell.mk 1 p1 q3)) go0 ei70 rfl rfl rfl rfl rfl rfl rfl gl16 rfl ?_
            refine AO.weaken (Wk.take (id := 1) (m := 2) (j := 2) (i := Sh.len s1) (c := (Cell.mk 1 p1 q3)) (ys := q3) (encY := eI) (x' := [(i64 1), (i64 p1), (.dv 3 1 (List.map eI q3))]) (st' := [⟨0, 70, 1, [[(.own 1 0 (List.length s1))]]⟩, ⟨1, 58, 3, hole l16 (eCellD 3) (Sh.len s1) [(i64 1), (i64 p1), (.dv 3 1 (List.map eI q3))]⟩, ⟨1, 3, 1, []⟩, ⟨0, 58, 3, [[(i64 1), (i64 p1), (.own 2 0 (List.length q3))]]⟩, ⟨0, 58, 3, [[(i64 1), (i64 p1), (.own 2 0 (List.length q3))]]⟩]) rfl g17 rfl rfl rfl (by decide) (show 2 ≤ 2 by decide) (fun _ => rfl) rfl rfl) ?_
            refine AO.weaken (Wk.restored (id := 1) (i := Sh.len s1) (c := (Cell.mk 1 p1 q3)) (st' := [⟨0, 70, 1, [[(.own 1 0 (List.length s1))]]⟩, ⟨1, 58, 3, List.map (eCellD 3) l16⟩, ⟨1, 3, 1, []⟩, ⟨0, 58, 3, [[(i64 1), (i64 p1), (.own 2 0 (List.length q3))]]⟩, ⟨0, 58, 3, [[(i64 1), (i64 p1), (.own 2 0 (List.length q3))]]⟩]) rfl g17 rfl rfl) ?_
            refine AO.done ⟨rfl, ?_⟩
            refine AX.hoist 7 (v := (.ptr 0 0 0 0)) rfl rfl (by kernel_rfl) (by kernel_rfl) (by kernel_rfl) rfl (hoist_nck rfl rfl) ?_
            refine AX.all [8] rfl (by kernel_rfl) (by decide) ⟨?_, trivial⟩
            · refine AXs.of (i := 8) rfl rfl (by rfl) ?_
              refine ao_str (st' := [⟨0, 70, 1, [[(.own 1 1 (List.length l16))]]⟩, ⟨1, 58, 3, List.map (eCellD 3) l16⟩, ⟨1, 3, 1, []⟩, ⟨0, 58, 3, [[(i64 1), (i64 p1), (.own 2 0 (List.length q3))]]⟩, ⟨0, 58, 3, [[(i64 1), (i64 p1), (.own 2 0 (List.length q3))]]⟩]) go0 ti70 rfl rfl rfl rfl rfl rfl (show 0 + 1 ≤ 1 by decide) rfl ?_
              refine AO.done ⟨rfl, ?_⟩
              exact AX.done rfl (by kernel_rfl) (M9 (Sh.len s1) l16 (Sh.some_eq h1).symm _ (by refine Wk.trans (Wk.permk (L := [(8, (i64 (Sh.len s1)))]) (st' := [⟨0, 70, 1, [[(.own 1 1 (List.length l16))]]⟩, ⟨1, 58, 3, List.map (eCellD 3) l16⟩]) (st1 := [⟨0, 70, 1, [[(.own 1 1 (List.length l16))]]⟩, ⟨1, 58, 3, List.map (eCellD 3) l16⟩]) [0, 1] rfl (.raw rfl rfl (.deep (pure_mapD fun _ => rfl) .nil)) (by decide) rfl rfl (.raw rfl rfl (.deep (pure_mapD fun _ => rfl) .nil)) ⟨.rfl, trivial⟩) ?_; exact Wk.to (L := [(8, (i64 (Sh.len s1)))]) ⟨.rfl, trivial⟩))
      · refine AXs.of (i := 5) rfl rfl (by rfl) ?_
        refine ao_bs (m := 4) (st' := [⟨0, 70, 1, [[(.own 1 0 (List.length s1))]]⟩, ⟨0, 58, 3, List.map (eCellD 3) s1⟩, ⟨0, 3, 1, List.map eI q3⟩, ⟨0, 58, 3, [[(i64 1), (i64 p1), (.own 2 0 (List.length q3))]]⟩, ⟨0, 58, 3, [[(i64 1), (i64 p1), (.own 2 0 (List.length q3))]]⟩]) (l := [()]) (enc := fun _ => [(i64 1), (i64 p1), (.own 2 0 (List.length q3))]) go0 ei70 (by decide) rfl rfl rfl rfl rfl rfl ?_
        refine AO.done ⟨rfl, ?_⟩
        refine AX.all [3] rfl (by kernel_rfl) (by decide) ⟨?_, trivial⟩
        · refine AXs.of (i := 3) rfl rfl (by rfl) ?_
          refine ao_q (v := (.own 1 0 (List.length s1))) go0 rfl (aq_ldp ti70 rfl rfl rfl rfl) ?_
          refine AO.done ⟨rfl, ?_⟩
          refine AX.all [6] rfl (by kernel_rfl) (by decide) ⟨?_, trivial⟩
          · refine AXs.of (i := 6) rfl rfl (by rfl) ?_
            obtain ⟨l18, gl18, h1⟩ := Sh.bind_some h1
            have g19 := app_get gl18
            refine ao_apd (st' := [⟨0, 70, 1, [[(.own 1 0 (List.length s1))]]⟩, ⟨1, 58, 3, hole l18 (eCellD 3) (Sh.len s1) [(i64 1), (i64 p1), (.own 2 0 (List.length q3))]⟩, ⟨0, 3, 1, List.map eI q3⟩, ⟨0, 58, 3, [[(i64 1), (i64 p1), (.own 2 0 (List.length q3))]]⟩, ⟨0, 58, 3, [[(i64 1), (i64 p1), (.own 2 0 (List.length q3))]]⟩]) (c := (Cell.mk 1 p1 q3)) go0 ei70 rfl rfl rfl rfl rfl rfl rfl gl18 rfl ?_
            refine AO.weaken (Wk.take (id := 1) (m := 2) (j := 2) (i := Sh.len s1) (c := (Cell.mk 1 p1 q3)) (ys := q3) (encY := eI) (x' := [(i64 1), (i64 p1), (.dv 3 1 (List.map eI q3))]) (st' := [⟨0, 70, 1, [[(.own 1 0 (List.length s1))]]⟩, ⟨1, 58, 3, hole l18 (eCellD 3) (Sh.len s1) [(i64 1), (i64 p1), (.dv 3 1 (List.map eI q3))]⟩, ⟨1, 3, 1, []⟩, ⟨0, 58, 3, [[(i64 1), (i64 p1), (.own 2 0 (List.length q3))]]⟩, ⟨0, 58, 3, [[(i64 1), (i64 p1), (.own 2 0 (List.length q3))]]⟩]) rfl g19 rfl rfl rfl (by decide) (show 2 ≤ 2 by decide) (fun _ => rfl) rfl rfl) ?_
            refine AO.weaken (Wk.restored (id := 1) (i := Sh.len s1) (c := (Cell.mk 1 p1 q3)) (st' := [⟨0, 70, 1, [[(.own 1 0 (List.length s1))]]⟩, ⟨1, 58, 3, List.map (eCellD 3) l18⟩, ⟨1, 3, 1, []⟩, ⟨0, 58, 3, [[(i64 1), (i64 p1), (.own 2 0 (List.length q3))]]⟩, ⟨0, 58, 3, [[(i64 1), (i64 p1), (.own 2 0 (List.length q3))]]⟩]) rfl g19 rfl rfl) ?_
            refine AO.done ⟨rfl, ?_⟩
            refine AX.hoist 7 (v := (.ptr 0 0 0 0)) rfl rfl (by kernel_rfl) (by kernel_rfl) (by kernel_rfl) rfl (hoist_nck rfl rfl) ?_
            refine AX.all [8] rfl (by kernel_rfl) (by decide) ⟨?_, trivial⟩
            · refine AXs.of (i := 8) rfl rfl (by rfl) ?_
              refine ao_str (st' := [⟨0, 70, 1, [[(.own 1 1 (List.length l18))]]⟩, ⟨1, 58, 3, List.map (eCellD 3) l18⟩, ⟨1, 3, 1, []⟩, ⟨0, 58, 3, [[(i64 1), (i64 p1), (.own 2 0 (List.length q3))]]⟩, ⟨0, 58, 3, [[(i64 1), (i64 p1), (.own 2 0 (List.length q3))]]⟩]) go0 ti70 rfl rfl rfl rfl rfl rfl (show 0 + 1 ≤ 1 by decide) rfl ?_
              refine AO.done ⟨rfl, ?_⟩
              exact AX.done rfl (by kernel_rfl) (M9 (Sh.len s1) l18 (Sh.some_eq h1).symm _ (by refine Wk.trans (Wk.permk (L := [(8, (i64 (Sh.len s1)))]) (st' := [⟨0, 70, 1, [[(.own 1 1 (List.length l18))]]⟩, ⟨1, 58, 3, List.map (eCellD 3) l18⟩]) (st1 := [⟨0, 70, 1, [[(.own 1 1 (List.length l18))]]⟩, ⟨1, 58, 3, List.map (eCellD 3) l18⟩]) [0, 1] rfl (.raw rfl rfl (.deep (pure_mapD fun _ => rfl) .nil)) (by decide) rfl rfl (.raw rfl rfl (.deep (pure_mapD fun _ => rfl) .nil)) ⟨.rfl, trivial⟩) ?_; exact Wk.to (L := [(8, (i64 (Sh.len s1)))]) ⟨.rfl, trivial⟩))
  · replace h1 := Sh.ite_f b12 h1
    refine AW.drawTailO 6 (by kernel_rfl) (by kernel_rfl) (by rfl) ?_
    refine d_q (v := (.ptr 0 0 0 0)) go0 rfl (aq_mv rfl) ?_
    refine d_q (v := (.ptr 0 0 0 0)) go0 rfl (aq_nck rfl rfl) ?_
    refine d_q (v := (.own 1 0 (List.length s1))) go0 rfl (aq_ldp ti70 rfl rfl rfl rfl) ?_
    refine d_q (v := (i64 q5)) go0 rfl (aq_mv rfl) ?_
    refine d_q (v := (.agg [(i64 1), (i64 p1), (.own 2 0 (List.length q3))])) go0 rfl (aq_ldpa ti58 rfl rfl rfl (show 0 + 3 ≤ 3 by decide) rfl) ?_
    obtain ⟨c20, gc20, h1⟩ := Sh.bind_some h1
    refine d_q (v := (.ptr 1 0 (Int.toNat q5) 0)) go0 rfl (aq_ixo ei70 rfl rfl rfl rfl gc20) ?_
    refine d_done ?_
    refine ao_sth (st' := [⟨0, 70, 1, [[(.own 1 0 (List.length s1))]]⟩, ⟨0, 58, 3, hole s1 (eCellD 3) q5 [(i64 1), (i64 p1), (.own 2 0 (List.length q3))]⟩, ⟨0, 3, 1, List.map eI q3⟩, ⟨0, 58, 3, [[(i64 1), (i64 p1), (.own 2 0 (List.length q3))]]⟩]) go0 ti58 rfl rfl gc20 rfl rfl rfl (show 3 ≤ 3 by decide) rfl rfl ?_
    refine AO.weaken (Wk.take (id := 1) (m := 2) (j := 2) (i := q5) (c := c20) (ys := q3) (encY := eI) (x' := [(i64 1), (i64 p1), (.dv 3 1 (List.map eI q3))]) (st' := [⟨0, 70, 1, [[(.own 1 0 (List.length s1))]]⟩, ⟨0, 58, 3, hole s1 (eCellD 3) q5 [(i64 1), (i64 p1), (.dv 3 1 (List.map eI q3))]⟩, ⟨1, 3, 1, []⟩, ⟨0, 58, 3, [[(i64 1), (i64 p1), (.own 2 0 (List.length q3))]]⟩]) rfl gc20 rfl rfl rfl (by decide) (show 2 ≤ 2 by decide) (fun _ => rfl) rfl rfl) ?_
    refine AO.weaken (Wk.filled (id := 1) (i := q5) (u := (Cell.mk 1 p1 q3)) (st' := [⟨0, 70, 1, [[(.own 1 0 (List.length s1))]]⟩, ⟨0, 58, 3, List.map (eCellD 3) (Sh.put s1 q5 (Cell.mk 1 p1 q3))⟩, ⟨1, 3, 1, []⟩, ⟨0, 58, 3, [[(i64 1), (i64 p1), (.own 2 0 (List.length q3))]]⟩]) rfl rfl rfl) ?_
    exact AO.done (M9 q5 (Sh.put s1 q5 (Cell.mk 1 p1 q3)) (Sh.some_eq h1).symm _ (by refine Wk.trans (Wk.steq (st := [⟨0, 70, 1, [[(.own 1 0 (List.length s1))]]⟩, ⟨0, 58, 3, List.map (eCellD 3) (Sh.put s1 q5 (Cell.mk 1 p1 q3))⟩, ⟨1, 3, 1, []⟩, ⟨0, 58, 3, [[(i64 1), (i64 p1), (.own 2 0 (List.length q3))]]⟩]) (st' := [⟨0, 70, 1, [[(.own 1 0 (List.length (Sh.put s1 q5 (Cell.mk 1 p1 q3))))]]⟩, ⟨0, 58, 3, List.map (eCellD 3) (Sh.put s1 q5 (Cell.mk 1 p1 q3))⟩, ⟨1, 3, 1, []⟩, ⟨0, 58, 3, [[(i64 1), (i64 p1), (.own 2 0 (List.length q3))]]⟩]) (by simp only [Sh.put_len])) ?_; refine Wk.trans (Wk.bump (L := [(8, (i64 q5))]) (st' := [⟨0, 70, 1, [[(.own 1 1 (List.length (Sh.put s1 q5 (Cell.mk 1 p1 q3))))]]⟩, ⟨1, 58, 3, List.map (eCellD 3) (Sh.put s1 q5 (Cell.mk 1 p1 q3))⟩, ⟨1, 3, 1, []⟩, ⟨0, 58, 3, [[(i64 1), (i64 p1), (.own 2 0 (List.length q3))]]⟩]) (st1 := [⟨0, 70, 1, [[(.own 1 1 (List.length (Sh.put s1 q5 (Cell.mk 1 p1 q3))))]]⟩, ⟨0, 58, 3, List.map (eCellD 3) (Sh.put s1 q5 (Cell.mk 1 p1 q3))⟩, ⟨1, 3, 1, []⟩, ⟨0, 58, 3, [[(i64 1), (i64 p1), (.own 2 0 (List.length q3))]]⟩]) 1 rfl (.raw rfl rfl (.deep (pure_mapD fun _ => rfl) (.pure (by intro x hx; cases hx) (.raw rfl rfl .nil)))) rfl ⟨.rfl, trivial⟩) ?_; refine Wk.trans (Wk.permk (L := [(8, (i64 q5))]) (st' := [⟨0, 70, 1, [[(.own 1 1 (List.length (Sh.put s1 q5 (Cell.mk 1 p1 q3))))]]⟩, ⟨1, 58, 3, List.map (eCellD 3) (Sh.put s1 q5 (Cell.mk 1 p1 q3))⟩]) (st1 := [⟨0, 70, 1, [[(.own 1 1 (List.length (Sh.put s1 q5 (Cell.mk 1 p1 q3))))]]⟩, ⟨1, 58, 3, List.map (eCellD 3) (Sh.put s1 q5 (Cell.mk 1 p1 q3))⟩]) [0, 1] rfl (.raw rfl rfl (.deep (pure_mapD fun _ => rfl) .nil)) (by decide) rfl rfl (.raw rfl rfl (.deep (pure_mapD fun _ => rfl) .nil)) ⟨.rfl, trivial⟩) ?_; exact Wk.to (L := [(8, (i64 q5))]) ⟨.rfl, trivial⟩))

set_option maxRecDepth 100000 in
set_option maxHeartbeats 4000000 in
theorem impl_AllocCell_ok {N : Nat} {p0 : (List Cell)} {p1 : Int} {p2 : (List Int)} {r : (List Cell) × Int} (h0 : impl_AllocCell N p0 p1 p2 = some r) : ACalls Try.prog 23 [(.sl (List.map eCell p0)), (i64 p1), (.sl (List.map eI p2))] [] (fun v st => v = (.tup [(.own 0 0 (List.length r.1)), (i64 r.2)]) ∧ st = [⟨0, 58, 3, List.map (eCellD 3) r.1⟩]) := by
  unfold impl_AllocCell at h0
  refine ACalls.intro Try.func23 rfl (by show 3 ≤ 23; decide) ?_
  show AW _ 0 _ (aret _ 0 Try.f23 _) ⟨23, _, _⟩
  refine AW.weaken (Wk.to (L := [(0, (.sl (List.map eCell p0))), (1, (i64 p1)), (2, (.sl (List.map eI p2)))]) ⟨.rfl, .rfl, .rfl, trivial⟩) ?_
  refine AW.seq fun K1 hK1 => ?_
  refine AW.regionO (by rfl) ?_
  refine ao_q (v := .zc) go0 rfl (aq_as rfl) ?_
  refine ao_q (v := (i64 0)) go0 rfl (aq_as rfl) ?_
  refine AO.done (hK1 _ ?_)
  refine AW.seq fun K2 hK2 => ?_
  refine AW.seq fun K3 hK3 => ?_
  refine AW.regionO (by rfl) ?_
  refine ao_q (v := (.sl (List.map eCell p0))) go0 rfl (aq_mv rfl) ?_
  obtain ⟨q4, gq4, h0⟩ := Sh.bind_some h0
  refine ao_call (v' := (.bool q4)) (st' := []) go0 hb38 (impl_ValidHeap_ok gq4) rfl rfl trivial rfl rfl ?_
  refine ao_q (v := (.bool (!q4))) go0 rfl (aq_not rfl) ?_
  refine AO.done (hK3 _ ?_)
  refine AW.cond' (b := !q4) rfl (fun b5 => ?_) (fun b5 => ?_)
  · replace h0 := Sh.ite_t b5 h0
    have b6 : q4 = false := by simpa using b5
    refine AW.seq fun K7 hK7 => ?_
    refine AW.regionO (by rfl) ?_
    refine ao_q (v := .zc) go0 rfl (aq_as rfl) ?_
    refine ao_q (v := (i64 0)) go0 rfl (aq_as rfl) ?_
    refine AO.done (hK7 _ ?_)
    replace h0 := Sh.some_eq h0
    subst r
    exact AW.ret (Exists.intro _ (And.intro (((Wk.adopt (t := 6) rfl 58 (size := 3) (by decide)).trans (Wk.to (L := [(6, (.own 0 0 (List.length ([] : List Cell)))), (7, (i64 0))]) ⟨.rfl, .rfl, trivial⟩)).trans (Wk.to (L := [(6, (.own 0 0 (List.length ([] : List Cell)))), (7, (i64 0))]) ⟨.rfl, .rfl, trivial⟩)) (And.intro rfl rfl)))
  · replace h0 := Sh.ite_f b5 h0
    have b8 : q4 = true := by simpa using b5
    refine AW.skip (hK2 _ ?_)
    refine AW.seq fun K9 hK9 => ?_
    refine AW.regionO (by rfl) ?_
    refine ao_q (v := (.sl (List.map eCell p0))) go0 rfl (aq_mv rfl) ?_
    obtain ⟨q10, gq10, h0⟩ := Sh.bind_some h0
    refine ao_call (v' := (.own 0 0 (List.length q10))) (st' := [⟨0, 58, 3, List.map (eCellD 3) q10⟩]) go0 hb47 (impl_cloneHeap_D_ok gq10) rfl rfl ⟨(pure_mapD fun _ => rfl), trivial⟩ rfl rfl ?_
    refine ao_alloc (m := 1) (st' := [⟨0, 58, 3, List.map (eCellD 3) q10⟩, ⟨0, 70, 1, [[.zc]]⟩]) go0 zi70 rfl rfl ?_
    refine ao_str (st' := [⟨0, 58, 3, List.map (eCellD 3) q10⟩, ⟨0, 70, 1, [[(.own 0 0 (List.length q10))]]⟩]) go0 ti70 rfl rfl rfl rfl rfl rfl (show 0 + 1 ≤ 1 by decide) rfl ?_
    refine AO.done (hK9 _ ?_)
    refine AW.seq fun K11 hK11 => ?_
    refine AW.regionO (by rfl) ?_
    refine ao_q (v := (i64 p1)) go0 rfl (aq_mv rfl) ?_
    refine ao_q (v := (.sl (List.map eI p2))) go0 rfl (aq_mv rfl) ?_
    obtain ⟨q12, gq12, h0⟩ := Sh.bind_some h0
    refine ao_calls (rowsP := [⟨0, 70, 1, [[(.own 0 0 (List.length q10))]]⟩, ⟨0, 58, 3, List.map (eCellD 3) q10⟩]) (rows0 := [⟨0, 70, 1, [[(.own 1 0 (List.length q10))]]⟩, ⟨0, 58, 3, List.map (eCellD 3) q10⟩]) (rows1 := [⟨0, 70, 1, [[(.own 1 1 (List.length q12.2))]]⟩, ⟨1, 58, 3, List.map (eCellD 3) q12.2⟩]) (rows2 := []) (rows1' := [⟨0, 70, 1, [[(.own 0 1 (List.length q12.2))]]⟩, ⟨1, 58, 3, List.map (eCellD 3) q12.2⟩]) (rows2' := []) (st' := [⟨1, 58, 3, List.map (eCellD 3) q12.2⟩, ⟨0, 70, 1, [[(.own 0 1 (List.length q12.2))]]⟩]) (v' := (i64 q12.1)) [1, 0] go0 hb50 (impl_heap_alloc_ok gq12) rfl (by decide) rfl rfl (.raw rfl rfl (.deep (pure_mapD fun _ => rfl) .nil)) rfl rfl (.raw rfl rfl (.deep (pure_mapD fun _ => rfl) .nil)) .nil rfl rfl ?_
    refine ao_q (v := (i64 q12.1)) go0 rfl (aq_as rfl) ?_
    refine AO.done (hK11 _ ?_)
    refine AW.seq fun K13 hK13 => ?_
    refine AW.seq fun K14 hK14 => ?_
    refine AW.regionO (by rfl) ?_
    refine ao_q (v := (.own 0 1 (List.length q12.2))) go0 rfl (aq_ldp ti70 rfl rfl rfl rfl) ?_
    obtain ⟨q15, gq15, h0⟩ := Sh.bind_some h0
    refine ao_callb (v' := (.bool q15)) (st' := [⟨1, 58, 3, List.map (eCellD 3) q12.2⟩, ⟨0, 70, 1, [[(.own 0 1 (List.length q12.2))]]⟩]) go0 hb38 (impl_ValidHeap_ok gq15) rfl (.ownD rfl rfl (fun _ => rfl) (fun x => eCellD_und x) .nil) rfl trivial rfl rfl ?_
    refine ao_q (v := (.bool (!q15))) go0 rfl (aq_not rfl) ?_
    refine AO.done (hK14 _ ?_)
    refine AW.cond' (b := !q15) rfl (fun b16 => ?_) (fun b16 => ?_)
    · replace h0 := Sh.ite_t b16 h0
      have b17 : q15 = false := by simpa using b16
      refine AW.seq fun K18 hK18 => ?_
      refine AW.regionO (by rfl) ?_
      refine ao_q (v := .zc) go0 rfl (aq_as rfl) ?_
      refine ao_q (v := (i64 0)) go0 rfl (aq_as rfl) ?_
      refine AO.done (hK18 _ ?_)
      replace h0 := Sh.some_eq h0
      subst r
      exact AW.ret (Exists.intro _ (And.intro ((((Wk.adopt (t := 6) rfl 58 (size := 3) (by decide)).trans (Wk.to (L := [(6, (.own 2 0 (List.length ([] : List Cell)))), (7, (i64 0))]) ⟨.rfl, .rfl, trivial⟩)).trans (Wk.permk (L := [(6, (.own 0 0 (List.length ([] : List Cell)))), (7, (i64 0))]) (st' := [⟨0, 58, 3, List.map (eCellD 3) ([] : List Cell)⟩]) (st1 := [⟨0, 58, 3, List.map (eCellD 3) ([] : List Cell)⟩]) [2] rfl .nil (by decide) rfl rfl (.deep (pure_mapD fun _ => rfl) .nil) ⟨.rfl, .rfl, trivial⟩)).trans (Wk.to (L := [(6, (.own 0 0 (List.length ([] : List Cell)))), (7, (i64 0))]) ⟨.rfl, .rfl, trivial⟩)) (And.intro rfl rfl)))
    · replace h0 := Sh.ite_f b16 h0
      have b19 : q15 = true := by simpa using b16
      refine AW.skip (hK13 _ ?_)
      refine AW.seq fun K20 hK20 => ?_
      refine AW.regionO (by rfl) ?_
      refine ao_q (v := (.own 0 1 (List.length q12.2))) go0 rfl (aq_ldp ti70 rfl rfl rfl rfl) ?_
      refine ao_q (v := (i64 q12.1)) go0 rfl (aq_mv rfl) ?_
      refine ao_q (v := (.own 0 1 (List.length q12.2))) go0 rfl (aq_as rfl) ?_
      refine ao_q (v := (i64 q12.1)) go0 rfl (aq_as rfl) ?_
      refine AO.done (hK20 _ ?_)
      replace h0 := Sh.some_eq h0
      subst r
      exact AW.ret (Exists.intro _ (And.intro (((Wk.rg (L := [(6, (.own 0 0 (List.length q12.2))), (7, (i64 q12.1))]) (st' := [⟨0, 58, 3, List.map (eCellD 3) q12.2⟩, ⟨0, 70, 1, [[(.own 0 0 (List.length q12.2))]]⟩]) (.deep (pure_mapD fun _ => rfl) (.raw rfl rfl .nil)) ⟨.rfl, .rfl, trivial⟩).trans (Wk.permk (L := [(6, (.own 0 0 (List.length q12.2))), (7, (i64 q12.1))]) (st' := [⟨0, 58, 3, List.map (eCellD 3) q12.2⟩]) (st1 := [⟨0, 58, 3, List.map (eCellD 3) q12.2⟩]) [0] rfl .nil (by decide) rfl rfl (.deep (pure_mapD fun _ => rfl) .nil) ⟨.rfl, .rfl, trivial⟩)).trans (Wk.to (L := [(6, (.own 0 0 (List.length q12.2))), (7, (i64 q12.1))]) ⟨.rfl, .rfl, trivial⟩)) (And.intro rfl rfl)))

set_option maxRecDepth 100000 in
set_option maxHeartbeats 4000000 in
theorem laws_eqIntS_ok {N : Nat} {p0 : (List Int)} {p1 : (List Int)} {r : Bool} (h0 : laws_eqIntS N p0 p1 = some r) : ACalls Try.prog 14 [(.sl (List.map eI p0)), (.sl (List.map eI p1))] [] (fun v st => v = (.bool r) ∧ st = []) := by
  unfold laws_eqIntS at h0
  refine ACalls.intro Try.func14 rfl (by show 2 ≤ 26; decide) ?_
  show AW _ 0 _ (aret _ 0 Try.f14 _) ⟨26, _, _⟩
  refine AW.weaken (Wk.to (L := [(0, (.sl (List.map eI p0))), (1, (.sl (List.map eI p1)))]) ⟨.rfl, .rfl, trivial⟩) ?_
  refine AW.seq fun K1 hK1 => ?_
  refine AW.regionO (by rfl) ?_
  refine ao_q (v := (.bool false)) go0 rfl (aq_as rfl) ?_
  refine AO.done (hK1 _ ?_)
  refine AW.seq fun K2 hK2 => ?_
  refine AW.seq fun K3 hK3 => ?_
  refine AW.regionO (by rfl) ?_
  refine ao_q (v := (.sl (List.map eI p0))) go0 rfl (aq_mv rfl) ?_
  refine ao_q (v := (i64 (Sh.len p0))) go0 rfl (aq_lens sl23 rfl) ?_
  refine ao_q (v := (.sl (List.map eI p1))) go0 rfl (aq_mv rfl) ?_
  refine ao_q (v := (i64 (Sh.len p1))) go0 rfl (aq_lens sl23 rfl) ?_
  refine ao_q (v := (.bool (!decide ((Sh.len p0) = (Sh.len p1))))) go0 rfl (aq_ne rfl rfl) ?_
  refine AO.done (hK3 _ ?_)
  refine AW.cond' (b := !decide ((Sh.len p0) = (Sh.len p1))) rfl (fun b4 => ?_) (fun b4 => ?_)
  · replace h0 := Sh.ite_t b4 h0
    have b5 : decide ((Sh.len p0) = (Sh.len p1)) = false := by simpa using b4
    refine AW.seq fun K6 hK6 => ?_
    refine AW.regionO (by rfl) ?_
    refine ao_q (v := (.bool false)) go0 rfl (aq_as rfl) ?_
    refine AO.done (hK6 _ ?_)
    replace h0 := Sh.some_eq h0
    subst r
    exact AW.ret (Exists.intro _ (And.intro (Wk.to (L := [(4, (.bool false))]) ⟨.rfl, trivial⟩) (And.intro rfl rfl)))
  · replace h0 := Sh.ite_f b4 h0
    have b7 : decide ((Sh.len p0) = (Sh.len p1)) = true := by simpa using b4
    refine AW.skip (hK2 _ ?_)
    refine AW.seq fun K8 hK8 => ?_
    refine AW.seq fun K9 hK9 => ?_
    refine AW.regionO (by rfl) ?_
    refine ao_q (v := (i64 0)) go0 rfl (aq_as rfl) ?_
    refine AO.done (hK9 _ ?_)
    obtain ⟨o11, h1, h0⟩ := Sh.cont_some h0
    have M11 : ∀ (_ : Unit), o11 = Sum.inr () → ∀ s, Wk 0 s ⟨26, envL [], []⟩ → K8 s := by
      intro _ hq s hw
      subst o11
      try dsimp only at h0
      refine hK8 _ (AW.weaken hw ?_)
      refine AW.seq fun K12 hK12 => ?_
      refine AW.regionO (by rfl) ?_
      refine ao_q (v := (.bool true)) go0 rfl (aq_as rfl) ?_
      refine AO.done (hK12 _ ?_)
      replace h0 := Sh.some_eq h0
      subst r
      exact AW.ret (Exists.intro _ (And.intro (Wk.to (L := [(4, (.bool true))]) ⟨.rfl, trivial⟩) (And.intro rfl rfl)))
    refine AW.block (AW.loopF (σ := Int) (fun n v => laws_eqIntS_L1 p0 p1 n v = some o11) (fun i10 => ⟨26, envL [(0, (.sl (List.map eI p0))), (1, (.sl (List.map eI p1))), (5, (i64 i10))], []⟩) N 0 h1 (Wk.to (L := [(0, (.sl (List.map eI p0))), (1, (.sl (List.map eI p1))), (5, (i64 0))]) ⟨.rfl, .rfl, .rfl, trivial⟩) (fun _ hv => by rw [laws_eqIntS_L1] at hv; cases hv) ?_)
    rintro n i10 h1
    try dsimp only at h1 ⊢
    rw [laws_eqIntS_L1] at h1
    refine AW.seq fun K13 hK13 => ?_
    refine AW.seq fun K14 hK14 => ?_
    refine AW.regionO (by rfl) ?_
    refine ao_q (v := (i64 i10)) go0 rfl (aq_mv rfl) ?_
    refine ao_q (v := (.sl (List.map eI p0))) go0 rfl (aq_mv rfl) ?_
    refine ao_q (v := (i64 (Sh.len p0))) go0 rfl (aq_lens sl23 rfl) ?_
    refine ao_q (v := (.bool (decide (i10 < (Sh.len p0))))) go0 rfl (aq_lt rfl rfl) ?_
    refine AO.done (hK14 _ ?_)
    refine AW.cond' (b := decide (i10 < (Sh.len p0))) rfl (fun b15 => ?_) (fun b15 => ?_)
    · replace h1 := Sh.ite_t b15 h1
      refine AW.skip (hK13 _ ?_)
      refine AW.seq fun K16 hK16 => ?_
      refine AW.block ?_
      refine AW.seq fun K17 hK17 => ?_
      refine AW.draw (by kernel_rfl) (by kernel_rfl) (by rfl) ?_
      refine d_q (v := (.sl (List.map eI p0))) go0 rfl (aq_mv rfl) ?_
      refine d_q (v := (i64 i10)) go0 rfl (aq_mv rfl) ?_
      obtain ⟨c18, gc18, h1⟩ := Sh.bind_some h1
      refine d_q (v := (.iptr (eI c18) 0)) go0 rfl (aq_ixs ei23 rfl rfl gc18 rfl) ?_
      refine d_q (v := (i64 c18)) go0 rfl (aq_ldi ti3 rfl rfl) ?_
      refine d_q (v := (.sl (List.map eI p1))) go0 rfl (aq_mv rfl) ?_
      refine d_q (v := (i64 i10)) go0 rfl (aq_mv rfl) ?_
      obtain ⟨c19, gc19, h1⟩ := Sh.bind_some h1
      refine d_q (v := (.iptr (eI c19) 0)) go0 rfl (aq_ixs ei23 rfl rfl gc19 rfl) ?_
      refine d_q (v := (i64 c19)) go0 rfl (aq_ldi ti3 rfl rfl) ?_
      refine d_q (v := (.bool (!decide (c18 = c19)))) go0 rfl (aq_ne rfl rfl) ?_
      refine d_done (hK17 _ ?_)
      refine AW.cond' (b := !decide (c18 = c19)) rfl (fun b20 => ?_) (fun b20 => ?_)
      · replace h1 := Sh.ite_t b20 h1
        have b21 : decide (c18 = c19) = false := by simpa using b20
        refine AW.seq fun K22 hK22 => ?_
        refine AW.regionO (by rfl) ?_
        refine ao_q (v := (.bool false)) go0 rfl (aq_as rfl) ?_
        refine AO.done (hK22 _ ?_)
        replace h1 := Sh.some_eq h1
        subst o11
        try dsimp only [id] at h0
        replace h0 := Sh.some_eq h0
        subst r
        exact AW.ret (Exists.intro _ (And.intro (Wk.to (L := [(4, (.bool false))]) ⟨.rfl, trivial⟩) (And.intro rfl rfl)))
      · replace h1 := Sh.ite_f b20 h1
        have b23 : decide (c18 = c19) = true := by simpa using b20
        refine AW.skip (hK16 _ ?_)
        refine AW.regionO (by rfl) ?_
        refine ao_q (v := (i64 i10)) go0 rfl (aq_mv rfl) ?_
        refine ao_q (v := (i64 (Sh.w (i10 + 1)))) go0 rfl (aq_add rfl rfl) ?_
        refine ao_q (v := (i64 (Sh.w (i10 + 1)))) go0 rfl (aq_as rfl) ?_
        exact AO.done (Exists.intro (Sh.w (i10 + 1)) (And.intro h1 (Wk.to (L := [(0, (.sl (List.map eI p0))), (1, (.sl (List.map eI p1))), (5, (i64 (Sh.w (i10 + 1))))]) ⟨.rfl, .rfl, .rfl, trivial⟩)))
    · replace h1 := Sh.ite_f b15 h1
      exact AW.exit (M11 () (Sh.some_eq h1).symm _ (Wk.to (L := []) trivial))

set_option maxRecDepth 100000 in
set_option maxHeartbeats 4000000 in
theorem laws_eqCell_ok {N : Nat} {p0 : Cell} {p1 : Cell} {r : Bool} (h0 : laws_eqCell N p0 p1 = some r) : ACalls Try.prog 42 [(.agg [(i64 p0.count), (i64 p0.tag), (.sl (List.map eI p0.fields))]), (.agg [(i64 p1.count), (i64 p1.tag), (.sl (List.map eI p1.fields))])] [] (fun v st => v = (.bool r) ∧ st = []) := by
  unfold laws_eqCell at h0
  refine ACalls.intro Try.func42 rfl (by show 2 ≤ 21; decide) ?_
  show AW _ 0 _ (aret _ 0 Try.f42 _) ⟨21, _, _⟩
  refine AW.weaken (Wk.to (L := [(0, (.agg [(i64 p0.count), (i64 p0.tag), (.sl (List.map eI p0.fields))])), (1, (.agg [(i64 p1.count), (i64 p1.tag), (.sl (List.map eI p1.fields))]))]) ⟨.rfl, .rfl, trivial⟩) ?_
  refine AW.seq fun K1 hK1 => ?_
  refine AW.regionO (by rfl) ?_
  refine ao_box (m := 0) (st' := [⟨0, 58, 3, [[(i64 p0.count), (i64 p0.tag), (.sl (List.map eI p0.fields))]]⟩]) go0 rfl rfl rfl rfl rfl ?_
  refine ao_box (m := 1) (st' := [⟨0, 58, 3, [[(i64 p0.count), (i64 p0.tag), (.sl (List.map eI p0.fields))]]⟩, ⟨0, 58, 3, [[(i64 p1.count), (i64 p1.tag), (.sl (List.map eI p1.fields))]]⟩]) go0 rfl rfl rfl rfl rfl ?_
  refine ao_q (v := (.bool false)) go0 rfl (aq_as rfl) ?_
  refine AO.done (hK1 _ ?_)
  refine AW.seq fun K2 hK2 => ?_
  refine AW.seq fun K3 hK3 => ?_
  refine AW.regionO (by rfl) ?_
  refine ao_q (v := (.ptr 0 0 0 0)) go0 rfl (aq_fap fi58_0 rfl rfl (show 0 + 0 ≤ 3 by decide) rfl) ?_
  refine ao_q (v := (i64 p0.count)) go0 rfl (aq_ldp ti3 rfl rfl rfl rfl) ?_
  refine ao_q (v := (.ptr 1 0 0 0)) go0 rfl (aq_fap fi58_0 rfl rfl (show 0 + 0 ≤ 3 by decide) rfl) ?_
  refine ao_q (v := (i64 p1.count)) go0 rfl (aq_ldp ti3 rfl rfl rfl rfl) ?_
  refine ao_q (v := (.bool (!decide (p0.count = p1.count)))) go0 rfl (aq_ne rfl rfl) ?_
  refine AO.done (hK3 _ ?_)
  refine AW.cond' (b := !decide (p0.count = p1.count)) rfl (fun b4 => ?_) (fun b4 => ?_)
  · replace h0 := Sh.ite_t b4 h0
    have b5 : decide (p0.count = p1.count) = false := by simpa using b4
    refine AW.seq fun K6 hK6 => ?_
    refine AW.regionO (by rfl) ?_
    refine ao_q (v := (.bool false)) go0 rfl (aq_as rfl) ?_
    refine AO.done (hK6 _ ?_)
    replace h0 := Sh.some_eq h0
    subst r
    exact AW.ret (Exists.intro _ (And.intro ((Wk.permk (L := [(4, (.bool false))]) (st' := []) (st1 := []) [] rfl .nil (by decide) rfl rfl .nil ⟨.rfl, trivial⟩).trans (Wk.to (L := [(4, (.bool false))]) ⟨.rfl, trivial⟩)) (And.intro rfl rfl)))
  · replace h0 := Sh.ite_f b4 h0
    have b7 : decide (p0.count = p1.count) = true := by simpa using b4
    refine AW.skip (hK2 _ ?_)
    refine AW.seq fun K8 hK8 => ?_
    refine AW.seq fun K9 hK9 => ?_
    refine AW.regionO (by rfl) ?_
    refine ao_q (v := (.ptr 0 0 0 1)) go0 rfl (aq_fap fi58_1 rfl rfl (show 0 + 1 ≤ 3 by decide) rfl) ?_
    refine ao_q (v := (i64 p0.tag)) go0 rfl (aq_ldp ti3 rfl rfl rfl rfl) ?_
    refine ao_q (v := (.ptr 1 0 0 1)) go0 rfl (aq_fap fi58_1 rfl rfl (show 0 + 1 ≤ 3 by decide) rfl) ?_
    refine ao_q (v := (i64 p1.tag)) go0 rfl (aq_ldp ti3 rfl rfl rfl rfl) ?_
    refine ao_q (v := (.bool (!decide (p0.tag = p1.tag)))) go0 rfl (aq_ne rfl rfl) ?_
    refine AO.done (hK9 _ ?_)
    refine AW.cond' (b := !decide (p0.tag = p1.tag)) rfl (fun b10 => ?_) (fun b10 => ?_)
    · replace h0 := Sh.ite_t b10 h0
      have b11 : decide (p0.tag = p1.tag) = false := by simpa using b10
      refine AW.seq fun K12 hK12 => ?_
      refine AW.regionO (by rfl) ?_
      refine ao_q (v := (.bool false)) go0 rfl (aq_as rfl) ?_
      refine AO.done (hK12 _ ?_)
      replace h0 := Sh.some_eq h0
      subst r
      exact AW.ret (Exists.intro _ (And.intro ((Wk.permk (L := [(4, (.bool false))]) (st' := []) (st1 := []) [] rfl .nil (by decide) rfl rfl .nil ⟨.rfl, trivial⟩).trans (Wk.to (L := [(4, (.bool false))]) ⟨.rfl, trivial⟩)) (And.intro rfl rfl)))
    · replace h0 := Sh.ite_f b10 h0
      have b13 : decide (p0.tag = p1.tag) = true := by simpa using b10
      refine AW.skip (hK8 _ ?_)
      refine AW.seq fun K14 hK14 => ?_
      refine AW.seq fun K15 hK15 => ?_
      refine AW.regionO (by rfl) ?_
      refine ao_q (v := (.ptr 0 0 0 2)) go0 rfl (aq_fap fi58_2 rfl rfl (show 0 + 2 ≤ 3 by decide) rfl) ?_
      refine ao_q (v := (.sl (List.map eI p0.fields))) go0 rfl (aq_ldp ti23 rfl rfl rfl rfl) ?_
      refine ao_q (v := (.ptr 1 0 0 2)) go0 rfl (aq_fap fi58_2 rfl rfl (show 0 + 2 ≤ 3 by decide) rfl) ?_
      refine ao_q (v := (.sl (List.map eI p1.fields))) go0 rfl (aq_ldp ti23 rfl rfl rfl rfl) ?_
      obtain ⟨q16, gq16, h0⟩ := Sh.bind_some h0
      refine ao_call (v' := (.bool q16)) (st' := [⟨0, 58, 3, [[(i64 p0.count), (i64 p0.tag), (.sl (List.map eI p0.fields))]]⟩, ⟨0, 58, 3, [[(i64 p1.count), (i64 p1.tag), (.sl (List.map eI p1.fields))]]⟩]) go0 hb14 (laws_eqIntS_ok gq16) rfl rfl trivial rfl rfl ?_
      refine ao_q (v := (.bool (!q16))) go0 rfl (aq_not rfl) ?_
      refine AO.done (hK15 _ ?_)
      refine AW.cond' (b := !q16) rfl (fun b17 => ?_) (fun b17 => ?_)
      · replace h0 := Sh.ite_t b17 h0
        have b18 : q16 = false := by simpa using b17
        refine AW.seq fun K19 hK19 => ?_
        refine AW.regionO (by rfl) ?_
        refine ao_q (v := (.bool false)) go0 rfl (aq_as rfl) ?_
        refine AO.done (hK19 _ ?_)
        replace h0 := Sh.some_eq h0
        subst r
        exact AW.ret (Exists.intro _ (And.intro ((Wk.permk (L := [(4, (.bool false))]) (st' := []) (st1 := []) [] rfl .nil (by decide) rfl rfl .nil ⟨.rfl, trivial⟩).trans (Wk.to (L := [(4, (.bool false))]) ⟨.rfl, trivial⟩)) (And.intro rfl rfl)))
      · replace h0 := Sh.ite_f b17 h0
        have b20 : q16 = true := by simpa using b17
        refine AW.skip (hK14 _ ?_)
        refine AW.seq fun K21 hK21 => ?_
        refine AW.regionO (by rfl) ?_
        refine ao_q (v := (.bool true)) go0 rfl (aq_as rfl) ?_
        refine AO.done (hK21 _ ?_)
        replace h0 := Sh.some_eq h0
        subst r
        exact AW.ret (Exists.intro _ (And.intro ((Wk.permk (L := [(4, (.bool true))]) (st' := []) (st1 := []) [] rfl .nil (by decide) rfl rfl .nil ⟨.rfl, trivial⟩).trans (Wk.to (L := [(4, (.bool true))]) ⟨.rfl, trivial⟩)) (And.intro rfl rfl)))

set_option maxRecDepth 100000 in
set_option maxHeartbeats 4000000 in
theorem laws_eqCellS_ok {N : Nat} {p0 : (List Cell)} {p1 : (List Cell)} {r : Bool} (h0 : laws_eqCellS N p0 p1 = some r) : ACalls Try.prog 15 [(.sl (List.map eCell p0)), (.sl (List.map eCell p1))] [] (fun v st => v = (.bool r) ∧ st = []) := by
  unfold laws_eqCellS at h0
  refine ACalls.intro Try.func15 rfl (by show 2 ≤ 27; decide) ?_
  show AW _ 0 _ (aret _ 0 Try.f15 _) ⟨27, _, _⟩
  refine AW.weaken (Wk.to (L := [(0, (.sl (List.map eCell p0))), (1, (.sl (List.map eCell p1)))]) ⟨.rfl, .rfl, trivial⟩) ?_
  refine AW.seq fun K1 hK1 => ?_
  refine AW.regionO (by rfl) ?_
  refine ao_q (v := (.bool false)) go0 rfl (aq_as rfl) ?_
  refine AO.done (hK1 _ ?_)
  refine AW.seq fun K2 hK2 => ?_
  refine AW.seq fun K3 hK3 => ?_
  refine AW.regionO (by rfl) ?_
  refine ao_q (v := (.sl (List.map eCell p0))) go0 rfl (aq_mv rfl) ?_
  refine ao_q (v := (i64 (Sh.len p0))) go0 rfl (aq_lens sl26 rfl) ?_
  refine ao_q (v := (.sl (List.map eCell p1))) go0 rfl (aq_mv rfl) ?_
  refine ao_q (v := (i64 (Sh.len p1))) go0 rfl (aq_lens sl26 rfl) ?_
  refine ao_q (v := (.bool (!decide ((Sh.len p0) = (Sh.len p1))))) go0 rfl (aq_ne rfl rfl) ?_
  refine AO.done (hK3 _ ?_)
  refine AW.cond' (b := !decide ((Sh.len p0) = (Sh.len p1))) rfl (fun b4 => ?_) (fun b4 => ?_)
  · replace h0 := Sh.ite_t b4 h0
    have b5 : decide ((Sh.len p0) = (Sh.len p1)) = false := by simpa using b4
    refine AW.seq fun K6 hK6 => ?_
    refine AW.regionO (by rfl) ?_
    refine ao_q (v := (.bool false)) go0 rfl (aq_as rfl) ?_
    refine AO.done (hK6 _ ?_)
    replace h0 := Sh.some_eq h0
    subst r
    exact AW.ret (Exists.intro _ (And.intro (Wk.to (L := [(4, (.bool false))]) ⟨.rfl, trivial⟩) (And.intro rfl rfl)))
  · replace h0 := Sh.ite_f b4 h0
    have b7 : decide ((Sh.len p0) = (Sh.len p1)) = true := by simpa using b4
    refine AW.skip (hK2 _ ?_)
    refine AW.seq fun K8 hK8 => ?_
    refine AW.seq fun K9 hK9 => ?_
    refine AW.regionO (by rfl) ?_
    refine ao_q (v := (i64 0)) go0 rfl (aq_as rfl) ?_
    refine AO.done (hK9 _ ?_)
    obtain ⟨o11, h1, h0⟩ := Sh.cont_some h0
    have M11 : ∀ (_ : Unit), o11 = Sum.inr () → ∀ s, Wk 0 s ⟨27, envL [], []⟩ → K8 s := by
      intro _ hq s hw
      subst o11
      try dsimp only at h0
      refine hK8 _ (AW.weaken hw ?_)
      refine AW.seq fun K12 hK12 => ?_
      refine AW.regionO (by rfl) ?_
      refine ao_q (v := (.bool true)) go0 rfl (aq_as rfl) ?_
      refine AO.done (hK12 _ ?_)
      replace h0 := Sh.some_eq h0
      subst r
      exact AW.ret (Exists.intro _ (And.intro (Wk.to (L := [(4, (.bool true))]) ⟨.rfl, trivial⟩) (And.intro rfl rfl)))
    refine AW.block (AW.loopF (σ := Int) (fun n v => laws_eqCellS_L1 N p0 p1 n v = some o11) (fun i10 => ⟨27, envL [(0, (.sl (List.map eCell p0))), (1, (.sl (List.map eCell p1))), (5, (i64 i10))], []⟩) N 0 h1 (Wk.to (L := [(0, (.sl (List.map eCell p0))), (1, (.sl (List.map eCell p1))), (5, (i64 0))]) ⟨.rfl, .rfl, .rfl, trivial⟩) (fun _ hv => by rw [laws_eqCellS_L1] at hv; cases hv) ?_)
    rintro n i10 h1
    try dsimp only at h1 ⊢
    rw [laws_eqCellS_L1] at h1
    refine AW.seq fun K13 hK13 => ?_
    refine AW.seq fun K14 hK14 => ?_
    refine AW.regionO (by rfl) ?_
    refine ao_q (v := (i64 i10)) go0 rfl (aq_mv rfl) ?_
    refine ao_q (v := (.sl (List.map eCell p0))) go0 rfl (aq_mv rfl) ?_
    refine ao_q (v := (i64 (Sh.len p0))) go0 rfl (aq_lens sl26 rfl) ?_
    refine ao_q (v := (.bool (decide (i10 < (Sh.len p0))))) go0 rfl (aq_lt rfl rfl) ?_
    refine AO.done (hK14 _ ?_)
    refine AW.cond' (b := decide (i10 < (Sh.len p0))) rfl (fun b15 => ?_) (fun b15 => ?_)
    · replace h1 := Sh.ite_t b15 h1
      refine AW.skip (hK13 _ ?_)
      refine AW.seq fun K16 hK16 => ?_
      refine AW.block ?_
      refine AW.seq fun K17 hK17 => ?_
      refine AW.draw (by kernel_rfl) (by kernel_rfl) (by rfl) ?_
      refine d_q (v := (.sl (List.map eCell p0))) go0 rfl (aq_mv rfl) ?_
      refine d_q (v := (i64 i10)) go0 rfl (aq_mv rfl) ?_
      obtain ⟨c18, gc18, h1⟩ := Sh.bind_some h1
      refine d_q (v := (.iptr (eCell c18) 0)) go0 rfl (aq_ixs ei26 rfl rfl gc18 rfl) ?_
      refine d_q (v := (.agg [(i64 c18.count), (i64 c18.tag), (.sl (List.map eI c18.fields))])) go0 rfl (aq_ldia ti58 rfl (show 0 + 3 ≤ 3 by decide) rfl) ?_
      refine d_q (v := (.sl (List.map eCell p1))) go0 rfl (aq_mv rfl) ?_
      refine d_q (v := (i64 i10)) go0 rfl (aq_mv rfl) ?_
      obtain ⟨c19, gc19, h1⟩ := Sh.bind_some h1
      refine d_q (v := (.iptr (eCell c19) 0)) go0 rfl (aq_ixs ei26 rfl rfl gc19 rfl) ?_
      refine d_q (v := (.agg [(i64 c19.count), (i64 c19.tag), (.sl (List.map eI c19.fields))])) go0 rfl (aq_ldia ti58 rfl (show 0 + 3 ≤ 3 by decide) rfl) ?_
      obtain ⟨q20, gq20, h1⟩ := Sh.bind_some h1
      refine d_call (v := (.bool q20)) go0 hb42 (laws_eqCell_ok gq20) rfl rfl rfl ?_
      refine d_q (v := (.bool (!q20))) go0 rfl (aq_not rfl) ?_
      refine d_done (hK17 _ ?_)
      refine AW.cond' (b := !q20) rfl (fun b21 => ?_) (fun b21 => ?_)
      · replace h1 := Sh.ite_t b21 h1
        have b22 : q20 = false := by simpa using b21
        refine AW.seq fun K23 hK23 => ?_
        refine AW.regionO (by rfl) ?_
        refine ao_q (v := (.bool false)) go0 rfl (aq_as rfl) ?_
        refine AO.done (hK23 _ ?_)
        replace h1 := Sh.some_eq h1
        subst o11
        try dsimp only [id] at h0
        replace h0 := Sh.some_eq h0
        subst r
        exact AW.ret (Exists.intro _ (And.intro (Wk.to (L := [(4, (.bool false))]) ⟨.rfl, trivial⟩) (And.intro rfl rfl)))
      · replace h1 := Sh.ite_f b21 h1
        have b24 : q20 = true := by simpa using b21
        refine AW.skip (hK16 _ ?_)
        refine AW.regionO (by rfl) ?_
        refine ao_q (v := (i64 i10)) go0 rfl (aq_mv rfl) ?_
        refine ao_q (v := (i64 (Sh.w (i10 + 1)))) go0 rfl (aq_add rfl rfl) ?_
        refine ao_q (v := (i64 (Sh.w (i10 + 1)))) go0 rfl (aq_as rfl) ?_
        exact AO.done (Exists.intro (Sh.w (i10 + 1)) (And.intro h1 (Wk.to (L := [(0, (.sl (List.map eCell p0))), (1, (.sl (List.map eCell p1))), (5, (i64 (Sh.w (i10 + 1))))]) ⟨.rfl, .rfl, .rfl, trivial⟩)))
    · replace h1 := Sh.ite_f b15 h1
      exact AW.exit (M11 () (Sh.some_eq h1).symm _ (Wk.to (L := []) trivial))

set_option maxRecDepth 100000 in
set_option maxHeartbeats 4000000 in
theorem laws_markIntS_ok {N : Nat} {s0 : (List Int)} {p1 : Int} {r : Int × (List Int)} (h0 : laws_markIntS N s0 p1 = some r) : ACalls Try.prog 17 [(.own 0 0 (List.length s0)), (i64 p1)] [⟨0, 3, 1, List.map eI s0⟩] (fun v st => v = (i64 r.1) ∧ st = [⟨0, 3, 1, List.map eI r.2⟩]) := by
  unfold laws_markIntS at h0
  refine ACalls.intro Try.func17 rfl (by show 2 ≤ 19; decide) ?_
  show AW _ 1 _ (aret _ 1 Try.f17 _) ⟨19, _, _⟩
  refine AW.weaken (Wk.to (L := [(0, (.own 0 0 (List.length s0))), (1, (i64 p1))]) ⟨.rfl, .rfl, trivial⟩) ?_
  refine AW.seq fun K1 hK1 => ?_
  refine AW.regionO (by rfl) ?_
  refine ao_q (v := (i64 0)) go0 rfl (aq_as rfl) ?_
  refine AO.done (hK1 _ ?_)
  refine AW.seq fun K2 hK2 => ?_
  refine AW.seq fun K3 hK3 => ?_
  refine AW.regionO (by rfl) ?_
  refine ao_q (v := (i64 0)) go0 rfl (aq_as rfl) ?_
  refine AO.done (hK3 _ ?_)
  obtain ⟨o9, h1, h0⟩ := Sh.bind_some h0
  have M9 : ∀ (k7 : Int) (l8 : (List Int)), o9 = (k7, l8) → ∀ s, Wk 1 s ⟨19, envL [(1, (i64 k7))], [⟨0, 3, 1, List.map eI l8⟩]⟩ → K2 s := by
    intro k7 l8 hq s hw
    subst o9
    try dsimp only at h0
    refine hK2 _ (AW.weaken hw ?_)
    refine AW.seq fun K10 hK10 => ?_
    refine AW.regionO (by rfl) ?_
    refine ao_q (v := (i64 k7)) go0 rfl (aq_mv rfl) ?_
    refine ao_q (v := (i64 k7)) go0 rfl (aq_as rfl) ?_
    refine AO.done (hK10 _ ?_)
    replace h0 := Sh.some_eq h0
    subst r
    exact AW.ret (Exists.intro _ (And.intro (Wk.to (L := [(4, (i64 k7))]) ⟨.rfl, trivial⟩) (And.intro rfl rfl)))
  refine AW.block (AW.loopF (σ := Int × Int × (List Int)) (fun n v => laws_markIntS_L1  n v.1 v.2.1 v.2.2 = some o9) (fun (k4, i5, l6) => ⟨19, envL [(0, (.own 0 0 (List.length l6))), (1, (i64 k4)), (5, (i64 i5))], [⟨0, 3, 1, List.map eI l6⟩]⟩) N (p1, 0, s0) h1 (Wk.to (L := [(0, (.own 0 0 (List.length s0))), (1, (i64 p1)), (5, (i64 0))]) ⟨.rfl, .rfl, .rfl, trivial⟩) (fun _ hv => by rw [laws_markIntS_L1] at hv; cases hv) ?_)
  rintro n ⟨k4, i5, l6⟩ h1
  try dsimp only at h1 ⊢
  rw [laws_markIntS_L1] at h1
  refine AW.seq fun K11 hK11 => ?_
  refine AW.seq fun K12 hK12 => ?_
  refine AW.regionO (by rfl) ?_
  refine ao_q (v := (i64 i5)) go0 rfl (aq_mv rfl) ?_
  refine ao_q (v := (.own 0 0 (List.length l6))) go0 rfl (aq_mv rfl) ?_
  refine ao_q (v := (i64 (Sh.len l6))) go0 rfl (aq_leno sl23 rfl rfl rfl) ?_
  refine ao_q (v := (.bool (decide (i5 < (Sh.len l6))))) go0 rfl (aq_lt rfl rfl) ?_
  refine AO.done (hK12 _ ?_)
  refine AW.cond' (b := decide (i5 < (Sh.len l6))) rfl (fun b13 => ?_) (fun b13 => ?_)
  · replace h1 := Sh.ite_t b13 h1
    refine AW.skip (hK11 _ ?_)
    refine AW.seq fun K14 hK14 => ?_
    refine AW.block ?_
    refine AW.seq fun K15 hK15 => ?_
    refine AW.regionO (by rfl) ?_
    refine ao_q (v := (.own 0 0 (List.length l6))) go0 rfl (aq_mv rfl) ?_
    refine ao_q (v := (i64 i5)) go0 rfl (aq_mv rfl) ?_
    refine ao_q (v := (i64 k4)) go0 rfl (aq_mv rfl) ?_
    obtain ⟨c16, gc16, h1⟩ := Sh.bind_some h1
    refine ao_q (v := (.ptr 0 0 (Int.toNat i5) 0)) go0 rfl (aq_ixo ei23 rfl rfl rfl rfl gc16) ?_
    refine ao_stl (st' := [⟨0, 3, 1, List.map eI (Sh.put l6 i5 k4)⟩]) (u' := k4) go0 ti3 rfl rfl gc16 rfl rfl rfl (show 0 + 1 ≤ 1 by decide) rfl rfl ?_
    refine AO.done (hK15 _ ?_)
    refine AW.regionO (by rfl) ?_
    refine ao_q (v := (i64 k4)) go0 rfl (aq_mv rfl) ?_
    refine ao_q (v := (i64 (Sh.w (k4 + 1)))) go0 rfl (aq_add rfl rfl) ?_
    refine ao_q (v := (i64 (Sh.w (k4 + 1)))) go0 rfl (aq_as rfl) ?_
    refine AO.done (hK14 _ ?_)
    refine AW.regionO (by rfl) ?_
    refine ao_q (v := (i64 i5)) go0 rfl (aq_mv rfl) ?_
    refine ao_q (v := (i64 (Sh.w (i5 + 1)))) go0 rfl (aq_add rfl rfl) ?_
    refine ao_q (v := (i64 (Sh.w (i5 + 1)))) go0 rfl (aq_as rfl) ?_
    exact AO.done (Exists.intro (Sh.w (k4 + 1), Sh.w (i5 + 1), Sh.put l6 i5 k4) (And.intro h1 (Wk.to (L := [(0, (.own 0 0 (List.length (Sh.put l6 i5 k4)))), (1, (i64 (Sh.w (k4 + 1)))), (5, (i64 (Sh.w (i5 + 1))))]) ⟨(.len (by simp only [Sh.put_len])), .rfl, .rfl, trivial⟩)))
  · replace h1 := Sh.ite_f b13 h1
    exact AW.exit (M9 k4 l6 (Sh.some_eq h1).symm _ (Wk.to (L := [(1, (i64 k4))]) ⟨.rfl, trivial⟩))

set_option maxRecDepth 100000 in
set_option maxHeartbeats 4000000 in
theorem laws_markCellS_ok {N : Nat} {s0 : (List Cell)} {p1 : Int} {r : Int × (List Cell)} (h0 : laws_markCellS N s0 p1 = some r) : ACalls Try.prog 16 [(.own 0 0 (List.length s0)), (i64 p1)] [⟨0, 58, 3, List.map (eCellD 3) s0⟩] (fun v st => v = (i64 r.1) ∧ st = [⟨0, 58, 3, List.map (eCellD 3) r.2⟩]) := by
  unfold laws_markCellS at h0
  refine ACalls.intro Try.func16 rfl (by show 2 ≤ 34; decide) ?_
  show AW _ 1 _ (aret _ 1 Try.f16 _) ⟨34, _, _⟩
  refine AW.weaken (Wk.to (L := [(0, (.own 0 0 (List.length s0))), (1, (i64 p1))]) ⟨.rfl, .rfl, trivial⟩) ?_
  refine AW.seq fun K1 hK1 => ?_
  refine AW.regionO (by rfl) ?_
  refine ao_q (v := (i64 0)) go0 rfl (aq_as rfl) ?_
  refine AO.done (hK1 _ ?_)
  refine AW.seq fun K2 hK2 => ?_
  refine AW.seq fun K3 hK3 => ?_
  refine AW.regionO (by rfl) ?_
  refine ao_q (v := (i64 0)) go0 rfl (aq_as rfl) ?_
  refine AO.done (hK3 _ ?_)
  obtain ⟨o9, h1, h0⟩ := Sh.bind_some h0
  have M9 : ∀ (k7 : Int) (l8 : (List Cell)), o9 = (k7, l8) → ∀ s, Wk 1 s ⟨34, envL [(1, (i64 k7))], [⟨0, 58, 3, List.map (eCellD 3) l8⟩]⟩ → K2 s := by
    intro k7 l8 hq s hw
    subst o9
    try dsimp only at h0
    refine hK2 _ (AW.weaken hw ?_)
    refine AW.seq fun K10 hK10 => ?_
    refine AW.regionO (by rfl) ?_
    refine ao_q (v := (i64 k7)) go0 rfl (aq_mv rfl) ?_
    refine ao_q (v := (i64 k7)) go0 rfl (aq_as rfl) ?_
    refine AO.done (hK10 _ ?_)
    replace h0 := Sh.some_eq h0
    subst r
    exact AW.ret (Exists.intro _ (And.intro (Wk.to (L := [(4, (i64 k7))]) ⟨.rfl, trivial⟩) (And.intro rfl rfl)))
  refine AW.block (AW.loopF (σ := Int × Int × (List Cell)) (fun n v => laws_markCellS_L1 N n v.1 v.2.1 v.2.2 = some o9) (fun (k4, i5, l6) => ⟨34, envL [(0, (.own 0 0 (List.length l6))), (1, (i64 k4)), (5, (i64 i5))], [⟨0, 58, 3, List.map (eCellD 3) l6⟩]⟩) N (p1, 0, s0) h1 (Wk.to (L := [(0, (.own 0 0 (List.length s0))), (1, (i64 p1)), (5, (i64 0))]) ⟨.rfl, .rfl, .rfl, trivial⟩) (fun _ hv => by rw [laws_markCellS_L1] at hv; cases hv) ?_)
  rintro n ⟨k4, i5, l6⟩ h1
  try dsimp only at h1 ⊢
  rw [laws_markCellS_L1] at h1
  refine AW.seq fun K11 hK11 => ?_
  refine AW.seq fun K12 hK12 => ?_
  refine AW.regionO (by rfl) ?_
  refine ao_q (v := (i64 i5)) go0 rfl (aq_mv rfl) ?_
  refine ao_q (v := (.own 0 0 (List.length l6))) go0 rfl (aq_mv rfl) ?_
  refine ao_q (v := (i64 (Sh.len l6))) go0 rfl (aq_leno sl26 rfl rfl rfl) ?_
  refine ao_q (v := (.bool (decide (i5 < (Sh.len l6))))) go0 rfl (aq_lt rfl rfl) ?_
  refine AO.done (hK12 _ ?_)
  refine AW.cond' (b := decide (i5 < (Sh.len l6))) rfl (fun b13 => ?_) (fun b13 => ?_)
  · replace h1 := Sh.ite_t b13 h1
    refine AW.skip (hK11 _ ?_)
    refine AW.seq fun K14 hK14 => ?_
    refine AW.block ?_
    refine AW.seq fun K15 hK15 => ?_
    refine AW.regionO (by rfl) ?_
    refine ao_q (v := (.own 0 0 (List.length l6))) go0 rfl (aq_mv rfl) ?_
    refine ao_q (v := (i64 i5)) go0 rfl (aq_mv rfl) ?_
    refine ao_q (v := (i64 k4)) go0 rfl (aq_mv rfl) ?_
    obtain ⟨c16, gc16, h1⟩ := Sh.bind_some h1
    refine ao_q (v := (.ptr 0 0 (Int.toNat i5) 0)) go0 rfl (aq_ixo ei26 rfl rfl rfl rfl gc16) ?_
    refine ao_q (v := (.ptr 0 0 (Int.toNat i5) 0)) go0 rfl (aq_fap fi58_0 rfl rfl (show 0 + 0 ≤ 3 by decide) rfl) ?_
    refine ao_stl (st' := [⟨0, 58, 3, List.map (eCellD 3) (Sh.put l6 i5 (Cell.mk k4 c16.tag c16.fields))⟩]) (u' := (Cell.mk k4 c16.tag c16.fields)) go0 ti3 rfl rfl gc16 rfl rfl rfl (show 0 + 1 ≤ 3 by decide) rfl rfl ?_
    refine AO.done (hK15 _ ?_)
    refine AW.seq fun K17 hK17 => ?_
    refine AW.regionO (by rfl) ?_
    refine ao_q (v := (i64 k4)) go0 rfl (aq_mv rfl) ?_
    refine ao_q (v := (i64 (Sh.w (k4 + 1)))) go0 rfl (aq_add rfl rfl) ?_
    refine ao_q (v := (i64 (Sh.w (k4 + 1)))) go0 rfl (aq_as rfl) ?_
    refine AO.done (hK17 _ ?_)
    refine AW.seq fun K18 hK18 => ?_
    refine AW.regionO (by rfl) ?_
    refine ao_q (v := (.own 0 0 (List.length l6))) go0 rfl (aq_mv rfl) ?_
    refine ao_q (v := (i64 i5)) go0 rfl (aq_mv rfl) ?_
    refine ao_q (v := (i64 (Sh.w (k4 + 1)))) go0 rfl (aq_mv rfl) ?_
    obtain ⟨c19, gc19, h1⟩ := Sh.bind_some h1
    refine ao_q (v := (.ptr 0 0 (Int.toNat i5) 0)) go0 rfl (aq_ixo ei26 rfl rfl rfl (by simp only [Sh.put_len]) gc19) ?_
    refine ao_q (v := (.ptr 0 0 (Int.toNat i5) 1)) go0 rfl (aq_fap fi58_1 rfl rfl (show 0 + 1 ≤ 3 by decide) rfl) ?_
    refine ao_stl (st' := [⟨0, 58, 3, List.map (eCellD 3) (Sh.put (Sh.put l6 i5 (Cell.mk k4 c16.tag c16.fields)) i5 (Cell.mk c19.count (Sh.w (k4 + 1)) c19.fields))⟩]) (u' := (Cell.mk c19.count (Sh.w (k4 + 1)) c19.fields)) go0 ti3 rfl rfl gc19 rfl rfl rfl (show 1 + 1 ≤ 3 by decide) rfl rfl ?_
    refine AO.done (hK18 _ ?_)
    refine AW.seq fun K20 hK20 => ?_
    refine AW.regionO (by rfl) ?_
    refine ao_q (v := (i64 (Sh.w (k4 + 1)))) go0 rfl (aq_mv rfl) ?_
    refine ao_q (v := (i64 (Sh.w ((Sh.w (k4 + 1)) + 1)))) go0 rfl (aq_add rfl rfl) ?_
    refine ao_q (v := (i64 (Sh.w ((Sh.w (k4 + 1)) + 1)))) go0 rfl (aq_as rfl) ?_
    refine AO.done (hK20 _ ?_)
    refine AW.regionO (by rfl) ?_
    refine ao_q (v := (.own 0 0 (List.length l6))) go0 rfl (aq_mv rfl) ?_
    refine ao_q (v := (i64 i5)) go0 rfl (aq_mv rfl) ?_
    obtain ⟨c21, gc21, h1⟩ := Sh.bind_some h1
    refine ao_q (v := (.ptr 0 0 (Int.toNat i5) 0)) go0 rfl (aq_ixo ei26 rfl rfl rfl (by simp only [Sh.put_len]) gc21) ?_
    refine ao_q (v := (.ptr 0 0 (Int.toNat i5) 2)) go0 rfl (aq_fap fi58_2 rfl rfl (show 0 + 2 ≤ 3 by decide) rfl) ?_
    refine AO.weaken (Wk.expel (id := 0) (j := 2) (i := i5) (c := c21) (ys := c21.fields) (encY := eI) (x := [(i64 c21.count), (i64 c21.tag), (.dv 3 1 (List.map eI c21.fields))]) (x' := [(i64 c21.count), (i64 c21.tag), (.own 1 0 (List.length c21.fields))]) (st' := [⟨0, 58, 3, hole (Sh.put (Sh.put l6 i5 (Cell.mk k4 c16.tag c16.fields)) i5 (Cell.mk c19.count (Sh.w (k4 + 1)) c19.fields)) (eCellD 3) i5 [(i64 c21.count), (i64 c21.tag), (.own 1 0 (List.length c21.fields))]⟩, ⟨0, 3, 1, List.map eI c21.fields⟩]) rfl gc21 rfl rfl rfl rfl rfl) ?_
    refine ao_q (v := (.own 1 0 (List.length c21.fields))) go0 rfl (aq_ldp ti23 rfl rfl (hole_get gc21) rfl) ?_
    refine ao_q (v := (i64 (Sh.w ((Sh.w (k4 + 1)) + 1)))) go0 rfl (aq_mv rfl) ?_
    obtain ⟨q22, gq22, h1⟩ := Sh.bind_some h1
    refine ao_callsL (rowsP := [⟨0, 3, 1, List.map eI c21.fields⟩]) (rows0 := [⟨0, 3, 1, List.map eI c21.fields⟩]) (rows1 := [⟨0, 3, 1, List.map eI q22.2⟩]) (rows2 := []) (rows1' := [⟨0, 3, 1, List.map eI q22.2⟩]) (rows2' := []) (st' := [⟨0, 58, 3, hole (Sh.put (Sh.put l6 i5 (Cell.mk k4 c16.tag c16.fields)) i5 (Cell.mk c19.count (Sh.w (k4 + 1)) c19.fields)) (eCellD 3) i5 [(i64 c21.count), (i64 c21.tag), (.own 1 0 (List.length c21.fields))]⟩, ⟨0, 3, 1, List.map eI q22.2⟩]) (v' := (i64 q22.1)) [1] go0 hb17 (laws_markIntS_ok gq22) rfl (by decide) rfl rfl (.pure (pure_map fun _ => rfl) .nil) rfl rfl (.pure (pure_map fun _ => rfl) .nil) .nil rfl rfl (fun hln => ?_)
    have ln23 : List.length q22.2 = List.length c21.fields := by simpa only [List.length_map] using hln 0 _ _ rfl rfl rfl
    refine AO.weaken (Wk.take (id := 0) (m := 1) (j := 2) (i := i5) (c := c21) (ys := q22.2) (encY := eI) (x' := [(i64 c21.count), (i64 c21.tag), (.dv 3 1 (List.map eI q22.2))]) (st' := [⟨0, 58, 3, hole (Sh.put (Sh.put l6 i5 (Cell.mk k4 c16.tag c16.fields)) i5 (Cell.mk c19.count (Sh.w (k4 + 1)) c19.fields)) (eCellD 3) i5 [(i64 c21.count), (i64 c21.tag), (.dv 3 1 (List.map eI q22.2))]⟩, ⟨1, 3, 1, []⟩]) rfl gc21 rfl rfl (by first | (simp only [Sh.put_len]; done) | (simp only [Sh.put_len]; omega) | omega) (by decide) (show 1 ≤ 1 by decide) (fun _ => rfl) rfl rfl) ?_
    refine AO.weaken (Wk.filled (id := 0) (i := i5) (u := (Cell.mk c21.count c21.tag q22.2)) (st' := [⟨0, 58, 3, List.map (eCellD 3) (Sh.put (Sh.put (Sh.put l6 i5 (Cell.mk k4 c16.tag c16.fields)) i5 (Cell.mk c19.count (Sh.w (k4 + 1)) c19.fields)) i5 (Cell.mk c21.count c21.tag q22.2))⟩, ⟨1, 3, 1, []⟩]) rfl rfl rfl) ?_
    refine ao_q (v := (i64 q22.1)) go0 rfl (aq_as rfl) ?_
    refine AO.done (hK14 _ ?_)
    refine AW.regionO (by rfl) ?_
    refine ao_q (v := (i64 i5)) go0 rfl (aq_mv rfl) ?_
    refine ao_q (v := (i64 (Sh.w (i5 + 1)))) go0 rfl (aq_add rfl rfl) ?_
    refine ao_q (v := (i64 (Sh.w (i5 + 1)))) go0 rfl (aq_as rfl) ?_
    exact AO.done (Exists.intro (q22.1, Sh.w (i5 + 1), Sh.put (Sh.put (Sh.put l6 i5 (Cell.mk k4 c16.tag c16.fields)) i5 (Cell.mk c19.count (Sh.w (k4 + 1)) c19.fields)) i5 (Cell.mk c21.count c21.tag q22.2)) (And.intro h1 (by refine Wk.trans (Wk.permk (L := [(0, (.own 0 0 (List.length l6))), (1, (i64 q22.1)), (5, (i64 (Sh.w (i5 + 1))))]) (st' := [⟨0, 58, 3, List.map (eCellD 3) (Sh.put (Sh.put (Sh.put l6 i5 (Cell.mk k4 c16.tag c16.fields)) i5 (Cell.mk c19.count (Sh.w (k4 + 1)) c19.fields)) i5 (Cell.mk c21.count c21.tag q22.2))⟩]) (st1 := [⟨0, 58, 3, List.map (eCellD 3) (Sh.put (Sh.put (Sh.put l6 i5 (Cell.mk k4 c16.tag c16.fields)) i5 (Cell.mk c19.count (Sh.w (k4 + 1)) c19.fields)) i5 (Cell.mk c21.count c21.tag q22.2))⟩]) [0] rfl (.deep (pure_mapD fun _ => rfl) .nil) (by decide) rfl rfl (.deep (pure_mapD fun _ => rfl) .nil) ⟨.rfl, .rfl, .rfl, trivial⟩) ?_; exact Wk.to (L := [(0, (.own 0 0 (List.length (Sh.put (Sh.put (Sh.put l6 i5 (Cell.mk k4 c16.tag c16.fields)) i5 (Cell.mk c19.count (Sh.w (k4 + 1)) c19.fields)) i5 (Cell.mk c21.count c21.tag q22.2))))), (1, (i64 q22.1)), (5, (i64 (Sh.w (i5 + 1))))]) ⟨(.len (by first | (simp only [Sh.put_len]; done) | (simp only [Sh.put_len]; omega) | omega)), .rfl, .rfl, trivial⟩)))
  · replace h1 := Sh.ite_f b13 h1
    exact AW.exit (M9 k4 l6 (Sh.some_eq h1).symm _ (Wk.to (L := [(1, (i64 k4))]) ⟨.rfl, trivial⟩))

set_option maxRecDepth 100000 in
set_option maxHeartbeats 4000000 in
theorem laws_heldIntS_ok {N : Nat} {p0 : (List Int)} {p1 : Int} {r : Int} (h0 : laws_heldIntS N p0 p1 = some r) : ACalls Try.prog 18 [(.sl (List.map eI p0)), (i64 p1)] [] (fun v st => v = (i64 r) ∧ st = []) := by
  unfold laws_heldIntS at h0
  refine ACalls.intro Try.func18 rfl (by show 2 ≤ 21; decide) ?_
  show AW _ 0 _ (aret _ 0 Try.f18 _) ⟨21, _, _⟩
  refine AW.weaken (Wk.to (L := [(0, (.sl (List.map eI p0))), (1, (i64 p1))]) ⟨.rfl, .rfl, trivial⟩) ?_
  refine AW.seq fun K1 hK1 => ?_
  refine AW.regionO (by rfl) ?_
  refine ao_q (v := (i64 0)) go0 rfl (aq_as rfl) ?_
  refine AO.done (hK1 _ ?_)
  refine AW.seq fun K2 hK2 => ?_
  refine AW.seq fun K3 hK3 => ?_
  refine AW.regionO (by rfl) ?_
  refine ao_q (v := (i64 0)) go0 rfl (aq_as rfl) ?_
  refine AO.done (hK3 _ ?_)
  obtain ⟨o7, h1, h0⟩ := Sh.cont_some h0
  have M7 : ∀ (k6 : Int), o7 = Sum.inr k6 → ∀ s, Wk 0 s ⟨21, envL [(1, (i64 k6))], []⟩ → K2 s := by
    intro k6 hq s hw
    subst o7
    try dsimp only at h0
    refine hK2 _ (AW.weaken hw ?_)
    refine AW.seq fun K8 hK8 => ?_
    refine AW.regionO (by rfl) ?_
    refine ao_q (v := (i64 k6)) go0 rfl (aq_mv rfl) ?_
    refine ao_q (v := (i64 k6)) go0 rfl (aq_as rfl) ?_
    refine AO.done (hK8 _ ?_)
    replace h0 := Sh.some_eq h0
    subst r
    exact AW.ret (Exists.intro _ (And.intro (Wk.to (L := [(4, (i64 k6))]) ⟨.rfl, trivial⟩) (And.intro rfl rfl)))
  refine AW.block (AW.loopF (σ := Int × Int) (fun n v => laws_heldIntS_L1 p0 n v.1 v.2 = some o7) (fun (k4, i5) => ⟨21, envL [(0, (.sl (List.map eI p0))), (1, (i64 k4)), (5, (i64 i5))], []⟩) N (p1, 0) h1 (Wk.to (L := [(0, (.sl (List.map eI p0))), (1, (i64 p1)), (5, (i64 0))]) ⟨.rfl, .rfl, .rfl, trivial⟩) (fun _ hv => by rw [laws_heldIntS_L1] at hv; cases hv) ?_)
  rintro n ⟨k4, i5⟩ h1
  try dsimp only at h1 ⊢
  rw [laws_heldIntS_L1] at h1
  refine AW.seq fun K9 hK9 => ?_
  refine AW.seq fun K10 hK10 => ?_
  refine AW.regionO (by rfl) ?_
  refine ao_q (v := (i64 i5)) go0 rfl (aq_mv rfl) ?_
  refine ao_q (v := (.sl (List.map eI p0))) go0 rfl (aq_mv rfl) ?_
  refine ao_q (v := (i64 (Sh.len p0))) go0 rfl (aq_lens sl23 rfl) ?_
  refine ao_q (v := (.bool (decide (i5 < (Sh.len p0))))) go0 rfl (aq_lt rfl rfl) ?_
  refine AO.done (hK10 _ ?_)
  refine AW.cond' (b := decide (i5 < (Sh.len p0))) rfl (fun b11 => ?_) (fun b11 => ?_)
  · replace h1 := Sh.ite_t b11 h1
    refine AW.skip (hK9 _ ?_)
    refine AW.seq fun K12 hK12 => ?_
    refine AW.block ?_
    refine AW.seq fun K13 hK13 => ?_
    refine AW.seq fun K14 hK14 => ?_
    refine AW.regionO (by rfl) ?_
    refine ao_q (v := (.sl (List.map eI p0))) go0 rfl (aq_mv rfl) ?_
    refine ao_q (v := (i64 i5)) go0 rfl (aq_mv rfl) ?_
    obtain ⟨c15, gc15, h1⟩ := Sh.bind_some h1
    refine ao_q (v := (.iptr (eI c15) 0)) go0 rfl (aq_ixs ei23 rfl rfl gc15 rfl) ?_
    refine ao_q (v := (i64 c15)) go0 rfl (aq_ldi ti3 rfl rfl) ?_
    refine ao_q (v := (i64 k4)) go0 rfl (aq_mv rfl) ?_
    refine ao_q (v := (.bool (!decide (c15 = k4)))) go0 rfl (aq_ne rfl rfl) ?_
    refine AO.done (hK14 _ ?_)
    refine AW.cond' (b := !decide (c15 = k4)) rfl (fun b16 => ?_) (fun b16 => ?_)
    · replace h1 := Sh.ite_t b16 h1
      have b17 : decide (c15 = k4) = false := by simpa using b16
      refine AW.seq fun K18 hK18 => ?_
      refine AW.regionO (by rfl) ?_
      refine ao_q (v := (i64 (-1))) go0 rfl (aq_as rfl) ?_
      refine AO.done (hK18 _ ?_)
      replace h1 := Sh.some_eq h1
      subst o7
      try dsimp only [id] at h0
      replace h0 := Sh.some_eq h0
      subst r
      exact AW.ret (Exists.intro _ (And.intro (Wk.to (L := [(4, (i64 (-1)))]) ⟨.rfl, trivial⟩) (And.intro rfl rfl)))
    · replace h1 := Sh.ite_f b16 h1
      have b19 : decide (c15 = k4) = true := by simpa using b16
      refine AW.skip (hK13 _ ?_)
      refine AW.regionO (by rfl) ?_
      refine ao_q (v := (i64 k4)) go0 rfl (aq_mv rfl) ?_
      refine ao_q (v := (i64 (Sh.w (k4 + 1)))) go0 rfl (aq_add rfl rfl) ?_
      refine ao_q (v := (i64 (Sh.w (k4 + 1)))) go0 rfl (aq_as rfl) ?_
      refine AO.done (hK12 _ ?_)
      refine AW.regionO (by rfl) ?_
      refine ao_q (v := (i64 i5)) go0 rfl (aq_mv rfl) ?_
      refine ao_q (v := (i64 (Sh.w (i5 + 1)))) go0 rfl (aq_add rfl rfl) ?_
      refine ao_q (v := (i64 (Sh.w (i5 + 1)))) go0 rfl (aq_as rfl) ?_
      exact AO.done (Exists.intro (Sh.w (k4 + 1), Sh.w (i5 + 1)) (And.intro h1 (Wk.to (L := [(0, (.sl (List.map eI p0))), (1, (i64 (Sh.w (k4 + 1)))), (5, (i64 (Sh.w (i5 + 1))))]) ⟨.rfl, .rfl, .rfl, trivial⟩)))
  · replace h1 := Sh.ite_f b11 h1
    exact AW.exit (M7 k4 (Sh.some_eq h1).symm _ (Wk.to (L := [(1, (i64 k4))]) ⟨.rfl, trivial⟩))

set_option maxRecDepth 100000 in
set_option maxHeartbeats 4000000 in
theorem laws_heldCellS_ok {N : Nat} {p0 : (List Cell)} {p1 : Int} {r : Int} (h0 : laws_heldCellS N p0 p1 = some r) : ACalls Try.prog 21 [(.sl (List.map eCell p0)), (i64 p1)] [] (fun v st => v = (i64 r) ∧ st = []) := by
  unfold laws_heldCellS at h0
  refine ACalls.intro Try.func21 rfl (by show 2 ≤ 40; decide) ?_
  show AW _ 0 _ (aret _ 0 Try.f21 _) ⟨40, _, _⟩
  refine AW.weaken (Wk.to (L := [(0, (.sl (List.map eCell p0))), (1, (i64 p1))]) ⟨.rfl, .rfl, trivial⟩) ?_
  refine AW.seq fun K1 hK1 => ?_
  refine AW.regionO (by rfl) ?_
  refine ao_q (v := (i64 0)) go0 rfl (aq_as rfl) ?_
  refine AO.done (hK1 _ ?_)
  refine AW.seq fun K2 hK2 => ?_
  refine AW.seq fun K3 hK3 => ?_
  refine AW.regionO (by rfl) ?_
  refine ao_q (v := (i64 0)) go0 rfl (aq_as rfl) ?_
  refine AO.done (hK3 _ ?_)
  obtain ⟨o7, h1, h0⟩ := Sh.cont_some h0
  have M7 : ∀ (k6 : Int), o7 = Sum.inr k6 → ∀ s, Wk 0 s ⟨40, envL [(1, (i64 k6))], []⟩ → K2 s := by
    intro k6 hq s hw
    subst o7
    try dsimp only at h0
    refine hK2 _ (AW.weaken hw ?_)
    refine AW.seq fun K8 hK8 => ?_
    refine AW.regionO (by rfl) ?_
    refine ao_q (v := (i64 k6)) go0 rfl (aq_mv rfl) ?_
    refine ao_q (v := (i64 k6)) go0 rfl (aq_as rfl) ?_
    refine AO.done (hK8 _ ?_)
    replace h0 := Sh.some_eq h0
    subst r
    exact AW.ret (Exists.intro _ (And.intro (Wk.to (L := [(4, (i64 k6))]) ⟨.rfl, trivial⟩) (And.intro rfl rfl)))
  refine AW.block (AW.loopF (σ := Int × Int) (fun n v => laws_heldCellS_L1 N p0 n v.1 v.2 = some o7) (fun (k4, i5) => ⟨40, envL [(0, (.sl (List.map eCell p0))), (1, (i64 k4)), (5, (i64 i5))], []⟩) N (p1, 0) h1 (Wk.to (L := [(0, (.sl (List.map eCell p0))), (1, (i64 p1)), (5, (i64 0))]) ⟨.rfl, .rfl, .rfl, trivial⟩) (fun _ hv => by rw [laws_heldCellS_L1] at hv; cases hv) ?_)
  rintro n ⟨k4, i5⟩ h1
  try dsimp only at h1 ⊢
  rw [laws_heldCellS_L1] at h1
  refine AW.seq fun K9 hK9 => ?_
  refine AW.seq fun K10 hK10 => ?_
  refine AW.regionO (by rfl) ?_
  refine ao_q (v := (i64 i5)) go0 rfl (aq_mv rfl) ?_
  refine ao_q (v := (.sl (List.map eCell p0))) go0 rfl (aq_mv rfl) ?_
  refine ao_q (v := (i64 (Sh.len p0))) go0 rfl (aq_lens sl26 rfl) ?_
  refine ao_q (v := (.bool (decide (i5 < (Sh.len p0))))) go0 rfl (aq_lt rfl rfl) ?_
  refine AO.done (hK10 _ ?_)
  refine AW.cond' (b := decide (i5 < (Sh.len p0))) rfl (fun b11 => ?_) (fun b11 => ?_)
  · replace h1 := Sh.ite_t b11 h1
    refine AW.skip (hK9 _ ?_)
    refine AW.seq fun K12 hK12 => ?_
    refine AW.block ?_
    refine AW.seq fun K13 hK13 => ?_
    refine AW.seq fun K14 hK14 => ?_
    refine AW.regionO (by rfl) ?_
    refine ao_q (v := (.sl (List.map eCell p0))) go0 rfl (aq_mv rfl) ?_
    refine ao_q (v := (i64 i5)) go0 rfl (aq_mv rfl) ?_
    obtain ⟨c15, gc15, h1⟩ := Sh.bind_some h1
    refine ao_q (v := (.iptr (eCell c15) 0)) go0 rfl (aq_ixs ei26 rfl rfl gc15 rfl) ?_
    refine ao_q (v := (.iptr (eCell c15) 0)) go0 rfl (aq_fai fi58_0 rfl rfl) ?_
    refine ao_q (v := (i64 c15.count)) go0 rfl (aq_ldi ti3 rfl rfl) ?_
    refine ao_q (v := (i64 k4)) go0 rfl (aq_mv rfl) ?_
    refine ao_q (v := (.bool (!decide (c15.count = k4)))) go0 rfl (aq_ne rfl rfl) ?_
    refine AO.done (hK14 _ ?_)
    refine AW.cond' (b := !decide (c15.count = k4)) rfl (fun b16 => ?_) (fun b16 => ?_)
    · replace h1 := Sh.ite_t b16 h1
      have b17 : decide (c15.count = k4) = false := by simpa using b16
      refine AW.seq fun K18 hK18 => ?_
      refine AW.regionO (by rfl) ?_
      refine ao_q (v := (i64 (-1))) go0 rfl (aq_as rfl) ?_
      refine AO.done (hK18 _ ?_)
      replace h1 := Sh.some_eq h1
      subst o7
      try dsimp only [id] at h0
      replace h0 := Sh.some_eq h0
      subst r
      exact AW.ret (Exists.intro _ (And.intro (Wk.to (L := [(4, (i64 (-1)))]) ⟨.rfl, trivial⟩) (And.intro rfl rfl)))
    · replace h1 := Sh.ite_f b16 h1
      have b19 : decide (c15.count = k4) = true := by simpa using b16
      refine AW.skip (hK13 _ ?_)
      refine AW.seq fun K20 hK20 => ?_
      refine AW.regionO (by rfl) ?_
      refine ao_q (v := (i64 k4)) go0 rfl (aq_mv rfl) ?_
      refine ao_q (v := (i64 (Sh.w (k4 + 1)))) go0 rfl (aq_add rfl rfl) ?_
      refine ao_q (v := (i64 (Sh.w (k4 + 1)))) go0 rfl (aq_as rfl) ?_
      refine AO.done (hK20 _ ?_)
      refine AW.seq fun K21 hK21 => ?_
      refine AW.seq fun K22 hK22 => ?_
      refine AW.regionO (by rfl) ?_
      refine ao_q (v := (.sl (List.map eCell p0))) go0 rfl (aq_mv rfl) ?_
      refine ao_q (v := (i64 i5)) go0 rfl (aq_mv rfl) ?_
      refine ao_q (v := (.iptr (eCell c15) 0)) go0 rfl (aq_ixs ei26 rfl rfl gc15 rfl) ?_
      refine ao_q (v := (.iptr (eCell c15) 1)) go0 rfl (aq_fai fi58_1 rfl rfl) ?_
      refine ao_q (v := (i64 c15.tag)) go0 rfl (aq_ldi ti3 rfl rfl) ?_
      refine ao_q (v := (i64 (Sh.w (k4 + 1)))) go0 rfl (aq_mv rfl) ?_
      refine ao_q (v := (.bool (!decide (c15.tag = (Sh.w (k4 + 1)))))) go0 rfl (aq_ne rfl rfl) ?_
      refine AO.done (hK22 _ ?_)
      refine AW.cond' (b := !decide (c15.tag = (Sh.w (k4 + 1)))) rfl (fun b23 => ?_) (fun b23 => ?_)
      · replace h1 := Sh.ite_t b23 h1
        have b24 : decide (c15.tag = (Sh.w (k4 + 1))) = false := by simpa using b23
        refine AW.seq fun K25 hK25 => ?_
        refine AW.regionO (by rfl) ?_
        refine ao_q (v := (i64 (-1))) go0 rfl (aq_as rfl) ?_
        refine AO.done (hK25 _ ?_)
        replace h1 := Sh.some_eq h1
        subst o7
        try dsimp only [id] at h0
        replace h0 := Sh.some_eq h0
        subst r
        exact AW.ret (Exists.intro _ (And.intro (Wk.to (L := [(4, (i64 (-1)))]) ⟨.rfl, trivial⟩) (And.intro rfl rfl)))
      · replace h1 := Sh.ite_f b23 h1
        have b26 : decide (c15.tag = (Sh.w (k4 + 1))) = true := by simpa using b23
        refine AW.skip (hK21 _ ?_)
        refine AW.seq fun K27 hK27 => ?_
        refine AW.regionO (by rfl) ?_
        refine ao_q (v := (i64 (Sh.w (k4 + 1)))) go0 rfl (aq_mv rfl) ?_
        refine ao_q (v := (i64 (Sh.w ((Sh.w (k4 + 1)) + 1)))) go0 rfl (aq_add rfl rfl) ?_
        refine ao_q (v := (i64 (Sh.w ((Sh.w (k4 + 1)) + 1)))) go0 rfl (aq_as rfl) ?_
        refine AO.done (hK27 _ ?_)
        refine AW.seq fun K28 hK28 => ?_
        refine AW.regionO (by rfl) ?_
        refine ao_q (v := (.sl (List.map eCell p0))) go0 rfl (aq_mv rfl) ?_
        refine ao_q (v := (i64 i5)) go0 rfl (aq_mv rfl) ?_
        refine ao_q (v := (.iptr (eCell c15) 0)) go0 rfl (aq_ixs ei26 rfl rfl gc15 rfl) ?_
        refine ao_q (v := (.iptr (eCell c15) 2)) go0 rfl (aq_fai fi58_2 rfl rfl) ?_
        refine ao_q (v := (.sl (List.map eI c15.fields))) go0 rfl (aq_ldi ti23 rfl rfl) ?_
        refine ao_q (v := (i64 (Sh.w ((Sh.w (k4 + 1)) + 1)))) go0 rfl (aq_mv rfl) ?_
        obtain ⟨q29, gq29, h1⟩ := Sh.bind_some h1
        refine ao_call (v' := (i64 q29)) (st' := []) go0 hb18 (laws_heldIntS_ok gq29) rfl rfl trivial rfl rfl ?_
        refine ao_q (v := (i64 q29)) go0 rfl (aq_as rfl) ?_
        refine AO.done (hK28 _ ?_)
        refine AW.seq fun K30 hK30 => ?_
        refine AW.regionO (by rfl) ?_
        refine ao_q (v := (i64 q29)) go0 rfl (aq_mv rfl) ?_
        refine ao_q (v := (.bool (decide (q29 < 0)))) go0 rfl (aq_lt rfl rfl) ?_
        refine AO.done (hK30 _ ?_)
        refine AW.cond' (b := decide (q29 < 0)) rfl (fun b31 => ?_) (fun b31 => ?_)
        · replace h1 := Sh.ite_t b31 h1
          refine AW.seq fun K32 hK32 => ?_
          refine AW.regionO (by rfl) ?_
          refine ao_q (v := (i64 (-1))) go0 rfl (aq_as rfl) ?_
          refine AO.done (hK32 _ ?_)
          replace h1 := Sh.some_eq h1
          subst o7
          try dsimp only [id] at h0
          replace h0 := Sh.some_eq h0
          subst r
          exact AW.ret (Exists.intro _ (And.intro (Wk.to (L := [(4, (i64 (-1)))]) ⟨.rfl, trivial⟩) (And.intro rfl rfl)))
        · replace h1 := Sh.ite_f b31 h1
          refine AW.skip (hK12 _ ?_)
          refine AW.regionO (by rfl) ?_
          refine ao_q (v := (i64 i5)) go0 rfl (aq_mv rfl) ?_
          refine ao_q (v := (i64 (Sh.w (i5 + 1)))) go0 rfl (aq_add rfl rfl) ?_
          refine ao_q (v := (i64 (Sh.w (i5 + 1)))) go0 rfl (aq_as rfl) ?_
          exact AO.done (Exists.intro (q29, Sh.w (i5 + 1)) (And.intro h1 (Wk.to (L := [(0, (.sl (List.map eCell p0))), (1, (i64 q29)), (5, (i64 (Sh.w (i5 + 1))))]) ⟨.rfl, .rfl, .rfl, trivial⟩)))
  · replace h1 := Sh.ite_f b11 h1
    exact AW.exit (M7 k4 (Sh.some_eq h1).symm _ (Wk.to (L := [(1, (i64 k4))]) ⟨.rfl, trivial⟩))

set_option maxRecDepth 100000 in
set_option maxHeartbeats 4000000 in
theorem impl_heap_alloc_2_ok {N : Nat} {s1 : (List Cell)} {p1 : Int} {p2 : (List Int)} {r : Int × (List Cell)} (h0 : impl_heap_alloc N s1 p1 p2 = some r) : ACalls Try.prog 50 [(.ptr 0 0 0 0), (i64 p1), (.sl (List.map eI p2))] [⟨0, 70, 1, [[(.own 1 0 (List.length s1))]]⟩, ⟨0, 58, 3, List.map eCell s1⟩] (fun v st => v = (i64 r.1) ∧ st = [⟨0, 70, 1, [[(.own 1 1 (List.length r.2))]]⟩, ⟨1, 58, 3, List.map eCell r.2⟩]) := by
  unfold impl_heap_alloc at h0
  refine ACalls.intro Try.func50 rfl (by show 3 ≤ 39; decide) ?_
  show AW _ 2 _ (aret _ 2 Try.f50 _) ⟨39, _, _⟩
  refine AW.weaken (Wk.to (L := [(0, (.ptr 0 0 0 0)), (1, (i64 p1)), (2, (.sl (List.map eI p2)))]) ⟨.rfl, .rfl, .rfl, trivial⟩) ?_
  refine AW.seq fun K1 hK1 => ?_
  refine AW.regionO (by rfl) ?_
  refine ao_q (v := (i64 0)) go0 rfl (aq_as rfl) ?_
  refine AO.done (hK1 _ ?_)
  refine AW.seq fun K2 hK2 => ?_
  refine AW.regionO (by rfl) ?_
  refine ao_q (v := (i64 p1)) go0 rfl (aq_mv rfl) ?_
  refine ao_q (v := (.sl (List.map eI p2))) go0 rfl (aq_mv rfl) ?_
  obtain ⟨q3, gq3, h0⟩ := Sh.bind_some h0
  refine ao_call (v' := (.own 2 0 (List.length q3))) (st' := [⟨0, 70, 1, [[(.own 1 0 (List.length s1))]]⟩, ⟨0, 58, 3, List.map eCell s1⟩, ⟨0, 3, 1, List.map eI q3⟩]) go0 hb39 (slices_Clone_int_int_ok gq3) rfl rfl ⟨(pure_map' fun _ => rfl), trivial⟩ rfl rfl ?_
  refine ao_q (v := (.agg [(i64 1), (i64 p1), (.own 2 0 (List.length q3))])) go0 rfl (aq_bd ai58 bi58 zi58 rfl rfl) ?_
  refine ao_alloc (m := 3) (st' := [⟨0, 70, 1, [[(.own 1 0 (List.length s1))]]⟩, ⟨0, 58, 3, List.map eCell s1⟩, ⟨0, 3, 1, List.map eI q3⟩, ⟨0, 58, 3, [[(i64 0), (i64 0), .zc]]⟩]) go0 zi58 rfl rfl ?_
  refine AO.weaken (Wk.frz (L := [(0, (.ptr 0 0 0 0)), (7, (.ptr 3 0 0 0)), (12, (.agg [(i64 1), (i64 p1), (.sl (List.map eI q3))]))]) (st' := [⟨0, 70, 1, [[(.own 1 0 (List.length s1))]]⟩, ⟨0, 58, 3, List.map eCell s1⟩, ⟨1, 3, 1, []⟩, ⟨0, 58, 3, [[(i64 0), (i64 0), .zc]]⟩]) (id := 2) rfl (show 2 ≤ 2 by decide) (pure_map fun _ => rfl) ⟨.rfl, .rfl, (.agg ⟨.rfl, .rfl, (.frz1 rfl), trivial⟩), trivial⟩ rfl) ?_
  refine ao_str (st' := [⟨0, 70, 1, [[(.own 1 0 (List.length s1))]]⟩, ⟨0, 58, 3, List.map eCell s1⟩, ⟨1, 3, 1, []⟩, ⟨0, 58, 3, [[(i64 1), (i64 p1), (.sl (List.map eI q3))]]⟩]) go0 ti58 rfl rfl rfl rfl rfl rfl (show 0 + 3 ≤ 3 by decide) rfl ?_
  refine AO.done (hK2 _ ?_)
  refine AW.seq fun K4 hK4 => ?_
  refine AW.regionO (by rfl) ?_
  refine ao_q (v := (.ptr 0 0 0 0)) go0 rfl (aq_mv rfl) ?_
  refine ao_q (v := (.ptr 0 0 0 0)) go0 rfl (aq_nck rfl rfl) ?_
  refine ao_q (v := (.own 1 0 (List.length s1))) go0 rfl (aq_ldp ti70 rfl rfl rfl rfl) ?_
  obtain ⟨q5, gq5, h0⟩ := Sh.bind_some h0
  refine ao_callb (v' := (i64 q5)) (st' := [⟨0, 70, 1, [[(.own 1 0 (List.length s1))]]⟩, ⟨0, 58, 3, List.map eCell s1⟩, ⟨1, 3, 1, []⟩, ⟨0, 58, 3, [[(i64 1), (i64 p1), (.sl (List.map eI q3))]]⟩]) go0 hb73 (slices_IndexFunc_impl_heap_impl_Cell_ok gq5) rfl (.own rfl rfl (fun _ => rfl) (.val rfl .nil)) rfl trivial rfl rfl ?_
  refine ao_q (v := (i64 q5)) go0 rfl (aq_as rfl) ?_
  refine AO.done (hK4 _ ?_)
  refine AW.seq fun K6 hK6 => ?_
  obtain ⟨o9, h1, h0⟩ := Sh.bind_some h0
  have M9 : ∀ (at7 : Int) (l8 : (List Cell)), o9 = (at7, l8) → ∀ s, Wk 2 s ⟨39, envL [(8, (i64 at7))], [⟨0, 70, 1, [[(.own 1 1 (List.length l8))]]⟩, ⟨1, 58, 3, List.map eCell l8⟩]⟩ → K6 s := by
    intro at7 l8 hq s hw
    subst o9
    try dsimp only at h0
    refine hK6 _ (AW.weaken hw ?_)
    refine AW.seq fun K10 hK10 => ?_
    refine AW.regionO (by rfl) ?_
    refine ao_q (v := (i64 at7)) go0 rfl (aq_mv rfl) ?_
    refine ao_q (v := (i64 (Sh.w (1000 + at7)))) go0 rfl (aq_add rfl rfl) ?_
    refine ao_q (v := (i64 (Sh.w (1000 + at7)))) go0 rfl (aq_as rfl) ?_
    refine AO.done (hK10 _ ?_)
    replace h0 := Sh.some_eq h0
    subst r
    exact AW.ret (Exists.intro _ (And.intro (Wk.to (L := [(6, (i64 (Sh.w (1000 + at7))))]) ⟨.rfl, trivial⟩) (And.intro rfl rfl)))
  refine AW.seq fun K11 hK11 => ?_
  refine AW.regionO (by rfl) ?_
  refine ao_q (v := (i64 q5)) go0 rfl (aq_mv rfl) ?_
  refine ao_q (v := (.bool (decide (q5 < 0)))) go0 rfl (aq_lt rfl rfl) ?_
  refine AO.done (hK11 _ ?_)
  refine AW.cond' (b := decide (q5 < 0)) rfl (fun b12 => ?_) (fun b12 => ?_)
  · replace h1 := Sh.ite_t b12 h1
    refine AW.seq fun K13 hK13 => ?_
    refine AW.regionO (by rfl) ?_
    refine ao_q (v := (.ptr 0 0 0 0)) go0 rfl (aq_mv rfl) ?_
    refine ao_q (v := (.ptr 0 0 0 0)) go0 rfl (aq_nck rfl rfl) ?_
    refine ao_q (v := (.own 1 0 (List.length s1))) go0 rfl (aq_ldp ti70 rfl rfl rfl rfl) ?_
    refine ao_q (v := (i64 (Sh.len s1))) go0 rfl (aq_leno sl70 rfl rfl rfl) ?_
    refine ao_q (v := (i64 (Sh.len s1))) go0 rfl (aq_as rfl) ?_
    refine AO.done (hK13 _ ?_)
    refine AW.drawX (by kernel_rfl) ?_
    refine AX.hoist 0 (v := (.ptr 0 0 0 0)) rfl rfl (by kernel_rfl) (by kernel_rfl) (by kernel_rfl) rfl (hoist_mv rfl) ?_
    refine AX.hoist 1 (v := (.ptr 0 0 0 0)) rfl rfl (by kernel_rfl) (by kernel_rfl) (by kernel_rfl) rfl (hoist_mv rfl) ?_
    refine AX.hoist 2 (v := (.ptr 0 0 0 0)) rfl rfl (by kernel_rfl) (by kernel_rfl) (by kernel_rfl) rfl (hoist_nck rfl rfl) ?_
    refine AX.all [3, 4] rfl (by kernel_rfl) (by decide) ⟨?_, ?_, trivial⟩
    · refine AXs.of (i := 3) rfl rfl (by rfl) ?_
      refine ao_q (v := (.own 1 0 (List.length s1))) go0 rfl (aq_ldp ti70 rfl rfl rfl rfl) ?_
      refine AO.done ⟨rfl, ?_⟩
      refine AX.all [4] rfl (by kernel_rfl) (by decide) ⟨?_, trivial⟩
      · refine AXs.of (i := 4) rfl rfl (by rfl) ?_
        refine ao_q (v := (.agg [(i64 1), (i64 p1), (.sl (List.map eI q3))])) go0 rfl (aq_ldpa ti58 rfl rfl rfl (show 0 + 3 ≤ 3 by decide) rfl) ?_
        refine AO.done ⟨rfl, ?_⟩
        refine AX.all [5] rfl (by kernel_rfl) (by decide) ⟨?_, trivial⟩
        · refine AXs.of (i := 5) rfl rfl (by rfl) ?_
          refine ao_bs (m := 4) (st' := [⟨0, 70, 1, [[(.own 1 0 (List.length s1))]]⟩, ⟨0, 58, 3, List.map eCell s1⟩, ⟨1, 3, 1, []⟩, ⟨0, 58, 3, [[(i64 1), (i64 p1), (.sl (List.map eI q3))]]⟩, ⟨0, 58, 3, List.map eCell [(Cell.mk 1 p1 q3)]⟩]) (l := [(Cell.mk 1 p1 q3)]) (enc := eCell) go0 ei70 (by decide) rfl rfl rfl rfl rfl rfl ?_
          refine AO.done ⟨rfl, ?_⟩
          refine AX.all [6] rfl (by kernel_rfl) (by decide) ⟨?_, trivial⟩
          · refine AXs.of (i := 6) rfl rfl (by rfl) ?_
            obtain ⟨l14, gl14, h1⟩ := Sh.bind_some h1
            refine ao_apo (st' := [⟨0, 70, 1, [[(.own 1 0 (List.length s1))]]⟩, ⟨1, 58, 3, List.map eCell l14⟩, ⟨1, 3, 1, []⟩, ⟨0, 58, 3, [[(i64 1), (i64 p1), (.sl (List.map eI q3))]]⟩, ⟨0, 58, 3, List.map eCell [(Cell.mk 1 p1 q3)]⟩]) (l2 := [(Cell.mk 1 p1 q3)]) go0 ei70 rfl rfl rfl rfl (el_o rfl rfl) (fun _ => rfl) gl14 rfl ?_
            refine AO.done ⟨rfl, ?_⟩
            refine AX.hoist 7 (v := (.ptr 0 0 0 0)) rfl rfl (by kernel_rfl) (by kernel_rfl) (by kernel_rfl) rfl (hoist_nck rfl rfl) ?_
            refine AX.all [8] rfl (by kernel_rfl) (by decide) ⟨?_, trivial⟩
            · refine AXs.of (i := 8) rfl rfl (by rfl) ?_
              refine ao_str (st' := [⟨0, 70, 1, [[(.own 1 1 (List.length l14))]]⟩, ⟨1, 58, 3, List.map eCell l14⟩, ⟨1, 3, 1, []⟩, ⟨0, 58, 3, [[(i64 1), (i64 p1), (.sl (List.map eI q3))]]⟩, ⟨0, 58, 3, List.map eCell [(Cell.mk 1 p1 q3)]⟩]) go0 ti70 rfl rfl rfl rfl rfl rfl (show 0 + 1 ≤ 1 by decide) rfl ?_
              refine AO.done ⟨rfl, ?_⟩
              exact AX.done rfl (by kernel_rfl) (M9 (Sh.len s1) l14 (Sh.some_eq h1).symm _ (by refine Wk.trans (Wk.permk (L := [(8, (i64 (Sh.len s1)))]) (st' := [⟨0, 70, 1, [[(.own 1 1 (List.length l14))]]⟩, ⟨1, 58, 3, List.map eCell l14⟩]) (st1 := [⟨0, 70, 1, [[(.own 1 1 (List.length l14))]]⟩, ⟨1, 58, 3, List.map eCell l14⟩]) [0, 1] rfl (.raw rfl rfl (.pure (pure_map fun _ => rfl) .nil)) (by decide) rfl rfl (.raw rfl rfl (.pure (pure_map fun _ => rfl) .nil)) ⟨.rfl, trivial⟩) ?_; exact Wk.to (L := [(8, (i64 (Sh.len s1)))]) ⟨.rfl, trivial⟩))
    · refine AXs.of (i := 4) rfl rfl (by rfl) ?_
      refine ao_q (v := (.agg [(i64 1), (i64 p1), (.sl (List.map eI q3))])) go0 rfl (aq_ldpa ti58 rfl rfl rfl (show 0 + 3 ≤ 3 by decide) rfl) ?_
      refine AO.done ⟨rfl, ?_⟩
      refine AX.all [3, 5] rfl (by kernel_rfl) (by decide) ⟨?_, ?_, trivial⟩
      · refine AXs.of (i := 3) rfl rfl (by rfl) ?_
        refine ao_q (v := (.own 1 0 (List.length s1))) go0 rfl (aq_ldp ti70 rfl rfl rfl rfl) ?_
        refine AO.done ⟨rfl, ?_⟩
        refine AX.all [5] rfl (by kernel_rfl) (by decide) ⟨?_, trivial⟩
        · refine AXs.of (i := 5) rfl rfl (by rfl) ?_
          refine ao_bs (m := 4) (st' := [⟨0, 70, 1, [[(.own 1 0 (List.length s1))]]⟩, ⟨0, 58, 3, List.map eCell s1⟩, ⟨1, 3, 1, []⟩, ⟨0, 58, 3, [[(i64 1), (i64 p1), (.sl (List.map eI q3))]]⟩, ⟨0, 58, 3, List.map eCell [(Cell.mk 1 p1 q3)]⟩]) (l := [(Cell.mk 1 p1 q3)]) (enc := eCell) go0 ei70 (by decide) rfl rfl rfl rfl rfl rfl ?_
          refine AO.done ⟨rfl, ?_⟩
          refine AX.all [6] rfl (by kernel_rfl) (by decide) ⟨?_, trivial⟩
          · refine AXs.of (i := 6) rfl rfl (by rfl) ?_
            obtain ⟨l15, gl15, h1⟩ := Sh.bind_some h1
            refine ao_apo (st' := [⟨0, 70, 1, [[(.own 1 0 (List.length s1))]]⟩, ⟨1, 58, 3, List.map eCell l15⟩, ⟨1, 3, 1, []⟩, ⟨0, 58, 3, [[(i64 1), (i64 p1), (.sl (List.map eI q3))]]⟩, ⟨0, 58, 3, List.map eCell [(Cell.mk 1 p1 q3)]⟩]) (l2 := [(Cell.mk 1 p1 q3)]) go0 ei70 rfl rfl rfl rfl (el_o rfl rfl) (fun _ => rfl) gl15 rfl ?_
            refine AO.done ⟨rfl, ?_⟩
            refine AX.hoist 7 (v := (.ptr 0 0 0 0)) rfl rfl (by kernel_rfl) (by kernel_rfl) (by kernel_rfl) rfl (hoist_nck rfl rfl) ?_
            refine AX.all [8] rfl (by kernel_rfl) (by decide) ⟨?_, trivial⟩
            · refine AXs.of (i := 8) rfl rfl (by rfl) ?_
              refine ao_str (st' := [⟨0, 70, 1, [[(.own 1 1 (List.length l15))]]⟩, ⟨1, 58, 3, List.map eCell l15⟩, ⟨1, 3, 1, []⟩, ⟨0, 58, 3, [[(i64 1), (i64 p1), (.sl (List.map eI q3))]]⟩, ⟨0, 58, 3, List.map eCell [(Cell.mk 1 p1 q3)]⟩]) go0 ti70 rfl rfl rfl rfl rfl rfl (show 0 + 1 ≤ 1 by decide) rfl ?_
              refine AO.done ⟨rfl, ?_⟩
              exact AX.done rfl (by kernel_rfl) (M9 (Sh.len s1) l15 (Sh.some_eq h1).symm _ (by refine Wk.trans (Wk.permk (L := [(8, (i64 (Sh.len s1)))]) (st' := [⟨0, 70, 1, [[(.own 1 1 (List.length l15))]]⟩, ⟨1, 58, 3, List.map eCell l15⟩]) (st1 := [⟨0, 70, 1, [[(.own 1 1 (List.length l15))]]⟩, ⟨1, 58, 3, List.map eCell l15⟩]) [0, 1] rfl (.raw rfl rfl (.pure (pure_map fun _ => rfl) .nil)) (by decide) rfl rfl (.raw rfl rfl (.pure (pure_map fun _ => rfl) .nil)) ⟨.rfl, trivial⟩) ?_; exact Wk.to (L := [(8, (i64 (Sh.len s1)))]) ⟨.rfl, trivial⟩))
      · refine AXs.of (i := 5) rfl rfl (by rfl) ?_
        refine ao_bs (m := 4) (st' := [⟨0, 70, 1, [[(.own 1 0 (List.length s1))]]⟩, ⟨0, 58, 3, List.map eCell s1⟩, ⟨1, 3, 1, []⟩, ⟨0, 58, 3, [[(i64 1), (i64 p1), (.sl (List.map eI q3))]]⟩, ⟨0, 58, 3, List.map eCell [(Cell.mk 1 p1 q3)]⟩]) (l := [(Cell.mk 1 p1 q3)]) (enc := eCell) go0 ei70 (by decide) rfl rfl rfl rfl rfl rfl ?_
        refine AO.done ⟨rfl, ?_⟩
        refine AX.all [3] rfl (by kernel_rfl) (by decide) ⟨?_, trivial⟩
        · refine AXs.of (i := 3) rfl rfl (by rfl) ?_
          refine ao_q (v := (.own 1 0 (List.length s1))) go0 rfl (aq_ldp ti70 rfl rfl rfl rfl) ?_
          refine AO.done ⟨rfl, ?_⟩
          refine AX.all [6] rfl (by kernel_rfl) (by decide) ⟨?_, trivial⟩
          · refine AXs.of (i := 6) rfl rfl (by rfl) ?_
            obtain ⟨l16, gl16, h1⟩ := Sh.bind_some h1
            refine ao_apo (st' := [⟨0, 70, 1, [[(.own 1 0 (List.length s1))]]⟩, ⟨1, 58, 3, List.map eCell l16⟩, ⟨1, 3, 1, []⟩, ⟨0, 58, 3, [[(i64 1), (i64 p1), (.sl (List.map eI q3))]]⟩, ⟨0, 58, 3, List.map eCell [(Cell.mk 1 p1 q3)]⟩]) (l2 := [(Cell.mk 1 p1 q3)]) go0 ei70 rfl rfl rfl rfl (el_o rfl rfl) (fun _ => rfl) gl16 rfl ?_
            refine AO.done ⟨rfl, ?_⟩
            refine AX.hoist 7 (v := (.ptr 0 0 0 0)) rfl rfl (by kernel_rfl) (by kernel_rfl) (by kernel_rfl) rfl (hoist_nck rfl rfl) ?_
            refine AX.all [8] rfl (by kernel_rfl) (by decide) ⟨?_, trivial⟩
            · refine AXs.of (i := 8) rfl rfl (by rfl) ?_
              refine ao_str (st' := [⟨0, 70, 1, [[(.own 1 1 (List.length l16))]]⟩, ⟨1, 58, 3, List.map eCell l16⟩, ⟨1, 3, 1, []⟩, ⟨0, 58, 3, [[(i64 1), (i64 p1), (.sl (List.map eI q3))]]⟩, ⟨0, 58, 3, List.map eCell [(Cell.mk 1 p1 q3)]⟩]) go0 ti70 rfl rfl rfl rfl rfl rfl (show 0 + 1 ≤ 1 by decide) rfl ?_
              refine AO.done ⟨rfl, ?_⟩
              exact AX.done rfl (by kernel_rfl) (M9 (Sh.len s1) l16 (Sh.some_eq h1).symm _ (by refine Wk.trans (Wk.permk (L := [(8, (i64 (Sh.len s1)))]) (st' := [⟨0, 70, 1, [[(.own 1 1 (List.length l16))]]⟩, ⟨1, 58, 3, List.map eCell l16⟩]) (st1 := [⟨0, 70, 1, [[(.own 1 1 (List.length l16))]]⟩, ⟨1, 58, 3, List.map eCell l16⟩]) [0, 1] rfl (.raw rfl rfl (.pure (pure_map fun _ => rfl) .nil)) (by decide) rfl rfl (.raw rfl rfl (.pure (pure_map fun _ => rfl) .nil)) ⟨.rfl, trivial⟩) ?_; exact Wk.to (L := [(8, (i64 (Sh.len s1)))]) ⟨.rfl, trivial⟩))
  · replace h1 := Sh.ite_f b12 h1
    refine AW.drawTailO 6 (by kernel_rfl) (by kernel_rfl) (by rfl) ?_
    refine d_q (v := (.ptr 0 0 0 0)) go0 rfl (aq_mv rfl) ?_
    refine d_q (v := (.ptr 0 0 0 0)) go0 rfl (aq_nck rfl rfl) ?_
    refine d_q (v := (.own 1 0 (List.length s1))) go0 rfl (aq_ldp ti70 rfl rfl rfl rfl) ?_
    refine d_q (v := (i64 q5)) go0 rfl (aq_mv rfl) ?_
    refine d_q (v := (.agg [(i64 1), (i64 p1), (.sl (List.map eI q3))])) go0 rfl (aq_ldpa ti58 rfl rfl rfl (show 0 + 3 ≤ 3 by decide) rfl) ?_
    obtain ⟨c17, gc17, h1⟩ := Sh.bind_some h1
    refine d_q (v := (.ptr 1 0 (Int.toNat q5) 0)) go0 rfl (aq_ixo ei70 rfl rfl rfl rfl gc17) ?_
    refine d_done ?_
    refine ao_stl (st' := [⟨0, 70, 1, [[(.own 1 0 (List.length s1))]]⟩, ⟨0, 58, 3, List.map eCell (Sh.put s1 q5 (Cell.mk 1 p1 q3))⟩, ⟨1, 3, 1, []⟩, ⟨0, 58, 3, [[(i64 1), (i64 p1), (.sl (List.map eI q3))]]⟩]) (u' := (Cell.mk 1 p1 q3)) go0 ti58 rfl rfl gc17 rfl rfl rfl (show 0 + 3 ≤ 3 by decide) rfl rfl ?_
    exact AO.done (M9 q5 (Sh.put s1 q5 (Cell.mk 1 p1 q3)) (Sh.some_eq h1).symm _ (by refine Wk.trans (Wk.steq (st := [⟨0, 70, 1, [[(.own 1 0 (List.length s1))]]⟩, ⟨0, 58, 3, List.map eCell (Sh.put s1 q5 (Cell.mk 1 p1 q3))⟩, ⟨1, 3, 1, []⟩, ⟨0, 58, 3, [[(i64 1), (i64 p1), (.sl (List.map eI q3))]]⟩]) (st' := [⟨0, 70, 1, [[(.own 1 0 (List.length (Sh.put s1 q5 (Cell.mk 1 p1 q3))))]]⟩, ⟨0, 58, 3, List.map eCell (Sh.put s1 q5 (Cell.mk 1 p1 q3))⟩, ⟨1, 3, 1, []⟩, ⟨0, 58, 3, [[(i64 1), (i64 p1), (.sl (List.map eI q3))]]⟩]) (by simp only [Sh.put_len])) ?_; refine Wk.trans (Wk.bump (L := [(8, (i64 q5))]) (st' := [⟨0, 70, 1, [[(.own 1 1 (List.length (Sh.put s1 q5 (Cell.mk 1 p1 q3))))]]⟩, ⟨1, 58, 3, List.map eCell (Sh.put s1 q5 (Cell.mk 1 p1 q3))⟩, ⟨1, 3, 1, []⟩, ⟨0, 58, 3, [[(i64 1), (i64 p1), (.sl (List.map eI q3))]]⟩]) (st1 := [⟨0, 70, 1, [[(.own 1 1 (List.length (Sh.put s1 q5 (Cell.mk 1 p1 q3))))]]⟩, ⟨0, 58, 3, List.map eCell (Sh.put s1 q5 (Cell.mk 1 p1 q3))⟩, ⟨1, 3, 1, []⟩, ⟨0, 58, 3, [[(i64 1), (i64 p1), (.sl (List.map eI q3))]]⟩]) 1 rfl (.raw rfl rfl (.pure (pure_map fun _ => rfl) (.pure (by intro x hx; cases hx) (.raw rfl rfl .nil)))) rfl ⟨.rfl, trivial⟩) ?_; refine Wk.trans (Wk.permk (L := [(8, (i64 q5))]) (st' := [⟨0, 70, 1, [[(.own 1 1 (List.length (Sh.put s1 q5 (Cell.mk 1 p1 q3))))]]⟩, ⟨1, 58, 3, List.map eCell (Sh.put s1 q5 (Cell.mk 1 p1 q3))⟩]) (st1 := [⟨0, 70, 1, [[(.own 1 1 (List.length (Sh.put s1 q5 (Cell.mk 1 p1 q3))))]]⟩, ⟨1, 58, 3, List.map eCell (Sh.put s1 q5 (Cell.mk 1 p1 q3))⟩]) [0, 1] rfl (.raw rfl rfl (.pure (pure_map fun _ => rfl) .nil)) (by decide) rfl rfl (.raw rfl rfl (.pure (pure_map fun _ => rfl) .nil)) ⟨.rfl, trivial⟩) ?_; exact Wk.to (L := [(8, (i64 q5))]) ⟨.rfl, trivial⟩))

set_option maxRecDepth 100000 in
set_option maxHeartbeats 4000000 in
theorem impl_AllocCell_2_ok {N : Nat} {p0 : (List Cell)} {p1 : Int} {p2 : (List Int)} {r : (List Cell) × Int} (h0 : impl_AllocCell N p0 p1 p2 = some r) : ACalls Try.prog 23 [(.sl (List.map eCell p0)), (i64 p1), (.sl (List.map eI p2))] [] (fun v st => v = (.tup [(.own 0 0 (List.length r.1)), (i64 r.2)]) ∧ st = [⟨0, 58, 3, List.map eCell r.1⟩]) := by
  unfold impl_AllocCell at h0
  refine ACalls.intro Try.func23 rfl (by show 3 ≤ 23; decide) ?_
  show AW _ 0 _ (aret _ 0 Try.f23 _) ⟨23, _, _⟩
  refine AW.weaken (Wk.to (L := [(0, (.sl (List.map eCell p0))), (1, (i64 p1)), (2, (.sl (List.map eI p2)))]) ⟨.rfl, .rfl, .rfl, trivial⟩) ?_
  refine AW.seq fun K1 hK1 => ?_
  refine AW.regionO (by rfl) ?_
  refine ao_q (v := .zc) go0 rfl (aq_as rfl) ?_
  refine ao_q (v := (i64 0)) go0 rfl (aq_as rfl) ?_
  refine AO.done (hK1 _ ?_)
  refine AW.seq fun K2 hK2 => ?_
  refine AW.seq fun K3 hK3 => ?_
  refine AW.regionO (by rfl) ?_
  refine ao_q (v := (.sl (List.map eCell p0))) go0 rfl (aq_mv rfl) ?_
  obtain ⟨q4, gq4, h0⟩ := Sh.bind_some h0
  refine ao_call (v' := (.bool q4)) (st' := []) go0 hb38 (impl_ValidHeap_ok gq4) rfl rfl trivial rfl rfl ?_
  refine ao_q (v := (.bool (!q4))) go0 rfl (aq_not rfl) ?_
  refine AO.done (hK3 _ ?_)
  refine AW.cond' (b := !q4) rfl (fun b5 => ?_) (fun b5 => ?_)
  · replace h0 := Sh.ite_t b5 h0
    have b6 : q4 = false := by simpa using b5
    refine AW.seq fun K7 hK7 => ?_
    refine AW.regionO (by rfl) ?_
    refine ao_q (v := .zc) go0 rfl (aq_as rfl) ?_
    refine ao_q (v := (i64 0)) go0 rfl (aq_as rfl) ?_
    refine AO.done (hK7 _ ?_)
    replace h0 := Sh.some_eq h0
    subst r
    exact AW.ret (Exists.intro _ (And.intro (((Wk.adopt (t := 6) rfl 58 (size := 3) (by decide)).trans (Wk.to (L := [(6, (.own 0 0 (List.length ([] : List Cell)))), (7, (i64 0))]) ⟨.rfl, .rfl, trivial⟩)).trans (Wk.to (L := [(6, (.own 0 0 (List.length ([] : List Cell)))), (7, (i64 0))]) ⟨.rfl, .rfl, trivial⟩)) (And.intro rfl rfl)))
  · replace h0 := Sh.ite_f b5 h0
    have b8 : q4 = true := by simpa using b5
    refine AW.skip (hK2 _ ?_)
    refine AW.seq fun K9 hK9 => ?_
    refine AW.regionO (by rfl) ?_
    refine ao_q (v := (.sl (List.map eCell p0))) go0 rfl (aq_mv rfl) ?_
    obtain ⟨q10, gq10, h0⟩ := Sh.bind_some h0
    refine ao_call (v' := (.own 0 0 (List.length q10))) (st' := [⟨0, 58, 3, List.map eCell q10⟩]) go0 hb47 (impl_cloneHeap_ok gq10) rfl rfl ⟨(pure_map' fun _ => rfl), trivial⟩ rfl rfl ?_
    refine ao_alloc (m := 1) (st' := [⟨0, 58, 3, List.map eCell q10⟩, ⟨0, 70, 1, [[.zc]]⟩]) go0 zi70 rfl rfl ?_
    refine ao_str (st' := [⟨0, 58, 3, List.map eCell q10⟩, ⟨0, 70, 1, [[(.own 0 0 (List.length q10))]]⟩]) go0 ti70 rfl rfl rfl rfl rfl rfl (show 0 + 1 ≤ 1 by decide) rfl ?_
    refine AO.done (hK9 _ ?_)
    refine AW.seq fun K11 hK11 => ?_
    refine AW.regionO (by rfl) ?_
    refine ao_q (v := (i64 p1)) go0 rfl (aq_mv rfl) ?_
    refine ao_q (v := (.sl (List.map eI p2))) go0 rfl (aq_mv rfl) ?_
    obtain ⟨q12, gq12, h0⟩ := Sh.bind_some h0
    refine ao_calls (rowsP := [⟨0, 70, 1, [[(.own 0 0 (List.length q10))]]⟩, ⟨0, 58, 3, List.map eCell q10⟩]) (rows0 := [⟨0, 70, 1, [[(.own 1 0 (List.length q10))]]⟩, ⟨0, 58, 3, List.map eCell q10⟩]) (rows1 := [⟨0, 70, 1, [[(.own 1 1 (List.length q12.2))]]⟩, ⟨1, 58, 3, List.map eCell q12.2⟩]) (rows2 := []) (rows1' := [⟨0, 70, 1, [[(.own 0 1 (List.length q12.2))]]⟩, ⟨1, 58, 3, List.map eCell q12.2⟩]) (rows2' := []) (st' := [⟨1, 58, 3, List.map eCell q12.2⟩, ⟨0, 70, 1, [[(.own 0 1 (List.length q12.2))]]⟩]) (v' := (i64 q12.1)) [1, 0] go0 hb50 (impl_heap_alloc_2_ok gq12) rfl (by decide) rfl rfl (.raw rfl rfl (.pure (pure_map fun _ => rfl) .nil)) rfl rfl (.raw rfl rfl (.pure (pure_map fun _ => rfl) .nil)) .nil rfl rfl ?_
    refine ao_q (v := (i64 q12.1)) go0 rfl (aq_as rfl) ?_
    refine AO.done (hK11 _ ?_)
    refine AW.seq fun K13 hK13 => ?_
    refine AW.seq fun K14 hK14 => ?_
    refine AW.regionO (by rfl) ?_
    refine ao_q (v := (.own 0 1 (List.length q12.2))) go0 rfl (aq_ldp ti70 rfl rfl rfl rfl) ?_
    obtain ⟨q15, gq15, h0⟩ := Sh.bind_some h0
    refine ao_callb (v' := (.bool q15)) (st' := [⟨1, 58, 3, List.map eCell q12.2⟩, ⟨0, 70, 1, [[(.own 0 1 (List.length q12.2))]]⟩]) go0 hb38 (impl_ValidHeap_ok gq15) rfl (.own rfl rfl (fun _ => rfl) .nil) rfl trivial rfl rfl ?_
    refine ao_q (v := (.bool (!q15))) go0 rfl (aq_not rfl) ?_
    refine AO.done (hK14 _ ?_)
    refine AW.cond' (b := !q15) rfl (fun b16 => ?_) (fun b16 => ?_)
    · replace h0 := Sh.ite_t b16 h0
      have b17 : q15 = false := by simpa using b16
      refine AW.seq fun K18 hK18 => ?_
      refine AW.regionO (by rfl) ?_
      refine ao_q (v := .zc) go0 rfl (aq_as rfl) ?_
      refine ao_q (v := (i64 0)) go0 rfl (aq_as rfl) ?_
      refine AO.done (hK18 _ ?_)
      replace h0 := Sh.some_eq h0
      subst r
      exact AW.ret (Exists.intro _ (And.intro ((((Wk.adopt (t := 6) rfl 58 (size := 3) (by decide)).trans (Wk.to (L := [(6, (.own 2 0 (List.length ([] : List Cell)))), (7, (i64 0))]) ⟨.rfl, .rfl, trivial⟩)).trans (Wk.permk (L := [(6, (.own 0 0 (List.length ([] : List Cell)))), (7, (i64 0))]) (st' := [⟨0, 58, 3, List.map eCell ([] : List Cell)⟩]) (st1 := [⟨0, 58, 3, List.map eCell ([] : List Cell)⟩]) [2] rfl .nil (by decide) rfl rfl (.pure (pure_map fun _ => rfl) .nil) ⟨.rfl, .rfl, trivial⟩)).trans (Wk.to (L := [(6, (.own 0 0 (List.length ([] : List Cell)))), (7, (i64 0))]) ⟨.rfl, .rfl, trivial⟩)) (And.intro rfl rfl)))
    · replace h0 := Sh.ite_f b16 h0
      have b19 : q15 = true := by simpa using b16
      refine AW.skip (hK13 _ ?_)
      refine AW.seq fun K20 hK20 => ?_
      refine AW.regionO (by rfl) ?_
      refine ao_q (v := (.own 0 1 (List.length q12.2))) go0 rfl (aq_ldp ti70 rfl rfl rfl rfl) ?_
      refine ao_q (v := (i64 q12.1)) go0 rfl (aq_mv rfl) ?_
      refine ao_q (v := (.own 0 1 (List.length q12.2))) go0 rfl (aq_as rfl) ?_
      refine ao_q (v := (i64 q12.1)) go0 rfl (aq_as rfl) ?_
      refine AO.done (hK20 _ ?_)
      replace h0 := Sh.some_eq h0
      subst r
      exact AW.ret (Exists.intro _ (And.intro (((Wk.rg (L := [(6, (.own 0 0 (List.length q12.2))), (7, (i64 q12.1))]) (st' := [⟨0, 58, 3, List.map eCell q12.2⟩, ⟨0, 70, 1, [[(.own 0 0 (List.length q12.2))]]⟩]) (.pure (pure_map fun _ => rfl) (.raw rfl rfl .nil)) ⟨.rfl, .rfl, trivial⟩).trans (Wk.permk (L := [(6, (.own 0 0 (List.length q12.2))), (7, (i64 q12.1))]) (st' := [⟨0, 58, 3, List.map eCell q12.2⟩]) (st1 := [⟨0, 58, 3, List.map eCell q12.2⟩]) [0] rfl .nil (by decide) rfl rfl (.pure (pure_map fun _ => rfl) .nil) ⟨.rfl, .rfl, trivial⟩)).trans (Wk.to (L := [(6, (.own 0 0 (List.length q12.2))), (7, (i64 q12.1))]) ⟨.rfl, .rfl, trivial⟩)) (And.intro rfl rfl)))

end Go.Proofs.Ytcpedchmkhlpnaa
