import Derived.Test.YtefefailnbbooaaGreatProg
import Derived.Test.YtefefailnbbooaaGreatVSDefs
import Derived.Test.YtefefailnbbooaaGreatVTWalkP2
namespace Go.Proofs.YtefefailnbbooaaGreat
open Go Go.Abs RC
attribute [local irreducible] Go.Abs.dops
set_option maxRecDepth 100000
set_option maxHeartbeats 4000000

theorem hb10 : hasBody Tryz.prog 10 = true := by kernel_rfl
theorem hb101 : hasBody Tryz.prog 101 = true := by kernel_rfl
theorem hb102 : hasBody Tryz.prog 102 = true := by kernel_rfl
theorem hb11 : hasBody Tryz.prog 11 = true := by kernel_rfl
theorem hb23 : hasBody Tryz.prog 23 = true := by kernel_rfl
theorem hb24 : hasBody Tryz.prog 24 = true := by kernel_rfl
theorem hb25 : hasBody Tryz.prog 25 = true := by kernel_rfl
theorem hb26 : hasBody Tryz.prog 26 = true := by kernel_rfl
theorem hb27 : hasBody Tryz.prog 27 = true := by kernel_rfl
theorem hb28 : hasBody Tryz.prog 28 = true := by kernel_rfl
theorem hb29 : hasBody Tryz.prog 29 = true := by kernel_rfl
theorem hb4 : hasBody Tryz.prog 4 = true := by kernel_rfl
theorem hb48 : hasBody Tryz.prog 48 = true := by kernel_rfl
theorem hb5 : hasBody Tryz.prog 5 = true := by kernel_rfl
theorem hb51 : hasBody Tryz.prog 51 = true := by kernel_rfl
theorem hb52 : hasBody Tryz.prog 52 = true := by kernel_rfl
theorem hb53 : hasBody Tryz.prog 53 = true := by kernel_rfl
theorem hb54 : hasBody Tryz.prog 54 = true := by kernel_rfl
theorem hb55 : hasBody Tryz.prog 55 = true := by kernel_rfl
theorem hb56 : hasBody Tryz.prog 56 = true := by kernel_rfl
theorem hb6 : hasBody Tryz.prog 6 = true := by kernel_rfl
theorem hb7 : hasBody Tryz.prog 7 = true := by kernel_rfl
theorem hb8 : hasBody Tryz.prog 8 = true := by kernel_rfl
theorem hb80 : hasBody Tryz.prog 80 = true := by kernel_rfl
theorem hb81 : hasBody Tryz.prog 81 = true := by kernel_rfl
theorem hb9 : hasBody Tryz.prog 9 = true := by kernel_rfl

theorem impl_stateValid_ok {N : Nat} {p0 : RImage} {p1 : RState} {r : Bool} (h0 : impl_stateValid N p0 p1 = some r) : ACalls Tryz.prog 24 [(.agg (eRImage p0)), (.agg (eRState p1))] [] (fun v st => v = (.bool r) ∧ st = []) := by
 unfold impl_stateValid at h0
 refine ACalls.intro Tryz.func24 rfl (by show 2 ≤ 188; decide) ?_
 show AW _ 0 _ (aret _ 0 Tryz.f24 _) ⟨188, _, _⟩
 refine AW.weaken (Wk.to (L := [(0, (.agg (eRImage p0))), (1, (.agg (eRState p1)))]) ⟨.rfl, .rfl, trivial⟩) ?_
 refine sr rfl fun K1 hK1 => ?_
 refine ao_box (m := 0) (st' := [⟨0, 37, 2, [(eRImage p0)]⟩]) go0 rfl rfl rfl rfl rfl ?_
 refine ao_box (m := 1) (st' := [⟨0, 37, 2, [(eRImage p0)]⟩, ⟨0, 42, 7, [(eRState p1)]⟩]) go0 rfl rfl rfl rfl rfl ?_
 refine zq tb rfl ?_
 refine dn hK1 rfl ?_
 refine AW.seq fun K2 hK2 => ?_
 refine AW.seq fun K3 hK3 => ?_
 obtain ⟨o5, h1, h0⟩ := Sh.bind_some h0
 have M5 : ∀ (t4 : Bool), o5 = t4 → ∀ s, Wk 0 s ⟨188, envL [(2, (.ptr 0 0 0 0)), (3, (.ptr 1 0 0 0)), (45, (.bool t4))], [⟨0, 37, 2, [(eRImage p0)]⟩, ⟨0, 42, 7, [(eRState p1)]⟩]⟩ → K3 s := by
  intro t4 hq s hw
  subst o5
  try dsimp only at h0
  refine hK3 _ (AW.weaken hw ?_)
  refine ci h0 rfl ?_ ?_ <;> clear h0
  ·intro b6 h0
   refine sr rfl fun K7 hK7 => ?_
   refine zq tb rfl ?_
   refine dn hK7 rfl ?_
   replace h0 := Sh.some_eq h0
   subst r
   exact AW.ret (xr (Wk.d0 [(4, (.bool false))] rfl))
  ·intro b6 h0
   refine AW.skip (hK2 _ ?_)
   refine AW.seq fun K8 hK8 => ?_
   refine AW.seq fun K9 hK9 => ?_
   obtain ⟨o11, h1, h0⟩ := Sh.bind_some h0
   have M11 : ∀ (t10 : Bool), o11 = t10 → ∀ s, Wk 0 s ⟨188, envL [(2, (.ptr 0 0 0 0)), (3, (.ptr 1 0 0 0)), (74, (.bool t10))], [⟨0, 37, 2, [(eRImage p0)]⟩, ⟨0, 42, 7, [(eRState p1)]⟩]⟩ → K9 s := by
    intro t10 hq s hw
    subst o11
    try dsimp only at h0
    refine hK9 _ (AW.weaken hw ?_)
    refine ci h0 rfl ?_ ?_ <;> clear h0
    ·intro b12 h0
     refine sr rfl fun K13 hK13 => ?_
     refine zq tb rfl ?_
     refine dn hK13 rfl ?_
     replace h0 := Sh.some_eq h0
     subst r
     exact AW.ret (xr (Wk.d0 [(4, (.bool false))] rfl))
    ·intro b12 h0
     refine AW.skip (hK8 _ ?_)
     refine sr rfl fun K14 hK14 => ?_
     iterate 2 refine zq tb rfl ?_
     obtain ⟨q15, gq15, h0⟩ := Sh.bind_some h0
     refine ao_call (v' := (.tup [(.own 2 0 (List.length q15.1)), (.bool q15.2)])) (st' := [⟨0, 37, 2, [(eRImage p0)]⟩, ⟨0, 42, 7, [(eRState p1)]⟩, ⟨0, 3, 1, List.map eI q15.1⟩]) go0 hb48 (impl_checkedHeap_ok gq15) rfl rfl ⟨(pure_map' fun _ => rfl), trivial⟩ rfl rfl ?_
     iterate 5 refine zq tb rfl ?_
     refine dn hK14 rfl ?_
     refine AW.seq fun K16 hK16 => ?_
     refine AW.seq fun K17 hK17 => ?_
     obtain ⟨o19, h1, h0⟩ := Sh.bind_some h0
     have M19 : ∀ (t18 : Bool), o19 = t18 → ∀ s, Wk 0 s ⟨188, envL [(2, (.ptr 0 0 0 0)), (3, (.ptr 1 0 0 0)), (5, (.own 2 0 (List.length q15.1))), (87, (.bool t18))], [⟨0, 37, 2, [(eRImage p0)]⟩, ⟨0, 42, 7, [(eRState p1)]⟩, ⟨0, 3, 1, List.map eI q15.1⟩]⟩ → K17 s := by
      intro t18 hq s hw
      subst o19
      try dsimp only at h0
      refine hK17 _ (AW.weaken hw ?_)
      refine ci h0 rfl ?_ ?_ <;> clear h0
      ·intro b20 h0
       refine sr rfl fun K21 hK21 => ?_
       refine zq tb rfl ?_
       refine dn hK21 rfl ?_
       replace h0 := Sh.some_eq h0
       subst r
       exact AW.ret (xr (Wk.d0 [(4, (.bool false))] rfl))
      ·intro b20 h0
       refine AW.skip (hK16 _ ?_)
       refine sr rfl fun K22 hK22 => ?_
       iterate 2 refine zq tb rfl ?_
       refine zl tb rfl rfl ?_
       obtain ⟨l23, gl23, h0⟩ := Sh.bind_some h0
       refine ao_make (m := 3) (st' := [⟨0, 37, 2, [(eRImage p0)]⟩, ⟨0, 42, 7, [(eRState p1)]⟩, ⟨0, 3, 1, List.map eI q15.1⟩, ⟨0, 3, 1, List.map eI l23⟩]) (enc := eI) (u := 0) go0 ei26 rfl rfl rfl gl23 rfl rfl ?_
       refine zq tb rfl ?_
       refine dn hK22 rfl ?_
       refine AW.seq fun K24 hK24 => ?_
       refine sr rfl fun K25 hK25 => ?_
       iterate 2 refine zq tb rfl ?_
       refine zl tb rfl rfl ?_
       refine zq tb rfl ?_
       refine dn hK25 rfl ?_
       obtain ⟨o31, h1, h0⟩ := Sh.cont_some h0
       have M31 : ∀ (l29 : (List Int)) (l30 : (List Int)), o31 = Sum.inr (l29, l30) → ∀ s, Wk 0 s ⟨188, envL [(3, (.ptr 0 0 0 0)), (5, (.own 1 0 (List.length l29))), (7, (.own 2 0 (List.length l30)))], [⟨0, 42, 7, [(eRState p1)]⟩, ⟨0, 3, 1, List.map eI l29⟩, ⟨0, 3, 1, List.map eI l30⟩]⟩ → K24 s := by
        intro l29 l30 hq s hw
        subst o31
        try dsimp only at h0
        refine hK24 _ (AW.weaken hw ?_)
        refine AW.seq fun K32 hK32 => ?_
        refine sr rfl fun K33 hK33 => ?_
        iterate 2 refine zq tb rfl ?_
        refine zl tb rfl rfl ?_
        refine zq tb rfl ?_
        refine dn hK33 rfl ?_
        obtain ⟨o35, h1, h0⟩ := Sh.cont_some h0
        have M35 : ∀ (_ : Unit), o35 = Sum.inr () → ∀ s, Wk 0 s ⟨188, envL [], []⟩ → K32 s := by
         intro _ hq s hw
         subst o35
         try dsimp only at h0
         refine hK32 _ (AW.weaken hw ?_)
         refine sr rfl fun K36 hK36 => ?_
         refine zq tb rfl ?_
         refine dn hK36 rfl ?_
         replace h0 := Sh.some_eq h0
         subst r
         exact AW.ret (xr (Wk.to (L := [(4, (.bool true))]) ⟨.rfl, trivial⟩))
        refine AW.block (AW.loopF (σ := Int) (fun n v => impl_stateValid_L2 l29 l30 p1 n v = some o35) (fun t34 => ⟨188, envL [(5, (.own 0 0 (List.length l29))), (7, (.own 1 0 (List.length l30))), (156, (.sl (List.map eCell p1.heap))), (157, (i64 (Sh.len p1.heap))), (158, (i64 t34))], [⟨0, 3, 1, List.map eI l29⟩, ⟨0, 3, 1, List.map eI l30⟩]⟩) N 0 h1 (Wk.permk (L := [(5, (.own 0 0 (List.length l29))), (7, (.own 1 0 (List.length l30))), (156, (.sl (List.map eCell p1.heap))), (157, (i64 (Sh.len p1.heap))), (158, (i64 0))]) (st' := [⟨0, 3, 1, List.map eI l29⟩, ⟨0, 3, 1, List.map eI l30⟩]) (st1 := [⟨0, 3, 1, List.map eI l29⟩, ⟨0, 3, 1, List.map eI l30⟩]) [1, 2] rfl .nil (by decide) rfl rfl (.pure (pure_map fun _ => rfl) (.pure (pure_map fun _ => rfl) .nil)) ⟨.rfl, .rfl, .rfl, .rfl, .rfl, trivial⟩) (fun _ hv => by rw [impl_stateValid_L2] at hv; cases hv) ?_)
        rintro n t34 h1
        try dsimp only at h1 ⊢
        rw [impl_stateValid_L2] at h1
        refine sr rfl fun K37 hK37 => ?_
        refine zq tb rfl ?_
        refine dn hK37 rfl ?_
        refine AW.seq fun K38 hK38 => ?_
        refine ci h1 rfl ?_ ?_ <;> clear h1
        ·intro b39 h1
         refine AW.skip (hK38 _ ?_)
         refine AW.seq fun K40 hK40 => ?_
         refine AW.block ?_
         refine sr rfl fun K41 hK41 => ?_
         refine zq tb rfl ?_
         obtain ⟨c42, gc42, h1⟩ := Sh.bind_some h1
         refine zx ei39 gc42 rfl rfl rfl ?_
         refine zq tb rfl ?_
         refine ao_alloc (m := 2) (st' := [⟨0, 3, 1, List.map eI l29⟩, ⟨0, 3, 1, List.map eI l30⟩, ⟨0, 90, 3, [[(i64 0), (i64 0), .zc]]⟩]) go0 zi90 rfl rfl ?_
         refine zq tb rfl ?_
         refine ao_str (st' := [⟨0, 3, 1, List.map eI l29⟩, ⟨0, 3, 1, List.map eI l30⟩, ⟨0, 90, 3, [(eCell c42)]⟩]) go0 ti90 rfl rfl rfl rfl rfl rfl (show 0 + 3 ≤ 3 by decide) rfl ?_
         refine dn hK41 rfl ?_
         refine AW.seq fun K43 hK43 => ?_
         obtain ⟨o45, h2, h1⟩ := Sh.bind_some h1
         have M45 : ∀ (t44 : Bool), o45 = t44 → ∀ s, Wk 0 s ⟨188, envL [(5, (.own 0 0 (List.length l29))), (7, (.own 1 0 (List.length l30))), (156, (.sl (List.map eCell p1.heap))), (157, (i64 (Sh.len p1.heap))), (158, (i64 t34)), (186, (.bool t44))], [⟨0, 3, 1, List.map eI l29⟩, ⟨0, 3, 1, List.map eI l30⟩]⟩ → K43 s := by
          intro t44 hq s hw
          subst o45
          try dsimp only at h1
          refine hK43 _ (AW.weaken hw ?_)
          refine ci h1 rfl ?_ ?_ <;> clear h1
          ·intro b46 h1
           refine sr rfl fun K47 hK47 => ?_
           refine zq tb rfl ?_
           refine dn hK47 rfl ?_
           replace h1 := Sh.some_eq h1
           subst o35
           try dsimp only [id] at h0
           replace h0 := Sh.some_eq h0
           subst r
           exact AW.ret (xr (Wk.d0 [(4, (.bool false))] rfl))
          ·intro b46 h1
           refine AW.skip (hK40 _ ?_)
           refine AW.regionO (by rfl) ?_
           iterate 2 refine zq tb rfl ?_
           exact AO.done (xi (Sh.w (t34 + 1)) h1 (Wk.tr rfl))
         refine AW.draw (by kernel_rfl) (by kernel_rfl) (by rfl) ?_
         iterate 4 refine yq tb rfl ?_
         rcases Sh.ite_some h2 with ⟨b48, h2⟩ | ⟨b48, h2⟩
         ·refine yg tb b48 rfl ?_
          iterate 3 refine yg tb b48 rfl ?_
          obtain ⟨c49, gc49, h2⟩ := Sh.bind_some h2
          refine d_q (v := (.ptr 0 0 (Int.toNat t34) 0)) (go1 rfl rfl b48) rfl (aq_ixo ei26 rfl rfl rfl rfl gc49) ?_
          refine d_q (v := (i64 c49)) (go1 rfl rfl b48) rfl (aq_ldp ti3 rfl rfl (map_get gc49) rfl) ?_
          refine yg tb b48 rfl ?_
          refine yt b48 rfl ?_
          refine yq tb rfl ?_
          rcases Sh.ite_some h2 with ⟨b50, h2⟩ | ⟨b50, h2⟩
          ·refine ys b50 rfl ?_
           iterate 3 refine ys b50 rfl ?_
           iterate 5 refine yn rfl ?_
           refine ys b50 rfl ?_
           refine yt b50 rfl ?_
           exact d_done (M45 true (Sh.some_eq h2).symm _ (Wk.permk (L := [(5, (.own 0 0 (List.length l29))), (7, (.own 1 0 (List.length l30))), (156, (.sl (List.map eCell p1.heap))), (157, (i64 (Sh.len p1.heap))), (158, (i64 t34)), (186, (.bool true))]) (st' := [⟨0, 3, 1, List.map eI l29⟩, ⟨0, 3, 1, List.map eI l30⟩]) (st1 := [⟨0, 3, 1, List.map eI l29⟩, ⟨0, 3, 1, List.map eI l30⟩]) [0, 1] rfl .nil (by decide) rfl rfl (.pure (pure_map fun _ => rfl) (.pure (pure_map fun _ => rfl) .nil)) ⟨.rfl, .rfl, .rfl, .rfl, .rfl, .rfl, trivial⟩))
          ·refine yg tb b50 rfl ?_
           iterate 3 refine yg tb b50 rfl ?_
           rcases Sh.ite_some h2 with ⟨b51, h2⟩ | ⟨b51, h2⟩
           ·refine yg tb b51 rfl ?_
            refine yg tb b51 rfl ?_
            obtain ⟨c52, gc52, h2⟩ := Sh.bind_some h2
            refine d_q (v := (.ptr 1 0 (Int.toNat t34) 0)) (go1 rfl rfl b51) rfl (aq_ixo ei26 rfl rfl rfl rfl gc52) ?_
            refine d_q (v := (i64 c52)) (go1 rfl rfl b51) rfl (aq_ldp ti3 rfl rfl (map_get gc52) rfl) ?_
            refine yg tb b51 rfl ?_
            refine d_q (v := (.bool (!decide (c52 = 1)))) (go1 rfl rfl b50) rfl (aq_pkt rfl b51 rfl) ?_
            refine yf b50 rfl ?_
            exact d_done (M45 (!decide (c52 = 1)) (Sh.some_eq h2).symm _ (Wk.permk (L := [(5, (.own 0 0 (List.length l29))), (7, (.own 1 0 (List.length l30))), (156, (.sl (List.map eCell p1.heap))), (157, (i64 (Sh.len p1.heap))), (158, (i64 t34)), (186, (.bool (!decide (c52 = 1))))]) (st' := [⟨0, 3, 1, List.map eI l29⟩, ⟨0, 3, 1, List.map eI l30⟩]) (st1 := [⟨0, 3, 1, List.map eI l29⟩, ⟨0, 3, 1, List.map eI l30⟩]) [0, 1] rfl .nil (by decide) rfl rfl (.pure (pure_map fun _ => rfl) (.pure (pure_map fun _ => rfl) .nil)) ⟨.rfl, .rfl, .rfl, .rfl, .rfl, .rfl, trivial⟩))
           ·refine ys b51 rfl ?_
            iterate 4 refine ys b51 rfl ?_
            refine d_q (v := (.bool false)) (go1 rfl rfl b50) rfl (aq_pkf rfl b51 rfl) ?_
            refine yf b50 rfl ?_
            exact d_done (M45 false (Sh.some_eq h2).symm _ (Wk.permk (L := [(5, (.own 0 0 (List.length l29))), (7, (.own 1 0 (List.length l30))), (156, (.sl (List.map eCell p1.heap))), (157, (i64 (Sh.len p1.heap))), (158, (i64 t34)), (186, (.bool false))]) (st' := [⟨0, 3, 1, List.map eI l29⟩, ⟨0, 3, 1, List.map eI l30⟩]) (st1 := [⟨0, 3, 1, List.map eI l29⟩, ⟨0, 3, 1, List.map eI l30⟩]) [0, 1] rfl .nil (by decide) rfl rfl (.pure (pure_map fun _ => rfl) (.pure (pure_map fun _ => rfl) .nil)) ⟨.rfl, .rfl, .rfl, .rfl, .rfl, .rfl, trivial⟩))
         ·refine ys b48 rfl ?_
          iterate 6 refine ys b48 rfl ?_
          refine yf b48 rfl ?_
          refine yq tb rfl ?_
          iterate 4 refine yg tb rfl rfl ?_
          rcases Sh.ite_some h2 with ⟨b53, h2⟩ | ⟨b53, h2⟩
          ·refine yg tb b53 rfl ?_
           refine yg tb b53 rfl ?_
           obtain ⟨c54, gc54, h2⟩ := Sh.bind_some h2
           refine d_q (v := (.ptr 1 0 (Int.toNat t34) 0)) (go1 rfl rfl b53) rfl (aq_ixo ei26 rfl rfl rfl rfl gc54) ?_
           refine d_q (v := (i64 c54)) (go1 rfl rfl b53) rfl (aq_ldp ti3 rfl rfl (map_get gc54) rfl) ?_
           refine yg tb b53 rfl ?_
           refine d_q (v := (.bool (!decide (c54 = 1)))) (go1 rfl rfl rfl) rfl (aq_pkt rfl b53 rfl) ?_
           refine yf rfl rfl ?_
           exact d_done (M45 (!decide (c54 = 1)) (Sh.some_eq h2).symm _ (Wk.permk (L := [(5, (.own 0 0 (List.length l29))), (7, (.own 1 0 (List.length l30))), (156, (.sl (List.map eCell p1.heap))), (157, (i64 (Sh.len p1.heap))), (158, (i64 t34)), (186, (.bool (!decide (c54 = 1))))]) (st' := [⟨0, 3, 1, List.map eI l29⟩, ⟨0, 3, 1, List.map eI l30⟩]) (st1 := [⟨0, 3, 1, List.map eI l29⟩, ⟨0, 3, 1, List.map eI l30⟩]) [0, 1] rfl .nil (by decide) rfl rfl (.pure (pure_map fun _ => rfl) (.pure (pure_map fun _ => rfl) .nil)) ⟨.rfl, .rfl, .rfl, .rfl, .rfl, .rfl, trivial⟩))
          ·refine ys b53 rfl ?_
           iterate 4 refine ys b53 rfl ?_
           refine d_q (v := (.bool false)) (go1 rfl rfl rfl) rfl (aq_pkf rfl b53 rfl) ?_
           refine yf rfl rfl ?_
           exact d_done (M45 false (Sh.some_eq h2).symm _ (Wk.permk (L := [(5, (.own 0 0 (List.length l29))), (7, (.own 1 0 (List.length l30))), (156, (.sl (List.map eCell p1.heap))), (157, (i64 (Sh.len p1.heap))), (158, (i64 t34)), (186, (.bool false))]) (st' := [⟨0, 3, 1, List.map eI l29⟩, ⟨0, 3, 1, List.map eI l30⟩]) (st1 := [⟨0, 3, 1, List.map eI l29⟩, ⟨0, 3, 1, List.map eI l30⟩]) [0, 1] rfl .nil (by decide) rfl rfl (.pure (pure_map fun _ => rfl) (.pure (pure_map fun _ => rfl) .nil)) ⟨.rfl, .rfl, .rfl, .rfl, .rfl, .rfl, trivial⟩))
        ·intro b39 h1
         exact AW.exit (M35 () (Sh.some_eq h1).symm _ (Wk.d0 _ rfl))
       refine AW.block (AW.loopF (σ := Int × (List Int) × (List Int)) (fun n v => impl_stateValid_L1 N p0 p1 n v.1 v.2.1 v.2.2 = some o31) (fun (t26, l27, l28) => ⟨188, envL [(2, (.ptr 0 0 0 0)), (3, (.ptr 1 0 0 0)), (5, (.own 2 0 (List.length l27))), (7, (.own 3 0 (List.length l28))), (93, (.sl (List.map eRFrame p1.frames))), (94, (i64 (Sh.len p1.frames))), (95, (i64 t26))], [⟨0, 37, 2, [(eRImage p0)]⟩, ⟨0, 42, 7, [(eRState p1)]⟩, ⟨0, 3, 1, List.map eI l27⟩, ⟨0, 3, 1, List.map eI l28⟩]⟩) N (0, q15.1, l23) h1 (Wk.tr rfl) (fun _ hv => by rw [impl_stateValid_L1] at hv; cases hv) ?_)
       rintro n ⟨t26, l27, l28⟩ h1
       try dsimp only at h1 ⊢
       rw [impl_stateValid_L1] at h1
       refine sr rfl fun K55 hK55 => ?_
       refine zq tb rfl ?_
       refine dn hK55 rfl ?_
       refine AW.seq fun K56 hK56 => ?_
       refine ci h1 rfl ?_ ?_ <;> clear h1
       ·intro b57 h1
        refine AW.skip (hK56 _ ?_)
        refine AW.seq fun K58 hK58 => ?_
        refine AW.block ?_
        refine sr rfl fun K59 hK59 => ?_
        refine zq tb rfl ?_
        obtain ⟨c60, gc60, h1⟩ := Sh.bind_some h1
        refine zx ei40 gc60 rfl rfl rfl ?_
        refine zq tb rfl ?_
        refine ao_alloc (m := 4) (st' := [⟨0, 37, 2, [(eRImage p0)]⟩, ⟨0, 42, 7, [(eRState p1)]⟩, ⟨0, 3, 1, List.map eI l27⟩, ⟨0, 3, 1, List.map eI l28⟩, ⟨0, 92, 6, [[(i64 0), (i64 0), (i64 0), .zc, .zc, .zc]]⟩]) go0 zi92 rfl rfl ?_
        refine zq tb rfl ?_
        refine ao_str (st' := [⟨0, 37, 2, [(eRImage p0)]⟩, ⟨0, 42, 7, [(eRState p1)]⟩, ⟨0, 3, 1, List.map eI l27⟩, ⟨0, 3, 1, List.map eI l28⟩, ⟨0, 92, 6, [(eRFrame c60)]⟩]) go0 ti92 rfl rfl rfl rfl rfl rfl (show 0 + 6 ≤ 6 by decide) rfl ?_
        refine dn hK59 rfl ?_
        refine AW.seq fun K61 hK61 => ?_
        refine sr rfl fun K62 hK62 => ?_
        iterate 2 refine zq tb rfl ?_
        obtain ⟨q63, gq63, h1⟩ := Sh.bind_some h1
        refine zc hb51 (impl_frameValid_ok gq63) rfl rfl rfl ?_
        refine zq tb rfl ?_
        refine dn hK62 rfl ?_
        refine ci h1 rfl ?_ ?_ <;> clear h1
        ·intro b64 h1
         have b65 : q63 = false := by simpa using b64
         refine sr rfl fun K66 hK66 => ?_
         refine zq tb rfl ?_
         refine dn hK66 rfl ?_
         replace h1 := Sh.some_eq h1
         subst o31
         try dsimp only [id] at h0
         replace h0 := Sh.some_eq h0
         subst r
         exact AW.ret (xr (Wk.d0 [(4, (.bool false))] rfl))
        ·intro b64 h1
         have b67 : q63 = true := by simpa using b64
         refine AW.skip (hK61 _ ?_)
         refine AW.seq fun K68 hK68 => ?_
         refine AW.seq fun K69 hK69 => ?_
         obtain ⟨o71, h2, h1⟩ := Sh.bind_some h1
         have M71 : ∀ (t70 : Bool), o71 = t70 → ∀ s, Wk 0 s ⟨188, envL [(2, (.ptr 0 0 0 0)), (3, (.ptr 1 0 0 0)), (5, (.own 2 0 (List.length l27))), (7, (.own 3 0 (List.length l28))), (9, (.ptr 4 0 0 0)), (93, (.sl (List.map eRFrame p1.frames))), (94, (i64 (Sh.len p1.frames))), (95, (i64 t26)), (146, (.bool t70))], [⟨0, 37, 2, [(eRImage p0)]⟩, ⟨0, 42, 7, [(eRState p1)]⟩, ⟨0, 3, 1, List.map eI l27⟩, ⟨0, 3, 1, List.map eI l28⟩, ⟨0, 92, 6, [(eRFrame c60)]⟩]⟩ → K69 s := by
          intro t70 hq s hw
          subst o71
          try dsimp only at h1
          refine hK69 _ (AW.weaken hw ?_)
          refine ci h1 rfl ?_ ?_ <;> clear h1
          ·intro b72 h1
           refine sr rfl fun K73 hK73 => ?_
           refine zq tb rfl ?_
           refine dn hK73 rfl ?_
           replace h1 := Sh.some_eq h1
           subst o31
           try dsimp only [id] at h0
           replace h0 := Sh.some_eq h0
           subst r
           exact AW.ret (xr (Wk.d0 [(4, (.bool false))] rfl))
          ·intro b72 h1
           refine AW.skip (hK68 _ ?_)
           refine sr rfl fun K74 hK74 => ?_
           iterate 5 refine zq tb rfl ?_
           obtain ⟨q75, gq75, h1⟩ := Sh.bind_some h1
           refine ao_callsL (rowsP := [⟨0, 3, 1, List.map eI l27⟩, ⟨0, 3, 1, List.map eI l28⟩]) (rows0 := [⟨0, 3, 1, List.map eI l27⟩, ⟨0, 3, 1, List.map eI l28⟩]) (rows1 := [⟨0, 3, 1, List.map eI q75.2.1⟩, ⟨0, 3, 1, List.map eI q75.2.2⟩]) (rows2 := []) (rows1' := [⟨0, 3, 1, List.map eI q75.2.1⟩, ⟨0, 3, 1, List.map eI q75.2.2⟩]) (rows2' := []) (st' := [⟨0, 37, 2, [(eRImage p0)]⟩, ⟨0, 42, 7, [(eRState p1)]⟩, ⟨0, 3, 1, List.map eI q75.2.1⟩, ⟨0, 3, 1, List.map eI q75.2.2⟩, ⟨0, 92, 6, [(eRFrame c60)]⟩]) (v' := (.bool q75.1)) [2, 3] go0 hb52 (impl_Frame_tally_ok gq75) rfl (by decide) rfl rfl (.pure (pure_map fun _ => rfl) (.pure (pure_map fun _ => rfl) .nil)) rfl rfl (.pure (pure_map fun _ => rfl) (.pure (pure_map fun _ => rfl) .nil)) .nil rfl rfl (fun hln => ?_)
           have ln76 : List.length q75.2.1 = List.length l27 := by simpa only [List.length_map] using hln 0 _ _ rfl rfl rfl
           have ln77 : List.length q75.2.2 = List.length l28 := by simpa only [List.length_map] using hln 1 _ _ rfl rfl rfl
           refine zq tb rfl ?_
           refine dn hK74 rfl ?_
           refine ci h1 rfl ?_ ?_ <;> clear h1
           ·intro b78 h1
            have b79 : q75.1 = false := by simpa using b78
            refine sr rfl fun K80 hK80 => ?_
            refine zq tb rfl ?_
            refine dn hK80 rfl ?_
            replace h1 := Sh.some_eq h1
            subst o31
            try dsimp only [id] at h0
            replace h0 := Sh.some_eq h0
            subst r
            exact AW.ret (xr (Wk.d0 [(4, (.bool false))] rfl))
           ·intro b78 h1
            have b81 : q75.1 = true := by simpa using b78
            refine AW.skip (hK58 _ ?_)
            refine AW.regionO (by rfl) ?_
            iterate 2 refine zq tb rfl ?_
            exact AO.done (xi (Sh.w (t26 + 1), q75.2.1, q75.2.2) h1 (by refine Wk.trans (Wk.permk (L := [(2, (.ptr 0 0 0 0)), (3, (.ptr 1 0 0 0)), (5, (.own 2 0 (List.length l27))), (7, (.own 3 0 (List.length l28))), (93, (.sl (List.map eRFrame p1.frames))), (94, (i64 (Sh.len p1.frames))), (95, (i64 (Sh.w (t26 + 1))))]) (st' := [⟨0, 37, 2, [(eRImage p0)]⟩, ⟨0, 42, 7, [(eRState p1)]⟩, ⟨0, 3, 1, List.map eI q75.2.1⟩, ⟨0, 3, 1, List.map eI q75.2.2⟩]) (st1 := [⟨0, 37, 2, [(eRImage p0)]⟩, ⟨0, 42, 7, [(eRState p1)]⟩, ⟨0, 3, 1, List.map eI q75.2.1⟩, ⟨0, 3, 1, List.map eI q75.2.2⟩]) [0, 1, 2, 3] rfl .nil (by decide) rfl rfl (.raw rfl rfl (.raw rfl rfl (.pure (pure_map fun _ => rfl) (.pure (pure_map fun _ => rfl) .nil)))) ⟨.rfl, .rfl, .rfl, .rfl, .rfl, .rfl, .rfl, trivial⟩) ?_; exact Wk.to (L := [(2, (.ptr 0 0 0 0)), (3, (.ptr 1 0 0 0)), (5, (.own 2 0 (List.length q75.2.1))), (7, (.own 3 0 (List.length q75.2.2))), (93, (.sl (List.map eRFrame p1.frames))), (94, (i64 (Sh.len p1.frames))), (95, (i64 (Sh.w (t26 + 1))))]) ⟨.rfl, .rfl, (.len (by first | (simp only [Sh.put_len]; done) | (simp only [Sh.put_len]; omega) | omega)), (.len (by first | (simp only [Sh.put_len]; done) | (simp only [Sh.put_len]; omega) | omega)), .rfl, .rfl, .rfl, trivial⟩))
         refine AW.draw (by kernel_rfl) (by kernel_rfl) (by rfl) ?_
         iterate 3 refine yq tb rfl ?_
         rcases Sh.ite_some h2 with ⟨b82, h2⟩ | ⟨b82, h2⟩
         ·refine yg tb b82 rfl ?_
          iterate 2 refine yg tb b82 rfl ?_
          refine yt b82 rfl ?_
          refine yq tb rfl ?_
          rcases Sh.ite_some h2 with ⟨b83, h2⟩ | ⟨b83, h2⟩
          ·refine ys b83 rfl ?_
           iterate 2 refine ys b83 rfl ?_
           iterate 30 refine yn rfl ?_
           refine ys b83 rfl ?_
           refine yt b83 rfl ?_
           exact d_done (M71 true (Sh.some_eq h2).symm _ (Wk.tr rfl))
          ·refine yg tb b83 rfl ?_
           iterate 2 refine yg tb b83 rfl ?_
           rcases Sh.ite_some h2 with ⟨b84, h2⟩ | ⟨b84, h2⟩
           ·refine yg tb b84 rfl ?_
            iterate 3 refine yg tb b84 rfl ?_
            rcases Sh.ite_some h2 with ⟨b85, h2⟩ | ⟨b85, h2⟩
            ·refine ys b85 rfl ?_
             iterate 10 refine ys b85 rfl ?_
             refine d_q (v := (.bool true)) (go1 rfl rfl b84) rfl (aq_pkt rfl b85 rfl) ?_
             refine yg tb b84 rfl ?_
             iterate 12 refine ys rfl rfl ?_
             refine d_q (v := (.bool true)) (go1 rfl rfl b84) rfl (aq_pkt rfl rfl rfl) ?_
             refine d_q (v := (.bool true)) (go1 rfl rfl b83) rfl (aq_pkt rfl b84 rfl) ?_
             refine yf b83 rfl ?_
             exact d_done (M71 true (Sh.some_eq h2).symm _ (Wk.tr rfl))
            ·refine yg tb b85 rfl ?_
             iterate 5 refine yg tb b85 rfl ?_
             obtain ⟨c86, gc86, h2⟩ := Sh.bind_some h2
             refine d_q (v := (.iptr (eRFrame c86) 0)) (go1 rfl rfl b85) rfl (aq_ixs ei40 rfl rfl gc86 rfl) ?_
             iterate 2 refine yg tb b85 rfl ?_
             refine d_q (v := (i64 (Sh.len c86.own))) (go1 rfl rfl b85) rfl (aq_lens sl26 rfl) ?_
             refine yg tb b85 rfl ?_
             refine d_q (v := (.bool (decide ((Sh.len c86.own) ≤ c60.dst)))) (go1 rfl rfl b84) rfl (aq_pkf rfl b85 rfl) ?_
             refine yg tb b84 rfl ?_
             rcases Sh.ite_some h2 with ⟨b87, h2⟩ | ⟨b87, h2⟩
             ·refine ys b87 rfl ?_
              iterate 11 refine ys b87 rfl ?_
              refine d_q (v := (.bool true)) (go1 rfl rfl b84) rfl (aq_pkt rfl b87 rfl) ?_
              refine d_q (v := (.bool true)) (go1 rfl rfl b83) rfl (aq_pkt rfl b84 rfl) ?_
              refine yf b83 rfl ?_
              exact d_done (M71 true (Sh.some_eq h2).symm _ (Wk.tr rfl))
             ·refine yg tb b87 rfl ?_
              iterate 3 refine yg tb b87 rfl ?_
              refine d_q (v := (.iptr (eRFrame c86) 0)) (go1 rfl rfl b87) rfl (aq_ixs ei40 rfl rfl gc86 rfl) ?_
              iterate 4 refine yg tb b87 rfl ?_
              obtain ⟨c88, gc88, h2⟩ := Sh.bind_some h2
              refine d_q (v := (.iptr (eI c88) 0)) (go1 rfl rfl b87) rfl (aq_ixs ei26 rfl rfl gc88 rfl) ?_
              iterate 2 refine yg tb b87 rfl ?_
              refine d_q (v := (.bool (!decide (c88 = 0)))) (go1 rfl rfl b84) rfl (aq_pkf rfl b87 rfl) ?_
              refine d_q (v := (.bool (!decide (c88 = 0)))) (go1 rfl rfl b83) rfl (aq_pkt rfl b84 rfl) ?_
              refine yf b83 rfl ?_
              exact d_done (M71 (!decide (c88 = 0)) (Sh.some_eq h2).symm _ (Wk.tr rfl))
           ·refine ys b84 rfl ?_
            iterate 3 refine ys b84 rfl ?_
            iterate 11 refine yn rfl ?_
            iterate 2 refine ys b84 rfl ?_
            iterate 12 refine yn rfl ?_
            refine ys b84 rfl ?_
            refine d_q (v := (.bool false)) (go1 rfl rfl b83) rfl (aq_pkf rfl b84 rfl) ?_
            refine yf b83 rfl ?_
            exact d_done (M71 false (Sh.some_eq h2).symm _ (Wk.tr rfl))
         ·refine ys b82 rfl ?_
          iterate 2 refine ys b82 rfl ?_
          refine yf b82 rfl ?_
          refine yq tb rfl ?_
          iterate 3 refine yg tb rfl rfl ?_
          rcases Sh.ite_some h2 with ⟨b89, h2⟩ | ⟨b89, h2⟩
          ·refine yg tb b89 rfl ?_
           iterate 3 refine yg tb b89 rfl ?_
           rcases Sh.ite_some h2 with ⟨b90, h2⟩ | ⟨b90, h2⟩
           ·refine ys b90 rfl ?_
            iterate 10 refine ys b90 rfl ?_
            refine d_q (v := (.bool true)) (go1 rfl rfl b89) rfl (aq_pkt rfl b90 rfl) ?_
            refine yg tb b89 rfl ?_
            iterate 12 refine ys rfl rfl ?_
            refine d_q (v := (.bool true)) (go1 rfl rfl b89) rfl (aq_pkt rfl rfl rfl) ?_
            refine d_q (v := (.bool true)) (go1 rfl rfl rfl) rfl (aq_pkt rfl b89 rfl) ?_
            refine yf rfl rfl ?_
            exact d_done (M71 true (Sh.some_eq h2).symm _ (Wk.tr rfl))
           ·refine yg tb b90 rfl ?_
            iterate 5 refine yg tb b90 rfl ?_
            obtain ⟨c91, gc91, h2⟩ := Sh.bind_some h2
            refine d_q (v := (.iptr (eRFrame c91) 0)) (go1 rfl rfl b90) rfl (aq_ixs ei40 rfl rfl gc91 rfl) ?_
            iterate 2 refine yg tb b90 rfl ?_
            refine d_q (v := (i64 (Sh.len c91.own))) (go1 rfl rfl b90) rfl (aq_lens sl26 rfl) ?_
            refine yg tb b90 rfl ?_
            refine d_q (v := (.bool (decide ((Sh.len c91.own) ≤ c60.dst)))) (go1 rfl rfl b89) rfl (aq_pkf rfl b90 rfl) ?_
            refine yg tb b89 rfl ?_
            rcases Sh.ite_some h2 with ⟨b92, h2⟩ | ⟨b92, h2⟩
            ·refine ys b92 rfl ?_
             iterate 11 refine ys b92 rfl ?_
             refine d_q (v := (.bool true)) (go1 rfl rfl b89) rfl (aq_pkt rfl b92 rfl) ?_
             refine d_q (v := (.bool true)) (go1 rfl rfl rfl) rfl (aq_pkt rfl b89 rfl) ?_
             refine yf rfl rfl ?_
             exact d_done (M71 true (Sh.some_eq h2).symm _ (Wk.tr rfl))
            ·refine yg tb b92 rfl ?_
             iterate 3 refine yg tb b92 rfl ?_
             refine d_q (v := (.iptr (eRFrame c91) 0)) (go1 rfl rfl b92) rfl (aq_ixs ei40 rfl rfl gc91 rfl) ?_
             iterate 4 refine yg tb b92 rfl ?_
             obtain ⟨c93, gc93, h2⟩ := Sh.bind_some h2
             refine d_q (v := (.iptr (eI c93) 0)) (go1 rfl rfl b92) rfl (aq_ixs ei26 rfl rfl gc93 rfl) ?_
             iterate 2 refine yg tb b92 rfl ?_
             refine d_q (v := (.bool (!decide (c93 = 0)))) (go1 rfl rfl b89) rfl (aq_pkf rfl b92 rfl) ?_
             refine d_q (v := (.bool (!decide (c93 = 0)))) (go1 rfl rfl rfl) rfl (aq_pkt rfl b89 rfl) ?_
             refine yf rfl rfl ?_
             exact d_done (M71 (!decide (c93 = 0)) (Sh.some_eq h2).symm _ (Wk.tr rfl))
          ·refine ys b89 rfl ?_
           iterate 3 refine ys b89 rfl ?_
           iterate 11 refine yn rfl ?_
           iterate 2 refine ys b89 rfl ?_
           iterate 12 refine yn rfl ?_
           refine ys b89 rfl ?_
           refine d_q (v := (.bool false)) (go1 rfl rfl rfl) rfl (aq_pkf rfl b89 rfl) ?_
           refine yf rfl rfl ?_
           exact d_done (M71 false (Sh.some_eq h2).symm _ (Wk.tr rfl))
       ·intro b57 h1
        exact AW.exit (M31 l27 l28 (Sh.some_eq h1).symm _ (Wk.permk (L := [(3, (.ptr 0 0 0 0)), (5, (.own 1 0 (List.length l27))), (7, (.own 2 0 (List.length l28)))]) (st' := [⟨0, 42, 7, [(eRState p1)]⟩, ⟨0, 3, 1, List.map eI l27⟩, ⟨0, 3, 1, List.map eI l28⟩]) (st1 := [⟨0, 42, 7, [(eRState p1)]⟩, ⟨0, 3, 1, List.map eI l27⟩, ⟨0, 3, 1, List.map eI l28⟩]) [1, 2, 3] rfl .nil (by decide) rfl rfl (.raw rfl rfl (.pure (pure_map fun _ => rfl) (.pure (pure_map fun _ => rfl) .nil))) ⟨.rfl, .rfl, .rfl, trivial⟩))
     refine AW.regionO (by rfl) ?_
     iterate 3 refine zq tb rfl ?_
     rcases Sh.ite_some h1 with ⟨b94, h1⟩ | ⟨b94, h1⟩
     ·refine zs b94 rfl ?_
      iterate 2 refine zs b94 rfl ?_
      refine zt b94 rfl ?_
      exact AO.done (M19 true (Sh.some_eq h1).symm _ (Wk.tr rfl))
     ·refine zg tb b94 rfl ?_
      refine zg tb b94 rfl ?_
      obtain ⟨q95, gq95, h1⟩ := Sh.bind_some h1
      refine zd b94 hb49 (slices_ContainsFunc_int_int_2_ok gq95) rfl rfl rfl rfl ?_
      refine zf b94 rfl ?_
      exact AO.done (M19 q95 (Sh.some_eq h1).symm _ (Wk.tr rfl))
   refine AW.regionO (by rfl) ?_
   iterate 4 refine zq tb rfl ?_
   rcases Sh.ite_some h1 with ⟨b96, h1⟩ | ⟨b96, h1⟩
   ·refine zs b96 rfl ?_
    iterate 2 refine zs b96 rfl ?_
    refine zt b96 rfl ?_
    refine zq tb rfl ?_
    iterate 3 refine zs rfl rfl ?_
    refine zt rfl rfl ?_
    refine zq tb rfl ?_
    iterate 5 refine zs rfl rfl ?_
    refine zt rfl rfl ?_
    refine zq tb rfl ?_
    iterate 7 refine zs rfl rfl ?_
    refine zt rfl rfl ?_
    exact AO.done (M11 true (Sh.some_eq h1).symm _ (Wk.tr rfl))
   ·refine zg tb b96 rfl ?_
    iterate 2 refine zg tb b96 rfl ?_
    refine zf b96 rfl ?_
    refine zq tb rfl ?_
    rcases Sh.ite_some h1 with ⟨b97, h1⟩ | ⟨b97, h1⟩
    ·refine zs b97 rfl ?_
     iterate 2 refine zs b97 rfl ?_
     refine zt b97 rfl ?_
     refine zq tb rfl ?_
     iterate 5 refine zs rfl rfl ?_
     refine zt rfl rfl ?_
     refine zq tb rfl ?_
     iterate 7 refine zs rfl rfl ?_
     refine zt rfl rfl ?_
     exact AO.done (M11 true (Sh.some_eq h1).symm _ (Wk.tr rfl))
    ·refine zg tb b97 rfl ?_
     iterate 2 refine zg tb b97 rfl ?_
     refine zf b97 rfl ?_
     refine zq tb rfl ?_
     rcases Sh.ite_some h1 with ⟨b98, h1⟩ | ⟨b98, h1⟩
     ·refine zs b98 rfl ?_
      iterate 4 refine zs b98 rfl ?_
      refine zt b98 rfl ?_
      refine zq tb rfl ?_
      iterate 7 refine zs rfl rfl ?_
      refine zt rfl rfl ?_
      exact AO.done (M11 true (Sh.some_eq h1).symm _ (Wk.tr rfl))
     ·refine zg tb b98 rfl ?_
      iterate 4 refine zg tb b98 rfl ?_
      refine zf b98 rfl ?_
      refine zq tb rfl ?_
      rcases Sh.ite_some h1 with ⟨b99, h1⟩ | ⟨b99, h1⟩
      ·refine zs b99 rfl ?_
       iterate 6 refine zs b99 rfl ?_
       refine zt b99 rfl ?_
       exact AO.done (M11 true (Sh.some_eq h1).symm _ (Wk.tr rfl))
      ·refine zg tb b99 rfl ?_
       refine zg tb b99 rfl ?_
       refine ao_q (v := (i64 (Sh.len p1.frames))) (go1 rfl rfl b99) rfl (aq_lens sl40 rfl) ?_
       iterate 4 refine zg tb b99 rfl ?_
       refine zf b99 rfl ?_
       exact AO.done (M11 (decide ((Sh.w (p1.calls + 1)) < (Sh.len p1.frames))) (Sh.some_eq h1).symm _ (Wk.tr rfl))
 refine AW.regionO (by rfl) ?_
 iterate 4 refine zq tb rfl ?_
 rcases Sh.ite_some h1 with ⟨b100, h1⟩ | ⟨b100, h1⟩
 ·refine zs b100 rfl ?_
  iterate 2 refine zs b100 rfl ?_
  refine zt b100 rfl ?_
  refine zq tb rfl ?_
  iterate 8 refine zs rfl rfl ?_
  refine zt rfl rfl ?_
  refine zq tb rfl ?_
  iterate 4 refine zs rfl rfl ?_
  refine zt rfl rfl ?_
  refine zq tb rfl ?_
  iterate 4 refine zs rfl rfl ?_
  iterate 3 refine zn rfl ?_
  refine zs rfl rfl ?_
  refine zt rfl rfl ?_
  exact AO.done (M5 true (Sh.some_eq h1).symm _ (Wk.tr rfl))
 ·refine zg tb b100 rfl ?_
  iterate 2 refine zg tb b100 rfl ?_
  refine zf b100 rfl ?_
  refine zq tb rfl ?_
  rcases Sh.ite_some h1 with ⟨b101, h1⟩ | ⟨b101, h1⟩
  ·refine zs b101 rfl ?_
   iterate 7 refine zs b101 rfl ?_
   refine zt b101 rfl ?_
   refine zq tb rfl ?_
   iterate 4 refine zs rfl rfl ?_
   refine zt rfl rfl ?_
   refine zq tb rfl ?_
   iterate 4 refine zs rfl rfl ?_
   iterate 3 refine zn rfl ?_
   refine zs rfl rfl ?_
   refine zt rfl rfl ?_
   exact AO.done (M5 true (Sh.some_eq h1).symm _ (Wk.tr rfl))
  ·refine zg tb b101 rfl ?_
   iterate 4 refine zg tb b101 rfl ?_
   refine ao_q (v := (i64 (Sh.len p1.frames))) (go1 rfl rfl b101) rfl (aq_lens sl40 rfl) ?_
   iterate 2 refine zg tb b101 rfl ?_
   refine zf b101 rfl ?_
   refine zq tb rfl ?_
   rcases Sh.ite_some h1 with ⟨b102, h1⟩ | ⟨b102, h1⟩
   ·refine zs b102 rfl ?_
    iterate 3 refine zs b102 rfl ?_
    refine zt b102 rfl ?_
    refine zq tb rfl ?_
    iterate 4 refine zs rfl rfl ?_
    iterate 3 refine zn rfl ?_
    refine zs rfl rfl ?_
    refine zt rfl rfl ?_
    exact AO.done (M5 true (Sh.some_eq h1).symm _ (Wk.tr rfl))
   ·refine zg tb b102 rfl ?_
    refine zg tb b102 rfl ?_
    obtain ⟨q103, gq103, h1⟩ := Sh.bind_some h1
    refine zd b102 hb47 (impl_isInt_ok gq103) rfl rfl rfl rfl ?_
    refine zg tb b102 rfl ?_
    refine zf b102 rfl ?_
    refine zq tb rfl ?_
    rcases Sh.ite_some h1 with ⟨b104, h1⟩ | ⟨b104, h1⟩
    ·refine zs b104 rfl ?_
     iterate 3 refine zs b104 rfl ?_
     iterate 3 refine zn rfl ?_
     refine zs b104 rfl ?_
     refine zt b104 rfl ?_
     exact AO.done (M5 true (Sh.some_eq h1).symm _ (Wk.tr rfl))
    ·refine zg tb b104 rfl ?_
     iterate 3 refine zg tb b104 rfl ?_
     rcases Sh.ite_some h1 with ⟨b105, h1⟩ | ⟨b105, h1⟩
     ·refine zg tb b105 rfl ?_
      iterate 2 refine zg tb b105 rfl ?_
      refine ao_q (v := (.bool (!decide (p1.status = 0)))) (go1 rfl rfl b104) rfl (aq_pkt rfl b105 rfl) ?_
      refine zf b104 rfl ?_
      exact AO.done (M5 (!decide (p1.status = 0)) (Sh.some_eq h1).symm _ (Wk.tr rfl))
     ·refine zs b105 rfl ?_
      iterate 2 refine zs b105 rfl ?_
      refine ao_q (v := (.bool false)) (go1 rfl rfl b104) rfl (aq_pkf rfl b105 rfl) ?_
      refine zf b104 rfl ?_
      exact AO.done (M5 false (Sh.some_eq h1).symm _ (Wk.tr rfl))
theorem impl_ValidState_ok {N : Nat} {p0 : RImage} {p1 : RState} {r : Bool} (h0 : impl_ValidState N p0 p1 = some r) : ACalls Tryz.prog 9 [(.agg (eRImage p0)), (.agg (eRState p1))] [] (fun v st => v = (.bool r) ∧ st = []) := by
 unfold impl_ValidState at h0
 refine ACalls.intro Tryz.func9 rfl (by show 2 ≤ 12; decide) ?_
 show AW _ 0 _ (aret _ 0 Tryz.f9 _) ⟨12, _, _⟩
 refine AW.weaken (Wk.to (L := [(0, (.agg (eRImage p0))), (1, (.agg (eRState p1)))]) ⟨.rfl, .rfl, trivial⟩) ?_
 refine sr rfl fun K1 hK1 => ?_
 refine ao_box (m := 0) (st' := [⟨0, 37, 2, [(eRImage p0)]⟩]) go0 rfl rfl rfl rfl rfl ?_
 refine ao_box (m := 1) (st' := [⟨0, 37, 2, [(eRImage p0)]⟩, ⟨0, 42, 7, [(eRState p1)]⟩]) go0 rfl rfl rfl rfl rfl ?_
 refine zq tb rfl ?_
 refine dn hK1 rfl ?_
 refine AW.seq fun K2 hK2 => ?_
 obtain ⟨o4, h1, h0⟩ := Sh.bind_some h0
 have M4 : ∀ (t3 : Bool), o4 = t3 → ∀ s, Wk 0 s ⟨12, envL [(4, (.bool t3))], []⟩ → K2 s := by
  intro t3 hq s hw
  subst o4
  try dsimp only at h0
  refine hK2 _ (AW.weaken hw ?_)
  replace h0 := Sh.some_eq h0
  subst r
  exact AW.ret (xr (Wk.to (L := [(4, (.bool t3))]) ⟨.rfl, trivial⟩))
 refine AW.regionO (by rfl) ?_
 refine zq tb rfl ?_
 obtain ⟨q5, gq5, h1⟩ := Sh.bind_some h1
 refine zc hb23 (impl_ValidImage_ok gq5) rfl rfl rfl ?_
 refine zq tb rfl ?_
 rcases Sh.ite_some h1 with ⟨b6, h1⟩ | ⟨b6, h1⟩
 ·refine zg tb b6 rfl ?_
  refine zg tb b6 rfl ?_
  obtain ⟨q7, gq7, h1⟩ := Sh.bind_some h1
  refine zd b6 hb24 (impl_stateValid_ok gq7) rfl rfl rfl rfl ?_
  refine zt b6 rfl ?_
  refine zq tb rfl ?_
  exact AO.done (M4 q7 (Sh.some_eq h1).symm _ (Wk.d0 _ rfl))
 ·refine zs b6 rfl ?_
  iterate 2 refine zs b6 rfl ?_
  refine zf b6 rfl ?_
  refine zq tb rfl ?_
  exact AO.done (M4 false (Sh.some_eq h1).symm _ (Wk.d0 _ rfl))
theorem laws_eqIntS_ok {N : Nat} {p0 : (List Int)} {p1 : (List Int)} {r : Bool} (h0 : laws_eqIntS N p0 p1 = some r) : ACalls Tryz.prog 27 [(.sl (List.map eI p0)), (.sl (List.map eI p1))] [] (fun v st => v = (.bool r) ∧ st = []) := by
 unfold laws_eqIntS at h0
 refine ACalls.intro Tryz.func27 rfl (by show 2 ≤ 26; decide) ?_
 show AW _ 0 _ (aret _ 0 Tryz.f27 _) ⟨26, _, _⟩
 refine AW.weaken (Wk.to (L := [(0, (.sl (List.map eI p0))), (1, (.sl (List.map eI p1)))]) ⟨.rfl, .rfl, trivial⟩) ?_
 refine sr rfl fun K1 hK1 => ?_
 refine zq tb rfl ?_
 refine dn hK1 rfl ?_
 refine AW.seq fun K2 hK2 => ?_
 refine sr rfl fun K3 hK3 => ?_
 refine zq tb rfl ?_
 refine zl tb rfl rfl ?_
 refine zq tb rfl ?_
 refine zl tb rfl rfl ?_
 refine zq tb rfl ?_
 refine dn hK3 rfl ?_
 refine ci h0 rfl ?_ ?_ <;> clear h0
 ·intro b4 h0
  have b5 : decide ((Sh.len p0) = (Sh.len p1)) = false := by simpa using b4
  refine sr rfl fun K6 hK6 => ?_
  refine zq tb rfl ?_
  refine dn hK6 rfl ?_
  replace h0 := Sh.some_eq h0
  subst r
  exact AW.ret (xr (Wk.to (L := [(4, (.bool false))]) ⟨.rfl, trivial⟩))
 ·intro b4 h0
  have b7 : decide ((Sh.len p0) = (Sh.len p1)) = true := by simpa using b4
  refine AW.skip (hK2 _ ?_)
  refine AW.seq fun K8 hK8 => ?_
  refine sr rfl fun K9 hK9 => ?_
  refine zq tb rfl ?_
  refine dn hK9 rfl ?_
  obtain ⟨o11, h1, h0⟩ := Sh.cont_some h0
  have M11 : ∀ (_ : Unit), o11 = Sum.inr () → ∀ s, Wk 0 s ⟨26, envL [], []⟩ → K8 s := by
   intro _ hq s hw
   subst o11
   try dsimp only at h0
   refine hK8 _ (AW.weaken hw ?_)
   refine sr rfl fun K12 hK12 => ?_
   refine zq tb rfl ?_
   refine dn hK12 rfl ?_
   replace h0 := Sh.some_eq h0
   subst r
   exact AW.ret (xr (Wk.to (L := [(4, (.bool true))]) ⟨.rfl, trivial⟩))
  refine AW.block (AW.loopF (σ := Int) (fun n v => laws_eqIntS_L1 p0 p1 n v = some o11) (fun i10 => ⟨26, envL [(0, (.sl (List.map eI p0))), (1, (.sl (List.map eI p1))), (5, (i64 i10))], []⟩) N 0 h1 (Wk.tr rfl) (fun _ hv => by rw [laws_eqIntS_L1] at hv; cases hv) ?_)
  rintro n i10 h1
  try dsimp only at h1 ⊢
  rw [laws_eqIntS_L1] at h1
  refine AW.seq fun K13 hK13 => ?_
  refine sr rfl fun K14 hK14 => ?_
  iterate 2 refine zq tb rfl ?_
  refine zl tb rfl rfl ?_
  refine zq tb rfl ?_
  refine dn hK14 rfl ?_
  refine ci h1 rfl ?_ ?_ <;> clear h1
  ·intro b15 h1
   refine AW.skip (hK13 _ ?_)
   refine AW.seq fun K16 hK16 => ?_
   refine AW.block ?_
   refine AW.seq fun K17 hK17 => ?_
   refine AW.draw (by kernel_rfl) (by kernel_rfl) (by rfl) ?_
   iterate 2 refine yq tb rfl ?_
   obtain ⟨c18, gc18, h1⟩ := Sh.bind_some h1
   refine yx ei26 gc18 rfl rfl rfl ?_
   iterate 3 refine yq tb rfl ?_
   obtain ⟨c19, gc19, h1⟩ := Sh.bind_some h1
   refine yx ei26 gc19 rfl rfl rfl ?_
   iterate 2 refine yq tb rfl ?_
   refine d_done (hK17 _ ?_)
   refine ci h1 rfl ?_ ?_ <;> clear h1
   ·intro b20 h1
    have b21 : decide (c18 = c19) = false := by simpa using b20
    refine sr rfl fun K22 hK22 => ?_
    refine zq tb rfl ?_
    refine dn hK22 rfl ?_
    replace h1 := Sh.some_eq h1
    subst o11
    try dsimp only [id] at h0
    replace h0 := Sh.some_eq h0
    subst r
    exact AW.ret (xr (Wk.to (L := [(4, (.bool false))]) ⟨.rfl, trivial⟩))
   ·intro b20 h1
    have b23 : decide (c18 = c19) = true := by simpa using b20
    refine AW.skip (hK16 _ ?_)
    refine AW.regionO (by rfl) ?_
    iterate 3 refine zq tb rfl ?_
    exact AO.done (xi (Sh.w (i10 + 1)) h1 (Wk.tr rfl))
  ·intro b15 h1
   exact AW.exit (M11 () (Sh.some_eq h1).symm _ (Wk.tr rfl))
theorem laws_eqCon_ok {N : Nat} {p0 : RCon} {p1 : RCon} {r : Bool} (h0 : laws_eqCon N p0 p1 = some r) : ACalls Tryz.prog 101 [(.agg (eRCon p0)), (.agg (eRCon p1))] [] (fun v st => v = (.bool r) ∧ st = []) := by
 unfold laws_eqCon at h0
 refine ACalls.intro Tryz.func101 rfl (by show 2 ≤ 11; decide) ?_
 show AW _ 0 _ (aret _ 0 Tryz.f101 _) ⟨11, _, _⟩
 refine AW.weaken (Wk.to (L := [(0, (.agg (eRCon p0))), (1, (.agg (eRCon p1)))]) ⟨.rfl, .rfl, trivial⟩) ?_
 refine sr rfl fun K1 hK1 => ?_
 refine ao_box (m := 0) (st' := [⟨0, 153, 1, [(eRCon p0)]⟩]) go0 rfl rfl rfl rfl rfl ?_
 refine ao_box (m := 1) (st' := [⟨0, 153, 1, [(eRCon p0)]⟩, ⟨0, 153, 1, [(eRCon p1)]⟩]) go0 rfl rfl rfl rfl rfl ?_
 refine zq tb rfl ?_
 refine dn hK1 rfl ?_
 refine AW.seq fun K2 hK2 => ?_
 refine sr rfl fun K3 hK3 => ?_
 iterate 4 refine zq tb rfl ?_
 obtain ⟨q4, gq4, h0⟩ := Sh.bind_some h0
 refine zc hb27 (laws_eqIntS_ok gq4) rfl rfl rfl ?_
 refine zq tb rfl ?_
 refine dn hK3 rfl ?_
 refine ci h0 rfl ?_ ?_ <;> clear h0
 ·intro b5 h0
  have b6 : q4 = false := by simpa using b5
  refine sr rfl fun K7 hK7 => ?_
  refine zq tb rfl ?_
  refine dn hK7 rfl ?_
  replace h0 := Sh.some_eq h0
  subst r
  exact AW.ret (xr (Wk.d0 [(4, (.bool false))] rfl))
 ·intro b5 h0
  have b8 : q4 = true := by simpa using b5
  refine AW.skip (hK2 _ ?_)
  refine sr rfl fun K9 hK9 => ?_
  refine zq tb rfl ?_
  refine dn hK9 rfl ?_
  replace h0 := Sh.some_eq h0
  subst r
  exact AW.ret (xr (Wk.d0 [(4, (.bool true))] rfl))
theorem laws_eqConS_ok {N : Nat} {p0 : (List RCon)} {p1 : (List RCon)} {r : Bool} (h0 : laws_eqConS N p0 p1 = some r) : ACalls Tryz.prog 80 [(.sl (List.map eRCon p0)), (.sl (List.map eRCon p1))] [] (fun v st => v = (.bool r) ∧ st = []) := by
 unfold laws_eqConS at h0
 refine ACalls.intro Tryz.func80 rfl (by show 2 ≤ 27; decide) ?_
 show AW _ 0 _ (aret _ 0 Tryz.f80 _) ⟨27, _, _⟩
 refine AW.weaken (Wk.to (L := [(0, (.sl (List.map eRCon p0))), (1, (.sl (List.map eRCon p1)))]) ⟨.rfl, .rfl, trivial⟩) ?_
 refine sr rfl fun K1 hK1 => ?_
 refine zq tb rfl ?_
 refine dn hK1 rfl ?_
 refine AW.seq fun K2 hK2 => ?_
 refine sr rfl fun K3 hK3 => ?_
 refine zq tb rfl ?_
 refine zl tb rfl rfl ?_
 refine zq tb rfl ?_
 refine zl tb rfl rfl ?_
 refine zq tb rfl ?_
 refine dn hK3 rfl ?_
 refine ci h0 rfl ?_ ?_ <;> clear h0
 ·intro b4 h0
  have b5 : decide ((Sh.len p0) = (Sh.len p1)) = false := by simpa using b4
  refine sr rfl fun K6 hK6 => ?_
  refine zq tb rfl ?_
  refine dn hK6 rfl ?_
  replace h0 := Sh.some_eq h0
  subst r
  exact AW.ret (xr (Wk.to (L := [(4, (.bool false))]) ⟨.rfl, trivial⟩))
 ·intro b4 h0
  have b7 : decide ((Sh.len p0) = (Sh.len p1)) = true := by simpa using b4
  refine AW.skip (hK2 _ ?_)
  refine AW.seq fun K8 hK8 => ?_
  refine sr rfl fun K9 hK9 => ?_
  refine zq tb rfl ?_
  refine dn hK9 rfl ?_
  obtain ⟨o11, h1, h0⟩ := Sh.cont_some h0
  have M11 : ∀ (_ : Unit), o11 = Sum.inr () → ∀ s, Wk 0 s ⟨27, envL [], []⟩ → K8 s := by
   intro _ hq s hw
   subst o11
   try dsimp only at h0
   refine hK8 _ (AW.weaken hw ?_)
   refine sr rfl fun K12 hK12 => ?_
   refine zq tb rfl ?_
   refine dn hK12 rfl ?_
   replace h0 := Sh.some_eq h0
   subst r
   exact AW.ret (xr (Wk.to (L := [(4, (.bool true))]) ⟨.rfl, trivial⟩))
  refine AW.block (AW.loopF (σ := Int) (fun n v => laws_eqConS_L1 N p0 p1 n v = some o11) (fun i10 => ⟨27, envL [(0, (.sl (List.map eRCon p0))), (1, (.sl (List.map eRCon p1))), (5, (i64 i10))], []⟩) N 0 h1 (Wk.tr rfl) (fun _ hv => by rw [laws_eqConS_L1] at hv; cases hv) ?_)
  rintro n i10 h1
  try dsimp only at h1 ⊢
  rw [laws_eqConS_L1] at h1
  refine AW.seq fun K13 hK13 => ?_
  refine sr rfl fun K14 hK14 => ?_
  iterate 2 refine zq tb rfl ?_
  refine zl tb rfl rfl ?_
  refine zq tb rfl ?_
  refine dn hK14 rfl ?_
  refine ci h1 rfl ?_ ?_ <;> clear h1
  ·intro b15 h1
   refine AW.skip (hK13 _ ?_)
   refine AW.seq fun K16 hK16 => ?_
   refine AW.block ?_
   refine AW.seq fun K17 hK17 => ?_
   refine AW.draw (by kernel_rfl) (by kernel_rfl) (by rfl) ?_
   iterate 2 refine yq tb rfl ?_
   obtain ⟨c18, gc18, h1⟩ := Sh.bind_some h1
   refine yx ei82 gc18 rfl rfl rfl ?_
   iterate 3 refine yq tb rfl ?_
   obtain ⟨c19, gc19, h1⟩ := Sh.bind_some h1
   refine yx ei82 gc19 rfl rfl rfl ?_
   refine yq tb rfl ?_
   obtain ⟨q20, gq20, h1⟩ := Sh.bind_some h1
   refine d_call (v := (.bool q20)) go0 hb101 (laws_eqCon_ok gq20) rfl rfl rfl ?_
   refine yq tb rfl ?_
   refine d_done (hK17 _ ?_)
   refine ci h1 rfl ?_ ?_ <;> clear h1
   ·intro b21 h1
    have b22 : q20 = false := by simpa using b21
    refine sr rfl fun K23 hK23 => ?_
    refine zq tb rfl ?_
    refine dn hK23 rfl ?_
    replace h1 := Sh.some_eq h1
    subst o11
    try dsimp only [id] at h0
    replace h0 := Sh.some_eq h0
    subst r
    exact AW.ret (xr (Wk.to (L := [(4, (.bool false))]) ⟨.rfl, trivial⟩))
   ·intro b21 h1
    have b24 : q20 = true := by simpa using b21
    refine AW.skip (hK16 _ ?_)
    refine AW.regionO (by rfl) ?_
    iterate 3 refine zq tb rfl ?_
    exact AO.done (xi (Sh.w (i10 + 1)) h1 (Wk.tr rfl))
  ·intro b15 h1
   exact AW.exit (M11 () (Sh.some_eq h1).symm _ (Wk.tr rfl))
theorem laws_eqDecl_ok {N : Nat} {p0 : RDecl} {p1 : RDecl} {r : Bool} (h0 : laws_eqDecl N p0 p1 = some r) : ACalls Tryz.prog 53 [(.agg (eRDecl p0)), (.agg (eRDecl p1))] [] (fun v st => v = (.bool r) ∧ st = []) := by
 unfold laws_eqDecl at h0
 refine ACalls.intro Tryz.func53 rfl (by show 2 ≤ 21; decide) ?_
 show AW _ 0 _ (aret _ 0 Tryz.f53 _) ⟨21, _, _⟩
 refine AW.weaken (Wk.to (L := [(0, (.agg (eRDecl p0))), (1, (.agg (eRDecl p1)))]) ⟨.rfl, .rfl, trivial⟩) ?_
 refine sr rfl fun K1 hK1 => ?_
 refine ao_box (m := 0) (st' := [⟨0, 84, 3, [(eRDecl p0)]⟩]) go0 rfl rfl rfl rfl rfl ?_
 refine ao_box (m := 1) (st' := [⟨0, 84, 3, [(eRDecl p0)]⟩, ⟨0, 84, 3, [(eRDecl p1)]⟩]) go0 rfl rfl rfl rfl rfl ?_
 refine zq tb rfl ?_
 refine dn hK1 rfl ?_
 refine AW.seq fun K2 hK2 => ?_
 refine sr rfl fun K3 hK3 => ?_
 iterate 5 refine zq tb rfl ?_
 refine dn hK3 rfl ?_
 refine ci h0 rfl ?_ ?_ <;> clear h0
 ·intro b4 h0
  have b5 : decide (p0.from_ = p1.from_) = false := by simpa using b4
  refine sr rfl fun K6 hK6 => ?_
  refine zq tb rfl ?_
  refine dn hK6 rfl ?_
  replace h0 := Sh.some_eq h0
  subst r
  exact AW.ret (xr (Wk.d0 [(4, (.bool false))] rfl))
 ·intro b4 h0
  have b7 : decide (p0.from_ = p1.from_) = true := by simpa using b4
  refine AW.skip (hK2 _ ?_)
  refine AW.seq fun K8 hK8 => ?_
  refine sr rfl fun K9 hK9 => ?_
  iterate 5 refine zq tb rfl ?_
  refine dn hK9 rfl ?_
  refine ci h0 rfl ?_ ?_ <;> clear h0
  ·intro b10 h0
   have b11 : decide (p0.to = p1.to) = false := by simpa using b10
   refine sr rfl fun K12 hK12 => ?_
   refine zq tb rfl ?_
   refine dn hK12 rfl ?_
   replace h0 := Sh.some_eq h0
   subst r
   exact AW.ret (xr (Wk.d0 [(4, (.bool false))] rfl))
  ·intro b10 h0
   have b13 : decide (p0.to = p1.to) = true := by simpa using b10
   refine AW.skip (hK8 _ ?_)
   refine AW.seq fun K14 hK14 => ?_
   refine sr rfl fun K15 hK15 => ?_
   iterate 4 refine zq tb rfl ?_
   obtain ⟨q16, gq16, h0⟩ := Sh.bind_some h0
   refine zc hb80 (laws_eqConS_ok gq16) rfl rfl rfl ?_
   refine zq tb rfl ?_
   refine dn hK15 rfl ?_
   refine ci h0 rfl ?_ ?_ <;> clear h0
   ·intro b17 h0
    have b18 : q16 = false := by simpa using b17
    refine sr rfl fun K19 hK19 => ?_
    refine zq tb rfl ?_
    refine dn hK19 rfl ?_
    replace h0 := Sh.some_eq h0
    subst r
    exact AW.ret (xr (Wk.d0 [(4, (.bool false))] rfl))
   ·intro b17 h0
    have b20 : q16 = true := by simpa using b17
    refine AW.skip (hK14 _ ?_)
    refine sr rfl fun K21 hK21 => ?_
    refine zq tb rfl ?_
    refine dn hK21 rfl ?_
    replace h0 := Sh.some_eq h0
    subst r
    exact AW.ret (xr (Wk.d0 [(4, (.bool true))] rfl))
theorem laws_eqDeclS_ok {N : Nat} {p0 : (List RDecl)} {p1 : (List RDecl)} {r : Bool} (h0 : laws_eqDeclS N p0 p1 = some r) : ACalls Tryz.prog 25 [(.sl (List.map eRDecl p0)), (.sl (List.map eRDecl p1))] [] (fun v st => v = (.bool r) ∧ st = []) := by
 unfold laws_eqDeclS at h0
 refine ACalls.intro Tryz.func25 rfl (by show 2 ≤ 27; decide) ?_
 show AW _ 0 _ (aret _ 0 Tryz.f25 _) ⟨27, _, _⟩
 refine AW.weaken (Wk.to (L := [(0, (.sl (List.map eRDecl p0))), (1, (.sl (List.map eRDecl p1)))]) ⟨.rfl, .rfl, trivial⟩) ?_
 refine sr rfl fun K1 hK1 => ?_
 refine zq tb rfl ?_
 refine dn hK1 rfl ?_
 refine AW.seq fun K2 hK2 => ?_
 refine sr rfl fun K3 hK3 => ?_
 refine zq tb rfl ?_
 refine zl tb rfl rfl ?_
 refine zq tb rfl ?_
 refine zl tb rfl rfl ?_
 refine zq tb rfl ?_
 refine dn hK3 rfl ?_
 refine ci h0 rfl ?_ ?_ <;> clear h0
 ·intro b4 h0
  have b5 : decide ((Sh.len p0) = (Sh.len p1)) = false := by simpa using b4
  refine sr rfl fun K6 hK6 => ?_
  refine zq tb rfl ?_
  refine dn hK6 rfl ?_
  replace h0 := Sh.some_eq h0
  subst r
  exact AW.ret (xr (Wk.to (L := [(4, (.bool false))]) ⟨.rfl, trivial⟩))
 ·intro b4 h0
  have b7 : decide ((Sh.len p0) = (Sh.len p1)) = true := by simpa using b4
  refine AW.skip (hK2 _ ?_)
  refine AW.seq fun K8 hK8 => ?_
  refine sr rfl fun K9 hK9 => ?_
  refine zq tb rfl ?_
  refine dn hK9 rfl ?_
  obtain ⟨o11, h1, h0⟩ := Sh.cont_some h0
  have M11 : ∀ (_ : Unit), o11 = Sum.inr () → ∀ s, Wk 0 s ⟨27, envL [], []⟩ → K8 s := by
   intro _ hq s hw
   subst o11
   try dsimp only at h0
   refine hK8 _ (AW.weaken hw ?_)
   refine sr rfl fun K12 hK12 => ?_
   refine zq tb rfl ?_
   refine dn hK12 rfl ?_
   replace h0 := Sh.some_eq h0
   subst r
   exact AW.ret (xr (Wk.to (L := [(4, (.bool true))]) ⟨.rfl, trivial⟩))
  refine AW.block (AW.loopF (σ := Int) (fun n v => laws_eqDeclS_L1 N p0 p1 n v = some o11) (fun i10 => ⟨27, envL [(0, (.sl (List.map eRDecl p0))), (1, (.sl (List.map eRDecl p1))), (5, (i64 i10))], []⟩) N 0 h1 (Wk.tr rfl) (fun _ hv => by rw [laws_eqDeclS_L1] at hv; cases hv) ?_)
  rintro n i10 h1
  try dsimp only at h1 ⊢
  rw [laws_eqDeclS_L1] at h1
  refine AW.seq fun K13 hK13 => ?_
  refine sr rfl fun K14 hK14 => ?_
  iterate 2 refine zq tb rfl ?_
  refine zl tb rfl rfl ?_
  refine zq tb rfl ?_
  refine dn hK14 rfl ?_
  refine ci h1 rfl ?_ ?_ <;> clear h1
  ·intro b15 h1
   refine AW.skip (hK13 _ ?_)
   refine AW.seq fun K16 hK16 => ?_
   refine AW.block ?_
   refine AW.seq fun K17 hK17 => ?_
   refine AW.draw (by kernel_rfl) (by kernel_rfl) (by rfl) ?_
   iterate 2 refine yq tb rfl ?_
   obtain ⟨c18, gc18, h1⟩ := Sh.bind_some h1
   refine yx ei34 gc18 rfl rfl rfl ?_
   iterate 3 refine yq tb rfl ?_
   obtain ⟨c19, gc19, h1⟩ := Sh.bind_some h1
   refine yx ei34 gc19 rfl rfl rfl ?_
   refine yq tb rfl ?_
   obtain ⟨q20, gq20, h1⟩ := Sh.bind_some h1
   refine d_call (v := (.bool q20)) go0 hb53 (laws_eqDecl_ok gq20) rfl rfl rfl ?_
   refine yq tb rfl ?_
   refine d_done (hK17 _ ?_)
   refine ci h1 rfl ?_ ?_ <;> clear h1
   ·intro b21 h1
    have b22 : q20 = false := by simpa using b21
    refine sr rfl fun K23 hK23 => ?_
    refine zq tb rfl ?_
    refine dn hK23 rfl ?_
    replace h1 := Sh.some_eq h1
    subst o11
    try dsimp only [id] at h0
    replace h0 := Sh.some_eq h0
    subst r
    exact AW.ret (xr (Wk.to (L := [(4, (.bool false))]) ⟨.rfl, trivial⟩))
   ·intro b21 h1
    have b24 : q20 = true := by simpa using b21
    refine AW.skip (hK16 _ ?_)
    refine AW.regionO (by rfl) ?_
    iterate 3 refine zq tb rfl ?_
    exact AO.done (xi (Sh.w (i10 + 1)) h1 (Wk.tr rfl))
  ·intro b15 h1
   exact AW.exit (M11 () (Sh.some_eq h1).symm _ (Wk.tr rfl))
theorem laws_eqInstr_ok {N : Nat} {p0 : RInstr} {p1 : RInstr} {r : Bool} (h0 : laws_eqInstr N p0 p1 = some r) : ACalls Tryz.prog 102 [(.agg (eRInstr p0)), (.agg (eRInstr p1))] [] (fun v st => v = (.bool r) ∧ st = []) := by
 unfold laws_eqInstr at h0
 refine ACalls.intro Tryz.func102 rfl (by show 2 ≤ 37; decide) ?_
 show AW _ 0 _ (aret _ 0 Tryz.f102 _) ⟨37, _, _⟩
 refine AW.weaken (Wk.to (L := [(0, (.agg (eRInstr p0))), (1, (.agg (eRInstr p1)))]) ⟨.rfl, .rfl, trivial⟩) ?_
 refine sr rfl fun K1 hK1 => ?_
 refine ao_box (m := 0) (st' := [⟨0, 100, 6, [(eRInstr p0)]⟩]) go0 rfl rfl rfl rfl rfl ?_
 refine ao_box (m := 1) (st' := [⟨0, 100, 6, [(eRInstr p0)]⟩, ⟨0, 100, 6, [(eRInstr p1)]⟩]) go0 rfl rfl rfl rfl rfl ?_
 refine zq tb rfl ?_
 refine dn hK1 rfl ?_
 refine AW.seq fun K2 hK2 => ?_
 refine sr rfl fun K3 hK3 => ?_
 iterate 5 refine zq tb rfl ?_
 refine dn hK3 rfl ?_
 refine ci h0 rfl ?_ ?_ <;> clear h0
 ·intro b4 h0
  have b5 : decide (p0.op = p1.op) = false := by simpa using b4
  refine sr rfl fun K6 hK6 => ?_
  refine zq tb rfl ?_
  refine dn hK6 rfl ?_
  replace h0 := Sh.some_eq h0
  subst r
  exact AW.ret (xr (Wk.d0 [(4, (.bool false))] rfl))
 ·intro b4 h0
  have b7 : decide (p0.op = p1.op) = true := by simpa using b4
  refine AW.skip (hK2 _ ?_)
  refine AW.seq fun K8 hK8 => ?_
  refine sr rfl fun K9 hK9 => ?_
  iterate 5 refine zq tb rfl ?_
  refine dn hK9 rfl ?_
  refine ci h0 rfl ?_ ?_ <;> clear h0
  ·intro b10 h0
   have b11 : decide (p0.dst = p1.dst) = false := by simpa using b10
   refine sr rfl fun K12 hK12 => ?_
   refine zq tb rfl ?_
   refine dn hK12 rfl ?_
   replace h0 := Sh.some_eq h0
   subst r
   exact AW.ret (xr (Wk.d0 [(4, (.bool false))] rfl))
  ·intro b10 h0
   have b13 : decide (p0.dst = p1.dst) = true := by simpa using b10
   refine AW.skip (hK8 _ ?_)
   refine AW.seq fun K14 hK14 => ?_
   refine sr rfl fun K15 hK15 => ?_
   iterate 5 refine zq tb rfl ?_
   refine dn hK15 rfl ?_
   refine ci h0 rfl ?_ ?_ <;> clear h0
   ·intro b16 h0
    have b17 : decide (p0.num = p1.num) = false := by simpa using b16
    refine sr rfl fun K18 hK18 => ?_
    refine zq tb rfl ?_
    refine dn hK18 rfl ?_
    replace h0 := Sh.some_eq h0
    subst r
    exact AW.ret (xr (Wk.d0 [(4, (.bool false))] rfl))
   ·intro b16 h0
    have b19 : decide (p0.num = p1.num) = true := by simpa using b16
    refine AW.skip (hK14 _ ?_)
    refine AW.seq fun K20 hK20 => ?_
    refine sr rfl fun K21 hK21 => ?_
    iterate 5 refine zq tb rfl ?_
    refine dn hK21 rfl ?_
    refine ci h0 rfl ?_ ?_ <;> clear h0
    ·intro b22 h0
     have b23 : decide (p0.into = p1.into) = false := by simpa using b22
     refine sr rfl fun K24 hK24 => ?_
     refine zq tb rfl ?_
     refine dn hK24 rfl ?_
     replace h0 := Sh.some_eq h0
     subst r
     exact AW.ret (xr (Wk.d0 [(4, (.bool false))] rfl))
    ·intro b22 h0
     have b25 : decide (p0.into = p1.into) = true := by simpa using b22
     refine AW.skip (hK20 _ ?_)
     refine AW.seq fun K26 hK26 => ?_
     refine sr rfl fun K27 hK27 => ?_
     iterate 4 refine zq tb rfl ?_
     obtain ⟨q28, gq28, h0⟩ := Sh.bind_some h0
     refine zc hb27 (laws_eqIntS_ok gq28) rfl rfl rfl ?_
     refine zq tb rfl ?_
     refine dn hK27 rfl ?_
     refine ci h0 rfl ?_ ?_ <;> clear h0
     ·intro b29 h0
      have b30 : q28 = false := by simpa using b29
      refine sr rfl fun K31 hK31 => ?_
      refine zq tb rfl ?_
      refine dn hK31 rfl ?_
      replace h0 := Sh.some_eq h0
      subst r
      exact AW.ret (xr (Wk.d0 [(4, (.bool false))] rfl))
     ·intro b29 h0
      have b32 : q28 = true := by simpa using b29
      refine AW.skip (hK26 _ ?_)
      refine AW.seq fun K33 hK33 => ?_
      refine sr rfl fun K34 hK34 => ?_
      iterate 4 refine zq tb rfl ?_
      obtain ⟨q35, gq35, h0⟩ := Sh.bind_some h0
      refine zc hb27 (laws_eqIntS_ok gq35) rfl rfl rfl ?_
      refine zq tb rfl ?_
      refine dn hK34 rfl ?_
      refine ci h0 rfl ?_ ?_ <;> clear h0
      ·intro b36 h0
       have b37 : q35 = false := by simpa using b36
       refine sr rfl fun K38 hK38 => ?_
       refine zq tb rfl ?_
       refine dn hK38 rfl ?_
       replace h0 := Sh.some_eq h0
       subst r
       exact AW.ret (xr (Wk.d0 [(4, (.bool false))] rfl))
      ·intro b36 h0
       have b39 : q35 = true := by simpa using b36
       refine AW.skip (hK33 _ ?_)
       refine sr rfl fun K40 hK40 => ?_
       refine zq tb rfl ?_
       refine dn hK40 rfl ?_
       replace h0 := Sh.some_eq h0
       subst r
       exact AW.ret (xr (Wk.d0 [(4, (.bool true))] rfl))
theorem laws_eqInstrS_ok {N : Nat} {p0 : (List RInstr)} {p1 : (List RInstr)} {r : Bool} (h0 : laws_eqInstrS N p0 p1 = some r) : ACalls Tryz.prog 81 [(.sl (List.map eRInstr p0)), (.sl (List.map eRInstr p1))] [] (fun v st => v = (.bool r) ∧ st = []) := by
 unfold laws_eqInstrS at h0
 refine ACalls.intro Tryz.func81 rfl (by show 2 ≤ 27; decide) ?_
 show AW _ 0 _ (aret _ 0 Tryz.f81 _) ⟨27, _, _⟩
 refine AW.weaken (Wk.to (L := [(0, (.sl (List.map eRInstr p0))), (1, (.sl (List.map eRInstr p1)))]) ⟨.rfl, .rfl, trivial⟩) ?_
 refine sr rfl fun K1 hK1 => ?_
 refine zq tb rfl ?_
 refine dn hK1 rfl ?_
 refine AW.seq fun K2 hK2 => ?_
 refine sr rfl fun K3 hK3 => ?_
 refine zq tb rfl ?_
 refine zl tb rfl rfl ?_
 refine zq tb rfl ?_
 refine zl tb rfl rfl ?_
 refine zq tb rfl ?_
 refine dn hK3 rfl ?_
 refine ci h0 rfl ?_ ?_ <;> clear h0
 ·intro b4 h0
  have b5 : decide ((Sh.len p0) = (Sh.len p1)) = false := by simpa using b4
  refine sr rfl fun K6 hK6 => ?_
  refine zq tb rfl ?_
  refine dn hK6 rfl ?_
  replace h0 := Sh.some_eq h0
  subst r
  exact AW.ret (xr (Wk.to (L := [(4, (.bool false))]) ⟨.rfl, trivial⟩))
 ·intro b4 h0
  have b7 : decide ((Sh.len p0) = (Sh.len p1)) = true := by simpa using b4
  refine AW.skip (hK2 _ ?_)
  refine AW.seq fun K8 hK8 => ?_
  refine sr rfl fun K9 hK9 => ?_
  refine zq tb rfl ?_
  refine dn hK9 rfl ?_
  obtain ⟨o11, h1, h0⟩ := Sh.cont_some h0
  have M11 : ∀ (_ : Unit), o11 = Sum.inr () → ∀ s, Wk 0 s ⟨27, envL [], []⟩ → K8 s := by
   intro _ hq s hw
   subst o11
   try dsimp only at h0
   refine hK8 _ (AW.weaken hw ?_)
   refine sr rfl fun K12 hK12 => ?_
   refine zq tb rfl ?_
   refine dn hK12 rfl ?_
   replace h0 := Sh.some_eq h0
   subst r
   exact AW.ret (xr (Wk.to (L := [(4, (.bool true))]) ⟨.rfl, trivial⟩))
  refine AW.block (AW.loopF (σ := Int) (fun n v => laws_eqInstrS_L1 N p0 p1 n v = some o11) (fun i10 => ⟨27, envL [(0, (.sl (List.map eRInstr p0))), (1, (.sl (List.map eRInstr p1))), (5, (i64 i10))], []⟩) N 0 h1 (Wk.tr rfl) (fun _ hv => by rw [laws_eqInstrS_L1] at hv; cases hv) ?_)
  rintro n i10 h1
  try dsimp only at h1 ⊢
  rw [laws_eqInstrS_L1] at h1
  refine AW.seq fun K13 hK13 => ?_
  refine sr rfl fun K14 hK14 => ?_
  iterate 2 refine zq tb rfl ?_
  refine zl tb rfl rfl ?_
  refine zq tb rfl ?_
  refine dn hK14 rfl ?_
  refine ci h1 rfl ?_ ?_ <;> clear h1
  ·intro b15 h1
   refine AW.skip (hK13 _ ?_)
   refine AW.seq fun K16 hK16 => ?_
   refine AW.block ?_
   refine AW.seq fun K17 hK17 => ?_
   refine AW.draw (by kernel_rfl) (by kernel_rfl) (by rfl) ?_
   iterate 2 refine yq tb rfl ?_
   obtain ⟨c18, gc18, h1⟩ := Sh.bind_some h1
   refine yx ei86 gc18 rfl rfl rfl ?_
   iterate 3 refine yq tb rfl ?_
   obtain ⟨c19, gc19, h1⟩ := Sh.bind_some h1
   refine yx ei86 gc19 rfl rfl rfl ?_
   refine yq tb rfl ?_
   obtain ⟨q20, gq20, h1⟩ := Sh.bind_some h1
   refine d_call (v := (.bool q20)) go0 hb102 (laws_eqInstr_ok gq20) rfl rfl rfl ?_
   refine yq tb rfl ?_
   refine d_done (hK17 _ ?_)
   refine ci h1 rfl ?_ ?_ <;> clear h1
   ·intro b21 h1
    have b22 : q20 = false := by simpa using b21
    refine sr rfl fun K23 hK23 => ?_
    refine zq tb rfl ?_
    refine dn hK23 rfl ?_
    replace h1 := Sh.some_eq h1
    subst o11
    try dsimp only [id] at h0
    replace h0 := Sh.some_eq h0
    subst r
    exact AW.ret (xr (Wk.to (L := [(4, (.bool false))]) ⟨.rfl, trivial⟩))
   ·intro b21 h1
    have b24 : q20 = true := by simpa using b21
    refine AW.skip (hK16 _ ?_)
    refine AW.regionO (by rfl) ?_
    iterate 3 refine zq tb rfl ?_
    exact AO.done (xi (Sh.w (i10 + 1)) h1 (Wk.tr rfl))
  ·intro b15 h1
   exact AW.exit (M11 () (Sh.some_eq h1).symm _ (Wk.tr rfl))
theorem laws_eqProc_ok {N : Nat} {p0 : RProc} {p1 : RProc} {r : Bool} (h0 : laws_eqProc N p0 p1 = some r) : ACalls Tryz.prog 54 [(.agg (eRProc p0)), (.agg (eRProc p1))] [] (fun v st => v = (.bool r) ∧ st = []) := by
 unfold laws_eqProc at h0
 refine ACalls.intro Tryz.func54 rfl (by show 2 ≤ 33; decide) ?_
 show AW _ 0 _ (aret _ 0 Tryz.f54 _) ⟨33, _, _⟩
 refine AW.weaken (Wk.to (L := [(0, (.agg (eRProc p0))), (1, (.agg (eRProc p1)))]) ⟨.rfl, .rfl, trivial⟩) ?_
 refine sr rfl fun K1 hK1 => ?_
 refine ao_box (m := 0) (st' := [⟨0, 88, 5, [(eRProc p0)]⟩]) go0 rfl rfl rfl rfl rfl ?_
 refine ao_box (m := 1) (st' := [⟨0, 88, 5, [(eRProc p0)]⟩, ⟨0, 88, 5, [(eRProc p1)]⟩]) go0 rfl rfl rfl rfl rfl ?_
 refine zq tb rfl ?_
 refine dn hK1 rfl ?_
 refine AW.seq fun K2 hK2 => ?_
 refine sr rfl fun K3 hK3 => ?_
 iterate 4 refine zq tb rfl ?_
 obtain ⟨q4, gq4, h0⟩ := Sh.bind_some h0
 refine zc hb27 (laws_eqIntS_ok gq4) rfl rfl rfl ?_
 refine zq tb rfl ?_
 refine dn hK3 rfl ?_
 refine ci h0 rfl ?_ ?_ <;> clear h0
 ·intro b5 h0
  have b6 : q4 = false := by simpa using b5
  refine sr rfl fun K7 hK7 => ?_
  refine zq tb rfl ?_
  refine dn hK7 rfl ?_
  replace h0 := Sh.some_eq h0
  subst r
  exact AW.ret (xr (Wk.d0 [(4, (.bool false))] rfl))
 ·intro b5 h0
  have b8 : q4 = true := by simpa using b5
  refine AW.skip (hK2 _ ?_)
  refine AW.seq fun K9 hK9 => ?_
  refine sr rfl fun K10 hK10 => ?_
  iterate 4 refine zq tb rfl ?_
  obtain ⟨q11, gq11, h0⟩ := Sh.bind_some h0
  refine zc hb27 (laws_eqIntS_ok gq11) rfl rfl rfl ?_
  refine zq tb rfl ?_
  refine dn hK10 rfl ?_
  refine ci h0 rfl ?_ ?_ <;> clear h0
  ·intro b12 h0
   have b13 : q11 = false := by simpa using b12
   refine sr rfl fun K14 hK14 => ?_
   refine zq tb rfl ?_
   refine dn hK14 rfl ?_
   replace h0 := Sh.some_eq h0
   subst r
   exact AW.ret (xr (Wk.d0 [(4, (.bool false))] rfl))
  ·intro b12 h0
   have b15 : q11 = true := by simpa using b12
   refine AW.skip (hK9 _ ?_)
   refine AW.seq fun K16 hK16 => ?_
   refine sr rfl fun K17 hK17 => ?_
   iterate 5 refine zq tb rfl ?_
   refine dn hK17 rfl ?_
   refine ci h0 rfl ?_ ?_ <;> clear h0
   ·intro b18 h0
    have b19 : decide (p0.result = p1.result) = false := by simpa using b18
    refine sr rfl fun K20 hK20 => ?_
    refine zq tb rfl ?_
    refine dn hK20 rfl ?_
    replace h0 := Sh.some_eq h0
    subst r
    exact AW.ret (xr (Wk.d0 [(4, (.bool false))] rfl))
   ·intro b18 h0
    have b21 : decide (p0.result = p1.result) = true := by simpa using b18
    refine AW.skip (hK16 _ ?_)
    refine AW.seq fun K22 hK22 => ?_
    refine sr rfl fun K23 hK23 => ?_
    iterate 5 refine zq tb rfl ?_
    refine dn hK23 rfl ?_
    refine ci h0 rfl ?_ ?_ <;> clear h0
    ·intro b24 h0
     have b25 : decide (p0.regs = p1.regs) = false := by simpa using b24
     refine sr rfl fun K26 hK26 => ?_
     refine zq tb rfl ?_
     refine dn hK26 rfl ?_
     replace h0 := Sh.some_eq h0
     subst r
     exact AW.ret (xr (Wk.d0 [(4, (.bool false))] rfl))
    ·intro b24 h0
     have b27 : decide (p0.regs = p1.regs) = true := by simpa using b24
     refine AW.skip (hK22 _ ?_)
     refine AW.seq fun K28 hK28 => ?_
     refine sr rfl fun K29 hK29 => ?_
     iterate 4 refine zq tb rfl ?_
     obtain ⟨q30, gq30, h0⟩ := Sh.bind_some h0
     refine zc hb81 (laws_eqInstrS_ok gq30) rfl rfl rfl ?_
     refine zq tb rfl ?_
     refine dn hK29 rfl ?_
     refine ci h0 rfl ?_ ?_ <;> clear h0
     ·intro b31 h0
      have b32 : q30 = false := by simpa using b31
      refine sr rfl fun K33 hK33 => ?_
      refine zq tb rfl ?_
      refine dn hK33 rfl ?_
      replace h0 := Sh.some_eq h0
      subst r
      exact AW.ret (xr (Wk.d0 [(4, (.bool false))] rfl))
     ·intro b31 h0
      have b34 : q30 = true := by simpa using b31
      refine AW.skip (hK28 _ ?_)
      refine sr rfl fun K35 hK35 => ?_
      refine zq tb rfl ?_
      refine dn hK35 rfl ?_
      replace h0 := Sh.some_eq h0
      subst r
      exact AW.ret (xr (Wk.d0 [(4, (.bool true))] rfl))
theorem laws_eqProcS_ok {N : Nat} {p0 : (List RProc)} {p1 : (List RProc)} {r : Bool} (h0 : laws_eqProcS N p0 p1 = some r) : ACalls Tryz.prog 26 [(.sl (List.map eRProc p0)), (.sl (List.map eRProc p1))] [] (fun v st => v = (.bool r) ∧ st = []) := by
 unfold laws_eqProcS at h0
 refine ACalls.intro Tryz.func26 rfl (by show 2 ≤ 27; decide) ?_
 show AW _ 0 _ (aret _ 0 Tryz.f26 _) ⟨27, _, _⟩
 refine AW.weaken (Wk.to (L := [(0, (.sl (List.map eRProc p0))), (1, (.sl (List.map eRProc p1)))]) ⟨.rfl, .rfl, trivial⟩) ?_
 refine sr rfl fun K1 hK1 => ?_
 refine zq tb rfl ?_
 refine dn hK1 rfl ?_
 refine AW.seq fun K2 hK2 => ?_
 refine sr rfl fun K3 hK3 => ?_
 refine zq tb rfl ?_
 refine zl tb rfl rfl ?_
 refine zq tb rfl ?_
 refine zl tb rfl rfl ?_
 refine zq tb rfl ?_
 refine dn hK3 rfl ?_
 refine ci h0 rfl ?_ ?_ <;> clear h0
 ·intro b4 h0
  have b5 : decide ((Sh.len p0) = (Sh.len p1)) = false := by simpa using b4
  refine sr rfl fun K6 hK6 => ?_
  refine zq tb rfl ?_
  refine dn hK6 rfl ?_
  replace h0 := Sh.some_eq h0
  subst r
  exact AW.ret (xr (Wk.to (L := [(4, (.bool false))]) ⟨.rfl, trivial⟩))
 ·intro b4 h0
  have b7 : decide ((Sh.len p0) = (Sh.len p1)) = true := by simpa using b4
  refine AW.skip (hK2 _ ?_)
  refine AW.seq fun K8 hK8 => ?_
  refine sr rfl fun K9 hK9 => ?_
  refine zq tb rfl ?_
  refine dn hK9 rfl ?_
  obtain ⟨o11, h1, h0⟩ := Sh.cont_some h0
  have M11 : ∀ (_ : Unit), o11 = Sum.inr () → ∀ s, Wk 0 s ⟨27, envL [], []⟩ → K8 s := by
   intro _ hq s hw
   subst o11
   try dsimp only at h0
   refine hK8 _ (AW.weaken hw ?_)
   refine sr rfl fun K12 hK12 => ?_
   refine zq tb rfl ?_
   refine dn hK12 rfl ?_
   replace h0 := Sh.some_eq h0
   subst r
   exact AW.ret (xr (Wk.to (L := [(4, (.bool true))]) ⟨.rfl, trivial⟩))
  refine AW.block (AW.loopF (σ := Int) (fun n v => laws_eqProcS_L1 N p0 p1 n v = some o11) (fun i10 => ⟨27, envL [(0, (.sl (List.map eRProc p0))), (1, (.sl (List.map eRProc p1))), (5, (i64 i10))], []⟩) N 0 h1 (Wk.tr rfl) (fun _ hv => by rw [laws_eqProcS_L1] at hv; cases hv) ?_)
  rintro n i10 h1
  try dsimp only at h1 ⊢
  rw [laws_eqProcS_L1] at h1
  refine AW.seq fun K13 hK13 => ?_
  refine sr rfl fun K14 hK14 => ?_
  iterate 2 refine zq tb rfl ?_
  refine zl tb rfl rfl ?_
  refine zq tb rfl ?_
  refine dn hK14 rfl ?_
  refine ci h1 rfl ?_ ?_ <;> clear h1
  ·intro b15 h1
   refine AW.skip (hK13 _ ?_)
   refine AW.seq fun K16 hK16 => ?_
   refine AW.block ?_
   refine AW.seq fun K17 hK17 => ?_
   refine AW.draw (by kernel_rfl) (by kernel_rfl) (by rfl) ?_
   iterate 2 refine yq tb rfl ?_
   obtain ⟨c18, gc18, h1⟩ := Sh.bind_some h1
   refine yx ei35 gc18 rfl rfl rfl ?_
   iterate 3 refine yq tb rfl ?_
   obtain ⟨c19, gc19, h1⟩ := Sh.bind_some h1
   refine yx ei35 gc19 rfl rfl rfl ?_
   refine yq tb rfl ?_
   obtain ⟨q20, gq20, h1⟩ := Sh.bind_some h1
   refine d_call (v := (.bool q20)) go0 hb54 (laws_eqProc_ok gq20) rfl rfl rfl ?_
   refine yq tb rfl ?_
   refine d_done (hK17 _ ?_)
   refine ci h1 rfl ?_ ?_ <;> clear h1
   ·intro b21 h1
    have b22 : q20 = false := by simpa using b21
    refine sr rfl fun K23 hK23 => ?_
    refine zq tb rfl ?_
    refine dn hK23 rfl ?_
    replace h1 := Sh.some_eq h1
    subst o11
    try dsimp only [id] at h0
    replace h0 := Sh.some_eq h0
    subst r
    exact AW.ret (xr (Wk.to (L := [(4, (.bool false))]) ⟨.rfl, trivial⟩))
   ·intro b21 h1
    have b24 : q20 = true := by simpa using b21
    refine AW.skip (hK16 _ ?_)
    refine AW.regionO (by rfl) ?_
    iterate 3 refine zq tb rfl ?_
    exact AO.done (xi (Sh.w (i10 + 1)) h1 (Wk.tr rfl))
  ·intro b15 h1
   exact AW.exit (M11 () (Sh.some_eq h1).symm _ (Wk.tr rfl))
theorem laws_eqImage_ok {N : Nat} {p0 : RImage} {p1 : RImage} {r : Bool} (h0 : laws_eqImage N p0 p1 = some r) : ACalls Tryz.prog 10 [(.agg (eRImage p0)), (.agg (eRImage p1))] [] (fun v st => v = (.bool r) ∧ st = []) := by
 unfold laws_eqImage at h0
 refine ACalls.intro Tryz.func10 rfl (by show 2 ≤ 17; decide) ?_
 show AW _ 0 _ (aret _ 0 Tryz.f10 _) ⟨17, _, _⟩
 refine AW.weaken (Wk.to (L := [(0, (.agg (eRImage p0))), (1, (.agg (eRImage p1)))]) ⟨.rfl, .rfl, trivial⟩) ?_
 refine sr rfl fun K1 hK1 => ?_
 refine ao_box (m := 0) (st' := [⟨0, 37, 2, [(eRImage p0)]⟩]) go0 rfl rfl rfl rfl rfl ?_
 refine ao_box (m := 1) (st' := [⟨0, 37, 2, [(eRImage p0)]⟩, ⟨0, 37, 2, [(eRImage p1)]⟩]) go0 rfl rfl rfl rfl rfl ?_
 refine zq tb rfl ?_
 refine dn hK1 rfl ?_
 refine AW.seq fun K2 hK2 => ?_
 refine sr rfl fun K3 hK3 => ?_
 iterate 4 refine zq tb rfl ?_
 obtain ⟨q4, gq4, h0⟩ := Sh.bind_some h0
 refine zc hb25 (laws_eqDeclS_ok gq4) rfl rfl rfl ?_
 refine zq tb rfl ?_
 refine dn hK3 rfl ?_
 refine ci h0 rfl ?_ ?_ <;> clear h0
 ·intro b5 h0
  have b6 : q4 = false := by simpa using b5
  refine sr rfl fun K7 hK7 => ?_
  refine zq tb rfl ?_
  refine dn hK7 rfl ?_
  replace h0 := Sh.some_eq h0
  subst r
  exact AW.ret (xr (Wk.d0 [(4, (.bool false))] rfl))
 ·intro b5 h0
  have b8 : q4 = true := by simpa using b5
  refine AW.skip (hK2 _ ?_)
  refine AW.seq fun K9 hK9 => ?_
  refine sr rfl fun K10 hK10 => ?_
  iterate 4 refine zq tb rfl ?_
  obtain ⟨q11, gq11, h0⟩ := Sh.bind_some h0
  refine zc hb26 (laws_eqProcS_ok gq11) rfl rfl rfl ?_
  refine zq tb rfl ?_
  refine dn hK10 rfl ?_
  refine ci h0 rfl ?_ ?_ <;> clear h0
  ·intro b12 h0
   have b13 : q11 = false := by simpa using b12
   refine sr rfl fun K14 hK14 => ?_
   refine zq tb rfl ?_
   refine dn hK14 rfl ?_
   replace h0 := Sh.some_eq h0
   subst r
   exact AW.ret (xr (Wk.d0 [(4, (.bool false))] rfl))
  ·intro b12 h0
   have b15 : q11 = true := by simpa using b12
   refine AW.skip (hK9 _ ?_)
   refine sr rfl fun K16 hK16 => ?_
   refine zq tb rfl ?_
   refine dn hK16 rfl ?_
   replace h0 := Sh.some_eq h0
   subst r
   exact AW.ret (xr (Wk.d0 [(4, (.bool true))] rfl))
theorem laws_eqCell_ok {N : Nat} {p0 : Cell} {p1 : Cell} {r : Bool} (h0 : laws_eqCell N p0 p1 = some r) : ACalls Tryz.prog 55 [(.agg (eCell p0)), (.agg (eCell p1))] [] (fun v st => v = (.bool r) ∧ st = []) := by
 unfold laws_eqCell at h0
 refine ACalls.intro Tryz.func55 rfl (by show 2 ≤ 21; decide) ?_
 show AW _ 0 _ (aret _ 0 Tryz.f55 _) ⟨21, _, _⟩
 refine AW.weaken (Wk.to (L := [(0, (.agg (eCell p0))), (1, (.agg (eCell p1)))]) ⟨.rfl, .rfl, trivial⟩) ?_
 refine sr rfl fun K1 hK1 => ?_
 refine ao_box (m := 0) (st' := [⟨0, 90, 3, [(eCell p0)]⟩]) go0 rfl rfl rfl rfl rfl ?_
 refine ao_box (m := 1) (st' := [⟨0, 90, 3, [(eCell p0)]⟩, ⟨0, 90, 3, [(eCell p1)]⟩]) go0 rfl rfl rfl rfl rfl ?_
 refine zq tb rfl ?_
 refine dn hK1 rfl ?_
 refine AW.seq fun K2 hK2 => ?_
 refine sr rfl fun K3 hK3 => ?_
 iterate 5 refine zq tb rfl ?_
 refine dn hK3 rfl ?_
 refine ci h0 rfl ?_ ?_ <;> clear h0
 ·intro b4 h0
  have b5 : decide (p0.count = p1.count) = false := by simpa using b4
  refine sr rfl fun K6 hK6 => ?_
  refine zq tb rfl ?_
  refine dn hK6 rfl ?_
  replace h0 := Sh.some_eq h0
  subst r
  exact AW.ret (xr (Wk.d0 [(4, (.bool false))] rfl))
 ·intro b4 h0
  have b7 : decide (p0.count = p1.count) = true := by simpa using b4
  refine AW.skip (hK2 _ ?_)
  refine AW.seq fun K8 hK8 => ?_
  refine sr rfl fun K9 hK9 => ?_
  iterate 5 refine zq tb rfl ?_
  refine dn hK9 rfl ?_
  refine ci h0 rfl ?_ ?_ <;> clear h0
  ·intro b10 h0
   have b11 : decide (p0.tag = p1.tag) = false := by simpa using b10
   refine sr rfl fun K12 hK12 => ?_
   refine zq tb rfl ?_
   refine dn hK12 rfl ?_
   replace h0 := Sh.some_eq h0
   subst r
   exact AW.ret (xr (Wk.d0 [(4, (.bool false))] rfl))
  ·intro b10 h0
   have b13 : decide (p0.tag = p1.tag) = true := by simpa using b10
   refine AW.skip (hK8 _ ?_)
   refine AW.seq fun K14 hK14 => ?_
   refine sr rfl fun K15 hK15 => ?_
   iterate 4 refine zq tb rfl ?_
   obtain ⟨q16, gq16, h0⟩ := Sh.bind_some h0
   refine zc hb27 (laws_eqIntS_ok gq16) rfl rfl rfl ?_
   refine zq tb rfl ?_
   refine dn hK15 rfl ?_
   refine ci h0 rfl ?_ ?_ <;> clear h0
   ·intro b17 h0
    have b18 : q16 = false := by simpa using b17
    refine sr rfl fun K19 hK19 => ?_
    refine zq tb rfl ?_
    refine dn hK19 rfl ?_
    replace h0 := Sh.some_eq h0
    subst r
    exact AW.ret (xr (Wk.d0 [(4, (.bool false))] rfl))
   ·intro b17 h0
    have b20 : q16 = true := by simpa using b17
    refine AW.skip (hK14 _ ?_)
    refine sr rfl fun K21 hK21 => ?_
    refine zq tb rfl ?_
    refine dn hK21 rfl ?_
    replace h0 := Sh.some_eq h0
    subst r
    exact AW.ret (xr (Wk.d0 [(4, (.bool true))] rfl))
theorem laws_eqCellS_ok {N : Nat} {p0 : (List Cell)} {p1 : (List Cell)} {r : Bool} (h0 : laws_eqCellS N p0 p1 = some r) : ACalls Tryz.prog 28 [(.sl (List.map eCell p0)), (.sl (List.map eCell p1))] [] (fun v st => v = (.bool r) ∧ st = []) := by
 unfold laws_eqCellS at h0
 refine ACalls.intro Tryz.func28 rfl (by show 2 ≤ 27; decide) ?_
 show AW _ 0 _ (aret _ 0 Tryz.f28 _) ⟨27, _, _⟩
 refine AW.weaken (Wk.to (L := [(0, (.sl (List.map eCell p0))), (1, (.sl (List.map eCell p1)))]) ⟨.rfl, .rfl, trivial⟩) ?_
 refine sr rfl fun K1 hK1 => ?_
 refine zq tb rfl ?_
 refine dn hK1 rfl ?_
 refine AW.seq fun K2 hK2 => ?_
 refine sr rfl fun K3 hK3 => ?_
 refine zq tb rfl ?_
 refine zl tb rfl rfl ?_
 refine zq tb rfl ?_
 refine zl tb rfl rfl ?_
 refine zq tb rfl ?_
 refine dn hK3 rfl ?_
 refine ci h0 rfl ?_ ?_ <;> clear h0
 ·intro b4 h0
  have b5 : decide ((Sh.len p0) = (Sh.len p1)) = false := by simpa using b4
  refine sr rfl fun K6 hK6 => ?_
  refine zq tb rfl ?_
  refine dn hK6 rfl ?_
  replace h0 := Sh.some_eq h0
  subst r
  exact AW.ret (xr (Wk.to (L := [(4, (.bool false))]) ⟨.rfl, trivial⟩))
 ·intro b4 h0
  have b7 : decide ((Sh.len p0) = (Sh.len p1)) = true := by simpa using b4
  refine AW.skip (hK2 _ ?_)
  refine AW.seq fun K8 hK8 => ?_
  refine sr rfl fun K9 hK9 => ?_
  refine zq tb rfl ?_
  refine dn hK9 rfl ?_
  obtain ⟨o11, h1, h0⟩ := Sh.cont_some h0
  have M11 : ∀ (_ : Unit), o11 = Sum.inr () → ∀ s, Wk 0 s ⟨27, envL [], []⟩ → K8 s := by
   intro _ hq s hw
   subst o11
   try dsimp only at h0
   refine hK8 _ (AW.weaken hw ?_)
   refine sr rfl fun K12 hK12 => ?_
   refine zq tb rfl ?_
   refine dn hK12 rfl ?_
   replace h0 := Sh.some_eq h0
   subst r
   exact AW.ret (xr (Wk.to (L := [(4, (.bool true))]) ⟨.rfl, trivial⟩))
  refine AW.block (AW.loopF (σ := Int) (fun n v => laws_eqCellS_L1 N p0 p1 n v = some o11) (fun i10 => ⟨27, envL [(0, (.sl (List.map eCell p0))), (1, (.sl (List.map eCell p1))), (5, (i64 i10))], []⟩) N 0 h1 (Wk.tr rfl) (fun _ hv => by rw [laws_eqCellS_L1] at hv; cases hv) ?_)
  rintro n i10 h1
  try dsimp only at h1 ⊢
  rw [laws_eqCellS_L1] at h1
  refine AW.seq fun K13 hK13 => ?_
  refine sr rfl fun K14 hK14 => ?_
  iterate 2 refine zq tb rfl ?_
  refine zl tb rfl rfl ?_
  refine zq tb rfl ?_
  refine dn hK14 rfl ?_
  refine ci h1 rfl ?_ ?_ <;> clear h1
  ·intro b15 h1
   refine AW.skip (hK13 _ ?_)
   refine AW.seq fun K16 hK16 => ?_
   refine AW.block ?_
   refine AW.seq fun K17 hK17 => ?_
   refine AW.draw (by kernel_rfl) (by kernel_rfl) (by rfl) ?_
   iterate 2 refine yq tb rfl ?_
   obtain ⟨c18, gc18, h1⟩ := Sh.bind_some h1
   refine yx ei39 gc18 rfl rfl rfl ?_
   iterate 3 refine yq tb rfl ?_
   obtain ⟨c19, gc19, h1⟩ := Sh.bind_some h1
   refine yx ei39 gc19 rfl rfl rfl ?_
   refine yq tb rfl ?_
   obtain ⟨q20, gq20, h1⟩ := Sh.bind_some h1
   refine d_call (v := (.bool q20)) go0 hb55 (laws_eqCell_ok gq20) rfl rfl rfl ?_
   refine yq tb rfl ?_
   refine d_done (hK17 _ ?_)
   refine ci h1 rfl ?_ ?_ <;> clear h1
   ·intro b21 h1
    have b22 : q20 = false := by simpa using b21
    refine sr rfl fun K23 hK23 => ?_
    refine zq tb rfl ?_
    refine dn hK23 rfl ?_
    replace h1 := Sh.some_eq h1
    subst o11
    try dsimp only [id] at h0
    replace h0 := Sh.some_eq h0
    subst r
    exact AW.ret (xr (Wk.to (L := [(4, (.bool false))]) ⟨.rfl, trivial⟩))
   ·intro b21 h1
    have b24 : q20 = true := by simpa using b21
    refine AW.skip (hK16 _ ?_)
    refine AW.regionO (by rfl) ?_
    iterate 3 refine zq tb rfl ?_
    exact AO.done (xi (Sh.w (i10 + 1)) h1 (Wk.tr rfl))
  ·intro b15 h1
   exact AW.exit (M11 () (Sh.some_eq h1).symm _ (Wk.tr rfl))
theorem laws_eqFrame_ok {N : Nat} {p0 : RFrame} {p1 : RFrame} {r : Bool} (h0 : laws_eqFrame N p0 p1 = some r) : ACalls Tryz.prog 56 [(.agg (eRFrame p0)), (.agg (eRFrame p1))] [] (fun v st => v = (.bool r) ∧ st = []) := by
 unfold laws_eqFrame at h0
 refine ACalls.intro Tryz.func56 rfl (by show 2 ≤ 38; decide) ?_
 show AW _ 0 _ (aret _ 0 Tryz.f56 _) ⟨38, _, _⟩
 refine AW.weaken (Wk.to (L := [(0, (.agg (eRFrame p0))), (1, (.agg (eRFrame p1)))]) ⟨.rfl, .rfl, trivial⟩) ?_
 refine sr rfl fun K1 hK1 => ?_
 refine ao_box (m := 0) (st' := [⟨0, 92, 6, [(eRFrame p0)]⟩]) go0 rfl rfl rfl rfl rfl ?_
 refine ao_box (m := 1) (st' := [⟨0, 92, 6, [(eRFrame p0)]⟩, ⟨0, 92, 6, [(eRFrame p1)]⟩]) go0 rfl rfl rfl rfl rfl ?_
 refine zq tb rfl ?_
 refine dn hK1 rfl ?_
 refine AW.seq fun K2 hK2 => ?_
 refine sr rfl fun K3 hK3 => ?_
 iterate 5 refine zq tb rfl ?_
 refine dn hK3 rfl ?_
 refine ci h0 rfl ?_ ?_ <;> clear h0
 ·intro b4 h0
  have b5 : decide (p0.proc = p1.proc) = false := by simpa using b4
  refine sr rfl fun K6 hK6 => ?_
  refine zq tb rfl ?_
  refine dn hK6 rfl ?_
  replace h0 := Sh.some_eq h0
  subst r
  exact AW.ret (xr (Wk.d0 [(4, (.bool false))] rfl))
 ·intro b4 h0
  have b7 : decide (p0.proc = p1.proc) = true := by simpa using b4
  refine AW.skip (hK2 _ ?_)
  refine AW.seq fun K8 hK8 => ?_
  refine sr rfl fun K9 hK9 => ?_
  iterate 5 refine zq tb rfl ?_
  refine dn hK9 rfl ?_
  refine ci h0 rfl ?_ ?_ <;> clear h0
  ·intro b10 h0
   have b11 : decide (p0.at_ = p1.at_) = false := by simpa using b10
   refine sr rfl fun K12 hK12 => ?_
   refine zq tb rfl ?_
   refine dn hK12 rfl ?_
   replace h0 := Sh.some_eq h0
   subst r
   exact AW.ret (xr (Wk.d0 [(4, (.bool false))] rfl))
  ·intro b10 h0
   have b13 : decide (p0.at_ = p1.at_) = true := by simpa using b10
   refine AW.skip (hK8 _ ?_)
   refine AW.seq fun K14 hK14 => ?_
   refine sr rfl fun K15 hK15 => ?_
   iterate 5 refine zq tb rfl ?_
   refine dn hK15 rfl ?_
   refine ci h0 rfl ?_ ?_ <;> clear h0
   ·intro b16 h0
    have b17 : decide (p0.dst = p1.dst) = false := by simpa using b16
    refine sr rfl fun K18 hK18 => ?_
    refine zq tb rfl ?_
    refine dn hK18 rfl ?_
    replace h0 := Sh.some_eq h0
    subst r
    exact AW.ret (xr (Wk.d0 [(4, (.bool false))] rfl))
   ·intro b16 h0
    have b19 : decide (p0.dst = p1.dst) = true := by simpa using b16
    refine AW.skip (hK14 _ ?_)
    refine AW.seq fun K20 hK20 => ?_
    refine sr rfl fun K21 hK21 => ?_
    iterate 4 refine zq tb rfl ?_
    obtain ⟨q22, gq22, h0⟩ := Sh.bind_some h0
    refine zc hb27 (laws_eqIntS_ok gq22) rfl rfl rfl ?_
    refine zq tb rfl ?_
    refine dn hK21 rfl ?_
    refine ci h0 rfl ?_ ?_ <;> clear h0
    ·intro b23 h0
     have b24 : q22 = false := by simpa using b23
     refine sr rfl fun K25 hK25 => ?_
     refine zq tb rfl ?_
     refine dn hK25 rfl ?_
     replace h0 := Sh.some_eq h0
     subst r
     exact AW.ret (xr (Wk.d0 [(4, (.bool false))] rfl))
    ·intro b23 h0
     have b26 : q22 = true := by simpa using b23
     refine AW.skip (hK20 _ ?_)
     refine AW.seq fun K27 hK27 => ?_
     refine sr rfl fun K28 hK28 => ?_
     iterate 4 refine zq tb rfl ?_
     obtain ⟨q29, gq29, h0⟩ := Sh.bind_some h0
     refine zc hb27 (laws_eqIntS_ok gq29) rfl rfl rfl ?_
     refine zq tb rfl ?_
     refine dn hK28 rfl ?_
     refine ci h0 rfl ?_ ?_ <;> clear h0
     ·intro b30 h0
      have b31 : q29 = false := by simpa using b30
      refine sr rfl fun K32 hK32 => ?_
      refine zq tb rfl ?_
      refine dn hK32 rfl ?_
      replace h0 := Sh.some_eq h0
      subst r
      exact AW.ret (xr (Wk.d0 [(4, (.bool false))] rfl))
     ·intro b30 h0
      have b33 : q29 = true := by simpa using b30
      refine AW.skip (hK27 _ ?_)
      refine AW.seq fun K34 hK34 => ?_
      refine sr rfl fun K35 hK35 => ?_
      iterate 4 refine zq tb rfl ?_
      obtain ⟨q36, gq36, h0⟩ := Sh.bind_some h0
      refine zc hb27 (laws_eqIntS_ok gq36) rfl rfl rfl ?_
      refine zq tb rfl ?_
      refine dn hK35 rfl ?_
      refine ci h0 rfl ?_ ?_ <;> clear h0
      ·intro b37 h0
       have b38 : q36 = false := by simpa using b37
       refine sr rfl fun K39 hK39 => ?_
       refine zq tb rfl ?_
       refine dn hK39 rfl ?_
       replace h0 := Sh.some_eq h0
       subst r
       exact AW.ret (xr (Wk.d0 [(4, (.bool false))] rfl))
      ·intro b37 h0
       have b40 : q36 = true := by simpa using b37
       refine AW.skip (hK34 _ ?_)
       refine sr rfl fun K41 hK41 => ?_
       refine zq tb rfl ?_
       refine dn hK41 rfl ?_
       replace h0 := Sh.some_eq h0
       subst r
       exact AW.ret (xr (Wk.d0 [(4, (.bool true))] rfl))
theorem laws_eqFrameS_ok {N : Nat} {p0 : (List RFrame)} {p1 : (List RFrame)} {r : Bool} (h0 : laws_eqFrameS N p0 p1 = some r) : ACalls Tryz.prog 29 [(.sl (List.map eRFrame p0)), (.sl (List.map eRFrame p1))] [] (fun v st => v = (.bool r) ∧ st = []) := by
 unfold laws_eqFrameS at h0
 refine ACalls.intro Tryz.func29 rfl (by show 2 ≤ 27; decide) ?_
 show AW _ 0 _ (aret _ 0 Tryz.f29 _) ⟨27, _, _⟩
 refine AW.weaken (Wk.to (L := [(0, (.sl (List.map eRFrame p0))), (1, (.sl (List.map eRFrame p1)))]) ⟨.rfl, .rfl, trivial⟩) ?_
 refine sr rfl fun K1 hK1 => ?_
 refine zq tb rfl ?_
 refine dn hK1 rfl ?_
 refine AW.seq fun K2 hK2 => ?_
 refine sr rfl fun K3 hK3 => ?_
 refine zq tb rfl ?_
 refine zl tb rfl rfl ?_
 refine zq tb rfl ?_
 refine zl tb rfl rfl ?_
 refine zq tb rfl ?_
 refine dn hK3 rfl ?_
 refine ci h0 rfl ?_ ?_ <;> clear h0
 ·intro b4 h0
  have b5 : decide ((Sh.len p0) = (Sh.len p1)) = false := by simpa using b4
  refine sr rfl fun K6 hK6 => ?_
  refine zq tb rfl ?_
  refine dn hK6 rfl ?_
  replace h0 := Sh.some_eq h0
  subst r
  exact AW.ret (xr (Wk.to (L := [(4, (.bool false))]) ⟨.rfl, trivial⟩))
 ·intro b4 h0
  have b7 : decide ((Sh.len p0) = (Sh.len p1)) = true := by simpa using b4
  refine AW.skip (hK2 _ ?_)
  refine AW.seq fun K8 hK8 => ?_
  refine sr rfl fun K9 hK9 => ?_
  refine zq tb rfl ?_
  refine dn hK9 rfl ?_
  obtain ⟨o11, h1, h0⟩ := Sh.cont_some h0
  have M11 : ∀ (_ : Unit), o11 = Sum.inr () → ∀ s, Wk 0 s ⟨27, envL [], []⟩ → K8 s := by
   intro _ hq s hw
   subst o11
   try dsimp only at h0
   refine hK8 _ (AW.weaken hw ?_)
   refine sr rfl fun K12 hK12 => ?_
   refine zq tb rfl ?_
   refine dn hK12 rfl ?_
   replace h0 := Sh.some_eq h0
   subst r
   exact AW.ret (xr (Wk.to (L := [(4, (.bool true))]) ⟨.rfl, trivial⟩))
  refine AW.block (AW.loopF (σ := Int) (fun n v => laws_eqFrameS_L1 N p0 p1 n v = some o11) (fun i10 => ⟨27, envL [(0, (.sl (List.map eRFrame p0))), (1, (.sl (List.map eRFrame p1))), (5, (i64 i10))], []⟩) N 0 h1 (Wk.tr rfl) (fun _ hv => by rw [laws_eqFrameS_L1] at hv; cases hv) ?_)
  rintro n i10 h1
  try dsimp only at h1 ⊢
  rw [laws_eqFrameS_L1] at h1
  refine AW.seq fun K13 hK13 => ?_
  refine sr rfl fun K14 hK14 => ?_
  iterate 2 refine zq tb rfl ?_
  refine zl tb rfl rfl ?_
  refine zq tb rfl ?_
  refine dn hK14 rfl ?_
  refine ci h1 rfl ?_ ?_ <;> clear h1
  ·intro b15 h1
   refine AW.skip (hK13 _ ?_)
   refine AW.seq fun K16 hK16 => ?_
   refine AW.block ?_
   refine AW.seq fun K17 hK17 => ?_
   refine AW.draw (by kernel_rfl) (by kernel_rfl) (by rfl) ?_
   iterate 2 refine yq tb rfl ?_
   obtain ⟨c18, gc18, h1⟩ := Sh.bind_some h1
   refine yx ei40 gc18 rfl rfl rfl ?_
   iterate 3 refine yq tb rfl ?_
   obtain ⟨c19, gc19, h1⟩ := Sh.bind_some h1
   refine yx ei40 gc19 rfl rfl rfl ?_
   refine yq tb rfl ?_
   obtain ⟨q20, gq20, h1⟩ := Sh.bind_some h1
   refine d_call (v := (.bool q20)) go0 hb56 (laws_eqFrame_ok gq20) rfl rfl rfl ?_
   refine yq tb rfl ?_
   refine d_done (hK17 _ ?_)
   refine ci h1 rfl ?_ ?_ <;> clear h1
   ·intro b21 h1
    have b22 : q20 = false := by simpa using b21
    refine sr rfl fun K23 hK23 => ?_
    refine zq tb rfl ?_
    refine dn hK23 rfl ?_
    replace h1 := Sh.some_eq h1
    subst o11
    try dsimp only [id] at h0
    replace h0 := Sh.some_eq h0
    subst r
    exact AW.ret (xr (Wk.to (L := [(4, (.bool false))]) ⟨.rfl, trivial⟩))
   ·intro b21 h1
    have b24 : q20 = true := by simpa using b21
    refine AW.skip (hK16 _ ?_)
    refine AW.regionO (by rfl) ?_
    iterate 3 refine zq tb rfl ?_
    exact AO.done (xi (Sh.w (i10 + 1)) h1 (Wk.tr rfl))
  ·intro b15 h1
   exact AW.exit (M11 () (Sh.some_eq h1).symm _ (Wk.tr rfl))
theorem laws_eqState_ok {N : Nat} {p0 : RState} {p1 : RState} {r : Bool} (h0 : laws_eqState N p0 p1 = some r) : ACalls Tryz.prog 11 [(.agg (eRState p0)), (.agg (eRState p1))] [] (fun v st => v = (.bool r) ∧ st = []) := by
 unfold laws_eqState at h0
 refine ACalls.intro Tryz.func11 rfl (by show 2 ≤ 43; decide) ?_
 show AW _ 0 _ (aret _ 0 Tryz.f11 _) ⟨43, _, _⟩
 refine AW.weaken (Wk.to (L := [(0, (.agg (eRState p0))), (1, (.agg (eRState p1)))]) ⟨.rfl, .rfl, trivial⟩) ?_
 refine sr rfl fun K1 hK1 => ?_
 refine ao_box (m := 0) (st' := [⟨0, 42, 7, [(eRState p0)]⟩]) go0 rfl rfl rfl rfl rfl ?_
 refine ao_box (m := 1) (st' := [⟨0, 42, 7, [(eRState p0)]⟩, ⟨0, 42, 7, [(eRState p1)]⟩]) go0 rfl rfl rfl rfl rfl ?_
 refine zq tb rfl ?_
 refine dn hK1 rfl ?_
 refine AW.seq fun K2 hK2 => ?_
 refine sr rfl fun K3 hK3 => ?_
 iterate 5 refine zq tb rfl ?_
 refine dn hK3 rfl ?_
 refine ci h0 rfl ?_ ?_ <;> clear h0
 ·intro b4 h0
  have b5 : decide (p0.status = p1.status) = false := by simpa using b4
  refine sr rfl fun K6 hK6 => ?_
  refine zq tb rfl ?_
  refine dn hK6 rfl ?_
  replace h0 := Sh.some_eq h0
  subst r
  exact AW.ret (xr (Wk.d0 [(4, (.bool false))] rfl))
 ·intro b4 h0
  have b7 : decide (p0.status = p1.status) = true := by simpa using b4
  refine AW.skip (hK2 _ ?_)
  refine AW.seq fun K8 hK8 => ?_
  refine sr rfl fun K9 hK9 => ?_
  iterate 5 refine zq tb rfl ?_
  refine dn hK9 rfl ?_
  refine ci h0 rfl ?_ ?_ <;> clear h0
  ·intro b10 h0
   have b11 : decide (p0.value = p1.value) = false := by simpa using b10
   refine sr rfl fun K12 hK12 => ?_
   refine zq tb rfl ?_
   refine dn hK12 rfl ?_
   replace h0 := Sh.some_eq h0
   subst r
   exact AW.ret (xr (Wk.d0 [(4, (.bool false))] rfl))
  ·intro b10 h0
   have b13 : decide (p0.value = p1.value) = true := by simpa using b10
   refine AW.skip (hK8 _ ?_)
   refine AW.seq fun K14 hK14 => ?_
   refine sr rfl fun K15 hK15 => ?_
   iterate 5 refine zq tb rfl ?_
   refine dn hK15 rfl ?_
   refine ci h0 rfl ?_ ?_ <;> clear h0
   ·intro b16 h0
    have b17 : decide (p0.calls = p1.calls) = false := by simpa using b16
    refine sr rfl fun K18 hK18 => ?_
    refine zq tb rfl ?_
    refine dn hK18 rfl ?_
    replace h0 := Sh.some_eq h0
    subst r
    exact AW.ret (xr (Wk.d0 [(4, (.bool false))] rfl))
   ·intro b16 h0
    have b19 : decide (p0.calls = p1.calls) = true := by simpa using b16
    refine AW.skip (hK14 _ ?_)
    refine AW.seq fun K20 hK20 => ?_
    refine sr rfl fun K21 hK21 => ?_
    iterate 5 refine zq tb rfl ?_
    refine dn hK21 rfl ?_
    refine ci h0 rfl ?_ ?_ <;> clear h0
    ·intro b22 h0
     have b23 : decide (p0.most = p1.most) = false := by simpa using b22
     refine sr rfl fun K24 hK24 => ?_
     refine zq tb rfl ?_
     refine dn hK24 rfl ?_
     replace h0 := Sh.some_eq h0
     subst r
     exact AW.ret (xr (Wk.d0 [(4, (.bool false))] rfl))
    ·intro b22 h0
     have b25 : decide (p0.most = p1.most) = true := by simpa using b22
     refine AW.skip (hK20 _ ?_)
     refine AW.seq fun K26 hK26 => ?_
     refine sr rfl fun K27 hK27 => ?_
     iterate 4 refine zq tb rfl ?_
     obtain ⟨q28, gq28, h0⟩ := Sh.bind_some h0
     refine zc hb27 (laws_eqIntS_ok gq28) rfl rfl rfl ?_
     refine zq tb rfl ?_
     refine dn hK27 rfl ?_
     refine ci h0 rfl ?_ ?_ <;> clear h0
     ·intro b29 h0
      have b30 : q28 = false := by simpa using b29
      refine sr rfl fun K31 hK31 => ?_
      refine zq tb rfl ?_
      refine dn hK31 rfl ?_
      replace h0 := Sh.some_eq h0
      subst r
      exact AW.ret (xr (Wk.d0 [(4, (.bool false))] rfl))
     ·intro b29 h0
      have b32 : q28 = true := by simpa using b29
      refine AW.skip (hK26 _ ?_)
      refine AW.seq fun K33 hK33 => ?_
      refine sr rfl fun K34 hK34 => ?_
      iterate 4 refine zq tb rfl ?_
      obtain ⟨q35, gq35, h0⟩ := Sh.bind_some h0
      refine zc hb28 (laws_eqCellS_ok gq35) rfl rfl rfl ?_
      refine zq tb rfl ?_
      refine dn hK34 rfl ?_
      refine ci h0 rfl ?_ ?_ <;> clear h0
      ·intro b36 h0
       have b37 : q35 = false := by simpa using b36
       refine sr rfl fun K38 hK38 => ?_
       refine zq tb rfl ?_
       refine dn hK38 rfl ?_
       replace h0 := Sh.some_eq h0
       subst r
       exact AW.ret (xr (Wk.d0 [(4, (.bool false))] rfl))
      ·intro b36 h0
       have b39 : q35 = true := by simpa using b36
       refine AW.skip (hK33 _ ?_)
       refine AW.seq fun K40 hK40 => ?_
       refine sr rfl fun K41 hK41 => ?_
       iterate 4 refine zq tb rfl ?_
       obtain ⟨q42, gq42, h0⟩ := Sh.bind_some h0
       refine zc hb29 (laws_eqFrameS_ok gq42) rfl rfl rfl ?_
       refine zq tb rfl ?_
       refine dn hK41 rfl ?_
       refine ci h0 rfl ?_ ?_ <;> clear h0
       ·intro b43 h0
        have b44 : q42 = false := by simpa using b43
        refine sr rfl fun K45 hK45 => ?_
        refine zq tb rfl ?_
        refine dn hK45 rfl ?_
        replace h0 := Sh.some_eq h0
        subst r
        exact AW.ret (xr (Wk.d0 [(4, (.bool false))] rfl))
       ·intro b43 h0
        have b46 : q42 = true := by simpa using b43
        refine AW.skip (hK40 _ ?_)
        refine sr rfl fun K47 hK47 => ?_
        refine zq tb rfl ?_
        refine dn hK47 rfl ?_
        replace h0 := Sh.some_eq h0
        subst r
        exact AW.ret (xr (Wk.d0 [(4, (.bool true))] rfl))
theorem laws_FnExactValidState_ok {N : Nat} {p0 : RImage} {p1 : RState} {r : Bool} (h0 : laws_FnExactValidState N p0 p1 = some r) : ACalls Tryz.prog 3 [(.agg (eRImage p0)), (.agg (eRState p1))] [] (fun v st => v = (.bool r) ∧ st = []) := by
 unfold laws_FnExactValidState at h0
 refine ACalls.intro Tryz.func3 rfl (by show 2 ≤ 45; decide) ?_
 show AW _ 0 _ (aret _ 0 Tryz.f3 _) ⟨45, _, _⟩
 refine AW.weaken (Wk.to (L := [(0, (.agg (eRImage p0))), (1, (.agg (eRState p1)))]) ⟨.rfl, .rfl, trivial⟩) ?_
 refine sr rfl fun K1 hK1 => ?_
 refine ao_box (m := 0) (st' := [⟨0, 25, 2, [(eRImage p0)]⟩]) go0 rfl rfl rfl rfl rfl ?_
 refine ao_box (m := 1) (st' := [⟨0, 25, 2, [(eRImage p0)]⟩, ⟨0, 30, 7, [(eRState p1)]⟩]) go0 rfl rfl rfl rfl rfl ?_
 refine zq tb rfl ?_
 refine dn hK1 rfl ?_
 refine sr rfl fun K2 hK2 => ?_
 refine zq tb rfl ?_
 refine dn hK2 rfl ?_
 refine sr rfl fun K3 hK3 => ?_
 iterate 2 refine zq tb rfl ?_
 obtain ⟨q4, gq4, h0⟩ := Sh.bind_some h0
 refine zc hb4 (laws_szImage_ok gq4) rfl rfl rfl ?_
 refine zq tb rfl ?_
 refine dn hK3 rfl ?_
 refine AW.seq fun K5 hK5 => ?_
 refine sr rfl fun K6 hK6 => ?_
 iterate 2 refine zq tb rfl ?_
 refine dn hK6 rfl ?_
 refine ci h0 rfl ?_ ?_ <;> clear h0
 ·intro b7 h0
  refine sr rfl fun K8 hK8 => ?_
  refine zq tb rfl ?_
  refine dn hK8 rfl ?_
  replace h0 := Sh.some_eq h0
  subst r
  exact AW.ret (xr (Wk.d0 [(4, (.bool true))] rfl))
 ·intro b7 h0
  refine AW.skip (hK5 _ ?_)
  refine sr rfl fun K9 hK9 => ?_
  iterate 2 refine zq tb rfl ?_
  obtain ⟨q10, gq10, h0⟩ := Sh.bind_some h0
  refine zc hb5 (laws_szState_ok gq10) rfl rfl rfl ?_
  refine zq tb rfl ?_
  refine dn hK9 rfl ?_
  refine AW.seq fun K11 hK11 => ?_
  refine sr rfl fun K12 hK12 => ?_
  iterate 2 refine zq tb rfl ?_
  refine dn hK12 rfl ?_
  refine ci h0 rfl ?_ ?_ <;> clear h0
  ·intro b13 h0
   refine sr rfl fun K14 hK14 => ?_
   refine zq tb rfl ?_
   refine dn hK14 rfl ?_
   replace h0 := Sh.some_eq h0
   subst r
   exact AW.ret (xr (Wk.d0 [(4, (.bool true))] rfl))
  ·intro b13 h0
   refine AW.skip (hK11 _ ?_)
   refine AW.seq fun K15 hK15 => ?_
   refine AW.draw (by kernel_rfl) (by kernel_rfl) (by rfl) ?_
   refine yq tb rfl ?_
   obtain ⟨q16, gq16, h0⟩ := Sh.bind_some h0
   refine d_call (v := (.agg (eRImage q16))) go0 hb7 (laws_toImage_ok gq16) rfl rfl rfl ?_
   refine yq tb rfl ?_
   obtain ⟨q17, gq17, h0⟩ := Sh.bind_some h0
   refine d_call (v := (.agg (eRState q17))) go0 hb8 (laws_toState_ok gq17) rfl rfl rfl ?_
   obtain ⟨q18, gq18, h0⟩ := Sh.bind_some h0
   refine d_call (v := (.bool q18)) go0 hb6 (spec_ValidState_ok gq18) rfl rfl rfl ?_
   refine yq tb rfl ?_
   refine d_done (hK15 _ ?_)
   refine sr rfl fun K19 hK19 => ?_
   refine zq tb rfl ?_
   obtain ⟨q20, gq20, h0⟩ := Sh.bind_some h0
   refine zc (v' := (.agg (eRImage q20))) hb7 (laws_toImage_ok gq20) rfl rfl rfl ?_
   refine ao_alloc (m := 2) (st' := [⟨0, 25, 2, [(eRImage p0)]⟩, ⟨0, 30, 7, [(eRState p1)]⟩, ⟨0, 37, 2, [[.zc, .zc]]⟩]) go0 zi37 rfl rfl ?_
   refine ao_str (st' := [⟨0, 25, 2, [(eRImage p0)]⟩, ⟨0, 30, 7, [(eRState p1)]⟩, ⟨0, 37, 2, [(eRImage q20)]⟩]) go0 ti37 rfl rfl rfl rfl rfl rfl (show 0 + 2 ≤ 2 by decide) rfl ?_
   refine dn hK19 rfl ?_
   refine sr rfl fun K21 hK21 => ?_
   refine zq tb rfl ?_
   obtain ⟨q22, gq22, h0⟩ := Sh.bind_some h0
   refine zc (v' := (.agg (eRState q22))) hb8 (laws_toState_ok gq22) rfl rfl rfl ?_
   refine ao_alloc (m := 3) (st' := [⟨0, 25, 2, [(eRImage p0)]⟩, ⟨0, 30, 7, [(eRState p1)]⟩, ⟨0, 37, 2, [(eRImage q20)]⟩, ⟨0, 42, 7, [[(i64 0), (i64 0), (i64 0), (i64 0), .zc, .zc, .zc]]⟩]) go0 zi42 rfl rfl ?_
   refine ao_str (st' := [⟨0, 25, 2, [(eRImage p0)]⟩, ⟨0, 30, 7, [(eRState p1)]⟩, ⟨0, 37, 2, [(eRImage q20)]⟩, ⟨0, 42, 7, [(eRState q22)]⟩]) go0 ti42 rfl rfl rfl rfl rfl rfl (show 0 + 7 ≤ 7 by decide) rfl ?_
   refine dn hK21 rfl ?_
   refine sr rfl fun K23 hK23 => ?_
   iterate 2 refine zq tb rfl ?_
   obtain ⟨q24, gq24, h0⟩ := Sh.bind_some h0
   refine zc hb9 (impl_ValidState_ok gq24) rfl rfl rfl ?_
   refine zq tb rfl ?_
   refine dn hK23 rfl ?_
   refine AW.seq fun K25 hK25 => ?_
   refine sr rfl fun K26 hK26 => ?_
   iterate 3 refine zq tb rfl ?_
   refine dn hK26 rfl ?_
   refine ci h0 rfl ?_ ?_ <;> clear h0
   ·intro b27 h0
    refine sr rfl fun K28 hK28 => ?_
    refine zq tb rfl ?_
    refine dn hK28 rfl ?_
    replace h0 := Sh.some_eq h0
    subst r
    exact AW.ret (xr (Wk.d0 [(4, (.bool false))] rfl))
   ·intro b27 h0
    refine AW.skip (hK25 _ ?_)
    refine AW.seq fun K29 hK29 => ?_
    refine AW.seq fun K30 hK30 => ?_
    refine AW.draw (by kernel_rfl) (by kernel_rfl) (by rfl) ?_
    iterate 2 refine yq tb rfl ?_
    obtain ⟨q31, gq31, h0⟩ := Sh.bind_some h0
    refine d_call (v := (.agg (eRImage q31))) go0 hb7 (laws_toImage_ok gq31) rfl rfl rfl ?_
    obtain ⟨q32, gq32, h0⟩ := Sh.bind_some h0
    refine d_call (v := (.bool q32)) go0 hb10 (laws_eqImage_ok gq32) rfl rfl rfl ?_
    refine yq tb rfl ?_
    refine d_done (hK30 _ ?_)
    refine ci h0 rfl ?_ ?_ <;> clear h0
    ·intro b33 h0
     have b34 : q32 = false := by simpa using b33
     refine sr rfl fun K35 hK35 => ?_
     refine zq tb rfl ?_
     refine dn hK35 rfl ?_
     replace h0 := Sh.some_eq h0
     subst r
     exact AW.ret (xr (Wk.d0 [(4, (.bool false))] rfl))
    ·intro b33 h0
     have b36 : q32 = true := by simpa using b33
     refine AW.skip (hK29 _ ?_)
     refine AW.seq fun K37 hK37 => ?_
     refine AW.seq fun K38 hK38 => ?_
     refine AW.draw (by kernel_rfl) (by kernel_rfl) (by rfl) ?_
     iterate 2 refine yq tb rfl ?_
     obtain ⟨q39, gq39, h0⟩ := Sh.bind_some h0
     refine d_call (v := (.agg (eRState q39))) go0 hb8 (laws_toState_ok gq39) rfl rfl rfl ?_
     obtain ⟨q40, gq40, h0⟩ := Sh.bind_some h0
     refine d_call (v := (.bool q40)) go0 hb11 (laws_eqState_ok gq40) rfl rfl rfl ?_
     refine yq tb rfl ?_
     refine d_done (hK38 _ ?_)
     refine ci h0 rfl ?_ ?_ <;> clear h0
     ·intro b41 h0
      have b42 : q40 = false := by simpa using b41
      refine sr rfl fun K43 hK43 => ?_
      refine zq tb rfl ?_
      refine dn hK43 rfl ?_
      replace h0 := Sh.some_eq h0
      subst r
      exact AW.ret (xr (Wk.d0 [(4, (.bool false))] rfl))
     ·intro b41 h0
      have b44 : q40 = true := by simpa using b41
      refine AW.skip (hK37 _ ?_)
      refine sr rfl fun K45 hK45 => ?_
      refine zq tb rfl ?_
      refine dn hK45 rfl ?_
      replace h0 := Sh.some_eq h0
      subst r
      exact AW.ret (xr (Wk.d0 [(4, (.bool true))] rfl))
end Go.Proofs.YtefefailnbbooaaGreat

