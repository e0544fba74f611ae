import Derived.Test.YtgcghdgbahfcjaaProg
import Derived.Test.YtgcghdgbahfcjaaRGDefs
import Derived.Test.YtgcghdgbahfcjaaRGWalkP0
namespace Go.Proofs.Ytgcghdgbahfcjaa
open Go Go.Abs RC
attribute [local irreducible] Go.Abs.dops
set_option maxRecDepth 100000
set_option maxHeartbeats 4000000

theorem ai132 : allInfo Try.prog 132 = true := by kernel_rfl
theorem ai141 : allInfo Try.prog 141 = true := by kernel_rfl
theorem ai99 : allInfo Try.prog 99 = true := by kernel_rfl
theorem bi132 : finfos Try.prog 132 = some [(0, 1), (1, 1), (2, 1)] := by kernel_rfl
theorem bi141 : finfos Try.prog 141 = some [(0, 1)] := by kernel_rfl
theorem bi99 : finfos Try.prog 99 = some [(0, 1), (1, 1)] := by kernel_rfl
theorem ei97 : einfo Try.prog 97 = some ⟨132, 3, 56, [.sl [], .sl [], .int .i64 0]⟩ := by kernel_rfl
theorem hb101 : hasBody Try.prog 101 = true := by kernel_rfl
theorem hb102 : hasBody Try.prog 102 = true := by kernel_rfl
theorem hb103 : hasBody Try.prog 103 = true := by kernel_rfl
theorem hb104 : hasBody Try.prog 104 = true := by kernel_rfl
theorem hb105 : hasBody Try.prog 105 = true := by kernel_rfl
theorem hb106 : hasBody Try.prog 106 = true := by kernel_rfl
theorem hb107 : hasBody Try.prog 107 = true := by kernel_rfl
theorem hb111 : hasBody Try.prog 111 = true := by kernel_rfl
theorem hb24 : hasBody Try.prog 24 = true := by kernel_rfl
theorem hb26 : hasBody Try.prog 26 = true := by kernel_rfl
theorem hb27 : hasBody Try.prog 27 = true := by kernel_rfl
theorem hb66 : hasBody Try.prog 66 = true := by kernel_rfl
theorem hb81 : hasBody Try.prog 81 = true := by kernel_rfl
theorem hb82 : hasBody Try.prog 82 = true := by kernel_rfl
theorem hb83 : hasBody Try.prog 83 = true := by kernel_rfl
theorem hb84 : hasBody Try.prog 84 = true := by kernel_rfl
theorem hb85 : hasBody Try.prog 85 = true := by kernel_rfl
theorem hb86 : hasBody Try.prog 86 = true := by kernel_rfl
theorem sl30 : isSliceT Try.prog 30 = true := by kernel_rfl
theorem sl92 : isSliceT Try.prog 92 = true := by kernel_rfl
theorem sl97 : isSliceT Try.prog 97 = true := by kernel_rfl
theorem ti108 : tinfo Try.prog 108 = some (false, 1) := by kernel_rfl
theorem ti132 : tinfo Try.prog 132 = some (true, 3) := by kernel_rfl
theorem ti97 : tinfo Try.prog 97 = some (false, 1) := by kernel_rfl
theorem ti99 : tinfo Try.prog 99 = some (true, 2) := by kernel_rfl
theorem zi108 : zinfo Try.prog 108 = some [.nilf] := by kernel_rfl
theorem zi132 : zinfo Try.prog 132 = some [.zc, .zc, .int .i64 0] := by kernel_rfl
theorem zi99 : zinfo Try.prog 99 = some [.zc, .zc] := by kernel_rfl

theorem spec_ReachedCode_ok {N : Nat} {p0 : RImage} {p1 : Int} {r : (List Int)} (h0 : spec_ReachedCode N p0 p1 = some r) : ACalls Try.prog 7 [(.agg (eRImage p0)), (i64 p1)] [] (fun v st => v = (.own 0 0 (List.length r)) ∧ st = [⟨0, 3, 1, List.map eI r⟩]) := by
 unfold spec_ReachedCode at h0
 refine ACalls.intro Try.func7 rfl (by show 2 ≤ 57; decide) ?_
 show AW _ 0 _ (aret _ 0 Try.f7 _) ⟨57, _, _⟩
 refine AW.weaken (Wk.to (L := [(0, (.agg (eRImage p0))), (1, (i64 p1))]) ⟨.rfl, .rfl, trivial⟩) ?_
 refine sr rfl fun K1 hK1 => ?_
 refine ao_box (m := 0) (st' := [⟨0, 32, 2, [(eRImage p0)]⟩]) go0 rfl rfl rfl rfl rfl ?_
 refine zq tb rfl ?_
 refine dn hK1 rfl ?_
 refine AW.seq fun K2 hK2 => ?_
 refine AW.seq fun K3 hK3 => ?_
 obtain ⟨o5, h1, h0⟩ := Sh.bind_some h0
 have M5 : ∀ (t4 : Bool), o5 = t4 → ∀ s, Wk 0 s ⟨57, envL [(1, (i64 p1)), (2, (.ptr 0 0 0 0)), (20, (.bool t4))], [⟨0, 32, 2, [(eRImage p0)]⟩]⟩ → K3 s := by
  intro t4 hq s hw
  subst o5
  try dsimp only at h0
  refine hK3 _ (AW.weaken hw ?_)
  refine ci h0 rfl ?_ ?_ <;> clear h0
  ·intro b6 h0
   refine sr rfl fun K7 hK7 => ?_
   refine zq tb rfl ?_
   refine dn hK7 rfl ?_
   replace h0 := Sh.some_eq h0
   subst r
   exact AW.ret (Exists.intro _ (And.intro ((((Wk.adopt (t := 4) rfl 3 (size := 1) (by decide)).trans (Wk.to (L := [(4, (.own 1 0 (List.length ([] : List Int))))]) ⟨.rfl, trivial⟩)).trans (Wk.permk (L := [(4, (.own 0 0 (List.length ([] : List Int))))]) (st' := [⟨0, 3, 1, List.map eI ([] : List Int)⟩]) (st1 := [⟨0, 3, 1, List.map eI ([] : List Int)⟩]) [1] rfl .nil (by decide) rfl rfl (.pure (pure_map fun _ => rfl) .nil) ⟨.rfl, trivial⟩)).trans (Wk.to (L := [(4, (.own 0 0 (List.length ([] : List Int))))]) ⟨.rfl, trivial⟩)) (And.intro rfl rfl)))
  ·intro b6 h0
   refine AW.skip (hK2 _ ?_)
   refine sr rfl fun K8 hK8 => ?_
   refine ao_bs (m := 1) (st' := [⟨0, 32, 2, [(eRImage p0)]⟩, ⟨0, 3, 1, List.map eI [0]⟩]) (l := [0]) (enc := eI) go0 ei27 (by decide) rfl rfl rfl rfl rfl rfl ?_
   refine zq tb rfl ?_
   refine dn hK8 rfl ?_
   refine AW.seq fun K9 hK9 => ?_
   refine sr rfl fun K10 hK10 => ?_
   refine zq tb rfl ?_
   refine dn hK10 rfl ?_
   obtain ⟨o14, h1, h0⟩ := Sh.bind_some h0
   have M14 : ∀ (l13 : (List Int)), o14 = l13 → ∀ s, Wk 0 s ⟨57, envL [(5, (.own 0 0 (List.length l13)))], [⟨0, 3, 1, List.map eI l13⟩]⟩ → K9 s := by
    intro l13 hq s hw
    subst o14
    try dsimp only at h0
    refine hK9 _ (AW.weaken hw ?_)
    refine sr rfl fun K15 hK15 => ?_
    iterate 2 refine zq tb rfl ?_
    refine dn hK15 rfl ?_
    replace h0 := Sh.some_eq h0
    subst r
    exact AW.ret (xr (Wk.to (L := [(4, (.own 0 0 (List.length l13)))]) ⟨.rfl, trivial⟩))
   refine AW.block (AW.loopF (σ := Int × (List Int)) (fun n v => spec_ReachedCode_L1 N p0 p1 n v.1 v.2 = some o14) (fun (at11, l12) => ⟨57, envL [(1, (i64 p1)), (2, (.ptr 0 0 0 0)), (5, (.own 1 0 (List.length l12))), (6, (i64 at11))], [⟨0, 32, 2, [(eRImage p0)]⟩, ⟨0, 3, 1, List.map eI l12⟩]⟩) N (0, [0]) h1 (Wk.tr rfl) (fun _ hv => by rw [spec_ReachedCode_L1] at hv; cases hv) ?_)
   rintro n ⟨at11, l12⟩ h1
   try dsimp only at h1 ⊢
   rw [spec_ReachedCode_L1] at h1
   refine AW.seq fun K16 hK16 => ?_
   refine sr rfl fun K17 hK17 => ?_
   iterate 4 refine zq tb rfl ?_
   obtain ⟨c18, gc18, h1⟩ := Sh.bind_some h1
   refine zx ei30 gc18 rfl rfl rfl ?_
   iterate 2 refine zq tb rfl ?_
   refine zl tb rfl rfl ?_
   refine zq tb rfl ?_
   refine dn hK17 rfl ?_
   refine ci h1 rfl ?_ ?_ <;> clear h1
   ·intro b19 h1
    refine AW.skip (hK16 _ ?_)
    refine AW.seq fun K20 hK20 => ?_
    obtain ⟨o22, h2, h1⟩ := Sh.bind_some h1
    have M22 : ∀ (l21 : (List Int)), o22 = l21 → ∀ s, Wk 0 s ⟨57, envL [(1, (i64 p1)), (2, (.ptr 0 0 0 0)), (5, (.own 1 0 (List.length l21))), (6, (i64 at11))], [⟨0, 32, 2, [(eRImage p0)]⟩, ⟨0, 3, 1, List.map eI l21⟩]⟩ → K20 s := by
     intro l21 hq s hw
     subst o22
     try dsimp only at h1
     refine hK20 _ (AW.weaken hw ?_)
     refine AW.regionO (by rfl) ?_
     iterate 3 refine zq tb rfl ?_
     exact AO.done (xi (Sh.w (at11 + 1), l21) h1 (Wk.tr rfl))
    refine AW.block ?_
    refine sr rfl fun K23 hK23 => ?_
    iterate 2 refine zq tb rfl ?_
    obtain ⟨q24, gq24, h2⟩ := Sh.bind_some h2
    refine ao_callb (v' := (.bool q24)) (st' := [⟨0, 32, 2, [(eRImage p0)]⟩, ⟨0, 3, 1, List.map eI l12⟩]) go0 hb26 (spec_isIn_ok gq24) rfl (.own rfl rfl (fun _ => rfl) (.val rfl .nil)) rfl trivial rfl rfl ?_
    refine dn hK23 rfl ?_
    refine ci h2 rfl ?_ ?_ <;> clear h2
    ·intro b25 h2
     refine sr rfl fun K26 hK26 => ?_
     iterate 3 refine zq tb rfl ?_
     refine zx ei30 gc18 rfl rfl rfl ?_
     iterate 3 refine zq tb rfl ?_
     obtain ⟨q27, gq27, h2⟩ := Sh.bind_some h2
     refine ao_call (v' := (.own 2 0 (List.length q27))) (st' := [⟨0, 32, 2, [(eRImage p0)]⟩, ⟨0, 3, 1, List.map eI l12⟩, ⟨0, 3, 1, List.map eI q27⟩]) go0 hb27 (spec_nextOf_ok gq27) rfl rfl ⟨(pure_map' fun _ => rfl), trivial⟩ rfl rfl ?_
     refine zq tb rfl ?_
     refine dn hK26 rfl ?_
     refine sr rfl fun K28 hK28 => ?_
     refine zq tb rfl ?_
     refine dn hK28 rfl ?_
     refine AW.fin fun K29 hK29 => ?_
     obtain ⟨o33, h3, h2⟩ := Sh.bind_some h2
     have M33 : ∀ (l32 : (List Int)), o33 = l32 → ∀ s, Wk 0 s ⟨57, envL [(1, (i64 p1)), (2, (.ptr 0 0 0 0)), (5, (.own 1 0 (List.length l32))), (6, (i64 at11))], [⟨0, 32, 2, [(eRImage p0)]⟩, ⟨0, 3, 1, List.map eI l32⟩]⟩ → K29 s := by
      intro l32 hq s hw
      subst o33
      try dsimp only at h2
      refine hK29 _ ?_
      exact M22 l32 (Sh.some_eq h2).symm _ (hw.trans (Wk.to (L := [(1, (i64 p1)), (2, (.ptr 0 0 0 0)), (5, (.own 1 0 (List.length l32))), (6, (i64 at11))]) ⟨.rfl, .rfl, .rfl, .rfl, trivial⟩))
     refine AW.block (AW.loopF (σ := Int × (List Int)) (fun n v => spec_ReachedCode_L2 N q27 n v.1 v.2 = some o33) (fun (k30, l31) => ⟨57, envL [(1, (i64 p1)), (2, (.ptr 0 0 0 0)), (5, (.own 1 0 (List.length l31))), (6, (i64 at11)), (7, (.own 2 0 (List.length q27))), (8, (i64 k30))], [⟨0, 32, 2, [(eRImage p0)]⟩, ⟨0, 3, 1, List.map eI l31⟩, ⟨0, 3, 1, List.map eI q27⟩]⟩) N (0, l12) h3 (Wk.tr rfl) (fun _ hv => by rw [spec_ReachedCode_L2] at hv; cases hv) ?_)
     rintro n ⟨k30, l31⟩ h3
     try dsimp only at h3 ⊢
     rw [spec_ReachedCode_L2] at h3
     refine AW.seq fun K34 hK34 => ?_
     refine sr rfl fun K35 hK35 => ?_
     iterate 2 refine zq tb rfl ?_
     refine zz (i64 (Sh.len q27)) (aq_leno sl27 rfl rfl rfl) rfl ?_
     refine zq tb rfl ?_
     refine dn hK35 rfl ?_
     refine ci h3 rfl ?_ ?_ <;> clear h3
     ·intro b36 h3
      refine AW.skip (hK34 _ ?_)
      refine AW.seq fun K37 hK37 => ?_
      refine AW.block ?_
      refine AW.regionO (by rfl) ?_
      iterate 3 refine zq tb rfl ?_
      obtain ⟨c38, gc38, h3⟩ := Sh.bind_some h3
      refine zz (.ptr 2 0 (Int.toNat k30) 0) (aq_ixo ei27 rfl rfl rfl rfl gc38) rfl ?_
      refine zz (i64 c38) (aq_ldp ti3 rfl rfl (map_get gc38) rfl) rfl ?_
      refine AO.weaken (Wk.frz (L := [(1, (i64 p1)), (2, (.ptr 0 0 0 0)), (6, (i64 at11)), (7, (.own 2 0 (List.length q27))), (8, (i64 k30)), (50, (.sl (List.map eI l31))), (54, (i64 c38))]) (st' := [⟨0, 32, 2, [(eRImage p0)]⟩, ⟨1, 3, 1, []⟩, ⟨0, 3, 1, List.map eI q27⟩]) (id := 1) rfl (show 0 ≤ 1 by decide) (pure_map fun _ => rfl) ⟨.rfl, .rfl, .rfl, .rfl, .rfl, (.frz rfl), .rfl, trivial⟩ rfl) ?_
      obtain ⟨q39, gq39, h3⟩ := Sh.bind_some h3
      refine ao_call (v' := (.own 3 0 (List.length q39))) (st' := [⟨0, 32, 2, [(eRImage p0)]⟩, ⟨1, 3, 1, []⟩, ⟨0, 3, 1, List.map eI q27⟩, ⟨0, 3, 1, List.map eI q39⟩]) go0 hb28 (spec_insert_ok gq39) rfl rfl ⟨(pure_map' fun _ => rfl), trivial⟩ rfl rfl ?_
      refine zq tb rfl ?_
      refine dn hK37 rfl ?_
      refine AW.regionO (by rfl) ?_
      iterate 3 refine zq tb rfl ?_
      exact AO.done (xi (Sh.w (k30 + 1), q39) h3 (Wk.permk (L := [(1, (i64 p1)), (2, (.ptr 0 0 0 0)), (5, (.own 1 0 (List.length q39))), (6, (i64 at11)), (7, (.own 2 0 (List.length q27))), (8, (i64 (Sh.w (k30 + 1))))]) (st' := [⟨0, 32, 2, [(eRImage p0)]⟩, ⟨0, 3, 1, List.map eI q39⟩, ⟨0, 3, 1, List.map eI q27⟩]) (st1 := [⟨0, 32, 2, [(eRImage p0)]⟩, ⟨0, 3, 1, List.map eI q39⟩, ⟨0, 3, 1, List.map eI q27⟩]) [0, 3, 2] rfl .nil (by decide) rfl rfl (.raw rfl rfl (.pure (pure_map fun _ => rfl) (.pure (pure_map fun _ => rfl) .nil))) ⟨.rfl, .rfl, .rfl, .rfl, .rfl, .rfl, trivial⟩))
     ·intro b36 h3
      exact AW.exit (M33 l31 (Sh.some_eq h3).symm _ (Wk.permk (L := [(1, (i64 p1)), (2, (.ptr 0 0 0 0)), (5, (.own 1 0 (List.length l31))), (6, (i64 at11))]) (st' := [⟨0, 32, 2, [(eRImage p0)]⟩, ⟨0, 3, 1, List.map eI l31⟩]) (st1 := [⟨0, 32, 2, [(eRImage p0)]⟩, ⟨0, 3, 1, List.map eI l31⟩]) [0, 1] rfl .nil (by decide) rfl rfl (.raw rfl rfl (.pure (pure_map fun _ => rfl) .nil)) ⟨.rfl, .rfl, .rfl, .rfl, trivial⟩))
    ·intro b25 h2
     exact AW.skip (M22 l12 (Sh.some_eq h2).symm _ (Wk.tr rfl))
   ·intro b19 h1
    exact AW.exit (M14 l12 (Sh.some_eq h1).symm _ (Wk.permk (L := [(5, (.own 0 0 (List.length l12)))]) (st' := [⟨0, 3, 1, List.map eI l12⟩]) (st1 := [⟨0, 3, 1, List.map eI l12⟩]) [1] rfl .nil (by decide) rfl rfl (.pure (pure_map fun _ => rfl) .nil) ⟨.rfl, trivial⟩))
 refine AW.regionO (by rfl) ?_
 refine zq tb rfl ?_
 obtain ⟨q40, gq40, h1⟩ := Sh.bind_some h1
 refine zc hb24 (spec_validImage_ok gq40) rfl rfl rfl ?_
 iterate 2 refine zq tb rfl ?_
 rcases Sh.ite_some h1 with ⟨b41, h1⟩ | ⟨b41, h1⟩
 ·refine zs b41 rfl ?_
  iterate 6 refine zs b41 rfl ?_
  refine zt b41 rfl ?_
  exact AO.done (M5 true (Sh.some_eq h1).symm _ (Wk.tr rfl))
 ·refine zg tb b41 rfl ?_
  iterate 2 refine zg tb b41 rfl ?_
  refine ao_q (v := (i64 (Sh.len p0.procs))) (go1 rfl rfl b41) rfl (aq_lens sl30 rfl) ?_
  refine zg tb b41 rfl ?_
  obtain ⟨q42, gq42, h1⟩ := Sh.bind_some h1
  refine zd b41 hb25 (spec_inRange_ok gq42) rfl rfl rfl rfl ?_
  refine zg tb b41 rfl ?_
  refine zf b41 rfl ?_
  exact AO.done (M5 (!q42) (Sh.some_eq h1).symm _ (Wk.tr rfl))
theorem laws_toCon_2_ok {N : Nat} {p0 : RCon} {r : RCon} (h0 : laws_toCon N p0 = some r) : ACalls Try.prog 99 [(.agg (eRCon p0))] [] (fun v st => v = (.agg [(.own 0 0 (List.length r.fields))]) ∧ st = [⟨0, 3, 1, List.map eI r.fields⟩]) := by
 unfold laws_toCon at h0
 refine ACalls.wk (r0 := (.agg [(.own 0 0 (List.length r.fields))])) (st0 := [⟨0, 3, 1, List.map eI r.fields⟩, ⟨0, 141, 1, [[(.own 0 0 (List.length r.fields))]]⟩]) ?_ (Wk.sel (L := [(0, (.agg [(.own 0 0 (List.length r.fields))]))]) (st' := [⟨0, 3, 1, List.map eI r.fields⟩]) [0] rfl (by decide) rfl rfl (.pure (pure_map fun _ => rfl) trivial) ⟨.rfl, trivial⟩)
 refine ACalls.intro Try.func99 rfl (by show 1 ≤ 9; decide) ?_
 show AW _ 0 _ (aret _ 0 Try.f99 _) ⟨9, _, _⟩
 refine AW.weaken (Wk.to (L := [(0, (.agg (eRCon p0)))]) ⟨.rfl, trivial⟩) ?_
 refine sr rfl fun K1 hK1 => ?_
 refine ao_box (m := 0) (st' := [⟨0, 143, 1, [(eRCon p0)]⟩]) go0 rfl rfl rfl rfl rfl ?_
 refine ao_alloc (m := 1) (st' := [⟨0, 143, 1, [(eRCon p0)]⟩, ⟨0, 141, 1, [[.zc]]⟩]) go0 zi141 rfl rfl ?_
 refine dn hK1 rfl ?_
 refine sr rfl fun K2 hK2 => ?_
 refine ao_alloc (m := 2) (st' := [⟨0, 143, 1, [(eRCon p0)]⟩, ⟨0, 141, 1, [[.zc]]⟩, ⟨0, 141, 1, [[.zc]]⟩]) go0 zi141 rfl rfl ?_
 refine dn hK2 rfl ?_
 refine sr rfl fun K3 hK3 => ?_
 iterate 2 refine zq tb rfl ?_
 obtain ⟨q4, gq4, h0⟩ := Sh.bind_some h0
 refine ao_call (v' := (.own 3 0 (List.length q4))) (st' := [⟨0, 143, 1, [(eRCon p0)]⟩, ⟨0, 141, 1, [[.zc]]⟩, ⟨0, 141, 1, [[.zc]]⟩, ⟨0, 3, 1, List.map eI q4⟩]) go0 hb79 (laws_toIntS_ok gq4) rfl rfl ⟨(pure_map' fun _ => rfl), trivial⟩ rfl rfl ?_
 refine zq tb rfl ?_
 refine ao_str (st' := [⟨0, 143, 1, [(eRCon p0)]⟩, ⟨0, 141, 1, [[.zc]]⟩, ⟨0, 141, 1, [[(.own 3 0 (List.length q4))]]⟩, ⟨0, 3, 1, List.map eI q4⟩]) go0 ti27 rfl rfl rfl rfl rfl rfl (show 0 + 1 ≤ 1 by decide) rfl ?_
 refine dn hK3 rfl ?_
 refine sr rfl fun K5 hK5 => ?_
 refine zq tb rfl ?_
 refine ao_str (st' := [⟨0, 143, 1, [(eRCon p0)]⟩, ⟨0, 141, 1, [[(.own 3 0 (List.length q4))]]⟩, ⟨0, 141, 1, [[(.own 3 0 (List.length q4))]]⟩, ⟨0, 3, 1, List.map eI q4⟩]) go0 ti141 rfl rfl rfl rfl rfl rfl (show 0 + 1 ≤ 1 by decide) rfl ?_
 refine dn hK5 rfl ?_
 replace h0 := Sh.some_eq h0
 subst r
 exact AW.ret (Exists.intro _ (And.intro ((Wk.permk (L := [(2, (.ptr 1 0 0 0))]) (st' := [⟨0, 3, 1, List.map eI q4⟩, ⟨0, 141, 1, [[(.own 0 0 (List.length q4))]]⟩]) (st1 := [⟨0, 3, 1, List.map eI q4⟩, ⟨0, 141, 1, [[(.own 3 0 (List.length q4))]]⟩]) [3, 1] rfl .nil (by decide) rfl rfl (.pure (pure_map fun _ => rfl) (.raw rfl rfl .nil)) ⟨.rfl, trivial⟩).trans (Wk.to (L := [(2, (.ptr 1 0 0 0))]) ⟨.rfl, trivial⟩)) (aq_ldpa (x := .tmp 2) (off := 0) (cs := [(.own 0 0 (List.length q4))]) (vs := [(.own 0 0 (List.length q4))]) ti141 rfl rfl rfl (show 0 + 1 ≤ 1 by decide) rfl _ ⟨rfl, rfl⟩)))
theorem laws_toConS_2_ok {N : Nat} {p0 : (List RCon)} {r : (List RCon)} (h0 : laws_toConS N p0 = some r) : ACalls Try.prog 78 [(.sl (List.map eRCon p0))] [] (fun v st => v = (.own 0 0 (List.length r)) ∧ st = [⟨0, 141, 1, List.map (eRConD 3) r⟩]) := by
 unfold laws_toConS at h0
 refine ACalls.intro Try.func78 rfl (by show 1 ≤ 23; decide) ?_
 show AW _ 0 _ (aret _ 0 Try.f78 _) ⟨23, _, _⟩
 refine AW.weaken (Wk.to (L := [(0, (.sl (List.map eRCon p0)))]) ⟨.rfl, trivial⟩) ?_
 refine sr rfl fun K1 hK1 => ?_
 refine zq tb rfl ?_
 refine dn hK1 rfl ?_
 refine sr rfl fun K2 hK2 => ?_
 refine zq tb rfl ?_
 refine zl tb rfl rfl ?_
 obtain ⟨l3, gl3, h0⟩ := Sh.bind_some h0
 refine ao_maked (m := 0) (st' := [⟨0, 141, 1, List.map (eRConD 3) l3⟩]) (enc := (eRConD 3)) (u := (RCon.mk [])) ei92 rfl rfl ⟨.inr ⟨rfl, _, _, rfl, by decide⟩, trivial⟩ gl3 rfl rfl ?_
 refine zq tb rfl ?_
 refine dn hK2 rfl ?_
 refine AW.seq fun K4 hK4 => ?_
 refine sr rfl fun K5 hK5 => ?_
 refine zq tb rfl ?_
 refine dn hK5 rfl ?_
 obtain ⟨o9, h1, h0⟩ := Sh.bind_some h0
 have M9 : ∀ (l8 : (List RCon)), o9 = l8 → ∀ s, Wk 0 s ⟨23, envL [(3, (.own 0 0 (List.length l8)))], [⟨0, 141, 1, List.map (eRConD 3) l8⟩]⟩ → K4 s := by
  intro l8 hq s hw
  subst o9
  try dsimp only at h0
  refine hK4 _ (AW.weaken hw ?_)
  refine sr rfl fun K10 hK10 => ?_
  iterate 2 refine zq tb rfl ?_
  refine dn hK10 rfl ?_
  replace h0 := Sh.some_eq h0
  subst r
  exact AW.ret (xr (Wk.to (L := [(2, (.own 0 0 (List.length l8)))]) ⟨.rfl, trivial⟩))
 refine AW.block (AW.loopF (σ := Int × (List RCon)) (fun n v => laws_toConS_L1 N p0 n v.1 v.2 = some o9) (fun (i6, l7) => ⟨23, envL [(0, (.sl (List.map eRCon p0))), (3, (.own 0 0 (List.length l7))), (4, (i64 i6))], [⟨0, 141, 1, List.map (eRConD 3) l7⟩]⟩) N (0, l3) h1 (Wk.tr rfl) (fun _ hv => by rw [laws_toConS_L1] at hv; cases hv) ?_)
 rintro n ⟨i6, l7⟩ h1
 try dsimp only at h1 ⊢
 rw [laws_toConS_L1] at h1
 refine AW.seq fun K11 hK11 => ?_
 refine sr rfl fun K12 hK12 => ?_
 iterate 2 refine zq tb rfl ?_
 refine zl tb rfl rfl ?_
 refine zq tb rfl ?_
 refine dn hK12 rfl ?_
 refine ci h1 rfl ?_ ?_ <;> clear h1
 ·intro b13 h1
  refine AW.skip (hK11 _ ?_)
  refine AW.seq fun K14 hK14 => ?_
  refine AW.block ?_
  refine AW.regionO (by rfl) ?_
  iterate 4 refine zq tb rfl ?_
  obtain ⟨c15, gc15, h1⟩ := Sh.bind_some h1
  refine zx ei79 gc15 rfl rfl rfl ?_
  refine zq tb rfl ?_
  obtain ⟨q16, gq16, h1⟩ := Sh.bind_some h1
  refine ao_call (v' := (.agg [(.own 1 0 (List.length q16.fields))])) (st' := [⟨0, 141, 1, List.map (eRConD 3) l7⟩, ⟨0, 3, 1, List.map eI q16.fields⟩]) go0 hb99 (laws_toCon_2_ok gq16) rfl rfl ⟨(pure_map' fun _ => rfl), trivial⟩ rfl rfl ?_
  obtain ⟨c17, gc17, h1⟩ := Sh.bind_some h1
  refine zz (.ptr 0 0 (Int.toNat i6) 0) (aq_ixo ei92 rfl rfl rfl rfl gc17) rfl ?_
  refine ao_sth (st' := [⟨0, 141, 1, hole l7 (eRConD 3) i6 [(.own 1 0 (List.length q16.fields))]⟩, ⟨0, 3, 1, List.map eI q16.fields⟩]) go0 ti141 rfl rfl gc17 rfl rfl rfl (show 1 ≤ 1 by decide) rfl rfl ?_
  refine AO.weaken (Wk.take (id := 0) (m := 1) (j := 0) (i := i6) (c := c17) (ys := q16.fields) (encY := eI) (x' := [(.dv 3 1 (List.map eI q16.fields))]) (st' := [⟨0, 141, 1, hole l7 (eRConD 3) i6 [(.dv 3 1 (List.map eI q16.fields))]⟩, ⟨1, 3, 1, []⟩]) rfl gc17 rfl rfl rfl (by decide) (show 0 ≤ 1 by decide) (fun _ => rfl) rfl rfl) ?_
  refine AO.weaken (Wk.filled (id := 0) (i := i6) (u := q16) (st' := [⟨0, 141, 1, List.map (eRConD 3) (Sh.put l7 i6 q16)⟩, ⟨1, 3, 1, []⟩]) rfl rfl rfl) ?_
  refine dn hK14 rfl ?_
  refine AW.regionO (by rfl) ?_
  iterate 3 refine zq tb rfl ?_
  exact AO.done (xi (Sh.w (i6 + 1), Sh.put l7 i6 q16) h1 (by refine Wk.trans (Wk.permk (L := [(0, (.sl (List.map eRCon p0))), (3, (.own 0 0 (List.length l7))), (4, (i64 (Sh.w (i6 + 1))))]) (st' := [⟨0, 141, 1, List.map (eRConD 3) (Sh.put l7 i6 q16)⟩]) (st1 := [⟨0, 141, 1, List.map (eRConD 3) (Sh.put l7 i6 q16)⟩]) [0] rfl .nil (by decide) rfl rfl (.deep (pure_mapD fun _ => rfl) .nil) ⟨.rfl, .rfl, .rfl, trivial⟩) ?_; exact Wk.to (L := [(0, (.sl (List.map eRCon p0))), (3, (.own 0 0 (List.length (Sh.put l7 i6 q16)))), (4, (i64 (Sh.w (i6 + 1))))]) ⟨.rfl, (.len (by simp only [Sh.put_len])), .rfl, trivial⟩))
 ·intro b13 h1
  exact AW.exit (M9 l7 (Sh.some_eq h1).symm _ (Wk.tr rfl))
theorem laws_toDecl_2_ok {N : Nat} {p0 : RDecl} {r : RDecl} (h0 : laws_toDecl N p0 = some r) : ACalls Try.prog 54 [(.agg (eRDecl p0))] [] (fun v st => v = (.agg [(i64 r.from_), (i64 r.to), (.own 0 0 (List.length r.cons))]) ∧ st = [⟨0, 141, 1, List.map (eRConD 3) r.cons⟩]) := by
 unfold laws_toDecl at h0
 refine ACalls.wk (r0 := (.agg [(i64 r.from_), (i64 r.to), (.own 0 0 (List.length r.cons))])) (st0 := [⟨0, 141, 1, List.map (eRConD 3) r.cons⟩, ⟨0, 94, 3, [[(i64 r.from_), (i64 r.to), (.own 0 0 (List.length r.cons))]]⟩]) ?_ (Wk.sel (L := [(0, (.agg [(i64 r.from_), (i64 r.to), (.own 0 0 (List.length r.cons))]))]) (st' := [⟨0, 141, 1, List.map (eRConD 3) r.cons⟩]) [0] rfl (by decide) rfl rfl (.deep (pure_mapD fun _ => rfl) trivial) ⟨.rfl, trivial⟩)
 refine ACalls.intro Try.func54 rfl (by show 1 ≤ 15; decide) ?_
 show AW _ 0 _ (aret _ 0 Try.f54 _) ⟨15, _, _⟩
 refine AW.weaken (Wk.to (L := [(0, (.agg (eRDecl p0)))]) ⟨.rfl, trivial⟩) ?_
 refine sr rfl fun K1 hK1 => ?_
 refine ao_box (m := 0) (st' := [⟨0, 81, 3, [(eRDecl p0)]⟩]) go0 rfl rfl rfl rfl rfl ?_
 refine ao_alloc (m := 1) (st' := [⟨0, 81, 3, [(eRDecl p0)]⟩, ⟨0, 94, 3, [[(i64 0), (i64 0), .zc]]⟩]) go0 zi94 rfl rfl ?_
 refine dn hK1 rfl ?_
 refine sr rfl fun K2 hK2 => ?_
 refine ao_alloc (m := 2) (st' := [⟨0, 81, 3, [(eRDecl p0)]⟩, ⟨0, 94, 3, [[(i64 0), (i64 0), .zc]]⟩, ⟨0, 94, 3, [[(i64 0), (i64 0), .zc]]⟩]) go0 zi94 rfl rfl ?_
 refine dn hK2 rfl ?_
 refine sr rfl fun K3 hK3 => ?_
 iterate 3 refine zq tb rfl ?_
 refine ao_str (st' := [⟨0, 81, 3, [(eRDecl p0)]⟩, ⟨0, 94, 3, [[(i64 0), (i64 0), .zc]]⟩, ⟨0, 94, 3, [[(i64 p0.from_), (i64 0), .zc]]⟩]) go0 ti3 rfl rfl rfl rfl rfl rfl (show 0 + 1 ≤ 3 by decide) rfl ?_
 refine dn hK3 rfl ?_
 refine sr rfl fun K4 hK4 => ?_
 iterate 3 refine zq tb rfl ?_
 refine ao_str (st' := [⟨0, 81, 3, [(eRDecl p0)]⟩, ⟨0, 94, 3, [[(i64 0), (i64 0), .zc]]⟩, ⟨0, 94, 3, [[(i64 p0.from_), (i64 p0.to), .zc]]⟩]) go0 ti3 rfl rfl rfl rfl rfl rfl (show 1 + 1 ≤ 3 by decide) rfl ?_
 refine dn hK4 rfl ?_
 refine sr rfl fun K5 hK5 => ?_
 iterate 2 refine zq tb rfl ?_
 obtain ⟨q6, gq6, h0⟩ := Sh.bind_some h0
 refine ao_call (v' := (.own 3 0 (List.length q6))) (st' := [⟨0, 81, 3, [(eRDecl p0)]⟩, ⟨0, 94, 3, [[(i64 0), (i64 0), .zc]]⟩, ⟨0, 94, 3, [[(i64 p0.from_), (i64 p0.to), .zc]]⟩, ⟨0, 141, 1, List.map (eRConD 3) q6⟩]) go0 hb78 (laws_toConS_2_ok gq6) rfl rfl ⟨(pure_mapD fun _ => rfl), trivial⟩ rfl rfl ?_
 refine zq tb rfl ?_
 refine ao_str (st' := [⟨0, 81, 3, [(eRDecl p0)]⟩, ⟨0, 94, 3, [[(i64 0), (i64 0), .zc]]⟩, ⟨0, 94, 3, [[(i64 p0.from_), (i64 p0.to), (.own 3 0 (List.length q6))]]⟩, ⟨0, 141, 1, List.map (eRConD 3) q6⟩]) go0 ti92 rfl rfl rfl rfl rfl rfl (show 2 + 1 ≤ 3 by decide) rfl ?_
 refine dn hK5 rfl ?_
 refine sr rfl fun K7 hK7 => ?_
 refine zq tb rfl ?_
 refine ao_str (st' := [⟨0, 81, 3, [(eRDecl p0)]⟩, ⟨0, 94, 3, [[(i64 p0.from_), (i64 p0.to), (.own 3 0 (List.length q6))]]⟩, ⟨0, 94, 3, [[(i64 p0.from_), (i64 p0.to), (.own 3 0 (List.length q6))]]⟩, ⟨0, 141, 1, List.map (eRConD 3) q6⟩]) go0 ti94 rfl rfl rfl rfl rfl rfl (show 0 + 3 ≤ 3 by decide) rfl ?_
 refine dn hK7 rfl ?_
 replace h0 := Sh.some_eq h0
 subst r
 exact AW.ret (Exists.intro _ (And.intro ((Wk.permk (L := [(2, (.ptr 1 0 0 0))]) (st' := [⟨0, 141, 1, List.map (eRConD 3) q6⟩, ⟨0, 94, 3, [[(i64 p0.from_), (i64 p0.to), (.own 0 0 (List.length q6))]]⟩]) (st1 := [⟨0, 141, 1, List.map (eRConD 3) q6⟩, ⟨0, 94, 3, [[(i64 p0.from_), (i64 p0.to), (.own 3 0 (List.length q6))]]⟩]) [3, 1] rfl .nil (by decide) rfl rfl (.deep (pure_mapD fun _ => rfl) (.raw rfl rfl .nil)) ⟨.rfl, trivial⟩).trans (Wk.to (L := [(2, (.ptr 1 0 0 0))]) ⟨.rfl, trivial⟩)) (aq_ldpa (x := .tmp 2) (off := 0) (cs := [(i64 p0.from_), (i64 p0.to), (.own 0 0 (List.length q6))]) (vs := [(i64 p0.from_), (i64 p0.to), (.own 0 0 (List.length q6))]) ti94 rfl rfl rfl (show 0 + 3 ≤ 3 by decide) rfl _ ⟨rfl, rfl⟩)))
theorem laws_toDeclS_2_ok {N : Nat} {p0 : (List RDecl)} {r : (List RDecl)} (h0 : laws_toDeclS N p0 = some r) : ACalls Try.prog 29 [(.sl (List.map eRDecl p0))] [] (fun v st => v = (.own 0 0 (List.length r)) ∧ st = [⟨0, 94, 3, List.map (eRDeclD 141 3) r⟩]) := by
 unfold laws_toDeclS at h0
 refine ACalls.intro Try.func29 rfl (by show 1 ≤ 23; decide) ?_
 show AW _ 0 _ (aret _ 0 Try.f29 _) ⟨23, _, _⟩
 refine AW.weaken (Wk.to (L := [(0, (.sl (List.map eRDecl p0)))]) ⟨.rfl, trivial⟩) ?_
 refine sr rfl fun K1 hK1 => ?_
 refine zq tb rfl ?_
 refine dn hK1 rfl ?_
 refine sr rfl fun K2 hK2 => ?_
 refine zq tb rfl ?_
 refine zl tb rfl rfl ?_
 obtain ⟨l3, gl3, h0⟩ := Sh.bind_some h0
 refine ao_maked (m := 0) (st' := [⟨0, 94, 3, List.map (eRDeclD 141 3) l3⟩]) (enc := (eRDeclD 141 3)) (u := (RDecl.mk 0 0 [])) ei29 rfl rfl ⟨.inl ⟨rfl, rfl⟩, ⟨.inl ⟨rfl, rfl⟩, ⟨.inr ⟨rfl, _, _, rfl, by decide⟩, trivial⟩⟩⟩ gl3 rfl rfl ?_
 refine zq tb rfl ?_
 refine dn hK2 rfl ?_
 refine AW.seq fun K4 hK4 => ?_
 refine sr rfl fun K5 hK5 => ?_
 refine zq tb rfl ?_
 refine dn hK5 rfl ?_
 obtain ⟨o9, h1, h0⟩ := Sh.bind_some h0
 have M9 : ∀ (l8 : (List RDecl)), o9 = l8 → ∀ s, Wk 0 s ⟨23, envL [(3, (.own 0 0 (List.length l8)))], [⟨0, 94, 3, List.map (eRDeclD 141 3) l8⟩]⟩ → K4 s := by
  intro l8 hq s hw
  subst o9
  try dsimp only at h0
  refine hK4 _ (AW.weaken hw ?_)
  refine sr rfl fun K10 hK10 => ?_
  iterate 2 refine zq tb rfl ?_
  refine dn hK10 rfl ?_
  replace h0 := Sh.some_eq h0
  subst r
  exact AW.ret (xr (Wk.to (L := [(2, (.own 0 0 (List.length l8)))]) ⟨.rfl, trivial⟩))
 refine AW.block (AW.loopF (σ := Int × (List RDecl)) (fun n v => laws_toDeclS_L1 N p0 n v.1 v.2 = some o9) (fun (i6, l7) => ⟨23, envL [(0, (.sl (List.map eRDecl p0))), (3, (.own 0 0 (List.length l7))), (4, (i64 i6))], [⟨0, 94, 3, List.map (eRDeclD 141 3) l7⟩]⟩) N (0, l3) h1 (Wk.tr rfl) (fun _ hv => by rw [laws_toDeclS_L1] at hv; cases hv) ?_)
 rintro n ⟨i6, l7⟩ h1
 try dsimp only at h1 ⊢
 rw [laws_toDeclS_L1] at h1
 refine AW.seq fun K11 hK11 => ?_
 refine sr rfl fun K12 hK12 => ?_
 iterate 2 refine zq tb rfl ?_
 refine zl tb rfl rfl ?_
 refine zq tb rfl ?_
 refine dn hK12 rfl ?_
 refine ci h1 rfl ?_ ?_ <;> clear h1
 ·intro b13 h1
  refine AW.skip (hK11 _ ?_)
  refine AW.seq fun K14 hK14 => ?_
  refine AW.block ?_
  refine AW.regionO (by rfl) ?_
  iterate 4 refine zq tb rfl ?_
  obtain ⟨c15, gc15, h1⟩ := Sh.bind_some h1
  refine zx ei22 gc15 rfl rfl rfl ?_
  refine zq tb rfl ?_
  obtain ⟨q16, gq16, h1⟩ := Sh.bind_some h1
  refine ao_call (v' := (.agg [(i64 q16.from_), (i64 q16.to), (.own 1 0 (List.length q16.cons))])) (st' := [⟨0, 94, 3, List.map (eRDeclD 141 3) l7⟩, ⟨0, 141, 1, List.map (eRConD 3) q16.cons⟩]) go0 hb54 (laws_toDecl_2_ok gq16) rfl rfl ⟨(pure_mapD fun _ => rfl), trivial⟩ rfl rfl ?_
  obtain ⟨c17, gc17, h1⟩ := Sh.bind_some h1
  refine zz (.ptr 0 0 (Int.toNat i6) 0) (aq_ixo ei29 rfl rfl rfl rfl gc17) rfl ?_
  refine ao_sth (st' := [⟨0, 94, 3, hole l7 (eRDeclD 141 3) i6 [(i64 q16.from_), (i64 q16.to), (.own 1 0 (List.length q16.cons))]⟩, ⟨0, 141, 1, List.map (eRConD 3) q16.cons⟩]) go0 ti94 rfl rfl gc17 rfl rfl rfl (show 3 ≤ 3 by decide) rfl rfl ?_
  refine AO.weaken (Wk.take (id := 0) (m := 1) (j := 2) (i := i6) (c := c17) (ys := q16.cons) (encY := (eRConD 3)) (x' := [(i64 q16.from_), (i64 q16.to), (.dv 141 1 (List.map (eRConD 3) q16.cons))]) (st' := [⟨0, 94, 3, hole l7 (eRDeclD 141 3) i6 [(i64 q16.from_), (i64 q16.to), (.dv 141 1 (List.map (eRConD 3) q16.cons))]⟩, ⟨1, 141, 1, []⟩]) rfl gc17 rfl rfl rfl (by decide) (show 0 ≤ 1 by decide) (fun _ => rfl) rfl rfl) ?_
  refine AO.weaken (Wk.filled (id := 0) (i := i6) (u := q16) (st' := [⟨0, 94, 3, List.map (eRDeclD 141 3) (Sh.put l7 i6 q16)⟩, ⟨1, 141, 1, []⟩]) rfl rfl rfl) ?_
  refine dn hK14 rfl ?_
  refine AW.regionO (by rfl) ?_
  iterate 3 refine zq tb rfl ?_
  exact AO.done (xi (Sh.w (i6 + 1), Sh.put l7 i6 q16) h1 (by refine Wk.trans (Wk.permk (L := [(0, (.sl (List.map eRDecl p0))), (3, (.own 0 0 (List.length l7))), (4, (i64 (Sh.w (i6 + 1))))]) (st' := [⟨0, 94, 3, List.map (eRDeclD 141 3) (Sh.put l7 i6 q16)⟩]) (st1 := [⟨0, 94, 3, List.map (eRDeclD 141 3) (Sh.put l7 i6 q16)⟩]) [0] rfl .nil (by decide) rfl rfl (.deep (pure_mapD fun _ => rfl) .nil) ⟨.rfl, .rfl, .rfl, trivial⟩) ?_; exact Wk.to (L := [(0, (.sl (List.map eRDecl p0))), (3, (.own 0 0 (List.length (Sh.put l7 i6 q16)))), (4, (i64 (Sh.w (i6 + 1))))]) ⟨.rfl, (.len (by simp only [Sh.put_len])), .rfl, trivial⟩))
 ·intro b13 h1
  exact AW.exit (M9 l7 (Sh.some_eq h1).symm _ (Wk.tr rfl))
theorem laws_toInstr_2_ok {N : Nat} {p0 : RInstr} {r : RInstr} (h0 : laws_toInstr N p0 = some r) : ACalls Try.prog 100 [(.agg (eRInstr p0))] [] (fun v st => v = (.agg [(i64 r.op), (i64 r.dst), (i64 r.num), (i64 r.into), (.own 0 0 (List.length r.args)), (.own 1 0 (List.length r.jumps))]) ∧ st = [⟨0, 3, 1, List.map eI r.args⟩, ⟨0, 3, 1, List.map eI r.jumps⟩]) := by
 unfold laws_toInstr at h0
 refine ACalls.wk (r0 := (.agg [(i64 r.op), (i64 r.dst), (i64 r.num), (i64 r.into), (.own 0 0 (List.length r.args)), (.own 1 0 (List.length r.jumps))])) (st0 := [⟨0, 3, 1, List.map eI r.args⟩, ⟨0, 3, 1, List.map eI r.jumps⟩, ⟨0, 63, 6, [[(i64 r.op), (i64 r.dst), (i64 r.num), (i64 r.into), (.own 0 0 (List.length r.args)), (.own 1 0 (List.length r.jumps))]]⟩]) ?_ (Wk.sel (L := [(0, (.agg [(i64 r.op), (i64 r.dst), (i64 r.num), (i64 r.into), (.own 0 0 (List.length r.args)), (.own 1 0 (List.length r.jumps))]))]) (st' := [⟨0, 3, 1, List.map eI r.args⟩, ⟨0, 3, 1, List.map eI r.jumps⟩]) [0, 1] rfl (by decide) rfl rfl (.pure (pure_map fun _ => rfl) (.pure (pure_map fun _ => rfl) trivial)) ⟨.rfl, trivial⟩)
 refine ACalls.intro Try.func100 rfl (by show 1 ≤ 25; decide) ?_
 show AW _ 0 _ (aret _ 0 Try.f100 _) ⟨25, _, _⟩
 refine AW.weaken (Wk.to (L := [(0, (.agg (eRInstr p0)))]) ⟨.rfl, trivial⟩) ?_
 refine sr rfl fun K1 hK1 => ?_
 refine ao_box (m := 0) (st' := [⟨0, 145, 6, [(eRInstr p0)]⟩]) go0 rfl rfl rfl rfl rfl ?_
 refine ao_alloc (m := 1) (st' := [⟨0, 145, 6, [(eRInstr p0)]⟩, ⟨0, 63, 6, [[(i64 0), (i64 0), (i64 0), (i64 0), .zc, .zc]]⟩]) go0 zi63 rfl rfl ?_
 refine dn hK1 rfl ?_
 refine sr rfl fun K2 hK2 => ?_
 refine ao_alloc (m := 2) (st' := [⟨0, 145, 6, [(eRInstr p0)]⟩, ⟨0, 63, 6, [[(i64 0), (i64 0), (i64 0), (i64 0), .zc, .zc]]⟩, ⟨0, 63, 6, [[(i64 0), (i64 0), (i64 0), (i64 0), .zc, .zc]]⟩]) go0 zi63 rfl rfl ?_
 refine dn hK2 rfl ?_
 refine sr rfl fun K3 hK3 => ?_
 iterate 3 refine zq tb rfl ?_
 refine ao_str (st' := [⟨0, 145, 6, [(eRInstr p0)]⟩, ⟨0, 63, 6, [[(i64 0), (i64 0), (i64 0), (i64 0), .zc, .zc]]⟩, ⟨0, 63, 6, [[(i64 p0.op), (i64 0), (i64 0), (i64 0), .zc, .zc]]⟩]) go0 ti3 rfl rfl rfl rfl rfl rfl (show 0 + 1 ≤ 6 by decide) rfl ?_
 refine dn hK3 rfl ?_
 refine sr rfl fun K4 hK4 => ?_
 iterate 3 refine zq tb rfl ?_
 refine ao_str (st' := [⟨0, 145, 6, [(eRInstr p0)]⟩, ⟨0, 63, 6, [[(i64 0), (i64 0), (i64 0), (i64 0), .zc, .zc]]⟩, ⟨0, 63, 6, [[(i64 p0.op), (i64 p0.dst), (i64 0), (i64 0), .zc, .zc]]⟩]) go0 ti3 rfl rfl rfl rfl rfl rfl (show 1 + 1 ≤ 6 by decide) rfl ?_
 refine dn hK4 rfl ?_
 refine sr rfl fun K5 hK5 => ?_
 iterate 3 refine zq tb rfl ?_
 refine ao_str (st' := [⟨0, 145, 6, [(eRInstr p0)]⟩, ⟨0, 63, 6, [[(i64 0), (i64 0), (i64 0), (i64 0), .zc, .zc]]⟩, ⟨0, 63, 6, [[(i64 p0.op), (i64 p0.dst), (i64 p0.num), (i64 0), .zc, .zc]]⟩]) go0 ti3 rfl rfl rfl rfl rfl rfl (show 2 + 1 ≤ 6 by decide) rfl ?_
 refine dn hK5 rfl ?_
 refine sr rfl fun K6 hK6 => ?_
 iterate 3 refine zq tb rfl ?_
 refine ao_str (st' := [⟨0, 145, 6, [(eRInstr p0)]⟩, ⟨0, 63, 6, [[(i64 0), (i64 0), (i64 0), (i64 0), .zc, .zc]]⟩, ⟨0, 63, 6, [[(i64 p0.op), (i64 p0.dst), (i64 p0.num), (i64 p0.into), .zc, .zc]]⟩]) go0 ti3 rfl rfl rfl rfl rfl rfl (show 3 + 1 ≤ 6 by decide) rfl ?_
 refine dn hK6 rfl ?_
 refine sr rfl fun K7 hK7 => ?_
 iterate 2 refine zq tb rfl ?_
 obtain ⟨q8, gq8, h0⟩ := Sh.bind_some h0
 refine ao_call (v' := (.own 3 0 (List.length q8))) (st' := [⟨0, 145, 6, [(eRInstr p0)]⟩, ⟨0, 63, 6, [[(i64 0), (i64 0), (i64 0), (i64 0), .zc, .zc]]⟩, ⟨0, 63, 6, [[(i64 p0.op), (i64 p0.dst), (i64 p0.num), (i64 p0.into), .zc, .zc]]⟩, ⟨0, 3, 1, List.map eI q8⟩]) go0 hb79 (laws_toIntS_ok gq8) rfl rfl ⟨(pure_map' fun _ => rfl), trivial⟩ rfl rfl ?_
 refine zq tb rfl ?_
 refine ao_str (st' := [⟨0, 145, 6, [(eRInstr p0)]⟩, ⟨0, 63, 6, [[(i64 0), (i64 0), (i64 0), (i64 0), .zc, .zc]]⟩, ⟨0, 63, 6, [[(i64 p0.op), (i64 p0.dst), (i64 p0.num), (i64 p0.into), (.own 3 0 (List.length q8)), .zc]]⟩, ⟨0, 3, 1, List.map eI q8⟩]) go0 ti27 rfl rfl rfl rfl rfl rfl (show 4 + 1 ≤ 6 by decide) rfl ?_
 refine dn hK7 rfl ?_
 refine sr rfl fun K9 hK9 => ?_
 iterate 2 refine zq tb rfl ?_
 obtain ⟨q10, gq10, h0⟩ := Sh.bind_some h0
 refine ao_call (v' := (.own 4 0 (List.length q10))) (st' := [⟨0, 145, 6, [(eRInstr p0)]⟩, ⟨0, 63, 6, [[(i64 0), (i64 0), (i64 0), (i64 0), .zc, .zc]]⟩, ⟨0, 63, 6, [[(i64 p0.op), (i64 p0.dst), (i64 p0.num), (i64 p0.into), (.own 3 0 (List.length q8)), .zc]]⟩, ⟨0, 3, 1, List.map eI q8⟩, ⟨0, 3, 1, List.map eI q10⟩]) go0 hb79 (laws_toIntS_ok gq10) rfl rfl ⟨(pure_map' fun _ => rfl), trivial⟩ rfl rfl ?_
 refine zq tb rfl ?_
 refine ao_str (st' := [⟨0, 145, 6, [(eRInstr p0)]⟩, ⟨0, 63, 6, [[(i64 0), (i64 0), (i64 0), (i64 0), .zc, .zc]]⟩, ⟨0, 63, 6, [[(i64 p0.op), (i64 p0.dst), (i64 p0.num), (i64 p0.into), (.own 3 0 (List.length q8)), (.own 4 0 (List.length q10))]]⟩, ⟨0, 3, 1, List.map eI q8⟩, ⟨0, 3, 1, List.map eI q10⟩]) go0 ti27 rfl rfl rfl rfl rfl rfl (show 5 + 1 ≤ 6 by decide) rfl ?_
 refine dn hK9 rfl ?_
 refine sr rfl fun K11 hK11 => ?_
 refine zq tb rfl ?_
 refine ao_str (st' := [⟨0, 145, 6, [(eRInstr p0)]⟩, ⟨0, 63, 6, [[(i64 p0.op), (i64 p0.dst), (i64 p0.num), (i64 p0.into), (.own 3 0 (List.length q8)), (.own 4 0 (List.length q10))]]⟩, ⟨0, 63, 6, [[(i64 p0.op), (i64 p0.dst), (i64 p0.num), (i64 p0.into), (.own 3 0 (List.length q8)), (.own 4 0 (List.length q10))]]⟩, ⟨0, 3, 1, List.map eI q8⟩, ⟨0, 3, 1, List.map eI q10⟩]) go0 ti63 rfl rfl rfl rfl rfl rfl (show 0 + 6 ≤ 6 by decide) rfl ?_
 refine dn hK11 rfl ?_
 replace h0 := Sh.some_eq h0
 subst r
 exact AW.ret (Exists.intro _ (And.intro ((Wk.permk (L := [(2, (.ptr 2 0 0 0))]) (st' := [⟨0, 3, 1, List.map eI q8⟩, ⟨0, 3, 1, List.map eI q10⟩, ⟨0, 63, 6, [[(i64 p0.op), (i64 p0.dst), (i64 p0.num), (i64 p0.into), (.own 0 0 (List.length q8)), (.own 1 0 (List.length q10))]]⟩]) (st1 := [⟨0, 3, 1, List.map eI q8⟩, ⟨0, 3, 1, List.map eI q10⟩, ⟨0, 63, 6, [[(i64 p0.op), (i64 p0.dst), (i64 p0.num), (i64 p0.into), (.own 3 0 (List.length q8)), (.own 4 0 (List.length q10))]]⟩]) [3, 4, 1] rfl .nil (by decide) rfl rfl (.pure (pure_map fun _ => rfl) (.pure (pure_map fun _ => rfl) (.raw rfl rfl .nil))) ⟨.rfl, trivial⟩).trans (Wk.to (L := [(2, (.ptr 2 0 0 0))]) ⟨.rfl, trivial⟩)) (aq_ldpa (x := .tmp 2) (off := 0) (cs := [(i64 p0.op), (i64 p0.dst), (i64 p0.num), (i64 p0.into), (.own 0 0 (List.length q8)), (.own 1 0 (List.length q10))]) (vs := [(i64 p0.op), (i64 p0.dst), (i64 p0.num), (i64 p0.into), (.own 0 0 (List.length q8)), (.own 1 0 (List.length q10))]) ti63 rfl rfl rfl (show 0 + 6 ≤ 6 by decide) rfl _ ⟨rfl, rfl⟩)))
theorem laws_toInstrS_2_ok {N : Nat} {p0 : (List RInstr)} {r : (List RInstr)} (h0 : laws_toInstrS N p0 = some r) : ACalls Try.prog 80 [(.sl (List.map eRInstr p0))] [] (fun v st => v = (.own 0 0 (List.length r)) ∧ st = [⟨0, 63, 6, List.map (eRInstrD 3 3) r⟩]) := by
 unfold laws_toInstrS at h0
 refine ACalls.intro Try.func80 rfl (by show 1 ≤ 23; decide) ?_
 show AW _ 0 _ (aret _ 0 Try.f80 _) ⟨23, _, _⟩
 refine AW.weaken (Wk.to (L := [(0, (.sl (List.map eRInstr p0)))]) ⟨.rfl, trivial⟩) ?_
 refine sr rfl fun K1 hK1 => ?_
 refine zq tb rfl ?_
 refine dn hK1 rfl ?_
 refine sr rfl fun K2 hK2 => ?_
 refine zq tb rfl ?_
 refine zl tb rfl rfl ?_
 obtain ⟨l3, gl3, h0⟩ := Sh.bind_some h0
 refine ao_maked (m := 0) (st' := [⟨0, 63, 6, List.map (eRInstrD 3 3) l3⟩]) (enc := (eRInstrD 3 3)) (u := (RInstr.mk 0 0 0 0 [] [])) ei53 rfl rfl ⟨.inl ⟨rfl, rfl⟩, ⟨.inl ⟨rfl, rfl⟩, ⟨.inl ⟨rfl, rfl⟩, ⟨.inl ⟨rfl, rfl⟩, ⟨.inr ⟨rfl, _, _, rfl, by decide⟩, ⟨.inr ⟨rfl, _, _, rfl, by decide⟩, trivial⟩⟩⟩⟩⟩⟩ gl3 rfl rfl ?_
 refine zq tb rfl ?_
 refine dn hK2 rfl ?_
 refine AW.seq fun K4 hK4 => ?_
 refine sr rfl fun K5 hK5 => ?_
 refine zq tb rfl ?_
 refine dn hK5 rfl ?_
 obtain ⟨o9, h1, h0⟩ := Sh.bind_some h0
 have M9 : ∀ (l8 : (List RInstr)), o9 = l8 → ∀ s, Wk 0 s ⟨23, envL [(3, (.own 0 0 (List.length l8)))], [⟨0, 63, 6, List.map (eRInstrD 3 3) l8⟩]⟩ → K4 s := by
  intro l8 hq s hw
  subst o9
  try dsimp only at h0
  refine hK4 _ (AW.weaken hw ?_)
  refine sr rfl fun K10 hK10 => ?_
  iterate 2 refine zq tb rfl ?_
  refine dn hK10 rfl ?_
  replace h0 := Sh.some_eq h0
  subst r
  exact AW.ret (xr (Wk.to (L := [(2, (.own 0 0 (List.length l8)))]) ⟨.rfl, trivial⟩))
 refine AW.block (AW.loopF (σ := Int × (List RInstr)) (fun n v => laws_toInstrS_L1 N p0 n v.1 v.2 = some o9) (fun (i6, l7) => ⟨23, envL [(0, (.sl (List.map eRInstr p0))), (3, (.own 0 0 (List.length l7))), (4, (i64 i6))], [⟨0, 63, 6, List.map (eRInstrD 3 3) l7⟩]⟩) N (0, l3) h1 (Wk.tr rfl) (fun _ hv => by rw [laws_toInstrS_L1] at hv; cases hv) ?_)
 rintro n ⟨i6, l7⟩ h1
 try dsimp only at h1 ⊢
 rw [laws_toInstrS_L1] at h1
 refine AW.seq fun K11 hK11 => ?_
 refine sr rfl fun K12 hK12 => ?_
 iterate 2 refine zq tb rfl ?_
 refine zl tb rfl rfl ?_
 refine zq tb rfl ?_
 refine dn hK12 rfl ?_
 refine ci h1 rfl ?_ ?_ <;> clear h1
 ·intro b13 h1
  refine AW.skip (hK11 _ ?_)
  refine AW.seq fun K14 hK14 => ?_
  refine AW.block ?_
  refine AW.regionO (by rfl) ?_
  iterate 4 refine zq tb rfl ?_
  obtain ⟨c15, gc15, h1⟩ := Sh.bind_some h1
  refine zx ei83 gc15 rfl rfl rfl ?_
  refine zq tb rfl ?_
  obtain ⟨q16, gq16, h1⟩ := Sh.bind_some h1
  refine ao_call (v' := (.agg [(i64 q16.op), (i64 q16.dst), (i64 q16.num), (i64 q16.into), (.own 1 0 (List.length q16.args)), (.own 2 0 (List.length q16.jumps))])) (st' := [⟨0, 63, 6, List.map (eRInstrD 3 3) l7⟩, ⟨0, 3, 1, List.map eI q16.args⟩, ⟨0, 3, 1, List.map eI q16.jumps⟩]) go0 hb100 (laws_toInstr_2_ok gq16) rfl rfl ⟨(pure_map' fun _ => rfl), ⟨(pure_map' fun _ => rfl), trivial⟩⟩ rfl rfl ?_
  obtain ⟨c17, gc17, h1⟩ := Sh.bind_some h1
  refine zz (.ptr 0 0 (Int.toNat i6) 0) (aq_ixo ei53 rfl rfl rfl rfl gc17) rfl ?_
  refine ao_sth (st' := [⟨0, 63, 6, hole l7 (eRInstrD 3 3) i6 [(i64 q16.op), (i64 q16.dst), (i64 q16.num), (i64 q16.into), (.own 1 0 (List.length q16.args)), (.own 2 0 (List.length q16.jumps))]⟩, ⟨0, 3, 1, List.map eI q16.args⟩, ⟨0, 3, 1, List.map eI q16.jumps⟩]) go0 ti63 rfl rfl gc17 rfl rfl rfl (show 6 ≤ 6 by decide) rfl rfl ?_
  refine AO.weaken (Wk.take (id := 0) (m := 1) (j := 4) (i := i6) (c := c17) (ys := q16.args) (encY := eI) (x' := [(i64 q16.op), (i64 q16.dst), (i64 q16.num), (i64 q16.into), (.dv 3 1 (List.map eI q16.args)), (.own 2 0 (List.length q16.jumps))]) (st' := [⟨0, 63, 6, hole l7 (eRInstrD 3 3) i6 [(i64 q16.op), (i64 q16.dst), (i64 q16.num), (i64 q16.into), (.dv 3 1 (List.map eI q16.args)), (.own 2 0 (List.length q16.jumps))]⟩, ⟨1, 3, 1, []⟩, ⟨0, 3, 1, List.map eI q16.jumps⟩]) rfl gc17 rfl rfl rfl (by decide) (show 0 ≤ 1 by decide) (fun _ => rfl) rfl rfl) ?_
  refine AO.weaken (Wk.take (id := 0) (m := 2) (j := 5) (i := i6) (c := c17) (ys := q16.jumps) (encY := eI) (x' := [(i64 q16.op), (i64 q16.dst), (i64 q16.num), (i64 q16.into), (.dv 3 1 (List.map eI q16.args)), (.dv 3 1 (List.map eI q16.jumps))]) (st' := [⟨0, 63, 6, hole l7 (eRInstrD 3 3) i6 [(i64 q16.op), (i64 q16.dst), (i64 q16.num), (i64 q16.into), (.dv 3 1 (List.map eI q16.args)), (.dv 3 1 (List.map eI q16.jumps))]⟩, ⟨1, 3, 1, []⟩, ⟨1, 3, 1, []⟩]) rfl gc17 rfl rfl rfl (by decide) (show 0 ≤ 2 by decide) (fun _ => rfl) rfl rfl) ?_
  refine AO.weaken (Wk.filled (id := 0) (i := i6) (u := q16) (st' := [⟨0, 63, 6, List.map (eRInstrD 3 3) (Sh.put l7 i6 q16)⟩, ⟨1, 3, 1, []⟩, ⟨1, 3, 1, []⟩]) rfl rfl rfl) ?_
  refine dn hK14 rfl ?_
  refine AW.regionO (by rfl) ?_
  iterate 3 refine zq tb rfl ?_
  exact AO.done (xi (Sh.w (i6 + 1), Sh.put l7 i6 q16) h1 (by refine Wk.trans (Wk.permk (L := [(0, (.sl (List.map eRInstr p0))), (3, (.own 0 0 (List.length l7))), (4, (i64 (Sh.w (i6 + 1))))]) (st' := [⟨0, 63, 6, List.map (eRInstrD 3 3) (Sh.put l7 i6 q16)⟩]) (st1 := [⟨0, 63, 6, List.map (eRInstrD 3 3) (Sh.put l7 i6 q16)⟩]) [0] rfl .nil (by decide) rfl rfl (.deep (pure_mapD fun _ => rfl) .nil) ⟨.rfl, .rfl, .rfl, trivial⟩) ?_; exact Wk.to (L := [(0, (.sl (List.map eRInstr p0))), (3, (.own 0 0 (List.length (Sh.put l7 i6 q16)))), (4, (i64 (Sh.w (i6 + 1))))]) ⟨.rfl, (.len (by simp only [Sh.put_len])), .rfl, trivial⟩))
 ·intro b13 h1
  exact AW.exit (M9 l7 (Sh.some_eq h1).symm _ (Wk.tr rfl))
theorem laws_toProc_2_ok {N : Nat} {p0 : RProc} {r : RProc} (h0 : laws_toProc N p0 = some r) : ACalls Try.prog 55 [(.agg (eRProc p0))] [] (fun v st => v = (.agg [(.own 0 0 (List.length r.params)), (.own 1 0 (List.length r.lent)), (i64 r.result), (i64 r.regs), (.own 2 0 (List.length r.code))]) ∧ st = [⟨0, 3, 1, List.map eI r.params⟩, ⟨0, 3, 1, List.map eI r.lent⟩, ⟨0, 63, 6, List.map (eRInstrD 3 3) r.code⟩]) := by
 unfold laws_toProc at h0
 refine ACalls.wk (r0 := (.agg [(.own 0 0 (List.length r.params)), (.own 1 0 (List.length r.lent)), (i64 r.result), (i64 r.regs), (.own 2 0 (List.length r.code))])) (st0 := [⟨0, 3, 1, List.map eI r.params⟩, ⟨0, 3, 1, List.map eI r.lent⟩, ⟨0, 63, 6, List.map (eRInstrD 3 3) r.code⟩, ⟨0, 55, 5, [[(.own 0 0 (List.length r.params)), (.own 1 0 (List.length r.lent)), (i64 r.result), (i64 r.regs), (.own 2 0 (List.length r.code))]]⟩]) ?_ (Wk.sel (L := [(0, (.agg [(.own 0 0 (List.length r.params)), (.own 1 0 (List.length r.lent)), (i64 r.result), (i64 r.regs), (.own 2 0 (List.length r.code))]))]) (st' := [⟨0, 3, 1, List.map eI r.params⟩, ⟨0, 3, 1, List.map eI r.lent⟩, ⟨0, 63, 6, List.map (eRInstrD 3 3) r.code⟩]) [0, 1, 2] rfl (by decide) rfl rfl (.pure (pure_map fun _ => rfl) (.pure (pure_map fun _ => rfl) (.deep (pure_mapD fun _ => rfl) trivial))) ⟨.rfl, trivial⟩)
 refine ACalls.intro Try.func55 rfl (by show 1 ≤ 23; decide) ?_
 show AW _ 0 _ (aret _ 0 Try.f55 _) ⟨23, _, _⟩
 refine AW.weaken (Wk.to (L := [(0, (.agg (eRProc p0)))]) ⟨.rfl, trivial⟩) ?_
 refine sr rfl fun K1 hK1 => ?_
 refine ao_box (m := 0) (st' := [⟨0, 85, 5, [(eRProc p0)]⟩]) go0 rfl rfl rfl rfl rfl ?_
 refine ao_alloc (m := 1) (st' := [⟨0, 85, 5, [(eRProc p0)]⟩, ⟨0, 55, 5, [[.zc, .zc, (i64 0), (i64 0), .zc]]⟩]) go0 zi55 rfl rfl ?_
 refine dn hK1 rfl ?_
 refine sr rfl fun K2 hK2 => ?_
 refine ao_alloc (m := 2) (st' := [⟨0, 85, 5, [(eRProc p0)]⟩, ⟨0, 55, 5, [[.zc, .zc, (i64 0), (i64 0), .zc]]⟩, ⟨0, 55, 5, [[.zc, .zc, (i64 0), (i64 0), .zc]]⟩]) go0 zi55 rfl rfl ?_
 refine dn hK2 rfl ?_
 refine sr rfl fun K3 hK3 => ?_
 iterate 2 refine zq tb rfl ?_
 obtain ⟨q4, gq4, h0⟩ := Sh.bind_some h0
 refine ao_call (v' := (.own 3 0 (List.length q4))) (st' := [⟨0, 85, 5, [(eRProc p0)]⟩, ⟨0, 55, 5, [[.zc, .zc, (i64 0), (i64 0), .zc]]⟩, ⟨0, 55, 5, [[.zc, .zc, (i64 0), (i64 0), .zc]]⟩, ⟨0, 3, 1, List.map eI q4⟩]) go0 hb79 (laws_toIntS_ok gq4) rfl rfl ⟨(pure_map' fun _ => rfl), trivial⟩ rfl rfl ?_
 refine zq tb rfl ?_
 refine ao_str (st' := [⟨0, 85, 5, [(eRProc p0)]⟩, ⟨0, 55, 5, [[.zc, .zc, (i64 0), (i64 0), .zc]]⟩, ⟨0, 55, 5, [[(.own 3 0 (List.length q4)), .zc, (i64 0), (i64 0), .zc]]⟩, ⟨0, 3, 1, List.map eI q4⟩]) go0 ti27 rfl rfl rfl rfl rfl rfl (show 0 + 1 ≤ 5 by decide) rfl ?_
 refine dn hK3 rfl ?_
 refine sr rfl fun K5 hK5 => ?_
 iterate 2 refine zq tb rfl ?_
 obtain ⟨q6, gq6, h0⟩ := Sh.bind_some h0
 refine ao_call (v' := (.own 4 0 (List.length q6))) (st' := [⟨0, 85, 5, [(eRProc p0)]⟩, ⟨0, 55, 5, [[.zc, .zc, (i64 0), (i64 0), .zc]]⟩, ⟨0, 55, 5, [[(.own 3 0 (List.length q4)), .zc, (i64 0), (i64 0), .zc]]⟩, ⟨0, 3, 1, List.map eI q4⟩, ⟨0, 3, 1, List.map eI q6⟩]) go0 hb79 (laws_toIntS_ok gq6) rfl rfl ⟨(pure_map' fun _ => rfl), trivial⟩ rfl rfl ?_
 refine zq tb rfl ?_
 refine ao_str (st' := [⟨0, 85, 5, [(eRProc p0)]⟩, ⟨0, 55, 5, [[.zc, .zc, (i64 0), (i64 0), .zc]]⟩, ⟨0, 55, 5, [[(.own 3 0 (List.length q4)), (.own 4 0 (List.length q6)), (i64 0), (i64 0), .zc]]⟩, ⟨0, 3, 1, List.map eI q4⟩, ⟨0, 3, 1, List.map eI q6⟩]) go0 ti27 rfl rfl rfl rfl rfl rfl (show 1 + 1 ≤ 5 by decide) rfl ?_
 refine dn hK5 rfl ?_
 refine sr rfl fun K7 hK7 => ?_
 iterate 3 refine zq tb rfl ?_
 refine ao_str (st' := [⟨0, 85, 5, [(eRProc p0)]⟩, ⟨0, 55, 5, [[.zc, .zc, (i64 0), (i64 0), .zc]]⟩, ⟨0, 55, 5, [[(.own 3 0 (List.length q4)), (.own 4 0 (List.length q6)), (i64 p0.result), (i64 0), .zc]]⟩, ⟨0, 3, 1, List.map eI q4⟩, ⟨0, 3, 1, List.map eI q6⟩]) go0 ti3 rfl rfl rfl rfl rfl rfl (show 2 + 1 ≤ 5 by decide) rfl ?_
 refine dn hK7 rfl ?_
 refine sr rfl fun K8 hK8 => ?_
 iterate 3 refine zq tb rfl ?_
 refine ao_str (st' := [⟨0, 85, 5, [(eRProc p0)]⟩, ⟨0, 55, 5, [[.zc, .zc, (i64 0), (i64 0), .zc]]⟩, ⟨0, 55, 5, [[(.own 3 0 (List.length q4)), (.own 4 0 (List.length q6)), (i64 p0.result), (i64 p0.regs), .zc]]⟩, ⟨0, 3, 1, List.map eI q4⟩, ⟨0, 3, 1, List.map eI q6⟩]) go0 ti3 rfl rfl rfl rfl rfl rfl (show 3 + 1 ≤ 5 by decide) rfl ?_
 refine dn hK8 rfl ?_
 refine sr rfl fun K9 hK9 => ?_
 iterate 2 refine zq tb rfl ?_
 obtain ⟨q10, gq10, h0⟩ := Sh.bind_some h0
 refine ao_call (v' := (.own 5 0 (List.length q10))) (st' := [⟨0, 85, 5, [(eRProc p0)]⟩, ⟨0, 55, 5, [[.zc, .zc, (i64 0), (i64 0), .zc]]⟩, ⟨0, 55, 5, [[(.own 3 0 (List.length q4)), (.own 4 0 (List.length q6)), (i64 p0.result), (i64 p0.regs), .zc]]⟩, ⟨0, 3, 1, List.map eI q4⟩, ⟨0, 3, 1, List.map eI q6⟩, ⟨0, 63, 6, List.map (eRInstrD 3 3) q10⟩]) go0 hb80 (laws_toInstrS_2_ok gq10) rfl rfl ⟨(pure_mapD fun _ => rfl), trivial⟩ rfl rfl ?_
 refine zq tb rfl ?_
 refine ao_str (st' := [⟨0, 85, 5, [(eRProc p0)]⟩, ⟨0, 55, 5, [[.zc, .zc, (i64 0), (i64 0), .zc]]⟩, ⟨0, 55, 5, [[(.own 3 0 (List.length q4)), (.own 4 0 (List.length q6)), (i64 p0.result), (i64 p0.regs), (.own 5 0 (List.length q10))]]⟩, ⟨0, 3, 1, List.map eI q4⟩, ⟨0, 3, 1, List.map eI q6⟩, ⟨0, 63, 6, List.map (eRInstrD 3 3) q10⟩]) go0 ti53 rfl rfl rfl rfl rfl rfl (show 4 + 1 ≤ 5 by decide) rfl ?_
 refine dn hK9 rfl ?_
 refine sr rfl fun K11 hK11 => ?_
 refine zq tb rfl ?_
 refine ao_str (st' := [⟨0, 85, 5, [(eRProc p0)]⟩, ⟨0, 55, 5, [[(.own 3 0 (List.length q4)), (.own 4 0 (List.length q6)), (i64 p0.result), (i64 p0.regs), (.own 5 0 (List.length q10))]]⟩, ⟨0, 55, 5, [[(.own 3 0 (List.length q4)), (.own 4 0 (List.length q6)), (i64 p0.result), (i64 p0.regs), (.own 5 0 (List.length q10))]]⟩, ⟨0, 3, 1, List.map eI q4⟩, ⟨0, 3, 1, List.map eI q6⟩, ⟨0, 63, 6, List.map (eRInstrD 3 3) q10⟩]) go0 ti55 rfl rfl rfl rfl rfl rfl (show 0 + 5 ≤ 5 by decide) rfl ?_
 refine dn hK11 rfl ?_
 replace h0 := Sh.some_eq h0
 subst r
 exact AW.ret (Exists.intro _ (And.intro ((Wk.permk (L := [(2, (.ptr 3 0 0 0))]) (st' := [⟨0, 3, 1, List.map eI q4⟩, ⟨0, 3, 1, List.map eI q6⟩, ⟨0, 63, 6, List.map (eRInstrD 3 3) q10⟩, ⟨0, 55, 5, [[(.own 0 0 (List.length q4)), (.own 1 0 (List.length q6)), (i64 p0.result), (i64 p0.regs), (.own 2 0 (List.length q10))]]⟩]) (st1 := [⟨0, 3, 1, List.map eI q4⟩, ⟨0, 3, 1, List.map eI q6⟩, ⟨0, 63, 6, List.map (eRInstrD 3 3) q10⟩, ⟨0, 55, 5, [[(.own 3 0 (List.length q4)), (.own 4 0 (List.length q6)), (i64 p0.result), (i64 p0.regs), (.own 5 0 (List.length q10))]]⟩]) [3, 4, 5, 1] rfl .nil (by decide) rfl rfl (.pure (pure_map fun _ => rfl) (.pure (pure_map fun _ => rfl) (.deep (pure_mapD fun _ => rfl) (.raw rfl rfl .nil)))) ⟨.rfl, trivial⟩).trans (Wk.to (L := [(2, (.ptr 3 0 0 0))]) ⟨.rfl, trivial⟩)) (aq_ldpa (x := .tmp 2) (off := 0) (cs := [(.own 0 0 (List.length q4)), (.own 1 0 (List.length q6)), (i64 p0.result), (i64 p0.regs), (.own 2 0 (List.length q10))]) (vs := [(.own 0 0 (List.length q4)), (.own 1 0 (List.length q6)), (i64 p0.result), (i64 p0.regs), (.own 2 0 (List.length q10))]) ti55 rfl rfl rfl (show 0 + 5 ≤ 5 by decide) rfl _ ⟨rfl, rfl⟩)))
theorem laws_toProcS_2_ok {N : Nat} {p0 : (List RProc)} {r : (List RProc)} (h0 : laws_toProcS N p0 = some r) : ACalls Try.prog 30 [(.sl (List.map eRProc p0))] [] (fun v st => v = (.own 0 0 (List.length r)) ∧ st = [⟨0, 55, 5, List.map (eRProcD 3 3 63 3 3) r⟩]) := by
 unfold laws_toProcS at h0
 refine ACalls.intro Try.func30 rfl (by show 1 ≤ 23; decide) ?_
 show AW _ 0 _ (aret _ 0 Try.f30 _) ⟨23, _, _⟩
 refine AW.weaken (Wk.to (L := [(0, (.sl (List.map eRProc p0)))]) ⟨.rfl, trivial⟩) ?_
 refine sr rfl fun K1 hK1 => ?_
 refine zq tb rfl ?_
 refine dn hK1 rfl ?_
 refine sr rfl fun K2 hK2 => ?_
 refine zq tb rfl ?_
 refine zl tb rfl rfl ?_
 obtain ⟨l3, gl3, h0⟩ := Sh.bind_some h0
 refine ao_maked (m := 0) (st' := [⟨0, 55, 5, List.map (eRProcD 3 3 63 3 3) l3⟩]) (enc := (eRProcD 3 3 63 3 3)) (u := (RProc.mk [] [] 0 0 [])) ei30 rfl rfl ⟨.inr ⟨rfl, _, _, rfl, by decide⟩, ⟨.inr ⟨rfl, _, _, rfl, by decide⟩, ⟨.inl ⟨rfl, rfl⟩, ⟨.inl ⟨rfl, rfl⟩, ⟨.inr ⟨rfl, _, _, rfl, by decide⟩, trivial⟩⟩⟩⟩⟩ gl3 rfl rfl ?_
 refine zq tb rfl ?_
 refine dn hK2 rfl ?_
 refine AW.seq fun K4 hK4 => ?_
 refine sr rfl fun K5 hK5 => ?_
 refine zq tb rfl ?_
 refine dn hK5 rfl ?_
 obtain ⟨o9, h1, h0⟩ := Sh.bind_some h0
 have M9 : ∀ (l8 : (List RProc)), o9 = l8 → ∀ s, Wk 0 s ⟨23, envL [(3, (.own 0 0 (List.length l8)))], [⟨0, 55, 5, List.map (eRProcD 3 3 63 3 3) l8⟩]⟩ → K4 s := by
  intro l8 hq s hw
  subst o9
  try dsimp only at h0
  refine hK4 _ (AW.weaken hw ?_)
  refine sr rfl fun K10 hK10 => ?_
  iterate 2 refine zq tb rfl ?_
  refine dn hK10 rfl ?_
  replace h0 := Sh.some_eq h0
  subst r
  exact AW.ret (xr (Wk.to (L := [(2, (.own 0 0 (List.length l8)))]) ⟨.rfl, trivial⟩))
 refine AW.block (AW.loopF (σ := Int × (List RProc)) (fun n v => laws_toProcS_L1 N p0 n v.1 v.2 = some o9) (fun (i6, l7) => ⟨23, envL [(0, (.sl (List.map eRProc p0))), (3, (.own 0 0 (List.length l7))), (4, (i64 i6))], [⟨0, 55, 5, List.map (eRProcD 3 3 63 3 3) l7⟩]⟩) N (0, l3) h1 (Wk.tr rfl) (fun _ hv => by rw [laws_toProcS_L1] at hv; cases hv) ?_)
 rintro n ⟨i6, l7⟩ h1
 try dsimp only at h1 ⊢
 rw [laws_toProcS_L1] at h1
 refine AW.seq fun K11 hK11 => ?_
 refine sr rfl fun K12 hK12 => ?_
 iterate 2 refine zq tb rfl ?_
 refine zl tb rfl rfl ?_
 refine zq tb rfl ?_
 refine dn hK12 rfl ?_
 refine ci h1 rfl ?_ ?_ <;> clear h1
 ·intro b13 h1
  refine AW.skip (hK11 _ ?_)
  refine AW.seq fun K14 hK14 => ?_
  refine AW.block ?_
  refine AW.regionO (by rfl) ?_
  iterate 4 refine zq tb rfl ?_
  obtain ⟨c15, gc15, h1⟩ := Sh.bind_some h1
  refine zx ei23 gc15 rfl rfl rfl ?_
  refine zq tb rfl ?_
  obtain ⟨q16, gq16, h1⟩ := Sh.bind_some h1
  refine ao_call (v' := (.agg [(.own 1 0 (List.length q16.params)), (.own 2 0 (List.length q16.lent)), (i64 q16.result), (i64 q16.regs), (.own 3 0 (List.length q16.code))])) (st' := [⟨0, 55, 5, List.map (eRProcD 3 3 63 3 3) l7⟩, ⟨0, 3, 1, List.map eI q16.params⟩, ⟨0, 3, 1, List.map eI q16.lent⟩, ⟨0, 63, 6, List.map (eRInstrD 3 3) q16.code⟩]) go0 hb55 (laws_toProc_2_ok gq16) rfl rfl ⟨(pure_map' fun _ => rfl), ⟨(pure_map' fun _ => rfl), ⟨(pure_mapD fun _ => rfl), trivial⟩⟩⟩ rfl rfl ?_
  obtain ⟨c17, gc17, h1⟩ := Sh.bind_some h1
  refine zz (.ptr 0 0 (Int.toNat i6) 0) (aq_ixo ei30 rfl rfl rfl rfl gc17) rfl ?_
  refine ao_sth (st' := [⟨0, 55, 5, hole l7 (eRProcD 3 3 63 3 3) i6 [(.own 1 0 (List.length q16.params)), (.own 2 0 (List.length q16.lent)), (i64 q16.result), (i64 q16.regs), (.own 3 0 (List.length q16.code))]⟩, ⟨0, 3, 1, List.map eI q16.params⟩, ⟨0, 3, 1, List.map eI q16.lent⟩, ⟨0, 63, 6, List.map (eRInstrD 3 3) q16.code⟩]) go0 ti55 rfl rfl gc17 rfl rfl rfl (show 5 ≤ 5 by decide) rfl rfl ?_
  refine AO.weaken (Wk.take (id := 0) (m := 1) (j := 0) (i := i6) (c := c17) (ys := q16.params) (encY := eI) (x' := [(.dv 3 1 (List.map eI q16.params)), (.own 2 0 (List.length q16.lent)), (i64 q16.result), (i64 q16.regs), (.own 3 0 (List.length q16.code))]) (st' := [⟨0, 55, 5, hole l7 (eRProcD 3 3 63 3 3) i6 [(.dv 3 1 (List.map eI q16.params)), (.own 2 0 (List.length q16.lent)), (i64 q16.result), (i64 q16.regs), (.own 3 0 (List.length q16.code))]⟩, ⟨1, 3, 1, []⟩, ⟨0, 3, 1, List.map eI q16.lent⟩, ⟨0, 63, 6, List.map (eRInstrD 3 3) q16.code⟩]) rfl gc17 rfl rfl rfl (by decide) (show 0 ≤ 1 by decide) (fun _ => rfl) rfl rfl) ?_
  refine AO.weaken (Wk.take (id := 0) (m := 2) (j := 1) (i := i6) (c := c17) (ys := q16.lent) (encY := eI) (x' := [(.dv 3 1 (List.map eI q16.params)), (.dv 3 1 (List.map eI q16.lent)), (i64 q16.result), (i64 q16.regs), (.own 3 0 (List.length q16.code))]) (st' := [⟨0, 55, 5, hole l7 (eRProcD 3 3 63 3 3) i6 [(.dv 3 1 (List.map eI q16.params)), (.dv 3 1 (List.map eI q16.lent)), (i64 q16.result), (i64 q16.regs), (.own 3 0 (List.length q16.code))]⟩, ⟨1, 3, 1, []⟩, ⟨1, 3, 1, []⟩, ⟨0, 63, 6, List.map (eRInstrD 3 3) q16.code⟩]) rfl gc17 rfl rfl rfl (by decide) (show 0 ≤ 2 by decide) (fun _ => rfl) rfl rfl) ?_
  refine AO.weaken (Wk.take (id := 0) (m := 3) (j := 4) (i := i6) (c := c17) (ys := q16.code) (encY := (eRInstrD 3 3)) (x' := [(.dv 3 1 (List.map eI q16.params)), (.dv 3 1 (List.map eI q16.lent)), (i64 q16.result), (i64 q16.regs), (.dv 63 6 (List.map (eRInstrD 3 3) q16.code))]) (st' := [⟨0, 55, 5, hole l7 (eRProcD 3 3 63 3 3) i6 [(.dv 3 1 (List.map eI q16.params)), (.dv 3 1 (List.map eI q16.lent)), (i64 q16.result), (i64 q16.regs), (.dv 63 6 (List.map (eRInstrD 3 3) q16.code))]⟩, ⟨1, 3, 1, []⟩, ⟨1, 3, 1, []⟩, ⟨1, 63, 6, []⟩]) rfl gc17 rfl rfl rfl (by decide) (show 0 ≤ 3 by decide) (fun _ => rfl) rfl rfl) ?_
  refine AO.weaken (Wk.filled (id := 0) (i := i6) (u := q16) (st' := [⟨0, 55, 5, List.map (eRProcD 3 3 63 3 3) (Sh.put l7 i6 q16)⟩, ⟨1, 3, 1, []⟩, ⟨1, 3, 1, []⟩, ⟨1, 63, 6, []⟩]) rfl rfl rfl) ?_
  refine dn hK14 rfl ?_
  refine AW.regionO (by rfl) ?_
  iterate 3 refine zq tb rfl ?_
  exact AO.done (xi (Sh.w (i6 + 1), Sh.put l7 i6 q16) h1 (by refine Wk.trans (Wk.permk (L := [(0, (.sl (List.map eRProc p0))), (3, (.own 0 0 (List.length l7))), (4, (i64 (Sh.w (i6 + 1))))]) (st' := [⟨0, 55, 5, List.map (eRProcD 3 3 63 3 3) (Sh.put l7 i6 q16)⟩]) (st1 := [⟨0, 55, 5, List.map (eRProcD 3 3 63 3 3) (Sh.put l7 i6 q16)⟩]) [0] rfl .nil (by decide) rfl rfl (.deep (pure_mapD fun _ => rfl) .nil) ⟨.rfl, .rfl, .rfl, trivial⟩) ?_; exact Wk.to (L := [(0, (.sl (List.map eRProc p0))), (3, (.own 0 0 (List.length (Sh.put l7 i6 q16)))), (4, (i64 (Sh.w (i6 + 1))))]) ⟨.rfl, (.len (by simp only [Sh.put_len])), .rfl, trivial⟩))
 ·intro b13 h1
  exact AW.exit (M9 l7 (Sh.some_eq h1).symm _ (Wk.tr rfl))
theorem laws_toImage_2_ok {N : Nat} {p0 : RImage} {r : RImage} (h0 : laws_toImage N p0 = some r) : ACalls Try.prog 8 [(.agg (eRImage p0))] [] (fun v st => v = (.agg [(.own 0 0 (List.length r.decls)), (.own 1 0 (List.length r.procs))]) ∧ st = [⟨0, 94, 3, List.map (eRDeclD 141 3) r.decls⟩, ⟨0, 55, 5, List.map (eRProcD 3 3 63 3 3) r.procs⟩]) := by
 unfold laws_toImage at h0
 refine ACalls.wk (r0 := (.agg [(.own 0 0 (List.length r.decls)), (.own 1 0 (List.length r.procs))])) (st0 := [⟨0, 94, 3, List.map (eRDeclD 141 3) r.decls⟩, ⟨0, 55, 5, List.map (eRProcD 3 3 63 3 3) r.procs⟩, ⟨0, 32, 2, [[(.own 0 0 (List.length r.decls)), (.own 1 0 (List.length r.procs))]]⟩]) ?_ (Wk.sel (L := [(0, (.agg [(.own 0 0 (List.length r.decls)), (.own 1 0 (List.length r.procs))]))]) (st' := [⟨0, 94, 3, List.map (eRDeclD 141 3) r.decls⟩, ⟨0, 55, 5, List.map (eRProcD 3 3 63 3 3) r.procs⟩]) [0, 1] rfl (by decide) rfl rfl (.deep (pure_mapD fun _ => rfl) (.deep (pure_mapD fun _ => rfl) trivial)) ⟨.rfl, trivial⟩)
 refine ACalls.intro Try.func8 rfl (by show 1 ≤ 13; decide) ?_
 show AW _ 0 _ (aret _ 0 Try.f8 _) ⟨13, _, _⟩
 refine AW.weaken (Wk.to (L := [(0, (.agg (eRImage p0)))]) ⟨.rfl, trivial⟩) ?_
 refine sr rfl fun K1 hK1 => ?_
 refine ao_box (m := 0) (st' := [⟨0, 25, 2, [(eRImage p0)]⟩]) go0 rfl rfl rfl rfl rfl ?_
 refine ao_alloc (m := 1) (st' := [⟨0, 25, 2, [(eRImage p0)]⟩, ⟨0, 32, 2, [[.zc, .zc]]⟩]) go0 zi32 rfl rfl ?_
 refine dn hK1 rfl ?_
 refine sr rfl fun K2 hK2 => ?_
 refine ao_alloc (m := 2) (st' := [⟨0, 25, 2, [(eRImage p0)]⟩, ⟨0, 32, 2, [[.zc, .zc]]⟩, ⟨0, 32, 2, [[.zc, .zc]]⟩]) go0 zi32 rfl rfl ?_
 refine dn hK2 rfl ?_
 refine sr rfl fun K3 hK3 => ?_
 iterate 2 refine zq tb rfl ?_
 obtain ⟨q4, gq4, h0⟩ := Sh.bind_some h0
 refine ao_call (v' := (.own 3 0 (List.length q4))) (st' := [⟨0, 25, 2, [(eRImage p0)]⟩, ⟨0, 32, 2, [[.zc, .zc]]⟩, ⟨0, 32, 2, [[.zc, .zc]]⟩, ⟨0, 94, 3, List.map (eRDeclD 141 3) q4⟩]) go0 hb29 (laws_toDeclS_2_ok gq4) rfl rfl ⟨(pure_mapD fun _ => rfl), trivial⟩ rfl rfl ?_
 refine zq tb rfl ?_
 refine ao_str (st' := [⟨0, 25, 2, [(eRImage p0)]⟩, ⟨0, 32, 2, [[.zc, .zc]]⟩, ⟨0, 32, 2, [[(.own 3 0 (List.length q4)), .zc]]⟩, ⟨0, 94, 3, List.map (eRDeclD 141 3) q4⟩]) go0 ti29 rfl rfl rfl rfl rfl rfl (show 0 + 1 ≤ 2 by decide) rfl ?_
 refine dn hK3 rfl ?_
 refine sr rfl fun K5 hK5 => ?_
 iterate 2 refine zq tb rfl ?_
 obtain ⟨q6, gq6, h0⟩ := Sh.bind_some h0
 refine ao_call (v' := (.own 4 0 (List.length q6))) (st' := [⟨0, 25, 2, [(eRImage p0)]⟩, ⟨0, 32, 2, [[.zc, .zc]]⟩, ⟨0, 32, 2, [[(.own 3 0 (List.length q4)), .zc]]⟩, ⟨0, 94, 3, List.map (eRDeclD 141 3) q4⟩, ⟨0, 55, 5, List.map (eRProcD 3 3 63 3 3) q6⟩]) go0 hb30 (laws_toProcS_2_ok gq6) rfl rfl ⟨(pure_mapD fun _ => rfl), trivial⟩ rfl rfl ?_
 refine zq tb rfl ?_
 refine ao_str (st' := [⟨0, 25, 2, [(eRImage p0)]⟩, ⟨0, 32, 2, [[.zc, .zc]]⟩, ⟨0, 32, 2, [[(.own 3 0 (List.length q4)), (.own 4 0 (List.length q6))]]⟩, ⟨0, 94, 3, List.map (eRDeclD 141 3) q4⟩, ⟨0, 55, 5, List.map (eRProcD 3 3 63 3 3) q6⟩]) go0 ti30 rfl rfl rfl rfl rfl rfl (show 1 + 1 ≤ 2 by decide) rfl ?_
 refine dn hK5 rfl ?_
 refine sr rfl fun K7 hK7 => ?_
 refine zq tb rfl ?_
 refine ao_str (st' := [⟨0, 25, 2, [(eRImage p0)]⟩, ⟨0, 32, 2, [[(.own 3 0 (List.length q4)), (.own 4 0 (List.length q6))]]⟩, ⟨0, 32, 2, [[(.own 3 0 (List.length q4)), (.own 4 0 (List.length q6))]]⟩, ⟨0, 94, 3, List.map (eRDeclD 141 3) q4⟩, ⟨0, 55, 5, List.map (eRProcD 3 3 63 3 3) q6⟩]) go0 ti32 rfl rfl rfl rfl rfl rfl (show 0 + 2 ≤ 2 by decide) rfl ?_
 refine dn hK7 rfl ?_
 replace h0 := Sh.some_eq h0
 subst r
 exact AW.ret (Exists.intro _ (And.intro ((Wk.permk (L := [(2, (.ptr 2 0 0 0))]) (st' := [⟨0, 94, 3, List.map (eRDeclD 141 3) q4⟩, ⟨0, 55, 5, List.map (eRProcD 3 3 63 3 3) q6⟩, ⟨0, 32, 2, [[(.own 0 0 (List.length q4)), (.own 1 0 (List.length q6))]]⟩]) (st1 := [⟨0, 94, 3, List.map (eRDeclD 141 3) q4⟩, ⟨0, 55, 5, List.map (eRProcD 3 3 63 3 3) q6⟩, ⟨0, 32, 2, [[(.own 3 0 (List.length q4)), (.own 4 0 (List.length q6))]]⟩]) [3, 4, 1] rfl .nil (by decide) rfl rfl (.deep (pure_mapD fun _ => rfl) (.deep (pure_mapD fun _ => rfl) (.raw rfl rfl .nil))) ⟨.rfl, trivial⟩).trans (Wk.to (L := [(2, (.ptr 2 0 0 0))]) ⟨.rfl, trivial⟩)) (aq_ldpa (x := .tmp 2) (off := 0) (cs := [(.own 0 0 (List.length q4)), (.own 1 0 (List.length q6))]) (vs := [(.own 0 0 (List.length q4)), (.own 1 0 (List.length q6))]) ti32 rfl rfl rfl (show 0 + 2 ≤ 2 by decide) rfl _ ⟨rfl, rfl⟩)))
theorem impl_isType_ok {p0 : (List RDecl)} {p1 : Int} {r : Bool} (h0 : impl_isType p0 p1 = some r) : ACalls Try.prog 103 [(.sl (List.map eRDecl p0)), (i64 p1)] [] (fun v st => v = (.bool r) ∧ st = []) := by
 unfold impl_isType at h0
 refine ACalls.intro Try.func103 rfl (by show 2 ≤ 13; decide) ?_
 show AW _ 0 _ (aret _ 0 Try.f103 _) ⟨13, _, _⟩
 refine AW.weaken (Wk.to (L := [(0, (.sl (List.map eRDecl p0))), (1, (i64 p1))]) ⟨.rfl, .rfl, trivial⟩) ?_
 refine sr rfl fun K1 hK1 => ?_
 refine zq tb rfl ?_
 refine dn hK1 rfl ?_
 refine AW.seq fun K2 hK2 => ?_
 obtain ⟨o4, h1, h0⟩ := Sh.bind_some h0
 have M4 : ∀ (t3 : Bool), o4 = t3 → ∀ s, Wk 0 s ⟨13, envL [(4, (.bool t3))], []⟩ → K2 s := by
  intro t3 hq s hw
  subst o4
  try dsimp only at h0
  refine hK2 _ (AW.weaken hw ?_)
  replace h0 := Sh.some_eq h0
  subst r
  exact AW.ret (xr (Wk.to (L := [(4, (.bool t3))]) ⟨.rfl, trivial⟩))
 refine AW.regionO (by rfl) ?_
 iterate 3 refine zq tb rfl ?_
 rcases Sh.ite_some h1 with ⟨b5, h1⟩ | ⟨b5, h1⟩
 ·refine zg tb b5 rfl ?_
  refine zg tb b5 rfl ?_
  refine ao_q (v := (i64 (Sh.len p0))) (go1 rfl rfl b5) rfl (aq_lens sl29 rfl) ?_
  refine zg tb b5 rfl ?_
  refine zt b5 rfl ?_
  refine zq tb rfl ?_
  exact AO.done (M4 (decide (p1 ≤ (Sh.len p0))) (Sh.some_eq h1).symm _ (Wk.tr rfl))
 ·refine zs b5 rfl ?_
  iterate 3 refine zs b5 rfl ?_
  refine zf b5 rfl ?_
  refine zq tb rfl ?_
  exact AO.done (M4 false (Sh.some_eq h1).symm _ (Wk.tr rfl))
theorem impl_allTypes_ok {N : Nat} {p0 : (List RDecl)} {p1 : (List Int)} {r : Bool} (h0 : impl_allTypes N p0 p1 = some r) : ACalls Try.prog 102 [(.sl (List.map eRDecl p0)), (.sl (List.map eI p1))] [] (fun v st => v = (.bool r) ∧ st = []) := by
 unfold impl_allTypes at h0
 refine ACalls.intro Try.func102 rfl (by show 2 ≤ 18; decide) ?_
 show AW _ 0 _ (aret _ 0 Try.f102 _) ⟨18, _, _⟩
 refine AW.weaken (Wk.to (L := [(0, (.sl (List.map eRDecl p0))), (1, (.sl (List.map eI p1)))]) ⟨.rfl, .rfl, trivial⟩) ?_
 refine sr rfl fun K1 hK1 => ?_
 refine zq tb rfl ?_
 refine dn hK1 rfl ?_
 refine AW.seq fun K2 hK2 => ?_
 refine sr rfl fun K3 hK3 => ?_
 refine zq tb rfl ?_
 refine zl tb rfl rfl ?_
 refine zq tb rfl ?_
 refine dn hK3 rfl ?_
 obtain ⟨o5, h1, h0⟩ := Sh.cont_some h0
 have M5 : ∀ (_ : Unit), o5 = Sum.inr () → ∀ s, Wk 0 s ⟨18, envL [], []⟩ → K2 s := by
  intro _ hq s hw
  subst o5
  try dsimp only at h0
  refine hK2 _ (AW.weaken hw ?_)
  refine sr rfl fun K6 hK6 => ?_
  refine zq tb rfl ?_
  refine dn hK6 rfl ?_
  replace h0 := Sh.some_eq h0
  subst r
  exact AW.ret (xr (Wk.to (L := [(4, (.bool true))]) ⟨.rfl, trivial⟩))
 refine AW.block (AW.loopF (σ := Int) (fun n v => impl_allTypes_L1 p0 p1 n v = some o5) (fun t4 => ⟨18, envL [(0, (.sl (List.map eRDecl p0))), (7, (.sl (List.map eI p1))), (8, (i64 (Sh.len p1))), (9, (i64 t4))], []⟩) N 0 h1 (Wk.tr rfl) (fun _ hv => by rw [impl_allTypes_L1] at hv; cases hv) ?_)
 rintro n t4 h1
 try dsimp only at h1 ⊢
 rw [impl_allTypes_L1] at h1
 refine sr rfl fun K7 hK7 => ?_
 refine zq tb rfl ?_
 refine dn hK7 rfl ?_
 refine AW.seq fun K8 hK8 => ?_
 refine ci h1 rfl ?_ ?_ <;> clear h1
 ·intro b9 h1
  refine AW.skip (hK8 _ ?_)
  refine AW.seq fun K10 hK10 => ?_
  refine AW.block ?_
  refine sr rfl fun K11 hK11 => ?_
  obtain ⟨c12, gc12, h1⟩ := Sh.bind_some h1
  refine zx ei27 gc12 rfl rfl rfl ?_
  iterate 2 refine zq tb rfl ?_
  refine dn hK11 rfl ?_
  refine sr rfl fun K13 hK13 => ?_
  iterate 2 refine zq tb rfl ?_
  obtain ⟨q14, gq14, h1⟩ := Sh.bind_some h1
  refine zc hb103 (impl_isType_ok gq14) rfl rfl rfl ?_
  refine zq tb rfl ?_
  refine dn hK13 rfl ?_
  refine ci h1 rfl ?_ ?_ <;> clear h1
  ·intro b15 h1
   have b16 : q14 = false := by simpa using b15
   refine sr rfl fun K17 hK17 => ?_
   refine zq tb rfl ?_
   refine dn hK17 rfl ?_
   replace h1 := Sh.some_eq h1
   subst o5
   try dsimp only [id] at h0
   replace h0 := Sh.some_eq h0
   subst r
   exact AW.ret (xr (Wk.to (L := [(4, (.bool false))]) ⟨.rfl, trivial⟩))
  ·intro b15 h1
   have b18 : q14 = true := by simpa using b15
   refine AW.skip (hK10 _ ?_)
   refine AW.regionO (by rfl) ?_
   iterate 2 refine zq tb rfl ?_
   exact AO.done (xi (Sh.w (t4 + 1)) h1 (Wk.tr rfl))
 ·intro b9 h1
  exact AW.exit (M5 () (Sh.some_eq h1).symm _ (Wk.tr rfl))
theorem impl_ValidTypes_ok {N : Nat} {p0 : (List RDecl)} {r : Bool} (h0 : impl_ValidTypes N p0 = some r) : ACalls Try.prog 101 [(.sl (List.map eRDecl p0))] [] (fun v st => v = (.bool r) ∧ st = []) := by
 unfold impl_ValidTypes at h0
 refine ACalls.intro Try.func101 rfl (by show 1 ≤ 106; decide) ?_
 show AW _ 0 _ (aret _ 0 Try.f101 _) ⟨106, _, _⟩
 refine AW.weaken (Wk.to (L := [(0, (.sl (List.map eRDecl p0)))]) ⟨.rfl, trivial⟩) ?_
 refine sr rfl fun K1 hK1 => ?_
 refine zq tb rfl ?_
 refine dn hK1 rfl ?_
 refine AW.seq fun K2 hK2 => ?_
 refine sr rfl fun K3 hK3 => ?_
 refine zq tb rfl ?_
 refine zl tb rfl rfl ?_
 refine zq tb rfl ?_
 refine dn hK3 rfl ?_
 refine ci h0 rfl ?_ ?_ <;> clear h0
 ·intro b4 h0
  refine sr rfl fun K5 hK5 => ?_
  refine zq tb rfl ?_
  refine dn hK5 rfl ?_
  replace h0 := Sh.some_eq h0
  subst r
  exact AW.ret (xr (Wk.to (L := [(2, (.bool false))]) ⟨.rfl, trivial⟩))
 ·intro b4 h0
  refine AW.skip (hK2 _ ?_)
  refine AW.seq fun K6 hK6 => ?_
  refine sr rfl fun K7 hK7 => ?_
  refine zq tb rfl ?_
  refine zl tb rfl rfl ?_
  refine zq tb rfl ?_
  refine dn hK7 rfl ?_
  obtain ⟨o9, h1, h0⟩ := Sh.cont_some h0
  have M9 : ∀ (_ : Unit), o9 = Sum.inr () → ∀ s, Wk 0 s ⟨106, envL [], []⟩ → K6 s := by
   intro _ hq s hw
   subst o9
   try dsimp only at h0
   refine hK6 _ (AW.weaken hw ?_)
   refine sr rfl fun K10 hK10 => ?_
   refine zq tb rfl ?_
   refine dn hK10 rfl ?_
   replace h0 := Sh.some_eq h0
   subst r
   exact AW.ret (xr (Wk.to (L := [(2, (.bool true))]) ⟨.rfl, trivial⟩))
  refine AW.block (AW.loopF (σ := Int) (fun n v => impl_ValidTypes_L1 N p0 n v = some o9) (fun t8 => ⟨106, envL [(0, (.sl (List.map eRDecl p0))), (12, (.sl (List.map eRDecl p0))), (13, (i64 (Sh.len p0))), (14, (i64 t8))], []⟩) N 0 h1 (Wk.tr rfl) (fun _ hv => by rw [impl_ValidTypes_L1] at hv; cases hv) ?_)
  rintro n t8 h1
  try dsimp only at h1 ⊢
  rw [impl_ValidTypes_L1] at h1
  refine sr rfl fun K11 hK11 => ?_
  refine zq tb rfl ?_
  refine dn hK11 rfl ?_
  refine AW.seq fun K12 hK12 => ?_
  refine ci h1 rfl ?_ ?_ <;> clear h1
  ·intro b13 h1
   refine AW.skip (hK12 _ ?_)
   refine AW.seq fun K14 hK14 => ?_
   refine AW.block ?_
   refine sr rfl fun K15 hK15 => ?_
   refine zq tb rfl ?_
   obtain ⟨c16, gc16, h1⟩ := Sh.bind_some h1
   refine zx ei29 gc16 rfl rfl rfl ?_
   refine zq tb rfl ?_
   refine ao_alloc (m := 0) (st' := [⟨0, 94, 3, [[(i64 0), (i64 0), .zc]]⟩]) go0 zi94 rfl rfl ?_
   refine zq tb rfl ?_
   refine ao_str (st' := [⟨0, 94, 3, [(eRDecl c16)]⟩]) go0 ti94 rfl rfl rfl rfl rfl rfl (show 0 + 3 ≤ 3 by decide) rfl ?_
   refine dn hK15 rfl ?_
   refine AW.seq fun K17 hK17 => ?_
   refine AW.seq fun K18 hK18 => ?_
   obtain ⟨o20, h2, h1⟩ := Sh.bind_some h1
   have M20 : ∀ (t19 : Bool), o20 = t19 → ∀ s, Wk 0 s ⟨106, envL [(0, (.sl (List.map eRDecl p0))), (3, (i64 t8)), (4, (.ptr 0 0 0 0)), (12, (.sl (List.map eRDecl p0))), (13, (i64 (Sh.len p0))), (14, (i64 t8)), (52, (.bool t19))], [⟨0, 94, 3, [(eRDecl c16)]⟩]⟩ → K18 s := by
    intro t19 hq s hw
    subst o20
    try dsimp only at h1
    refine hK18 _ (AW.weaken hw ?_)
    refine ci h1 rfl ?_ ?_ <;> clear h1
    ·intro b21 h1
     refine sr rfl fun K22 hK22 => ?_
     refine zq tb rfl ?_
     refine dn hK22 rfl ?_
     replace h1 := Sh.some_eq h1
     subst o9
     try dsimp only [id] at h0
     replace h0 := Sh.some_eq h0
     subst r
     exact AW.ret (xr (Wk.d0 [(2, (.bool false))] rfl))
    ·intro b21 h1
     refine AW.skip (hK17 _ ?_)
     refine AW.seq fun K23 hK23 => ?_
     refine sr rfl fun K24 hK24 => ?_
     iterate 2 refine zq tb rfl ?_
     refine zl tb rfl rfl ?_
     refine zq tb rfl ?_
     refine dn hK24 rfl ?_
     obtain ⟨o26, h2, h1⟩ := Sh.cont_some h1
     have M26 : ∀ (_ : Unit), o26 = Sum.inr () → ∀ s, Wk 0 s ⟨106, envL [(0, (.sl (List.map eRDecl p0))), (3, (i64 t8)), (4, (.ptr 0 0 0 0)), (12, (.sl (List.map eRDecl p0))), (13, (i64 (Sh.len p0))), (14, (i64 t8))], [⟨0, 94, 3, [(eRDecl c16)]⟩]⟩ → K23 s := by
      intro _ hq s hw
      subst o26
      try dsimp only at h1
      refine hK23 _ (AW.weaken hw ?_)
      refine sr rfl fun K27 hK27 => ?_
      iterate 2 refine zq tb rfl ?_
      obtain ⟨l28, gl28, h1⟩ := Sh.bind_some h1
      refine ao_sls (i := 0) (j := t8) go0 ei29 rfl rfl rfl (fun _ => rfl) gl28 ?_
      refine zl tb rfl rfl ?_
      refine zq tb rfl ?_
      refine dn hK27 rfl ?_
      obtain ⟨o30, h2, h1⟩ := Sh.cont_some h1
      have M30 : ∀ (_ : Unit), o30 = Sum.inr () → ∀ s, Wk 0 s ⟨106, envL [(0, (.sl (List.map eRDecl p0))), (12, (.sl (List.map eRDecl p0))), (13, (i64 (Sh.len p0))), (14, (i64 t8))], []⟩ → K14 s := by
       intro _ hq s hw
       subst o30
       try dsimp only at h1
       refine hK14 _ (AW.weaken hw ?_)
       refine AW.regionO (by rfl) ?_
       iterate 2 refine zq tb rfl ?_
       exact AO.done (xi (Sh.w (t8 + 1)) h1 (Wk.tr rfl))
      refine AW.block (AW.loopF (σ := Int) (fun n v => impl_ValidTypes_L3 c16 l28 n v = some o30) (fun t29 => ⟨106, envL [(0, (.sl (List.map eRDecl p0))), (4, (.ptr 0 0 0 0)), (12, (.sl (List.map eRDecl p0))), (13, (i64 (Sh.len p0))), (14, (i64 t8)), (74, (.sl (List.map eRDecl l28))), (75, (i64 (Sh.len l28))), (76, (i64 t29))], [⟨0, 94, 3, [(eRDecl c16)]⟩]⟩) N 0 h2 (Wk.tr rfl) (fun _ hv => by rw [impl_ValidTypes_L3] at hv; cases hv) ?_)
      rintro n t29 h2
      try dsimp only at h2 ⊢
      rw [impl_ValidTypes_L3] at h2
      refine sr rfl fun K31 hK31 => ?_
      refine zq tb rfl ?_
      refine dn hK31 rfl ?_
      refine AW.seq fun K32 hK32 => ?_
      refine ci h2 rfl ?_ ?_ <;> clear h2
      ·intro b33 h2
       refine AW.skip (hK32 _ ?_)
       refine AW.seq fun K34 hK34 => ?_
       refine AW.block ?_
       refine sr rfl fun K35 hK35 => ?_
       obtain ⟨c36, gc36, h2⟩ := Sh.bind_some h2
       refine zx ei29 gc36 rfl rfl rfl ?_
       refine zq tb rfl ?_
       refine ao_alloc (m := 1) (st' := [⟨0, 94, 3, [(eRDecl c16)]⟩, ⟨0, 94, 3, [[(i64 0), (i64 0), .zc]]⟩]) go0 zi94 rfl rfl ?_
       refine ao_str (st' := [⟨0, 94, 3, [(eRDecl c16)]⟩, ⟨0, 94, 3, [(eRDecl c36)]⟩]) go0 ti94 rfl rfl rfl rfl rfl rfl (show 0 + 3 ≤ 3 by decide) rfl ?_
       refine dn hK35 rfl ?_
       refine AW.seq fun K37 hK37 => ?_
       obtain ⟨o39, h3, h2⟩ := Sh.bind_some h2
       have M39 : ∀ (t38 : Bool), o39 = t38 → ∀ s, Wk 0 s ⟨106, envL [(0, (.sl (List.map eRDecl p0))), (4, (.ptr 0 0 0 0)), (12, (.sl (List.map eRDecl p0))), (13, (i64 (Sh.len p0))), (14, (i64 t8)), (74, (.sl (List.map eRDecl l28))), (75, (i64 (Sh.len l28))), (76, (i64 t29)), (103, (.bool t38))], [⟨0, 94, 3, [(eRDecl c16)]⟩]⟩ → K37 s := by
        intro t38 hq s hw
        subst o39
        try dsimp only at h2
        refine hK37 _ (AW.weaken hw ?_)
        refine ci h2 rfl ?_ ?_ <;> clear h2
        ·intro b40 h2
         refine sr rfl fun K41 hK41 => ?_
         refine zq tb rfl ?_
         refine dn hK41 rfl ?_
         replace h2 := Sh.some_eq h2
         subst o30
         try dsimp only [id] at h1
         replace h1 := Sh.some_eq h1
         subst o9
         try dsimp only [id] at h0
         replace h0 := Sh.some_eq h0
         subst r
         exact AW.ret (xr (Wk.d0 [(2, (.bool false))] rfl))
        ·intro b40 h2
         refine AW.skip (hK34 _ ?_)
         refine AW.regionO (by rfl) ?_
         iterate 2 refine zq tb rfl ?_
         exact AO.done (xi (Sh.w (t29 + 1)) h2 (Wk.tr rfl))
       refine AW.regionO (by rfl) ?_
       iterate 2 refine zq tb rfl ?_
       refine zl tb rfl rfl ?_
       iterate 2 refine zq tb rfl ?_
       rcases Sh.ite_some h3 with ⟨b42, h3⟩ | ⟨b42, h3⟩
       ·refine zg tb b42 rfl ?_
        refine zg tb b42 rfl ?_
        refine ao_q (v := (i64 (Sh.len c36.cons))) (go1 rfl rfl b42) rfl (aq_lens sl92 rfl) ?_
        refine zg tb b42 rfl ?_
        refine zt b42 rfl ?_
        refine zq tb rfl ?_
        rcases Sh.ite_some h3 with ⟨b43, h3⟩ | ⟨b43, h3⟩
        ·refine zg tb b43 rfl ?_
         iterate 4 refine zg tb b43 rfl ?_
         refine zt b43 rfl ?_
         refine zq tb rfl ?_
         rcases Sh.ite_some h3 with ⟨b44, h3⟩ | ⟨b44, h3⟩
         ·refine zg tb b44 rfl ?_
          iterate 4 refine zg tb b44 rfl ?_
          refine zt b44 rfl ?_
          exact AO.done (M39 (decide (c36.to = c16.to)) (Sh.some_eq h3).symm _ (Wk.permk (L := [(0, (.sl (List.map eRDecl p0))), (4, (.ptr 0 0 0 0)), (12, (.sl (List.map eRDecl p0))), (13, (i64 (Sh.len p0))), (14, (i64 t8)), (74, (.sl (List.map eRDecl l28))), (75, (i64 (Sh.len l28))), (76, (i64 t29)), (103, (.bool (decide (c36.to = c16.to))))]) (st' := [⟨0, 94, 3, [(eRDecl c16)]⟩]) (st1 := [⟨0, 94, 3, [(eRDecl c16)]⟩]) [0] rfl .nil (by decide) rfl rfl (.raw rfl rfl .nil) ⟨.rfl, .rfl, .rfl, .rfl, .rfl, .rfl, .rfl, .rfl, .rfl, trivial⟩))
         ·refine zs b44 rfl ?_
          iterate 4 refine zs b44 rfl ?_
          refine zf b44 rfl ?_
          exact AO.done (M39 false (Sh.some_eq h3).symm _ (Wk.permk (L := [(0, (.sl (List.map eRDecl p0))), (4, (.ptr 0 0 0 0)), (12, (.sl (List.map eRDecl p0))), (13, (i64 (Sh.len p0))), (14, (i64 t8)), (74, (.sl (List.map eRDecl l28))), (75, (i64 (Sh.len l28))), (76, (i64 t29)), (103, (.bool false))]) (st' := [⟨0, 94, 3, [(eRDecl c16)]⟩]) (st1 := [⟨0, 94, 3, [(eRDecl c16)]⟩]) [0] rfl .nil (by decide) rfl rfl (.raw rfl rfl .nil) ⟨.rfl, .rfl, .rfl, .rfl, .rfl, .rfl, .rfl, .rfl, .rfl, trivial⟩))
        ·refine zs b43 rfl ?_
         iterate 4 refine zs b43 rfl ?_
         refine zf b43 rfl ?_
         refine zq tb rfl ?_
         iterate 5 refine zs rfl rfl ?_
         refine zf rfl rfl ?_
         exact AO.done (M39 false (Sh.some_eq h3).symm _ (Wk.permk (L := [(0, (.sl (List.map eRDecl p0))), (4, (.ptr 0 0 0 0)), (12, (.sl (List.map eRDecl p0))), (13, (i64 (Sh.len p0))), (14, (i64 t8)), (74, (.sl (List.map eRDecl l28))), (75, (i64 (Sh.len l28))), (76, (i64 t29)), (103, (.bool false))]) (st' := [⟨0, 94, 3, [(eRDecl c16)]⟩]) (st1 := [⟨0, 94, 3, [(eRDecl c16)]⟩]) [0] rfl .nil (by decide) rfl rfl (.raw rfl rfl .nil) ⟨.rfl, .rfl, .rfl, .rfl, .rfl, .rfl, .rfl, .rfl, .rfl, trivial⟩))
       ·refine zs b42 rfl ?_
        iterate 3 refine zs b42 rfl ?_
        refine zf b42 rfl ?_
        refine zq tb rfl ?_
        iterate 5 refine zs rfl rfl ?_
        refine zf rfl rfl ?_
        refine zq tb rfl ?_
        iterate 5 refine zs rfl rfl ?_
        refine zf rfl rfl ?_
        exact AO.done (M39 false (Sh.some_eq h3).symm _ (Wk.permk (L := [(0, (.sl (List.map eRDecl p0))), (4, (.ptr 0 0 0 0)), (12, (.sl (List.map eRDecl p0))), (13, (i64 (Sh.len p0))), (14, (i64 t8)), (74, (.sl (List.map eRDecl l28))), (75, (i64 (Sh.len l28))), (76, (i64 t29)), (103, (.bool false))]) (st' := [⟨0, 94, 3, [(eRDecl c16)]⟩]) (st1 := [⟨0, 94, 3, [(eRDecl c16)]⟩]) [0] rfl .nil (by decide) rfl rfl (.raw rfl rfl .nil) ⟨.rfl, .rfl, .rfl, .rfl, .rfl, .rfl, .rfl, .rfl, .rfl, trivial⟩))
      ·intro b33 h2
       exact AW.exit (M30 () (Sh.some_eq h2).symm _ (Wk.d0 _ rfl))
     refine AW.block (AW.loopF (σ := Int) (fun n v => impl_ValidTypes_L2 N c16 p0 n v = some o26) (fun t25 => ⟨106, envL [(0, (.sl (List.map eRDecl p0))), (3, (i64 t8)), (4, (.ptr 0 0 0 0)), (12, (.sl (List.map eRDecl p0))), (13, (i64 (Sh.len p0))), (14, (i64 t8)), (54, (.sl (List.map eRCon c16.cons))), (55, (i64 (Sh.len c16.cons))), (56, (i64 t25))], [⟨0, 94, 3, [(eRDecl c16)]⟩]⟩) N 0 h2 (Wk.tr rfl) (fun _ hv => by rw [impl_ValidTypes_L2] at hv; cases hv) ?_)
     rintro n t25 h2
     try dsimp only at h2 ⊢
     rw [impl_ValidTypes_L2] at h2
     refine sr rfl fun K45 hK45 => ?_
     refine zq tb rfl ?_
     refine dn hK45 rfl ?_
     refine AW.seq fun K46 hK46 => ?_
     refine ci h2 rfl ?_ ?_ <;> clear h2
     ·intro b47 h2
      refine AW.skip (hK46 _ ?_)
      refine AW.seq fun K48 hK48 => ?_
      refine AW.block ?_
      refine sr rfl fun K49 hK49 => ?_
      obtain ⟨c50, gc50, h2⟩ := Sh.bind_some h2
      refine zx ei92 gc50 rfl rfl rfl ?_
      refine zq tb rfl ?_
      refine ao_alloc (m := 1) (st' := [⟨0, 94, 3, [(eRDecl c16)]⟩, ⟨0, 141, 1, [[.zc]]⟩]) go0 zi141 rfl rfl ?_
      refine ao_str (st' := [⟨0, 94, 3, [(eRDecl c16)]⟩, ⟨0, 141, 1, [(eRCon c50)]⟩]) go0 ti141 rfl rfl rfl rfl rfl rfl (show 0 + 1 ≤ 1 by decide) rfl ?_
      refine dn hK49 rfl ?_
      refine AW.seq fun K51 hK51 => ?_
      obtain ⟨o53, h3, h2⟩ := Sh.bind_some h2
      have M53 : ∀ (t52 : Bool), o53 = t52 → ∀ s, Wk 0 s ⟨106, envL [(0, (.sl (List.map eRDecl p0))), (3, (i64 t8)), (4, (.ptr 0 0 0 0)), (12, (.sl (List.map eRDecl p0))), (13, (i64 (Sh.len p0))), (14, (i64 t8)), (54, (.sl (List.map eRCon c16.cons))), (55, (i64 (Sh.len c16.cons))), (56, (i64 t25)), (70, (.bool t52))], [⟨0, 94, 3, [(eRDecl c16)]⟩]⟩ → K51 s := by
       intro t52 hq s hw
       subst o53
       try dsimp only at h2
       refine hK51 _ (AW.weaken hw ?_)
       refine ci h2 rfl ?_ ?_ <;> clear h2
       ·intro b54 h2
        refine sr rfl fun K55 hK55 => ?_
        refine zq tb rfl ?_
        refine dn hK55 rfl ?_
        replace h2 := Sh.some_eq h2
        subst o26
        try dsimp only [id] at h1
        replace h1 := Sh.some_eq h1
        subst o9
        try dsimp only [id] at h0
        replace h0 := Sh.some_eq h0
        subst r
        exact AW.ret (xr (Wk.d0 [(2, (.bool false))] rfl))
       ·intro b54 h2
        refine AW.skip (hK48 _ ?_)
        refine AW.regionO (by rfl) ?_
        iterate 2 refine zq tb rfl ?_
        exact AO.done (xi (Sh.w (t25 + 1)) h2 (Wk.tr rfl))
      refine AW.regionO (by rfl) ?_
      iterate 2 refine zq tb rfl ?_
      refine zl tb rfl rfl ?_
      iterate 2 refine zq tb rfl ?_
      rcases Sh.ite_some h3 with ⟨b56, h3⟩ | ⟨b56, h3⟩
      ·refine zs b56 rfl ?_
       iterate 4 refine zs b56 rfl ?_
       refine zt b56 rfl ?_
       exact AO.done (M53 true (Sh.some_eq h3).symm _ (Wk.permk (L := [(0, (.sl (List.map eRDecl p0))), (3, (i64 t8)), (4, (.ptr 0 0 0 0)), (12, (.sl (List.map eRDecl p0))), (13, (i64 (Sh.len p0))), (14, (i64 t8)), (54, (.sl (List.map eRCon c16.cons))), (55, (i64 (Sh.len c16.cons))), (56, (i64 t25)), (70, (.bool true))]) (st' := [⟨0, 94, 3, [(eRDecl c16)]⟩]) (st1 := [⟨0, 94, 3, [(eRDecl c16)]⟩]) [0] rfl .nil (by decide) rfl rfl (.raw rfl rfl .nil) ⟨.rfl, .rfl, .rfl, .rfl, .rfl, .rfl, .rfl, .rfl, .rfl, .rfl, trivial⟩))
      ·refine zg tb b56 rfl ?_
       iterate 2 refine zg tb b56 rfl ?_
       obtain ⟨q57, gq57, h3⟩ := Sh.bind_some h3
       refine zd b56 hb102 (impl_allTypes_ok gq57) rfl rfl rfl rfl ?_
       refine zg tb b56 rfl ?_
       refine zf b56 rfl ?_
       exact AO.done (M53 (!q57) (Sh.some_eq h3).symm _ (Wk.permk (L := [(0, (.sl (List.map eRDecl p0))), (3, (i64 t8)), (4, (.ptr 0 0 0 0)), (12, (.sl (List.map eRDecl p0))), (13, (i64 (Sh.len p0))), (14, (i64 t8)), (54, (.sl (List.map eRCon c16.cons))), (55, (i64 (Sh.len c16.cons))), (56, (i64 t25)), (70, (.bool (!q57)))]) (st' := [⟨0, 94, 3, [(eRDecl c16)]⟩]) (st1 := [⟨0, 94, 3, [(eRDecl c16)]⟩]) [0] rfl .nil (by decide) rfl rfl (.raw rfl rfl .nil) ⟨.rfl, .rfl, .rfl, .rfl, .rfl, .rfl, .rfl, .rfl, .rfl, .rfl, trivial⟩))
     ·intro b47 h2
      exact AW.exit (M26 () (Sh.some_eq h2).symm _ (Wk.tr rfl))
   refine AW.regionO (by rfl) ?_
   iterate 3 refine zq tb rfl ?_
   obtain ⟨q58, gq58, h2⟩ := Sh.bind_some h2
   refine zc hb103 (impl_isType_ok gq58) rfl rfl rfl ?_
   iterate 2 refine zq tb rfl ?_
   rcases Sh.ite_some h2 with ⟨b59, h2⟩ | ⟨b59, h2⟩
   ·refine zs b59 rfl ?_
    iterate 4 refine zs b59 rfl ?_
    refine zt b59 rfl ?_
    refine zq tb rfl ?_
    iterate 4 refine zs rfl rfl ?_
    refine zt rfl rfl ?_
    refine zq tb rfl ?_
    iterate 5 refine zs rfl rfl ?_
    iterate 8 refine zn rfl ?_
    refine zs rfl rfl ?_
    refine zt rfl rfl ?_
    exact AO.done (M20 true (Sh.some_eq h2).symm _ (Wk.tr rfl))
   ·refine zg tb b59 rfl ?_
    iterate 2 refine zg tb b59 rfl ?_
    obtain ⟨q60, gq60, h2⟩ := Sh.bind_some h2
    refine zd b59 hb103 (impl_isType_ok gq60) rfl rfl rfl rfl ?_
    refine zg tb b59 rfl ?_
    refine zf b59 rfl ?_
    refine zq tb rfl ?_
    rcases Sh.ite_some h2 with ⟨b61, h2⟩ | ⟨b61, h2⟩
    ·refine zs b61 rfl ?_
     iterate 3 refine zs b61 rfl ?_
     refine zt b61 rfl ?_
     refine zq tb rfl ?_
     iterate 5 refine zs rfl rfl ?_
     iterate 8 refine zn rfl ?_
     refine zs rfl rfl ?_
     refine zt rfl rfl ?_
     exact AO.done (M20 true (Sh.some_eq h2).symm _ (Wk.tr rfl))
    ·refine zg tb b61 rfl ?_
     refine zg tb b61 rfl ?_
     refine ao_q (v := (i64 (Sh.len c16.cons))) (go1 rfl rfl b61) rfl (aq_lens sl92 rfl) ?_
     refine zg tb b61 rfl ?_
     refine zf b61 rfl ?_
     refine zq tb rfl ?_
     rcases Sh.ite_some h2 with ⟨b62, h2⟩ | ⟨b62, h2⟩
     ·refine zs b62 rfl ?_
      iterate 4 refine zs b62 rfl ?_
      iterate 8 refine zn rfl ?_
      refine zs b62 rfl ?_
      refine zt b62 rfl ?_
      exact AO.done (M20 true (Sh.some_eq h2).symm _ (Wk.tr rfl))
     ·refine zg tb b62 rfl ?_
      refine zg tb b62 rfl ?_
      refine ao_q (v := (i64 (Sh.len c16.cons))) (go1 rfl rfl b62) rfl (aq_lens sl92 rfl) ?_
      iterate 2 refine zg tb b62 rfl ?_
      rcases Sh.ite_some h2 with ⟨b63, h2⟩ | ⟨b63, h2⟩
      ·refine zg tb b63 rfl ?_
       iterate 3 refine zg tb b63 rfl ?_
       rcases Sh.ite_some h2 with ⟨b64, h2⟩ | ⟨b64, h2⟩
       ·refine zs b64 rfl ?_
        iterate 2 refine zs b64 rfl ?_
        refine ao_q (v := (.bool true)) (go1 rfl rfl b63) rfl (aq_pkt rfl b64 rfl) ?_
        refine ao_q (v := (.bool true)) (go1 rfl rfl b62) rfl (aq_pkt rfl b63 rfl) ?_
        refine zf b62 rfl ?_
        exact AO.done (M20 true (Sh.some_eq h2).symm _ (Wk.tr rfl))
       ·refine zg tb b64 rfl ?_
        iterate 2 refine zg tb b64 rfl ?_
        refine ao_q (v := (.bool (!decide (c16.to = 0)))) (go1 rfl rfl b63) rfl (aq_pkf rfl b64 rfl) ?_
        refine ao_q (v := (.bool (!decide (c16.to = 0)))) (go1 rfl rfl b62) rfl (aq_pkt rfl b63 rfl) ?_
        refine zf b62 rfl ?_
        exact AO.done (M20 (!decide (c16.to = 0)) (Sh.some_eq h2).symm _ (Wk.tr rfl))
      ·refine zs b63 rfl ?_
       iterate 3 refine zs b63 rfl ?_
       iterate 3 refine zn rfl ?_
       refine zs b63 rfl ?_
       refine ao_q (v := (.bool false)) (go1 rfl rfl b62) rfl (aq_pkf rfl b63 rfl) ?_
       refine zf b62 rfl ?_
       exact AO.done (M20 false (Sh.some_eq h2).symm _ (Wk.tr rfl))
  ·intro b13 h1
   exact AW.exit (M9 () (Sh.some_eq h1).symm _ (Wk.tr rfl))
theorem impl_validSigs_ok {N : Nat} {p0 : (List RDecl)} {p1 : (List RSignature)} {r : Bool} (h0 : impl_validSigs N p0 p1 = some r) : ACalls Try.prog 81 [(.sl (List.map eRDecl p0)), (.sl (List.map eRSignature p1))] [] (fun v st => v = (.bool r) ∧ st = []) := by
 unfold impl_validSigs at h0
 refine ACalls.intro Try.func81 rfl (by show 2 ≤ 102; decide) ?_
 show AW _ 0 _ (aret _ 0 Try.f81 _) ⟨102, _, _⟩
 refine AW.weaken (Wk.to (L := [(0, (.sl (List.map eRDecl p0))), (1, (.sl (List.map eRSignature p1)))]) ⟨.rfl, .rfl, trivial⟩) ?_
 refine sr rfl fun K1 hK1 => ?_
 refine zq tb rfl ?_
 refine dn hK1 rfl ?_
 refine AW.seq fun K2 hK2 => ?_
 refine AW.seq fun K3 hK3 => ?_
 obtain ⟨o5, h1, h0⟩ := Sh.bind_some h0
 have M5 : ∀ (t4 : Bool), o5 = t4 → ∀ s, Wk 0 s ⟨102, envL [(0, (.sl (List.map eRDecl p0))), (1, (.sl (List.map eRSignature p1))), (36, (.bool t4))], []⟩ → K3 s := by
  intro t4 hq s hw
  subst o5
  try dsimp only at h0
  refine hK3 _ (AW.weaken hw ?_)
  refine ci h0 rfl ?_ ?_ <;> clear h0
  ·intro b6 h0
   refine sr rfl fun K7 hK7 => ?_
   refine zq tb rfl ?_
   refine dn hK7 rfl ?_
   replace h0 := Sh.some_eq h0
   subst r
   exact AW.ret (xr (Wk.to (L := [(4, (.bool false))]) ⟨.rfl, trivial⟩))
  ·intro b6 h0
   refine AW.skip (hK2 _ ?_)
   refine AW.seq fun K8 hK8 => ?_
   refine sr rfl fun K9 hK9 => ?_
   refine zq tb rfl ?_
   refine zl tb rfl rfl ?_
   refine zq tb rfl ?_
   refine dn hK9 rfl ?_
   obtain ⟨o11, h1, h0⟩ := Sh.cont_some h0
   have M11 : ∀ (_ : Unit), o11 = Sum.inr () → ∀ s, Wk 0 s ⟨102, envL [], []⟩ → K8 s := by
    intro _ hq s hw
    subst o11
    try dsimp only at h0
    refine hK8 _ (AW.weaken hw ?_)
    refine sr rfl fun K12 hK12 => ?_
    refine zq tb rfl ?_
    refine dn hK12 rfl ?_
    replace h0 := Sh.some_eq h0
    subst r
    exact AW.ret (xr (Wk.to (L := [(4, (.bool true))]) ⟨.rfl, trivial⟩))
   refine AW.block (AW.loopF (σ := Int) (fun n v => impl_validSigs_L1 N p0 p1 n v = some o11) (fun t10 => ⟨102, envL [(0, (.sl (List.map eRDecl p0))), (37, (.sl (List.map eRSignature p1))), (38, (i64 (Sh.len p1))), (39, (i64 t10))], []⟩) N 0 h1 (Wk.tr rfl) (fun _ hv => by rw [impl_validSigs_L1] at hv; cases hv) ?_)
   rintro n t10 h1
   try dsimp only at h1 ⊢
   rw [impl_validSigs_L1] at h1
   refine sr rfl fun K13 hK13 => ?_
   refine zq tb rfl ?_
   refine dn hK13 rfl ?_
   refine AW.seq fun K14 hK14 => ?_
   refine ci h1 rfl ?_ ?_ <;> clear h1
   ·intro b15 h1
    refine AW.skip (hK14 _ ?_)
    refine AW.seq fun K16 hK16 => ?_
    refine AW.block ?_
    refine sr rfl fun K17 hK17 => ?_
    obtain ⟨c18, gc18, h1⟩ := Sh.bind_some h1
    refine zx ei97 gc18 rfl rfl rfl ?_
    refine zq tb rfl ?_
    refine ao_alloc (m := 0) (st' := [⟨0, 132, 3, [[.zc, .zc, (i64 0)]]⟩]) go0 zi132 rfl rfl ?_
    refine ao_str (st' := [⟨0, 132, 3, [[(.sl (List.map eI c18.params)), (.sl (List.map eI c18.lent)), (i64 c18.result)]]⟩]) go0 ti132 rfl rfl rfl rfl rfl rfl (show 0 + 3 ≤ 3 by decide) rfl ?_
    refine dn hK17 rfl ?_
    refine AW.seq fun K19 hK19 => ?_
    refine AW.seq fun K20 hK20 => ?_
    obtain ⟨o22, h2, h1⟩ := Sh.bind_some h1
    have M22 : ∀ (t21 : Bool), o22 = t21 → ∀ s, Wk 0 s ⟨102, envL [(0, (.sl (List.map eRDecl p0))), (6, (.ptr 0 0 0 0)), (37, (.sl (List.map eRSignature p1))), (38, (i64 (Sh.len p1))), (39, (i64 t10)), (60, (.bool t21))], [⟨0, 132, 3, [[(.sl (List.map eI c18.params)), (.sl (List.map eI c18.lent)), (i64 c18.result)]]⟩]⟩ → K20 s := by
     intro t21 hq s hw
     subst o22
     try dsimp only at h1
     refine hK20 _ (AW.weaken hw ?_)
     refine ci h1 rfl ?_ ?_ <;> clear h1
     ·intro b23 h1
      refine sr rfl fun K24 hK24 => ?_
      refine zq tb rfl ?_
      refine dn hK24 rfl ?_
      replace h1 := Sh.some_eq h1
      subst o11
      try dsimp only [id] at h0
      replace h0 := Sh.some_eq h0
      subst r
      exact AW.ret (xr (Wk.d0 [(4, (.bool false))] rfl))
     ·intro b23 h1
      refine AW.skip (hK19 _ ?_)
      refine sr rfl fun K25 hK25 => ?_
      iterate 2 refine zq tb rfl ?_
      refine zl tb rfl rfl ?_
      refine zq tb rfl ?_
      refine dn hK25 rfl ?_
      obtain ⟨o27, h2, h1⟩ := Sh.cont_some h1
      have M27 : ∀ (_ : Unit), o27 = Sum.inr () → ∀ s, Wk 0 s ⟨102, envL [(0, (.sl (List.map eRDecl p0))), (37, (.sl (List.map eRSignature p1))), (38, (i64 (Sh.len p1))), (39, (i64 t10))], []⟩ → K16 s := by
       intro _ hq s hw
       subst o27
       try dsimp only at h1
       refine hK16 _ (AW.weaken hw ?_)
       refine AW.regionO (by rfl) ?_
       iterate 2 refine zq tb rfl ?_
       exact AO.done (xi (Sh.w (t10 + 1)) h1 (Wk.tr rfl))
      refine AW.block (AW.loopF (σ := Int) (fun n v => impl_validSigs_L2 c18 n v = some o27) (fun t26 => ⟨102, envL [(0, (.sl (List.map eRDecl p0))), (6, (.ptr 0 0 0 0)), (37, (.sl (List.map eRSignature p1))), (38, (i64 (Sh.len p1))), (39, (i64 t10)), (62, (.sl (List.map eI c18.lent))), (63, (i64 (Sh.len c18.lent))), (64, (i64 t26))], [⟨0, 132, 3, [[(.sl (List.map eI c18.params)), (.sl (List.map eI c18.lent)), (i64 c18.result)]]⟩]⟩) N 0 h2 (Wk.tr rfl) (fun _ hv => by rw [impl_validSigs_L2] at hv; cases hv) ?_)
      rintro n t26 h2
      try dsimp only at h2 ⊢
      rw [impl_validSigs_L2] at h2
      refine sr rfl fun K28 hK28 => ?_
      refine zq tb rfl ?_
      refine dn hK28 rfl ?_
      refine AW.seq fun K29 hK29 => ?_
      refine ci h2 rfl ?_ ?_ <;> clear h2
      ·intro b30 h2
       refine AW.skip (hK29 _ ?_)
       refine AW.seq fun K31 hK31 => ?_
       refine AW.block ?_
       refine sr rfl fun K32 hK32 => ?_
       refine zq tb rfl ?_
       obtain ⟨c33, gc33, h2⟩ := Sh.bind_some h2
       refine zx ei27 gc33 rfl rfl rfl ?_
       iterate 3 refine zq tb rfl ?_
       refine dn hK32 rfl ?_
       refine AW.seq fun K34 hK34 => ?_
       obtain ⟨o36, h3, h2⟩ := Sh.bind_some h2
       have M36 : ∀ (t35 : Bool), o36 = t35 → ∀ s, Wk 0 s ⟨102, envL [(0, (.sl (List.map eRDecl p0))), (6, (.ptr 0 0 0 0)), (37, (.sl (List.map eRSignature p1))), (38, (i64 (Sh.len p1))), (39, (i64 t10)), (62, (.sl (List.map eI c18.lent))), (63, (i64 (Sh.len c18.lent))), (64, (i64 t26)), (99, (.bool t35))], [⟨0, 132, 3, [[(.sl (List.map eI c18.params)), (.sl (List.map eI c18.lent)), (i64 c18.result)]]⟩]⟩ → K34 s := by
        intro t35 hq s hw
        subst o36
        try dsimp only at h2
        refine hK34 _ (AW.weaken hw ?_)
        refine ci h2 rfl ?_ ?_ <;> clear h2
        ·intro b37 h2
         refine sr rfl fun K38 hK38 => ?_
         refine zq tb rfl ?_
         refine dn hK38 rfl ?_
         replace h2 := Sh.some_eq h2
         subst o27
         try dsimp only [id] at h1
         replace h1 := Sh.some_eq h1
         subst o11
         try dsimp only [id] at h0
         replace h0 := Sh.some_eq h0
         subst r
         exact AW.ret (xr (Wk.d0 [(4, (.bool false))] rfl))
        ·intro b37 h2
         refine AW.skip (hK31 _ ?_)
         refine AW.regionO (by rfl) ?_
         iterate 2 refine zq tb rfl ?_
         exact AO.done (xi (Sh.w (t26 + 1)) h2 (Wk.tr rfl))
       refine AW.regionO (by rfl) ?_
       iterate 3 refine zq tb rfl ?_
       rcases Sh.ite_some h3 with ⟨b39, h3⟩ | ⟨b39, h3⟩
       ·refine zs b39 rfl ?_
        iterate 4 refine zs b39 rfl ?_
        refine zt b39 rfl ?_
        refine zq tb rfl ?_
        iterate 6 refine zs rfl rfl ?_
        refine zt rfl rfl ?_
        refine zq tb rfl ?_
        iterate 3 refine zs rfl rfl ?_
        iterate 8 refine zn rfl ?_
        refine zs rfl rfl ?_
        refine zt rfl rfl ?_
        exact AO.done (M36 true (Sh.some_eq h3).symm _ (Wk.tr rfl))
       ·refine zg tb b39 rfl ?_
        iterate 2 refine zg tb b39 rfl ?_
        refine ao_q (v := (i64 (Sh.len c18.params))) (go1 rfl rfl b39) rfl (aq_lens sl27 rfl) ?_
        refine zg tb b39 rfl ?_
        refine zf b39 rfl ?_
        refine zq tb rfl ?_
        rcases Sh.ite_some h3 with ⟨b40, h3⟩ | ⟨b40, h3⟩
        ·refine zs b40 rfl ?_
         iterate 5 refine zs b40 rfl ?_
         refine zt b40 rfl ?_
         refine zq tb rfl ?_
         iterate 3 refine zs rfl rfl ?_
         iterate 8 refine zn rfl ?_
         refine zs rfl rfl ?_
         refine zt rfl rfl ?_
         exact AO.done (M36 true (Sh.some_eq h3).symm _ (Wk.tr rfl))
        ·refine zg tb b40 rfl ?_
         iterate 2 refine zg tb b40 rfl ?_
         obtain ⟨c41, gc41, h3⟩ := Sh.bind_some h3
         refine ao_q (v := (.iptr (eI c41) 0)) (go1 rfl rfl b40) rfl (aq_ixs ei27 rfl rfl gc41 rfl) ?_
         iterate 2 refine zg tb b40 rfl ?_
         refine zf b40 rfl ?_
         refine zq tb rfl ?_
         rcases Sh.ite_some h3 with ⟨b42, h3⟩ | ⟨b42, h3⟩
         ·refine zs b42 rfl ?_
          iterate 2 refine zs b42 rfl ?_
          iterate 8 refine zn rfl ?_
          refine zs b42 rfl ?_
          refine zt b42 rfl ?_
          exact AO.done (M36 true (Sh.some_eq h3).symm _ (Wk.tr rfl))
         ·refine zg tb b42 rfl ?_
          iterate 2 refine zg tb b42 rfl ?_
          rcases Sh.ite_some h3 with ⟨b43, h3⟩ | ⟨b43, h3⟩
          ·refine zg tb b43 rfl ?_
           iterate 4 refine zg tb b43 rfl ?_
           obtain ⟨c44, gc44, h3⟩ := Sh.bind_some h3
           refine ao_q (v := (.iptr (eI c44) 0)) (go1 rfl rfl b43) rfl (aq_ixs ei27 rfl rfl gc44 rfl) ?_
           iterate 2 refine zg tb b43 rfl ?_
           refine ao_q (v := (.bool (decide (c33 ≤ c44)))) (go1 rfl rfl b42) rfl (aq_pkt rfl b43 rfl) ?_
           refine zf b42 rfl ?_
           exact AO.done (M36 (decide (c33 ≤ c44)) (Sh.some_eq h3).symm _ (Wk.tr rfl))
          ·refine zs b43 rfl ?_
           iterate 7 refine zs b43 rfl ?_
           refine ao_q (v := (.bool false)) (go1 rfl rfl b42) rfl (aq_pkf rfl b43 rfl) ?_
           refine zf b42 rfl ?_
           exact AO.done (M36 false (Sh.some_eq h3).symm _ (Wk.tr rfl))
      ·intro b30 h2
       exact AW.exit (M27 () (Sh.some_eq h2).symm _ (Wk.d0 _ rfl))
    refine AW.regionO (by rfl) ?_
    iterate 2 refine zq tb rfl ?_
    refine zl tb rfl rfl ?_
    iterate 2 refine zq tb rfl ?_
    rcases Sh.ite_some h2 with ⟨b45, h2⟩ | ⟨b45, h2⟩
    ·refine zs b45 rfl ?_
     iterate 4 refine zs b45 rfl ?_
     refine zt b45 rfl ?_
     refine zq tb rfl ?_
     iterate 5 refine zs rfl rfl ?_
     refine zt rfl rfl ?_
     exact AO.done (M22 true (Sh.some_eq h2).symm _ (Wk.tr rfl))
    ·refine zg tb b45 rfl ?_
     iterate 2 refine zg tb b45 rfl ?_
     obtain ⟨q46, gq46, h2⟩ := Sh.bind_some h2
     refine zd b45 hb102 (impl_allTypes_ok gq46) rfl rfl rfl rfl ?_
     refine zg tb b45 rfl ?_
     refine zf b45 rfl ?_
     refine zq tb rfl ?_
     rcases Sh.ite_some h2 with ⟨b47, h2⟩ | ⟨b47, h2⟩
     ·refine zs b47 rfl ?_
      iterate 4 refine zs b47 rfl ?_
      refine zt b47 rfl ?_
      exact AO.done (M22 true (Sh.some_eq h2).symm _ (Wk.tr rfl))
     ·refine zg tb b47 rfl ?_
      iterate 2 refine zg tb b47 rfl ?_
      obtain ⟨q48, gq48, h2⟩ := Sh.bind_some h2
      refine zd b47 hb103 (impl_isType_ok gq48) rfl rfl rfl rfl ?_
      refine zg tb b47 rfl ?_
      refine zf b47 rfl ?_
      exact AO.done (M22 (!q48) (Sh.some_eq h2).symm _ (Wk.tr rfl))
   ·intro b15 h1
    exact AW.exit (M11 () (Sh.some_eq h1).symm _ (Wk.tr rfl))
 refine AW.regionO (by rfl) ?_
 refine zq tb rfl ?_
 obtain ⟨q49, gq49, h1⟩ := Sh.bind_some h1
 refine zc hb101 (impl_ValidTypes_ok gq49) rfl rfl rfl ?_
 iterate 2 refine zq tb rfl ?_
 rcases Sh.ite_some h1 with ⟨b50, h1⟩ | ⟨b50, h1⟩
 ·refine zs b50 rfl ?_
  iterate 2 refine zs b50 rfl ?_
  refine zt b50 rfl ?_
  refine zq tb rfl ?_
  iterate 3 refine zs rfl rfl ?_
  refine zt rfl rfl ?_
  refine zq tb rfl ?_
  iterate 6 refine zs rfl rfl ?_
  refine zt rfl rfl ?_
  refine zq tb rfl ?_
  iterate 5 refine zs rfl rfl ?_
  refine zt rfl rfl ?_
  exact AO.done (M5 true (Sh.some_eq h1).symm _ (Wk.tr rfl))
 ·refine zg tb b50 rfl ?_
  refine ao_q (v := (i64 (Sh.len p1))) (go1 rfl rfl b50) rfl (aq_lens sl97 rfl) ?_
  refine zg tb b50 rfl ?_
  refine zf b50 rfl ?_
  refine zq tb rfl ?_
  rcases Sh.ite_some h1 with ⟨b51, h1⟩ | ⟨b51, h1⟩
  ·refine zs b51 rfl ?_
   iterate 2 refine zs b51 rfl ?_
   refine zt b51 rfl ?_
   refine zq tb rfl ?_
   iterate 6 refine zs rfl rfl ?_
   refine zt rfl rfl ?_
   refine zq tb rfl ?_
   iterate 5 refine zs rfl rfl ?_
   refine zt rfl rfl ?_
   exact AO.done (M5 true (Sh.some_eq h1).symm _ (Wk.tr rfl))
  ·refine zg tb b51 rfl ?_
   refine ao_q (v := (i64 (Sh.len p1))) (go1 rfl rfl b51) rfl (aq_lens sl97 rfl) ?_
   refine zg tb b51 rfl ?_
   refine zf b51 rfl ?_
   refine zq tb rfl ?_
   rcases Sh.ite_some h1 with ⟨b52, h1⟩ | ⟨b52, h1⟩
   ·refine zs b52 rfl ?_
    iterate 5 refine zs b52 rfl ?_
    refine zt b52 rfl ?_
    refine zq tb rfl ?_
    iterate 5 refine zs rfl rfl ?_
    refine zt rfl rfl ?_
    exact AO.done (M5 true (Sh.some_eq h1).symm _ (Wk.tr rfl))
   ·refine zg tb b52 rfl ?_
    obtain ⟨c53, gc53, h1⟩ := Sh.bind_some h1
    refine ao_q (v := (.iptr (eRSignature c53) 0)) (go1 rfl rfl b52) rfl (aq_ixs ei97 rfl rfl gc53 rfl) ?_
    iterate 2 refine zg tb b52 rfl ?_
    refine ao_q (v := (i64 (Sh.len c53.params))) (go1 rfl rfl b52) rfl (aq_lens sl27 rfl) ?_
    refine zg tb b52 rfl ?_
    refine zf b52 rfl ?_
    refine zq tb rfl ?_
    rcases Sh.ite_some h1 with ⟨b54, h1⟩ | ⟨b54, h1⟩
    ·refine zs b54 rfl ?_
     iterate 4 refine zs b54 rfl ?_
     refine zt b54 rfl ?_
     exact AO.done (M5 true (Sh.some_eq h1).symm _ (Wk.tr rfl))
    ·refine zg tb b54 rfl ?_
     refine ao_q (v := (.iptr (eRSignature c53) 0)) (go1 rfl rfl b54) rfl (aq_ixs ei97 rfl rfl gc53 rfl) ?_
     iterate 3 refine zg tb b54 rfl ?_
     refine zf b54 rfl ?_
     exact AO.done (M5 (!decide (c53.result = 0)) (Sh.some_eq h1).symm _ (Wk.tr rfl))
theorem impl_imageSigs_ok {N : Nat} {p0 : RImage} {r : RSignatures × Bool} (h0 : impl_imageSigs N p0 = some r) : ACalls Try.prog 56 [(.agg (eRImage p0))] [] (fun v st => v = (.tup [(.agg (eRSignatures r.1)), (.bool r.2)]) ∧ st = []) := by
 unfold impl_imageSigs at h0
 refine ACalls.flat rfl ?_
 refine ACalls.intro Try.func56 rfl (by show 1 ≤ 41; decide) ?_
 show AW _ 0 _ (aret _ 0 Try.f56 _) ⟨41, _, _⟩
 refine AW.weaken (Wk.to (L := [(0, (.agg (eRImage p0)))]) ⟨.rfl, trivial⟩) ?_
 refine sr rfl fun K1 hK1 => ?_
 refine ao_box (m := 0) (st' := [⟨0, 32, 2, [(eRImage p0)]⟩]) go0 rfl rfl rfl rfl rfl ?_
 refine ao_alloc (m := 1) (st' := [⟨0, 32, 2, [(eRImage p0)]⟩, ⟨0, 99, 2, [[.zc, .zc]]⟩]) go0 zi99 rfl rfl ?_
 refine zq tb rfl ?_
 refine dn hK1 rfl ?_
 refine AW.seq fun K2 hK2 => ?_
 refine sr rfl fun K3 hK3 => ?_
 iterate 2 refine zq tb rfl ?_
 refine zl tb rfl rfl ?_
 refine zq tb rfl ?_
 refine dn hK3 rfl ?_
 refine ci h0 rfl ?_ ?_ <;> clear h0
 ·intro b4 h0
  refine sr rfl fun K5 hK5 => ?_
  refine zz (.agg [.zc, .zc]) (aq_bd ai99 bi99 zi99 rfl rfl) rfl ?_
  refine ao_str (st' := [⟨0, 32, 2, [(eRImage p0)]⟩, ⟨0, 99, 2, [[.zc, .zc]]⟩]) go0 ti99 rfl rfl rfl rfl rfl rfl (show 0 + 2 ≤ 2 by decide) rfl ?_
  refine zq tb rfl ?_
  refine dn hK5 rfl ?_
  replace h0 := Sh.some_eq h0
  subst r
  exact AW.ret (Exists.intro _ (And.intro ((((Wk.cellLe (id := 1) (cs := [.zc, .zc]) (cs' := [(.sl (List.map eRDecl [])), .zc]) (st' := [⟨0, 32, 2, [(eRImage p0)]⟩, ⟨0, 99, 2, [[(.sl (List.map eRDecl [])), .zc]]⟩]) rfl ⟨le.zc, le.rfl, trivial⟩ rfl rfl).trans (Wk.cellLe (id := 1) (cs := [(.sl (List.map eRDecl [])), .zc]) (cs' := [(.sl (List.map eRDecl [])), (.sl (List.map eRSignature []))]) (st' := [⟨0, 32, 2, [(eRImage p0)]⟩, ⟨0, 99, 2, [[(.sl (List.map eRDecl [])), (.sl (List.map eRSignature []))]]⟩]) rfl ⟨le.rfl, le.zc, trivial⟩ rfl rfl)).trans (Wk.permk (L := [(2, (.ptr 0 0 0 0)), (3, (.bool false))]) (st' := [⟨0, 99, 2, [[(.sl (List.map eRDecl [])), (.sl (List.map eRSignature []))]]⟩]) (st1 := [⟨0, 99, 2, [[(.sl (List.map eRDecl [])), (.sl (List.map eRSignature []))]]⟩]) [1] rfl .nil (by decide) rfl rfl (.raw rfl rfl .nil) ⟨.rfl, .rfl, trivial⟩)).trans (Wk.to (L := [(2, (.ptr 0 0 0 0)), (3, (.bool false))]) ⟨.rfl, .rfl, trivial⟩)) (aq_ldpa (x := .tmp 2) (off := 0) (cs := [(.sl (List.map eRDecl [])), (.sl (List.map eRSignature []))]) (vs := [(.sl (List.map eRDecl [])), (.sl (List.map eRSignature []))]) ti99 rfl rfl rfl (show 0 + 2 ≤ 2 by decide) rfl _ rfl)))
 ·intro b4 h0
  refine AW.skip (hK2 _ ?_)
  refine sr rfl fun K6 hK6 => ?_
  iterate 2 refine zq tb rfl ?_
  refine zz (.agg [(.sl (List.map eRDecl p0.decls)), .zc]) (aq_bd ai99 bi99 zi99 rfl rfl) rfl ?_
  refine ao_alloc (m := 2) (st' := [⟨0, 32, 2, [(eRImage p0)]⟩, ⟨0, 99, 2, [[.zc, .zc]]⟩, ⟨0, 99, 2, [[.zc, .zc]]⟩]) go0 zi99 rfl rfl ?_
  refine ao_str (st' := [⟨0, 32, 2, [(eRImage p0)]⟩, ⟨0, 99, 2, [[.zc, .zc]]⟩, ⟨0, 99, 2, [[(.sl (List.map eRDecl p0.decls)), .zc]]⟩]) go0 ti99 rfl rfl rfl rfl rfl rfl (show 0 + 2 ≤ 2 by decide) rfl ?_
  refine dn hK6 rfl ?_
  refine AW.seq fun K7 hK7 => ?_
  refine sr rfl fun K8 hK8 => ?_
  iterate 2 refine zq tb rfl ?_
  refine zl tb rfl rfl ?_
  refine zq tb rfl ?_
  refine dn hK8 rfl ?_
  obtain ⟨o12, h1, h0⟩ := Sh.bind_some h0
  have M12 : ∀ (l11 : (List RSignature)), o12 = l11 → ∀ s, Wk 0 s ⟨41, envL [(1, (.ptr 0 0 0 0)), (2, (.ptr 1 0 0 0)), (4, (.ptr 2 0 0 0))], [⟨0, 32, 2, [(eRImage p0)]⟩, ⟨0, 99, 2, [[.zc, .zc]]⟩, ⟨0, 99, 2, [[(.sl (List.map eRDecl p0.decls)), (.own 3 0 (List.length l11))]]⟩, ⟨0, 132, 3, List.map eRSignature l11⟩]⟩ → K7 s := by
   intro l11 hq s hw
   subst o12
   try dsimp only at h0
   refine hK7 _ (AW.weaken hw ?_)
   refine AW.seq fun K13 hK13 => ?_
   refine AW.drawTailO 6 (by kernel_rfl) (by kernel_rfl) (by rfl) ?_
   iterate 5 refine yq tb rfl ?_
   obtain ⟨q14, gq14, h0⟩ := Sh.bind_some h0
   refine d_callb (v' := (.bool q14)) go0 hb81 (impl_validSigs_ok gq14) rfl (.val rfl (.own rfl rfl (fun _ => rfl) .nil)) rfl rfl ?_
   refine d_done ?_
   refine AO.weaken (Wk.frz (L := [(2, (.ptr 1 0 0 0)), (35, (.agg [(.sl (List.map eRDecl p0.decls)), (.sl (List.map eRSignature l11))])), (40, (.bool q14))]) (st' := [⟨0, 32, 2, [(eRImage p0)]⟩, ⟨0, 99, 2, [[.zc, .zc]]⟩, ⟨0, 99, 2, [[(.sl (List.map eRDecl p0.decls)), (.own 3 0 (List.length l11))]]⟩, ⟨1, 132, 3, []⟩]) (id := 3) rfl (show 0 ≤ 3 by decide) (pure_map fun _ => rfl) ⟨.rfl, (.agg ⟨.rfl, (.frz1 rfl), trivial⟩), .rfl, trivial⟩ rfl) ?_
   refine ao_str (st' := [⟨0, 32, 2, [(eRImage p0)]⟩, ⟨0, 99, 2, [[(.sl (List.map eRDecl p0.decls)), (.sl (List.map eRSignature l11))]]⟩, ⟨0, 99, 2, [[(.sl (List.map eRDecl p0.decls)), (.own 3 0 (List.length l11))]]⟩, ⟨1, 132, 3, []⟩]) go0 ti99 rfl rfl rfl rfl rfl rfl (show 0 + 2 ≤ 2 by decide) rfl ?_
   refine zq tb rfl ?_
   refine dn hK13 rfl ?_
   replace h0 := Sh.some_eq h0
   subst r
   exact AW.ret (Exists.intro _ (And.intro ((Wk.permk (L := [(2, (.ptr 0 0 0 0)), (3, (.bool q14))]) (st' := [⟨0, 99, 2, [[(.sl (List.map eRDecl p0.decls)), (.sl (List.map eRSignature l11))]]⟩]) (st1 := [⟨0, 99, 2, [[(.sl (List.map eRDecl p0.decls)), (.sl (List.map eRSignature l11))]]⟩]) [1] rfl .nil (by decide) rfl rfl (.raw rfl rfl .nil) ⟨.rfl, .rfl, trivial⟩).trans (Wk.to (L := [(2, (.ptr 0 0 0 0)), (3, (.bool q14))]) ⟨.rfl, .rfl, trivial⟩)) (aq_ldpa (x := .tmp 2) (off := 0) (cs := [(.sl (List.map eRDecl p0.decls)), (.sl (List.map eRSignature l11))]) (vs := [(.sl (List.map eRDecl p0.decls)), (.sl (List.map eRSignature l11))]) ti99 rfl rfl rfl (show 0 + 2 ≤ 2 by decide) rfl _ rfl)))
  refine AW.block (AW.loopF (σ := Int × (List RSignature)) (fun n v => impl_imageSigs_L1 p0 n v.1 v.2 = some o12) (fun (t9, l10) => ⟨41, envL [(1, (.ptr 0 0 0 0)), (2, (.ptr 1 0 0 0)), (4, (.ptr 2 0 0 0)), (16, (.sl (List.map eRProc p0.procs))), (17, (i64 (Sh.len p0.procs))), (18, (i64 t9))], [⟨0, 32, 2, [(eRImage p0)]⟩, ⟨0, 99, 2, [[.zc, .zc]]⟩, ⟨0, 99, 2, [[(.sl (List.map eRDecl p0.decls)), (.own 3 0 (List.length l10))]]⟩, ⟨0, 132, 3, List.map eRSignature l10⟩]⟩) N (0, []) h1 (by refine Wk.trans (Wk.adoptC (id := 2) (st' := [⟨0, 32, 2, [(eRImage p0)]⟩, ⟨0, 99, 2, [[.zc, .zc]]⟩, ⟨0, 99, 2, [[(.sl (List.map eRDecl p0.decls)), (.own 3 0 (List.length ([] : List RSignature)))]]⟩, ⟨0, 132, 3, List.map eRSignature ([] : List RSignature)⟩]) (j := 1) rfl rfl 132 (size' := 3) (by decide) rfl rfl rfl rfl) ?_; exact Wk.tr rfl) (fun _ hv => by rw [impl_imageSigs_L1] at hv; cases hv) ?_)
  rintro n ⟨t9, l10⟩ h1
  try dsimp only at h1 ⊢
  rw [impl_imageSigs_L1] at h1
  refine sr rfl fun K15 hK15 => ?_
  refine zq tb rfl ?_
  refine dn hK15 rfl ?_
  refine AW.seq fun K16 hK16 => ?_
  refine ci h1 rfl ?_ ?_ <;> clear h1
  ·intro b17 h1
   refine AW.skip (hK16 _ ?_)
   refine AW.seq fun K18 hK18 => ?_
   refine AW.block ?_
   refine sr rfl fun K19 hK19 => ?_
   obtain ⟨c20, gc20, h1⟩ := Sh.bind_some h1
   refine zx ei30 gc20 rfl rfl rfl ?_
   refine zq tb rfl ?_
   refine ao_alloc (m := 4) (st' := [⟨0, 32, 2, [(eRImage p0)]⟩, ⟨0, 99, 2, [[.zc, .zc]]⟩, ⟨0, 99, 2, [[(.sl (List.map eRDecl p0.decls)), (.own 3 0 (List.length l10))]]⟩, ⟨0, 132, 3, List.map eRSignature l10⟩, ⟨0, 55, 5, [[.zc, .zc, (i64 0), (i64 0), .zc]]⟩]) go0 zi55 rfl rfl ?_
   refine ao_str (st' := [⟨0, 32, 2, [(eRImage p0)]⟩, ⟨0, 99, 2, [[.zc, .zc]]⟩, ⟨0, 99, 2, [[(.sl (List.map eRDecl p0.decls)), (.own 3 0 (List.length l10))]]⟩, ⟨0, 132, 3, List.map eRSignature l10⟩, ⟨0, 55, 5, [(eRProc c20)]⟩]) go0 ti55 rfl rfl rfl rfl rfl rfl (show 0 + 5 ≤ 5 by decide) rfl ?_
   refine dn hK19 rfl ?_
   refine AW.regionO (by rfl) ?_
   iterate 8 refine zq tb rfl ?_
   refine zz (.agg [(.sl (List.map eI c20.params)), (.sl (List.map eI c20.lent)), (i64 c20.result)]) (aq_bd ai132 bi132 zi132 rfl rfl) rfl ?_
   refine ao_bs (m := 5) (st' := [⟨0, 32, 2, [(eRImage p0)]⟩, ⟨0, 99, 2, [[.zc, .zc]]⟩, ⟨0, 99, 2, [[(.sl (List.map eRDecl p0.decls)), (.own 3 0 (List.length l10))]]⟩, ⟨0, 132, 3, List.map eRSignature l10⟩, ⟨0, 55, 5, [(eRProc c20)]⟩, ⟨0, 132, 3, List.map eRSignature [(RSignature.mk c20.params c20.lent c20.result)]⟩]) (l := [(RSignature.mk c20.params c20.lent c20.result)]) (enc := eRSignature) go0 ei97 (by decide) rfl rfl rfl rfl rfl rfl ?_
   obtain ⟨l21, gl21, h1⟩ := Sh.bind_some h1
   refine ao_apo (st' := [⟨0, 32, 2, [(eRImage p0)]⟩, ⟨0, 99, 2, [[.zc, .zc]]⟩, ⟨0, 99, 2, [[(.sl (List.map eRDecl p0.decls)), (.own 3 0 (List.length l10))]]⟩, ⟨1, 132, 3, List.map eRSignature l21⟩, ⟨0, 55, 5, [(eRProc c20)]⟩, ⟨0, 132, 3, List.map eRSignature [(RSignature.mk c20.params c20.lent c20.result)]⟩]) (l2 := [(RSignature.mk c20.params c20.lent c20.result)]) go0 ei97 rfl rfl rfl rfl (el_o rfl rfl) (fun _ => rfl) gl21 rfl ?_
   refine zq tb rfl ?_
   refine ao_str (st' := [⟨0, 32, 2, [(eRImage p0)]⟩, ⟨0, 99, 2, [[.zc, .zc]]⟩, ⟨0, 99, 2, [[(.sl (List.map eRDecl p0.decls)), (.own 3 1 (List.length l21))]]⟩, ⟨1, 132, 3, List.map eRSignature l21⟩, ⟨0, 55, 5, [(eRProc c20)]⟩, ⟨0, 132, 3, List.map eRSignature [(RSignature.mk c20.params c20.lent c20.result)]⟩]) go0 ti97 rfl rfl rfl rfl rfl rfl (show 1 + 1 ≤ 2 by decide) rfl ?_
   refine dn hK18 rfl ?_
   refine AW.regionO (by rfl) ?_
   iterate 2 refine zq tb rfl ?_
   exact AO.done (xi (Sh.w (t9 + 1), l21) h1 (by refine Wk.trans (Wk.rg (L := [(1, (.ptr 0 0 0 0)), (2, (.ptr 1 0 0 0)), (4, (.ptr 2 0 0 0)), (16, (.sl (List.map eRProc p0.procs))), (17, (i64 (Sh.len p0.procs))), (18, (i64 (Sh.w (t9 + 1))))]) (st' := [⟨0, 32, 2, [(eRImage p0)]⟩, ⟨0, 99, 2, [[.zc, .zc]]⟩, ⟨0, 99, 2, [[(.sl (List.map eRDecl p0.decls)), (.own 3 0 (List.length l21))]]⟩, ⟨0, 132, 3, List.map eRSignature l21⟩, ⟨0, 55, 5, [(eRProc c20)]⟩, ⟨0, 132, 3, List.map eRSignature [(RSignature.mk c20.params c20.lent c20.result)]⟩]) (.raw rfl rfl (.raw rfl rfl (.raw rfl rfl (.pure (pure_map fun _ => rfl) (.raw rfl rfl (.pure (pure_map fun _ => rfl) .nil)))))) ⟨.rfl, .rfl, .rfl, .rfl, .rfl, .rfl, trivial⟩) ?_; exact Wk.permk (L := [(1, (.ptr 0 0 0 0)), (2, (.ptr 1 0 0 0)), (4, (.ptr 2 0 0 0)), (16, (.sl (List.map eRProc p0.procs))), (17, (i64 (Sh.len p0.procs))), (18, (i64 (Sh.w (t9 + 1))))]) (st' := [⟨0, 32, 2, [(eRImage p0)]⟩, ⟨0, 99, 2, [[.zc, .zc]]⟩, ⟨0, 99, 2, [[(.sl (List.map eRDecl p0.decls)), (.own 3 0 (List.length l21))]]⟩, ⟨0, 132, 3, List.map eRSignature l21⟩]) (st1 := [⟨0, 32, 2, [(eRImage p0)]⟩, ⟨0, 99, 2, [[.zc, .zc]]⟩, ⟨0, 99, 2, [[(.sl (List.map eRDecl p0.decls)), (.own 3 0 (List.length l21))]]⟩, ⟨0, 132, 3, List.map eRSignature l21⟩]) [0, 1, 2, 3] rfl .nil (by decide) rfl rfl (.raw rfl rfl (.raw rfl rfl (.raw rfl rfl (.pure (pure_map fun _ => rfl) .nil)))) ⟨.rfl, .rfl, .rfl, .rfl, .rfl, .rfl, trivial⟩))
  ·intro b17 h1
   exact AW.exit (M12 l10 (Sh.some_eq h1).symm _ (Wk.tr rfl))
theorem impl_setsRegister_ok {p0 : Int} {r : Bool} (h0 : impl_setsRegister p0 = some r) : ACalls Try.prog 66 [(i64 p0)] [] (fun v st => v = (.bool r) ∧ st = []) := by
 unfold impl_setsRegister at h0
 refine ACalls.intro Try.func66 rfl (by show 1 ≤ 17; decide) ?_
 show AW _ 0 _ (aret _ 0 Try.f66 _) ⟨17, _, _⟩
 refine AW.weaken (Wk.to (L := [(0, (i64 p0))]) ⟨.rfl, trivial⟩) ?_
 refine sr rfl fun K1 hK1 => ?_
 refine zq tb rfl ?_
 refine dn hK1 rfl ?_
 refine AW.seq fun K2 hK2 => ?_
 obtain ⟨o4, h1, h0⟩ := Sh.bind_some h0
 have M4 : ∀ (t3 : Bool), o4 = t3 → ∀ s, Wk 0 s ⟨17, envL [(2, (.bool t3))], []⟩ → K2 s := by
  intro t3 hq s hw
  subst o4
  try dsimp only at h0
  refine hK2 _ (AW.weaken hw ?_)
  replace h0 := Sh.some_eq h0
  subst r
  exact AW.ret (xr (Wk.to (L := [(2, (.bool t3))]) ⟨.rfl, trivial⟩))
 refine AW.regionO (by rfl) ?_
 iterate 3 refine zq tb rfl ?_
 rcases Sh.ite_some h1 with ⟨b5, h1⟩ | ⟨b5, h1⟩
 ·refine zg tb b5 rfl ?_
  refine zg tb b5 rfl ?_
  refine zt b5 rfl ?_
  refine zq tb rfl ?_
  rcases Sh.ite_some h1 with ⟨b6, h1⟩ | ⟨b6, h1⟩
  ·refine zs b6 rfl ?_
   refine zs b6 rfl ?_
   refine zt b6 rfl ?_
   refine zq tb rfl ?_
   iterate 2 refine zs rfl rfl ?_
   refine zt rfl rfl ?_
   refine zq tb rfl ?_
   exact AO.done (M4 true (Sh.some_eq h1).symm _ (Wk.tr rfl))
  ·refine zg tb b6 rfl ?_
   refine zg tb b6 rfl ?_
   refine zf b6 rfl ?_
   refine zq tb rfl ?_
   rcases Sh.ite_some h1 with ⟨b7, h1⟩ | ⟨b7, h1⟩
   ·refine zs b7 rfl ?_
    refine zs b7 rfl ?_
    refine zt b7 rfl ?_
    refine zq tb rfl ?_
    exact AO.done (M4 true (Sh.some_eq h1).symm _ (Wk.tr rfl))
   ·refine zg tb b7 rfl ?_
    refine zg tb b7 rfl ?_
    refine zf b7 rfl ?_
    refine zq tb rfl ?_
    exact AO.done (M4 (decide (p0 = 19)) (Sh.some_eq h1).symm _ (Wk.tr rfl))
 ·refine zs b5 rfl ?_
  refine zs b5 rfl ?_
  refine zf b5 rfl ?_
  refine zq tb rfl ?_
  iterate 2 refine zg tb rfl rfl ?_
  refine zf rfl rfl ?_
  refine zq tb rfl ?_
  rcases Sh.ite_some h1 with ⟨b8, h1⟩ | ⟨b8, h1⟩
  ·refine zs b8 rfl ?_
   refine zs b8 rfl ?_
   refine zt b8 rfl ?_
   refine zq tb rfl ?_
   exact AO.done (M4 true (Sh.some_eq h1).symm _ (Wk.tr rfl))
  ·refine zg tb b8 rfl ?_
   refine zg tb b8 rfl ?_
   refine zf b8 rfl ?_
   refine zq tb rfl ?_
   exact AO.done (M4 (decide (p0 = 19)) (Sh.some_eq h1).symm _ (Wk.tr rfl))
theorem impl_signatures_instrValid_1_ok {s0_0 : Int} {s1_0 : (List Int)} {s1_1 : (List Int)} {s1_2 : Int} {s1_3 : Int} {s1_4 : (List RInstr)} {p0 : Int} {r : Bool} (h0 : impl_signatures_instrValid_1 s0_0 s1_0 s1_1 s1_2 s1_3 s1_4 p0 = some r) : ACalls Try.prog 82 [(i64 p0), (.ptr 0 0 0 0), (.ptr 1 0 0 0)] [⟨0, 3, 1, [[(i64 s0_0)]]⟩, ⟨0, 55, 5, [[(.sl (List.map eI s1_0)), (.sl (List.map eI s1_1)), (i64 s1_2), (i64 s1_3), (.sl (List.map eRInstr s1_4))]]⟩] (fun v st => v = (.bool r) ∧ st = [⟨0, 3, 1, [[(i64 s0_0)]]⟩, ⟨0, 55, 5, [[(.sl (List.map eI s1_0)), (.sl (List.map eI s1_1)), (i64 s1_2), (i64 s1_3), (.sl (List.map eRInstr s1_4))]]⟩]) := by
 unfold impl_signatures_instrValid_1 at h0
 refine ACalls.intro Try.func82 rfl (by show 3 ≤ 15; decide) ?_
 show AW _ 2 _ (aret _ 2 Try.f82 _) ⟨15, _, _⟩
 refine AW.weaken (Wk.to (L := [(0, (i64 p0)), (1, (.ptr 0 0 0 0)), (2, (.ptr 1 0 0 0))]) ⟨.rfl, .rfl, .rfl, trivial⟩) ?_
 refine sr rfl fun K1 hK1 => ?_
 refine zq tb rfl ?_
 refine dn hK1 rfl ?_
 refine AW.seq fun K2 hK2 => ?_
 obtain ⟨o4, h1, h0⟩ := Sh.bind_some h0
 have M4 : ∀ (t3 : Bool), o4 = t3 → ∀ s, Wk 2 s ⟨15, envL [(4, (.bool t3))], [⟨0, 3, 1, [[(i64 s0_0)]]⟩, ⟨0, 55, 5, [[(.sl (List.map eI s1_0)), (.sl (List.map eI s1_1)), (i64 s1_2), (i64 s1_3), (.sl (List.map eRInstr s1_4))]]⟩]⟩ → K2 s := by
  intro t3 hq s hw
  subst o4
  try dsimp only at h0
  refine hK2 _ (AW.weaken hw ?_)
  replace h0 := Sh.some_eq h0
  subst r
  exact AW.ret (xr (Wk.to (L := [(4, (.bool t3))]) ⟨.rfl, trivial⟩))
 refine AW.regionO (by rfl) ?_
 iterate 4 refine zq tb rfl ?_
 rcases Sh.ite_some h1 with ⟨b5, h1⟩ | ⟨b5, h1⟩
 ·refine zg tb b5 rfl ?_
  iterate 2 refine zg tb b5 rfl ?_
  refine ao_q (v := (i64 (Sh.len s1_4))) (go1 rfl rfl b5) rfl (aq_lens sl53 rfl) ?_
  refine zg tb b5 rfl ?_
  refine zt b5 rfl ?_
  refine zq tb rfl ?_
  exact AO.done (M4 (decide (p0 < (Sh.len s1_4))) (Sh.some_eq h1).symm _ (Wk.tr rfl))
 ·refine zs b5 rfl ?_
  iterate 4 refine zs b5 rfl ?_
  refine zf b5 rfl ?_
  refine zq tb rfl ?_
  exact AO.done (M4 false (Sh.some_eq h1).symm _ (Wk.tr rfl))
theorem impl_signatures_instrValid_2_ok {s1_0 : Int} {s2_0 : (List Int)} {s2_1 : (List Int)} {s2_2 : Int} {s2_3 : Int} {s2_4 : (List RInstr)} {p0 : Int} {r : Bool} (h0 : impl_signatures_instrValid_2 s1_0 s2_0 s2_1 s2_2 s2_3 s2_4 p0 = some r) : ACalls Try.prog 84 [(i64 p0), (.ptr 0 0 0 0)] [⟨0, 108, 1, [[(.fn 82 [(.ptr 1 0 0 0), (.ptr 2 0 0 0)])]]⟩, ⟨0, 3, 1, [[(i64 s1_0)]]⟩, ⟨0, 55, 5, [[(.sl (List.map eI s2_0)), (.sl (List.map eI s2_1)), (i64 s2_2), (i64 s2_3), (.sl (List.map eRInstr s2_4))]]⟩] (fun v st => v = (.bool r) ∧ st = [⟨0, 108, 1, [[(.fn 82 [(.ptr 1 0 0 0), (.ptr 2 0 0 0)])]]⟩, ⟨0, 3, 1, [[(i64 s1_0)]]⟩, ⟨0, 55, 5, [[(.sl (List.map eI s2_0)), (.sl (List.map eI s2_1)), (i64 s2_2), (i64 s2_3), (.sl (List.map eRInstr s2_4))]]⟩]) := by
 unfold impl_signatures_instrValid_2 at h0
 refine ACalls.intro Try.func84 rfl (by show 2 ≤ 8; decide) ?_
 show AW _ 3 _ (aret _ 3 Try.f84 _) ⟨8, _, _⟩
 refine AW.weaken (Wk.to (L := [(0, (i64 p0)), (1, (.ptr 0 0 0 0))]) ⟨.rfl, .rfl, trivial⟩) ?_
 refine sr rfl fun K1 hK1 => ?_
 refine zq tb rfl ?_
 refine dn hK1 rfl ?_
 refine sr rfl fun K2 hK2 => ?_
 iterate 2 refine zq tb rfl ?_
 obtain ⟨q3, gq3, h0⟩ := Sh.bind_some h0
 refine ao_callst (rowsP := [⟨0, 3, 1, [[(i64 s1_0)]]⟩, ⟨0, 55, 5, [[(.sl (List.map eI s2_0)), (.sl (List.map eI s2_1)), (i64 s2_2), (i64 s2_3), (.sl (List.map eRInstr s2_4))]]⟩]) (rows0 := [⟨0, 3, 1, [[(i64 s1_0)]]⟩, ⟨0, 55, 5, [[(.sl (List.map eI s2_0)), (.sl (List.map eI s2_1)), (i64 s2_2), (i64 s2_3), (.sl (List.map eRInstr s2_4))]]⟩]) (rows1 := [⟨0, 3, 1, [[(i64 s1_0)]]⟩, ⟨0, 55, 5, [[(.sl (List.map eI s2_0)), (.sl (List.map eI s2_1)), (i64 s2_2), (i64 s2_3), (.sl (List.map eRInstr s2_4))]]⟩]) (rows2 := []) (rows1' := [⟨0, 3, 1, [[(i64 s1_0)]]⟩, ⟨0, 55, 5, [[(.sl (List.map eI s2_0)), (.sl (List.map eI s2_1)), (i64 s2_2), (i64 s2_3), (.sl (List.map eRInstr s2_4))]]⟩]) (rows2' := []) (st' := [⟨0, 108, 1, [[(.fn 82 [(.ptr 1 0 0 0), (.ptr 2 0 0 0)])]]⟩, ⟨0, 3, 1, [[(i64 s1_0)]]⟩, ⟨0, 55, 5, [[(.sl (List.map eI s2_0)), (.sl (List.map eI s2_1)), (i64 s2_2), (i64 s2_3), (.sl (List.map eRInstr s2_4))]]⟩]) (v' := (.bool q3)) [1, 2] go0 rfl hb82 (impl_signatures_instrValid_1_ok gq3) rfl (by decide) rfl rfl (.raw rfl rfl (.raw rfl rfl .nil)) rfl rfl (.raw rfl rfl (.raw rfl rfl .nil)) .nil rfl rfl ?_
 iterate 2 refine zq tb rfl ?_
 refine dn hK2 rfl ?_
 replace h0 := Sh.some_eq h0
 subst r
 exact AW.ret (xr (Wk.to (L := [(3, (.bool (!q3)))]) ⟨.rfl, trivial⟩))
theorem slices_IndexFunc_int_int_ok {N : Nat} {s1_0 : Int} {s2_0 : (List Int)} {s2_1 : (List Int)} {s2_2 : Int} {s2_3 : Int} {s2_4 : (List RInstr)} {p0 : (List Int)} {r : Int} (h0 : slices_IndexFunc_int_int N s1_0 s2_0 s2_1 s2_2 s2_3 s2_4 p0 = some r) : ACalls Try.prog 104 [(.sl (List.map eI p0)), (.fn 84 [(.ptr 0 0 0 0)])] [⟨0, 108, 1, [[(.fn 82 [(.ptr 1 0 0 0), (.ptr 2 0 0 0)])]]⟩, ⟨0, 3, 1, [[(i64 s1_0)]]⟩, ⟨0, 55, 5, [[(.sl (List.map eI s2_0)), (.sl (List.map eI s2_1)), (i64 s2_2), (i64 s2_3), (.sl (List.map eRInstr s2_4))]]⟩] (fun v st => v = (i64 r) ∧ st = [⟨0, 108, 1, [[(.fn 82 [(.ptr 1 0 0 0), (.ptr 2 0 0 0)])]]⟩, ⟨0, 3, 1, [[(i64 s1_0)]]⟩, ⟨0, 55, 5, [[(.sl (List.map eI s2_0)), (.sl (List.map eI s2_1)), (i64 s2_2), (i64 s2_3), (.sl (List.map eRInstr s2_4))]]⟩]) := by
 unfold slices_IndexFunc_int_int at h0
 refine ACalls.intro Try.func104 rfl (by show 2 ≤ 19; decide) ?_
 show AW _ 3 _ (aret _ 3 Try.f104 _) ⟨19, _, _⟩
 refine AW.weaken (Wk.to (L := [(0, (.sl (List.map eI p0))), (1, (.fn 84 [(.ptr 0 0 0 0)]))]) ⟨.rfl, .rfl, trivial⟩) ?_
 refine sr rfl fun K1 hK1 => ?_
 refine zq tb rfl ?_
 refine dn hK1 rfl ?_
 refine AW.seq fun K2 hK2 => ?_
 refine sr rfl fun K3 hK3 => ?_
 refine zq tb rfl ?_
 refine zl tb rfl rfl ?_
 refine zq tb rfl ?_
 refine dn hK3 rfl ?_
 obtain ⟨o5, h1, h0⟩ := Sh.cont_some h0
 have M5 : ∀ (_ : Unit), o5 = Sum.inr () → ∀ s, Wk 3 s ⟨19, envL [], [⟨0, 108, 1, [[(.fn 82 [(.ptr 1 0 0 0), (.ptr 2 0 0 0)])]]⟩, ⟨0, 3, 1, [[(i64 s1_0)]]⟩, ⟨0, 55, 5, [[(.sl (List.map eI s2_0)), (.sl (List.map eI s2_1)), (i64 s2_2), (i64 s2_3), (.sl (List.map eRInstr s2_4))]]⟩]⟩ → K2 s := by
  intro _ hq s hw
  subst o5
  try dsimp only at h0
  refine hK2 _ (AW.weaken hw ?_)
  refine sr rfl fun K6 hK6 => ?_
  refine zq tb rfl ?_
  refine dn hK6 rfl ?_
  replace h0 := Sh.some_eq h0
  subst r
  exact AW.ret (xr (Wk.to (L := [(4, (i64 (-1)))]) ⟨.rfl, trivial⟩))
 refine AW.block (AW.loopF (σ := Int) (fun n v => slices_IndexFunc_int_int_L1 s1_0 s2_0 s2_1 s2_2 s2_3 s2_4 p0 n v = some o5) (fun t4 => ⟨19, envL [(0, (.sl (List.map eI p0))), (1, (.fn 84 [(.ptr 0 0 0 0)])), (7, (i64 (Sh.len p0))), (8, (i64 t4))], [⟨0, 108, 1, [[(.fn 82 [(.ptr 1 0 0 0), (.ptr 2 0 0 0)])]]⟩, ⟨0, 3, 1, [[(i64 s1_0)]]⟩, ⟨0, 55, 5, [[(.sl (List.map eI s2_0)), (.sl (List.map eI s2_1)), (i64 s2_2), (i64 s2_3), (.sl (List.map eRInstr s2_4))]]⟩]⟩) N 0 h1 (Wk.tr rfl) (fun _ hv => by rw [slices_IndexFunc_int_int_L1] at hv; cases hv) ?_)
 rintro n t4 h1
 try dsimp only at h1 ⊢
 rw [slices_IndexFunc_int_int_L1] at h1
 refine sr rfl fun K7 hK7 => ?_
 refine zq tb rfl ?_
 refine dn hK7 rfl ?_
 refine AW.seq fun K8 hK8 => ?_
 refine ci h1 rfl ?_ ?_ <;> clear h1
 ·intro b9 h1
  refine AW.skip (hK8 _ ?_)
  refine AW.seq fun K10 hK10 => ?_
  refine AW.block ?_
  refine sr rfl fun K11 hK11 => ?_
  iterate 2 refine zq tb rfl ?_
  refine dn hK11 rfl ?_
  refine sr rfl fun K12 hK12 => ?_
  iterate 3 refine zq tb rfl ?_
  obtain ⟨c13, gc13, h1⟩ := Sh.bind_some h1
  refine zx ei27 gc13 rfl rfl rfl ?_
  refine zq tb rfl ?_
  obtain ⟨q14, gq14, h1⟩ := Sh.bind_some h1
  refine ao_callst (rowsP := [⟨0, 108, 1, [[(.fn 82 [(.ptr 1 0 0 0), (.ptr 2 0 0 0)])]]⟩, ⟨0, 3, 1, [[(i64 s1_0)]]⟩, ⟨0, 55, 5, [[(.sl (List.map eI s2_0)), (.sl (List.map eI s2_1)), (i64 s2_2), (i64 s2_3), (.sl (List.map eRInstr s2_4))]]⟩]) (rows0 := [⟨0, 108, 1, [[(.fn 82 [(.ptr 1 0 0 0), (.ptr 2 0 0 0)])]]⟩, ⟨0, 3, 1, [[(i64 s1_0)]]⟩, ⟨0, 55, 5, [[(.sl (List.map eI s2_0)), (.sl (List.map eI s2_1)), (i64 s2_2), (i64 s2_3), (.sl (List.map eRInstr s2_4))]]⟩]) (rows1 := [⟨0, 108, 1, [[(.fn 82 [(.ptr 1 0 0 0), (.ptr 2 0 0 0)])]]⟩, ⟨0, 3, 1, [[(i64 s1_0)]]⟩, ⟨0, 55, 5, [[(.sl (List.map eI s2_0)), (.sl (List.map eI s2_1)), (i64 s2_2), (i64 s2_3), (.sl (List.map eRInstr s2_4))]]⟩]) (rows2 := []) (rows1' := [⟨0, 108, 1, [[(.fn 82 [(.ptr 1 0 0 0), (.ptr 2 0 0 0)])]]⟩, ⟨0, 3, 1, [[(i64 s1_0)]]⟩, ⟨0, 55, 5, [[(.sl (List.map eI s2_0)), (.sl (List.map eI s2_1)), (i64 s2_2), (i64 s2_3), (.sl (List.map eRInstr s2_4))]]⟩]) (rows2' := []) (st' := [⟨0, 108, 1, [[(.fn 82 [(.ptr 1 0 0 0), (.ptr 2 0 0 0)])]]⟩, ⟨0, 3, 1, [[(i64 s1_0)]]⟩, ⟨0, 55, 5, [[(.sl (List.map eI s2_0)), (.sl (List.map eI s2_1)), (i64 s2_2), (i64 s2_3), (.sl (List.map eRInstr s2_4))]]⟩]) (v' := (.bool q14)) [0, 1, 2] go0 rfl hb84 (impl_signatures_instrValid_2_ok gq14) rfl (by decide) rfl rfl (.raw rfl rfl (.raw rfl rfl (.raw rfl rfl .nil))) rfl rfl (.raw rfl rfl (.raw rfl rfl (.raw rfl rfl .nil))) .nil rfl rfl ?_
  refine dn hK12 rfl ?_
  refine ci h1 rfl ?_ ?_ <;> clear h1
  ·intro b15 h1
   refine sr rfl fun K16 hK16 => ?_
   iterate 2 refine zq tb rfl ?_
   refine dn hK16 rfl ?_
   replace h1 := Sh.some_eq h1
   subst o5
   try dsimp only [id] at h0
   replace h0 := Sh.some_eq h0
   subst r
   exact AW.ret (xr (Wk.to (L := [(4, (i64 t4))]) ⟨.rfl, trivial⟩))
  ·intro b15 h1
   refine AW.skip (hK10 _ ?_)
   refine AW.regionO (by rfl) ?_
   iterate 2 refine zq tb rfl ?_
   exact AO.done (xi (Sh.w (t4 + 1)) h1 (Wk.tr rfl))
 ·intro b9 h1
  exact AW.exit (M5 () (Sh.some_eq h1).symm _ (Wk.tr rfl))
theorem slices_ContainsFunc_int_int_ok {N : Nat} {s1_0 : Int} {s2_0 : (List Int)} {s2_1 : (List Int)} {s2_2 : Int} {s2_3 : Int} {s2_4 : (List RInstr)} {p0 : (List Int)} {r : Bool} (h0 : slices_ContainsFunc_int_int N s1_0 s2_0 s2_1 s2_2 s2_3 s2_4 p0 = some r) : ACalls Try.prog 83 [(.sl (List.map eI p0)), (.fn 84 [(.ptr 0 0 0 0)])] [⟨0, 108, 1, [[(.fn 82 [(.ptr 1 0 0 0), (.ptr 2 0 0 0)])]]⟩, ⟨0, 3, 1, [[(i64 s1_0)]]⟩, ⟨0, 55, 5, [[(.sl (List.map eI s2_0)), (.sl (List.map eI s2_1)), (i64 s2_2), (i64 s2_3), (.sl (List.map eRInstr s2_4))]]⟩] (fun v st => v = (.bool r) ∧ st = [⟨0, 108, 1, [[(.fn 82 [(.ptr 1 0 0 0), (.ptr 2 0 0 0)])]]⟩, ⟨0, 3, 1, [[(i64 s1_0)]]⟩, ⟨0, 55, 5, [[(.sl (List.map eI s2_0)), (.sl (List.map eI s2_1)), (i64 s2_2), (i64 s2_3), (.sl (List.map eRInstr s2_4))]]⟩]) := by
 unfold slices_ContainsFunc_int_int at h0
 refine ACalls.intro Try.func83 rfl (by show 2 ≤ 9; decide) ?_
 show AW _ 3 _ (aret _ 3 Try.f83 _) ⟨9, _, _⟩
 refine AW.weaken (Wk.to (L := [(0, (.sl (List.map eI p0))), (1, (.fn 84 [(.ptr 0 0 0 0)]))]) ⟨.rfl, .rfl, trivial⟩) ?_
 refine sr rfl fun K1 hK1 => ?_
 refine zq tb rfl ?_
 refine dn hK1 rfl ?_
 refine sr rfl fun K2 hK2 => ?_
 iterate 2 refine zq tb rfl ?_
 obtain ⟨q3, gq3, h0⟩ := Sh.bind_some h0
 refine ao_calls (rowsP := [⟨0, 108, 1, [[(.fn 82 [(.ptr 1 0 0 0), (.ptr 2 0 0 0)])]]⟩, ⟨0, 3, 1, [[(i64 s1_0)]]⟩, ⟨0, 55, 5, [[(.sl (List.map eI s2_0)), (.sl (List.map eI s2_1)), (i64 s2_2), (i64 s2_3), (.sl (List.map eRInstr s2_4))]]⟩]) (rows0 := [⟨0, 108, 1, [[(.fn 82 [(.ptr 1 0 0 0), (.ptr 2 0 0 0)])]]⟩, ⟨0, 3, 1, [[(i64 s1_0)]]⟩, ⟨0, 55, 5, [[(.sl (List.map eI s2_0)), (.sl (List.map eI s2_1)), (i64 s2_2), (i64 s2_3), (.sl (List.map eRInstr s2_4))]]⟩]) (rows1 := [⟨0, 108, 1, [[(.fn 82 [(.ptr 1 0 0 0), (.ptr 2 0 0 0)])]]⟩, ⟨0, 3, 1, [[(i64 s1_0)]]⟩, ⟨0, 55, 5, [[(.sl (List.map eI s2_0)), (.sl (List.map eI s2_1)), (i64 s2_2), (i64 s2_3), (.sl (List.map eRInstr s2_4))]]⟩]) (rows2 := []) (rows1' := [⟨0, 108, 1, [[(.fn 82 [(.ptr 1 0 0 0), (.ptr 2 0 0 0)])]]⟩, ⟨0, 3, 1, [[(i64 s1_0)]]⟩, ⟨0, 55, 5, [[(.sl (List.map eI s2_0)), (.sl (List.map eI s2_1)), (i64 s2_2), (i64 s2_3), (.sl (List.map eRInstr s2_4))]]⟩]) (rows2' := []) (st' := [⟨0, 108, 1, [[(.fn 82 [(.ptr 1 0 0 0), (.ptr 2 0 0 0)])]]⟩, ⟨0, 3, 1, [[(i64 s1_0)]]⟩, ⟨0, 55, 5, [[(.sl (List.map eI s2_0)), (.sl (List.map eI s2_1)), (i64 s2_2), (i64 s2_3), (.sl (List.map eRInstr s2_4))]]⟩]) (v' := (i64 q3)) [0, 1, 2] go0 hb104 (slices_IndexFunc_int_int_ok gq3) rfl (by decide) rfl rfl (.raw rfl rfl (.raw rfl rfl (.raw rfl rfl .nil))) rfl rfl (.raw rfl rfl (.raw rfl rfl (.raw rfl rfl .nil))) .nil rfl rfl ?_
 iterate 2 refine zq tb rfl ?_
 refine dn hK2 rfl ?_
 replace h0 := Sh.some_eq h0
 subst r
 exact AW.ret (xr (Wk.to (L := [(4, (.bool (decide (0 ≤ q3))))]) ⟨.rfl, trivial⟩))
theorem impl_conCount_ok {N : Nat} {p0 : (List RDecl)} {r : Int} (h0 : impl_conCount N p0 = some r) : ACalls Try.prog 105 [(.sl (List.map eRDecl p0))] [] (fun v st => v = (i64 r) ∧ st = []) := by
 unfold impl_conCount at h0
 refine ACalls.intro Try.func105 rfl (by show 1 ≤ 19; decide) ?_
 show AW _ 0 _ (aret _ 0 Try.f105 _) ⟨19, _, _⟩
 refine AW.weaken (Wk.to (L := [(0, (.sl (List.map eRDecl p0)))]) ⟨.rfl, trivial⟩) ?_
 refine sr rfl fun K1 hK1 => ?_
 refine zq tb rfl ?_
 refine dn hK1 rfl ?_
 refine sr rfl fun K2 hK2 => ?_
 refine zq tb rfl ?_
 refine dn hK2 rfl ?_
 refine AW.seq fun K3 hK3 => ?_
 refine sr rfl fun K4 hK4 => ?_
 refine zq tb rfl ?_
 refine zl tb rfl rfl ?_
 refine zq tb rfl ?_
 refine dn hK4 rfl ?_
 obtain ⟨o8, h1, h0⟩ := Sh.bind_some h0
 have M8 : ∀ (n7 : Int), o8 = n7 → ∀ s, Wk 0 s ⟨19, envL [(3, (i64 n7))], []⟩ → K3 s := by
  intro n7 hq s hw
  subst o8
  try dsimp only at h0
  refine hK3 _ (AW.weaken hw ?_)
  refine sr rfl fun K9 hK9 => ?_
  iterate 2 refine zq tb rfl ?_
  refine dn hK9 rfl ?_
  replace h0 := Sh.some_eq h0
  subst r
  exact AW.ret (xr (Wk.to (L := [(2, (i64 n7))]) ⟨.rfl, trivial⟩))
 refine AW.block (AW.loopF (σ := Int × Int) (fun n v => impl_conCount_L1 p0 n v.1 v.2 = some o8) (fun (n5, t6) => ⟨19, envL [(3, (i64 n5)), (6, (.sl (List.map eRDecl p0))), (7, (i64 (Sh.len p0))), (8, (i64 t6))], []⟩) N (0, 0) h1 (Wk.tr rfl) (fun _ hv => by rw [impl_conCount_L1] at hv; cases hv) ?_)
 rintro n ⟨n5, t6⟩ h1
 try dsimp only at h1 ⊢
 rw [impl_conCount_L1] at h1
 refine sr rfl fun K10 hK10 => ?_
 refine zq tb rfl ?_
 refine dn hK10 rfl ?_
 refine AW.seq fun K11 hK11 => ?_
 refine ci h1 rfl ?_ ?_ <;> clear h1
 ·intro b12 h1
  refine AW.skip (hK11 _ ?_)
  refine AW.seq fun K13 hK13 => ?_
  refine AW.block ?_
  refine sr rfl fun K14 hK14 => ?_
  obtain ⟨c15, gc15, h1⟩ := Sh.bind_some h1
  refine zx ei29 gc15 rfl rfl rfl ?_
  refine zq tb rfl ?_
  refine ao_alloc (m := 0) (st' := [⟨0, 94, 3, [[(i64 0), (i64 0), .zc]]⟩]) go0 zi94 rfl rfl ?_
  refine ao_str (st' := [⟨0, 94, 3, [(eRDecl c15)]⟩]) go0 ti94 rfl rfl rfl rfl rfl rfl (show 0 + 3 ≤ 3 by decide) rfl ?_
  refine dn hK14 rfl ?_
  refine AW.regionO (by rfl) ?_
  iterate 3 refine zq tb rfl ?_
  refine zl tb rfl rfl ?_
  iterate 2 refine zq tb rfl ?_
  refine dn hK13 rfl ?_
  refine AW.regionO (by rfl) ?_
  iterate 2 refine zq tb rfl ?_
  exact AO.done (xi (Sh.w (n5 + (Sh.len c15.cons)), Sh.w (t6 + 1)) h1 (Wk.d0 _ rfl))
 ·intro b12 h1
  exact AW.exit (M8 n5 (Sh.some_eq h1).symm _ (Wk.tr rfl))
theorem impl_consOf_ok {N : Nat} {p0 : (List RDecl)} {p1 : Int} {r : (List Int)} (h0 : impl_consOf N p0 p1 = some r) : ACalls Try.prog 106 [(.sl (List.map eRDecl p0)), (i64 p1)] [] (fun v st => v = (.own 0 0 (List.length r)) ∧ st = [⟨0, 3, 1, List.map eI r⟩]) := by
 unfold impl_consOf at h0
 refine ACalls.intro Try.func106 rfl (by show 2 ≤ 39; decide) ?_
 show AW _ 0 _ (aret _ 0 Try.f106 _) ⟨39, _, _⟩
 refine AW.weaken (Wk.to (L := [(0, (.sl (List.map eRDecl p0))), (1, (i64 p1))]) ⟨.rfl, .rfl, trivial⟩) ?_
 refine sr rfl fun K1 hK1 => ?_
 refine zq tb rfl ?_
 refine dn hK1 rfl ?_
 refine AW.seq fun K2 hK2 => ?_
 refine AW.seq fun K3 hK3 => ?_
 obtain ⟨o5, h1, h0⟩ := Sh.bind_some h0
 have M5 : ∀ (t4 : Bool), o5 = t4 → ∀ s, Wk 0 s ⟨39, envL [(0, (.sl (List.map eRDecl p0))), (1, (i64 p1)), (15, (.bool t4))], []⟩ → K3 s := by
  intro t4 hq s hw
  subst o5
  try dsimp only at h0
  refine hK3 _ (AW.weaken hw ?_)
  refine ci h0 rfl ?_ ?_ <;> clear h0
  ·intro b6 h0
   refine sr rfl fun K7 hK7 => ?_
   refine zq tb rfl ?_
   refine dn hK7 rfl ?_
   replace h0 := Sh.some_eq h0
   subst r
   exact AW.ret (Exists.intro _ (And.intro (((Wk.adopt (t := 4) rfl 3 (size := 1) (by decide)).trans (Wk.to (L := [(4, (.own 0 0 (List.length ([] : List Int))))]) ⟨.rfl, trivial⟩)).trans (Wk.to (L := [(4, (.own 0 0 (List.length ([] : List Int))))]) ⟨.rfl, trivial⟩)) (And.intro rfl rfl)))
  ·intro b6 h0
   refine AW.skip (hK2 _ ?_)
   refine sr rfl fun K8 hK8 => ?_
   iterate 3 refine zq tb rfl ?_
   obtain ⟨l9, gl9, h0⟩ := Sh.bind_some h0
   refine ao_sls (i := 0) (j := Sh.w (p1 - 1)) go0 ei29 rfl rfl rfl (fun _ => rfl) gl9 ?_
   obtain ⟨q10, gq10, h0⟩ := Sh.bind_some h0
   refine zc hb105 (impl_conCount_ok gq10) rfl rfl rfl ?_
   refine zq tb rfl ?_
   refine dn hK8 rfl ?_
   refine sr rfl fun K11 hK11 => ?_
   refine zq tb rfl ?_
   refine dn hK11 rfl ?_
   refine AW.seq fun K12 hK12 => ?_
   refine sr rfl fun K13 hK13 => ?_
   iterate 3 refine zq tb rfl ?_
   obtain ⟨c14, gc14, h0⟩ := Sh.bind_some h0
   refine zx ei29 gc14 rfl rfl rfl ?_
   iterate 2 refine zq tb rfl ?_
   refine zl tb rfl rfl ?_
   refine zq tb rfl ?_
   refine dn hK13 rfl ?_
   obtain ⟨o18, h1, h0⟩ := Sh.bind_some h0
   have M18 : ∀ (l17 : (List Int)), o18 = l17 → ∀ s, Wk 0 s ⟨39, envL [(6, (.own 0 0 (List.length l17)))], [⟨0, 3, 1, List.map eI l17⟩]⟩ → K12 s := by
    intro l17 hq s hw
    subst o18
    try dsimp only at h0
    refine hK12 _ (AW.weaken hw ?_)
    refine sr rfl fun K19 hK19 => ?_
    iterate 2 refine zq tb rfl ?_
    refine dn hK19 rfl ?_
    replace h0 := Sh.some_eq h0
    subst r
    exact AW.ret (xr (Wk.to (L := [(4, (.own 0 0 (List.length l17)))]) ⟨.rfl, trivial⟩))
   refine AW.block (AW.loopF (σ := Int × (List Int)) (fun n v => impl_consOf_L1 c14 q10 n v.1 v.2 = some o18) (fun (t15, l16) => ⟨39, envL [(5, (i64 q10)), (6, (.own 0 0 (List.length l16))), (27, (i64 (Sh.len c14.cons))), (28, (i64 t15))], [⟨0, 3, 1, List.map eI l16⟩]⟩) N (0, []) h1 ((Wk.adopt (t := 6) rfl 3 (size := 1) (by decide)).trans (Wk.to (L := [(5, (i64 q10)), (6, (.own 0 0 (List.length ([] : List Int)))), (27, (i64 (Sh.len c14.cons))), (28, (i64 0))]) ⟨.rfl, .rfl, .rfl, .rfl, trivial⟩)) (fun _ hv => by rw [impl_consOf_L1] at hv; cases hv) ?_)
   rintro n ⟨t15, l16⟩ h1
   try dsimp only at h1 ⊢
   rw [impl_consOf_L1] at h1
   refine sr rfl fun K20 hK20 => ?_
   refine zq tb rfl ?_
   refine dn hK20 rfl ?_
   refine AW.seq fun K21 hK21 => ?_
   refine ci h1 rfl ?_ ?_ <;> clear h1
   ·intro b22 h1
    refine AW.skip (hK21 _ ?_)
    refine AW.seq fun K23 hK23 => ?_
    refine AW.block ?_
    refine sr rfl fun K24 hK24 => ?_
    iterate 2 refine zq tb rfl ?_
    refine dn hK24 rfl ?_
    refine AW.regionO (by rfl) ?_
    iterate 4 refine zq tb rfl ?_
    refine ao_bs (m := 1) (st' := [⟨0, 3, 1, List.map eI l16⟩, ⟨0, 3, 1, List.map eI [Sh.w (q10 + t15)]⟩]) (l := [Sh.w (q10 + t15)]) (enc := eI) go0 ei27 (by decide) rfl rfl rfl rfl rfl rfl ?_
    obtain ⟨l25, gl25, h1⟩ := Sh.bind_some h1
    refine ao_apo (st' := [⟨1, 3, 1, List.map eI l25⟩, ⟨0, 3, 1, List.map eI [Sh.w (q10 + t15)]⟩]) (l2 := [Sh.w (q10 + t15)]) go0 ei27 rfl rfl rfl rfl (el_o rfl rfl) (fun _ => rfl) gl25 rfl ?_
    refine zq tb rfl ?_
    refine dn hK23 rfl ?_
    refine AW.regionO (by rfl) ?_
    iterate 2 refine zq tb rfl ?_
    exact AO.done (xi (Sh.w (t15 + 1), l25) h1 (by refine Wk.trans (Wk.rg (L := [(5, (i64 q10)), (6, (.own 0 0 (List.length l25))), (27, (i64 (Sh.len c14.cons))), (28, (i64 (Sh.w (t15 + 1))))]) (st' := [⟨0, 3, 1, List.map eI l25⟩, ⟨0, 3, 1, List.map eI [Sh.w (q10 + t15)]⟩]) (.pure (pure_map fun _ => rfl) (.pure (pure_map fun _ => rfl) .nil)) ⟨.rfl, .rfl, .rfl, .rfl, trivial⟩) ?_; exact Wk.permk (L := [(5, (i64 q10)), (6, (.own 0 0 (List.length l25))), (27, (i64 (Sh.len c14.cons))), (28, (i64 (Sh.w (t15 + 1))))]) (st' := [⟨0, 3, 1, List.map eI l25⟩]) (st1 := [⟨0, 3, 1, List.map eI l25⟩]) [0] rfl .nil (by decide) rfl rfl (.pure (pure_map fun _ => rfl) .nil) ⟨.rfl, .rfl, .rfl, .rfl, trivial⟩))
   ·intro b22 h1
    exact AW.exit (M18 l16 (Sh.some_eq h1).symm _ (Wk.tr rfl))
 refine AW.regionO (by rfl) ?_
 iterate 3 refine zq tb rfl ?_
 rcases Sh.ite_some h1 with ⟨b26, h1⟩ | ⟨b26, h1⟩
 ·refine zs b26 rfl ?_
  iterate 3 refine zs b26 rfl ?_
  refine zt b26 rfl ?_
  exact AO.done (M5 true (Sh.some_eq h1).symm _ (Wk.tr rfl))
 ·refine zg tb b26 rfl ?_
  refine zg tb b26 rfl ?_
  refine ao_q (v := (i64 (Sh.len p0))) (go1 rfl rfl b26) rfl (aq_lens sl29 rfl) ?_
  refine zg tb b26 rfl ?_
  refine zf b26 rfl ?_
  exact AO.done (M5 (decide ((Sh.len p0) < p1)) (Sh.some_eq h1).symm _ (Wk.tr rfl))
theorem impl_signatures_numValid_ok {N : Nat} {s0_0 : Int} {s1_0 : (List Int)} {s1_1 : (List Int)} {s1_2 : Int} {s1_3 : Int} {s1_4 : (List RInstr)} {p0 : RSignatures} {p1 : RInstr} {r : Bool} (h0 : impl_signatures_numValid N s0_0 s1_0 s1_1 s1_2 s1_3 s1_4 p0 p1 = some r) : ACalls Try.prog 85 [(.agg (eRSignatures p0)), (.agg (eRInstr p1)), (.fn 82 [(.ptr 0 0 0 0), (.ptr 1 0 0 0)])] [⟨0, 3, 1, [[(i64 s0_0)]]⟩, ⟨0, 55, 5, [[(.sl (List.map eI s1_0)), (.sl (List.map eI s1_1)), (i64 s1_2), (i64 s1_3), (.sl (List.map eRInstr s1_4))]]⟩] (fun v st => v = (.bool r) ∧ st = [⟨0, 3, 1, [[(i64 s0_0)]]⟩, ⟨0, 55, 5, [[(.sl (List.map eI s1_0)), (.sl (List.map eI s1_1)), (i64 s1_2), (i64 s1_3), (.sl (List.map eRInstr s1_4))]]⟩]) := by
 unfold impl_signatures_numValid at h0
 refine ACalls.intro Try.func85 rfl (by show 3 ≤ 109; decide) ?_
 show AW _ 2 _ (aret _ 2 Try.f85 _) ⟨109, _, _⟩
 refine AW.weaken (Wk.to (L := [(0, (.agg (eRSignatures p0))), (1, (.agg (eRInstr p1))), (2, (.fn 82 [(.ptr 0 0 0 0), (.ptr 1 0 0 0)]))]) ⟨.rfl, .rfl, .rfl, trivial⟩) ?_
 refine sr rfl fun K1 hK1 => ?_
 refine ao_box (m := 2) (st' := [⟨0, 3, 1, [[(i64 s0_0)]]⟩, ⟨0, 55, 5, [[(.sl (List.map eI s1_0)), (.sl (List.map eI s1_1)), (i64 s1_2), (i64 s1_3), (.sl (List.map eRInstr s1_4))]]⟩, ⟨0, 99, 2, [(eRSignatures p0)]⟩]) go0 rfl rfl rfl rfl rfl ?_
 refine ao_box (m := 3) (st' := [⟨0, 3, 1, [[(i64 s0_0)]]⟩, ⟨0, 55, 5, [[(.sl (List.map eI s1_0)), (.sl (List.map eI s1_1)), (i64 s1_2), (i64 s1_3), (.sl (List.map eRInstr s1_4))]]⟩, ⟨0, 99, 2, [(eRSignatures p0)]⟩, ⟨0, 63, 6, [(eRInstr p1)]⟩]) go0 rfl rfl rfl rfl rfl ?_
 refine zq tb rfl ?_
 refine dn hK1 rfl ?_
 refine AW.seq fun K2 hK2 => ?_
 refine sr rfl fun K3 hK3 => ?_
 iterate 2 refine zq tb rfl ?_
 refine dn hK3 rfl ?_
 refine AW.block ?_
 refine sr rfl fun K4 hK4 => ?_
 iterate 2 refine zq tb rfl ?_
 refine dn hK4 rfl ?_
 refine ci h0 rfl ?_ ?_ <;> clear h0
 ·intro b5 h0
  refine AW.seq fun K6 hK6 => ?_
  obtain ⟨o8, h1, h0⟩ := Sh.bind_some h0
  have M8 : ∀ (t7 : Bool), o8 = t7 → ∀ s, Wk 2 s ⟨109, envL [(6, (.bool t7))], [⟨0, 3, 1, [[(i64 s0_0)]]⟩, ⟨0, 55, 5, [[(.sl (List.map eI s1_0)), (.sl (List.map eI s1_1)), (i64 s1_2), (i64 s1_3), (.sl (List.map eRInstr s1_4))]]⟩]⟩ → K6 s := by
   intro t7 hq s hw
   subst o8
   try dsimp only at h0
   refine hK6 _ (AW.weaken hw ?_)
   replace h0 := Sh.some_eq h0
   subst r
   exact AW.ret (xr (Wk.to (L := [(6, (.bool t7))]) ⟨.rfl, trivial⟩))
  refine AW.regionO (by rfl) ?_
  iterate 4 refine zq tb rfl ?_
  rcases Sh.ite_some h1 with ⟨b9, h1⟩ | ⟨b9, h1⟩
  ·refine zg tb b9 rfl ?_
   iterate 2 refine zg tb b9 rfl ?_
   refine zt b9 rfl ?_
   refine zq tb rfl ?_
   exact AO.done (M8 (decide (p1.num ≤ 999)) (Sh.some_eq h1).symm _ (Wk.permk (L := [(6, (.bool (decide (p1.num ≤ 999))))]) (st' := [⟨0, 3, 1, [[(i64 s0_0)]]⟩, ⟨0, 55, 5, [[(.sl (List.map eI s1_0)), (.sl (List.map eI s1_1)), (i64 s1_2), (i64 s1_3), (.sl (List.map eRInstr s1_4))]]⟩]) (st1 := [⟨0, 3, 1, [[(i64 s0_0)]]⟩, ⟨0, 55, 5, [[(.sl (List.map eI s1_0)), (.sl (List.map eI s1_1)), (i64 s1_2), (i64 s1_3), (.sl (List.map eRInstr s1_4))]]⟩]) [0, 1] rfl (.raw rfl rfl (.raw rfl rfl .nil)) (by decide) rfl rfl (.raw rfl rfl (.raw rfl rfl .nil)) ⟨.rfl, trivial⟩))
  ·refine zs b9 rfl ?_
   iterate 2 refine zs b9 rfl ?_
   refine zf b9 rfl ?_
   refine zq tb rfl ?_
   exact AO.done (M8 false (Sh.some_eq h1).symm _ (Wk.permk (L := [(6, (.bool false))]) (st' := [⟨0, 3, 1, [[(i64 s0_0)]]⟩, ⟨0, 55, 5, [[(.sl (List.map eI s1_0)), (.sl (List.map eI s1_1)), (i64 s1_2), (i64 s1_3), (.sl (List.map eRInstr s1_4))]]⟩]) (st1 := [⟨0, 3, 1, [[(i64 s0_0)]]⟩, ⟨0, 55, 5, [[(.sl (List.map eI s1_0)), (.sl (List.map eI s1_1)), (i64 s1_2), (i64 s1_3), (.sl (List.map eRInstr s1_4))]]⟩]) [0, 1] rfl (.raw rfl rfl (.raw rfl rfl .nil)) (by decide) rfl rfl (.raw rfl rfl (.raw rfl rfl .nil)) ⟨.rfl, trivial⟩))
 ·intro b5 h0
  refine sr rfl fun K10 hK10 => ?_
  iterate 2 refine zq tb rfl ?_
  refine dn hK10 rfl ?_
  refine ci h0 rfl ?_ ?_ <;> clear h0
  ·intro b11 h0
   refine AW.seq fun K12 hK12 => ?_
   obtain ⟨o14, h1, h0⟩ := Sh.bind_some h0
   have M14 : ∀ (t13 : Bool), o14 = t13 → ∀ s, Wk 2 s ⟨109, envL [(6, (.bool t13))], [⟨0, 3, 1, [[(i64 s0_0)]]⟩, ⟨0, 55, 5, [[(.sl (List.map eI s1_0)), (.sl (List.map eI s1_1)), (i64 s1_2), (i64 s1_3), (.sl (List.map eRInstr s1_4))]]⟩]⟩ → K12 s := by
    intro t13 hq s hw
    subst o14
    try dsimp only at h0
    refine hK12 _ (AW.weaken hw ?_)
    replace h0 := Sh.some_eq h0
    subst r
    exact AW.ret (xr (Wk.to (L := [(6, (.bool t13))]) ⟨.rfl, trivial⟩))
   refine AW.draw (by kernel_rfl) (by kernel_rfl) (by rfl) ?_
   iterate 4 refine yq tb rfl ?_
   rcases Sh.ite_some h1 with ⟨b15, h1⟩ | ⟨b15, h1⟩
   ·refine yg tb b15 rfl ?_
    iterate 3 refine yg tb b15 rfl ?_
    obtain ⟨q16, gq16, h1⟩ := Sh.bind_some h1
    refine d_call (v := (i64 q16)) (go1 rfl rfl b15) hb105 (impl_conCount_ok gq16) rfl rfl rfl ?_
    refine yg tb b15 rfl ?_
    refine yt b15 rfl ?_
    refine yq tb rfl ?_
    exact d_done (M14 (decide (p1.num < q16)) (Sh.some_eq h1).symm _ (Wk.permk (L := [(6, (.bool (decide (p1.num < q16))))]) (st' := [⟨0, 3, 1, [[(i64 s0_0)]]⟩, ⟨0, 55, 5, [[(.sl (List.map eI s1_0)), (.sl (List.map eI s1_1)), (i64 s1_2), (i64 s1_3), (.sl (List.map eRInstr s1_4))]]⟩]) (st1 := [⟨0, 3, 1, [[(i64 s0_0)]]⟩, ⟨0, 55, 5, [[(.sl (List.map eI s1_0)), (.sl (List.map eI s1_1)), (i64 s1_2), (i64 s1_3), (.sl (List.map eRInstr s1_4))]]⟩]) [0, 1] rfl (.raw rfl rfl (.raw rfl rfl .nil)) (by decide) rfl rfl (.raw rfl rfl (.raw rfl rfl .nil)) ⟨.rfl, trivial⟩))
   ·refine ys b15 rfl ?_
    iterate 5 refine ys b15 rfl ?_
    refine yf b15 rfl ?_
    refine yq tb rfl ?_
    exact d_done (M14 false (Sh.some_eq h1).symm _ (Wk.permk (L := [(6, (.bool false))]) (st' := [⟨0, 3, 1, [[(i64 s0_0)]]⟩, ⟨0, 55, 5, [[(.sl (List.map eI s1_0)), (.sl (List.map eI s1_1)), (i64 s1_2), (i64 s1_3), (.sl (List.map eRInstr s1_4))]]⟩]) (st1 := [⟨0, 3, 1, [[(i64 s0_0)]]⟩, ⟨0, 55, 5, [[(.sl (List.map eI s1_0)), (.sl (List.map eI s1_1)), (i64 s1_2), (i64 s1_3), (.sl (List.map eRInstr s1_4))]]⟩]) [0, 1] rfl (.raw rfl rfl (.raw rfl rfl .nil)) (by decide) rfl rfl (.raw rfl rfl (.raw rfl rfl .nil)) ⟨.rfl, trivial⟩))
  ·intro b11 h0
   refine AW.seq fun K17 hK17 => ?_
   obtain ⟨o19, h1, h0⟩ := Sh.bind_some h0
   have M19 : ∀ (t18 : Bool), o19 = t18 → ∀ s, Wk 2 s ⟨109, envL [(2, (.fn 82 [(.ptr 0 0 0 0), (.ptr 1 0 0 0)])), (3, (.ptr 2 0 0 0)), (4, (.ptr 3 0 0 0)), (9, (i64 p1.op)), (33, (.bool t18))], [⟨0, 3, 1, [[(i64 s0_0)]]⟩, ⟨0, 55, 5, [[(.sl (List.map eI s1_0)), (.sl (List.map eI s1_1)), (i64 s1_2), (i64 s1_3), (.sl (List.map eRInstr s1_4))]]⟩, ⟨0, 99, 2, [(eRSignatures p0)]⟩, ⟨0, 63, 6, [(eRInstr p1)]⟩]⟩ → K17 s := by
    intro t18 hq s hw
    subst o19
    try dsimp only at h0
    refine hK17 _ (AW.weaken hw ?_)
    refine ci h0 rfl ?_ ?_ <;> clear h0
    ·intro b20 h0
     refine AW.seq fun K21 hK21 => ?_
     obtain ⟨o23, h1, h0⟩ := Sh.bind_some h0
     have M23 : ∀ (t22 : Bool), o23 = t22 → ∀ s, Wk 2 s ⟨109, envL [(6, (.bool t22))], [⟨0, 3, 1, [[(i64 s0_0)]]⟩, ⟨0, 55, 5, [[(.sl (List.map eI s1_0)), (.sl (List.map eI s1_1)), (i64 s1_2), (i64 s1_3), (.sl (List.map eRInstr s1_4))]]⟩]⟩ → K21 s := by
      intro t22 hq s hw
      subst o23
      try dsimp only at h0
      refine hK21 _ (AW.weaken hw ?_)
      replace h0 := Sh.some_eq h0
      subst r
      exact AW.ret (xr (Wk.to (L := [(6, (.bool t22))]) ⟨.rfl, trivial⟩))
     refine AW.regionO (by rfl) ?_
     iterate 4 refine zq tb rfl ?_
     rcases Sh.ite_some h1 with ⟨b24, h1⟩ | ⟨b24, h1⟩
     ·refine zg tb b24 rfl ?_
      iterate 3 refine zg tb b24 rfl ?_
      refine ao_q (v := (i64 (Sh.len p0.funcs))) (go1 rfl rfl b24) rfl (aq_lens sl97 rfl) ?_
      refine zg tb b24 rfl ?_
      refine zt b24 rfl ?_
      refine zq tb rfl ?_
      exact AO.done (M23 (decide (p1.num < (Sh.len p0.funcs))) (Sh.some_eq h1).symm _ (Wk.permk (L := [(6, (.bool (decide (p1.num < (Sh.len p0.funcs)))))]) (st' := [⟨0, 3, 1, [[(i64 s0_0)]]⟩, ⟨0, 55, 5, [[(.sl (List.map eI s1_0)), (.sl (List.map eI s1_1)), (i64 s1_2), (i64 s1_3), (.sl (List.map eRInstr s1_4))]]⟩]) (st1 := [⟨0, 3, 1, [[(i64 s0_0)]]⟩, ⟨0, 55, 5, [[(.sl (List.map eI s1_0)), (.sl (List.map eI s1_1)), (i64 s1_2), (i64 s1_3), (.sl (List.map eRInstr s1_4))]]⟩]) [0, 1] rfl (.raw rfl rfl (.raw rfl rfl .nil)) (by decide) rfl rfl (.raw rfl rfl (.raw rfl rfl .nil)) ⟨.rfl, trivial⟩))
     ·refine zs b24 rfl ?_
      iterate 5 refine zs b24 rfl ?_
      refine zf b24 rfl ?_
      refine zq tb rfl ?_
      exact AO.done (M23 false (Sh.some_eq h1).symm _ (Wk.permk (L := [(6, (.bool false))]) (st' := [⟨0, 3, 1, [[(i64 s0_0)]]⟩, ⟨0, 55, 5, [[(.sl (List.map eI s1_0)), (.sl (List.map eI s1_1)), (i64 s1_2), (i64 s1_3), (.sl (List.map eRInstr s1_4))]]⟩]) (st1 := [⟨0, 3, 1, [[(i64 s0_0)]]⟩, ⟨0, 55, 5, [[(.sl (List.map eI s1_0)), (.sl (List.map eI s1_1)), (i64 s1_2), (i64 s1_3), (.sl (List.map eRInstr s1_4))]]⟩]) [0, 1] rfl (.raw rfl rfl (.raw rfl rfl .nil)) (by decide) rfl rfl (.raw rfl rfl (.raw rfl rfl .nil)) ⟨.rfl, trivial⟩))
    ·intro b20 h0
     refine sr rfl fun K25 hK25 => ?_
     iterate 2 refine zq tb rfl ?_
     refine dn hK25 rfl ?_
     refine ci h0 rfl ?_ ?_ <;> clear h0
     ·intro b26 h0
      refine AW.seq fun K27 hK27 => ?_
      obtain ⟨o29, h1, h0⟩ := Sh.bind_some h0
      have M29 : ∀ (t28 : Bool), o29 = t28 → ∀ s, Wk 2 s ⟨109, envL [(6, (.bool t28))], [⟨0, 3, 1, [[(i64 s0_0)]]⟩, ⟨0, 55, 5, [[(.sl (List.map eI s1_0)), (.sl (List.map eI s1_1)), (i64 s1_2), (i64 s1_3), (.sl (List.map eRInstr s1_4))]]⟩]⟩ → K27 s := by
       intro t28 hq s hw
       subst o29
       try dsimp only at h0
       refine hK27 _ (AW.weaken hw ?_)
       replace h0 := Sh.some_eq h0
       subst r
       exact AW.ret (xr (Wk.to (L := [(6, (.bool t28))]) ⟨.rfl, trivial⟩))
      refine AW.regionO (by rfl) ?_
      iterate 4 refine zq tb rfl ?_
      rcases Sh.ite_some h1 with ⟨b30, h1⟩ | ⟨b30, h1⟩
      ·refine zg tb b30 rfl ?_
       iterate 3 refine zg tb b30 rfl ?_
       refine ao_q (v := (i64 (Sh.len p0.funcs))) (go1 rfl rfl b30) rfl (aq_lens sl97 rfl) ?_
       refine zg tb b30 rfl ?_
       refine zt b30 rfl ?_
       refine zq tb rfl ?_
       rcases Sh.ite_some h1 with ⟨b31, h1⟩ | ⟨b31, h1⟩
       ·refine zg tb b31 rfl ?_
        iterate 3 refine zg tb b31 rfl ?_
        obtain ⟨c32, gc32, h1⟩ := Sh.bind_some h1
        refine ao_q (v := (.iptr (eRSignature c32) 0)) (go1 rfl rfl b31) rfl (aq_ixs ei97 rfl rfl gc32 rfl) ?_
        iterate 2 refine zg tb b31 rfl ?_
        refine ao_q (v := (i64 (Sh.len c32.lent))) (go1 rfl rfl b31) rfl (aq_lens sl27 rfl) ?_
        refine zg tb b31 rfl ?_
        refine zt b31 rfl ?_
        refine zq tb rfl ?_
        exact AO.done (M29 (decide ((Sh.len c32.lent) = 0)) (Sh.some_eq h1).symm _ (Wk.permk (L := [(6, (.bool (decide ((Sh.len c32.lent) = 0))))]) (st' := [⟨0, 3, 1, [[(i64 s0_0)]]⟩, ⟨0, 55, 5, [[(.sl (List.map eI s1_0)), (.sl (List.map eI s1_1)), (i64 s1_2), (i64 s1_3), (.sl (List.map eRInstr s1_4))]]⟩]) (st1 := [⟨0, 3, 1, [[(i64 s0_0)]]⟩, ⟨0, 55, 5, [[(.sl (List.map eI s1_0)), (.sl (List.map eI s1_1)), (i64 s1_2), (i64 s1_3), (.sl (List.map eRInstr s1_4))]]⟩]) [0, 1] rfl (.raw rfl rfl (.raw rfl rfl .nil)) (by decide) rfl rfl (.raw rfl rfl (.raw rfl rfl .nil)) ⟨.rfl, trivial⟩))
       ·refine zs b31 rfl ?_
        iterate 8 refine zs b31 rfl ?_
        refine zf b31 rfl ?_
        refine zq tb rfl ?_
        exact AO.done (M29 false (Sh.some_eq h1).symm _ (Wk.permk (L := [(6, (.bool false))]) (st' := [⟨0, 3, 1, [[(i64 s0_0)]]⟩, ⟨0, 55, 5, [[(.sl (List.map eI s1_0)), (.sl (List.map eI s1_1)), (i64 s1_2), (i64 s1_3), (.sl (List.map eRInstr s1_4))]]⟩]) (st1 := [⟨0, 3, 1, [[(i64 s0_0)]]⟩, ⟨0, 55, 5, [[(.sl (List.map eI s1_0)), (.sl (List.map eI s1_1)), (i64 s1_2), (i64 s1_3), (.sl (List.map eRInstr s1_4))]]⟩]) [0, 1] rfl (.raw rfl rfl (.raw rfl rfl .nil)) (by decide) rfl rfl (.raw rfl rfl (.raw rfl rfl .nil)) ⟨.rfl, trivial⟩))
      ·refine zs b30 rfl ?_
       iterate 5 refine zs b30 rfl ?_
       refine zf b30 rfl ?_
       refine zq tb rfl ?_
       iterate 9 refine zs rfl rfl ?_
       refine zf rfl rfl ?_
       refine zq tb rfl ?_
       exact AO.done (M29 false (Sh.some_eq h1).symm _ (Wk.permk (L := [(6, (.bool false))]) (st' := [⟨0, 3, 1, [[(i64 s0_0)]]⟩, ⟨0, 55, 5, [[(.sl (List.map eI s1_0)), (.sl (List.map eI s1_1)), (i64 s1_2), (i64 s1_3), (.sl (List.map eRInstr s1_4))]]⟩]) (st1 := [⟨0, 3, 1, [[(i64 s0_0)]]⟩, ⟨0, 55, 5, [[(.sl (List.map eI s1_0)), (.sl (List.map eI s1_1)), (i64 s1_2), (i64 s1_3), (.sl (List.map eRInstr s1_4))]]⟩]) [0, 1] rfl (.raw rfl rfl (.raw rfl rfl .nil)) (by decide) rfl rfl (.raw rfl rfl (.raw rfl rfl .nil)) ⟨.rfl, trivial⟩))
     ·intro b26 h0
      refine sr rfl fun K33 hK33 => ?_
      iterate 2 refine zq tb rfl ?_
      refine dn hK33 rfl ?_
      refine ci h0 rfl ?_ ?_ <;> clear h0
      ·intro b34 h0
       refine AW.seq fun K35 hK35 => ?_
       obtain ⟨o37, h1, h0⟩ := Sh.bind_some h0
       have M37 : ∀ (t36 : Bool), o37 = t36 → ∀ s, Wk 2 s ⟨109, envL [(6, (.bool t36))], [⟨0, 3, 1, [[(i64 s0_0)]]⟩, ⟨0, 55, 5, [[(.sl (List.map eI s1_0)), (.sl (List.map eI s1_1)), (i64 s1_2), (i64 s1_3), (.sl (List.map eRInstr s1_4))]]⟩]⟩ → K35 s := by
        intro t36 hq s hw
        subst o37
        try dsimp only at h0
        refine hK35 _ (AW.weaken hw ?_)
        replace h0 := Sh.some_eq h0
        subst r
        exact AW.ret (xr (Wk.to (L := [(6, (.bool t36))]) ⟨.rfl, trivial⟩))
       refine AW.regionO (by rfl) ?_
       iterate 4 refine zq tb rfl ?_
       rcases Sh.ite_some h1 with ⟨b38, h1⟩ | ⟨b38, h1⟩
       ·refine zg tb b38 rfl ?_
        iterate 2 refine zg tb b38 rfl ?_
        refine zt b38 rfl ?_
        refine zq tb rfl ?_
        exact AO.done (M37 (decide (p1.num < 3)) (Sh.some_eq h1).symm _ (Wk.permk (L := [(6, (.bool (decide (p1.num < 3))))]) (st' := [⟨0, 3, 1, [[(i64 s0_0)]]⟩, ⟨0, 55, 5, [[(.sl (List.map eI s1_0)), (.sl (List.map eI s1_1)), (i64 s1_2), (i64 s1_3), (.sl (List.map eRInstr s1_4))]]⟩]) (st1 := [⟨0, 3, 1, [[(i64 s0_0)]]⟩, ⟨0, 55, 5, [[(.sl (List.map eI s1_0)), (.sl (List.map eI s1_1)), (i64 s1_2), (i64 s1_3), (.sl (List.map eRInstr s1_4))]]⟩]) [0, 1] rfl (.raw rfl rfl (.raw rfl rfl .nil)) (by decide) rfl rfl (.raw rfl rfl (.raw rfl rfl .nil)) ⟨.rfl, trivial⟩))
       ·refine zs b38 rfl ?_
        iterate 2 refine zs b38 rfl ?_
        refine zf b38 rfl ?_
        refine zq tb rfl ?_
        exact AO.done (M37 false (Sh.some_eq h1).symm _ (Wk.permk (L := [(6, (.bool false))]) (st' := [⟨0, 3, 1, [[(i64 s0_0)]]⟩, ⟨0, 55, 5, [[(.sl (List.map eI s1_0)), (.sl (List.map eI s1_1)), (i64 s1_2), (i64 s1_3), (.sl (List.map eRInstr s1_4))]]⟩]) (st1 := [⟨0, 3, 1, [[(i64 s0_0)]]⟩, ⟨0, 55, 5, [[(.sl (List.map eI s1_0)), (.sl (List.map eI s1_1)), (i64 s1_2), (i64 s1_3), (.sl (List.map eRInstr s1_4))]]⟩]) [0, 1] rfl (.raw rfl rfl (.raw rfl rfl .nil)) (by decide) rfl rfl (.raw rfl rfl (.raw rfl rfl .nil)) ⟨.rfl, trivial⟩))
      ·intro b34 h0
       refine AW.seq fun K39 hK39 => ?_
       obtain ⟨o41, h1, h0⟩ := Sh.bind_some h0
       have M41 : ∀ (t40 : Bool), o41 = t40 → ∀ s, Wk 2 s ⟨109, envL [(2, (.fn 82 [(.ptr 0 0 0 0), (.ptr 1 0 0 0)])), (3, (.ptr 2 0 0 0)), (4, (.ptr 3 0 0 0)), (9, (i64 p1.op)), (81, (.bool t40))], [⟨0, 3, 1, [[(i64 s0_0)]]⟩, ⟨0, 55, 5, [[(.sl (List.map eI s1_0)), (.sl (List.map eI s1_1)), (i64 s1_2), (i64 s1_3), (.sl (List.map eRInstr s1_4))]]⟩, ⟨0, 99, 2, [(eRSignatures p0)]⟩, ⟨0, 63, 6, [(eRInstr p1)]⟩]⟩ → K39 s := by
        intro t40 hq s hw
        subst o41
        try dsimp only at h0
        refine hK39 _ (AW.weaken hw ?_)
        refine ci h0 rfl ?_ ?_ <;> clear h0
        ·intro b42 h0
         refine sr rfl fun K43 hK43 => ?_
         iterate 3 refine zq tb rfl ?_
         obtain ⟨q44, gq44, h0⟩ := Sh.bind_some h0
         refine ao_callst (rowsP := [⟨0, 3, 1, [[(i64 s0_0)]]⟩, ⟨0, 55, 5, [[(.sl (List.map eI s1_0)), (.sl (List.map eI s1_1)), (i64 s1_2), (i64 s1_3), (.sl (List.map eRInstr s1_4))]]⟩]) (rows0 := [⟨0, 3, 1, [[(i64 s0_0)]]⟩, ⟨0, 55, 5, [[(.sl (List.map eI s1_0)), (.sl (List.map eI s1_1)), (i64 s1_2), (i64 s1_3), (.sl (List.map eRInstr s1_4))]]⟩]) (rows1 := [⟨0, 3, 1, [[(i64 s0_0)]]⟩, ⟨0, 55, 5, [[(.sl (List.map eI s1_0)), (.sl (List.map eI s1_1)), (i64 s1_2), (i64 s1_3), (.sl (List.map eRInstr s1_4))]]⟩]) (rows2 := []) (rows1' := [⟨0, 3, 1, [[(i64 s0_0)]]⟩, ⟨0, 55, 5, [[(.sl (List.map eI s1_0)), (.sl (List.map eI s1_1)), (i64 s1_2), (i64 s1_3), (.sl (List.map eRInstr s1_4))]]⟩]) (rows2' := []) (st' := [⟨0, 3, 1, [[(i64 s0_0)]]⟩, ⟨0, 55, 5, [[(.sl (List.map eI s1_0)), (.sl (List.map eI s1_1)), (i64 s1_2), (i64 s1_3), (.sl (List.map eRInstr s1_4))]]⟩, ⟨0, 99, 2, [(eRSignatures p0)]⟩, ⟨0, 63, 6, [(eRInstr p1)]⟩]) (v' := (.bool q44)) [0, 1] go0 rfl hb82 (impl_signatures_instrValid_1_ok gq44) rfl (by decide) rfl rfl (.raw rfl rfl (.raw rfl rfl .nil)) rfl rfl (.raw rfl rfl (.raw rfl rfl .nil)) .nil rfl rfl ?_
         refine zq tb rfl ?_
         refine dn hK43 rfl ?_
         replace h0 := Sh.some_eq h0
         subst r
         exact AW.ret (xr (Wk.permk (L := [(6, (.bool q44))]) (st' := [⟨0, 3, 1, [[(i64 s0_0)]]⟩, ⟨0, 55, 5, [[(.sl (List.map eI s1_0)), (.sl (List.map eI s1_1)), (i64 s1_2), (i64 s1_3), (.sl (List.map eRInstr s1_4))]]⟩]) (st1 := [⟨0, 3, 1, [[(i64 s0_0)]]⟩, ⟨0, 55, 5, [[(.sl (List.map eI s1_0)), (.sl (List.map eI s1_1)), (i64 s1_2), (i64 s1_3), (.sl (List.map eRInstr s1_4))]]⟩]) [0, 1] rfl (.raw rfl rfl (.raw rfl rfl .nil)) (by decide) rfl rfl (.raw rfl rfl (.raw rfl rfl .nil)) ⟨.rfl, trivial⟩))
        ·intro b42 h0
         refine sr rfl fun K45 hK45 => ?_
         iterate 2 refine zq tb rfl ?_
         refine dn hK45 rfl ?_
         refine ci h0 rfl ?_ ?_ <;> clear h0
         ·intro b46 h0
          refine sr rfl fun K47 hK47 => ?_
          iterate 4 refine zq tb rfl ?_
          obtain ⟨q48, gq48, h0⟩ := Sh.bind_some h0
          refine ao_call (v' := (.own 4 0 (List.length q48))) (st' := [⟨0, 3, 1, [[(i64 s0_0)]]⟩, ⟨0, 55, 5, [[(.sl (List.map eI s1_0)), (.sl (List.map eI s1_1)), (i64 s1_2), (i64 s1_3), (.sl (List.map eRInstr s1_4))]]⟩, ⟨0, 99, 2, [(eRSignatures p0)]⟩, ⟨0, 63, 6, [(eRInstr p1)]⟩, ⟨0, 3, 1, List.map eI q48⟩]) go0 hb106 (impl_consOf_ok gq48) rfl rfl ⟨(pure_map' fun _ => rfl), trivial⟩ rfl rfl ?_
          refine zq tb rfl ?_
          refine dn hK47 rfl ?_
          refine AW.seq fun K49 hK49 => ?_
          obtain ⟨o51, h1, h0⟩ := Sh.bind_some h0
          have M51 : ∀ (t50 : Bool), o51 = t50 → ∀ s, Wk 2 s ⟨109, envL [(6, (.bool t50))], [⟨0, 3, 1, [[(i64 s0_0)]]⟩, ⟨0, 55, 5, [[(.sl (List.map eI s1_0)), (.sl (List.map eI s1_1)), (i64 s1_2), (i64 s1_3), (.sl (List.map eRInstr s1_4))]]⟩]⟩ → K49 s := by
           intro t50 hq s hw
           subst o51
           try dsimp only at h0
           refine hK49 _ (AW.weaken hw ?_)
           replace h0 := Sh.some_eq h0
           subst r
           exact AW.ret (xr (Wk.to (L := [(6, (.bool t50))]) ⟨.rfl, trivial⟩))
          refine AW.regionO (by rfl) ?_
          refine zq tb rfl ?_
          refine zz (i64 (Sh.len q48)) (aq_leno sl27 rfl rfl rfl) rfl ?_
          iterate 2 refine zq tb rfl ?_
          rcases Sh.ite_some h1 with ⟨b52, h1⟩ | ⟨b52, h1⟩
          ·refine zg tb b52 rfl ?_
           refine zg tb b52 rfl ?_
           refine ao_q (v := (i64 (Sh.len p1.jumps))) (go1 rfl rfl b52) rfl (aq_lens sl27 rfl) ?_
           refine zg tb b52 rfl ?_
           refine ao_q (v := (i64 (Sh.len q48))) (go1 rfl rfl b52) rfl (aq_leno sl27 rfl rfl rfl) ?_
           refine zg tb b52 rfl ?_
           refine zt b52 rfl ?_
           refine zq tb rfl ?_
           exact AO.done (M51 (decide ((Sh.len p1.jumps) = (Sh.len q48))) (Sh.some_eq h1).symm _ (Wk.permk (L := [(6, (.bool (decide ((Sh.len p1.jumps) = (Sh.len q48)))))]) (st' := [⟨0, 3, 1, [[(i64 s0_0)]]⟩, ⟨0, 55, 5, [[(.sl (List.map eI s1_0)), (.sl (List.map eI s1_1)), (i64 s1_2), (i64 s1_3), (.sl (List.map eRInstr s1_4))]]⟩]) (st1 := [⟨0, 3, 1, [[(i64 s0_0)]]⟩, ⟨0, 55, 5, [[(.sl (List.map eI s1_0)), (.sl (List.map eI s1_1)), (i64 s1_2), (i64 s1_3), (.sl (List.map eRInstr s1_4))]]⟩]) [0, 1] rfl (.raw rfl rfl (.raw rfl rfl .nil)) (by decide) rfl rfl (.raw rfl rfl (.raw rfl rfl .nil)) ⟨.rfl, trivial⟩))
          ·refine zs b52 rfl ?_
           iterate 5 refine zs b52 rfl ?_
           refine zf b52 rfl ?_
           refine zq tb rfl ?_
           exact AO.done (M51 false (Sh.some_eq h1).symm _ (Wk.permk (L := [(6, (.bool false))]) (st' := [⟨0, 3, 1, [[(i64 s0_0)]]⟩, ⟨0, 55, 5, [[(.sl (List.map eI s1_0)), (.sl (List.map eI s1_1)), (i64 s1_2), (i64 s1_3), (.sl (List.map eRInstr s1_4))]]⟩]) (st1 := [⟨0, 3, 1, [[(i64 s0_0)]]⟩, ⟨0, 55, 5, [[(.sl (List.map eI s1_0)), (.sl (List.map eI s1_1)), (i64 s1_2), (i64 s1_3), (.sl (List.map eRInstr s1_4))]]⟩]) [0, 1] rfl (.raw rfl rfl (.raw rfl rfl .nil)) (by decide) rfl rfl (.raw rfl rfl (.raw rfl rfl .nil)) ⟨.rfl, trivial⟩))
         ·intro b46 h0
          refine AW.skip (hK2 _ ?_)
          refine sr rfl fun K53 hK53 => ?_
          iterate 4 refine zq tb rfl ?_
          refine dn hK53 rfl ?_
          replace h0 := Sh.some_eq h0
          subst r
          exact AW.ret (xr (Wk.permk (L := [(6, (.bool (decide (p1.num = 0))))]) (st' := [⟨0, 3, 1, [[(i64 s0_0)]]⟩, ⟨0, 55, 5, [[(.sl (List.map eI s1_0)), (.sl (List.map eI s1_1)), (i64 s1_2), (i64 s1_3), (.sl (List.map eRInstr s1_4))]]⟩]) (st1 := [⟨0, 3, 1, [[(i64 s0_0)]]⟩, ⟨0, 55, 5, [[(.sl (List.map eI s1_0)), (.sl (List.map eI s1_1)), (i64 s1_2), (i64 s1_3), (.sl (List.map eRInstr s1_4))]]⟩]) [0, 1] rfl (.raw rfl rfl (.raw rfl rfl .nil)) (by decide) rfl rfl (.raw rfl rfl (.raw rfl rfl .nil)) ⟨.rfl, trivial⟩))
       refine sr rfl fun K54 hK54 => ?_
       iterate 2 refine zq tb rfl ?_
       refine dn hK54 rfl ?_
       refine ci h1 rfl ?_ ?_ <;> clear h1
       ·intro b55 h1
        exact AW.skip (M41 true (Sh.some_eq h1).symm _ (Wk.to (L := [(2, (.fn 82 [(.ptr 0 0 0 0), (.ptr 1 0 0 0)])), (3, (.ptr 2 0 0 0)), (4, (.ptr 3 0 0 0)), (9, (i64 p1.op)), (81, (.bool true))]) ⟨.rfl, .rfl, .rfl, .rfl, (.of (congrArg AV.bool b55)), trivial⟩))
       ·intro b55 h1
        refine AW.regionO (by rfl) ?_
        iterate 2 refine zq tb rfl ?_
        exact AO.done (M41 (decide (p1.op = 22)) (Sh.some_eq h1).symm _ (Wk.tr rfl))
   refine sr rfl fun K56 hK56 => ?_
   iterate 2 refine zq tb rfl ?_
   refine dn hK56 rfl ?_
   refine ci h1 rfl ?_ ?_ <;> clear h1
   ·intro b57 h1
    exact AW.skip (M19 true (Sh.some_eq h1).symm _ (Wk.to (L := [(2, (.fn 82 [(.ptr 0 0 0 0), (.ptr 1 0 0 0)])), (3, (.ptr 2 0 0 0)), (4, (.ptr 3 0 0 0)), (9, (i64 p1.op)), (33, (.bool true))]) ⟨.rfl, .rfl, .rfl, .rfl, (.of (congrArg AV.bool b57)), trivial⟩))
   ·intro b57 h1
    refine AW.regionO (by rfl) ?_
    iterate 2 refine zq tb rfl ?_
    exact AO.done (M19 (decide (p1.op = 24)) (Sh.some_eq h1).symm _ (Wk.tr rfl))
theorem impl_conAt_ok {N : Nat} {p0 : (List RDecl)} {p1 : Int} {r : Int × RCon} (h0 : impl_conAt N p0 p1 = some r) : ACalls Try.prog 111 [(.sl (List.map eRDecl p0)), (i64 p1)] [] (fun v st => v = (.tup [(i64 r.1), (.agg (eRCon r.2))]) ∧ st = []) := by
 unfold impl_conAt at h0
 refine ACalls.flat rfl ?_
 refine ACalls.intro Try.func111 rfl (by show 2 ≤ 38; decide) ?_
 show AW _ 0 _ (aret _ 0 Try.f111 _) ⟨38, _, _⟩
 refine AW.weaken (Wk.to (L := [(0, (.sl (List.map eRDecl p0))), (1, (i64 p1))]) ⟨.rfl, .rfl, trivial⟩) ?_
 refine sr rfl fun K1 hK1 => ?_
 refine zq tb rfl ?_
 refine ao_alloc (m := 0) (st' := [⟨0, 141, 1, [[.zc]]⟩]) go0 zi141 rfl rfl ?_
 refine dn hK1 rfl ?_
 refine AW.seq fun K2 hK2 => ?_
 refine sr rfl fun K3 hK3 => ?_
 refine zq tb rfl ?_
 refine zl tb rfl rfl ?_
 refine zq tb rfl ?_
 refine dn hK3 rfl ?_
 obtain ⟨o6, h1, h0⟩ := Sh.cont_some h0
 have M6 : ∀ (_ : Unit), o6 = Sum.inr () → ∀ s, Wk 0 s ⟨38, envL [(5, (.ptr 0 0 0 0))], [⟨0, 141, 1, [[.zc]]⟩]⟩ → K2 s := by
  intro _ hq s hw
  subst o6
  try dsimp only at h0
  refine hK2 _ (AW.weaken hw ?_)
  refine sr rfl fun K7 hK7 => ?_
  refine zz (.agg [.zc]) (aq_bd ai141 bi141 zi141 rfl rfl) rfl ?_
  refine zq tb rfl ?_
  refine ao_str (st' := [⟨0, 141, 1, [[.zc]]⟩]) go0 ti141 rfl rfl rfl rfl rfl rfl (show 0 + 1 ≤ 1 by decide) rfl ?_
  refine dn hK7 rfl ?_
  replace h0 := Sh.some_eq h0
  subst r
  exact AW.ret (Exists.intro _ (And.intro ((Wk.cellLe (id := 0) (cs := [.zc]) (cs' := [(.sl (List.map eI []))]) (st' := [⟨0, 141, 1, [[(.sl (List.map eI []))]]⟩]) rfl ⟨le.zc, trivial⟩ rfl rfl).trans (Wk.to (L := [(4, (i64 (-1))), (5, (.ptr 0 0 0 0))]) ⟨.rfl, .rfl, trivial⟩)) (aq_ldpa (x := .tmp 5) (off := 0) (cs := [(.sl (List.map eI []))]) (vs := [(.sl (List.map eI []))]) ti141 rfl rfl rfl (show 0 + 1 ≤ 1 by decide) rfl _ rfl)))
 refine AW.block (AW.loopF (σ := Int × Int) (fun n v => impl_conAt_L1 p0 n v.1 v.2 = some o6) (fun (c4, t5) => ⟨38, envL [(1, (i64 c4)), (5, (.ptr 0 0 0 0)), (8, (.sl (List.map eRDecl p0))), (9, (i64 (Sh.len p0))), (10, (i64 t5))], [⟨0, 141, 1, [[.zc]]⟩]⟩) N (p1, 0) h1 (Wk.tr rfl) (fun _ hv => by rw [impl_conAt_L1] at hv; cases hv) ?_)
 rintro n ⟨c4, t5⟩ h1
 try dsimp only at h1 ⊢
 rw [impl_conAt_L1] at h1
 refine sr rfl fun K8 hK8 => ?_
 refine zq tb rfl ?_
 refine dn hK8 rfl ?_
 refine AW.seq fun K9 hK9 => ?_
 refine ci h1 rfl ?_ ?_ <;> clear h1
 ·intro b10 h1
  refine AW.skip (hK9 _ ?_)
  refine AW.seq fun K11 hK11 => ?_
  refine AW.block ?_
  refine sr rfl fun K12 hK12 => ?_
  refine zq tb rfl ?_
  obtain ⟨c13, gc13, h1⟩ := Sh.bind_some h1
  refine zx ei29 gc13 rfl rfl rfl ?_
  refine zq tb rfl ?_
  refine ao_alloc (m := 1) (st' := [⟨0, 141, 1, [[.zc]]⟩, ⟨0, 94, 3, [[(i64 0), (i64 0), .zc]]⟩]) go0 zi94 rfl rfl ?_
  refine zq tb rfl ?_
  refine ao_str (st' := [⟨0, 141, 1, [[.zc]]⟩, ⟨0, 94, 3, [(eRDecl c13)]⟩]) go0 ti94 rfl rfl rfl rfl rfl rfl (show 0 + 3 ≤ 3 by decide) rfl ?_
  refine dn hK12 rfl ?_
  refine AW.seq fun K14 hK14 => ?_
  refine AW.seq fun K15 hK15 => ?_
  obtain ⟨o17, h2, h1⟩ := Sh.bind_some h1
  have M17 : ∀ (t16 : Bool), o17 = t16 → ∀ s, Wk 0 s ⟨38, envL [(1, (i64 c4)), (5, (.ptr 0 0 0 0)), (6, (i64 t5)), (7, (.ptr 1 0 0 0)), (8, (.sl (List.map eRDecl p0))), (9, (i64 (Sh.len p0))), (10, (i64 t5)), (23, (.bool t16))], [⟨0, 141, 1, [[.zc]]⟩, ⟨0, 94, 3, [(eRDecl c13)]⟩]⟩ → K15 s := by
   intro t16 hq s hw
   subst o17
   try dsimp only at h1
   refine hK15 _ (AW.weaken hw ?_)
   refine ci h1 rfl ?_ ?_ <;> clear h1
   ·intro b18 h1
    refine AW.seq fun K19 hK19 => ?_
    refine AW.drawTailO 8 (by kernel_rfl) (by kernel_rfl) (by rfl) ?_
    iterate 5 refine yq tb rfl ?_
    obtain ⟨c20, gc20, h1⟩ := Sh.bind_some h1
    refine yx ei92 gc20 rfl rfl rfl ?_
    iterate 2 refine yq tb rfl ?_
    refine d_done ?_
    refine ao_str (st' := [⟨0, 141, 1, [(eRCon c20)]⟩, ⟨0, 94, 3, [(eRDecl c13)]⟩]) go0 ti141 rfl rfl rfl rfl rfl rfl (show 0 + 1 ≤ 1 by decide) rfl ?_
    refine dn hK19 rfl ?_
    replace h1 := Sh.some_eq h1
    subst o6
    try dsimp only [id] at h0
    replace h0 := Sh.some_eq h0
    subst r
    exact AW.ret (Exists.intro _ (And.intro ((Wk.permk (L := [(4, (i64 (Sh.w (t5 + 1)))), (5, (.ptr 0 0 0 0))]) (st' := [⟨0, 141, 1, [(eRCon c20)]⟩]) (st1 := [⟨0, 141, 1, [(eRCon c20)]⟩]) [0] rfl .nil (by decide) rfl rfl (.raw rfl rfl .nil) ⟨.rfl, .rfl, trivial⟩).trans (Wk.to (L := [(4, (i64 (Sh.w (t5 + 1)))), (5, (.ptr 0 0 0 0))]) ⟨.rfl, .rfl, trivial⟩)) (aq_ldpa (x := .tmp 5) (off := 0) (cs := (eRCon c20)) (vs := (eRCon c20)) ti141 rfl rfl rfl (show 0 + 1 ≤ 1 by decide) rfl _ rfl)))
   ·intro b18 h1
    refine AW.skip (hK14 _ ?_)
    refine AW.regionO (by rfl) ?_
    iterate 3 refine zq tb rfl ?_
    refine zl tb rfl rfl ?_
    iterate 2 refine zq tb rfl ?_
    refine dn hK11 rfl ?_
    refine AW.regionO (by rfl) ?_
    iterate 2 refine zq tb rfl ?_
    exact AO.done (xi (Sh.w (c4 - (Sh.len c13.cons)), Sh.w (t5 + 1)) h1 (Wk.permk (L := [(1, (i64 (Sh.w (c4 - (Sh.len c13.cons))))), (5, (.ptr 0 0 0 0)), (8, (.sl (List.map eRDecl p0))), (9, (i64 (Sh.len p0))), (10, (i64 (Sh.w (t5 + 1))))]) (st' := [⟨0, 141, 1, [[.zc]]⟩]) (st1 := [⟨0, 141, 1, [[.zc]]⟩]) [0] rfl .nil (by decide) rfl rfl (.raw rfl rfl .nil) ⟨.rfl, .rfl, .rfl, .rfl, .rfl, trivial⟩))
  refine AW.regionO (by rfl) ?_
  iterate 3 refine zq tb rfl ?_
  rcases Sh.ite_some h2 with ⟨b21, h2⟩ | ⟨b21, h2⟩
  ·refine zg tb b21 rfl ?_
   iterate 2 refine zg tb b21 rfl ?_
   refine ao_q (v := (i64 (Sh.len c13.cons))) (go1 rfl rfl b21) rfl (aq_lens sl92 rfl) ?_
   refine zg tb b21 rfl ?_
   refine zt b21 rfl ?_
   exact AO.done (M17 (decide (c4 < (Sh.len c13.cons))) (Sh.some_eq h2).symm _ (Wk.tr rfl))
  ·refine zs b21 rfl ?_
   iterate 4 refine zs b21 rfl ?_
   refine zf b21 rfl ?_
   exact AO.done (M17 false (Sh.some_eq h2).symm _ (Wk.tr rfl))
 ·intro b10 h1
  exact AW.exit (M6 () (Sh.some_eq h1).symm _ (Wk.tr rfl))
theorem impl_fieldsOf_ok {N : Nat} {p0 : (List RDecl)} {p1 : Int} {r : (List Int)} (h0 : impl_fieldsOf N p0 p1 = some r) : ACalls Try.prog 107 [(.sl (List.map eRDecl p0)), (i64 p1)] [] (fun v st => v = (.sl (List.map eI r)) ∧ st = []) := by
 unfold impl_fieldsOf at h0
 refine ACalls.intro Try.func107 rfl (by show 2 ≤ 15; decide) ?_
 show AW _ 0 _ (aret _ 0 Try.f107 _) ⟨15, _, _⟩
 refine AW.weaken (Wk.to (L := [(0, (.sl (List.map eRDecl p0))), (1, (i64 p1))]) ⟨.rfl, .rfl, trivial⟩) ?_
 refine sr rfl fun K1 hK1 => ?_
 refine zq tb rfl ?_
 refine dn hK1 rfl ?_
 refine sr rfl fun K2 hK2 => ?_
 iterate 2 refine zq tb rfl ?_
 obtain ⟨q3, gq3, h0⟩ := Sh.bind_some h0
 refine zc (v' := (.tup [(i64 q3.1), (.agg (eRCon q3.2))])) hb111 (impl_conAt_ok gq3) rfl rfl rfl ?_
 iterate 3 refine zq tb rfl ?_
 refine ao_alloc (m := 0) (st' := [⟨0, 141, 1, [[.zc]]⟩]) go0 zi141 rfl rfl ?_
 refine zq tb rfl ?_
 refine ao_str (st' := [⟨0, 141, 1, [(eRCon q3.2)]⟩]) go0 ti141 rfl rfl rfl rfl rfl rfl (show 0 + 1 ≤ 1 by decide) rfl ?_
 refine dn hK2 rfl ?_
 refine sr rfl fun K4 hK4 => ?_
 iterate 3 refine zq tb rfl ?_
 refine dn hK4 rfl ?_
 replace h0 := Sh.some_eq h0
 subst r
 exact AW.ret (xr (Wk.d0 [(4, (.sl (List.map eI q3.2.fields)))] rfl))
theorem impl_signatures_argsOf_ok {N : Nat} {p0 : RSignatures} {p1 : RInstr} {r : Int × Int} (h0 : impl_signatures_argsOf N p0 p1 = some r) : ACalls Try.prog 86 [(.agg (eRSignatures p0)), (.agg (eRInstr p1))] [] (fun v st => v = (.tup [(i64 r.1), (i64 r.2)]) ∧ st = []) := by
 unfold impl_signatures_argsOf at h0
 refine ACalls.intro Try.func86 rfl (by show 2 ≤ 53; decide) ?_
 show AW _ 0 _ (aret _ 0 Try.f86 _) ⟨53, _, _⟩
 refine AW.weaken (Wk.to (L := [(0, (.agg (eRSignatures p0))), (1, (.agg (eRInstr p1)))]) ⟨.rfl, .rfl, trivial⟩) ?_
 refine sr rfl fun K1 hK1 => ?_
 refine ao_box (m := 0) (st' := [⟨0, 99, 2, [(eRSignatures p0)]⟩]) go0 rfl rfl rfl rfl rfl ?_
 refine ao_box (m := 1) (st' := [⟨0, 99, 2, [(eRSignatures p0)]⟩, ⟨0, 63, 6, [(eRInstr p1)]⟩]) go0 rfl rfl rfl rfl rfl ?_
 iterate 2 refine zq tb rfl ?_
 refine dn hK1 rfl ?_
 refine sr rfl fun K2 hK2 => ?_
 refine zq tb rfl ?_
 refine dn hK2 rfl ?_
 refine AW.seq fun K3 hK3 => ?_
 obtain ⟨o5, h1, h0⟩ := Sh.cont_some h0
 have M5 : ∀ (n4 : Int), o5 = Sum.inr n4 → ∀ s, Wk 0 s ⟨53, envL [(6, (i64 n4))], []⟩ → K3 s := by
  intro n4 hq s hw
  subst o5
  try dsimp only at h0
  refine hK3 _ (AW.weaken hw ?_)
  refine sr rfl fun K6 hK6 => ?_
  iterate 4 refine zq tb rfl ?_
  refine dn hK6 rfl ?_
  replace h0 := Sh.some_eq h0
  subst r
  exact AW.ret (xr (Wk.to (L := [(4, (i64 n4)), (5, (i64 n4))]) ⟨.rfl, .rfl, trivial⟩))
 refine sr rfl fun K7 hK7 => ?_
 iterate 2 refine zq tb rfl ?_
 refine dn hK7 rfl ?_
 refine AW.block ?_
 refine AW.seq fun K8 hK8 => ?_
 obtain ⟨o10, h2, h1⟩ := Sh.bind_some h1
 have M10 : ∀ (t9 : Bool), o10 = t9 → ∀ s, Wk 0 s ⟨53, envL [(2, (.ptr 0 0 0 0)), (3, (.ptr 1 0 0 0)), (6, (i64 1)), (8, (i64 p1.op)), (9, (.bool t9))], [⟨0, 99, 2, [(eRSignatures p0)]⟩, ⟨0, 63, 6, [(eRInstr p1)]⟩]⟩ → K8 s := by
  intro t9 hq s hw
  subst o10
  try dsimp only at h1
  refine hK8 _ (AW.weaken hw ?_)
  refine ci h1 rfl ?_ ?_ <;> clear h1
  ·intro b11 h1
   refine AW.regionO (by rfl) ?_
   refine zq tb rfl ?_
   exact AO.done (M5 0 (Sh.some_eq h1).symm _ (Wk.d0 _ rfl))
  ·intro b11 h1
   refine AW.seq fun K12 hK12 => ?_
   obtain ⟨o14, h2, h1⟩ := Sh.bind_some h1
   have M14 : ∀ (t13 : Bool), o14 = t13 → ∀ s, Wk 0 s ⟨53, envL [(2, (.ptr 0 0 0 0)), (3, (.ptr 1 0 0 0)), (6, (i64 1)), (8, (i64 p1.op)), (12, (.bool t13))], [⟨0, 99, 2, [(eRSignatures p0)]⟩, ⟨0, 63, 6, [(eRInstr p1)]⟩]⟩ → K12 s := by
    intro t13 hq s hw
    subst o14
    try dsimp only at h1
    refine hK12 _ (AW.weaken hw ?_)
    refine ci h1 rfl ?_ ?_ <;> clear h1
    ·intro b15 h1
     refine AW.regionO (by rfl) ?_
     refine zq tb rfl ?_
     exact AO.done (M5 2 (Sh.some_eq h1).symm _ (Wk.d0 _ rfl))
    ·intro b15 h1
     refine sr rfl fun K16 hK16 => ?_
     iterate 2 refine zq tb rfl ?_
     refine dn hK16 rfl ?_
     refine ci h1 rfl ?_ ?_ <;> clear h1
     ·intro b17 h1
      refine AW.regionO (by rfl) ?_
      iterate 4 refine zq tb rfl ?_
      obtain ⟨q18, gq18, h1⟩ := Sh.bind_some h1
      refine zc hb107 (impl_fieldsOf_ok gq18) rfl rfl rfl ?_
      refine zl tb rfl rfl ?_
      refine zq tb rfl ?_
      exact AO.done (M5 (Sh.len q18) (Sh.some_eq h1).symm _ (Wk.d0 _ rfl))
     ·intro b17 h1
      refine AW.seq fun K19 hK19 => ?_
      obtain ⟨o21, h2, h1⟩ := Sh.bind_some h1
      have M21 : ∀ (t20 : Bool), o21 = t20 → ∀ s, Wk 0 s ⟨53, envL [(2, (.ptr 0 0 0 0)), (3, (.ptr 1 0 0 0)), (6, (i64 1)), (8, (i64 p1.op)), (26, (.bool t20))], [⟨0, 99, 2, [(eRSignatures p0)]⟩, ⟨0, 63, 6, [(eRInstr p1)]⟩]⟩ → K19 s := by
       intro t20 hq s hw
       subst o21
       try dsimp only at h1
       refine hK19 _ (AW.weaken hw ?_)
       refine ci h1 rfl ?_ ?_ <;> clear h1
       ·intro b22 h1
        refine AW.regionO (by rfl) ?_
        iterate 4 refine zq tb rfl ?_
        obtain ⟨c23, gc23, h1⟩ := Sh.bind_some h1
        refine zx ei97 gc23 rfl rfl rfl ?_
        iterate 2 refine zq tb rfl ?_
        refine zl tb rfl rfl ?_
        refine zq tb rfl ?_
        exact AO.done (M5 (Sh.len c23.params) (Sh.some_eq h1).symm _ (Wk.d0 _ rfl))
       ·intro b22 h1
        refine sr rfl fun K24 hK24 => ?_
        iterate 2 refine zq tb rfl ?_
        refine dn hK24 rfl ?_
        refine ci h1 rfl ?_ ?_ <;> clear h1
        ·intro b25 h1
         refine AW.regionO (by rfl) ?_
         iterate 4 refine zq tb rfl ?_
         obtain ⟨c26, gc26, h1⟩ := Sh.bind_some h1
         refine zx ei97 gc26 rfl rfl rfl ?_
         iterate 2 refine zq tb rfl ?_
         refine zl tb rfl rfl ?_
         iterate 2 refine zq tb rfl ?_
         exact AO.done (M5 (Sh.w ((Sh.len c26.params) - 1)) (Sh.some_eq h1).symm _ (Wk.d0 _ rfl))
        ·intro b25 h1
         refine AW.seq fun K27 hK27 => ?_
         obtain ⟨o29, h2, h1⟩ := Sh.bind_some h1
         have M29 : ∀ (t28 : Bool), o29 = t28 → ∀ s, Wk 0 s ⟨53, envL [(6, (i64 1)), (48, (.bool t28))], []⟩ → K27 s := by
          intro t28 hq s hw
          subst o29
          try dsimp only at h1
          refine hK27 _ (AW.weaken hw ?_)
          refine ci h1 rfl ?_ ?_ <;> clear h1
          ·intro b30 h1
           refine sr rfl fun K31 hK31 => ?_
           iterate 2 refine zq tb rfl ?_
           refine dn hK31 rfl ?_
           replace h1 := Sh.some_eq h1
           subst o5
           try dsimp only [id] at h0
           replace h0 := Sh.some_eq h0
           subst r
           exact AW.ret (xr (Wk.to (L := [(4, (i64 1)), (5, (i64 4))]) ⟨.rfl, .rfl, trivial⟩))
          ·intro b30 h1
           exact AW.skip (M5 1 (Sh.some_eq h1).symm _ (Wk.tr rfl))
         refine sr rfl fun K32 hK32 => ?_
         iterate 2 refine zq tb rfl ?_
         refine dn hK32 rfl ?_
         refine ci h2 rfl ?_ ?_ <;> clear h2
         ·intro b33 h2
          exact AW.skip (M29 true (Sh.some_eq h2).symm _ (by refine Wk.trans (Wk.permk (L := [(6, (i64 1)), (48, (.bool (decide (p1.op = 16))))]) (st' := []) (st1 := []) [] rfl .nil (by decide) rfl rfl .nil ⟨.rfl, .rfl, trivial⟩) ?_; exact Wk.to (L := [(6, (i64 1)), (48, (.bool true))]) ⟨.rfl, (.of (congrArg AV.bool b33)), trivial⟩))
         ·intro b33 h2
          refine AW.regionO (by rfl) ?_
          iterate 2 refine zq tb rfl ?_
          exact AO.done (M29 (decide (p1.op = 17)) (Sh.some_eq h2).symm _ (Wk.d0 _ rfl))
      refine sr rfl fun K34 hK34 => ?_
      iterate 2 refine zq tb rfl ?_
      refine dn hK34 rfl ?_
      refine ci h2 rfl ?_ ?_ <;> clear h2
      ·intro b35 h2
       exact AW.skip (M21 true (Sh.some_eq h2).symm _ (Wk.to (L := [(2, (.ptr 0 0 0 0)), (3, (.ptr 1 0 0 0)), (6, (i64 1)), (8, (i64 p1.op)), (26, (.bool true))]) ⟨.rfl, .rfl, .rfl, .rfl, (.of (congrArg AV.bool b35)), trivial⟩))
      ·intro b35 h2
       refine AW.regionO (by rfl) ?_
       iterate 2 refine zq tb rfl ?_
       exact AO.done (M21 (decide (p1.op = 24)) (Sh.some_eq h2).symm _ (Wk.tr rfl))
   refine sr rfl fun K36 hK36 => ?_
   iterate 2 refine zq tb rfl ?_
   refine dn hK36 rfl ?_
   refine ci h2 rfl ?_ ?_ <;> clear h2
   ·intro b37 h2
    exact AW.skip (M14 true (Sh.some_eq h2).symm _ (Wk.to (L := [(2, (.ptr 0 0 0 0)), (3, (.ptr 1 0 0 0)), (6, (i64 1)), (8, (i64 p1.op)), (12, (.bool true))]) ⟨.rfl, .rfl, .rfl, .rfl, (.of (congrArg AV.bool b37)), trivial⟩))
   ·intro b37 h2
    refine sr rfl fun K38 hK38 => ?_
    iterate 2 refine zq tb rfl ?_
    refine dn hK38 rfl ?_
    refine ci h2 rfl ?_ ?_ <;> clear h2
    ·intro b39 h2
     exact AW.skip (M14 true (Sh.some_eq h2).symm _ (Wk.to (L := [(2, (.ptr 0 0 0 0)), (3, (.ptr 1 0 0 0)), (6, (i64 1)), (8, (i64 p1.op)), (12, (.bool true))]) ⟨.rfl, .rfl, .rfl, .rfl, (.of (congrArg AV.bool b39)), trivial⟩))
    ·intro b39 h2
     refine sr rfl fun K40 hK40 => ?_
     iterate 2 refine zq tb rfl ?_
     refine dn hK40 rfl ?_
     refine ci h2 rfl ?_ ?_ <;> clear h2
     ·intro b41 h2
      exact AW.skip (M14 true (Sh.some_eq h2).symm _ (Wk.to (L := [(2, (.ptr 0 0 0 0)), (3, (.ptr 1 0 0 0)), (6, (i64 1)), (8, (i64 p1.op)), (12, (.bool true))]) ⟨.rfl, .rfl, .rfl, .rfl, (.of (congrArg AV.bool b41)), trivial⟩))
     ·intro b41 h2
      refine sr rfl fun K42 hK42 => ?_
      iterate 2 refine zq tb rfl ?_
      refine dn hK42 rfl ?_
      refine ci h2 rfl ?_ ?_ <;> clear h2
      ·intro b43 h2
       exact AW.skip (M14 true (Sh.some_eq h2).symm _ (Wk.to (L := [(2, (.ptr 0 0 0 0)), (3, (.ptr 1 0 0 0)), (6, (i64 1)), (8, (i64 p1.op)), (12, (.bool true))]) ⟨.rfl, .rfl, .rfl, .rfl, (.of (congrArg AV.bool b43)), trivial⟩))
      ·intro b43 h2
       refine AW.regionO (by rfl) ?_
       iterate 2 refine zq tb rfl ?_
       exact AO.done (M14 (decide (p1.op = 11)) (Sh.some_eq h2).symm _ (Wk.tr rfl))
 refine sr rfl fun K44 hK44 => ?_
 iterate 2 refine zq tb rfl ?_
 refine dn hK44 rfl ?_
 refine ci h2 rfl ?_ ?_ <;> clear h2
 ·intro b45 h2
  exact AW.skip (M10 true (Sh.some_eq h2).symm _ (Wk.to (L := [(2, (.ptr 0 0 0 0)), (3, (.ptr 1 0 0 0)), (6, (i64 1)), (8, (i64 p1.op)), (9, (.bool true))]) ⟨.rfl, .rfl, .rfl, .rfl, (.of (congrArg AV.bool b45)), trivial⟩))
 ·intro b45 h2
  refine AW.regionO (by rfl) ?_
  iterate 2 refine zq tb rfl ?_
  exact AO.done (M10 (decide (p1.op = 22)) (Sh.some_eq h2).symm _ (Wk.tr rfl))
theorem impl_signatures_instrValid_ok {N : Nat} {p0 : RSignatures} {p1 : RProc} {p2 : Int} {p3 : RInstr} {r : Bool} (h0 : impl_signatures_instrValid N p0 p1 p2 p3 = some r) : ACalls Try.prog 57 [(.agg (eRSignatures p0)), (.agg (eRProc p1)), (i64 p2), (.agg (eRInstr p3))] [] (fun v st => v = (.bool r) ∧ st = []) := by
 unfold impl_signatures_instrValid at h0
 refine ACalls.intro Try.func57 rfl (by show 4 ≤ 140; decide) ?_
 show AW _ 0 _ (aret _ 0 Try.f57 _) ⟨140, _, _⟩
 refine AW.weaken (Wk.to (L := [(0, (.agg (eRSignatures p0))), (1, (.agg (eRProc p1))), (2, (i64 p2)), (3, (.agg (eRInstr p3)))]) ⟨.rfl, .rfl, .rfl, .rfl, trivial⟩) ?_
 refine sr rfl fun K1 hK1 => ?_
 refine ao_box (m := 0) (st' := [⟨0, 99, 2, [(eRSignatures p0)]⟩]) go0 rfl rfl rfl rfl rfl ?_
 refine ao_box (m := 1) (st' := [⟨0, 99, 2, [(eRSignatures p0)]⟩, ⟨0, 55, 5, [(eRProc p1)]⟩]) go0 rfl rfl rfl rfl rfl ?_
 refine ao_box (m := 2) (st' := [⟨0, 99, 2, [(eRSignatures p0)]⟩, ⟨0, 55, 5, [(eRProc p1)]⟩, ⟨0, 3, 1, [[(i64 p2)]]⟩]) go0 rfl rfl rfl rfl rfl ?_
 refine ao_box (m := 3) (st' := [⟨0, 99, 2, [(eRSignatures p0)]⟩, ⟨0, 55, 5, [(eRProc p1)]⟩, ⟨0, 3, 1, [[(i64 p2)]]⟩, ⟨0, 63, 6, [(eRInstr p3)]⟩]) go0 rfl rfl rfl rfl rfl ?_
 refine zq tb rfl ?_
 refine dn hK1 rfl ?_
 refine AW.seq fun K2 hK2 => ?_
 refine AW.seq fun K3 hK3 => ?_
 obtain ⟨o5, h1, h0⟩ := Sh.bind_some h0
 have M5 : ∀ (t4 : Bool), o5 = t4 → ∀ s, Wk 0 s ⟨140, envL [(4, (.ptr 0 0 0 0)), (5, (.ptr 1 0 0 0)), (6, (.ptr 2 0 0 0)), (7, (.ptr 3 0 0 0)), (41, (.bool t4))], [⟨0, 99, 2, [(eRSignatures p0)]⟩, ⟨0, 55, 5, [(eRProc p1)]⟩, ⟨0, 3, 1, [[(i64 p2)]]⟩, ⟨0, 63, 6, [(eRInstr p3)]⟩]⟩ → K3 s := by
  intro t4 hq s hw
  subst o5
  try dsimp only at h0
  refine hK3 _ (AW.weaken hw ?_)
  refine ci h0 rfl ?_ ?_ <;> clear h0
  ·intro b6 h0
   refine sr rfl fun K7 hK7 => ?_
   refine zq tb rfl ?_
   refine dn hK7 rfl ?_
   replace h0 := Sh.some_eq h0
   subst r
   exact AW.ret (xr (Wk.d0 [(8, (.bool false))] rfl))
  ·intro b6 h0
   refine AW.skip (hK2 _ ?_)
   refine AW.seq fun K8 hK8 => ?_
   refine AW.seq fun K9 hK9 => ?_
   obtain ⟨o11, h1, h0⟩ := Sh.bind_some h0
   have M11 : ∀ (t10 : Bool), o11 = t10 → ∀ s, Wk 0 s ⟨140, envL [(4, (.ptr 0 0 0 0)), (5, (.ptr 1 0 0 0)), (6, (.ptr 2 0 0 0)), (7, (.ptr 3 0 0 0)), (84, (.bool t10))], [⟨0, 99, 2, [(eRSignatures p0)]⟩, ⟨0, 55, 5, [(eRProc p1)]⟩, ⟨0, 3, 1, [[(i64 p2)]]⟩, ⟨0, 63, 6, [(eRInstr p3)]⟩]⟩ → K9 s := by
    intro t10 hq s hw
    subst o11
    try dsimp only at h0
    refine hK9 _ (AW.weaken hw ?_)
    refine ci h0 rfl ?_ ?_ <;> clear h0
    ·intro b12 h0
     refine sr rfl fun K13 hK13 => ?_
     refine zq tb rfl ?_
     refine dn hK13 rfl ?_
     replace h0 := Sh.some_eq h0
     subst r
     exact AW.ret (xr (Wk.d0 [(8, (.bool false))] rfl))
    ·intro b12 h0
     refine AW.skip (hK8 _ ?_)
     refine AW.seq fun K14 hK14 => ?_
     refine sr rfl fun K15 hK15 => ?_
     iterate 2 refine zq tb rfl ?_
     refine zl tb rfl rfl ?_
     refine zq tb rfl ?_
     refine dn hK15 rfl ?_
     obtain ⟨o17, h1, h0⟩ := Sh.cont_some h0
     have M17 : ∀ (_ : Unit), o17 = Sum.inr () → ∀ s, Wk 0 s ⟨140, envL [(4, (.ptr 0 0 0 0)), (5, (.ptr 1 0 0 0)), (6, (.ptr 2 0 0 0)), (7, (.ptr 3 0 0 0))], [⟨0, 99, 2, [(eRSignatures p0)]⟩, ⟨0, 55, 5, [(eRProc p1)]⟩, ⟨0, 3, 1, [[(i64 p2)]]⟩, ⟨0, 63, 6, [(eRInstr p3)]⟩]⟩ → K14 s := by
      intro _ hq s hw
      subst o17
      try dsimp only at h0
      refine hK14 _ (AW.weaken hw ?_)
      refine sr rfl fun K18 hK18 => ?_
      refine zz (.fn 82 [(.ptr 2 0 0 0), (.ptr 1 0 0 0)]) (aq_fn rfl) rfl ?_
      refine ao_alloc (m := 4) (st' := [⟨0, 99, 2, [(eRSignatures p0)]⟩, ⟨0, 55, 5, [(eRProc p1)]⟩, ⟨0, 3, 1, [[(i64 p2)]]⟩, ⟨0, 63, 6, [(eRInstr p3)]⟩, ⟨0, 108, 1, [[.nilf]]⟩]) go0 zi108 rfl rfl ?_
      refine ao_str (st' := [⟨0, 99, 2, [(eRSignatures p0)]⟩, ⟨0, 55, 5, [(eRProc p1)]⟩, ⟨0, 3, 1, [[(i64 p2)]]⟩, ⟨0, 63, 6, [(eRInstr p3)]⟩, ⟨0, 108, 1, [[(.fn 82 [(.ptr 2 0 0 0), (.ptr 1 0 0 0)])]]⟩]) go0 ti108 rfl rfl rfl rfl rfl rfl (show 0 + 1 ≤ 1 by decide) rfl ?_
      refine dn hK18 rfl ?_
      refine AW.seq fun K19 hK19 => ?_
      refine AW.seq fun K20 hK20 => ?_
      obtain ⟨o22, h1, h0⟩ := Sh.bind_some h0
      have M22 : ∀ (t21 : Bool), o22 = t21 → ∀ s, Wk 0 s ⟨140, envL [(4, (.ptr 0 0 0 0)), (7, (.ptr 3 0 0 0)), (11, (.ptr 4 0 0 0)), (116, (.bool t21))], [⟨0, 99, 2, [(eRSignatures p0)]⟩, ⟨0, 55, 5, [(eRProc p1)]⟩, ⟨0, 3, 1, [[(i64 p2)]]⟩, ⟨0, 63, 6, [(eRInstr p3)]⟩, ⟨0, 108, 1, [[(.fn 82 [(.ptr 2 0 0 0), (.ptr 1 0 0 0)])]]⟩]⟩ → K20 s := by
       intro t21 hq s hw
       subst o22
       try dsimp only at h0
       refine hK20 _ (AW.weaken hw ?_)
       refine ci h0 rfl ?_ ?_ <;> clear h0
       ·intro b23 h0
        refine sr rfl fun K24 hK24 => ?_
        refine zq tb rfl ?_
        refine dn hK24 rfl ?_
        replace h0 := Sh.some_eq h0
        subst r
        exact AW.ret (xr (Wk.d0 [(8, (.bool false))] rfl))
       ·intro b23 h0
        refine AW.skip (hK19 _ ?_)
        refine AW.seq fun K25 hK25 => ?_
        refine sr rfl fun K26 hK26 => ?_
        iterate 3 refine zq tb rfl ?_
        obtain ⟨q27, gq27, h0⟩ := Sh.bind_some h0
        refine ao_calls (rowsP := [⟨0, 3, 1, [[(i64 p2)]]⟩, ⟨0, 55, 5, [(eRProc p1)]⟩]) (rows0 := [⟨0, 3, 1, [[(i64 p2)]]⟩, ⟨0, 55, 5, [(eRProc p1)]⟩]) (rows1 := [⟨0, 3, 1, [[(i64 p2)]]⟩, ⟨0, 55, 5, [(eRProc p1)]⟩]) (rows2 := []) (rows1' := [⟨0, 3, 1, [[(i64 p2)]]⟩, ⟨0, 55, 5, [(eRProc p1)]⟩]) (rows2' := []) (st' := [⟨0, 99, 2, [(eRSignatures p0)]⟩, ⟨0, 55, 5, [(eRProc p1)]⟩, ⟨0, 3, 1, [[(i64 p2)]]⟩, ⟨0, 63, 6, [(eRInstr p3)]⟩, ⟨0, 108, 1, [[(.fn 82 [(.ptr 2 0 0 0), (.ptr 1 0 0 0)])]]⟩]) (v' := (.bool q27)) [2, 1] go0 hb85 (impl_signatures_numValid_ok gq27) rfl (by decide) rfl rfl (.raw rfl rfl (.raw rfl rfl .nil)) rfl rfl (.raw rfl rfl (.raw rfl rfl .nil)) .nil rfl rfl ?_
        refine zq tb rfl ?_
        refine dn hK26 rfl ?_
        refine ci h0 rfl ?_ ?_ <;> clear h0
        ·intro b28 h0
         have b29 : q27 = false := by simpa using b28
         refine sr rfl fun K30 hK30 => ?_
         refine zq tb rfl ?_
         refine dn hK30 rfl ?_
         replace h0 := Sh.some_eq h0
         subst r
         exact AW.ret (xr (Wk.d0 [(8, (.bool false))] rfl))
        ·intro b28 h0
         have b31 : q27 = true := by simpa using b28
         refine AW.skip (hK25 _ ?_)
         refine sr rfl fun K32 hK32 => ?_
         iterate 2 refine zq tb rfl ?_
         obtain ⟨q33, gq33, h0⟩ := Sh.bind_some h0
         refine zc (v' := (.tup [(i64 q33.1), (i64 q33.2)])) hb86 (impl_signatures_argsOf_ok gq33) rfl rfl rfl ?_
         iterate 5 refine zq tb rfl ?_
         refine dn hK32 rfl ?_
         refine AW.seq fun K34 hK34 => ?_
         obtain ⟨o36, h1, h0⟩ := Sh.bind_some h0
         have M36 : ∀ (t35 : Bool), o36 = t35 → ∀ s, Wk 0 s ⟨140, envL [(8, (.bool t35))], []⟩ → K34 s := by
          intro t35 hq s hw
          subst o36
          try dsimp only at h0
          refine hK34 _ (AW.weaken hw ?_)
          replace h0 := Sh.some_eq h0
          subst r
          exact AW.ret (xr (Wk.to (L := [(8, (.bool t35))]) ⟨.rfl, trivial⟩))
         refine AW.regionO (by rfl) ?_
         iterate 2 refine zq tb rfl ?_
         refine zl tb rfl rfl ?_
         iterate 3 refine zq tb rfl ?_
         rcases Sh.ite_some h1 with ⟨b37, h1⟩ | ⟨b37, h1⟩
         ·refine zg tb b37 rfl ?_
          refine zg tb b37 rfl ?_
          refine ao_q (v := (i64 (Sh.len p3.args))) (go1 rfl rfl b37) rfl (aq_lens sl27 rfl) ?_
          iterate 2 refine zg tb b37 rfl ?_
          refine zt b37 rfl ?_
          refine zq tb rfl ?_
          exact AO.done (M36 (decide ((Sh.len p3.args) ≤ q33.2)) (Sh.some_eq h1).symm _ (Wk.d0 _ rfl))
         ·refine zs b37 rfl ?_
          iterate 4 refine zs b37 rfl ?_
          refine zf b37 rfl ?_
          refine zq tb rfl ?_
          exact AO.done (M36 false (Sh.some_eq h1).symm _ (Wk.d0 _ rfl))
      refine AW.regionO (by rfl) ?_
      iterate 2 refine zq tb rfl ?_
      refine zl tb rfl rfl ?_
      iterate 2 refine zq tb rfl ?_
      rcases Sh.ite_some h1 with ⟨b38, h1⟩ | ⟨b38, h1⟩
      ·refine zg tb b38 rfl ?_
       iterate 2 refine zg tb b38 rfl ?_
       refine zt b38 rfl ?_
       refine zq tb rfl ?_
       rcases Sh.ite_some h1 with ⟨b39, h1⟩ | ⟨b39, h1⟩
       ·refine zs b39 rfl ?_
        iterate 3 refine zs b39 rfl ?_
        refine zt b39 rfl ?_
        exact AO.done (M22 true (Sh.some_eq h1).symm _ (Wk.tr rfl))
       ·refine zg tb b39 rfl ?_
        refine zg tb b39 rfl ?_
        refine ao_q (v := (.fn 84 [(.ptr 4 0 0 0)])) (go1 rfl rfl b39) rfl (aq_fn rfl) ?_
        obtain ⟨q40, gq40, h1⟩ := Sh.bind_some h1
        refine ao_calls (rowsP := [⟨0, 108, 1, [[(.fn 82 [(.ptr 2 0 0 0), (.ptr 1 0 0 0)])]]⟩, ⟨0, 3, 1, [[(i64 p2)]]⟩, ⟨0, 55, 5, [(eRProc p1)]⟩]) (rows0 := [⟨0, 108, 1, [[(.fn 82 [(.ptr 1 0 0 0), (.ptr 2 0 0 0)])]]⟩, ⟨0, 3, 1, [[(i64 p2)]]⟩, ⟨0, 55, 5, [(eRProc p1)]⟩]) (rows1 := [⟨0, 108, 1, [[(.fn 82 [(.ptr 1 0 0 0), (.ptr 2 0 0 0)])]]⟩, ⟨0, 3, 1, [[(i64 p2)]]⟩, ⟨0, 55, 5, [(eRProc p1)]⟩]) (rows2 := []) (rows1' := [⟨0, 108, 1, [[(.fn 82 [(.ptr 2 0 0 0), (.ptr 1 0 0 0)])]]⟩, ⟨0, 3, 1, [[(i64 p2)]]⟩, ⟨0, 55, 5, [(eRProc p1)]⟩]) (rows2' := []) (st' := [⟨0, 99, 2, [(eRSignatures p0)]⟩, ⟨0, 55, 5, [(eRProc p1)]⟩, ⟨0, 3, 1, [[(i64 p2)]]⟩, ⟨0, 63, 6, [(eRInstr p3)]⟩, ⟨0, 108, 1, [[(.fn 82 [(.ptr 2 0 0 0), (.ptr 1 0 0 0)])]]⟩]) (v' := (.bool q40)) [4, 2, 1] (go1 rfl rfl b39) hb83 (slices_ContainsFunc_int_int_ok gq40) rfl (by decide) rfl rfl (.raw rfl rfl (.raw rfl rfl (.raw rfl rfl .nil))) rfl rfl (.raw rfl rfl (.raw rfl rfl (.raw rfl rfl .nil))) .nil rfl rfl ?_
        refine zf b39 rfl ?_
        exact AO.done (M22 q40 (Sh.some_eq h1).symm _ (Wk.tr rfl))
      ·refine zs b38 rfl ?_
       iterate 2 refine zs b38 rfl ?_
       refine zf b38 rfl ?_
       refine zq tb rfl ?_
       iterate 2 refine zg tb rfl rfl ?_
       refine ao_q (v := (.fn 84 [(.ptr 4 0 0 0)])) (go1 rfl rfl rfl) rfl (aq_fn rfl) ?_
       obtain ⟨q41, gq41, h1⟩ := Sh.bind_some h1
       refine ao_calls (rowsP := [⟨0, 108, 1, [[(.fn 82 [(.ptr 2 0 0 0), (.ptr 1 0 0 0)])]]⟩, ⟨0, 3, 1, [[(i64 p2)]]⟩, ⟨0, 55, 5, [(eRProc p1)]⟩]) (rows0 := [⟨0, 108, 1, [[(.fn 82 [(.ptr 1 0 0 0), (.ptr 2 0 0 0)])]]⟩, ⟨0, 3, 1, [[(i64 p2)]]⟩, ⟨0, 55, 5, [(eRProc p1)]⟩]) (rows1 := [⟨0, 108, 1, [[(.fn 82 [(.ptr 1 0 0 0), (.ptr 2 0 0 0)])]]⟩, ⟨0, 3, 1, [[(i64 p2)]]⟩, ⟨0, 55, 5, [(eRProc p1)]⟩]) (rows2 := []) (rows1' := [⟨0, 108, 1, [[(.fn 82 [(.ptr 2 0 0 0), (.ptr 1 0 0 0)])]]⟩, ⟨0, 3, 1, [[(i64 p2)]]⟩, ⟨0, 55, 5, [(eRProc p1)]⟩]) (rows2' := []) (st' := [⟨0, 99, 2, [(eRSignatures p0)]⟩, ⟨0, 55, 5, [(eRProc p1)]⟩, ⟨0, 3, 1, [[(i64 p2)]]⟩, ⟨0, 63, 6, [(eRInstr p3)]⟩, ⟨0, 108, 1, [[(.fn 82 [(.ptr 2 0 0 0), (.ptr 1 0 0 0)])]]⟩]) (v' := (.bool q41)) [4, 2, 1] (go1 rfl rfl rfl) hb83 (slices_ContainsFunc_int_int_ok gq41) rfl (by decide) rfl rfl (.raw rfl rfl (.raw rfl rfl (.raw rfl rfl .nil))) rfl rfl (.raw rfl rfl (.raw rfl rfl (.raw rfl rfl .nil))) .nil rfl rfl ?_
       refine zf rfl rfl ?_
       exact AO.done (M22 q41 (Sh.some_eq h1).symm _ (Wk.tr rfl))
     refine AW.block (AW.loopF (σ := Int) (fun n v => impl_signatures_instrValid_L1 p1 p3 n v = some o17) (fun t16 => ⟨140, envL [(4, (.ptr 0 0 0 0)), (5, (.ptr 1 0 0 0)), (6, (.ptr 2 0 0 0)), (7, (.ptr 3 0 0 0)), (86, (.sl (List.map eI p3.args))), (87, (i64 (Sh.len p3.args))), (88, (i64 t16))], [⟨0, 99, 2, [(eRSignatures p0)]⟩, ⟨0, 55, 5, [(eRProc p1)]⟩, ⟨0, 3, 1, [[(i64 p2)]]⟩, ⟨0, 63, 6, [(eRInstr p3)]⟩]⟩) N 0 h1 (Wk.tr rfl) (fun _ hv => by rw [impl_signatures_instrValid_L1] at hv; cases hv) ?_)
     rintro n t16 h1
     try dsimp only at h1 ⊢
     rw [impl_signatures_instrValid_L1] at h1
     refine sr rfl fun K42 hK42 => ?_
     refine zq tb rfl ?_
     refine dn hK42 rfl ?_
     refine AW.seq fun K43 hK43 => ?_
     refine ci h1 rfl ?_ ?_ <;> clear h1
     ·intro b44 h1
      refine AW.skip (hK43 _ ?_)
      refine AW.seq fun K45 hK45 => ?_
      refine AW.block ?_
      refine sr rfl fun K46 hK46 => ?_
      obtain ⟨c47, gc47, h1⟩ := Sh.bind_some h1
      refine zx ei27 gc47 rfl rfl rfl ?_
      iterate 2 refine zq tb rfl ?_
      refine dn hK46 rfl ?_
      refine AW.seq fun K48 hK48 => ?_
      obtain ⟨o50, h2, h1⟩ := Sh.bind_some h1
      have M50 : ∀ (t49 : Bool), o50 = t49 → ∀ s, Wk 0 s ⟨140, envL [(4, (.ptr 0 0 0 0)), (5, (.ptr 1 0 0 0)), (6, (.ptr 2 0 0 0)), (7, (.ptr 3 0 0 0)), (86, (.sl (List.map eI p3.args))), (87, (i64 (Sh.len p3.args))), (88, (i64 t16)), (99, (.bool t49))], [⟨0, 99, 2, [(eRSignatures p0)]⟩, ⟨0, 55, 5, [(eRProc p1)]⟩, ⟨0, 3, 1, [[(i64 p2)]]⟩, ⟨0, 63, 6, [(eRInstr p3)]⟩]⟩ → K48 s := by
       intro t49 hq s hw
       subst o50
       try dsimp only at h1
       refine hK48 _ (AW.weaken hw ?_)
       refine ci h1 rfl ?_ ?_ <;> clear h1
       ·intro b51 h1
        refine sr rfl fun K52 hK52 => ?_
        refine zq tb rfl ?_
        refine dn hK52 rfl ?_
        replace h1 := Sh.some_eq h1
        subst o17
        try dsimp only [id] at h0
        replace h0 := Sh.some_eq h0
        subst r
        exact AW.ret (xr (Wk.d0 [(8, (.bool false))] rfl))
       ·intro b51 h1
        refine AW.skip (hK45 _ ?_)
        refine AW.regionO (by rfl) ?_
        iterate 2 refine zq tb rfl ?_
        exact AO.done (xi (Sh.w (t16 + 1)) h1 (Wk.tr rfl))
      refine AW.regionO (by rfl) ?_
      iterate 3 refine zq tb rfl ?_
      rcases Sh.ite_some h2 with ⟨b53, h2⟩ | ⟨b53, h2⟩
      ·refine zs b53 rfl ?_
       iterate 3 refine zs b53 rfl ?_
       refine zt b53 rfl ?_
       exact AO.done (M50 true (Sh.some_eq h2).symm _ (Wk.tr rfl))
      ·refine zg tb b53 rfl ?_
       iterate 3 refine zg tb b53 rfl ?_
       refine zf b53 rfl ?_
       exact AO.done (M50 (decide (p1.regs ≤ c47)) (Sh.some_eq h2).symm _ (Wk.tr rfl))
     ·intro b44 h1
      exact AW.exit (M17 () (Sh.some_eq h1).symm _ (Wk.tr rfl))
   refine AW.regionO (by rfl) ?_
   iterate 4 refine zq tb rfl ?_
   rcases Sh.ite_some h1 with ⟨b54, h1⟩ | ⟨b54, h1⟩
   ·refine zs b54 rfl ?_
    iterate 4 refine zs b54 rfl ?_
    refine zt b54 rfl ?_
    refine zq tb rfl ?_
    iterate 4 refine zs rfl rfl ?_
    iterate 4 refine zn rfl ?_
    refine zs rfl rfl ?_
    refine zt rfl rfl ?_
    refine zq tb rfl ?_
    iterate 3 refine zs rfl rfl ?_
    refine zt rfl rfl ?_
    refine zq tb rfl ?_
    iterate 5 refine zs rfl rfl ?_
    refine zt rfl rfl ?_
    refine zq tb rfl ?_
    iterate 4 refine zs rfl rfl ?_
    iterate 3 refine zn rfl ?_
    refine zs rfl rfl ?_
    refine zt rfl rfl ?_
    exact AO.done (M11 true (Sh.some_eq h1).symm _ (Wk.tr rfl))
   ·refine zg tb b54 rfl ?_
    iterate 4 refine zg tb b54 rfl ?_
    refine zf b54 rfl ?_
    refine zq tb rfl ?_
    rcases Sh.ite_some h1 with ⟨b55, h1⟩ | ⟨b55, h1⟩
    ·refine zs b55 rfl ?_
     iterate 3 refine zs b55 rfl ?_
     iterate 4 refine zn rfl ?_
     refine zs b55 rfl ?_
     refine zt b55 rfl ?_
     refine zq tb rfl ?_
     iterate 3 refine zs rfl rfl ?_
     refine zt rfl rfl ?_
     refine zq tb rfl ?_
     iterate 5 refine zs rfl rfl ?_
     refine zt rfl rfl ?_
     refine zq tb rfl ?_
     iterate 4 refine zs rfl rfl ?_
     iterate 3 refine zn rfl ?_
     refine zs rfl rfl ?_
     refine zt rfl rfl ?_
     exact AO.done (M11 true (Sh.some_eq h1).symm _ (Wk.tr rfl))
    ·refine zg tb b55 rfl ?_
     iterate 3 refine zg tb b55 rfl ?_
     rcases Sh.ite_some h1 with ⟨b56, h1⟩ | ⟨b56, h1⟩
     ·refine zg tb b56 rfl ?_
      refine zg tb b56 rfl ?_
      obtain ⟨q57, gq57, h1⟩ := Sh.bind_some h1
      refine zd b56 hb66 (impl_setsRegister_ok gq57) rfl rfl rfl rfl ?_
      refine zg tb b56 rfl ?_
      refine ao_q (v := (.bool (!q57))) (go1 rfl rfl b55) rfl (aq_pkt rfl b56 rfl) ?_
      refine zf b55 rfl ?_
      refine zq tb rfl ?_
      rcases Sh.ite_some h1 with ⟨b58, h1⟩ | ⟨b58, h1⟩
      ·refine zs b58 rfl ?_
       iterate 2 refine zs b58 rfl ?_
       refine zt b58 rfl ?_
       refine zq tb rfl ?_
       iterate 5 refine zs rfl rfl ?_
       refine zt rfl rfl ?_
       refine zq tb rfl ?_
       iterate 4 refine zs rfl rfl ?_
       iterate 3 refine zn rfl ?_
       refine zs rfl rfl ?_
       refine zt rfl rfl ?_
       exact AO.done (M11 true (Sh.some_eq h1).symm _ (Wk.tr rfl))
      ·refine zg tb b58 rfl ?_
       iterate 2 refine zg tb b58 rfl ?_
       refine zf b58 rfl ?_
       refine zq tb rfl ?_
       rcases Sh.ite_some h1 with ⟨b59, h1⟩ | ⟨b59, h1⟩
       ·refine zs b59 rfl ?_
        iterate 4 refine zs b59 rfl ?_
        refine zt b59 rfl ?_
        refine zq tb rfl ?_
        iterate 4 refine zs rfl rfl ?_
        iterate 3 refine zn rfl ?_
        refine zs rfl rfl ?_
        refine zt rfl rfl ?_
        exact AO.done (M11 true (Sh.some_eq h1).symm _ (Wk.tr rfl))
       ·refine zg tb b59 rfl ?_
        iterate 4 refine zg tb b59 rfl ?_
        refine zf b59 rfl ?_
        refine zq tb rfl ?_
        rcases Sh.ite_some h1 with ⟨b60, h1⟩ | ⟨b60, h1⟩
        ·refine zs b60 rfl ?_
         iterate 3 refine zs b60 rfl ?_
         iterate 3 refine zn rfl ?_
         refine zs b60 rfl ?_
         refine zt b60 rfl ?_
         exact AO.done (M11 true (Sh.some_eq h1).symm _ (Wk.tr rfl))
        ·refine zg tb b60 rfl ?_
         iterate 3 refine zg tb b60 rfl ?_
         rcases Sh.ite_some h1 with ⟨b61, h1⟩ | ⟨b61, h1⟩
         ·refine zg tb b61 rfl ?_
          iterate 2 refine zg tb b61 rfl ?_
          refine ao_q (v := (.bool (!decide (p3.op = 6)))) (go1 rfl rfl b60) rfl (aq_pkt rfl b61 rfl) ?_
          refine zf b60 rfl ?_
          exact AO.done (M11 (!decide (p3.op = 6)) (Sh.some_eq h1).symm _ (Wk.tr rfl))
         ·refine zs b61 rfl ?_
          iterate 2 refine zs b61 rfl ?_
          refine ao_q (v := (.bool false)) (go1 rfl rfl b60) rfl (aq_pkf rfl b61 rfl) ?_
          refine zf b60 rfl ?_
          exact AO.done (M11 false (Sh.some_eq h1).symm _ (Wk.tr rfl))
     ·refine zs b56 rfl ?_
      iterate 3 refine zs b56 rfl ?_
      refine ao_q (v := (.bool false)) (go1 rfl rfl b55) rfl (aq_pkf rfl b56 rfl) ?_
      refine zf b55 rfl ?_
      refine zq tb rfl ?_
      iterate 3 refine zg tb rfl rfl ?_
      refine zf rfl rfl ?_
      refine zq tb rfl ?_
      rcases Sh.ite_some h1 with ⟨b62, h1⟩ | ⟨b62, h1⟩
      ·refine zs b62 rfl ?_
       iterate 4 refine zs b62 rfl ?_
       refine zt b62 rfl ?_
       refine zq tb rfl ?_
       iterate 4 refine zs rfl rfl ?_
       iterate 3 refine zn rfl ?_
       refine zs rfl rfl ?_
       refine zt rfl rfl ?_
       exact AO.done (M11 true (Sh.some_eq h1).symm _ (Wk.tr rfl))
      ·refine zg tb b62 rfl ?_
       iterate 4 refine zg tb b62 rfl ?_
       refine zf b62 rfl ?_
       refine zq tb rfl ?_
       rcases Sh.ite_some h1 with ⟨b63, h1⟩ | ⟨b63, h1⟩
       ·refine zs b63 rfl ?_
        iterate 3 refine zs b63 rfl ?_
        iterate 3 refine zn rfl ?_
        refine zs b63 rfl ?_
        refine zt b63 rfl ?_
        exact AO.done (M11 true (Sh.some_eq h1).symm _ (Wk.tr rfl))
       ·refine zg tb b63 rfl ?_
        iterate 3 refine zg tb b63 rfl ?_
        rcases Sh.ite_some h1 with ⟨b64, h1⟩ | ⟨b64, h1⟩
        ·refine zg tb b64 rfl ?_
         iterate 2 refine zg tb b64 rfl ?_
         refine ao_q (v := (.bool (!decide (p3.op = 6)))) (go1 rfl rfl b63) rfl (aq_pkt rfl b64 rfl) ?_
         refine zf b63 rfl ?_
         exact AO.done (M11 (!decide (p3.op = 6)) (Sh.some_eq h1).symm _ (Wk.tr rfl))
        ·refine zs b64 rfl ?_
         iterate 2 refine zs b64 rfl ?_
         refine ao_q (v := (.bool false)) (go1 rfl rfl b63) rfl (aq_pkf rfl b64 rfl) ?_
         refine zf b63 rfl ?_
         exact AO.done (M11 false (Sh.some_eq h1).symm _ (Wk.tr rfl))
 refine AW.regionO (by rfl) ?_
 iterate 4 refine zq tb rfl ?_
 rcases Sh.ite_some h1 with ⟨b65, h1⟩ | ⟨b65, h1⟩
 ·refine zs b65 rfl ?_
  iterate 2 refine zs b65 rfl ?_
  refine zt b65 rfl ?_
  refine zq tb rfl ?_
  iterate 3 refine zs rfl rfl ?_
  refine zt rfl rfl ?_
  refine zq tb rfl ?_
  iterate 3 refine zs rfl rfl ?_
  refine zt rfl rfl ?_
  refine zq tb rfl ?_
  iterate 3 refine zs rfl rfl ?_
  refine zt rfl rfl ?_
  refine zq tb rfl ?_
  iterate 3 refine zs rfl rfl ?_
  refine zt rfl rfl ?_
  exact AO.done (M5 true (Sh.some_eq h1).symm _ (Wk.tr rfl))
 ·refine zg tb b65 rfl ?_
  iterate 2 refine zg tb b65 rfl ?_
  refine zf b65 rfl ?_
  refine zq tb rfl ?_
  rcases Sh.ite_some h1 with ⟨b66, h1⟩ | ⟨b66, h1⟩
  ·refine zs b66 rfl ?_
   iterate 2 refine zs b66 rfl ?_
   refine zt b66 rfl ?_
   refine zq tb rfl ?_
   iterate 3 refine zs rfl rfl ?_
   refine zt rfl rfl ?_
   refine zq tb rfl ?_
   iterate 3 refine zs rfl rfl ?_
   refine zt rfl rfl ?_
   refine zq tb rfl ?_
   iterate 3 refine zs rfl rfl ?_
   refine zt rfl rfl ?_
   exact AO.done (M5 true (Sh.some_eq h1).symm _ (Wk.tr rfl))
  ·refine zg tb b66 rfl ?_
   iterate 2 refine zg tb b66 rfl ?_
   refine zf b66 rfl ?_
   refine zq tb rfl ?_
   rcases Sh.ite_some h1 with ⟨b67, h1⟩ | ⟨b67, h1⟩
   ·refine zs b67 rfl ?_
    iterate 2 refine zs b67 rfl ?_
    refine zt b67 rfl ?_
    refine zq tb rfl ?_
    iterate 3 refine zs rfl rfl ?_
    refine zt rfl rfl ?_
    refine zq tb rfl ?_
    iterate 3 refine zs rfl rfl ?_
    refine zt rfl rfl ?_
    exact AO.done (M5 true (Sh.some_eq h1).symm _ (Wk.tr rfl))
   ·refine zg tb b67 rfl ?_
    iterate 2 refine zg tb b67 rfl ?_
    refine zf b67 rfl ?_
    refine zq tb rfl ?_
    rcases Sh.ite_some h1 with ⟨b68, h1⟩ | ⟨b68, h1⟩
    ·refine zs b68 rfl ?_
     iterate 2 refine zs b68 rfl ?_
     refine zt b68 rfl ?_
     refine zq tb rfl ?_
     iterate 3 refine zs rfl rfl ?_
     refine zt rfl rfl ?_
     exact AO.done (M5 true (Sh.some_eq h1).symm _ (Wk.tr rfl))
    ·refine zg tb b68 rfl ?_
     iterate 2 refine zg tb b68 rfl ?_
     refine zf b68 rfl ?_
     refine zq tb rfl ?_
     rcases Sh.ite_some h1 with ⟨b69, h1⟩ | ⟨b69, h1⟩
     ·refine zs b69 rfl ?_
      iterate 2 refine zs b69 rfl ?_
      refine zt b69 rfl ?_
      exact AO.done (M5 true (Sh.some_eq h1).symm _ (Wk.tr rfl))
     ·refine zg tb b69 rfl ?_
      iterate 2 refine zg tb b69 rfl ?_
      refine zf b69 rfl ?_
      exact AO.done (M5 (decide (p3.op = 13)) (Sh.some_eq h1).symm _ (Wk.tr rfl))
end Go.Proofs.Ytgcghdgbahfcjaa

