import Derived.Test.YtcegihniiokijaaGreatProg
import Derived.Test.YtcegihniiokijaaGreatCODefs
import Derived.Test.YtcegihniiokijaaGreatCOWalkP3
namespace Go.Proofs.YtcegihniiokijaaGreat
open Go Go.Abs RC
attribute [local irreducible] Go.Abs.dops
set_option maxRecDepth 100000
set_option maxHeartbeats 4000000

theorem hb10 : hasBody Tryz.prog 10 = true := by kernel_rfl
theorem hb12 : hasBody Tryz.prog 12 = true := by kernel_rfl
theorem hb13 : hasBody Tryz.prog 13 = true := by kernel_rfl
theorem hb17 : hasBody Tryz.prog 17 = true := by kernel_rfl
theorem hb18 : hasBody Tryz.prog 18 = true := by kernel_rfl
theorem hb21 : hasBody Tryz.prog 21 = true := by kernel_rfl
theorem hb8 : hasBody Tryz.prog 8 = true := by kernel_rfl

theorem laws_heldIntS_ok {N : Nat} {p0 : (List Int)} {p1 : Int} {r : Int} (h0 : laws_heldIntS N p0 p1 = some r) : ACalls Tryz.prog 21 [(ls eI p0), (i64 p1)] [] (fun v st => v = (i64 r) ∧ st = []) := by
 unfold laws_heldIntS at h0
 refine ai Tryz.func21 rfl rfl rfl rfl (zr tb rfl rfl (AW.seq fun K2 hK2 => zr tb rfl rfl ?_))
 obtain ⟨o7, h1, h0⟩ := Sh.cont_some h0
 have M7 : ∀ (k6 : Int), o7 = Sum.inr k6 → ∀ s, Wk 0 s ⟨21, envL [(1, (i64 k6))], []⟩ → K2 s := by
  intro k6 hq s hw
  subst o7
  try dsimp only at h0
  refine hK2 _ (AW.weaken hw (zr tb rfl rfl ?_))
  replace h0 := Sh.some_eq h0
  subst r
  exact AW.ret (xr (Wk.to (L := [(4, (i64 k6))]) ⟨.rfl, trivial⟩))
 refine AW.block (AW.loopF (σ := Int × Int) (fun n v => laws_heldIntS_L1 p0 n v.1 v.2 = some o7) (fun (k4, i5) => ⟨21, envL [(0, (ls eI p0)), (1, (i64 k4)), (5, (i64 i5))], []⟩) N (p1, 0) h1 (Wk.tr rfl) (fun _ hv => by rw [laws_heldIntS_L1] at hv; cases hv) ?_)
 rintro n ⟨k4, i5⟩ h1
 try dsimp only at h1 ⊢
 rw [laws_heldIntS_L1] at h1
 refine AW.seq fun K9 hK9 => sr rfl fun K10 hK10 => zm tb 2 rfl (zl tb rfl rfl (zq tb rfl (dn hK10 rfl ?_)))
 refine ci h1 rfl ?_ ?_ <;> clear h1
 ·intro b11 h1
  refine AW.skip (hK9 _ (AW.seq fun K12 hK12 => AW.block (AW.seq fun K13 hK13 => sr rfl fun K14 hK14 => zm tb 2 rfl (bs h1 fun c15 gc15 h1 => zx ei37 gc15 rfl rfl rfl (zm tb 3 rfl (dn hK14 rfl ?_))))))
  refine ci h1 rfl ?_ ?_ <;> clear h1
  ·intro b16 h1
   have b17 : decide (c15 = k4) = false := by simpa using b16
   refine zr tb rfl rfl ?_
   replace h1 := Sh.some_eq h1
   subst o7
   try dsimp only [id] at h0
   replace h0 := Sh.some_eq h0
   subst r
   exact AW.ret (xr (Wk.to (L := [(4, (i64 (-1)))]) ⟨.rfl, trivial⟩))
  ·intro b16 h1
   have b19 : decide (c15 = k4) = true := by simpa using b16
   exact AW.skip (hK13 _ (AW.regionO rfl (zm tb 3 rfl (dn hK12 rfl (AW.regionO rfl (zm tb 3 rfl (AO.done (xi (Sh.w (k4 + 1), Sh.w (i5 + 1)) h1 (Wk.tr rfl)))))))))
 ·intro b11 h1
  exact AW.exit (M7 k4 (Sh.some_eq h1).symm _ (Wk.tr rfl))
noncomputable abbrev wA0 (p0 : RNormal) : Go.Abs.Row := ⟨0, 25, 2, [[(.sl (List.map eRDecl p0.decls)), (.sl (List.map eRRoutine p0.routines))]]⟩
noncomputable abbrev wA1 (p0 : RNormal) : Go.Abs.Row := ⟨0, 25, 2, [[(ls eRDecl p0.decls), (ls eRRoutine p0.routines)]]⟩
theorem laws_FnExactCountsOf_ok {N : Nat} {p0 : RNormal} {r : Bool} (h0 : laws_FnExactCountsOf N p0 = some r) : ACalls Tryz.prog 5 [(.agg [(ls eRDecl p0.decls), (ls eRRoutine p0.routines)])] [] (fun v st => v = (.bool r) ∧ st = []) := by
 unfold laws_FnExactCountsOf at h0
 refine ai Tryz.func5 rfl rfl rfl rfl (sr rfl fun K1 hK1 => ao_box (m := 0) (st' := [(wA1 p0)]) go0 rfl rfl rfl rfl rfl (zq tb rfl (dn hK1 rfl (zr tb rfl rfl (sr rfl fun K3 hK3 => zm tb 2 rfl (bs h0 fun q4 gq4 h0 => zc hb8 (laws_szNormal_ok gq4) rfl rfl rfl (zq tb rfl (dn hK3 rfl ?_))))))))
 refine AW.seq fun K5 hK5 => zr tb rfl rfl ?_
 refine ci h0 rfl ?_ ?_ <;> clear h0
 ·intro b7 h0
  refine zr tb rfl rfl ?_
  replace h0 := Sh.some_eq h0
  subst r
  exact AW.ret (xr (Wk.d0 [(2, (.bool true))] rfl))
 ·intro b7 h0
  refine AW.skip (hK5 _ (sr rfl fun K9 hK9 => zq tb rfl (bs h0 fun q10 gq10 h0 => zc (v' := (.agg [(ls eRDecl q10.decls), (ls eRRoutine q10.routines)])) hb10 (laws_toNormal_ok gq10) rfl rfl rfl (bs h0 fun q11 gq11 h0 => ao_call (v' := (ow 1 0 q11)) (st' := [(wA1 p0), (ro 0 3 1 eI q11)]) go0 hb17 (spec_CountsOf_ok gq11) rfl rfl ⟨(pure_map' fun _ => rfl), trivial⟩ rfl rfl (zq tb rfl (dn hK9 rfl (sr rfl fun K12 hK12 => zq tb rfl (bs h0 fun q13 gq13 h0 => ?_))))))))
  refine ao_call (v' := (.agg [(ow 2 0 q13.decls), (ow 3 0 q13.routines)])) (st' := [(wA1 p0), (ro 0 3 1 eI q11), (ro 0 98 3 (eRDeclD 134 3) q13.decls), (ro 0 57 5 (eRRoutineD 3 3 3 55 71) q13.routines)]) go0 hb10 (laws_toNormal_2_ok gq13) rfl rfl ⟨(pure_mapD fun _ => rfl), ⟨(pure_mapD fun _ => rfl), trivial⟩⟩ rfl rfl (ao_alloc (m := 4) (st' := [(wA1 p0), (ro 0 3 1 eI q11), (ro 0 98 3 (eRDeclD 134 3) q13.decls), (ro 0 57 5 (eRRoutineD 3 3 3 55 71) q13.routines), ⟨0, 30, 2, [[.zc, .zc]]⟩]) go0 zi30 rfl rfl (ao_str (st' := [(wA1 p0), (ro 0 3 1 eI q11), (ro 0 98 3 (eRDeclD 134 3) q13.decls), (ro 0 57 5 (eRRoutineD 3 3 3 55 71) q13.routines), ⟨0, 30, 2, [[(ow 2 0 q13.decls), (ow 3 0 q13.routines)]]⟩]) go0 ti30 rfl rfl rfl rfl rfl rfl (show 0 + 2 ≤ 2 by decide) rfl (dn hK12 rfl (sr rfl fun K14 hK14 => zq tb rfl (bs h0 fun q15 gq15 h0 => ao_callb (v' := (ow 5 0 q15)) (st' := [(wA1 p0), (ro 0 3 1 eI q11), (ro 0 98 3 (eRDeclD 134 3) q13.decls), (ro 0 57 5 (eRRoutineD 3 3 3 55 71) q13.routines), ⟨0, 30, 2, [[(ow 2 0 q13.decls), (ow 3 0 q13.routines)]]⟩, (ro 0 3 1 eI q15)]) go0 hb18 (impl_CountsOf_ok gq15) rfl (.agg (.ownD rfl rfl (fun _ => rfl) (fun x => eRDeclD_und x) (.ownD rfl rfl (fun _ => rfl) (fun x => eRRoutineD_und x) .nil)) .nil) rfl (srow (fun _ => rfl) trivial) rfl rfl (zq tb rfl (dn hK14 rfl (AW.seq fun K16 hK16 => sr rfl fun K17 hK17 => ?_))))))))
  refine zm tb 2 rfl (bs h0 fun q18 gq18 h0 => ao_callb (v' := (.bool q18)) (st' := [(wA1 p0), (ro 0 3 1 eI q11), (ro 0 98 3 (eRDeclD 134 3) q13.decls), (ro 0 57 5 (eRRoutineD 3 3 3 55 71) q13.routines), ⟨0, 30, 2, [[(ow 2 0 q13.decls), (ow 3 0 q13.routines)]]⟩, (ro 0 3 1 eI q15)]) go0 hb19 (laws_eqIntS_ok gq18) rfl (.own rfl rfl (fun _ => rfl) (.own rfl rfl (fun _ => rfl) .nil)) rfl trivial rfl rfl (zq tb rfl (dn hK17 rfl ?_)))
  refine ci h0 rfl ?_ ?_ <;> clear h0
  ·intro b19 h0
   have b20 : q18 = false := by simpa using b19
   refine zr tb rfl rfl ?_
   replace h0 := Sh.some_eq h0
   subst r
   exact AW.ret (xr (Wk.d0 [(2, (.bool false))] rfl))
  ·intro b19 h0
   have b22 : q18 = true := by simpa using b19
   refine AW.skip (hK16 _ (AW.seq fun K23 hK23 => AW.seq fun K24 hK24 => ?_))
   refine AW.draw (by kernel_rfl) (by kernel_rfl) (by rfl) ?_
   iterate 2 refine yq tb rfl ?_
   refine bs h0 fun q25 gq25 h0 => d_call (v := (.agg [(ls eRDecl q25.decls), (ls eRRoutine q25.routines)])) go0 hb10 (laws_toNormal_ok gq25) rfl rfl rfl (bs h0 fun q26 gq26 h0 => d_callb (v' := (.bool q26)) go0 hb12 (laws_eqNormal_ok gq26) rfl (.agg (.ownD rfl rfl (fun _ => rfl) (fun x => eRDeclD_und x) (.ownD rfl rfl (fun _ => rfl) (fun x => eRRoutineD_und x) .nil)) (.val rfl .nil)) rfl rfl (yq tb rfl (d_done (hK24 _ ?_))))
   refine ci h0 rfl ?_ ?_ <;> clear h0
   ·intro b27 h0
    have b28 : q26 = false := by simpa using b27
    refine zr tb rfl rfl ?_
    replace h0 := Sh.some_eq h0
    subst r
    exact AW.ret (xr (Wk.d0 [(2, (.bool false))] rfl))
   ·intro b27 h0
    have b30 : q26 = true := by simpa using b27
    refine AW.skip (hK23 _ (zr tb rfl rfl (sr rfl fun K32 hK32 => zm tb 2 rfl (bs h0 fun q33 gq33 h0 => ?_))))
    refine ao_callsL (rowsP := [⟨0, 98, 3, List.map (eRDeclD 134 3) q13.decls⟩, ⟨0, 57, 5, List.map (eRRoutineD 3 3 3 55 71) q13.routines⟩]) (rows0 := [⟨0, 98, 3, List.map (eRDeclD 134 3) q13.decls⟩, ⟨0, 57, 5, List.map (eRRoutineD 3 3 3 55 71) q13.routines⟩]) (rows1 := [⟨0, 98, 3, List.map (eRDeclD 134 3) q33.2.1⟩, ⟨0, 57, 5, List.map (eRRoutineD 3 3 3 55 71) q33.2.2⟩]) (rows2 := []) (rows1' := [⟨0, 98, 3, List.map (eRDeclD 134 3) q33.2.1⟩, ⟨0, 57, 5, List.map (eRRoutineD 3 3 3 55 71) q33.2.2⟩]) (rows2' := []) (st' := [(wA0 p0), ⟨0, 3, 1, List.map eI q11⟩, ⟨0, 98, 3, List.map (eRDeclD 134 3) q33.2.1⟩, ⟨0, 57, 5, List.map (eRRoutineD 3 3 3 55 71) q33.2.2⟩, ⟨0, 30, 2, [[(.own 2 0 (List.length q13.decls)), (.own 3 0 (List.length q13.routines))]]⟩, ⟨0, 3, 1, List.map eI q15⟩]) (v' := (i64 q33.1)) [2, 3] go0 hb13 (laws_markNormal_ok gq33) rfl (by decide) rfl rfl (.deep (pure_mapD fun _ => rfl) (.deep (pure_mapD fun _ => rfl) .nil)) rfl rfl (.deep (pure_mapD fun _ => rfl) (.deep (pure_mapD fun _ => rfl) .nil)) .nil rfl rfl (fun hln => ?_)
    have ln34 : List.length q33.2.1 = List.length q13.decls := by simpa only [List.length_map] using hln 0 _ _ rfl rfl rfl
    have ln35 : List.length q33.2.2 = List.length q13.routines := by simpa only [List.length_map] using hln 1 _ _ rfl rfl rfl
    refine zq tb rfl (dn hK32 rfl (AW.seq fun K36 hK36 => AW.seq fun K37 hK37 => bs h0 fun o39 h1 h0 => ?_))
    have M39 : ∀ (t38 : Bool), o39 = t38 → ∀ s, Wk 0 s ⟨69, envL [(1, (.ptr 0 0 0 0)), (4, (ow 1 0 q11)), (6, (ow 2 0 q15)), (42, (.bool t38))], [(wA1 p0), (ro 0 3 1 eI q11), (ro 0 3 1 eI q15)]⟩ → K37 s := by
     intro t38 hq s hw
     subst o39
     try dsimp only at h0
     refine hK37 _ (AW.weaken hw ?_)
     refine ci h0 rfl ?_ ?_ <;> clear h0
     ·intro b40 h0
      refine zr tb rfl rfl ?_
      replace h0 := Sh.some_eq h0
      subst r
      exact AW.ret (xr (Wk.d0 [(2, (.bool false))] rfl))
     ·intro b40 h0
      refine AW.skip (hK36 _ (zr tb rfl rfl (sr rfl fun K43 hK43 => zm tb 2 rfl (bs h0 fun q44 gq44 h0 => ?_))))
      refine ao_callsL (rowsP := [⟨0, 3, 1, List.map eI q15⟩]) (rows0 := [⟨0, 3, 1, List.map eI q15⟩]) (rows1 := [⟨0, 3, 1, List.map eI q44.2⟩]) (rows2 := []) (rows1' := [⟨0, 3, 1, List.map eI q44.2⟩]) (rows2' := []) (st' := [(wA0 p0), ⟨0, 3, 1, List.map eI q11⟩, ⟨0, 3, 1, List.map eI q44.2⟩]) (v' := (i64 q44.1)) [2] go0 hb20 (laws_markIntS_ok gq44) rfl (by decide) rfl rfl (.pure (pure_map fun _ => rfl) .nil) rfl rfl (.pure (pure_map fun _ => rfl) .nil) .nil rfl rfl (fun hln => ?_)
      have ln45 : List.length q44.2 = List.length q15 := by simpa only [List.length_map] using hln 0 _ _ rfl rfl rfl
      refine zq tb rfl (dn hK43 rfl (zr tb rfl rfl (sr rfl fun K47 hK47 => zm tb 2 rfl (bs h0 fun q48 gq48 h0 => ?_))))
      refine ao_callb (v' := (i64 q48)) (st' := [(wA0 p0), ⟨0, 3, 1, List.map eI q11⟩, ⟨0, 3, 1, List.map eI q44.2⟩]) go0 hb21 (laws_heldIntS_ok gq48) rfl (.own rfl (by first | (simp only [Sh.put_len]; done) | (simp only [Sh.put_len]; omega) | omega) (fun _ => rfl) (.val rfl .nil)) rfl trivial rfl rfl ?_
      refine zq tb rfl (dn hK47 rfl (AW.seq fun K49 hK49 => zr tb rfl rfl ?_))
      refine ci h0 rfl ?_ ?_ <;> clear h0
      ·intro b51 h0
       refine zr tb rfl rfl ?_
       replace h0 := Sh.some_eq h0
       subst r
       exact AW.ret (xr (Wk.d0 [(2, (.bool false))] rfl))
      ·intro b51 h0
       refine AW.skip (hK49 _ (AW.seq fun K53 hK53 => zr tb rfl rfl ?_))
       refine ci h0 rfl ?_ ?_ <;> clear h0
       ·intro b55 h0
        have b56 : decide (q48 = q44.1) = false := by simpa using b55
        refine zr tb rfl rfl ?_
        replace h0 := Sh.some_eq h0
        subst r
        exact AW.ret (xr (Wk.d0 [(2, (.bool false))] rfl))
       ·intro b55 h0
        have b58 : decide (q48 = q44.1) = true := by simpa using b55
        refine AW.skip (hK53 _ (sr rfl fun K59 hK59 => zq tb rfl (bs h0 fun q60 gq60 h0 => zc (v' := (.agg [(ls eRDecl q60.decls), (ls eRRoutine q60.routines)])) hb10 (laws_toNormal_ok gq60) rfl rfl rfl (bs h0 fun q61 gq61 h0 => ao_call (v' := (ow 3 0 q61)) (st' := [(wA1 p0), (ro 0 3 1 eI q11), (ro 0 3 1 eI q44.2), (ro 0 3 1 eI q61)]) go0 hb18 (impl_CountsOf_ok gq61) rfl rfl ⟨(pure_map' fun _ => rfl), trivial⟩ rfl rfl (zq tb rfl (dn hK59 rfl (AW.seq fun K62 hK62 => sr rfl fun K63 hK63 => zm tb 2 rfl ?_)))))))
        refine AO.weaken (Wk.frz (L := [(6, (ow 2 0 q15)), (8, (i64 q44.1)), (57, (ls eI q61)), (58, (ow 1 0 q11))]) (st' := [(wA1 p0), (ro 0 3 1 eI q11), (ro 0 3 1 eI q44.2), ⟨1, 3, 1, []⟩]) (id := 3) rfl (show 0 ≤ 3 by decide) (pure_map fun _ => rfl) ⟨.rfl, .rfl, (.frz rfl), .rfl, trivial⟩ rfl) (AO.weaken (Wk.frz (L := [(6, (ow 2 0 q15)), (8, (i64 q44.1)), (57, (ls eI q61)), (58, (ls eI q11))]) (st' := [(wA1 p0), ⟨1, 3, 1, []⟩, (ro 0 3 1 eI q44.2), ⟨1, 3, 1, []⟩]) (id := 1) rfl (show 0 ≤ 1 by decide) (pure_map fun _ => rfl) ⟨.rfl, .rfl, .rfl, (.frz rfl), trivial⟩ rfl) (bs h0 fun q64 gq64 h0 => zc hb19 (laws_eqIntS_ok gq64) rfl rfl rfl (zq tb rfl (dn hK63 rfl ?_))))
        refine ci h0 rfl ?_ ?_ <;> clear h0
        ·intro b65 h0
         have b66 : q64 = false := by simpa using b65
         refine zr tb rfl rfl ?_
         replace h0 := Sh.some_eq h0
         subst r
         exact AW.ret (xr (Wk.d0 [(2, (.bool false))] rfl))
        ·intro b65 h0
         have b68 : q64 = true := by simpa using b65
         refine AW.skip (hK62 _ (zr tb rfl rfl (sr rfl fun K70 hK70 => zm tb 2 rfl ?_)))
         refine AO.weaken (Wk.frz (L := [(8, (i64 q44.1)), (61, (.sl (List.map eI q44.2))), (62, (i64 1))]) (st' := [(wA0 p0), ⟨1, 3, 1, []⟩, ⟨1, 3, 1, []⟩, ⟨1, 3, 1, []⟩]) (id := 2) rfl (show 0 ≤ 2 by decide) (pure_map fun _ => rfl) ⟨.rfl, (.frz (by first | (simp only [Sh.put_len]; done) | (simp only [Sh.put_len]; omega) | omega)), .rfl, trivial⟩ rfl) ?_
         refine bs h0 fun q71 gq71 h0 => zc hb21 (laws_heldIntS_ok gq71) rfl rfl rfl (zq tb rfl (dn hK70 rfl (AW.seq fun K72 hK72 => zr tb rfl rfl ?_)))
         refine ci h0 rfl ?_ ?_ <;> clear h0
         ·intro b74 h0
          refine zr tb rfl rfl ?_
          replace h0 := Sh.some_eq h0
          subst r
          exact AW.ret (xr (Wk.d0 [(2, (.bool false))] rfl))
         ·intro b74 h0
          refine AW.skip (hK72 _ (AW.seq fun K76 hK76 => zr tb rfl rfl ?_))
          refine ci h0 rfl ?_ ?_ <;> clear h0
          ·intro b78 h0
           have b79 : decide (q71 = q44.1) = false := by simpa using b78
           refine zr tb rfl rfl ?_
           replace h0 := Sh.some_eq h0
           subst r
           exact AW.ret (xr (Wk.d0 [(2, (.bool false))] rfl))
          ·intro b78 h0
           have b81 : decide (q71 = q44.1) = true := by simpa using b78
           refine AW.skip (hK76 _ (zr tb rfl rfl ?_))
           replace h0 := Sh.some_eq h0
           subst r
           exact AW.ret (xr (Wk.d0 [(2, (.bool true))] rfl))
    refine AW.regionO rfl (zm tb 3 rfl ?_)
    rcases Sh.ite_some h1 with ⟨b83, h1⟩ | ⟨b83, h1⟩
    ·refine zs b83 rfl ?_
     iterate 3 refine zs b83 rfl ?_
     refine zt b83 rfl ?_
     exact AO.done (M39 true (Sh.some_eq h1).symm _ (by refine Wk.trans (Wk.steq (st := [(wA0 p0), ⟨0, 3, 1, List.map eI q11⟩, ⟨0, 98, 3, List.map (eRDeclD 134 3) q33.2.1⟩, ⟨0, 57, 5, List.map (eRRoutineD 3 3 3 55 71) q33.2.2⟩, ⟨0, 30, 2, [[(.own 2 0 (List.length q13.decls)), (.own 3 0 (List.length q13.routines))]]⟩, ⟨0, 3, 1, List.map eI q15⟩]) (st' := [(wA0 p0), ⟨0, 3, 1, List.map eI q11⟩, ⟨0, 98, 3, List.map (eRDeclD 134 3) q33.2.1⟩, ⟨0, 57, 5, List.map (eRRoutineD 3 3 3 55 71) q33.2.2⟩, ⟨0, 30, 2, [[(.own 2 0 (List.length q33.2.1)), (.own 3 0 (List.length q33.2.2))]]⟩, ⟨0, 3, 1, List.map eI q15⟩]) (by first | (simp only [Sh.put_len]; done) | simp only [Sh.put_len, ln34, ln35] | simp only [ln34, ln35])) ?_; exact Wk.permk (L := [(1, (.ptr 0 0 0 0)), (4, (.own 1 0 (List.length q11))), (6, (.own 2 0 (List.length q15))), (42, (.bool true))]) (st' := [(wA0 p0), ⟨0, 3, 1, List.map eI q11⟩, ⟨0, 3, 1, List.map eI q15⟩]) (st1 := [(wA0 p0), ⟨0, 3, 1, List.map eI q11⟩, ⟨0, 3, 1, List.map eI q15⟩]) [0, 1, 5] rfl .nil (by decide) rfl rfl (.raw rfl rfl (.pure (pure_map fun _ => rfl) (.pure (pure_map fun _ => rfl) .nil))) ⟨.rfl, .rfl, .rfl, .rfl, trivial⟩))
    ·refine zg tb b83 rfl (zg tb b83 rfl (bs h1 fun q84 gq84 h1 => ao_callb (v' := (.bool q84)) (st' := [(wA1 p0), (ro 0 3 1 eI q11), (ro 0 98 3 (eRDeclD 134 3) q33.2.1), (ro 0 57 5 (eRRoutineD 3 3 3 55 71) q33.2.2), ⟨0, 30, 2, [[(ow 2 0 q13.decls), (ow 3 0 q13.routines)]]⟩, (ro 0 3 1 eI q15)]) (go1 rfl rfl b83) hb19 (laws_eqIntS_ok gq84) rfl (.own rfl rfl (fun _ => rfl) (.own rfl rfl (fun _ => rfl) .nil)) rfl trivial rfl rfl (zg tb b83 rfl (zf b83 rfl ?_))))
     exact AO.done (M39 (!q84) (Sh.some_eq h1).symm _ (by refine Wk.trans (Wk.steq (st := [(wA0 p0), ⟨0, 3, 1, List.map eI q11⟩, ⟨0, 98, 3, List.map (eRDeclD 134 3) q33.2.1⟩, ⟨0, 57, 5, List.map (eRRoutineD 3 3 3 55 71) q33.2.2⟩, ⟨0, 30, 2, [[(.own 2 0 (List.length q13.decls)), (.own 3 0 (List.length q13.routines))]]⟩, ⟨0, 3, 1, List.map eI q15⟩]) (st' := [(wA0 p0), ⟨0, 3, 1, List.map eI q11⟩, ⟨0, 98, 3, List.map (eRDeclD 134 3) q33.2.1⟩, ⟨0, 57, 5, List.map (eRRoutineD 3 3 3 55 71) q33.2.2⟩, ⟨0, 30, 2, [[(.own 2 0 (List.length q33.2.1)), (.own 3 0 (List.length q33.2.2))]]⟩, ⟨0, 3, 1, List.map eI q15⟩]) (by first | (simp only [Sh.put_len]; done) | simp only [Sh.put_len, ln34, ln35] | simp only [ln34, ln35])) ?_; exact Wk.permk (L := [(1, (.ptr 0 0 0 0)), (4, (.own 1 0 (List.length q11))), (6, (.own 2 0 (List.length q15))), (42, (.bool (!q84)))]) (st' := [(wA0 p0), ⟨0, 3, 1, List.map eI q11⟩, ⟨0, 3, 1, List.map eI q15⟩]) (st1 := [(wA0 p0), ⟨0, 3, 1, List.map eI q11⟩, ⟨0, 3, 1, List.map eI q15⟩]) [0, 1, 5] rfl .nil (by decide) rfl rfl (.raw rfl rfl (.pure (pure_map fun _ => rfl) (.pure (pure_map fun _ => rfl) .nil))) ⟨.rfl, .rfl, .rfl, .rfl, trivial⟩))
end Go.Proofs.YtcegihniiokijaaGreat

