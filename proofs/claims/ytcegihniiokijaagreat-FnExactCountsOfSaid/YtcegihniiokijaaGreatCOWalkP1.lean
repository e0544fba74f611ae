import Derived.Test.YtcegihniiokijaaGreatProg
import Derived.Test.YtcegihniiokijaaGreatCODefs
import Derived.Test.YtcegihniiokijaaGreatCOWalkP0
namespace Go.Proofs.YtcegihniiokijaaGreat
open Go Go.Abs RC
attribute [local irreducible] Go.Abs.dops
set_option maxRecDepth 100000
set_option maxHeartbeats 4000000

theorem hb101 : hasBody Tryz.prog 101 = true := by kernel_rfl
theorem hb112 : hasBody Tryz.prog 112 = true := by kernel_rfl
theorem hb114 : hasBody Tryz.prog 114 = true := by kernel_rfl
theorem hb157 : hasBody Tryz.prog 157 = true := by kernel_rfl
theorem hb165 : hasBody Tryz.prog 165 = true := by kernel_rfl
theorem hb166 : hasBody Tryz.prog 166 = true := by kernel_rfl
theorem hb170 : hasBody Tryz.prog 170 = true := by kernel_rfl
theorem hb171 : hasBody Tryz.prog 171 = true := by kernel_rfl
theorem hb173 : hasBody Tryz.prog 173 = true := by kernel_rfl
theorem hb49 : hasBody Tryz.prog 49 = true := by kernel_rfl
theorem hb50 : hasBody Tryz.prog 50 = true := by kernel_rfl
theorem hb67 : hasBody Tryz.prog 67 = true := by kernel_rfl
theorem hb99 : hasBody Tryz.prog 99 = true := by kernel_rfl

noncomputable abbrev wC0 (p2 : Step) : Go.Abs.Row := ⟨0, 71, 5, [[(i64 p2.op), (i64 p2.num), (i64 p2.into), (ls eI p2.args), (ls eBlock p2.kids)]]⟩
noncomputable abbrev wC1 (p0 : RNormal) : Go.Abs.Row := ⟨0, 30, 2, [[(ls eRDecl p0.decls), (ls eRRoutine p0.routines)]]⟩
noncomputable abbrev wC2 : Go.Abs.Row := ⟨0, 98, 3, [[(i64 0), (i64 0), .zc]]⟩
noncomputable abbrev wC3 (c74 : Int) (p1 : (List Int)) : List (Nat × Go.Abs.AV) := [(1, (ls eI p1)), (5, (.ptr 0 0 0 0)), (7, (.ptr 1 0 0 0)), (152, (.ptr 2 0 0 0)), (154, (ls eI p1)), (157, (.iptr (eI c74) 0))]
noncomputable abbrev wC4 (p1 : (List Int)) (p2 : Step) : List (Nat × Go.Abs.AV) := [(1, (ls eI p1)), (5, (.ptr 0 0 0 0)), (7, (.ptr 1 0 0 0)), (152, (.ptr 2 0 0 0)), (154, (ls eI p1)), (156, (ls eI p2.args))]
noncomputable abbrev wC5 (p1 : (List Int)) : List (Nat × Go.Abs.AV) := [(1, (ls eI p1)), (5, (.ptr 0 0 0 0)), (7, (.ptr 1 0 0 0)), (152, (.ptr 2 0 0 0)), (154, (ls eI p1)), (155, (.ptr 0 0 0 3))]
noncomputable abbrev wC6 (c74 : Int) (p1 : (List Int)) : List (Nat × Go.Abs.AV) := [(1, (ls eI p1)), (5, (.ptr 0 0 0 0)), (7, (.ptr 1 0 0 0)), (152, (.ptr 2 0 0 0)), (154, (ls eI p1)), (158, (i64 c74))]
noncomputable abbrev wC7 (c75 : Int) (p1 : (List Int)) : List (Nat × Go.Abs.AV) := [(1, (ls eI p1)), (5, (.ptr 0 0 0 0)), (7, (.ptr 1 0 0 0)), (152, (.ptr 2 0 0 0)), (159, (.iptr (eI c75) 0))]
noncomputable abbrev wC8 (c74 : Int) (p0 : RNormal) (p1 : (List Int)) : List (Nat × Go.Abs.AV) := [(1, (ls eI p1)), (5, (.ptr 0 0 0 0)), (7, (.ptr 1 0 0 0)), (153, (ls eRDecl p0.decls)), (154, (ls eI p1)), (157, (.iptr (eI c74) 0))]
noncomputable abbrev wC9 (p0 : RNormal) (p1 : (List Int)) (p2 : Step) : List (Nat × Go.Abs.AV) := [(1, (ls eI p1)), (5, (.ptr 0 0 0 0)), (7, (.ptr 1 0 0 0)), (153, (ls eRDecl p0.decls)), (154, (ls eI p1)), (156, (ls eI p2.args))]
noncomputable abbrev wC10 (p0 : RNormal) (p1 : (List Int)) : List (Nat × Go.Abs.AV) := [(1, (ls eI p1)), (5, (.ptr 0 0 0 0)), (7, (.ptr 1 0 0 0)), (153, (ls eRDecl p0.decls)), (154, (ls eI p1)), (155, (.ptr 0 0 0 3))]
noncomputable abbrev wC11 (c74 : Int) (p0 : RNormal) (p1 : (List Int)) : List (Nat × Go.Abs.AV) := [(1, (ls eI p1)), (5, (.ptr 0 0 0 0)), (7, (.ptr 1 0 0 0)), (153, (ls eRDecl p0.decls)), (154, (ls eI p1)), (158, (i64 c74))]
noncomputable abbrev wC12 (c75 : Int) (p1 : (List Int)) : List (Nat × Go.Abs.AV) := [(1, (ls eI p1)), (5, (.ptr 0 0 0 0)), (7, (.ptr 1 0 0 0)), (152, (.ptr 2 0 0 0)), (160, (i64 c75))]
noncomputable abbrev wC13 (c75 : Int) (p0 : RNormal) (p1 : (List Int)) : List (Nat × Go.Abs.AV) := [(1, (ls eI p1)), (5, (.ptr 0 0 0 0)), (7, (.ptr 1 0 0 0)), (153, (ls eRDecl p0.decls)), (159, (.iptr (eI c75) 0))]
noncomputable abbrev wC14 (c75 : Int) (p0 : RNormal) (p1 : (List Int)) : List (Nat × Go.Abs.AV) := [(1, (ls eI p1)), (5, (.ptr 0 0 0 0)), (7, (.ptr 1 0 0 0)), (153, (ls eRDecl p0.decls)), (160, (i64 c75))]
noncomputable abbrev wC15 (p1 : (List Int)) : List (Nat × Go.Abs.AV) := [(1, (ls eI p1)), (5, (.ptr 0 0 0 0)), (7, (.ptr 1 0 0 0)), (152, (.ptr 2 0 0 0)), (154, (ls eI p1))]
noncomputable abbrev wC16 (c74 : Int) (p0 : RNormal) (p1 : (List Int)) : List (Nat × Go.Abs.AV) := [(1, (ls eI p1)), (5, (.ptr 0 0 0 0)), (153, (ls eRDecl p0.decls)), (154, (ls eI p1)), (157, (.iptr (eI c74) 0))]
noncomputable abbrev wC17 (p0 : RNormal) (p1 : (List Int)) (p2 : Step) : List (Nat × Go.Abs.AV) := [(1, (ls eI p1)), (5, (.ptr 0 0 0 0)), (153, (ls eRDecl p0.decls)), (154, (ls eI p1)), (156, (ls eI p2.args))]
noncomputable abbrev wC18 (p0 : RNormal) (p1 : (List Int)) : List (Nat × Go.Abs.AV) := [(1, (ls eI p1)), (5, (.ptr 0 0 0 0)), (153, (ls eRDecl p0.decls)), (154, (ls eI p1)), (155, (.ptr 0 0 0 3))]
noncomputable abbrev wC19 (p0 : RNormal) (p1 : (List Int)) : List (Nat × Go.Abs.AV) := [(1, (ls eI p1)), (5, (.ptr 0 0 0 0)), (7, (.ptr 1 0 0 0)), (153, (ls eRDecl p0.decls)), (154, (ls eI p1))]
noncomputable abbrev wC20 (c74 : Int) (p1 : (List Int)) : List (Nat × Go.Abs.AV) := [(1, (ls eI p1)), (5, (.ptr 0 0 0 0)), (152, (.ptr 1 0 0 0)), (154, (ls eI p1)), (157, (.iptr (eI c74) 0))]
noncomputable abbrev wC21 (c74 : Int) (p0 : RNormal) (p1 : (List Int)) : List (Nat × Go.Abs.AV) := [(1, (ls eI p1)), (5, (.ptr 0 0 0 0)), (153, (ls eRDecl p0.decls)), (154, (ls eI p1)), (158, (i64 c74))]
noncomputable abbrev wC22 (p1 : (List Int)) (p2 : Step) : List (Nat × Go.Abs.AV) := [(1, (ls eI p1)), (5, (.ptr 0 0 0 0)), (152, (.ptr 1 0 0 0)), (154, (ls eI p1)), (156, (ls eI p2.args))]
noncomputable abbrev wC23 (p1 : (List Int)) : List (Nat × Go.Abs.AV) := [(1, (ls eI p1)), (5, (.ptr 0 0 0 0)), (152, (.ptr 1 0 0 0)), (154, (ls eI p1)), (155, (.ptr 0 0 0 3))]
noncomputable abbrev wC24 (c74 : Int) (p1 : (List Int)) : List (Nat × Go.Abs.AV) := [(1, (ls eI p1)), (5, (.ptr 0 0 0 0)), (152, (.ptr 1 0 0 0)), (154, (ls eI p1)), (158, (i64 c74))]
noncomputable abbrev wC25 (p1 : (List Int)) (p2 : Step) : List (Nat × Go.Abs.AV) := [(1, (ls eI p1)), (3, (.ptr 0 0 0 0)), (5, (.ptr 1 0 0 0)), (40, (i64 p2.op)), (52, (.bool true))]
noncomputable abbrev wC26 (c75 : Int) (p0 : RNormal) (p1 : (List Int)) : List (Nat × Go.Abs.AV) := [(1, (ls eI p1)), (5, (.ptr 0 0 0 0)), (153, (ls eRDecl p0.decls)), (159, (.iptr (eI c75) 0))]
noncomputable abbrev wC27 (c75 : Int) (p1 : (List Int)) : List (Nat × Go.Abs.AV) := [(1, (ls eI p1)), (5, (.ptr 0 0 0 0)), (152, (.ptr 1 0 0 0)), (159, (.iptr (eI c75) 0))]
noncomputable abbrev wC28 (c75 : Int) (p0 : RNormal) (p1 : (List Int)) : List (Nat × Go.Abs.AV) := [(1, (ls eI p1)), (5, (.ptr 0 0 0 0)), (153, (ls eRDecl p0.decls)), (160, (i64 c75))]
noncomputable abbrev wC29 (c74 : Int) (p1 : (List Int)) : List (Nat × Go.Abs.AV) := [(1, (ls eI p1)), (3, (.ptr 0 0 0 0)), (5, (.ptr 1 0 0 0)), (7, (.ptr 2 0 0 0)), (154, (ls eI p1)), (157, (.iptr (eI c74) 0))]
noncomputable abbrev wC30 (p1 : (List Int)) (p2 : Step) : List (Nat × Go.Abs.AV) := [(1, (ls eI p1)), (3, (.ptr 0 0 0 0)), (5, (.ptr 1 0 0 0)), (7, (.ptr 2 0 0 0)), (154, (ls eI p1)), (156, (ls eI p2.args))]
noncomputable abbrev wC31 (p1 : (List Int)) : List (Nat × Go.Abs.AV) := [(1, (ls eI p1)), (3, (.ptr 0 0 0 0)), (5, (.ptr 1 0 0 0)), (7, (.ptr 2 0 0 0)), (154, (ls eI p1)), (155, (.ptr 1 0 0 3))]
noncomputable abbrev wC32 (p1 : (List Int)) : List (Nat × Go.Abs.AV) := [(1, (ls eI p1)), (3, (.ptr 0 0 0 0)), (5, (.ptr 1 0 0 0)), (174, (.bool true))]
noncomputable abbrev wC33 (c75 : Int) (p1 : (List Int)) : List (Nat × Go.Abs.AV) := [(1, (ls eI p1)), (5, (.ptr 0 0 0 0)), (152, (.ptr 1 0 0 0)), (160, (i64 c75))]
noncomputable abbrev wC34 (c74 : Int) (p1 : (List Int)) : List (Nat × Go.Abs.AV) := [(1, (ls eI p1)), (3, (.ptr 0 0 0 0)), (5, (.ptr 1 0 0 0)), (7, (.ptr 2 0 0 0)), (154, (ls eI p1)), (158, (i64 c74))]
noncomputable abbrev wC35 (c75 : Int) (p1 : (List Int)) : List (Nat × Go.Abs.AV) := [(1, (ls eI p1)), (3, (.ptr 0 0 0 0)), (5, (.ptr 1 0 0 0)), (7, (.ptr 2 0 0 0)), (159, (.iptr (eI c75) 0))]
theorem spec_stepType_ok {N : Nat} {rec_spec_blockType : RNormal → (List Int) → Block → Option (Int)} (hrec_spec_blockType : ∀ {p0 : RNormal} {p1 : (List Int)} {p2 : Block} {r : Int}, rec_spec_blockType p0 p1 p2 = some r → ACalls Tryz.prog 100 [(.agg [(ls eRDecl p0.decls), (ls eRRoutine p0.routines)]), (ls eI p1), (.agg [(ls eStep p2.steps), (i64 p2.result)])] [] (fun v st => v = (i64 r) ∧ st = [])) {p0 : RNormal} {p1 : (List Int)} {p2 : Step} {r : Int} (h0 : spec_stepType N rec_spec_blockType p0 p1 p2 = some r) : ACalls Tryz.prog 114 [(.agg [(ls eRDecl p0.decls), (ls eRRoutine p0.routines)]), (ls eI p1), (.agg [(i64 p2.op), (i64 p2.num), (i64 p2.into), (ls eI p2.args), (ls eBlock p2.kids)])] [] (fun v st => v = (i64 r) ∧ st = []) := by
 unfold spec_stepType at h0
 refine ai Tryz.func114 rfl rfl rfl rfl (sr rfl fun K1 hK1 => ao_box (m := 0) (st' := [(wC1 p0)]) go0 rfl rfl rfl rfl rfl (ao_box (m := 1) (st' := [(wC1 p0), (wC0 p2)]) go0 rfl rfl rfl rfl rfl (zq tb rfl (dn hK1 rfl (AW.seq fun K2 hK2 => AW.seq fun K3 hK3 => bs h0 fun o5 h1 h0 => ?_)))))
 have M5 : ∀ (t4 : Bool), o5 = t4 → ∀ s, Wk 0 s ⟨183, envL [(1, (ls eI p1)), (3, (.ptr 0 0 0 0)), (5, (.ptr 1 0 0 0)), (38, (.bool t4))], [(wC1 p0), (wC0 p2)]⟩ → K3 s := by
  intro t4 hq s hw
  subst o5
  try dsimp only at h0
  refine hK3 _ (AW.weaken hw ?_)
  refine ci h0 rfl ?_ ?_ <;> clear h0
  ·intro b6 h0
   refine zr tb rfl rfl ?_
   replace h0 := Sh.some_eq h0
   subst r
   exact AW.ret (xr (Wk.d0 [(6, (i64 (-1)))] rfl))
  ·intro b6 h0
   refine AW.skip (hK2 _ (AW.seq fun K8 hK8 => ?_))
   obtain ⟨o9, h1, h0⟩ := Sh.cont_some h0
   have M9 : ∀ (_ : Unit), o9 = Sum.inr () → ∀ s, Wk 0 s ⟨183, envL [], []⟩ → K8 s := by
    intro _ hq s hw
    subst o9
    try dsimp only at h0
    refine hK8 _ (AW.weaken hw (zr tb rfl rfl ?_))
    replace h0 := Sh.some_eq h0
    subst r
    exact AW.ret (xr (Wk.to (L := [(6, (i64 (-1)))]) ⟨.rfl, trivial⟩))
   refine zr tb rfl rfl (AW.block (zr tb rfl rfl ?_))
   refine ci h1 rfl ?_ ?_ <;> clear h1
   ·intro b13 h1
    refine AW.seq fun K14 hK14 => bs h1 fun o16 h2 h1 => ?_
    have M16 : ∀ (t15 : Bool), o16 = t15 → ∀ s, Wk 0 s ⟨183, envL [(51, (.bool t15))], []⟩ → K14 s := by
     intro t15 hq s hw
     subst o16
     try dsimp only at h1
     refine hK14 _ (AW.weaken hw ?_)
     refine ci h1 rfl ?_ ?_ <;> clear h1
     ·intro b17 h1
      refine zr tb rfl rfl ?_
      replace h1 := Sh.some_eq h1
      subst o9
      try dsimp only [id] at h0
      replace h0 := Sh.some_eq h0
      subst r
      exact AW.ret (xr (Wk.to (L := [(6, (i64 0))]) ⟨.rfl, trivial⟩))
     ·intro b17 h1
      exact AW.skip (M9 () (Sh.some_eq h1).symm _ (Wk.tr rfl))
    refine AW.regionO rfl (zm tb 2 rfl (zl tb rfl rfl (zm tb 2 rfl ?_)))
    rcases Sh.ite_some h2 with ⟨b19, h2⟩ | ⟨b19, h2⟩
    ·exact zg tb b19 rfl (zg tb b19 rfl (bs h2 fun q20 gq20 h2 => zd b19 hb158 (spec_inRange_ok gq20) rfl rfl rfl rfl (zt b19 rfl (AO.done (M16 q20 (Sh.some_eq h2).symm _ (Wk.d0 _ rfl))))))
    ·exact zs b19 rfl (zs b19 rfl (zs b19 rfl (zf b19 rfl (AO.done (M16 false (Sh.some_eq h2).symm _ (Wk.d0 _ rfl))))))
   ·intro b13 h1
    refine AW.seq fun K21 hK21 => bs h1 fun o23 h2 h1 => ?_
    have M23 : ∀ (t22 : Bool), o23 = t22 → ∀ s, Wk 0 s ⟨183, envL [(1, (ls eI p1)), (3, (.ptr 0 0 0 0)), (5, (.ptr 1 0 0 0)), (40, (i64 p2.op)), (52, (.bool t22))], [(wC1 p0), (wC0 p2)]⟩ → K21 s := by
     intro t22 hq s hw
     subst o23
     try dsimp only at h1
     refine hK21 _ (AW.weaken hw ?_)
     refine ci h1 rfl ?_ ?_ <;> clear h1
     ·intro b24 h1
      refine sr rfl fun K25 hK25 => zm tb 3 rfl ?_
      refine ao_bs (m := 2) (st' := [(wC1 p0), (wC0 p2), (ro 0 3 1 eI [(0 : Int), 0])]) (l := [(0 : Int), 0]) (enc := eI) go0 ei37 (by decide) rfl rfl rfl rfl rfl rfl ?_
      refine AO.weaken (Wk.frz (L := [(57, (ls eI p1)), (59, (ls eI p2.args)), (60, (ls eI [(0 : Int), 0]))]) (st' := [(wC1 p0), (wC0 p2), ⟨1, 3, 1, []⟩]) (id := 2) rfl (show 0 ≤ 2 by decide) (pure_map fun _ => rfl) ⟨.rfl, .rfl, (.frz rfl), trivial⟩ rfl) (bs h1 fun q26 gq26 h1 => zc hb167 (spec_typed_ok gq26) rfl rfl rfl (dn hK25 rfl ?_))
      refine ci h1 rfl ?_ ?_ <;> clear h1
      ·intro b27 h1
       refine zr tb rfl rfl ?_
       replace h1 := Sh.some_eq h1
       subst o9
       try dsimp only [id] at h0
       replace h0 := Sh.some_eq h0
       subst r
       exact AW.ret (xr (Wk.d0 [(6, (i64 0))] rfl))
      ·intro b27 h1
       exact AW.skip (M9 () (Sh.some_eq h1).symm _ (Wk.d0 _ rfl))
     ·intro b24 h1
      refine zr tb rfl rfl ?_
      refine ci h1 rfl ?_ ?_ <;> clear h1
      ·intro b30 h1
       refine sr rfl fun K31 hK31 => zm tb 3 rfl ?_
       refine ao_bs (m := 2) (st' := [(wC1 p0), (wC0 p2), (ro 0 3 1 eI [(0 : Int)])]) (l := [(0 : Int)]) (enc := eI) go0 ei37 (by decide) rfl rfl rfl rfl rfl rfl ?_
       refine AO.weaken (Wk.frz (L := [(64, (ls eI p1)), (66, (ls eI p2.args)), (67, (ls eI [(0 : Int)]))]) (st' := [(wC1 p0), (wC0 p2), ⟨1, 3, 1, []⟩]) (id := 2) rfl (show 0 ≤ 2 by decide) (pure_map fun _ => rfl) ⟨.rfl, .rfl, (.frz rfl), trivial⟩ rfl) (bs h1 fun q32 gq32 h1 => zc hb167 (spec_typed_ok gq32) rfl rfl rfl (dn hK31 rfl ?_))
       refine ci h1 rfl ?_ ?_ <;> clear h1
       ·intro b33 h1
        refine zr tb rfl rfl ?_
        replace h1 := Sh.some_eq h1
        subst o9
        try dsimp only [id] at h0
        replace h0 := Sh.some_eq h0
        subst r
        exact AW.ret (xr (Wk.d0 [(6, (i64 0))] rfl))
       ·intro b33 h1
        exact AW.skip (M9 () (Sh.some_eq h1).symm _ (Wk.d0 _ rfl))
      ·intro b30 h1
       refine zr tb rfl rfl ?_
       refine ci h1 rfl ?_ ?_ <;> clear h1
       ·intro b36 h1
        refine AW.seq fun K37 hK37 => bs h1 fun o39 h2 h1 => ?_
        have M39 : ∀ (t38 : Bool), o39 = t38 → ∀ s, Wk 0 s ⟨183, envL [(3, (.ptr 0 0 0 0)), (5, (.ptr 1 0 0 0)), (87, (.bool t38))], [(wC1 p0), (wC0 p2)]⟩ → K37 s := by
         intro t38 hq s hw
         subst o39
         try dsimp only at h1
         refine hK37 _ (AW.weaken hw ?_)
         refine ci h1 rfl ?_ ?_ <;> clear h1
         ·intro b40 h1
          refine sr rfl fun K41 hK41 => zm tb 4 rfl (bs h1 fun q42 gq42 h1 => zc hb168 (spec_conType_ok gq42) rfl rfl rfl (zq tb rfl (dn hK41 rfl ?_)))
          replace h1 := Sh.some_eq h1
          subst o9
          try dsimp only [id] at h0
          replace h0 := Sh.some_eq h0
          subst r
          exact AW.ret (xr (Wk.d0 [(6, (i64 q42))] rfl))
         ·intro b40 h1
          exact AW.skip (M9 () (Sh.some_eq h1).symm _ (Wk.d0 _ rfl))
        refine AW.drawTailO 16 (by kernel_rfl) (by kernel_rfl) (by rfl) ?_
        iterate 4 refine yq tb rfl ?_
        refine bs h2 fun q43 gq43 h2 => d_call (v := (i64 q43)) go0 hb168 (spec_conType_ok gq43) rfl rfl rfl ?_
        iterate 2 refine yq tb rfl ?_
        rcases Sh.ite_some h2 with ⟨b44, h2⟩ | ⟨b44, h2⟩
        ·refine yg tb b44 rfl ?_
         iterate 6 refine yg tb b44 rfl ?_
         exact bs h2 fun q45 gq45 h2 => d_call (v := (ls eI q45)) (go1 rfl rfl b44) hb169 (spec_conFields_ok gq45) rfl rfl rfl (bs h2 fun q46 gq46 h2 => d_call (v := (.bool q46)) (go1 rfl rfl b44) hb167 (spec_typed_ok gq46) rfl rfl rfl (d_done (zt b44 rfl (AO.done (M39 q46 (Sh.some_eq h2).symm _ (Wk.tr rfl))))))
        ·refine ys b44 rfl ?_
         iterate 8 refine ys b44 rfl ?_
         exact d_done (zf b44 rfl (AO.done (M39 false (Sh.some_eq h2).symm _ (Wk.tr rfl))))
       ·intro b36 h1
        refine zr tb rfl rfl ?_
        refine ci h1 rfl ?_ ?_ <;> clear h1
        ·intro b48 h1
         refine sr rfl fun K49 hK49 => zm tb 3 rfl ?_
         refine ao_bs (m := 2) (st' := [(wC1 p0), (wC0 p2), (ro 0 3 1 eI [(0 : Int)])]) (l := [(0 : Int)]) (enc := eI) go0 ei37 (by decide) rfl rfl rfl rfl rfl rfl ?_
         refine AO.weaken (Wk.frz (L := [(1, (ls eI p1)), (3, (.ptr 0 0 0 0)), (5, (.ptr 1 0 0 0)), (95, (ls eI p1)), (97, (ls eI p2.args)), (98, (ls eI [(0 : Int)]))]) (st' := [(wC1 p0), (wC0 p2), ⟨1, 3, 1, []⟩]) (id := 2) rfl (show 0 ≤ 2 by decide) (pure_map fun _ => rfl) ⟨.rfl, .rfl, .rfl, .rfl, .rfl, (.frz rfl), trivial⟩ rfl) (bs h1 fun q50 gq50 h1 => zc hb167 (spec_typed_ok gq50) rfl rfl rfl (dn hK49 rfl ?_))
         refine ci h1 rfl ?_ ?_ <;> clear h1
         ·intro b51 h1
          refine sr rfl fun K52 hK52 => zm tb 3 rfl (bs h1 fun q53 gq53 h1 => zc hb170 (spec_kidsType_ok hrec_spec_blockType gq53) rfl rfl rfl (zq tb rfl (dn hK52 rfl ?_)))
          replace h1 := Sh.some_eq h1
          subst o9
          try dsimp only [id] at h0
          replace h0 := Sh.some_eq h0
          subst r
          exact AW.ret (xr (Wk.d0 [(6, (i64 q53))] rfl))
         ·intro b51 h1
          exact AW.skip (M9 () (Sh.some_eq h1).symm _ (Wk.d0 _ rfl))
        ·intro b48 h1
         refine zr tb rfl rfl ?_
         refine ci h1 rfl ?_ ?_ <;> clear h1
         ·intro b55 h1
          refine sr rfl fun K56 hK56 => zm tb 5 rfl ?_
          refine ao_bs (m := 2) (st' := [(wC1 p0), (wC0 p2), (ro 0 3 1 eI [p2.num])]) (l := [p2.num]) (enc := eI) go0 ei37 (by decide) rfl rfl rfl rfl rfl rfl ?_
          refine AO.weaken (Wk.frz (L := [(1, (ls eI p1)), (3, (.ptr 0 0 0 0)), (5, (.ptr 1 0 0 0)), (106, (ls eI p1)), (108, (ls eI p2.args)), (111, (ls eI [p2.num]))]) (st' := [(wC1 p0), (wC0 p2), ⟨1, 3, 1, []⟩]) (id := 2) rfl (show 0 ≤ 2 by decide) (pure_map fun _ => rfl) ⟨.rfl, .rfl, .rfl, .rfl, .rfl, (.frz rfl), trivial⟩ rfl) (bs h1 fun q57 gq57 h1 => zc hb167 (spec_typed_ok gq57) rfl rfl rfl (dn hK56 rfl ?_))
          refine ci h1 rfl ?_ ?_ <;> clear h1
          ·intro b58 h1
           refine sr rfl fun K59 hK59 => zm tb 3 rfl (bs h1 fun q60 gq60 h1 => zc hb170 (spec_kidsType_ok hrec_spec_blockType gq60) rfl rfl rfl (zq tb rfl (dn hK59 rfl ?_)))
           replace h1 := Sh.some_eq h1
           subst o9
           try dsimp only [id] at h0
           replace h0 := Sh.some_eq h0
           subst r
           exact AW.ret (xr (Wk.d0 [(6, (i64 q60))] rfl))
          ·intro b58 h1
           exact AW.skip (M9 () (Sh.some_eq h1).symm _ (Wk.d0 _ rfl))
         ·intro b55 h1
          refine AW.seq fun K61 hK61 => bs h1 fun o63 h2 h1 => ?_
          have M63 : ∀ (t62 : Bool), o63 = t62 → ∀ s, Wk 0 s ⟨183, envL [(1, (ls eI p1)), (3, (.ptr 0 0 0 0)), (5, (.ptr 1 0 0 0)), (40, (i64 p2.op)), (117, (.bool t62))], [(wC1 p0), (wC0 p2)]⟩ → K61 s := by
           intro t62 hq s hw
           subst o63
           try dsimp only at h1
           refine hK61 _ (AW.weaken hw ?_)
           refine ci h1 rfl ?_ ?_ <;> clear h1
           ·intro b64 h1
            refine sr rfl fun K65 hK65 => zm tb 3 rfl (bs h1 fun q66 gq66 h1 => zc hb171 (spec_routineType_ok gq66) rfl rfl rfl (zq tb rfl (dn hK65 rfl ?_)))
            replace h1 := Sh.some_eq h1
            subst o9
            try dsimp only [id] at h0
            replace h0 := Sh.some_eq h0
            subst r
            exact AW.ret (xr (Wk.d0 [(6, (i64 q66))] rfl))
           ·intro b64 h1
            refine zr tb rfl rfl ?_
            refine ci h1 rfl ?_ ?_ <;> clear h1
            ·intro b68 h1
             refine AW.seq fun K69 hK69 => bs h1 fun o71 h2 h1 => ?_
             have M71 : ∀ (t70 : Bool), o71 = t70 → ∀ s, Wk 0 s ⟨183, envL [(1, (ls eI p1)), (3, (.ptr 0 0 0 0)), (5, (.ptr 1 0 0 0)), (151, (.bool t70))], [(wC1 p0), (wC0 p2)]⟩ → K69 s := by
              intro t70 hq s hw
              subst o71
              try dsimp only at h1
              refine hK69 _ (AW.weaken hw ?_)
              refine ci h1 rfl ?_ ?_ <;> clear h1
              ·intro b72 h1
               refine AW.seq fun K73 hK73 => ?_
               refine AW.drawX (by kernel_rfl) ?_
               refine bs h1 fun c74 gc74 h1 => bs h1 fun c75 gc75 h1 => bs h1 fun c76 gc76 h1 => AX.one fun A77 hA77 => ?_
               have A77_0123456789abcd : A77 0 #[true, true, true, true, true, true, true, true, true, true, true, true, true, true] ⟨183, envL [(1, (ls eI p1)), (5, (.ptr 0 0 0 0)), (7, (.ptr 1 0 0 0))], [(wC0 p2), ⟨0, 98, 3, [(eRDecl c76)]⟩]⟩ := (hA77 _ _ _).2 (by
                refine AX.done rfl (by kernel_rfl) ?_
                refine hK73 _ (AW.seq fun K78 hK78 => ?_)
                refine AW.drawTailO 7 (by kernel_rfl) (by kernel_rfl) (by rfl) ?_
                iterate 3 refine yq tb rfl ?_
                refine bs h1 fun l79 gl79 h1 => d_sls (i := 1) (j := Sh.len p2.args) go0 ei37 rfl rfl rfl (fun _ => rfl) gl79 ?_
                iterate 2 refine yq tb rfl ?_
                refine d_bs (l := [c76.from_]) (enc := eI) go0 ei37 (by decide) rfl rfl rfl rfl rfl (pure_map fun _ => rfl) ?_
                refine d_done (bs h1 fun q80 gq80 h1 => zc hb167 (spec_typed_ok gq80) rfl rfl rfl (dn hK78 rfl ?_))
                refine ci h1 rfl ?_ ?_ <;> clear h1
                ·intro b81 h1
                 refine zr tb rfl rfl ?_
                 replace h1 := Sh.some_eq h1
                 subst o9
                 try dsimp only [id] at h0
                 replace h0 := Sh.some_eq h0
                 subst r
                 exact AW.ret (xr (Wk.d0 [(6, (i64 c76.to))] rfl))
                ·intro b81 h1
                 exact AW.skip (M9 () (Sh.some_eq h1).symm _ (by refine Wk.trans (Wk.permk (L := []) (st' := []) (st1 := []) [] rfl .nil (by decide) rfl rfl .nil trivial) ?_; exact Wk.to (L := []) trivial)))
               have A77_0123456789abc : A77 1 #[true, true, true, true, true, true, true, true, true, true, true, true, true, false] ⟨183, envL [(1, (ls eI p1)), (5, (.ptr 0 0 0 0)), (7, (.ptr 1 0 0 0)), (163, (.agg (eRDecl c76)))], [(wC0 p2), wC2]⟩ := (hA77 _ _ _).2 (by
                refine AX.all [13] rfl (by kernel_rfl) (by decide) ⟨?_, trivial⟩
                ·refine AXs.of (i := 13) rfl rfl (by rfl) ?_
                 refine ao_str (st' := [(wC0 p2), ⟨0, 98, 3, [(eRDecl c76)]⟩]) go0 ti98 rfl rfl rfl rfl rfl rfl (show 0 + 3 ≤ 3 by decide) rfl (AO.done ⟨rfl, ?_⟩)
                 exact AX.weaken (Wk.to (L := [(1, (ls eI p1)), (5, (.ptr 0 0 0 0)), (7, (.ptr 1 0 0 0))]) ⟨.rfl, .rfl, .rfl, trivial⟩) (AX.lst (by kernel_rfl) ((hA77 _ _ _).1 A77_0123456789abcd)) rfl)
               have A77_0123456789ab : A77 2 #[true, true, true, true, true, true, true, true, true, true, true, true, false, false] ⟨183, envL [(1, (ls eI p1)), (5, (.ptr 0 0 0 0)), (163, (.agg (eRDecl c76)))], [(wC0 p2)]⟩ := (hA77 _ _ _).2 (by
                refine AX.all [12] rfl (by kernel_rfl) (by decide) ⟨?_, trivial⟩
                ·refine AXs.of (i := 12) rfl rfl (by rfl) ?_
                 refine ao_alloc (m := 1) (st' := [(wC0 p2), wC2]) go0 zi98 rfl rfl (AO.done ⟨rfl, ?_⟩)
                 exact AX.weaken (Wk.to (L := [(1, (ls eI p1)), (5, (.ptr 0 0 0 0)), (7, (.ptr 1 0 0 0)), (163, (.agg (eRDecl c76)))]) ⟨.rfl, .rfl, .rfl, .rfl, trivial⟩) (AX.lst (by kernel_rfl) ((hA77 _ _ _).1 A77_0123456789abc)) rfl)
               have A77_0123456789ac : A77 2 #[true, true, true, true, true, true, true, true, true, true, true, false, true, false] ⟨183, envL [(1, (ls eI p1)), (5, (.ptr 0 0 0 0)), (7, (.ptr 1 0 0 0)), (162, (.iptr (eRDecl c76) 0))], [(wC0 p2), wC2]⟩ := (hA77 _ _ _).2 (by
                refine AX.all [11] rfl (by kernel_rfl) (by decide) ⟨?_, trivial⟩
                ·refine AXs.of (i := 11) rfl rfl (by rfl) ?_
                 refine zq tb rfl (AO.done ⟨rfl, ?_⟩)
                 exact AX.weaken (Wk.to (L := [(1, (ls eI p1)), (5, (.ptr 0 0 0 0)), (7, (.ptr 1 0 0 0)), (163, (.agg (eRDecl c76)))]) ⟨.rfl, .rfl, .rfl, .rfl, trivial⟩) (AX.lst (by kernel_rfl) ((hA77 _ _ _).1 A77_0123456789abc)) rfl)
               have A77_0123456789a : A77 3 #[true, true, true, true, true, true, true, true, true, true, true, false, false, false] ⟨183, envL [(1, (ls eI p1)), (5, (.ptr 0 0 0 0)), (162, (.iptr (eRDecl c76) 0))], [(wC0 p2)]⟩ := (hA77 _ _ _).2 (by
                refine AX.all [11, 12] rfl (by kernel_rfl) (by decide) ⟨?_, ?_, trivial⟩
                ·refine AXs.of (i := 11) rfl rfl (by rfl) ?_
                 refine zq tb rfl (AO.done ⟨rfl, ?_⟩)
                 exact AX.weaken (Wk.to (L := [(1, (ls eI p1)), (5, (.ptr 0 0 0 0)), (163, (.agg (eRDecl c76)))]) ⟨.rfl, .rfl, .rfl, trivial⟩) (AX.lst (by kernel_rfl) ((hA77 _ _ _).1 A77_0123456789ab)) rfl
                ·refine AXs.of (i := 12) rfl rfl (by rfl) ?_
                 refine ao_alloc (m := 1) (st' := [(wC0 p2), wC2]) go0 zi98 rfl rfl (AO.done ⟨rfl, ?_⟩)
                 exact AX.weaken (Wk.to (L := [(1, (ls eI p1)), (5, (.ptr 0 0 0 0)), (7, (.ptr 1 0 0 0)), (162, (.iptr (eRDecl c76) 0))]) ⟨.rfl, .rfl, .rfl, .rfl, trivial⟩) (AX.lst (by kernel_rfl) ((hA77 _ _ _).1 A77_0123456789ac)) rfl)
               have A77_0123456789c : A77 3 #[true, true, true, true, true, true, true, true, true, true, false, false, true, false] ⟨183, envL [(1, (ls eI p1)), (5, (.ptr 0 0 0 0)), (7, (.ptr 1 0 0 0)), (153, (ls eRDecl p0.decls)), (161, (i64 (Sh.w (c75 - 1))))], [(wC0 p2), wC2]⟩ := (hA77 _ _ _).2 (by
                refine AX.all [10] rfl (by kernel_rfl) (by decide) ⟨?_, trivial⟩
                ·refine AXs.of (i := 10) rfl rfl (by rfl) ?_
                 refine zx ei27 gc76 rfl rfl rfl (AO.done ⟨rfl, ?_⟩)
                 exact AX.weaken (Wk.to (L := [(1, (ls eI p1)), (5, (.ptr 0 0 0 0)), (7, (.ptr 1 0 0 0)), (162, (.iptr (eRDecl c76) 0))]) ⟨.rfl, .rfl, .rfl, .rfl, trivial⟩) (AX.lst (by kernel_rfl) ((hA77 _ _ _).1 A77_0123456789ac)) rfl)
               have A77_0123456789 : A77 4 #[true, true, true, true, true, true, true, true, true, true, false, false, false, false] ⟨183, envL [(1, (ls eI p1)), (5, (.ptr 0 0 0 0)), (153, (ls eRDecl p0.decls)), (161, (i64 (Sh.w (c75 - 1))))], [(wC0 p2)]⟩ := (hA77 _ _ _).2 (by
                refine AX.all [10, 12] rfl (by kernel_rfl) (by decide) ⟨?_, ?_, trivial⟩
                ·refine AXs.of (i := 10) rfl rfl (by rfl) ?_
                 refine zx ei27 gc76 rfl rfl rfl (AO.done ⟨rfl, ?_⟩)
                 exact AX.weaken (Wk.to (L := [(1, (ls eI p1)), (5, (.ptr 0 0 0 0)), (162, (.iptr (eRDecl c76) 0))]) ⟨.rfl, .rfl, .rfl, trivial⟩) (AX.lst (by kernel_rfl) ((hA77 _ _ _).1 A77_0123456789a)) rfl
                ·refine AXs.of (i := 12) rfl rfl (by rfl) ?_
                 refine ao_alloc (m := 1) (st' := [(wC0 p2), wC2]) go0 zi98 rfl rfl (AO.done ⟨rfl, ?_⟩)
                 exact AX.weaken (Wk.to (L := [(1, (ls eI p1)), (5, (.ptr 0 0 0 0)), (7, (.ptr 1 0 0 0)), (153, (ls eRDecl p0.decls)), (161, (i64 (Sh.w (c75 - 1))))]) ⟨.rfl, .rfl, .rfl, .rfl, .rfl, trivial⟩) (AX.lst (by kernel_rfl) ((hA77 _ _ _).1 A77_0123456789c)) rfl)
               have A77_012345678c : A77 4 #[true, true, true, true, true, true, true, true, true, false, false, false, true, false] ⟨183, envL (wC14 c75 p0 p1), [(wC0 p2), wC2]⟩ := (hA77 _ _ _).2 (by
                refine AX.all [9] rfl (by kernel_rfl) (by decide) ⟨?_, trivial⟩
                ·refine AXs.of (i := 9) rfl rfl (by rfl) ?_
                 refine zq tb rfl (AO.done ⟨rfl, ?_⟩)
                 exact AX.weaken (Wk.to (L := [(1, (ls eI p1)), (5, (.ptr 0 0 0 0)), (7, (.ptr 1 0 0 0)), (153, (ls eRDecl p0.decls)), (161, (i64 (Sh.w (c75 - 1))))]) ⟨.rfl, .rfl, .rfl, .rfl, .rfl, trivial⟩) (AX.lst (by kernel_rfl) ((hA77 _ _ _).1 A77_0123456789c)) rfl)
               have A77_012345678 : A77 5 #[true, true, true, true, true, true, true, true, true, false, false, false, false, false] ⟨183, envL (wC28 c75 p0 p1), [(wC0 p2)]⟩ := (hA77 _ _ _).2 (by
                refine AX.all [9, 12] rfl (by kernel_rfl) (by decide) ⟨?_, ?_, trivial⟩
                ·refine AXs.of (i := 9) rfl rfl (by rfl) ?_
                 refine zq tb rfl (AO.done ⟨rfl, ?_⟩)
                 exact AX.weaken (Wk.to (L := [(1, (ls eI p1)), (5, (.ptr 0 0 0 0)), (153, (ls eRDecl p0.decls)), (161, (i64 (Sh.w (c75 - 1))))]) ⟨.rfl, .rfl, .rfl, .rfl, trivial⟩) (AX.lst (by kernel_rfl) ((hA77 _ _ _).1 A77_0123456789)) rfl
                ·refine AXs.of (i := 12) rfl rfl (by rfl) ?_
                 refine ao_alloc (m := 1) (st' := [(wC0 p2), wC2]) go0 zi98 rfl rfl (AO.done ⟨rfl, ?_⟩)
                 exact AX.weaken (Wk.to (L := (wC14 c75 p0 p1)) ⟨.rfl, .rfl, .rfl, .rfl, .rfl, trivial⟩) (AX.lst (by kernel_rfl) ((hA77 _ _ _).1 A77_012345678c)) rfl)
               have A77_01234567c : A77 5 #[true, true, true, true, true, true, true, true, false, false, false, false, true, false] ⟨183, envL (wC13 c75 p0 p1), [(wC0 p2), wC2]⟩ := (hA77 _ _ _).2 (by
                refine AX.all [8] rfl (by kernel_rfl) (by decide) ⟨?_, trivial⟩
                ·refine AXs.of (i := 8) rfl rfl (by rfl) ?_
                 refine zq tb rfl (AO.done ⟨rfl, ?_⟩)
                 exact AX.weaken (Wk.to (L := (wC14 c75 p0 p1)) ⟨.rfl, .rfl, .rfl, .rfl, .rfl, trivial⟩) (AX.lst (by kernel_rfl) ((hA77 _ _ _).1 A77_012345678c)) rfl)
               have A77_01234567 : A77 6 #[true, true, true, true, true, true, true, true, false, false, false, false, false, false] ⟨183, envL (wC26 c75 p0 p1), [(wC0 p2)]⟩ := (hA77 _ _ _).2 (by
                refine AX.all [8, 12] rfl (by kernel_rfl) (by decide) ⟨?_, ?_, trivial⟩
                ·refine AXs.of (i := 8) rfl rfl (by rfl) ?_
                 refine zq tb rfl (AO.done ⟨rfl, ?_⟩)
                 exact AX.weaken (Wk.to (L := (wC28 c75 p0 p1)) ⟨.rfl, .rfl, .rfl, .rfl, trivial⟩) (AX.lst (by kernel_rfl) ((hA77 _ _ _).1 A77_012345678)) rfl
                ·refine AXs.of (i := 12) rfl rfl (by rfl) ?_
                 refine ao_alloc (m := 1) (st' := [(wC0 p2), wC2]) go0 zi98 rfl rfl (AO.done ⟨rfl, ?_⟩)
                 exact AX.weaken (Wk.to (L := (wC13 c75 p0 p1)) ⟨.rfl, .rfl, .rfl, .rfl, .rfl, trivial⟩) (AX.lst (by kernel_rfl) ((hA77 _ _ _).1 A77_01234567c)) rfl)
               have A77_0123456c : A77 6 #[true, true, true, true, true, true, true, false, false, false, false, false, true, false] ⟨183, envL (wC11 c74 p0 p1), [(wC0 p2), wC2]⟩ := (hA77 _ _ _).2 (by
                refine AX.all [7] rfl (by kernel_rfl) (by decide) ⟨?_, trivial⟩
                ·refine AXs.of (i := 7) rfl rfl (by rfl) ?_
                 refine zx ei37 gc75 rfl rfl rfl (AO.done ⟨rfl, ?_⟩)
                 exact AX.weaken (Wk.to (L := (wC13 c75 p0 p1)) ⟨.rfl, .rfl, .rfl, .rfl, .rfl, trivial⟩) (AX.lst (by kernel_rfl) ((hA77 _ _ _).1 A77_01234567c)) rfl)
               have A77_0123456 : A77 7 #[true, true, true, true, true, true, true, false, false, false, false, false, false, false] ⟨183, envL (wC21 c74 p0 p1), [(wC0 p2)]⟩ := (hA77 _ _ _).2 (by
                refine AX.all [7, 12] rfl (by kernel_rfl) (by decide) ⟨?_, ?_, trivial⟩
                ·refine AXs.of (i := 7) rfl rfl (by rfl) ?_
                 refine zx ei37 gc75 rfl rfl rfl (AO.done ⟨rfl, ?_⟩)
                 exact AX.weaken (Wk.to (L := (wC26 c75 p0 p1)) ⟨.rfl, .rfl, .rfl, .rfl, trivial⟩) (AX.lst (by kernel_rfl) ((hA77 _ _ _).1 A77_01234567)) rfl
                ·refine AXs.of (i := 12) rfl rfl (by rfl) ?_
                 refine ao_alloc (m := 1) (st' := [(wC0 p2), wC2]) go0 zi98 rfl rfl (AO.done ⟨rfl, ?_⟩)
                 exact AX.weaken (Wk.to (L := (wC11 c74 p0 p1)) ⟨.rfl, .rfl, .rfl, .rfl, .rfl, .rfl, trivial⟩) (AX.lst (by kernel_rfl) ((hA77 _ _ _).1 A77_0123456c)) rfl)
               have A77_012345c : A77 7 #[true, true, true, true, true, true, false, false, false, false, false, false, true, false] ⟨183, envL (wC8 c74 p0 p1), [(wC0 p2), wC2]⟩ := (hA77 _ _ _).2 (by
                refine AX.all [6] rfl (by kernel_rfl) (by decide) ⟨?_, trivial⟩
                ·refine AXs.of (i := 6) rfl rfl (by rfl) ?_
                 refine zq tb rfl (AO.done ⟨rfl, ?_⟩)
                 exact AX.weaken (Wk.to (L := (wC11 c74 p0 p1)) ⟨.rfl, .rfl, .rfl, .rfl, .rfl, .rfl, trivial⟩) (AX.lst (by kernel_rfl) ((hA77 _ _ _).1 A77_0123456c)) rfl)
               have A77_012345 : A77 8 #[true, true, true, true, true, true, false, false, false, false, false, false, false, false] ⟨183, envL (wC16 c74 p0 p1), [(wC0 p2)]⟩ := (hA77 _ _ _).2 (by
                refine AX.all [6, 12] rfl (by kernel_rfl) (by decide) ⟨?_, ?_, trivial⟩
                ·refine AXs.of (i := 6) rfl rfl (by rfl) ?_
                 refine zq tb rfl (AO.done ⟨rfl, ?_⟩)
                 exact AX.weaken (Wk.to (L := (wC21 c74 p0 p1)) ⟨.rfl, .rfl, .rfl, .rfl, .rfl, trivial⟩) (AX.lst (by kernel_rfl) ((hA77 _ _ _).1 A77_0123456)) rfl
                ·refine AXs.of (i := 12) rfl rfl (by rfl) ?_
                 refine ao_alloc (m := 1) (st' := [(wC0 p2), wC2]) go0 zi98 rfl rfl (AO.done ⟨rfl, ?_⟩)
                 exact AX.weaken (Wk.to (L := (wC8 c74 p0 p1)) ⟨.rfl, .rfl, .rfl, .rfl, .rfl, .rfl, trivial⟩) (AX.lst (by kernel_rfl) ((hA77 _ _ _).1 A77_012345c)) rfl)
               have A77_01234c : A77 8 #[true, true, true, true, true, false, false, false, false, false, false, false, true, false] ⟨183, envL (wC9 p0 p1 p2), [(wC0 p2), wC2]⟩ := (hA77 _ _ _).2 (by
                refine AX.all [5] rfl (by kernel_rfl) (by decide) ⟨?_, trivial⟩
                ·refine AXs.of (i := 5) rfl rfl (by rfl) ?_
                 refine zx ei37 gc74 rfl rfl rfl (AO.done ⟨rfl, ?_⟩)
                 exact AX.weaken (Wk.to (L := (wC8 c74 p0 p1)) ⟨.rfl, .rfl, .rfl, .rfl, .rfl, .rfl, trivial⟩) (AX.lst (by kernel_rfl) ((hA77 _ _ _).1 A77_012345c)) rfl)
               have A77_01234 : A77 9 #[true, true, true, true, true, false, false, false, false, false, false, false, false, false] ⟨183, envL (wC17 p0 p1 p2), [(wC0 p2)]⟩ := (hA77 _ _ _).2 (by
                refine AX.all [5, 12] rfl (by kernel_rfl) (by decide) ⟨?_, ?_, trivial⟩
                ·refine AXs.of (i := 5) rfl rfl (by rfl) ?_
                 refine zx ei37 gc74 rfl rfl rfl (AO.done ⟨rfl, ?_⟩)
                 exact AX.weaken (Wk.to (L := (wC16 c74 p0 p1)) ⟨.rfl, .rfl, .rfl, .rfl, .rfl, trivial⟩) (AX.lst (by kernel_rfl) ((hA77 _ _ _).1 A77_012345)) rfl
                ·refine AXs.of (i := 12) rfl rfl (by rfl) ?_
                 refine ao_alloc (m := 1) (st' := [(wC0 p2), wC2]) go0 zi98 rfl rfl (AO.done ⟨rfl, ?_⟩)
                 exact AX.weaken (Wk.to (L := (wC9 p0 p1 p2)) ⟨.rfl, .rfl, .rfl, .rfl, .rfl, .rfl, trivial⟩) (AX.lst (by kernel_rfl) ((hA77 _ _ _).1 A77_01234c)) rfl)
               have A77_0123c : A77 9 #[true, true, true, true, false, false, false, false, false, false, false, false, true, false] ⟨183, envL (wC10 p0 p1), [(wC0 p2), wC2]⟩ := (hA77 _ _ _).2 (by
                refine AX.all [4] rfl (by kernel_rfl) (by decide) ⟨?_, trivial⟩
                ·refine AXs.of (i := 4) rfl rfl (by rfl) ?_
                 refine zq tb rfl (AO.done ⟨rfl, ?_⟩)
                 exact AX.weaken (Wk.to (L := (wC9 p0 p1 p2)) ⟨.rfl, .rfl, .rfl, .rfl, .rfl, .rfl, trivial⟩) (AX.lst (by kernel_rfl) ((hA77 _ _ _).1 A77_01234c)) rfl)
               have A77_0123 : A77 10 #[true, true, true, true, false, false, false, false, false, false, false, false, false, false] ⟨183, envL (wC18 p0 p1), [(wC0 p2)]⟩ := (hA77 _ _ _).2 (by
                refine AX.all [4, 12] rfl (by kernel_rfl) (by decide) ⟨?_, ?_, trivial⟩
                ·refine AXs.of (i := 4) rfl rfl (by rfl) ?_
                 refine zq tb rfl (AO.done ⟨rfl, ?_⟩)
                 exact AX.weaken (Wk.to (L := (wC17 p0 p1 p2)) ⟨.rfl, .rfl, .rfl, .rfl, .rfl, trivial⟩) (AX.lst (by kernel_rfl) ((hA77 _ _ _).1 A77_01234)) rfl
                ·refine AXs.of (i := 12) rfl rfl (by rfl) ?_
                 refine ao_alloc (m := 1) (st' := [(wC0 p2), wC2]) go0 zi98 rfl rfl (AO.done ⟨rfl, ?_⟩)
                 exact AX.weaken (Wk.to (L := (wC10 p0 p1)) ⟨.rfl, .rfl, .rfl, .rfl, .rfl, .rfl, trivial⟩) (AX.lst (by kernel_rfl) ((hA77 _ _ _).1 A77_0123c)) rfl)
               have A77_012c : A77 10 #[true, true, true, false, false, false, false, false, false, false, false, false, true, false] ⟨183, envL (wC19 p0 p1), [(wC0 p2), wC2]⟩ := (hA77 _ _ _).2 (by
                refine AX.all [3] rfl (by kernel_rfl) (by decide) ⟨?_, trivial⟩
                ·refine AXs.of (i := 3) rfl rfl (by rfl) ?_
                 refine zq tb rfl (AO.done ⟨rfl, ?_⟩)
                 exact AX.weaken (Wk.to (L := (wC10 p0 p1)) ⟨.rfl, .rfl, .rfl, .rfl, .rfl, .rfl, trivial⟩) (AX.lst (by kernel_rfl) ((hA77 _ _ _).1 A77_0123c)) rfl)
               have A77_012 : A77 11 #[true, true, true, false, false, false, false, false, false, false, false, false, false, false] ⟨183, envL [(1, (ls eI p1)), (5, (.ptr 0 0 0 0)), (153, (ls eRDecl p0.decls)), (154, (ls eI p1))], [(wC0 p2)]⟩ := (hA77 _ _ _).2 (by
                refine AX.all [3, 12] rfl (by kernel_rfl) (by decide) ⟨?_, ?_, trivial⟩
                ·refine AXs.of (i := 3) rfl rfl (by rfl) ?_
                 refine zq tb rfl (AO.done ⟨rfl, ?_⟩)
                 exact AX.weaken (Wk.to (L := (wC18 p0 p1)) ⟨.rfl, .rfl, .rfl, .rfl, .rfl, trivial⟩) (AX.lst (by kernel_rfl) ((hA77 _ _ _).1 A77_0123)) rfl
                ·refine AXs.of (i := 12) rfl rfl (by rfl) ?_
                 refine ao_alloc (m := 1) (st' := [(wC0 p2), wC2]) go0 zi98 rfl rfl (AO.done ⟨rfl, ?_⟩)
                 exact AX.weaken (Wk.to (L := (wC19 p0 p1)) ⟨.rfl, .rfl, .rfl, .rfl, .rfl, trivial⟩) (AX.lst (by kernel_rfl) ((hA77 _ _ _).1 A77_012c)) rfl)
               have A77_023456789c : A77 4 #[true, false, true, true, true, true, true, true, true, true, false, false, true, false] ⟨183, envL [(1, (ls eI p1)), (5, (.ptr 0 0 0 0)), (7, (.ptr 1 0 0 0)), (152, (.ptr 2 0 0 0)), (161, (i64 (Sh.w (c75 - 1))))], [(wC0 p2), wC2, (wC1 p0)]⟩ := (hA77 _ _ _).2 (by
                refine AX.all [1] rfl (by kernel_rfl) (by decide) ⟨?_, trivial⟩
                ·refine AXs.of (i := 1) rfl rfl (by rfl) ?_
                 refine zq tb rfl (AO.done ⟨rfl, ?_⟩)
                 exact AX.weaken (by refine Wk.trans (Wk.permk (L := [(1, (ls eI p1)), (5, (.ptr 0 0 0 0)), (7, (.ptr 1 0 0 0)), (153, (ls eRDecl p0.decls)), (161, (i64 (Sh.w (c75 - 1))))]) (st' := [(wC0 p2), wC2]) (st1 := [(wC0 p2), wC2]) [0, 1] rfl .nil (by decide) rfl rfl (.raw rfl rfl (.raw rfl rfl .nil)) ⟨.rfl, .rfl, .rfl, .rfl, .rfl, trivial⟩) ?_; exact Wk.to (L := [(1, (ls eI p1)), (5, (.ptr 0 0 0 0)), (7, (.ptr 1 0 0 0)), (153, (ls eRDecl p0.decls)), (161, (i64 (Sh.w (c75 - 1))))]) ⟨.rfl, .rfl, .rfl, .rfl, .rfl, trivial⟩) (AX.lst (by kernel_rfl) ((hA77 _ _ _).1 A77_0123456789c)) rfl)
               have A77_023456789 : A77 5 #[true, false, true, true, true, true, true, true, true, true, false, false, false, false] ⟨183, envL [(1, (ls eI p1)), (5, (.ptr 0 0 0 0)), (152, (.ptr 1 0 0 0)), (161, (i64 (Sh.w (c75 - 1))))], [(wC0 p2), (wC1 p0)]⟩ := (hA77 _ _ _).2 (by
                refine AX.all [1, 12] rfl (by kernel_rfl) (by decide) ⟨?_, ?_, trivial⟩
                ·refine AXs.of (i := 1) rfl rfl (by rfl) ?_
                 refine zq tb rfl (AO.done ⟨rfl, ?_⟩)
                 exact AX.weaken (by refine Wk.trans (Wk.permk (L := [(1, (ls eI p1)), (5, (.ptr 0 0 0 0)), (153, (ls eRDecl p0.decls)), (161, (i64 (Sh.w (c75 - 1))))]) (st' := [(wC0 p2)]) (st1 := [(wC0 p2)]) [0] rfl .nil (by decide) rfl rfl (.raw rfl rfl .nil) ⟨.rfl, .rfl, .rfl, .rfl, trivial⟩) ?_; exact Wk.to (L := [(1, (ls eI p1)), (5, (.ptr 0 0 0 0)), (153, (ls eRDecl p0.decls)), (161, (i64 (Sh.w (c75 - 1))))]) ⟨.rfl, .rfl, .rfl, .rfl, trivial⟩) (AX.lst (by kernel_rfl) ((hA77 _ _ _).1 A77_0123456789)) rfl
                ·refine AXs.of (i := 12) rfl rfl (by rfl) ?_
                 refine ao_alloc (m := 2) (st' := [(wC0 p2), (wC1 p0), wC2]) go0 zi98 rfl rfl (AO.done ⟨rfl, ?_⟩)
                 exact AX.weaken (by refine Wk.trans (Wk.permk (L := [(1, (ls eI p1)), (5, (.ptr 0 0 0 0)), (7, (.ptr 1 0 0 0)), (152, (.ptr 2 0 0 0)), (161, (i64 (Sh.w (c75 - 1))))]) (st' := [(wC0 p2), wC2, (wC1 p0)]) (st1 := [(wC0 p2), wC2, (wC1 p0)]) [0, 2, 1] rfl .nil (by decide) rfl rfl (.raw rfl rfl (.raw rfl rfl (.raw rfl rfl .nil))) ⟨.rfl, .rfl, .rfl, .rfl, .rfl, trivial⟩) ?_; exact Wk.to (L := [(1, (ls eI p1)), (5, (.ptr 0 0 0 0)), (7, (.ptr 1 0 0 0)), (152, (.ptr 2 0 0 0)), (161, (i64 (Sh.w (c75 - 1))))]) ⟨.rfl, .rfl, .rfl, .rfl, .rfl, trivial⟩) (AX.lst (by kernel_rfl) ((hA77 _ _ _).1 A77_023456789c)) rfl)
               have A77_02345678c : A77 5 #[true, false, true, true, true, true, true, true, true, false, false, false, true, false] ⟨183, envL (wC12 c75 p1), [(wC0 p2), wC2, (wC1 p0)]⟩ := (hA77 _ _ _).2 (by
                refine AX.all [1, 9] rfl (by kernel_rfl) (by decide) ⟨?_, ?_, trivial⟩
                ·refine AXs.of (i := 1) rfl rfl (by rfl) ?_
                 refine zq tb rfl (AO.done ⟨rfl, ?_⟩)
                 exact AX.weaken (by refine Wk.trans (Wk.permk (L := (wC14 c75 p0 p1)) (st' := [(wC0 p2), wC2]) (st1 := [(wC0 p2), wC2]) [0, 1] rfl .nil (by decide) rfl rfl (.raw rfl rfl (.raw rfl rfl .nil)) ⟨.rfl, .rfl, .rfl, .rfl, .rfl, trivial⟩) ?_; exact Wk.to (L := (wC14 c75 p0 p1)) ⟨.rfl, .rfl, .rfl, .rfl, .rfl, trivial⟩) (AX.lst (by kernel_rfl) ((hA77 _ _ _).1 A77_012345678c)) rfl
                ·refine AXs.of (i := 9) rfl rfl (by rfl) ?_
                 refine zq tb rfl (AO.done ⟨rfl, ?_⟩)
                 exact AX.weaken (Wk.to (L := [(1, (ls eI p1)), (5, (.ptr 0 0 0 0)), (7, (.ptr 1 0 0 0)), (152, (.ptr 2 0 0 0)), (161, (i64 (Sh.w (c75 - 1))))]) ⟨.rfl, .rfl, .rfl, .rfl, .rfl, trivial⟩) (AX.lst (by kernel_rfl) ((hA77 _ _ _).1 A77_023456789c)) rfl)
               have A77_02345678 : A77 6 #[true, false, true, true, true, true, true, true, true, false, false, false, false, false] ⟨183, envL (wC33 c75 p1), [(wC0 p2), (wC1 p0)]⟩ := (hA77 _ _ _).2 (by
                refine AX.all [1, 9, 12] rfl (by kernel_rfl) (by decide) ⟨?_, ?_, ?_, trivial⟩
                ·refine AXs.of (i := 1) rfl rfl (by rfl) ?_
                 refine zq tb rfl (AO.done ⟨rfl, ?_⟩)
                 exact AX.weaken (by refine Wk.trans (Wk.permk (L := (wC28 c75 p0 p1)) (st' := [(wC0 p2)]) (st1 := [(wC0 p2)]) [0] rfl .nil (by decide) rfl rfl (.raw rfl rfl .nil) ⟨.rfl, .rfl, .rfl, .rfl, trivial⟩) ?_; exact Wk.to (L := (wC28 c75 p0 p1)) ⟨.rfl, .rfl, .rfl, .rfl, trivial⟩) (AX.lst (by kernel_rfl) ((hA77 _ _ _).1 A77_012345678)) rfl
                ·refine AXs.of (i := 9) rfl rfl (by rfl) ?_
                 refine zq tb rfl (AO.done ⟨rfl, ?_⟩)
                 exact AX.weaken (Wk.to (L := [(1, (ls eI p1)), (5, (.ptr 0 0 0 0)), (152, (.ptr 1 0 0 0)), (161, (i64 (Sh.w (c75 - 1))))]) ⟨.rfl, .rfl, .rfl, .rfl, trivial⟩) (AX.lst (by kernel_rfl) ((hA77 _ _ _).1 A77_023456789)) rfl
                ·refine AXs.of (i := 12) rfl rfl (by rfl) ?_
                 refine ao_alloc (m := 2) (st' := [(wC0 p2), (wC1 p0), wC2]) go0 zi98 rfl rfl (AO.done ⟨rfl, ?_⟩)
                 exact AX.weaken (by refine Wk.trans (Wk.permk (L := (wC12 c75 p1)) (st' := [(wC0 p2), wC2, (wC1 p0)]) (st1 := [(wC0 p2), wC2, (wC1 p0)]) [0, 2, 1] rfl .nil (by decide) rfl rfl (.raw rfl rfl (.raw rfl rfl (.raw rfl rfl .nil))) ⟨.rfl, .rfl, .rfl, .rfl, .rfl, trivial⟩) ?_; exact Wk.to (L := (wC12 c75 p1)) ⟨.rfl, .rfl, .rfl, .rfl, .rfl, trivial⟩) (AX.lst (by kernel_rfl) ((hA77 _ _ _).1 A77_02345678c)) rfl)
               have A77_0234567c : A77 6 #[true, false, true, true, true, true, true, true, false, false, false, false, true, false] ⟨183, envL (wC7 c75 p1), [(wC0 p2), wC2, (wC1 p0)]⟩ := (hA77 _ _ _).2 (by
                refine AX.all [1, 8] rfl (by kernel_rfl) (by decide) ⟨?_, ?_, trivial⟩
                ·refine AXs.of (i := 1) rfl rfl (by rfl) ?_
                 refine zq tb rfl (AO.done ⟨rfl, ?_⟩)
                 exact AX.weaken (by refine Wk.trans (Wk.permk (L := (wC13 c75 p0 p1)) (st' := [(wC0 p2), wC2]) (st1 := [(wC0 p2), wC2]) [0, 1] rfl .nil (by decide) rfl rfl (.raw rfl rfl (.raw rfl rfl .nil)) ⟨.rfl, .rfl, .rfl, .rfl, .rfl, trivial⟩) ?_; exact Wk.to (L := (wC13 c75 p0 p1)) ⟨.rfl, .rfl, .rfl, .rfl, .rfl, trivial⟩) (AX.lst (by kernel_rfl) ((hA77 _ _ _).1 A77_01234567c)) rfl
                ·refine AXs.of (i := 8) rfl rfl (by rfl) ?_
                 refine zq tb rfl (AO.done ⟨rfl, ?_⟩)
                 exact AX.weaken (Wk.to (L := (wC12 c75 p1)) ⟨.rfl, .rfl, .rfl, .rfl, .rfl, trivial⟩) (AX.lst (by kernel_rfl) ((hA77 _ _ _).1 A77_02345678c)) rfl)
               have A77_0234567 : A77 7 #[true, false, true, true, true, true, true, true, false, false, false, false, false, false] ⟨183, envL (wC27 c75 p1), [(wC0 p2), (wC1 p0)]⟩ := (hA77 _ _ _).2 (by
                refine AX.all [1, 8, 12] rfl (by kernel_rfl) (by decide) ⟨?_, ?_, ?_, trivial⟩
                ·refine AXs.of (i := 1) rfl rfl (by rfl) ?_
                 refine zq tb rfl (AO.done ⟨rfl, ?_⟩)
                 exact AX.weaken (by refine Wk.trans (Wk.permk (L := (wC26 c75 p0 p1)) (st' := [(wC0 p2)]) (st1 := [(wC0 p2)]) [0] rfl .nil (by decide) rfl rfl (.raw rfl rfl .nil) ⟨.rfl, .rfl, .rfl, .rfl, trivial⟩) ?_; exact Wk.to (L := (wC26 c75 p0 p1)) ⟨.rfl, .rfl, .rfl, .rfl, trivial⟩) (AX.lst (by kernel_rfl) ((hA77 _ _ _).1 A77_01234567)) rfl
                ·refine AXs.of (i := 8) rfl rfl (by rfl) ?_
                 refine zq tb rfl (AO.done ⟨rfl, ?_⟩)
                 exact AX.weaken (Wk.to (L := (wC33 c75 p1)) ⟨.rfl, .rfl, .rfl, .rfl, trivial⟩) (AX.lst (by kernel_rfl) ((hA77 _ _ _).1 A77_02345678)) rfl
                ·refine AXs.of (i := 12) rfl rfl (by rfl) ?_
                 refine ao_alloc (m := 2) (st' := [(wC0 p2), (wC1 p0), wC2]) go0 zi98 rfl rfl (AO.done ⟨rfl, ?_⟩)
                 exact AX.weaken (by refine Wk.trans (Wk.permk (L := (wC7 c75 p1)) (st' := [(wC0 p2), wC2, (wC1 p0)]) (st1 := [(wC0 p2), wC2, (wC1 p0)]) [0, 2, 1] rfl .nil (by decide) rfl rfl (.raw rfl rfl (.raw rfl rfl (.raw rfl rfl .nil))) ⟨.rfl, .rfl, .rfl, .rfl, .rfl, trivial⟩) ?_; exact Wk.to (L := (wC7 c75 p1)) ⟨.rfl, .rfl, .rfl, .rfl, .rfl, trivial⟩) (AX.lst (by kernel_rfl) ((hA77 _ _ _).1 A77_0234567c)) rfl)
               have A77_023456c : A77 7 #[true, false, true, true, true, true, true, false, false, false, false, false, true, false] ⟨183, envL (wC6 c74 p1), [(wC0 p2), wC2, (wC1 p0)]⟩ := (hA77 _ _ _).2 (by
                refine AX.all [1, 7] rfl (by kernel_rfl) (by decide) ⟨?_, ?_, trivial⟩
                ·refine AXs.of (i := 1) rfl rfl (by rfl) ?_
                 refine zq tb rfl (AO.done ⟨rfl, ?_⟩)
                 exact AX.weaken (by refine Wk.trans (Wk.permk (L := (wC11 c74 p0 p1)) (st' := [(wC0 p2), wC2]) (st1 := [(wC0 p2), wC2]) [0, 1] rfl .nil (by decide) rfl rfl (.raw rfl rfl (.raw rfl rfl .nil)) ⟨.rfl, .rfl, .rfl, .rfl, .rfl, .rfl, trivial⟩) ?_; exact Wk.to (L := (wC11 c74 p0 p1)) ⟨.rfl, .rfl, .rfl, .rfl, .rfl, .rfl, trivial⟩) (AX.lst (by kernel_rfl) ((hA77 _ _ _).1 A77_0123456c)) rfl
                ·refine AXs.of (i := 7) rfl rfl (by rfl) ?_
                 refine zx ei37 gc75 rfl rfl rfl (AO.done ⟨rfl, ?_⟩)
                 exact AX.weaken (Wk.to (L := (wC7 c75 p1)) ⟨.rfl, .rfl, .rfl, .rfl, .rfl, trivial⟩) (AX.lst (by kernel_rfl) ((hA77 _ _ _).1 A77_0234567c)) rfl)
               have A77_023456 : A77 8 #[true, false, true, true, true, true, true, false, false, false, false, false, false, false] ⟨183, envL (wC24 c74 p1), [(wC0 p2), (wC1 p0)]⟩ := (hA77 _ _ _).2 (by
                refine AX.all [1, 7, 12] rfl (by kernel_rfl) (by decide) ⟨?_, ?_, ?_, trivial⟩
                ·refine AXs.of (i := 1) rfl rfl (by rfl) ?_
                 refine zq tb rfl (AO.done ⟨rfl, ?_⟩)
                 exact AX.weaken (by refine Wk.trans (Wk.permk (L := (wC21 c74 p0 p1)) (st' := [(wC0 p2)]) (st1 := [(wC0 p2)]) [0] rfl .nil (by decide) rfl rfl (.raw rfl rfl .nil) ⟨.rfl, .rfl, .rfl, .rfl, .rfl, trivial⟩) ?_; exact Wk.to (L := (wC21 c74 p0 p1)) ⟨.rfl, .rfl, .rfl, .rfl, .rfl, trivial⟩) (AX.lst (by kernel_rfl) ((hA77 _ _ _).1 A77_0123456)) rfl
                ·refine AXs.of (i := 7) rfl rfl (by rfl) ?_
                 refine zx ei37 gc75 rfl rfl rfl (AO.done ⟨rfl, ?_⟩)
                 exact AX.weaken (Wk.to (L := (wC27 c75 p1)) ⟨.rfl, .rfl, .rfl, .rfl, trivial⟩) (AX.lst (by kernel_rfl) ((hA77 _ _ _).1 A77_0234567)) rfl
                ·refine AXs.of (i := 12) rfl rfl (by rfl) ?_
                 refine ao_alloc (m := 2) (st' := [(wC0 p2), (wC1 p0), wC2]) go0 zi98 rfl rfl (AO.done ⟨rfl, ?_⟩)
                 exact AX.weaken (by refine Wk.trans (Wk.permk (L := (wC6 c74 p1)) (st' := [(wC0 p2), wC2, (wC1 p0)]) (st1 := [(wC0 p2), wC2, (wC1 p0)]) [0, 2, 1] rfl .nil (by decide) rfl rfl (.raw rfl rfl (.raw rfl rfl (.raw rfl rfl .nil))) ⟨.rfl, .rfl, .rfl, .rfl, .rfl, .rfl, trivial⟩) ?_; exact Wk.to (L := (wC6 c74 p1)) ⟨.rfl, .rfl, .rfl, .rfl, .rfl, .rfl, trivial⟩) (AX.lst (by kernel_rfl) ((hA77 _ _ _).1 A77_023456c)) rfl)
               have A77_02345c : A77 8 #[true, false, true, true, true, true, false, false, false, false, false, false, true, false] ⟨183, envL (wC3 c74 p1), [(wC0 p2), wC2, (wC1 p0)]⟩ := (hA77 _ _ _).2 (by
                refine AX.all [1, 6] rfl (by kernel_rfl) (by decide) ⟨?_, ?_, trivial⟩
                ·refine AXs.of (i := 1) rfl rfl (by rfl) ?_
                 refine zq tb rfl (AO.done ⟨rfl, ?_⟩)
                 exact AX.weaken (by refine Wk.trans (Wk.permk (L := (wC8 c74 p0 p1)) (st' := [(wC0 p2), wC2]) (st1 := [(wC0 p2), wC2]) [0, 1] rfl .nil (by decide) rfl rfl (.raw rfl rfl (.raw rfl rfl .nil)) ⟨.rfl, .rfl, .rfl, .rfl, .rfl, .rfl, trivial⟩) ?_; exact Wk.to (L := (wC8 c74 p0 p1)) ⟨.rfl, .rfl, .rfl, .rfl, .rfl, .rfl, trivial⟩) (AX.lst (by kernel_rfl) ((hA77 _ _ _).1 A77_012345c)) rfl
                ·refine AXs.of (i := 6) rfl rfl (by rfl) ?_
                 refine zq tb rfl (AO.done ⟨rfl, ?_⟩)
                 exact AX.weaken (Wk.to (L := (wC6 c74 p1)) ⟨.rfl, .rfl, .rfl, .rfl, .rfl, .rfl, trivial⟩) (AX.lst (by kernel_rfl) ((hA77 _ _ _).1 A77_023456c)) rfl)
               have A77_02345 : A77 9 #[true, false, true, true, true, true, false, false, false, false, false, false, false, false] ⟨183, envL (wC20 c74 p1), [(wC0 p2), (wC1 p0)]⟩ := (hA77 _ _ _).2 (by
                refine AX.all [1, 6, 12] rfl (by kernel_rfl) (by decide) ⟨?_, ?_, ?_, trivial⟩
                ·refine AXs.of (i := 1) rfl rfl (by rfl) ?_
                 refine zq tb rfl (AO.done ⟨rfl, ?_⟩)
                 exact AX.weaken (by refine Wk.trans (Wk.permk (L := (wC16 c74 p0 p1)) (st' := [(wC0 p2)]) (st1 := [(wC0 p2)]) [0] rfl .nil (by decide) rfl rfl (.raw rfl rfl .nil) ⟨.rfl, .rfl, .rfl, .rfl, .rfl, trivial⟩) ?_; exact Wk.to (L := (wC16 c74 p0 p1)) ⟨.rfl, .rfl, .rfl, .rfl, .rfl, trivial⟩) (AX.lst (by kernel_rfl) ((hA77 _ _ _).1 A77_012345)) rfl
                ·refine AXs.of (i := 6) rfl rfl (by rfl) ?_
                 refine zq tb rfl (AO.done ⟨rfl, ?_⟩)
                 exact AX.weaken (Wk.to (L := (wC24 c74 p1)) ⟨.rfl, .rfl, .rfl, .rfl, .rfl, trivial⟩) (AX.lst (by kernel_rfl) ((hA77 _ _ _).1 A77_023456)) rfl
                ·refine AXs.of (i := 12) rfl rfl (by rfl) ?_
                 refine ao_alloc (m := 2) (st' := [(wC0 p2), (wC1 p0), wC2]) go0 zi98 rfl rfl (AO.done ⟨rfl, ?_⟩)
                 exact AX.weaken (by refine Wk.trans (Wk.permk (L := (wC3 c74 p1)) (st' := [(wC0 p2), wC2, (wC1 p0)]) (st1 := [(wC0 p2), wC2, (wC1 p0)]) [0, 2, 1] rfl .nil (by decide) rfl rfl (.raw rfl rfl (.raw rfl rfl (.raw rfl rfl .nil))) ⟨.rfl, .rfl, .rfl, .rfl, .rfl, .rfl, trivial⟩) ?_; exact Wk.to (L := (wC3 c74 p1)) ⟨.rfl, .rfl, .rfl, .rfl, .rfl, .rfl, trivial⟩) (AX.lst (by kernel_rfl) ((hA77 _ _ _).1 A77_02345c)) rfl)
               have A77_0234c : A77 9 #[true, false, true, true, true, false, false, false, false, false, false, false, true, false] ⟨183, envL (wC4 p1 p2), [(wC0 p2), wC2, (wC1 p0)]⟩ := (hA77 _ _ _).2 (by
                refine AX.all [1, 5] rfl (by kernel_rfl) (by decide) ⟨?_, ?_, trivial⟩
                ·refine AXs.of (i := 1) rfl rfl (by rfl) ?_
                 refine zq tb rfl (AO.done ⟨rfl, ?_⟩)
                 exact AX.weaken (by refine Wk.trans (Wk.permk (L := (wC9 p0 p1 p2)) (st' := [(wC0 p2), wC2]) (st1 := [(wC0 p2), wC2]) [0, 1] rfl .nil (by decide) rfl rfl (.raw rfl rfl (.raw rfl rfl .nil)) ⟨.rfl, .rfl, .rfl, .rfl, .rfl, .rfl, trivial⟩) ?_; exact Wk.to (L := (wC9 p0 p1 p2)) ⟨.rfl, .rfl, .rfl, .rfl, .rfl, .rfl, trivial⟩) (AX.lst (by kernel_rfl) ((hA77 _ _ _).1 A77_01234c)) rfl
                ·refine AXs.of (i := 5) rfl rfl (by rfl) ?_
                 refine zx ei37 gc74 rfl rfl rfl (AO.done ⟨rfl, ?_⟩)
                 exact AX.weaken (Wk.to (L := (wC3 c74 p1)) ⟨.rfl, .rfl, .rfl, .rfl, .rfl, .rfl, trivial⟩) (AX.lst (by kernel_rfl) ((hA77 _ _ _).1 A77_02345c)) rfl)
               have A77_0234 : A77 10 #[true, false, true, true, true, false, false, false, false, false, false, false, false, false] ⟨183, envL (wC22 p1 p2), [(wC0 p2), (wC1 p0)]⟩ := (hA77 _ _ _).2 (by
                refine AX.all [1, 5, 12] rfl (by kernel_rfl) (by decide) ⟨?_, ?_, ?_, trivial⟩
                ·refine AXs.of (i := 1) rfl rfl (by rfl) ?_
                 refine zq tb rfl (AO.done ⟨rfl, ?_⟩)
                 exact AX.weaken (by refine Wk.trans (Wk.permk (L := (wC17 p0 p1 p2)) (st' := [(wC0 p2)]) (st1 := [(wC0 p2)]) [0] rfl .nil (by decide) rfl rfl (.raw rfl rfl .nil) ⟨.rfl, .rfl, .rfl, .rfl, .rfl, trivial⟩) ?_; exact Wk.to (L := (wC17 p0 p1 p2)) ⟨.rfl, .rfl, .rfl, .rfl, .rfl, trivial⟩) (AX.lst (by kernel_rfl) ((hA77 _ _ _).1 A77_01234)) rfl
                ·refine AXs.of (i := 5) rfl rfl (by rfl) ?_
                 refine zx ei37 gc74 rfl rfl rfl (AO.done ⟨rfl, ?_⟩)
                 exact AX.weaken (Wk.to (L := (wC20 c74 p1)) ⟨.rfl, .rfl, .rfl, .rfl, .rfl, trivial⟩) (AX.lst (by kernel_rfl) ((hA77 _ _ _).1 A77_02345)) rfl
                ·refine AXs.of (i := 12) rfl rfl (by rfl) ?_
                 refine ao_alloc (m := 2) (st' := [(wC0 p2), (wC1 p0), wC2]) go0 zi98 rfl rfl (AO.done ⟨rfl, ?_⟩)
                 exact AX.weaken (by refine Wk.trans (Wk.permk (L := (wC4 p1 p2)) (st' := [(wC0 p2), wC2, (wC1 p0)]) (st1 := [(wC0 p2), wC2, (wC1 p0)]) [0, 2, 1] rfl .nil (by decide) rfl rfl (.raw rfl rfl (.raw rfl rfl (.raw rfl rfl .nil))) ⟨.rfl, .rfl, .rfl, .rfl, .rfl, .rfl, trivial⟩) ?_; exact Wk.to (L := (wC4 p1 p2)) ⟨.rfl, .rfl, .rfl, .rfl, .rfl, .rfl, trivial⟩) (AX.lst (by kernel_rfl) ((hA77 _ _ _).1 A77_0234c)) rfl)
               have A77_023c : A77 10 #[true, false, true, true, false, false, false, false, false, false, false, false, true, false] ⟨183, envL (wC5 p1), [(wC0 p2), wC2, (wC1 p0)]⟩ := (hA77 _ _ _).2 (by
                refine AX.all [1, 4] rfl (by kernel_rfl) (by decide) ⟨?_, ?_, trivial⟩
                ·refine AXs.of (i := 1) rfl rfl (by rfl) ?_
                 refine zq tb rfl (AO.done ⟨rfl, ?_⟩)
                 exact AX.weaken (by refine Wk.trans (Wk.permk (L := (wC10 p0 p1)) (st' := [(wC0 p2), wC2]) (st1 := [(wC0 p2), wC2]) [0, 1] rfl .nil (by decide) rfl rfl (.raw rfl rfl (.raw rfl rfl .nil)) ⟨.rfl, .rfl, .rfl, .rfl, .rfl, .rfl, trivial⟩) ?_; exact Wk.to (L := (wC10 p0 p1)) ⟨.rfl, .rfl, .rfl, .rfl, .rfl, .rfl, trivial⟩) (AX.lst (by kernel_rfl) ((hA77 _ _ _).1 A77_0123c)) rfl
                ·refine AXs.of (i := 4) rfl rfl (by rfl) ?_
                 refine zq tb rfl (AO.done ⟨rfl, ?_⟩)
                 exact AX.weaken (Wk.to (L := (wC4 p1 p2)) ⟨.rfl, .rfl, .rfl, .rfl, .rfl, .rfl, trivial⟩) (AX.lst (by kernel_rfl) ((hA77 _ _ _).1 A77_0234c)) rfl)
               have A77_023 : A77 11 #[true, false, true, true, false, false, false, false, false, false, false, false, false, false] ⟨183, envL (wC23 p1), [(wC0 p2), (wC1 p0)]⟩ := (hA77 _ _ _).2 (by
                refine AX.all [1, 4, 12] rfl (by kernel_rfl) (by decide) ⟨?_, ?_, ?_, trivial⟩
                ·refine AXs.of (i := 1) rfl rfl (by rfl) ?_
                 refine zq tb rfl (AO.done ⟨rfl, ?_⟩)
                 exact AX.weaken (by refine Wk.trans (Wk.permk (L := (wC18 p0 p1)) (st' := [(wC0 p2)]) (st1 := [(wC0 p2)]) [0] rfl .nil (by decide) rfl rfl (.raw rfl rfl .nil) ⟨.rfl, .rfl, .rfl, .rfl, .rfl, trivial⟩) ?_; exact Wk.to (L := (wC18 p0 p1)) ⟨.rfl, .rfl, .rfl, .rfl, .rfl, trivial⟩) (AX.lst (by kernel_rfl) ((hA77 _ _ _).1 A77_0123)) rfl
                ·refine AXs.of (i := 4) rfl rfl (by rfl) ?_
                 refine zq tb rfl (AO.done ⟨rfl, ?_⟩)
                 exact AX.weaken (Wk.to (L := (wC22 p1 p2)) ⟨.rfl, .rfl, .rfl, .rfl, .rfl, trivial⟩) (AX.lst (by kernel_rfl) ((hA77 _ _ _).1 A77_0234)) rfl
                ·refine AXs.of (i := 12) rfl rfl (by rfl) ?_
                 refine ao_alloc (m := 2) (st' := [(wC0 p2), (wC1 p0), wC2]) go0 zi98 rfl rfl (AO.done ⟨rfl, ?_⟩)
                 exact AX.weaken (by refine Wk.trans (Wk.permk (L := (wC5 p1)) (st' := [(wC0 p2), wC2, (wC1 p0)]) (st1 := [(wC0 p2), wC2, (wC1 p0)]) [0, 2, 1] rfl .nil (by decide) rfl rfl (.raw rfl rfl (.raw rfl rfl (.raw rfl rfl .nil))) ⟨.rfl, .rfl, .rfl, .rfl, .rfl, .rfl, trivial⟩) ?_; exact Wk.to (L := (wC5 p1)) ⟨.rfl, .rfl, .rfl, .rfl, .rfl, .rfl, trivial⟩) (AX.lst (by kernel_rfl) ((hA77 _ _ _).1 A77_023c)) rfl)
               have A77_02c : A77 11 #[true, false, true, false, false, false, false, false, false, false, false, false, true, false] ⟨183, envL (wC15 p1), [(wC0 p2), wC2, (wC1 p0)]⟩ := (hA77 _ _ _).2 (by
                refine AX.all [1, 3] rfl (by kernel_rfl) (by decide) ⟨?_, ?_, trivial⟩
                ·refine AXs.of (i := 1) rfl rfl (by rfl) ?_
                 refine zq tb rfl (AO.done ⟨rfl, ?_⟩)
                 exact AX.weaken (by refine Wk.trans (Wk.permk (L := (wC19 p0 p1)) (st' := [(wC0 p2), wC2]) (st1 := [(wC0 p2), wC2]) [0, 1] rfl .nil (by decide) rfl rfl (.raw rfl rfl (.raw rfl rfl .nil)) ⟨.rfl, .rfl, .rfl, .rfl, .rfl, trivial⟩) ?_; exact Wk.to (L := (wC19 p0 p1)) ⟨.rfl, .rfl, .rfl, .rfl, .rfl, trivial⟩) (AX.lst (by kernel_rfl) ((hA77 _ _ _).1 A77_012c)) rfl
                ·refine AXs.of (i := 3) rfl rfl (by rfl) ?_
                 refine zq tb rfl (AO.done ⟨rfl, ?_⟩)
                 exact AX.weaken (Wk.to (L := (wC5 p1)) ⟨.rfl, .rfl, .rfl, .rfl, .rfl, .rfl, trivial⟩) (AX.lst (by kernel_rfl) ((hA77 _ _ _).1 A77_023c)) rfl)
               have A77_02 : A77 12 #[true, false, true, false, false, false, false, false, false, false, false, false, false, false] ⟨183, envL [(1, (ls eI p1)), (5, (.ptr 0 0 0 0)), (152, (.ptr 1 0 0 0)), (154, (ls eI p1))], [(wC0 p2), (wC1 p0)]⟩ := (hA77 _ _ _).2 (by
                refine AX.all [1, 3, 12] rfl (by kernel_rfl) (by decide) ⟨?_, ?_, ?_, trivial⟩
                ·refine AXs.of (i := 1) rfl rfl (by rfl) ?_
                 refine zq tb rfl (AO.done ⟨rfl, ?_⟩)
                 exact AX.weaken (by refine Wk.trans (Wk.permk (L := [(1, (ls eI p1)), (5, (.ptr 0 0 0 0)), (153, (ls eRDecl p0.decls)), (154, (ls eI p1))]) (st' := [(wC0 p2)]) (st1 := [(wC0 p2)]) [0] rfl .nil (by decide) rfl rfl (.raw rfl rfl .nil) ⟨.rfl, .rfl, .rfl, .rfl, trivial⟩) ?_; exact Wk.to (L := [(1, (ls eI p1)), (5, (.ptr 0 0 0 0)), (153, (ls eRDecl p0.decls)), (154, (ls eI p1))]) ⟨.rfl, .rfl, .rfl, .rfl, trivial⟩) (AX.lst (by kernel_rfl) ((hA77 _ _ _).1 A77_012)) rfl
                ·refine AXs.of (i := 3) rfl rfl (by rfl) ?_
                 refine zq tb rfl (AO.done ⟨rfl, ?_⟩)
                 exact AX.weaken (Wk.to (L := (wC23 p1)) ⟨.rfl, .rfl, .rfl, .rfl, .rfl, trivial⟩) (AX.lst (by kernel_rfl) ((hA77 _ _ _).1 A77_023)) rfl
                ·refine AXs.of (i := 12) rfl rfl (by rfl) ?_
                 refine ao_alloc (m := 2) (st' := [(wC0 p2), (wC1 p0), wC2]) go0 zi98 rfl rfl (AO.done ⟨rfl, ?_⟩)
                 exact AX.weaken (by refine Wk.trans (Wk.permk (L := (wC15 p1)) (st' := [(wC0 p2), wC2, (wC1 p0)]) (st1 := [(wC0 p2), wC2, (wC1 p0)]) [0, 2, 1] rfl .nil (by decide) rfl rfl (.raw rfl rfl (.raw rfl rfl (.raw rfl rfl .nil))) ⟨.rfl, .rfl, .rfl, .rfl, .rfl, trivial⟩) ?_; exact Wk.to (L := (wC15 p1)) ⟨.rfl, .rfl, .rfl, .rfl, .rfl, trivial⟩) (AX.lst (by kernel_rfl) ((hA77 _ _ _).1 A77_02c)) rfl)
               have A77_23456789c : A77 5 #[false, false, true, true, true, true, true, true, true, true, false, false, true, false] ⟨183, envL [(1, (ls eI p1)), (3, (.ptr 0 0 0 0)), (5, (.ptr 1 0 0 0)), (7, (.ptr 2 0 0 0)), (161, (i64 (Sh.w (c75 - 1))))], [(wC1 p0), (wC0 p2), wC2]⟩ := (hA77 _ _ _).2 (by
                refine AX.all [0] rfl (by kernel_rfl) (by decide) ⟨?_, trivial⟩
                ·refine AXs.of (i := 0) rfl rfl (by rfl) ?_
                 refine zq tb rfl (AO.done ⟨rfl, ?_⟩)
                 exact AX.weaken (by refine Wk.trans (Wk.permk (L := [(1, (ls eI p1)), (5, (.ptr 0 0 0 0)), (7, (.ptr 1 0 0 0)), (152, (.ptr 2 0 0 0)), (161, (i64 (Sh.w (c75 - 1))))]) (st' := [(wC0 p2), wC2, (wC1 p0)]) (st1 := [(wC0 p2), wC2, (wC1 p0)]) [1, 2, 0] rfl .nil (by decide) rfl rfl (.raw rfl rfl (.raw rfl rfl (.raw rfl rfl .nil))) ⟨.rfl, .rfl, .rfl, .rfl, .rfl, trivial⟩) ?_; exact Wk.to (L := [(1, (ls eI p1)), (5, (.ptr 0 0 0 0)), (7, (.ptr 1 0 0 0)), (152, (.ptr 2 0 0 0)), (161, (i64 (Sh.w (c75 - 1))))]) ⟨.rfl, .rfl, .rfl, .rfl, .rfl, trivial⟩) (AX.lst (by kernel_rfl) ((hA77 _ _ _).1 A77_023456789c)) rfl)
               have A77_23456789 : A77 6 #[false, false, true, true, true, true, true, true, true, true, false, false, false, false] ⟨183, envL [(1, (ls eI p1)), (3, (.ptr 0 0 0 0)), (5, (.ptr 1 0 0 0)), (161, (i64 (Sh.w (c75 - 1))))], [(wC1 p0), (wC0 p2)]⟩ := (hA77 _ _ _).2 (by
                refine AX.all [0, 12] rfl (by kernel_rfl) (by decide) ⟨?_, ?_, trivial⟩
                ·refine AXs.of (i := 0) rfl rfl (by rfl) ?_
                 refine zq tb rfl (AO.done ⟨rfl, ?_⟩)
                 exact AX.weaken (by refine Wk.trans (Wk.permk (L := [(1, (ls eI p1)), (5, (.ptr 0 0 0 0)), (152, (.ptr 1 0 0 0)), (161, (i64 (Sh.w (c75 - 1))))]) (st' := [(wC0 p2), (wC1 p0)]) (st1 := [(wC0 p2), (wC1 p0)]) [1, 0] rfl .nil (by decide) rfl rfl (.raw rfl rfl (.raw rfl rfl .nil)) ⟨.rfl, .rfl, .rfl, .rfl, trivial⟩) ?_; exact Wk.to (L := [(1, (ls eI p1)), (5, (.ptr 0 0 0 0)), (152, (.ptr 1 0 0 0)), (161, (i64 (Sh.w (c75 - 1))))]) ⟨.rfl, .rfl, .rfl, .rfl, trivial⟩) (AX.lst (by kernel_rfl) ((hA77 _ _ _).1 A77_023456789)) rfl
                ·refine AXs.of (i := 12) rfl rfl (by rfl) ?_
                 refine ao_alloc (m := 2) (st' := [(wC1 p0), (wC0 p2), wC2]) go0 zi98 rfl rfl (AO.done ⟨rfl, ?_⟩)
                 exact AX.weaken (Wk.to (L := [(1, (ls eI p1)), (3, (.ptr 0 0 0 0)), (5, (.ptr 1 0 0 0)), (7, (.ptr 2 0 0 0)), (161, (i64 (Sh.w (c75 - 1))))]) ⟨.rfl, .rfl, .rfl, .rfl, .rfl, trivial⟩) (AX.lst (by kernel_rfl) ((hA77 _ _ _).1 A77_23456789c)) rfl)
               have A77_2345678c : A77 6 #[false, false, true, true, true, true, true, true, true, false, false, false, true, false] ⟨183, envL [(1, (ls eI p1)), (3, (.ptr 0 0 0 0)), (5, (.ptr 1 0 0 0)), (7, (.ptr 2 0 0 0)), (160, (i64 c75))], [(wC1 p0), (wC0 p2), wC2]⟩ := (hA77 _ _ _).2 (by
                refine AX.all [0, 9] rfl (by kernel_rfl) (by decide) ⟨?_, ?_, trivial⟩
                ·refine AXs.of (i := 0) rfl rfl (by rfl) ?_
                 refine zq tb rfl (AO.done ⟨rfl, ?_⟩)
                 exact AX.weaken (by refine Wk.trans (Wk.permk (L := (wC12 c75 p1)) (st' := [(wC0 p2), wC2, (wC1 p0)]) (st1 := [(wC0 p2), wC2, (wC1 p0)]) [1, 2, 0] rfl .nil (by decide) rfl rfl (.raw rfl rfl (.raw rfl rfl (.raw rfl rfl .nil))) ⟨.rfl, .rfl, .rfl, .rfl, .rfl, trivial⟩) ?_; exact Wk.to (L := (wC12 c75 p1)) ⟨.rfl, .rfl, .rfl, .rfl, .rfl, trivial⟩) (AX.lst (by kernel_rfl) ((hA77 _ _ _).1 A77_02345678c)) rfl
                ·refine AXs.of (i := 9) rfl rfl (by rfl) ?_
                 refine zq tb rfl (AO.done ⟨rfl, ?_⟩)
                 exact AX.weaken (Wk.to (L := [(1, (ls eI p1)), (3, (.ptr 0 0 0 0)), (5, (.ptr 1 0 0 0)), (7, (.ptr 2 0 0 0)), (161, (i64 (Sh.w (c75 - 1))))]) ⟨.rfl, .rfl, .rfl, .rfl, .rfl, trivial⟩) (AX.lst (by kernel_rfl) ((hA77 _ _ _).1 A77_23456789c)) rfl)
               have A77_2345678 : A77 7 #[false, false, true, true, true, true, true, true, true, false, false, false, false, false] ⟨183, envL [(1, (ls eI p1)), (3, (.ptr 0 0 0 0)), (5, (.ptr 1 0 0 0)), (160, (i64 c75))], [(wC1 p0), (wC0 p2)]⟩ := (hA77 _ _ _).2 (by
                refine AX.all [0, 9, 12] rfl (by kernel_rfl) (by decide) ⟨?_, ?_, ?_, trivial⟩
                ·refine AXs.of (i := 0) rfl rfl (by rfl) ?_
                 refine zq tb rfl (AO.done ⟨rfl, ?_⟩)
                 exact AX.weaken (by refine Wk.trans (Wk.permk (L := (wC33 c75 p1)) (st' := [(wC0 p2), (wC1 p0)]) (st1 := [(wC0 p2), (wC1 p0)]) [1, 0] rfl .nil (by decide) rfl rfl (.raw rfl rfl (.raw rfl rfl .nil)) ⟨.rfl, .rfl, .rfl, .rfl, trivial⟩) ?_; exact Wk.to (L := (wC33 c75 p1)) ⟨.rfl, .rfl, .rfl, .rfl, trivial⟩) (AX.lst (by kernel_rfl) ((hA77 _ _ _).1 A77_02345678)) rfl
                ·refine AXs.of (i := 9) rfl rfl (by rfl) ?_
                 refine zq tb rfl (AO.done ⟨rfl, ?_⟩)
                 exact AX.weaken (Wk.to (L := [(1, (ls eI p1)), (3, (.ptr 0 0 0 0)), (5, (.ptr 1 0 0 0)), (161, (i64 (Sh.w (c75 - 1))))]) ⟨.rfl, .rfl, .rfl, .rfl, trivial⟩) (AX.lst (by kernel_rfl) ((hA77 _ _ _).1 A77_23456789)) rfl
                ·refine AXs.of (i := 12) rfl rfl (by rfl) ?_
                 refine ao_alloc (m := 2) (st' := [(wC1 p0), (wC0 p2), wC2]) go0 zi98 rfl rfl (AO.done ⟨rfl, ?_⟩)
                 exact AX.weaken (Wk.to (L := [(1, (ls eI p1)), (3, (.ptr 0 0 0 0)), (5, (.ptr 1 0 0 0)), (7, (.ptr 2 0 0 0)), (160, (i64 c75))]) ⟨.rfl, .rfl, .rfl, .rfl, .rfl, trivial⟩) (AX.lst (by kernel_rfl) ((hA77 _ _ _).1 A77_2345678c)) rfl)
               have A77_234567c : A77 7 #[false, false, true, true, true, true, true, true, false, false, false, false, true, false] ⟨183, envL (wC35 c75 p1), [(wC1 p0), (wC0 p2), wC2]⟩ := (hA77 _ _ _).2 (by
                refine AX.all [0, 8] rfl (by kernel_rfl) (by decide) ⟨?_, ?_, trivial⟩
                ·refine AXs.of (i := 0) rfl rfl (by rfl) ?_
                 refine zq tb rfl (AO.done ⟨rfl, ?_⟩)
                 exact AX.weaken (by refine Wk.trans (Wk.permk (L := (wC7 c75 p1)) (st' := [(wC0 p2), wC2, (wC1 p0)]) (st1 := [(wC0 p2), wC2, (wC1 p0)]) [1, 2, 0] rfl .nil (by decide) rfl rfl (.raw rfl rfl (.raw rfl rfl (.raw rfl rfl .nil))) ⟨.rfl, .rfl, .rfl, .rfl, .rfl, trivial⟩) ?_; exact Wk.to (L := (wC7 c75 p1)) ⟨.rfl, .rfl, .rfl, .rfl, .rfl, trivial⟩) (AX.lst (by kernel_rfl) ((hA77 _ _ _).1 A77_0234567c)) rfl
                ·refine AXs.of (i := 8) rfl rfl (by rfl) ?_
                 refine zq tb rfl (AO.done ⟨rfl, ?_⟩)
                 exact AX.weaken (Wk.to (L := [(1, (ls eI p1)), (3, (.ptr 0 0 0 0)), (5, (.ptr 1 0 0 0)), (7, (.ptr 2 0 0 0)), (160, (i64 c75))]) ⟨.rfl, .rfl, .rfl, .rfl, .rfl, trivial⟩) (AX.lst (by kernel_rfl) ((hA77 _ _ _).1 A77_2345678c)) rfl)
               have A77_234567 : A77 8 #[false, false, true, true, true, true, true, true, false, false, false, false, false, false] ⟨183, envL [(1, (ls eI p1)), (3, (.ptr 0 0 0 0)), (5, (.ptr 1 0 0 0)), (159, (.iptr (eI c75) 0))], [(wC1 p0), (wC0 p2)]⟩ := (hA77 _ _ _).2 (by
                refine AX.all [0, 8, 12] rfl (by kernel_rfl) (by decide) ⟨?_, ?_, ?_, trivial⟩
                ·refine AXs.of (i := 0) rfl rfl (by rfl) ?_
                 refine zq tb rfl (AO.done ⟨rfl, ?_⟩)
                 exact AX.weaken (by refine Wk.trans (Wk.permk (L := (wC27 c75 p1)) (st' := [(wC0 p2), (wC1 p0)]) (st1 := [(wC0 p2), (wC1 p0)]) [1, 0] rfl .nil (by decide) rfl rfl (.raw rfl rfl (.raw rfl rfl .nil)) ⟨.rfl, .rfl, .rfl, .rfl, trivial⟩) ?_; exact Wk.to (L := (wC27 c75 p1)) ⟨.rfl, .rfl, .rfl, .rfl, trivial⟩) (AX.lst (by kernel_rfl) ((hA77 _ _ _).1 A77_0234567)) rfl
                ·refine AXs.of (i := 8) rfl rfl (by rfl) ?_
                 refine zq tb rfl (AO.done ⟨rfl, ?_⟩)
                 exact AX.weaken (Wk.to (L := [(1, (ls eI p1)), (3, (.ptr 0 0 0 0)), (5, (.ptr 1 0 0 0)), (160, (i64 c75))]) ⟨.rfl, .rfl, .rfl, .rfl, trivial⟩) (AX.lst (by kernel_rfl) ((hA77 _ _ _).1 A77_2345678)) rfl
                ·refine AXs.of (i := 12) rfl rfl (by rfl) ?_
                 refine ao_alloc (m := 2) (st' := [(wC1 p0), (wC0 p2), wC2]) go0 zi98 rfl rfl (AO.done ⟨rfl, ?_⟩)
                 exact AX.weaken (Wk.to (L := (wC35 c75 p1)) ⟨.rfl, .rfl, .rfl, .rfl, .rfl, trivial⟩) (AX.lst (by kernel_rfl) ((hA77 _ _ _).1 A77_234567c)) rfl)
               have A77_23456c : A77 8 #[false, false, true, true, true, true, true, false, false, false, false, false, true, false] ⟨183, envL (wC34 c74 p1), [(wC1 p0), (wC0 p2), wC2]⟩ := (hA77 _ _ _).2 (by
                refine AX.all [0, 7] rfl (by kernel_rfl) (by decide) ⟨?_, ?_, trivial⟩
                ·refine AXs.of (i := 0) rfl rfl (by rfl) ?_
                 refine zq tb rfl (AO.done ⟨rfl, ?_⟩)
                 exact AX.weaken (by refine Wk.trans (Wk.permk (L := (wC6 c74 p1)) (st' := [(wC0 p2), wC2, (wC1 p0)]) (st1 := [(wC0 p2), wC2, (wC1 p0)]) [1, 2, 0] rfl .nil (by decide) rfl rfl (.raw rfl rfl (.raw rfl rfl (.raw rfl rfl .nil))) ⟨.rfl, .rfl, .rfl, .rfl, .rfl, .rfl, trivial⟩) ?_; exact Wk.to (L := (wC6 c74 p1)) ⟨.rfl, .rfl, .rfl, .rfl, .rfl, .rfl, trivial⟩) (AX.lst (by kernel_rfl) ((hA77 _ _ _).1 A77_023456c)) rfl
                ·refine AXs.of (i := 7) rfl rfl (by rfl) ?_
                 refine zx ei37 gc75 rfl rfl rfl (AO.done ⟨rfl, ?_⟩)
                 exact AX.weaken (Wk.to (L := (wC35 c75 p1)) ⟨.rfl, .rfl, .rfl, .rfl, .rfl, trivial⟩) (AX.lst (by kernel_rfl) ((hA77 _ _ _).1 A77_234567c)) rfl)
               have A77_23456 : A77 9 #[false, false, true, true, true, true, true, false, false, false, false, false, false, false] ⟨183, envL [(1, (ls eI p1)), (3, (.ptr 0 0 0 0)), (5, (.ptr 1 0 0 0)), (154, (ls eI p1)), (158, (i64 c74))], [(wC1 p0), (wC0 p2)]⟩ := (hA77 _ _ _).2 (by
                refine AX.all [0, 7, 12] rfl (by kernel_rfl) (by decide) ⟨?_, ?_, ?_, trivial⟩
                ·refine AXs.of (i := 0) rfl rfl (by rfl) ?_
                 refine zq tb rfl (AO.done ⟨rfl, ?_⟩)
                 exact AX.weaken (by refine Wk.trans (Wk.permk (L := (wC24 c74 p1)) (st' := [(wC0 p2), (wC1 p0)]) (st1 := [(wC0 p2), (wC1 p0)]) [1, 0] rfl .nil (by decide) rfl rfl (.raw rfl rfl (.raw rfl rfl .nil)) ⟨.rfl, .rfl, .rfl, .rfl, .rfl, trivial⟩) ?_; exact Wk.to (L := (wC24 c74 p1)) ⟨.rfl, .rfl, .rfl, .rfl, .rfl, trivial⟩) (AX.lst (by kernel_rfl) ((hA77 _ _ _).1 A77_023456)) rfl
                ·refine AXs.of (i := 7) rfl rfl (by rfl) ?_
                 refine zx ei37 gc75 rfl rfl rfl (AO.done ⟨rfl, ?_⟩)
                 exact AX.weaken (Wk.to (L := [(1, (ls eI p1)), (3, (.ptr 0 0 0 0)), (5, (.ptr 1 0 0 0)), (159, (.iptr (eI c75) 0))]) ⟨.rfl, .rfl, .rfl, .rfl, trivial⟩) (AX.lst (by kernel_rfl) ((hA77 _ _ _).1 A77_234567)) rfl
                ·refine AXs.of (i := 12) rfl rfl (by rfl) ?_
                 refine ao_alloc (m := 2) (st' := [(wC1 p0), (wC0 p2), wC2]) go0 zi98 rfl rfl (AO.done ⟨rfl, ?_⟩)
                 exact AX.weaken (Wk.to (L := (wC34 c74 p1)) ⟨.rfl, .rfl, .rfl, .rfl, .rfl, .rfl, trivial⟩) (AX.lst (by kernel_rfl) ((hA77 _ _ _).1 A77_23456c)) rfl)
               have A77_2345c : A77 9 #[false, false, true, true, true, true, false, false, false, false, false, false, true, false] ⟨183, envL (wC29 c74 p1), [(wC1 p0), (wC0 p2), wC2]⟩ := (hA77 _ _ _).2 (by
                refine AX.all [0, 6] rfl (by kernel_rfl) (by decide) ⟨?_, ?_, trivial⟩
                ·refine AXs.of (i := 0) rfl rfl (by rfl) ?_
                 refine zq tb rfl (AO.done ⟨rfl, ?_⟩)
                 exact AX.weaken (by refine Wk.trans (Wk.permk (L := (wC3 c74 p1)) (st' := [(wC0 p2), wC2, (wC1 p0)]) (st1 := [(wC0 p2), wC2, (wC1 p0)]) [1, 2, 0] rfl .nil (by decide) rfl rfl (.raw rfl rfl (.raw rfl rfl (.raw rfl rfl .nil))) ⟨.rfl, .rfl, .rfl, .rfl, .rfl, .rfl, trivial⟩) ?_; exact Wk.to (L := (wC3 c74 p1)) ⟨.rfl, .rfl, .rfl, .rfl, .rfl, .rfl, trivial⟩) (AX.lst (by kernel_rfl) ((hA77 _ _ _).1 A77_02345c)) rfl
                ·refine AXs.of (i := 6) rfl rfl (by rfl) ?_
                 refine zq tb rfl (AO.done ⟨rfl, ?_⟩)
                 exact AX.weaken (Wk.to (L := (wC34 c74 p1)) ⟨.rfl, .rfl, .rfl, .rfl, .rfl, .rfl, trivial⟩) (AX.lst (by kernel_rfl) ((hA77 _ _ _).1 A77_23456c)) rfl)
               have A77_2345 : A77 10 #[false, false, true, true, true, true, false, false, false, false, false, false, false, false] ⟨183, envL [(1, (ls eI p1)), (3, (.ptr 0 0 0 0)), (5, (.ptr 1 0 0 0)), (154, (ls eI p1)), (157, (.iptr (eI c74) 0))], [(wC1 p0), (wC0 p2)]⟩ := (hA77 _ _ _).2 (by
                refine AX.all [0, 6, 12] rfl (by kernel_rfl) (by decide) ⟨?_, ?_, ?_, trivial⟩
                ·refine AXs.of (i := 0) rfl rfl (by rfl) ?_
                 refine zq tb rfl (AO.done ⟨rfl, ?_⟩)
                 exact AX.weaken (by refine Wk.trans (Wk.permk (L := (wC20 c74 p1)) (st' := [(wC0 p2), (wC1 p0)]) (st1 := [(wC0 p2), (wC1 p0)]) [1, 0] rfl .nil (by decide) rfl rfl (.raw rfl rfl (.raw rfl rfl .nil)) ⟨.rfl, .rfl, .rfl, .rfl, .rfl, trivial⟩) ?_; exact Wk.to (L := (wC20 c74 p1)) ⟨.rfl, .rfl, .rfl, .rfl, .rfl, trivial⟩) (AX.lst (by kernel_rfl) ((hA77 _ _ _).1 A77_02345)) rfl
                ·refine AXs.of (i := 6) rfl rfl (by rfl) ?_
                 refine zq tb rfl (AO.done ⟨rfl, ?_⟩)
                 exact AX.weaken (Wk.to (L := [(1, (ls eI p1)), (3, (.ptr 0 0 0 0)), (5, (.ptr 1 0 0 0)), (154, (ls eI p1)), (158, (i64 c74))]) ⟨.rfl, .rfl, .rfl, .rfl, .rfl, trivial⟩) (AX.lst (by kernel_rfl) ((hA77 _ _ _).1 A77_23456)) rfl
                ·refine AXs.of (i := 12) rfl rfl (by rfl) ?_
                 refine ao_alloc (m := 2) (st' := [(wC1 p0), (wC0 p2), wC2]) go0 zi98 rfl rfl (AO.done ⟨rfl, ?_⟩)
                 exact AX.weaken (Wk.to (L := (wC29 c74 p1)) ⟨.rfl, .rfl, .rfl, .rfl, .rfl, .rfl, trivial⟩) (AX.lst (by kernel_rfl) ((hA77 _ _ _).1 A77_2345c)) rfl)
               have A77_234c : A77 10 #[false, false, true, true, true, false, false, false, false, false, false, false, true, false] ⟨183, envL (wC30 p1 p2), [(wC1 p0), (wC0 p2), wC2]⟩ := (hA77 _ _ _).2 (by
                refine AX.all [0, 5] rfl (by kernel_rfl) (by decide) ⟨?_, ?_, trivial⟩
                ·refine AXs.of (i := 0) rfl rfl (by rfl) ?_
                 refine zq tb rfl (AO.done ⟨rfl, ?_⟩)
                 exact AX.weaken (by refine Wk.trans (Wk.permk (L := (wC4 p1 p2)) (st' := [(wC0 p2), wC2, (wC1 p0)]) (st1 := [(wC0 p2), wC2, (wC1 p0)]) [1, 2, 0] rfl .nil (by decide) rfl rfl (.raw rfl rfl (.raw rfl rfl (.raw rfl rfl .nil))) ⟨.rfl, .rfl, .rfl, .rfl, .rfl, .rfl, trivial⟩) ?_; exact Wk.to (L := (wC4 p1 p2)) ⟨.rfl, .rfl, .rfl, .rfl, .rfl, .rfl, trivial⟩) (AX.lst (by kernel_rfl) ((hA77 _ _ _).1 A77_0234c)) rfl
                ·refine AXs.of (i := 5) rfl rfl (by rfl) ?_
                 refine zx ei37 gc74 rfl rfl rfl (AO.done ⟨rfl, ?_⟩)
                 exact AX.weaken (Wk.to (L := (wC29 c74 p1)) ⟨.rfl, .rfl, .rfl, .rfl, .rfl, .rfl, trivial⟩) (AX.lst (by kernel_rfl) ((hA77 _ _ _).1 A77_2345c)) rfl)
               have A77_234 : A77 11 #[false, false, true, true, true, false, false, false, false, false, false, false, false, false] ⟨183, envL [(1, (ls eI p1)), (3, (.ptr 0 0 0 0)), (5, (.ptr 1 0 0 0)), (154, (ls eI p1)), (156, (ls eI p2.args))], [(wC1 p0), (wC0 p2)]⟩ := (hA77 _ _ _).2 (by
                refine AX.all [0, 5, 12] rfl (by kernel_rfl) (by decide) ⟨?_, ?_, ?_, trivial⟩
                ·refine AXs.of (i := 0) rfl rfl (by rfl) ?_
                 refine zq tb rfl (AO.done ⟨rfl, ?_⟩)
                 exact AX.weaken (by refine Wk.trans (Wk.permk (L := (wC22 p1 p2)) (st' := [(wC0 p2), (wC1 p0)]) (st1 := [(wC0 p2), (wC1 p0)]) [1, 0] rfl .nil (by decide) rfl rfl (.raw rfl rfl (.raw rfl rfl .nil)) ⟨.rfl, .rfl, .rfl, .rfl, .rfl, trivial⟩) ?_; exact Wk.to (L := (wC22 p1 p2)) ⟨.rfl, .rfl, .rfl, .rfl, .rfl, trivial⟩) (AX.lst (by kernel_rfl) ((hA77 _ _ _).1 A77_0234)) rfl
                ·refine AXs.of (i := 5) rfl rfl (by rfl) ?_
                 refine zx ei37 gc74 rfl rfl rfl (AO.done ⟨rfl, ?_⟩)
                 exact AX.weaken (Wk.to (L := [(1, (ls eI p1)), (3, (.ptr 0 0 0 0)), (5, (.ptr 1 0 0 0)), (154, (ls eI p1)), (157, (.iptr (eI c74) 0))]) ⟨.rfl, .rfl, .rfl, .rfl, .rfl, trivial⟩) (AX.lst (by kernel_rfl) ((hA77 _ _ _).1 A77_2345)) rfl
                ·refine AXs.of (i := 12) rfl rfl (by rfl) ?_
                 refine ao_alloc (m := 2) (st' := [(wC1 p0), (wC0 p2), wC2]) go0 zi98 rfl rfl (AO.done ⟨rfl, ?_⟩)
                 exact AX.weaken (Wk.to (L := (wC30 p1 p2)) ⟨.rfl, .rfl, .rfl, .rfl, .rfl, .rfl, trivial⟩) (AX.lst (by kernel_rfl) ((hA77 _ _ _).1 A77_234c)) rfl)
               have A77_23c : A77 11 #[false, false, true, true, false, false, false, false, false, false, false, false, true, false] ⟨183, envL (wC31 p1), [(wC1 p0), (wC0 p2), wC2]⟩ := (hA77 _ _ _).2 (by
                refine AX.all [0, 4] rfl (by kernel_rfl) (by decide) ⟨?_, ?_, trivial⟩
                ·refine AXs.of (i := 0) rfl rfl (by rfl) ?_
                 refine zq tb rfl (AO.done ⟨rfl, ?_⟩)
                 exact AX.weaken (by refine Wk.trans (Wk.permk (L := (wC5 p1)) (st' := [(wC0 p2), wC2, (wC1 p0)]) (st1 := [(wC0 p2), wC2, (wC1 p0)]) [1, 2, 0] rfl .nil (by decide) rfl rfl (.raw rfl rfl (.raw rfl rfl (.raw rfl rfl .nil))) ⟨.rfl, .rfl, .rfl, .rfl, .rfl, .rfl, trivial⟩) ?_; exact Wk.to (L := (wC5 p1)) ⟨.rfl, .rfl, .rfl, .rfl, .rfl, .rfl, trivial⟩) (AX.lst (by kernel_rfl) ((hA77 _ _ _).1 A77_023c)) rfl
                ·refine AXs.of (i := 4) rfl rfl (by rfl) ?_
                 refine zq tb rfl (AO.done ⟨rfl, ?_⟩)
                 exact AX.weaken (Wk.to (L := (wC30 p1 p2)) ⟨.rfl, .rfl, .rfl, .rfl, .rfl, .rfl, trivial⟩) (AX.lst (by kernel_rfl) ((hA77 _ _ _).1 A77_234c)) rfl)
               have A77_23 : A77 12 #[false, false, true, true, false, false, false, false, false, false, false, false, false, false] ⟨183, envL [(1, (ls eI p1)), (3, (.ptr 0 0 0 0)), (5, (.ptr 1 0 0 0)), (154, (ls eI p1)), (155, (.ptr 1 0 0 3))], [(wC1 p0), (wC0 p2)]⟩ := (hA77 _ _ _).2 (by
                refine AX.all [0, 4, 12] rfl (by kernel_rfl) (by decide) ⟨?_, ?_, ?_, trivial⟩
                ·refine AXs.of (i := 0) rfl rfl (by rfl) ?_
                 refine zq tb rfl (AO.done ⟨rfl, ?_⟩)
                 exact AX.weaken (by refine Wk.trans (Wk.permk (L := (wC23 p1)) (st' := [(wC0 p2), (wC1 p0)]) (st1 := [(wC0 p2), (wC1 p0)]) [1, 0] rfl .nil (by decide) rfl rfl (.raw rfl rfl (.raw rfl rfl .nil)) ⟨.rfl, .rfl, .rfl, .rfl, .rfl, trivial⟩) ?_; exact Wk.to (L := (wC23 p1)) ⟨.rfl, .rfl, .rfl, .rfl, .rfl, trivial⟩) (AX.lst (by kernel_rfl) ((hA77 _ _ _).1 A77_023)) rfl
                ·refine AXs.of (i := 4) rfl rfl (by rfl) ?_
                 refine zq tb rfl (AO.done ⟨rfl, ?_⟩)
                 exact AX.weaken (Wk.to (L := [(1, (ls eI p1)), (3, (.ptr 0 0 0 0)), (5, (.ptr 1 0 0 0)), (154, (ls eI p1)), (156, (ls eI p2.args))]) ⟨.rfl, .rfl, .rfl, .rfl, .rfl, trivial⟩) (AX.lst (by kernel_rfl) ((hA77 _ _ _).1 A77_234)) rfl
                ·refine AXs.of (i := 12) rfl rfl (by rfl) ?_
                 refine ao_alloc (m := 2) (st' := [(wC1 p0), (wC0 p2), wC2]) go0 zi98 rfl rfl (AO.done ⟨rfl, ?_⟩)
                 exact AX.weaken (Wk.to (L := (wC31 p1)) ⟨.rfl, .rfl, .rfl, .rfl, .rfl, .rfl, trivial⟩) (AX.lst (by kernel_rfl) ((hA77 _ _ _).1 A77_23c)) rfl)
               have A77_2c : A77 12 #[false, false, true, false, false, false, false, false, false, false, false, false, true, false] ⟨183, envL [(1, (ls eI p1)), (3, (.ptr 0 0 0 0)), (5, (.ptr 1 0 0 0)), (7, (.ptr 2 0 0 0)), (154, (ls eI p1))], [(wC1 p0), (wC0 p2), wC2]⟩ := (hA77 _ _ _).2 (by
                refine AX.all [0, 3] rfl (by kernel_rfl) (by decide) ⟨?_, ?_, trivial⟩
                ·refine AXs.of (i := 0) rfl rfl (by rfl) ?_
                 refine zq tb rfl (AO.done ⟨rfl, ?_⟩)
                 exact AX.weaken (by refine Wk.trans (Wk.permk (L := (wC15 p1)) (st' := [(wC0 p2), wC2, (wC1 p0)]) (st1 := [(wC0 p2), wC2, (wC1 p0)]) [1, 2, 0] rfl .nil (by decide) rfl rfl (.raw rfl rfl (.raw rfl rfl (.raw rfl rfl .nil))) ⟨.rfl, .rfl, .rfl, .rfl, .rfl, trivial⟩) ?_; exact Wk.to (L := (wC15 p1)) ⟨.rfl, .rfl, .rfl, .rfl, .rfl, trivial⟩) (AX.lst (by kernel_rfl) ((hA77 _ _ _).1 A77_02c)) rfl
                ·refine AXs.of (i := 3) rfl rfl (by rfl) ?_
                 refine zq tb rfl (AO.done ⟨rfl, ?_⟩)
                 exact AX.weaken (Wk.to (L := (wC31 p1)) ⟨.rfl, .rfl, .rfl, .rfl, .rfl, .rfl, trivial⟩) (AX.lst (by kernel_rfl) ((hA77 _ _ _).1 A77_23c)) rfl)
               have A77_2 : A77 13 #[false, false, true, false, false, false, false, false, false, false, false, false, false, false] ⟨183, envL [(1, (ls eI p1)), (3, (.ptr 0 0 0 0)), (5, (.ptr 1 0 0 0)), (154, (ls eI p1))], [(wC1 p0), (wC0 p2)]⟩ := (hA77 _ _ _).2 (by
                refine AX.all [0, 3, 12] rfl (by kernel_rfl) (by decide) ⟨?_, ?_, ?_, trivial⟩
                ·refine AXs.of (i := 0) rfl rfl (by rfl) ?_
                 refine zq tb rfl (AO.done ⟨rfl, ?_⟩)
                 exact AX.weaken (by refine Wk.trans (Wk.permk (L := [(1, (ls eI p1)), (5, (.ptr 0 0 0 0)), (152, (.ptr 1 0 0 0)), (154, (ls eI p1))]) (st' := [(wC0 p2), (wC1 p0)]) (st1 := [(wC0 p2), (wC1 p0)]) [1, 0] rfl .nil (by decide) rfl rfl (.raw rfl rfl (.raw rfl rfl .nil)) ⟨.rfl, .rfl, .rfl, .rfl, trivial⟩) ?_; exact Wk.to (L := [(1, (ls eI p1)), (5, (.ptr 0 0 0 0)), (152, (.ptr 1 0 0 0)), (154, (ls eI p1))]) ⟨.rfl, .rfl, .rfl, .rfl, trivial⟩) (AX.lst (by kernel_rfl) ((hA77 _ _ _).1 A77_02)) rfl
                ·refine AXs.of (i := 3) rfl rfl (by rfl) ?_
                 refine zq tb rfl (AO.done ⟨rfl, ?_⟩)
                 exact AX.weaken (Wk.to (L := [(1, (ls eI p1)), (3, (.ptr 0 0 0 0)), (5, (.ptr 1 0 0 0)), (154, (ls eI p1)), (155, (.ptr 1 0 0 3))]) ⟨.rfl, .rfl, .rfl, .rfl, .rfl, trivial⟩) (AX.lst (by kernel_rfl) ((hA77 _ _ _).1 A77_23)) rfl
                ·refine AXs.of (i := 12) rfl rfl (by rfl) ?_
                 refine ao_alloc (m := 2) (st' := [(wC1 p0), (wC0 p2), wC2]) go0 zi98 rfl rfl (AO.done ⟨rfl, ?_⟩)
                 exact AX.weaken (Wk.to (L := [(1, (ls eI p1)), (3, (.ptr 0 0 0 0)), (5, (.ptr 1 0 0 0)), (7, (.ptr 2 0 0 0)), (154, (ls eI p1))]) ⟨.rfl, .rfl, .rfl, .rfl, .rfl, trivial⟩) (AX.lst (by kernel_rfl) ((hA77 _ _ _).1 A77_2c)) rfl)
               have A77_e : A77 14 #[false, false, false, false, false, false, false, false, false, false, false, false, false, false] ⟨183, envL [(1, (ls eI p1)), (3, (.ptr 0 0 0 0)), (5, (.ptr 1 0 0 0))], [(wC1 p0), (wC0 p2)]⟩ := (hA77 _ _ _).2 (by
                refine AX.hoist 2 (v := (ls eI p1)) rfl rfl (by kernel_rfl) (by kernel_rfl) (by kernel_rfl) rfl (hoist_mv rfl) ?_
                exact AX.weaken (Wk.to (L := [(1, (ls eI p1)), (3, (.ptr 0 0 0 0)), (5, (.ptr 1 0 0 0)), (154, (ls eI p1))]) ⟨.rfl, .rfl, .rfl, .rfl, trivial⟩) (AX.lst (by kernel_rfl) ((hA77 _ _ _).1 A77_2)) rfl)
               refine (hA77 _ _ _).2 ?_
               exact AX.weaken (Wk.to (L := [(1, (ls eI p1)), (3, (.ptr 0 0 0 0)), (5, (.ptr 1 0 0 0))]) ⟨.rfl, .rfl, .rfl, trivial⟩) (AX.lst (by kernel_rfl) ((hA77 _ _ _).1 A77_e)) rfl
              ·intro b72 h1
               exact AW.skip (M9 () (Sh.some_eq h1).symm _ (Wk.d0 _ rfl))
             refine AW.draw (by kernel_rfl) (by kernel_rfl) (by rfl) ?_
             iterate 2 refine yq tb rfl ?_
             refine yl tb rfl rfl ?_
             iterate 2 refine yq tb rfl ?_
             rcases Sh.ite_some h2 with ⟨b78, h2⟩ | ⟨b78, h2⟩
             ·refine yg tb b78 rfl (yg tb b78 rfl (bs h2 fun c79 gc79 h2 => d_q (v := (.iptr (eI c79) 0)) (go1 rfl rfl b78) rfl (aq_ixs ei37 rfl rfl gc79 rfl) ?_))
              iterate 2 refine yg tb b78 rfl ?_
              refine d_q (v := (i64 (Sh.len p1))) (go1 rfl rfl b78) rfl (aq_lens sl37 rfl) (yg tb b78 rfl (bs h2 fun q80 gq80 h2 => d_call (v := (.bool q80)) (go1 rfl rfl b78) hb158 (spec_inRange_ok gq80) rfl rfl rfl (yt b78 rfl (yq tb rfl ?_))))
              rcases Sh.ite_some h2 with ⟨b81, h2⟩ | ⟨b81, h2⟩
              ·refine yg tb b81 rfl ?_
               iterate 4 refine yg tb b81 rfl ?_
               exact d_q (v := (.iptr (eI c79) 0)) (go1 rfl rfl b81) rfl (aq_ixs ei37 rfl rfl gc79 rfl) (yg tb b81 rfl (bs h2 fun c82 gc82 h2 => d_q (v := (.iptr (eI c82) 0)) (go1 rfl rfl b81) rfl (aq_ixs ei37 rfl rfl gc82 rfl) (yg tb b81 rfl (bs h2 fun q83 gq83 h2 => d_call (v := (.bool q83)) (go1 rfl rfl b81) hb172 (spec_isArrow_ok gq83) rfl rfl rfl (yt b81 rfl (d_done (M71 q83 (Sh.some_eq h2).symm _ (Wk.tr rfl))))))))
              ·refine ys b81 rfl ?_
               iterate 9 refine ys b81 rfl ?_
               exact yf b81 rfl (d_done (M71 false (Sh.some_eq h2).symm _ (Wk.tr rfl)))
             ·refine ys b78 rfl ?_
              iterate 7 refine ys b78 rfl ?_
              refine yf b78 rfl (yq tb rfl ?_)
              iterate 10 refine ys rfl rfl ?_
              exact yf rfl rfl (d_done (M71 false (Sh.some_eq h2).symm _ (Wk.tr rfl)))
            ·intro b68 h1
             refine AW.seq fun K84 hK84 => bs h1 fun o86 h2 h1 => ?_
             have M86 : ∀ (t85 : Bool), o86 = t85 → ∀ s, Wk 0 s ⟨183, envL [(1, (ls eI p1)), (3, (.ptr 0 0 0 0)), (5, (.ptr 1 0 0 0)), (174, (.bool t85))], [(wC1 p0), (wC0 p2)]⟩ → K84 s := by
              intro t85 hq s hw
              subst o86
              try dsimp only at h1
              refine hK84 _ (AW.weaken hw ?_)
              refine ci h1 rfl ?_ ?_ <;> clear h1
              ·intro b87 h1
               refine sr rfl fun K88 hK88 => zm tb 3 rfl (bs h1 fun q89 gq89 h1 => zc hb173 (spec_countingType_ok gq89) rfl rfl rfl (zq tb rfl (dn hK88 rfl ?_)))
               replace h1 := Sh.some_eq h1
               subst o9
               try dsimp only [id] at h0
               replace h0 := Sh.some_eq h0
               subst r
               exact AW.ret (xr (Wk.d0 [(6, (i64 q89))] rfl))
              ·intro b87 h1
               exact AW.skip (M9 () (Sh.some_eq h1).symm _ (Wk.d0 _ rfl))
             refine zr tb rfl rfl ?_
             refine ci h2 rfl ?_ ?_ <;> clear h2
             ·intro b91 h2
              exact AW.skip (M86 true (Sh.some_eq h2).symm _ (Wk.to (L := (wC32 p1)) ⟨.rfl, .rfl, .rfl, (.of (congrArg AV.bool b91)), trivial⟩))
             ·intro b91 h2
              refine zr tb rfl rfl ?_
              refine ci h2 rfl ?_ ?_ <;> clear h2
              ·intro b93 h2
               exact AW.skip (M86 true (Sh.some_eq h2).symm _ (Wk.to (L := (wC32 p1)) ⟨.rfl, .rfl, .rfl, (.of (congrArg AV.bool b93)), trivial⟩))
              ·intro b93 h2
               refine zr tb rfl rfl ?_
               refine ci h2 rfl ?_ ?_ <;> clear h2
               ·intro b95 h2
                exact AW.skip (M86 true (Sh.some_eq h2).symm _ (Wk.to (L := (wC32 p1)) ⟨.rfl, .rfl, .rfl, (.of (congrArg AV.bool b95)), trivial⟩))
               ·intro b95 h2
                exact AW.regionO rfl (zm tb 2 rfl (AO.done (M86 (decide (p2.op = 17)) (Sh.some_eq h2).symm _ (Wk.tr rfl))))
          refine zr tb rfl rfl ?_
          refine ci h2 rfl ?_ ?_ <;> clear h2
          ·intro b97 h2
           exact AW.skip (M63 true (Sh.some_eq h2).symm _ (Wk.to (L := [(1, (ls eI p1)), (3, (.ptr 0 0 0 0)), (5, (.ptr 1 0 0 0)), (40, (i64 p2.op)), (117, (.bool true))]) ⟨.rfl, .rfl, .rfl, .rfl, (.of (congrArg AV.bool b97)), trivial⟩))
          ·intro b97 h2
           exact AW.regionO rfl (zm tb 2 rfl (AO.done (M63 (decide (p2.op = 10)) (Sh.some_eq h2).symm _ (Wk.tr rfl))))
    refine zr tb rfl rfl ?_
    refine ci h2 rfl ?_ ?_ <;> clear h2
    ·intro b99 h2
     exact AW.skip (M23 true (Sh.some_eq h2).symm _ (Wk.to (L := (wC25 p1 p2)) ⟨.rfl, .rfl, .rfl, .rfl, (.of (congrArg AV.bool b99)), trivial⟩))
    ·intro b99 h2
     refine zr tb rfl rfl ?_
     refine ci h2 rfl ?_ ?_ <;> clear h2
     ·intro b101 h2
      exact AW.skip (M23 true (Sh.some_eq h2).symm _ (Wk.to (L := (wC25 p1 p2)) ⟨.rfl, .rfl, .rfl, .rfl, (.of (congrArg AV.bool b101)), trivial⟩))
     ·intro b101 h2
      refine zr tb rfl rfl ?_
      refine ci h2 rfl ?_ ?_ <;> clear h2
      ·intro b103 h2
       exact AW.skip (M23 true (Sh.some_eq h2).symm _ (Wk.to (L := (wC25 p1 p2)) ⟨.rfl, .rfl, .rfl, .rfl, (.of (congrArg AV.bool b103)), trivial⟩))
      ·intro b103 h2
       exact AW.regionO rfl (zm tb 2 rfl (AO.done (M23 (decide (p2.op = 4)) (Sh.some_eq h2).symm _ (Wk.tr rfl))))
 refine AW.regionO rfl (zm tb 4 rfl ?_)
 rcases Sh.ite_some h1 with ⟨b104, h1⟩ | ⟨b104, h1⟩
 ·refine zg tb b104 rfl (zg tb b104 rfl (bs h1 fun q105 gq105 h1 => zd b104 hb165 (spec_hasNum_ok gq105) rfl rfl rfl rfl (zg tb b104 rfl (zt b104 rfl (zq tb rfl ?_)))))
  rcases Sh.ite_some h1 with ⟨b106, h1⟩ | ⟨b106, h1⟩
  ·refine zs b106 rfl ?_
   iterate 3 refine zs b106 rfl ?_
   refine zt b106 rfl (zq tb rfl ?_)
   iterate 5 refine zs rfl rfl ?_
   iterate 3 refine zn rfl ?_
   refine zs rfl rfl (zs rfl rfl ?_)
   iterate 3 refine zn rfl ?_
   exact zs rfl rfl (zt rfl rfl (AO.done (M5 true (Sh.some_eq h1).symm _ (Wk.tr rfl))))
  ·refine zg tb b106 rfl (zg tb b106 rfl (bs h1 fun q107 gq107 h1 => zd b106 hb166 (spec_validInto_ok gq107) rfl rfl rfl rfl (zg tb b106 rfl (zf b106 rfl (zq tb rfl ?_)))))
   rcases Sh.ite_some h1 with ⟨b108, h1⟩ | ⟨b108, h1⟩
   ·refine zs b108 rfl ?_
    iterate 4 refine zs b108 rfl ?_
    iterate 3 refine zn rfl ?_
    refine zs b108 rfl (zs b108 rfl ?_)
    iterate 3 refine zn rfl ?_
    exact zs b108 rfl (zt b108 rfl (AO.done (M5 true (Sh.some_eq h1).symm _ (Wk.tr rfl))))
   ·refine zg tb b108 rfl (zg tb b108 rfl (ao_q (v := (i64 (Sh.len p2.kids))) (go1 rfl rfl b108) rfl (aq_lens sl69 rfl) (zg tb b108 rfl (zg tb b108 rfl ?_))))
    rcases Sh.ite_some h1 with ⟨b109, h1⟩ | ⟨b109, h1⟩
    ·refine zg tb b109 rfl (zg tb b109 rfl (zg tb b109 rfl (ao_q (v := (.bool (!decide (p2.op = 7)))) (go1 rfl rfl b108) rfl (aq_pkt rfl b109 rfl) (zg tb b108 rfl ?_))))
     rcases Sh.ite_some h1 with ⟨b110, h1⟩ | ⟨b110, h1⟩
     ·exact zg tb b110 rfl (zg tb b110 rfl (zg tb b110 rfl (ao_q (v := (.bool (!decide (p2.op = 8)))) (go1 rfl rfl b108) rfl (aq_pkt rfl b110 rfl) (zf b108 rfl (AO.done (M5 (!decide (p2.op = 8)) (Sh.some_eq h1).symm _ (Wk.tr rfl)))))))
     ·exact zs b110 rfl (zs b110 rfl (zs b110 rfl (ao_q (v := (.bool false)) (go1 rfl rfl b108) rfl (aq_pkf rfl b110 rfl) (zf b108 rfl (AO.done (M5 false (Sh.some_eq h1).symm _ (Wk.tr rfl)))))))
    ·refine zs b109 rfl (zs b109 rfl (zs b109 rfl (ao_q (v := (.bool false)) (go1 rfl rfl b108) rfl (aq_pkf rfl b109 rfl) (zg tb b108 rfl ?_))))
     iterate 3 refine zs rfl rfl ?_
     exact ao_q (v := (.bool false)) (go1 rfl rfl b108) rfl (aq_pkf rfl rfl rfl) (zf b108 rfl (AO.done (M5 false (Sh.some_eq h1).symm _ (Wk.tr rfl))))
 ·refine zs b104 rfl ?_
  iterate 3 refine zs b104 rfl ?_
  refine zf b104 rfl (zq tb rfl (zg tb rfl rfl (zg tb rfl rfl (bs h1 fun q111 gq111 h1 => zd rfl hb166 (spec_validInto_ok gq111) rfl rfl rfl rfl (zg tb rfl rfl (zf rfl rfl (zq tb rfl ?_)))))))
  rcases Sh.ite_some h1 with ⟨b112, h1⟩ | ⟨b112, h1⟩
  ·refine zs b112 rfl ?_
   iterate 4 refine zs b112 rfl ?_
   iterate 3 refine zn rfl ?_
   refine zs b112 rfl (zs b112 rfl ?_)
   iterate 3 refine zn rfl ?_
   exact zs b112 rfl (zt b112 rfl (AO.done (M5 true (Sh.some_eq h1).symm _ (Wk.tr rfl))))
  ·refine zg tb b112 rfl (zg tb b112 rfl (ao_q (v := (i64 (Sh.len p2.kids))) (go1 rfl rfl b112) rfl (aq_lens sl69 rfl) (zg tb b112 rfl (zg tb b112 rfl ?_))))
   rcases Sh.ite_some h1 with ⟨b113, h1⟩ | ⟨b113, h1⟩
   ·refine zg tb b113 rfl (zg tb b113 rfl (zg tb b113 rfl (ao_q (v := (.bool (!decide (p2.op = 7)))) (go1 rfl rfl b112) rfl (aq_pkt rfl b113 rfl) (zg tb b112 rfl ?_))))
    rcases Sh.ite_some h1 with ⟨b114, h1⟩ | ⟨b114, h1⟩
    ·exact zg tb b114 rfl (zg tb b114 rfl (zg tb b114 rfl (ao_q (v := (.bool (!decide (p2.op = 8)))) (go1 rfl rfl b112) rfl (aq_pkt rfl b114 rfl) (zf b112 rfl (AO.done (M5 (!decide (p2.op = 8)) (Sh.some_eq h1).symm _ (Wk.tr rfl)))))))
    ·exact zs b114 rfl (zs b114 rfl (zs b114 rfl (ao_q (v := (.bool false)) (go1 rfl rfl b112) rfl (aq_pkf rfl b114 rfl) (zf b112 rfl (AO.done (M5 false (Sh.some_eq h1).symm _ (Wk.tr rfl)))))))
   ·refine zs b113 rfl (zs b113 rfl (zs b113 rfl (ao_q (v := (.bool false)) (go1 rfl rfl b112) rfl (aq_pkf rfl b113 rfl) (zg tb b112 rfl ?_))))
    iterate 3 refine zs rfl rfl ?_
    exact ao_q (v := (.bool false)) (go1 rfl rfl b112) rfl (aq_pkf rfl rfl rfl) (zf b112 rfl (AO.done (M5 false (Sh.some_eq h1).symm _ (Wk.tr rfl))))
theorem spec_defines_ok {p0 : Int} {r : Bool} (h0 : spec_defines p0 = some r) : ACalls Tryz.prog 157 [(i64 p0)] [] (fun v st => v = (.bool r) ∧ st = []) := by
 unfold spec_defines at h0
 refine ai Tryz.func157 rfl rfl rfl rfl (zr tb rfl rfl (sr rfl fun K2 hK2 => zq tb rfl (bs h0 fun q3 gq3 h0 => zc hb158 (spec_inRange_ok gq3) rfl rfl rfl (zq tb rfl (dn hK2 rfl ?_)))))
 replace h0 := Sh.some_eq h0
 subst r
 exact AW.ret (xr (Wk.to (L := [(2, (.bool q3))]) ⟨.rfl, trivial⟩))
noncomputable abbrev wC36 (p2 : Block) : Go.Abs.Row := ⟨0, 55, 2, [[(ls eStep p2.steps), (i64 p2.result)]]⟩
theorem spec_blockType_B_ok {N : Nat} {rec_spec_blockType : RNormal → (List Int) → Block → Option (Int)} (hrec_spec_blockType : ∀ {p0 : RNormal} {p1 : (List Int)} {p2 : Block} {r : Int}, rec_spec_blockType p0 p1 p2 = some r → ACalls Tryz.prog 100 [(.agg [(ls eRDecl p0.decls), (ls eRRoutine p0.routines)]), (ls eI p1), (.agg [(ls eStep p2.steps), (i64 p2.result)])] [] (fun v st => v = (i64 r) ∧ st = [])) {p0 : RNormal} {p1 : (List Int)} {p2 : Block} {r : Int} (h0 : spec_blockType_B N rec_spec_blockType p0 p1 p2 = some r) : ACalls Tryz.prog 100 [(.agg [(ls eRDecl p0.decls), (ls eRRoutine p0.routines)]), (ls eI p1), (.agg [(ls eStep p2.steps), (i64 p2.result)])] [] (fun v st => v = (i64 r) ∧ st = []) := by
 unfold spec_blockType_B at h0
 refine ai Tryz.func100 rfl rfl rfl rfl (sr rfl fun K1 hK1 => ao_box (m := 0) (st' := [(wC1 p0)]) go0 rfl rfl rfl rfl rfl (ao_box (m := 1) (st' := [(wC1 p0), (wC36 p2)]) go0 rfl rfl rfl rfl rfl (zq tb rfl (dn hK1 rfl (sr rfl fun K2 hK2 => zq tb rfl (bs h0 fun q3 gq3 h0 => ao_call (v' := (ow 2 0 q3)) (st' := [(wC1 p0), (wC36 p2), (ro 0 3 1 eI q3)]) go0 hb103 (spec_copyInts_ok gq3) rfl rfl ⟨(pure_map' fun _ => rfl), trivial⟩ rfl rfl (zq tb rfl (dn hK2 rfl ?_))))))))
 refine AW.seq fun K4 hK4 => zr tb rfl rfl ?_
 obtain ⟨o9, h1, h0⟩ := Sh.cont_some h0
 have M9 : ∀ (l8 : (List Int)), o9 = Sum.inr l8 → ∀ s, Wk 0 s ⟨52, envL [(5, (.ptr 0 0 0 0)), (7, (ow 1 0 l8))], [(wC36 p2), (ro 0 3 1 eI l8)]⟩ → K4 s := by
  intro l8 hq s hw
  subst o9
  try dsimp only at h0
  refine hK4 _ (AW.weaken hw (AW.seq fun K10 hK10 => sr rfl fun K11 hK11 => zm tb 3 rfl (zz (i64 (Sh.len l8)) (aq_leno sl37 rfl rfl rfl) rfl (zq tb rfl (bs h0 fun q12 gq12 h0 => zc hb158 (spec_inRange_ok gq12) rfl rfl rfl (zq tb rfl (dn hK11 rfl ?_)))))))
  refine ci h0 rfl ?_ ?_ <;> clear h0
  ·intro b13 h0
   have b14 : q12 = false := by simpa using b13
   refine zr tb rfl rfl ?_
   replace h0 := Sh.some_eq h0
   subst r
   exact AW.ret (xr (Wk.d0 [(6, (i64 (-1)))] rfl))
  ·intro b13 h0
   have b16 : q12 = true := by simpa using b13
   refine AW.skip (hK10 _ (sr rfl fun K17 hK17 => zm tb 3 rfl (bs h0 fun c18 gc18 h0 => zz (.ptr 1 0 (Int.toNat p2.result) 0) (aq_ixo ei37 rfl rfl rfl rfl gc18) rfl (zz (i64 c18) (aq_ldp ti3 rfl rfl (map_get gc18) rfl) rfl (zq tb rfl (dn hK17 rfl ?_))))))
   replace h0 := Sh.some_eq h0
   subst r
   exact AW.ret (xr (Wk.d0 [(6, (i64 c18))] rfl))
 refine AW.block (AW.loopF (σ := Int × (List Int)) (fun n v => spec_blockType_B_L1 N p0 p2 rec_spec_blockType n v.1 v.2 = some o9) (fun (i6, l7) => ⟨52, envL [(3, (.ptr 0 0 0 0)), (5, (.ptr 1 0 0 0)), (7, (ow 2 0 l7)), (8, (i64 i6))], [(wC1 p0), (wC36 p2), (ro 0 3 1 eI l7)]⟩) N (0, q3) h1 (Wk.tr rfl) (fun _ hv => by rw [spec_blockType_B_L1] at hv; cases hv) ?_)
 rintro n ⟨i6, l7⟩ h1
 try dsimp only at h1 ⊢
 rw [spec_blockType_B_L1] at h1
 refine AW.seq fun K19 hK19 => sr rfl fun K20 hK20 => zm tb 3 rfl (zl tb rfl rfl (zq tb rfl (dn hK20 rfl ?_)))
 refine ci h1 rfl ?_ ?_ <;> clear h1
 ·intro b21 h1
  refine AW.skip (hK19 _ (AW.seq fun K22 hK22 => ?_))
  obtain ⟨o24, h2, h1⟩ := Sh.cont_some h1
  have M24 : ∀ (l23 : (List Int)), o24 = Sum.inr l23 → ∀ s, Wk 0 s ⟨52, envL [(3, (.ptr 0 0 0 0)), (5, (.ptr 1 0 0 0)), (7, (ow 2 0 l23)), (8, (i64 i6))], [(wC1 p0), (wC36 p2), (ro 0 3 1 eI l23)]⟩ → K22 s := by
   intro l23 hq s hw
   subst o24
   try dsimp only at h1
   exact hK22 _ (AW.weaken hw (AW.regionO rfl (zm tb 3 rfl (AO.done (xi (Sh.w (i6 + 1), l23) h1 (Wk.tr rfl))))))
  refine AW.block (AW.seq fun K25 hK25 => ?_)
  refine AW.draw (by kernel_rfl) (by kernel_rfl) (by rfl) ?_
  iterate 5 refine yq tb rfl ?_
  refine bs h2 fun c26 gc26 h2 => yz (.iptr [(i64 c26.op), (i64 c26.num), (i64 c26.into), (ls eI c26.args), (ls eBlock c26.kids)] 0) (aq_ixsE ei53 rfl rfl gc26 (eStep_eq _) rfl) rfl (yq tb rfl (bs h2 fun q27 gq27 h2 => d_callb (v' := (i64 q27)) go0 hb114 (spec_stepType_ok hrec_spec_blockType gq27) rfl (.val rfl (.own rfl rfl (fun _ => rfl) (.val rfl .nil))) rfl rfl (yq tb rfl (d_done (hK25 _ (AW.seq fun K28 hK28 => zr tb rfl rfl ?_))))))
  refine ci h2 rfl ?_ ?_ <;> clear h2
  ·intro b30 h2
   refine zr tb rfl rfl ?_
   replace h2 := Sh.some_eq h2
   subst o24
   try dsimp only [id] at h1
   replace h1 := Sh.some_eq h1
   subst o9
   try dsimp only [id] at h0
   replace h0 := Sh.some_eq h0
   subst r
   exact AW.ret (xr (Wk.d0 [(6, (i64 (-1)))] rfl))
  ·intro b30 h2
   refine AW.skip (hK28 _ (sr rfl fun K32 hK32 => zm tb 3 rfl (zz (.iptr [(i64 c26.op), (i64 c26.num), (i64 c26.into), (ls eI c26.args), (ls eBlock c26.kids)] 0) (aq_ixsE ei53 rfl rfl gc26 (eStep_eq _) rfl) rfl (zm tb 2 rfl (bs h2 fun q33 gq33 h2 => zc hb157 (spec_defines_ok gq33) rfl rfl rfl (dn hK32 rfl ?_))))))
   refine ci h2 rfl ?_ ?_ <;> clear h2
   ·intro b34 h2
    refine AW.regionO rfl (zm tb 2 rfl ?_)
    refine ao_bs (m := 3) (st' := [(wC1 p0), (wC36 p2), (ro 0 3 1 eI l7), (ro 0 3 1 eI [q27])]) (l := [q27]) (enc := eI) go0 ei37 (by decide) rfl rfl rfl rfl rfl rfl ?_
    refine bs h2 fun l35 gl35 h2 => ao_apo (st' := [(wC1 p0), (wC36 p2), (ro 1 3 1 eI l35), (ro 0 3 1 eI [q27])]) (l2 := [q27]) go0 ei37 rfl rfl rfl rfl (el_o rfl rfl) (fun _ => rfl) gl35 rfl (zq tb rfl ?_)
    exact AO.done (M24 l35 (Sh.some_eq h2).symm _ (by refine Wk.trans (Wk.rg (L := [(3, (.ptr 0 0 0 0)), (5, (.ptr 1 0 0 0)), (7, (ow 2 0 l35)), (8, (i64 i6))]) (st' := [(wC1 p0), (wC36 p2), (ro 0 3 1 eI l35), (ro 0 3 1 eI [q27])]) (.raw rfl rfl (.raw rfl rfl (.pure (pure_map fun _ => rfl) (.pure (pure_map fun _ => rfl) .nil)))) ⟨.rfl, .rfl, .rfl, .rfl, trivial⟩) ?_; exact Wk.permk (L := [(3, (.ptr 0 0 0 0)), (5, (.ptr 1 0 0 0)), (7, (ow 2 0 l35)), (8, (i64 i6))]) (st' := [(wC1 p0), (wC36 p2), (ro 0 3 1 eI l35)]) (st1 := [(wC1 p0), (wC36 p2), (ro 0 3 1 eI l35)]) [0, 1, 2] rfl .nil (by decide) rfl rfl (.raw rfl rfl (.raw rfl rfl (.pure (pure_map fun _ => rfl) .nil))) ⟨.rfl, .rfl, .rfl, .rfl, trivial⟩))
   ·intro b34 h2
    exact AW.skip (M24 l7 (Sh.some_eq h2).symm _ (Wk.tr rfl))
 ·intro b21 h1
  exact AW.exit (M9 l7 (Sh.some_eq h1).symm _ (Wk.permk (L := [(5, (.ptr 0 0 0 0)), (7, (ow 1 0 l7))]) (st' := [(wC36 p2), (ro 0 3 1 eI l7)]) (st1 := [(wC36 p2), (ro 0 3 1 eI l7)]) [1, 2] rfl .nil (by decide) rfl rfl (.raw rfl rfl (.pure (pure_map fun _ => rfl) .nil)) ⟨.rfl, .rfl, trivial⟩))

theorem spec_blockType_F_ok {N : Nat} : ∀ (n : Nat), ∀ {p0 : RNormal} {p1 : (List Int)} {p2 : Block} {r : Int}, spec_blockType_F N n p0 p1 p2 = some r → ACalls Tryz.prog 100 [(.agg [(ls eRDecl p0.decls), (ls eRRoutine p0.routines)]), (ls eI p1), (.agg [(ls eStep p2.steps), (i64 p2.result)])] [] (fun v st => v = (i64 r) ∧ st = []) := by
 intro n
 induction n with
 | zero => intro p0 p1 p2 r h0; cases h0
 | succ n ih =>
  intro p0 p1 p2 r h0
  rw [spec_blockType_F] at h0
  exact spec_blockType_B_ok (fun h => ih h) h0
theorem spec_blockType_ok {N : Nat} : ∀ {p0 : RNormal} {p1 : (List Int)} {p2 : Block} {r : Int}, spec_blockType N p0 p1 p2 = some r → ACalls Tryz.prog 100 [(.agg [(ls eRDecl p0.decls), (ls eRRoutine p0.routines)]), (ls eI p1), (.agg [(ls eStep p2.steps), (i64 p2.result)])] [] (fun v st => v = (i64 r) ∧ st = []) := by
 intro p0 p1 p2 r h0
 exact spec_blockType_F_ok N h0
theorem spec_validNormal_ok {N : Nat} {p0 : RNormal} {r : Bool} (h0 : spec_validNormal N p0 = some r) : ACalls Tryz.prog 49 [(.agg [(ls eRDecl p0.decls), (ls eRRoutine p0.routines)])] [] (fun v st => v = (.bool r) ∧ st = []) := by
 unfold spec_validNormal at h0
 refine ai Tryz.func49 rfl rfl rfl rfl (sr rfl fun K1 hK1 => ao_box (m := 0) (st' := [(wC1 p0)]) go0 rfl rfl rfl rfl rfl (zq tb rfl (dn hK1 rfl (AW.seq fun K2 hK2 => sr rfl fun K3 hK3 => zq tb rfl (bs h0 fun q4 gq4 h0 => zc hb99 (spec_validNormalSigs_ok gq4) rfl rfl rfl (zq tb rfl (dn hK3 rfl ?_)))))))
 refine ci h0 rfl ?_ ?_ <;> clear h0
 ·intro b5 h0
  have b6 : q4 = false := by simpa using b5
  refine zr tb rfl rfl ?_
  replace h0 := Sh.some_eq h0
  subst r
  exact AW.ret (xr (Wk.d0 [(2, (.bool false))] rfl))
 ·intro b5 h0
  have b8 : q4 = true := by simpa using b5
  refine AW.skip (hK2 _ (AW.seq fun K9 hK9 => zr tb rfl rfl ?_))
  obtain ⟨o12, h1, h0⟩ := Sh.cont_some h0
  have M12 : ∀ (_ : Unit), o12 = Sum.inr () → ∀ s, Wk 0 s ⟨35, envL [], []⟩ → K9 s := by
   intro _ hq s hw
   subst o12
   try dsimp only at h0
   refine hK9 _ (AW.weaken hw (zr tb rfl rfl ?_))
   replace h0 := Sh.some_eq h0
   subst r
   exact AW.ret (xr (Wk.to (L := [(2, (.bool true))]) ⟨.rfl, trivial⟩))
  refine AW.block (AW.loopF (σ := Int) (fun n v => spec_validNormal_L1 N p0 n v = some o12) (fun i11 => ⟨35, envL [(1, (.ptr 0 0 0 0)), (3, (i64 i11))], [(wC1 p0)]⟩) N 0 h1 (Wk.tr rfl) (fun _ hv => by rw [spec_validNormal_L1] at hv; cases hv) ?_)
  rintro n i11 h1
  try dsimp only at h1 ⊢
  rw [spec_validNormal_L1] at h1
  refine AW.seq fun K14 hK14 => sr rfl fun K15 hK15 => zm tb 3 rfl (zl tb rfl rfl (zq tb rfl (dn hK15 rfl ?_)))
  refine ci h1 rfl ?_ ?_ <;> clear h1
  ·intro b16 h1
   refine AW.skip (hK14 _ (AW.seq fun K17 hK17 => AW.block (sr rfl fun K18 hK18 => zm tb 3 rfl (bs h1 fun c19 gc19 h1 => zx ei28 gc19 rfl rfl rfl (zq tb rfl (ao_alloc (m := 1) (st' := [(wC1 p0), ⟨0, 57, 5, [[.zc, .zc, (i64 0), .zc, (i64 0)]]⟩]) go0 zi57 rfl rfl (ao_str (st' := [(wC1 p0), ⟨0, 57, 5, [[(ls eI c19.params), (ls eI c19.lent), (i64 c19.result), (ls eStep c19.body.steps), (i64 c19.body.result)]]⟩]) go0 ti57 rfl rfl rfl rfl rfl rfl (show 0 + 5 ≤ 5 by decide) rfl (dn hK18 rfl (AW.seq fun K20 hK20 => ?_)))))))))
   refine bs h1 fun o22 h2 h1 => ?_
   have M22 : ∀ (t21 : Bool), o22 = t21 → ∀ s, Wk 0 s ⟨35, envL [(1, (.ptr 0 0 0 0)), (3, (i64 i11)), (34, (.bool t21))], [(wC1 p0)]⟩ → K20 s := by
    intro t21 hq s hw
    subst o22
    try dsimp only at h1
    refine hK20 _ (AW.weaken hw ?_)
    refine ci h1 rfl ?_ ?_ <;> clear h1
    ·intro b23 h1
     refine zr tb rfl rfl ?_
     replace h1 := Sh.some_eq h1
     subst o12
     try dsimp only [id] at h0
     replace h0 := Sh.some_eq h0
     subst r
     exact AW.ret (xr (Wk.d0 [(2, (.bool false))] rfl))
    ·intro b23 h1
     exact AW.skip (hK17 _ (AW.regionO rfl (zm tb 3 rfl (AO.done (xi (Sh.w (i11 + 1)) h1 (Wk.tr rfl))))))
   refine AW.draw (by kernel_rfl) (by kernel_rfl) (by rfl) ?_
   iterate 2 refine yq tb rfl ?_
   refine bs h2 fun q25 gq25 h2 => d_call (v := (i64 q25)) go0 hb67 (spec_stepsOf_ok gq25) rfl rfl rfl ?_
   iterate 2 refine yq tb rfl ?_
   rcases Sh.ite_some h2 with ⟨b26, h2⟩ | ⟨b26, h2⟩
   ·refine ys b26 rfl ?_
    iterate 8 refine ys b26 rfl ?_
    refine yt b26 rfl ?_
    exact d_done (M22 true (Sh.some_eq h2).symm _ (Wk.permk (L := [(1, (.ptr 0 0 0 0)), (3, (i64 i11)), (34, (.bool true))]) (st' := [(wC1 p0)]) (st1 := [(wC1 p0)]) [0] rfl .nil (by decide) rfl rfl (.raw rfl rfl .nil) ⟨.rfl, .rfl, .rfl, trivial⟩))
   ·refine yg tb b26 rfl ?_
    iterate 4 refine yg tb b26 rfl ?_
    refine bs h2 fun q27 gq27 h2 => d_call (v := (i64 q27)) (go1 rfl rfl b26) hb100 (spec_blockType_ok gq27) rfl rfl rfl ?_
    iterate 3 refine yg tb b26 rfl ?_
    refine yf b26 rfl ?_
    exact d_done (M22 (!decide (q27 = c19.result)) (Sh.some_eq h2).symm _ (Wk.permk (L := [(1, (.ptr 0 0 0 0)), (3, (i64 i11)), (34, (.bool (!decide (q27 = c19.result))))]) (st' := [(wC1 p0)]) (st1 := [(wC1 p0)]) [0] rfl .nil (by decide) rfl rfl (.raw rfl rfl .nil) ⟨.rfl, .rfl, .rfl, trivial⟩))
  ·intro b16 h1
   exact AW.exit (M12 () (Sh.some_eq h1).symm _ (Wk.d0 _ rfl))
theorem spec_isCounting_ok {p0 : Int} {r : Bool} (h0 : spec_isCounting p0 = some r) : ACalls Tryz.prog 112 [(i64 p0)] [] (fun v st => v = (.bool r) ∧ st = []) := by
 unfold spec_isCounting at h0
 refine ai Tryz.func112 rfl rfl rfl rfl (zr tb rfl rfl (sr rfl fun K2 hK2 => zq tb rfl (bs h0 fun q3 gq3 h0 => zc hb158 (spec_inRange_ok gq3) rfl rfl rfl (zq tb rfl (dn hK2 rfl ?_)))))
 replace h0 := Sh.some_eq h0
 subst r
 exact AW.ret (xr (Wk.to (L := [(2, (.bool q3))]) ⟨.rfl, trivial⟩))
noncomputable abbrev wC37 (p0 : Block) : Go.Abs.Row := ⟨0, 55, 2, [[(ls eStep p0.steps), (i64 p0.result)]]⟩
theorem spec_countsIn_B_ok {N : Nat} {rec_spec_countsIn : Block → (List Int) → Option ((List Int))} (hrec_spec_countsIn : ∀ {p0 : Block} {p1 : (List Int)} {r : (List Int)}, rec_spec_countsIn p0 p1 = some r → ACalls Tryz.prog 101 [(.agg [(ls eStep p0.steps), (i64 p0.result)]), (ls eI p1)] [] (fun v st => v = (ow 0 0 r) ∧ st = [(ro 0 3 1 eI r)])) {p0 : Block} {p1 : (List Int)} {r : (List Int)} (h0 : spec_countsIn_B N rec_spec_countsIn p0 p1 = some r) : ACalls Tryz.prog 101 [(.agg [(ls eStep p0.steps), (i64 p0.result)]), (ls eI p1)] [] (fun v st => v = (ow 0 0 r) ∧ st = [(ro 0 3 1 eI r)]) := by
 unfold spec_countsIn_B at h0
 refine ai Tryz.func101 rfl rfl rfl rfl (sr rfl fun K1 hK1 => ao_box (m := 0) (st' := [(wC37 p0)]) go0 rfl rfl rfl rfl rfl (zq tb rfl (dn hK1 rfl (sr rfl fun K2 hK2 => zq tb rfl (bs h0 fun q3 gq3 h0 => ao_call (v' := (ow 1 0 q3)) (st' := [(wC37 p0), (ro 0 3 1 eI q3)]) go0 hb103 (spec_copyInts_ok gq3) rfl rfl ⟨(pure_map' fun _ => rfl), trivial⟩ rfl rfl (zq tb rfl (dn hK2 rfl (AW.seq fun K4 hK4 => ?_))))))))
 refine zr tb rfl rfl (bs h0 fun o9 h1 h0 => ?_)
 have M9 : ∀ (l8 : (List Int)), o9 = l8 → ∀ s, Wk 0 s ⟨67, envL [(5, (ow 0 0 l8))], [(ro 0 3 1 eI l8)]⟩ → K4 s := by
  intro l8 hq s hw
  subst o9
  try dsimp only at h0
  refine hK4 _ (AW.weaken hw (zr tb rfl rfl ?_))
  replace h0 := Sh.some_eq h0
  subst r
  exact AW.ret (xr (Wk.to (L := [(4, (ow 0 0 l8))]) ⟨.rfl, trivial⟩))
 refine AW.block (AW.loopF (σ := Int × (List Int)) (fun n v => spec_countsIn_B_L1 N p0 rec_spec_countsIn n v.1 v.2 = some o9) (fun (i6, l7) => ⟨67, envL [(2, (.ptr 0 0 0 0)), (5, (ow 1 0 l7)), (6, (i64 i6))], [(wC37 p0), (ro 0 3 1 eI l7)]⟩) N (0, q3) h1 (Wk.tr rfl) (fun _ hv => by rw [spec_countsIn_B_L1] at hv; cases hv) ?_)
 rintro n ⟨i6, l7⟩ h1
 try dsimp only at h1 ⊢
 rw [spec_countsIn_B_L1] at h1
 refine AW.seq fun K11 hK11 => sr rfl fun K12 hK12 => zm tb 3 rfl (zl tb rfl rfl (zq tb rfl (dn hK12 rfl ?_)))
 refine ci h1 rfl ?_ ?_ <;> clear h1
 ·intro b13 h1
  refine AW.skip (hK11 _ (AW.seq fun K14 hK14 => AW.block (AW.seq fun K15 hK15 => bs h1 fun o17 h2 h1 => ?_)))
  have M17 : ∀ (l16 : (List Int)), o17 = l16 → ∀ s, Wk 0 s ⟨67, envL [(2, (.ptr 0 0 0 0)), (5, (ow 1 0 l16)), (6, (i64 i6))], [(wC37 p0), (ro 0 3 1 eI l16)]⟩ → K15 s := by
   intro l16 hq s hw
   subst o17
   try dsimp only at h1
   refine hK15 _ (AW.weaken hw (zr tb rfl rfl (bs h1 fun o22 h2 h1 => ?_)))
   have M22 : ∀ (l21 : (List Int)), o22 = l21 → ∀ s, Wk 0 s ⟨67, envL [(2, (.ptr 0 0 0 0)), (5, (ow 1 0 l21)), (6, (i64 i6))], [(wC37 p0), (ro 0 3 1 eI l21)]⟩ → K14 s := by
    intro l21 hq s hw
    subst o22
    try dsimp only at h1
    exact hK14 _ (AW.weaken hw (AW.regionO rfl (zm tb 3 rfl (AO.done (xi (Sh.w (i6 + 1), l21) h1 (Wk.tr rfl))))))
   refine AW.block (AW.loopF (σ := Int × (List Int)) (fun n v => spec_countsIn_B_L2 i6 p0 rec_spec_countsIn n v.1 v.2 = some o22) (fun (k19, l20) => ⟨67, envL [(2, (.ptr 0 0 0 0)), (5, (ow 1 0 l20)), (6, (i64 i6)), (7, (i64 k19))], [(wC37 p0), (ro 0 3 1 eI l20)]⟩) N (0, l16) h2 (Wk.tr rfl) (fun _ hv => by rw [spec_countsIn_B_L2] at hv; cases hv) ?_)
   rintro n ⟨k19, l20⟩ h2
   try dsimp only at h2 ⊢
   rw [spec_countsIn_B_L2] at h2
   refine AW.seq fun K23 hK23 => sr rfl fun K24 hK24 => zm tb 4 rfl (bs h2 fun c25 gc25 h2 => zz (.iptr [(i64 c25.op), (i64 c25.num), (i64 c25.into), (ls eI c25.args), (ls eBlock c25.kids)] 0) (aq_ixsE ei53 rfl rfl gc25 (eStep_eq _) rfl) rfl (zm tb 2 rfl (zl tb rfl rfl (zq tb rfl (dn hK24 rfl ?_)))))
   refine ci h2 rfl ?_ ?_ <;> clear h2
   ·intro b26 h2
    refine AW.skip (hK23 _ (AW.seq fun K27 hK27 => AW.block (AW.regionO rfl (zm tb 3 rfl (zz (.iptr [(i64 c25.op), (i64 c25.num), (i64 c25.into), (ls eI c25.args), (ls eBlock c25.kids)] 0) (aq_ixsE ei53 rfl rfl gc25 (eStep_eq _) rfl) rfl (zm tb 3 rfl (bs h2 fun c28 gc28 h2 => zx ei69 gc28 rfl rfl rfl (zm tb 2 rfl (AO.weaken (Wk.frz (L := [(2, (.ptr 0 0 0 0)), (6, (i64 i6)), (7, (i64 k19)), (63, (.agg [(ls eStep c28.steps), (i64 c28.result)])), (64, (ls eI l20))]) (st' := [(wC37 p0), ⟨1, 3, 1, []⟩]) (id := 1) rfl (show 0 ≤ 1 by decide) (pure_map fun _ => rfl) ⟨.rfl, .rfl, .rfl, .rfl, (.frz rfl), trivial⟩ rfl) (bs h2 fun q29 gq29 h2 => ?_))))))))))
    refine ao_call (v' := (ow 2 0 q29)) (st' := [(wC37 p0), ⟨1, 3, 1, []⟩, (ro 0 3 1 eI q29)]) go0 hb101 (hrec_spec_countsIn gq29) rfl rfl ⟨(pure_map' fun _ => rfl), trivial⟩ rfl rfl (zq tb rfl (dn hK27 rfl (AW.regionO rfl (zm tb 3 rfl ?_))))
    exact AO.done (xi (Sh.w (k19 + 1), q29) h2 (Wk.permk (L := [(2, (.ptr 0 0 0 0)), (5, (ow 1 0 q29)), (6, (i64 i6)), (7, (i64 (Sh.w (k19 + 1))))]) (st' := [(wC37 p0), (ro 0 3 1 eI q29)]) (st1 := [(wC37 p0), (ro 0 3 1 eI q29)]) [0, 2] rfl .nil (by decide) rfl rfl (.raw rfl rfl (.pure (pure_map fun _ => rfl) .nil)) ⟨.rfl, .rfl, .rfl, .rfl, trivial⟩))
   ·intro b26 h2
    exact AW.exit (M22 l20 (Sh.some_eq h2).symm _ (Wk.tr rfl))
  refine sr rfl fun K30 hK30 => zm tb 3 rfl (bs h2 fun c31 gc31 h2 => zz (.iptr [(i64 c31.op), (i64 c31.num), (i64 c31.into), (ls eI c31.args), (ls eBlock c31.kids)] 0) (aq_ixsE ei53 rfl rfl gc31 (eStep_eq _) rfl) rfl (zm tb 2 rfl (bs h2 fun q32 gq32 h2 => zc hb112 (spec_isCounting_ok gq32) rfl rfl rfl (dn hK30 rfl ?_))))
  refine ci h2 rfl ?_ ?_ <;> clear h2
  ·intro b33 h2
   refine AW.drawTailO 20 (by kernel_rfl) (by kernel_rfl) (by rfl) ?_
   iterate 4 refine yq tb rfl ?_
   refine yz (.iptr [(i64 c31.op), (i64 c31.num), (i64 c31.into), (ls eI c31.args), (ls eBlock c31.kids)] 0) (aq_ixsE ei53 rfl rfl gc31 (eStep_eq _) rfl) rfl ?_
   iterate 7 refine yq tb rfl ?_
   refine yz (.iptr [(i64 c31.op), (i64 c31.num), (i64 c31.into), (ls eI c31.args), (ls eBlock c31.kids)] 0) (aq_ixsE ei53 rfl rfl gc31 (eStep_eq _) rfl) rfl ?_
   iterate 3 refine yq tb rfl ?_
   refine bs h2 fun c34 gc34 h2 => yz (.ptr 1 0 (Int.toNat (Sh.w (c31.op - 14))) 0) (aq_ixo ei37 rfl rfl rfl rfl gc34) rfl (yz (i64 c34) (aq_ldp ti3 rfl rfl (map_get gc34) rfl) rfl (yq tb rfl (yz (.ptr 1 0 (Int.toNat (Sh.w (c31.op - 14))) 0) (aq_ixo ei37 rfl rfl rfl rfl gc34) rfl (d_done (ao_stl (st' := [(wC37 p0), (ro 0 3 1 eI (Sh.put l7 (Sh.w (c31.op - 14)) (Sh.w (c34 + 1))))]) (u' := Sh.w (c34 + 1)) go0 ti3 rfl rfl gc34 rfl rfl rfl (show 0 + 1 ≤ 1 by decide) rfl rfl ?_)))))
   exact AO.done (M17 (Sh.put l7 (Sh.w (c31.op - 14)) (Sh.w (c34 + 1))) (Sh.some_eq h2).symm _ (Wk.to (L := [(2, (.ptr 0 0 0 0)), (5, (.own 1 0 (List.length (Sh.put l7 (Sh.w (c31.op - 14)) (Sh.w (c34 + 1)))))), (6, (i64 i6))]) ⟨.rfl, (.len (by simp only [Sh.put_len])), .rfl, trivial⟩))
  ·intro b33 h2
   exact AW.skip (M17 l7 (Sh.some_eq h2).symm _ (Wk.tr rfl))
 ·intro b13 h1
  exact AW.exit (M9 l7 (Sh.some_eq h1).symm _ (Wk.permk (L := [(5, (ow 0 0 l7))]) (st' := [(ro 0 3 1 eI l7)]) (st1 := [(ro 0 3 1 eI l7)]) [1] rfl .nil (by decide) rfl rfl (.pure (pure_map fun _ => rfl) .nil) ⟨.rfl, trivial⟩))

theorem spec_countsIn_F_ok {N : Nat} : ∀ (n : Nat), ∀ {p0 : Block} {p1 : (List Int)} {r : (List Int)}, spec_countsIn_F N n p0 p1 = some r → ACalls Tryz.prog 101 [(.agg [(ls eStep p0.steps), (i64 p0.result)]), (ls eI p1)] [] (fun v st => v = (ow 0 0 r) ∧ st = [(ro 0 3 1 eI r)]) := by
 intro n
 induction n with
 | zero => intro p0 p1 r h0; cases h0
 | succ n ih =>
  intro p0 p1 r h0
  rw [spec_countsIn_F] at h0
  exact spec_countsIn_B_ok (fun h => ih h) h0
theorem spec_countsIn_ok {N : Nat} : ∀ {p0 : Block} {p1 : (List Int)} {r : (List Int)}, spec_countsIn N p0 p1 = some r → ACalls Tryz.prog 101 [(.agg [(ls eStep p0.steps), (i64 p0.result)]), (ls eI p1)] [] (fun v st => v = (ow 0 0 r) ∧ st = [(ro 0 3 1 eI r)]) := by
 intro p0 p1 r h0
 exact spec_countsIn_F_ok N h0
theorem spec_countsOf_ok {N : Nat} {p0 : RNormal} {r : (List Int)} (h0 : spec_countsOf N p0 = some r) : ACalls Tryz.prog 50 [(.agg [(ls eRDecl p0.decls), (ls eRRoutine p0.routines)])] [] (fun v st => v = (ow 0 0 r) ∧ st = [(ro 0 3 1 eI r)]) := by
 unfold spec_countsOf at h0
 refine ai Tryz.func50 rfl rfl rfl rfl (sr rfl fun K1 hK1 => ao_box (m := 0) (st' := [(wC1 p0)]) go0 rfl rfl rfl rfl rfl (zq tb rfl (dn hK1 rfl (sr rfl fun K2 hK2 => ?_))))
 refine ao_bs (m := 1) (st' := [(wC1 p0), (ro 0 3 1 eI [(0 : Int), 0, 0, 0])]) (l := [(0 : Int), 0, 0, 0]) (enc := eI) go0 ei37 (by decide) rfl rfl rfl rfl rfl rfl ?_
 refine zq tb rfl (dn hK2 rfl (AW.seq fun K3 hK3 => zr tb rfl rfl (bs h0 fun o8 h1 h0 => ?_)))
 have M8 : ∀ (l7 : (List Int)), o8 = l7 → ∀ s, Wk 0 s ⟨22, envL [(3, (ow 0 0 l7))], [(ro 0 3 1 eI l7)]⟩ → K3 s := by
  intro l7 hq s hw
  subst o8
  try dsimp only at h0
  refine hK3 _ (AW.weaken hw (zr tb rfl rfl ?_))
  replace h0 := Sh.some_eq h0
  subst r
  exact AW.ret (xr (Wk.to (L := [(2, (ow 0 0 l7))]) ⟨.rfl, trivial⟩))
 refine AW.block (AW.loopF (σ := Int × (List Int)) (fun n v => spec_countsOf_L1 N p0 n v.1 v.2 = some o8) (fun (i5, l6) => ⟨22, envL [(1, (.ptr 0 0 0 0)), (3, (ow 1 0 l6)), (4, (i64 i5))], [(wC1 p0), (ro 0 3 1 eI l6)]⟩) N (0, [(0 : Int), 0, 0, 0]) h1 (Wk.tr rfl) (fun _ hv => by rw [spec_countsOf_L1] at hv; cases hv) ?_)
 rintro n ⟨i5, l6⟩ h1
 try dsimp only at h1 ⊢
 rw [spec_countsOf_L1] at h1
 refine AW.seq fun K10 hK10 => sr rfl fun K11 hK11 => zm tb 3 rfl (zl tb rfl rfl (zq tb rfl (dn hK11 rfl ?_)))
 refine ci h1 rfl ?_ ?_ <;> clear h1
 ·intro b12 h1
  refine AW.skip (hK10 _ (AW.seq fun K13 hK13 => AW.block (AW.regionO rfl (zm tb 3 rfl (bs h1 fun c14 gc14 h1 => zx ei28 gc14 rfl rfl rfl (zm tb 3 rfl (AO.weaken (Wk.frz (L := [(1, (.ptr 0 0 0 0)), (4, (i64 i5)), (18, (.agg [(ls eStep c14.body.steps), (i64 c14.body.result)])), (19, (ls eI l6))]) (st' := [(wC1 p0), ⟨1, 3, 1, []⟩]) (id := 1) rfl (show 0 ≤ 1 by decide) (pure_map fun _ => rfl) ⟨.rfl, .rfl, .rfl, (.frz rfl), trivial⟩ rfl) (bs h1 fun q15 gq15 h1 => ao_call (v' := (ow 2 0 q15)) (st' := [(wC1 p0), ⟨1, 3, 1, []⟩, (ro 0 3 1 eI q15)]) go0 hb101 (spec_countsIn_ok gq15) rfl rfl ⟨(pure_map' fun _ => rfl), trivial⟩ rfl rfl (zq tb rfl ?_)))))))))
  refine dn hK13 rfl (AW.regionO rfl (zm tb 3 rfl ?_))
  exact AO.done (xi (Sh.w (i5 + 1), q15) h1 (Wk.permk (L := [(1, (.ptr 0 0 0 0)), (3, (ow 1 0 q15)), (4, (i64 (Sh.w (i5 + 1))))]) (st' := [(wC1 p0), (ro 0 3 1 eI q15)]) (st1 := [(wC1 p0), (ro 0 3 1 eI q15)]) [0, 2] rfl .nil (by decide) rfl rfl (.raw rfl rfl (.pure (pure_map fun _ => rfl) .nil)) ⟨.rfl, .rfl, .rfl, trivial⟩))
 ·intro b12 h1
  exact AW.exit (M8 l6 (Sh.some_eq h1).symm _ (Wk.permk (L := [(3, (ow 0 0 l6))]) (st' := [(ro 0 3 1 eI l6)]) (st1 := [(ro 0 3 1 eI l6)]) [1] rfl .nil (by decide) rfl rfl (.pure (pure_map fun _ => rfl) .nil) ⟨.rfl, trivial⟩))
theorem spec_CountsOf_ok {N : Nat} {p0 : RNormal} {r : (List Int)} (h0 : spec_CountsOf N p0 = some r) : ACalls Tryz.prog 17 [(.agg [(ls eRDecl p0.decls), (ls eRRoutine p0.routines)])] [] (fun v st => v = (ow 0 0 r) ∧ st = [(ro 0 3 1 eI r)]) := by
 unfold spec_CountsOf at h0
 refine ai Tryz.func17 rfl rfl rfl rfl (sr rfl fun K1 hK1 => ao_box (m := 0) (st' := [(wC1 p0)]) go0 rfl rfl rfl rfl rfl (zq tb rfl (dn hK1 rfl (AW.seq fun K2 hK2 => sr rfl fun K3 hK3 => zq tb rfl (bs h0 fun q4 gq4 h0 => zc hb49 (spec_validNormal_ok gq4) rfl rfl rfl (zq tb rfl (dn hK3 rfl ?_)))))))
 refine ci h0 rfl ?_ ?_ <;> clear h0
 ·intro b5 h0
  have b6 : q4 = false := by simpa using b5
  refine zr tb rfl rfl ?_
  replace h0 := Sh.some_eq h0
  subst r
  exact AW.ret (Exists.intro _ (And.intro ((((Wk.adopt (t := 2) rfl 3 (size := 1) (by decide)).trans (Wk.to (L := [(2, (.own 1 0 (List.length ([] : List Int))))]) ⟨.rfl, trivial⟩)).trans (Wk.permk (L := [(2, (.own 0 0 (List.length ([] : List Int))))]) (st' := [(ro 0 3 1 eI ([] : List Int))]) (st1 := [(ro 0 3 1 eI ([] : List Int))]) [1] rfl .nil (by decide) rfl rfl (.pure (pure_map fun _ => rfl) .nil) ⟨.rfl, trivial⟩)).trans (Wk.to (L := [(2, (.own 0 0 (List.length ([] : List Int))))]) ⟨.rfl, trivial⟩)) (And.intro rfl rfl)))
 ·intro b5 h0
  have b8 : q4 = true := by simpa using b5
  refine AW.skip (hK2 _ (sr rfl fun K9 hK9 => zq tb rfl (bs h0 fun q10 gq10 h0 => ao_call (v' := (ow 1 0 q10)) (st' := [(wC1 p0), (ro 0 3 1 eI q10)]) go0 hb50 (spec_countsOf_ok gq10) rfl rfl ⟨(pure_map' fun _ => rfl), trivial⟩ rfl rfl (zq tb rfl (dn hK9 rfl ?_)))))
  replace h0 := Sh.some_eq h0
  subst r
  exact AW.ret (xr (Wk.permk (L := [(2, (ow 0 0 q10))]) (st' := [(ro 0 3 1 eI q10)]) (st1 := [(ro 0 3 1 eI q10)]) [1] rfl .nil (by decide) rfl rfl (.pure (pure_map fun _ => rfl) .nil) ⟨.rfl, trivial⟩))
theorem laws_toCon_2_ok {N : Nat} {p0 : RCon} {r : RCon} (h0 : laws_toCon N p0 = some r) : ACalls Tryz.prog 177 [(.agg (eRCon p0))] [] (fun v st => v = (.agg [(ow 0 0 r.fields)]) ∧ st = [(ro 0 3 1 eI r.fields)]) := by
 unfold laws_toCon at h0
 refine ACalls.wk (r0 := (.agg [(ow 0 0 r.fields)])) (st0 := [(ro 0 3 1 eI r.fields), ⟨0, 134, 1, [[(ow 0 0 r.fields)]]⟩]) ?_ (Wk.sel (L := [(0, (.agg [(ow 0 0 r.fields)]))]) (st' := [(ro 0 3 1 eI r.fields)]) [0] rfl (by decide) rfl rfl (.pure (pure_map fun _ => rfl) trivial) ⟨.rfl, trivial⟩)
 refine ai Tryz.func177 rfl rfl rfl rfl (sr rfl fun K1 hK1 => ao_box (m := 0) (st' := [⟨0, 178, 1, [(eRCon p0)]⟩]) go0 rfl rfl rfl rfl rfl (ao_alloc (m := 1) (st' := [⟨0, 178, 1, [(eRCon p0)]⟩, ⟨0, 134, 1, [[.zc]]⟩]) go0 zi134 rfl rfl (dn hK1 rfl (sr rfl fun K2 hK2 => ao_alloc (m := 2) (st' := [⟨0, 178, 1, [(eRCon p0)]⟩, ⟨0, 134, 1, [[.zc]]⟩, ⟨0, 134, 1, [[.zc]]⟩]) go0 zi134 rfl rfl (dn hK2 rfl (sr rfl fun K3 hK3 => zm tb 2 rfl (bs h0 fun q4 gq4 h0 => ao_call (v' := (ow 3 0 q4)) (st' := [⟨0, 178, 1, [(eRCon p0)]⟩, ⟨0, 134, 1, [[.zc]]⟩, ⟨0, 134, 1, [[.zc]]⟩, (ro 0 3 1 eI q4)]) go0 hb121 (laws_toIntS_ok gq4) rfl rfl ⟨(pure_map' fun _ => rfl), trivial⟩ rfl rfl ?_)))))))
 refine zq tb rfl (ao_str (st' := [⟨0, 178, 1, [(eRCon p0)]⟩, ⟨0, 134, 1, [[.zc]]⟩, ⟨0, 134, 1, [[(ow 3 0 q4)]]⟩, (ro 0 3 1 eI q4)]) go0 ti37 rfl rfl rfl rfl rfl rfl (show 0 + 1 ≤ 1 by decide) rfl (dn hK3 rfl (sr rfl fun K5 hK5 => zq tb rfl (ao_str (st' := [⟨0, 178, 1, [(eRCon p0)]⟩, ⟨0, 134, 1, [[(ow 3 0 q4)]]⟩, ⟨0, 134, 1, [[(ow 3 0 q4)]]⟩, (ro 0 3 1 eI q4)]) go0 ti134 rfl rfl rfl rfl rfl rfl (show 0 + 1 ≤ 1 by decide) rfl (dn hK5 rfl ?_)))))
 replace h0 := Sh.some_eq h0
 subst r
 exact AW.ret (Exists.intro _ (And.intro ((Wk.permk (L := [(2, (.ptr 1 0 0 0))]) (st' := [(ro 0 3 1 eI q4), ⟨0, 134, 1, [[(ow 0 0 q4)]]⟩]) (st1 := [(ro 0 3 1 eI q4), ⟨0, 134, 1, [[(ow 3 0 q4)]]⟩]) [3, 1] rfl .nil (by decide) rfl rfl (.pure (pure_map fun _ => rfl) (.raw rfl rfl .nil)) ⟨.rfl, trivial⟩).trans (Wk.to (L := [(2, (.ptr 1 0 0 0))]) ⟨.rfl, trivial⟩)) (aq_ldpa (x := .tmp 2) (off := 0) (cs := [(ow 0 0 q4)]) (vs := [(ow 0 0 q4)]) ti134 rfl rfl rfl (show 0 + 1 ≤ 1 by decide) rfl _ ⟨rfl, rfl⟩)))
theorem laws_toConS_2_ok {N : Nat} {p0 : (List RCon)} {r : (List RCon)} (h0 : laws_toConS N p0 = some r) : ACalls Tryz.prog 120 [(ls eRCon p0)] [] (fun v st => v = (ow 0 0 r) ∧ st = [(ro 0 134 1 (eRConD 3) r)]) := by
 unfold laws_toConS at h0
 refine ai Tryz.func120 rfl rfl rfl rfl (zr tb rfl rfl (sr rfl fun K2 hK2 => zq tb rfl (zl tb rfl rfl (bs h0 fun l3 gl3 h0 => ao_maked (m := 0) (st' := [(ro 0 134 1 (eRConD 3) l3)]) (enc := (eRConD 3)) (u := (RCon.mk [])) ei96 rfl rfl ⟨.inr ⟨rfl, _, _, rfl, by decide⟩, trivial⟩ gl3 rfl rfl (zq tb rfl (dn hK2 rfl (AW.seq fun K4 hK4 => zr tb rfl rfl (bs h0 fun o9 h1 h0 => ?_))))))))
 have M9 : ∀ (l8 : (List RCon)), o9 = l8 → ∀ s, Wk 0 s ⟨23, envL [(3, (ow 0 0 l8))], [(ro 0 134 1 (eRConD 3) l8)]⟩ → K4 s := by
  intro l8 hq s hw
  subst o9
  try dsimp only at h0
  refine hK4 _ (AW.weaken hw (zr tb rfl rfl ?_))
  replace h0 := Sh.some_eq h0
  subst r
  exact AW.ret (xr (Wk.to (L := [(2, (ow 0 0 l8))]) ⟨.rfl, trivial⟩))
 refine AW.block (AW.loopF (σ := Int × (List RCon)) (fun n v => laws_toConS_L1 N p0 n v.1 v.2 = some o9) (fun (i6, l7) => ⟨23, envL [(0, (ls eRCon p0)), (3, (ow 0 0 l7)), (4, (i64 i6))], [(ro 0 134 1 (eRConD 3) l7)]⟩) N (0, l3) h1 (Wk.tr rfl) (fun _ hv => by rw [laws_toConS_L1] at hv; cases hv) ?_)
 rintro n ⟨i6, l7⟩ h1
 try dsimp only at h1 ⊢
 rw [laws_toConS_L1] at h1
 refine AW.seq fun K11 hK11 => sr rfl fun K12 hK12 => zm tb 2 rfl (zl tb rfl rfl (zq tb rfl (dn hK12 rfl ?_)))
 refine ci h1 rfl ?_ ?_ <;> clear h1
 ·intro b13 h1
  refine AW.skip (hK11 _ (AW.seq fun K14 hK14 => AW.block (AW.regionO rfl (zm tb 4 rfl (bs h1 fun c15 gc15 h1 => zx ei81 gc15 rfl rfl rfl (zq tb rfl (bs h1 fun q16 gq16 h1 => ao_call (v' := (.agg [(ow 1 0 q16.fields)])) (st' := [(ro 0 134 1 (eRConD 3) l7), (ro 0 3 1 eI q16.fields)]) go0 hb177 (laws_toCon_2_ok gq16) rfl rfl ⟨(pure_map' fun _ => rfl), trivial⟩ rfl rfl (bs h1 fun c17 gc17 h1 => zz (.ptr 0 0 (Int.toNat i6) 0) (aq_ixo ei96 rfl rfl rfl rfl gc17) rfl ?_))))))))
  refine ao_sth (st' := [⟨0, 134, 1, hole l7 (eRConD 3) i6 [(ow 1 0 q16.fields)]⟩, (ro 0 3 1 eI q16.fields)]) go0 ti134 rfl rfl gc17 rfl rfl rfl (show 1 ≤ 1 by decide) rfl rfl ?_
  refine AO.weaken (Wk.take (id := 0) (m := 1) (j := 0) (i := i6) (c := c17) (ys := q16.fields) (encY := eI) (x' := [(.dv 3 1 (List.map eI q16.fields))]) (st' := [⟨0, 134, 1, hole l7 (eRConD 3) i6 [(.dv 3 1 (List.map eI q16.fields))]⟩, ⟨1, 3, 1, []⟩]) rfl gc17 rfl rfl rfl (by decide) (show 0 ≤ 1 by decide) (fun _ => rfl) rfl rfl) ?_
  refine AO.weaken (Wk.filled (id := 0) (i := i6) (u := q16) (st' := [(ro 0 134 1 (eRConD 3) (Sh.put l7 i6 q16)), ⟨1, 3, 1, []⟩]) rfl rfl rfl) (dn hK14 rfl (AW.regionO rfl (zm tb 3 rfl ?_)))
  exact AO.done (xi (Sh.w (i6 + 1), Sh.put l7 i6 q16) h1 (by refine Wk.trans (Wk.permk (L := [(0, (.sl (List.map eRCon p0))), (3, (.own 0 0 (List.length l7))), (4, (i64 (Sh.w (i6 + 1))))]) (st' := [⟨0, 134, 1, List.map (eRConD 3) (Sh.put l7 i6 q16)⟩]) (st1 := [⟨0, 134, 1, List.map (eRConD 3) (Sh.put l7 i6 q16)⟩]) [0] rfl .nil (by decide) rfl rfl (.deep (pure_mapD fun _ => rfl) .nil) ⟨.rfl, .rfl, .rfl, trivial⟩) ?_; exact Wk.to (L := [(0, (.sl (List.map eRCon p0))), (3, (.own 0 0 (List.length (Sh.put l7 i6 q16)))), (4, (i64 (Sh.w (i6 + 1))))]) ⟨.rfl, (.len (by simp only [Sh.put_len])), .rfl, trivial⟩))
 ·intro b13 h1
  exact AW.exit (M9 l7 (Sh.some_eq h1).symm _ (Wk.tr rfl))
theorem laws_toDecl_2_ok {N : Nat} {p0 : RDecl} {r : RDecl} (h0 : laws_toDecl N p0 = some r) : ACalls Tryz.prog 72 [(.agg (eRDecl p0))] [] (fun v st => v = (.agg [(i64 r.from_), (i64 r.to), (ow 0 0 r.cons)]) ∧ st = [(ro 0 134 1 (eRConD 3) r.cons)]) := by
 unfold laws_toDecl at h0
 refine ACalls.wk (r0 := (.agg [(i64 r.from_), (i64 r.to), (ow 0 0 r.cons)])) (st0 := [(ro 0 134 1 (eRConD 3) r.cons), ⟨0, 98, 3, [[(i64 r.from_), (i64 r.to), (ow 0 0 r.cons)]]⟩]) ?_ (Wk.sel (L := [(0, (.agg [(i64 r.from_), (i64 r.to), (ow 0 0 r.cons)]))]) (st' := [(ro 0 134 1 (eRConD 3) r.cons)]) [0] rfl (by decide) rfl rfl (.deep (pure_mapD fun _ => rfl) trivial) ⟨.rfl, trivial⟩)
 refine ai Tryz.func72 rfl rfl rfl rfl (sr rfl fun K1 hK1 => ao_box (m := 0) (st' := [⟨0, 83, 3, [(eRDecl p0)]⟩]) go0 rfl rfl rfl rfl rfl (ao_alloc (m := 1) (st' := [⟨0, 83, 3, [(eRDecl p0)]⟩, wC2]) go0 zi98 rfl rfl (dn hK1 rfl (sr rfl fun K2 hK2 => ao_alloc (m := 2) (st' := [⟨0, 83, 3, [(eRDecl p0)]⟩, wC2, wC2]) go0 zi98 rfl rfl (dn hK2 rfl (sr rfl fun K3 hK3 => zm tb 3 rfl (ao_str (st' := [⟨0, 83, 3, [(eRDecl p0)]⟩, wC2, ⟨0, 98, 3, [[(i64 p0.from_), (i64 0), .zc]]⟩]) go0 ti3 rfl rfl rfl rfl rfl rfl (show 0 + 1 ≤ 3 by decide) rfl (dn hK3 rfl ?_))))))))
 refine sr rfl fun K4 hK4 => zm tb 3 rfl (ao_str (st' := [⟨0, 83, 3, [(eRDecl p0)]⟩, wC2, ⟨0, 98, 3, [[(i64 p0.from_), (i64 p0.to), .zc]]⟩]) go0 ti3 rfl rfl rfl rfl rfl rfl (show 1 + 1 ≤ 3 by decide) rfl (dn hK4 rfl (sr rfl fun K5 hK5 => zm tb 2 rfl (bs h0 fun q6 gq6 h0 => ao_call (v' := (ow 3 0 q6)) (st' := [⟨0, 83, 3, [(eRDecl p0)]⟩, wC2, ⟨0, 98, 3, [[(i64 p0.from_), (i64 p0.to), .zc]]⟩, (ro 0 134 1 (eRConD 3) q6)]) go0 hb120 (laws_toConS_2_ok gq6) rfl rfl ⟨(pure_mapD fun _ => rfl), trivial⟩ rfl rfl (zq tb rfl (ao_str (st' := [⟨0, 83, 3, [(eRDecl p0)]⟩, wC2, ⟨0, 98, 3, [[(i64 p0.from_), (i64 p0.to), (ow 3 0 q6)]]⟩, (ro 0 134 1 (eRConD 3) q6)]) go0 ti96 rfl rfl rfl rfl rfl rfl (show 2 + 1 ≤ 3 by decide) rfl (dn hK5 rfl (sr rfl fun K7 hK7 => ?_))))))))
 refine zq tb rfl (ao_str (st' := [⟨0, 83, 3, [(eRDecl p0)]⟩, ⟨0, 98, 3, [[(i64 p0.from_), (i64 p0.to), (ow 3 0 q6)]]⟩, ⟨0, 98, 3, [[(i64 p0.from_), (i64 p0.to), (ow 3 0 q6)]]⟩, (ro 0 134 1 (eRConD 3) q6)]) go0 ti98 rfl rfl rfl rfl rfl rfl (show 0 + 3 ≤ 3 by decide) rfl (dn hK7 rfl ?_))
 replace h0 := Sh.some_eq h0
 subst r
 exact AW.ret (Exists.intro _ (And.intro ((Wk.permk (L := [(2, (.ptr 1 0 0 0))]) (st' := [(ro 0 134 1 (eRConD 3) q6), ⟨0, 98, 3, [[(i64 p0.from_), (i64 p0.to), (ow 0 0 q6)]]⟩]) (st1 := [(ro 0 134 1 (eRConD 3) q6), ⟨0, 98, 3, [[(i64 p0.from_), (i64 p0.to), (ow 3 0 q6)]]⟩]) [3, 1] rfl .nil (by decide) rfl rfl (.deep (pure_mapD fun _ => rfl) (.raw rfl rfl .nil)) ⟨.rfl, trivial⟩).trans (Wk.to (L := [(2, (.ptr 1 0 0 0))]) ⟨.rfl, trivial⟩)) (aq_ldpa (x := .tmp 2) (off := 0) (cs := [(i64 p0.from_), (i64 p0.to), (ow 0 0 q6)]) (vs := [(i64 p0.from_), (i64 p0.to), (ow 0 0 q6)]) ti98 rfl rfl rfl (show 0 + 3 ≤ 3 by decide) rfl _ ⟨rfl, rfl⟩)))
theorem laws_toDeclS_2_ok {N : Nat} {p0 : (List RDecl)} {r : (List RDecl)} (h0 : laws_toDeclS N p0 = some r) : ACalls Tryz.prog 31 [(ls eRDecl p0)] [] (fun v st => v = (ow 0 0 r) ∧ st = [(ro 0 98 3 (eRDeclD 134 3) r)]) := by
 unfold laws_toDeclS at h0
 refine ai Tryz.func31 rfl rfl rfl rfl (zr tb rfl rfl (sr rfl fun K2 hK2 => zq tb rfl (zl tb rfl rfl (bs h0 fun l3 gl3 h0 => ao_maked (m := 0) (st' := [(ro 0 98 3 (eRDeclD 134 3) l3)]) (enc := (eRDeclD 134 3)) (u := (RDecl.mk 0 0 [])) ei27 rfl rfl ⟨.inl ⟨rfl, rfl⟩, ⟨.inl ⟨rfl, rfl⟩, ⟨.inr ⟨rfl, _, _, rfl, by decide⟩, trivial⟩⟩⟩ gl3 rfl rfl (zq tb rfl (dn hK2 rfl (AW.seq fun K4 hK4 => zr tb rfl rfl (bs h0 fun o9 h1 h0 => ?_))))))))
 have M9 : ∀ (l8 : (List RDecl)), o9 = l8 → ∀ s, Wk 0 s ⟨23, envL [(3, (ow 0 0 l8))], [(ro 0 98 3 (eRDeclD 134 3) l8)]⟩ → K4 s := by
  intro l8 hq s hw
  subst o9
  try dsimp only at h0
  refine hK4 _ (AW.weaken hw (zr tb rfl rfl ?_))
  replace h0 := Sh.some_eq h0
  subst r
  exact AW.ret (xr (Wk.to (L := [(2, (ow 0 0 l8))]) ⟨.rfl, trivial⟩))
 refine AW.block (AW.loopF (σ := Int × (List RDecl)) (fun n v => laws_toDeclS_L1 N p0 n v.1 v.2 = some o9) (fun (i6, l7) => ⟨23, envL [(0, (ls eRDecl p0)), (3, (ow 0 0 l7)), (4, (i64 i6))], [(ro 0 98 3 (eRDeclD 134 3) l7)]⟩) N (0, l3) h1 (Wk.tr rfl) (fun _ hv => by rw [laws_toDeclS_L1] at hv; cases hv) ?_)
 rintro n ⟨i6, l7⟩ h1
 try dsimp only at h1 ⊢
 rw [laws_toDeclS_L1] at h1
 refine AW.seq fun K11 hK11 => sr rfl fun K12 hK12 => zm tb 2 rfl (zl tb rfl rfl (zq tb rfl (dn hK12 rfl ?_)))
 refine ci h1 rfl ?_ ?_ <;> clear h1
 ·intro b13 h1
  refine AW.skip (hK11 _ (AW.seq fun K14 hK14 => AW.block (AW.regionO rfl (zm tb 4 rfl (bs h1 fun c15 gc15 h1 => zx ei22 gc15 rfl rfl rfl (zq tb rfl (bs h1 fun q16 gq16 h1 => ao_call (v' := (.agg [(i64 q16.from_), (i64 q16.to), (ow 1 0 q16.cons)])) (st' := [(ro 0 98 3 (eRDeclD 134 3) l7), (ro 0 134 1 (eRConD 3) q16.cons)]) go0 hb72 (laws_toDecl_2_ok gq16) rfl rfl ⟨(pure_mapD fun _ => rfl), trivial⟩ rfl rfl (bs h1 fun c17 gc17 h1 => zz (.ptr 0 0 (Int.toNat i6) 0) (aq_ixo ei27 rfl rfl rfl rfl gc17) rfl ?_))))))))
  refine ao_sth (st' := [⟨0, 98, 3, hole l7 (eRDeclD 134 3) i6 [(i64 q16.from_), (i64 q16.to), (ow 1 0 q16.cons)]⟩, (ro 0 134 1 (eRConD 3) q16.cons)]) go0 ti98 rfl rfl gc17 rfl rfl rfl (show 3 ≤ 3 by decide) rfl rfl ?_
  refine AO.weaken (Wk.take (id := 0) (m := 1) (j := 2) (i := i6) (c := c17) (ys := q16.cons) (encY := (eRConD 3)) (x' := [(i64 q16.from_), (i64 q16.to), (.dv 134 1 (List.map (eRConD 3) q16.cons))]) (st' := [⟨0, 98, 3, hole l7 (eRDeclD 134 3) i6 [(i64 q16.from_), (i64 q16.to), (.dv 134 1 (List.map (eRConD 3) q16.cons))]⟩, ⟨1, 134, 1, []⟩]) rfl gc17 rfl rfl rfl (by decide) (show 0 ≤ 1 by decide) (fun _ => rfl) rfl rfl) ?_
  refine AO.weaken (Wk.filled (id := 0) (i := i6) (u := q16) (st' := [(ro 0 98 3 (eRDeclD 134 3) (Sh.put l7 i6 q16)), ⟨1, 134, 1, []⟩]) rfl rfl rfl) (dn hK14 rfl (AW.regionO rfl (zm tb 3 rfl ?_)))
  exact AO.done (xi (Sh.w (i6 + 1), Sh.put l7 i6 q16) h1 (by refine Wk.trans (Wk.permk (L := [(0, (.sl (List.map eRDecl p0))), (3, (.own 0 0 (List.length l7))), (4, (i64 (Sh.w (i6 + 1))))]) (st' := [⟨0, 98, 3, List.map (eRDeclD 134 3) (Sh.put l7 i6 q16)⟩]) (st1 := [⟨0, 98, 3, List.map (eRDeclD 134 3) (Sh.put l7 i6 q16)⟩]) [0] rfl .nil (by decide) rfl rfl (.deep (pure_mapD fun _ => rfl) .nil) ⟨.rfl, .rfl, .rfl, trivial⟩) ?_; exact Wk.to (L := [(0, (.sl (List.map eRDecl p0))), (3, (.own 0 0 (List.length (Sh.put l7 i6 q16)))), (4, (i64 (Sh.w (i6 + 1))))]) ⟨.rfl, (.len (by simp only [Sh.put_len])), .rfl, trivial⟩))
 ·intro b13 h1
  exact AW.exit (M9 l7 (Sh.some_eq h1).symm _ (Wk.tr rfl))
theorem laws_toBlockS_2_ok {N : Nat} {rec_laws_toBlock_2 : Block → Option (Block)} (hrec_laws_toBlock_2 : ∀ {p0 : Block} {r : Block}, rec_laws_toBlock_2 p0 = some r → ACalls Tryz.prog 122 [(.agg [(ls eStep p0.steps), (i64 p0.result)])] [] (fun v st => v = (.agg [(ow 0 0 r.steps), (i64 r.result)]) ∧ st = [(ro 0 71 5 (eStepD 3 55 71) r.steps)])) {p0 : (List Block)} {r : (List Block)} (h0 : laws_toBlockS_2 N rec_laws_toBlock_2 p0 = some r) : ACalls Tryz.prog 230 [(ls eBlock p0)] [] (fun v st => v = (ow 0 0 r) ∧ st = [(ro 0 55 2 (eBlockD 3 55 71) r)]) := by
 unfold laws_toBlockS_2 at h0
 refine ai Tryz.func230 rfl rfl rfl rfl (zr tb rfl rfl (sr rfl fun K2 hK2 => zq tb rfl (zl tb rfl rfl (bs h0 fun l3 gl3 h0 => ao_maked (m := 0) (st' := [(ro 0 55 2 (eBlockD 3 55 71) l3)]) (enc := (eBlockD 3 55 71)) (u := (Block.mk [] 0)) ei69 rfl rfl ⟨.inr ⟨rfl, _, _, rfl, by decide⟩, ⟨.inl ⟨rfl, rfl⟩, trivial⟩⟩ gl3 rfl rfl (zq tb rfl (dn hK2 rfl (AW.seq fun K4 hK4 => zr tb rfl rfl (bs h0 fun o9 h1 h0 => ?_))))))))
 have M9 : ∀ (l8 : (List Block)), o9 = l8 → ∀ s, Wk 0 s ⟨23, envL [(3, (ow 0 0 l8))], [(ro 0 55 2 (eBlockD 3 55 71) l8)]⟩ → K4 s := by
  intro l8 hq s hw
  subst o9
  try dsimp only at h0
  refine hK4 _ (AW.weaken hw (zr tb rfl rfl ?_))
  replace h0 := Sh.some_eq h0
  subst r
  exact AW.ret (xr (Wk.to (L := [(2, (ow 0 0 l8))]) ⟨.rfl, trivial⟩))
 refine AW.block (AW.loopF (σ := Int × (List Block)) (fun n v => laws_toBlockS_2_L1 p0 rec_laws_toBlock_2 n v.1 v.2 = some o9) (fun (i6, l7) => ⟨23, envL [(0, (ls eBlock p0)), (3, (ow 0 0 l7)), (4, (i64 i6))], [(ro 0 55 2 (eBlockD 3 55 71) l7)]⟩) N (0, l3) h1 (Wk.tr rfl) (fun _ hv => by rw [laws_toBlockS_2_L1] at hv; cases hv) ?_)
 rintro n ⟨i6, l7⟩ h1
 try dsimp only at h1 ⊢
 rw [laws_toBlockS_2_L1] at h1
 refine AW.seq fun K11 hK11 => sr rfl fun K12 hK12 => zm tb 2 rfl (zl tb rfl rfl (zq tb rfl (dn hK12 rfl ?_)))
 refine ci h1 rfl ?_ ?_ <;> clear h1
 ·intro b13 h1
  refine AW.skip (hK11 _ (AW.seq fun K14 hK14 => AW.block (AW.regionO rfl (zm tb 4 rfl (bs h1 fun c15 gc15 h1 => zx ei209 gc15 rfl rfl rfl (zq tb rfl (bs h1 fun q16 gq16 h1 => ao_call (v' := (.agg [(ow 1 0 q16.steps), (i64 q16.result)])) (st' := [(ro 0 55 2 (eBlockD 3 55 71) l7), (ro 0 71 5 (eStepD 3 55 71) q16.steps)]) go0 hb122 (hrec_laws_toBlock_2 gq16) rfl rfl ⟨(pure_mapD eStepD_pure), trivial⟩ rfl rfl (bs h1 fun c17 gc17 h1 => zz (.ptr 0 0 (Int.toNat i6) 0) (aq_ixo ei69 rfl rfl rfl rfl gc17) rfl ?_))))))))
  refine ao_sth (st' := [⟨0, 55, 2, hole l7 (eBlockD 3 55 71) i6 [(ow 1 0 q16.steps), (i64 q16.result)]⟩, (ro 0 71 5 (eStepD 3 55 71) q16.steps)]) go0 ti55 rfl rfl gc17 rfl rfl rfl (show 2 ≤ 2 by decide) rfl rfl ?_
  refine AO.weaken (Wk.take (id := 0) (m := 1) (j := 0) (i := i6) (c := c17) (ys := q16.steps) (encY := (eStepD 3 55 71)) (x' := [(.dv 71 5 (List.map (eStepD 3 55 71) q16.steps)), (i64 q16.result)]) (st' := [⟨0, 55, 2, hole l7 (eBlockD 3 55 71) i6 [(.dv 71 5 (List.map (eStepD 3 55 71) q16.steps)), (i64 q16.result)]⟩, ⟨1, 71, 5, []⟩]) rfl gc17 rfl rfl rfl (by decide) (show 0 ≤ 1 by decide) eStepD_deep rfl rfl) ?_
  refine AO.weaken (Wk.filled (id := 0) (i := i6) (u := q16) (st' := [(ro 0 55 2 (eBlockD 3 55 71) (Sh.put l7 i6 q16)), ⟨1, 71, 5, []⟩]) rfl rfl rfl) (dn hK14 rfl (AW.regionO rfl (zm tb 3 rfl ?_)))
  exact AO.done (xi (Sh.w (i6 + 1), Sh.put l7 i6 q16) h1 (by refine Wk.trans (Wk.permk (L := [(0, (.sl (List.map eBlock p0))), (3, (.own 0 0 (List.length l7))), (4, (i64 (Sh.w (i6 + 1))))]) (st' := [⟨0, 55, 2, List.map (eBlockD 3 55 71) (Sh.put l7 i6 q16)⟩]) (st1 := [⟨0, 55, 2, List.map (eBlockD 3 55 71) (Sh.put l7 i6 q16)⟩]) [0] rfl .nil (by decide) rfl rfl (.deep (pure_mapD fun _ => rfl) .nil) ⟨.rfl, .rfl, .rfl, trivial⟩) ?_; exact Wk.to (L := [(0, (.sl (List.map eBlock p0))), (3, (.own 0 0 (List.length (Sh.put l7 i6 q16)))), (4, (i64 (Sh.w (i6 + 1))))]) ⟨.rfl, (.len (by simp only [Sh.put_len])), .rfl, trivial⟩))
 ·intro b13 h1
  exact AW.exit (M9 l7 (Sh.some_eq h1).symm _ (Wk.tr rfl))
noncomputable abbrev wC38 (p0 : Step) : Go.Abs.Row := ⟨0, 211, 5, [[(i64 p0.op), (i64 p0.num), (i64 p0.into), (ls eI p0.args), (ls eBlock p0.kids)]]⟩
noncomputable abbrev wC39 : Go.Abs.Row := ⟨0, 71, 5, [[(i64 0), (i64 0), (i64 0), .zc, .zc]]⟩
theorem laws_toStep_2_ok {N : Nat} {rec_laws_toBlock_2 : Block → Option (Block)} (hrec_laws_toBlock_2 : ∀ {p0 : Block} {r : Block}, rec_laws_toBlock_2 p0 = some r → ACalls Tryz.prog 122 [(.agg [(ls eStep p0.steps), (i64 p0.result)])] [] (fun v st => v = (.agg [(ow 0 0 r.steps), (i64 r.result)]) ∧ st = [(ro 0 71 5 (eStepD 3 55 71) r.steps)])) {p0 : Step} {r : Step} (h0 : laws_toStep_2 N rec_laws_toBlock_2 p0 = some r) : ACalls Tryz.prog 209 [(.agg [(i64 p0.op), (i64 p0.num), (i64 p0.into), (ls eI p0.args), (ls eBlock p0.kids)])] [] (fun v st => v = (.agg [(i64 r.op), (i64 r.num), (i64 r.into), (ow 0 0 r.args), (ow 1 0 r.kids)]) ∧ st = [(ro 0 3 1 eI r.args), (ro 0 55 2 (eBlockD 3 55 71) r.kids)]) := by
 unfold laws_toStep_2 at h0
 refine ACalls.wk (r0 := (.agg [(i64 r.op), (i64 r.num), (i64 r.into), (ow 0 0 r.args), (ow 1 0 r.kids)])) (st0 := [(ro 0 3 1 eI r.args), (ro 0 55 2 (eBlockD 3 55 71) r.kids), ⟨0, 71, 5, [[(i64 r.op), (i64 r.num), (i64 r.into), (ow 0 0 r.args), (ow 1 0 r.kids)]]⟩]) ?_ (Wk.sel (L := [(0, (.agg [(i64 r.op), (i64 r.num), (i64 r.into), (ow 0 0 r.args), (ow 1 0 r.kids)]))]) (st' := [(ro 0 3 1 eI r.args), (ro 0 55 2 (eBlockD 3 55 71) r.kids)]) [0, 1] rfl (by decide) rfl rfl (.pure (pure_map fun _ => rfl) (.deep (pure_mapD fun _ => rfl) trivial)) ⟨.rfl, trivial⟩)
 refine ai Tryz.func209 rfl rfl rfl rfl (sr rfl fun K1 hK1 => ao_box (m := 0) (st' := [(wC38 p0)]) go0 rfl rfl rfl rfl rfl (ao_alloc (m := 1) (st' := [(wC38 p0), wC39]) go0 zi71 rfl rfl (dn hK1 rfl (sr rfl fun K2 hK2 => ao_alloc (m := 2) (st' := [(wC38 p0), wC39, wC39]) go0 zi71 rfl rfl (dn hK2 rfl (sr rfl fun K3 hK3 => zm tb 3 rfl (ao_str (st' := [(wC38 p0), wC39, ⟨0, 71, 5, [[(i64 p0.op), (i64 0), (i64 0), .zc, .zc]]⟩]) go0 ti3 rfl rfl rfl rfl rfl rfl (show 0 + 1 ≤ 5 by decide) rfl (dn hK3 rfl ?_))))))))
 refine sr rfl fun K4 hK4 => zm tb 3 rfl (ao_str (st' := [(wC38 p0), wC39, ⟨0, 71, 5, [[(i64 p0.op), (i64 p0.num), (i64 0), .zc, .zc]]⟩]) go0 ti3 rfl rfl rfl rfl rfl rfl (show 1 + 1 ≤ 5 by decide) rfl (dn hK4 rfl (sr rfl fun K5 hK5 => zm tb 3 rfl (ao_str (st' := [(wC38 p0), wC39, ⟨0, 71, 5, [[(i64 p0.op), (i64 p0.num), (i64 p0.into), .zc, .zc]]⟩]) go0 ti3 rfl rfl rfl rfl rfl rfl (show 2 + 1 ≤ 5 by decide) rfl (dn hK5 rfl (sr rfl fun K6 hK6 => zm tb 2 rfl (bs h0 fun q7 gq7 h0 => ao_call (v' := (ow 3 0 q7)) (st' := [(wC38 p0), wC39, ⟨0, 71, 5, [[(i64 p0.op), (i64 p0.num), (i64 p0.into), .zc, .zc]]⟩, (ro 0 3 1 eI q7)]) go0 hb121 (laws_toIntS_ok gq7) rfl rfl ⟨(pure_map' fun _ => rfl), trivial⟩ rfl rfl ?_)))))))
 refine zq tb rfl (ao_str (st' := [(wC38 p0), wC39, ⟨0, 71, 5, [[(i64 p0.op), (i64 p0.num), (i64 p0.into), (ow 3 0 q7), .zc]]⟩, (ro 0 3 1 eI q7)]) go0 ti37 rfl rfl rfl rfl rfl rfl (show 3 + 1 ≤ 5 by decide) rfl (dn hK6 rfl (sr rfl fun K8 hK8 => zm tb 2 rfl (bs h0 fun q9 gq9 h0 => ao_call (v' := (ow 4 0 q9)) (st' := [(wC38 p0), wC39, ⟨0, 71, 5, [[(i64 p0.op), (i64 p0.num), (i64 p0.into), (ow 3 0 q7), .zc]]⟩, (ro 0 3 1 eI q7), (ro 0 55 2 (eBlockD 3 55 71) q9)]) go0 hb230 (laws_toBlockS_2_ok hrec_laws_toBlock_2 gq9) rfl rfl ⟨(pure_mapD fun _ => rfl), trivial⟩ rfl rfl (zq tb rfl (ao_str (st' := [(wC38 p0), wC39, ⟨0, 71, 5, [[(i64 p0.op), (i64 p0.num), (i64 p0.into), (ow 3 0 q7), (ow 4 0 q9)]]⟩, (ro 0 3 1 eI q7), (ro 0 55 2 (eBlockD 3 55 71) q9)]) go0 ti69 rfl rfl rfl rfl rfl rfl (show 4 + 1 ≤ 5 by decide) rfl (dn hK8 rfl (sr rfl fun K10 hK10 => zq tb rfl ?_))))))))
 refine ao_str (st' := [(wC38 p0), ⟨0, 71, 5, [[(i64 p0.op), (i64 p0.num), (i64 p0.into), (ow 3 0 q7), (ow 4 0 q9)]]⟩, ⟨0, 71, 5, [[(i64 p0.op), (i64 p0.num), (i64 p0.into), (ow 3 0 q7), (ow 4 0 q9)]]⟩, (ro 0 3 1 eI q7), (ro 0 55 2 (eBlockD 3 55 71) q9)]) go0 ti71 rfl rfl rfl rfl rfl rfl (show 0 + 5 ≤ 5 by decide) rfl (dn hK10 rfl ?_)
 replace h0 := Sh.some_eq h0
 subst r
 exact AW.ret (Exists.intro _ (And.intro ((Wk.permk (L := [(2, (.ptr 2 0 0 0))]) (st' := [(ro 0 3 1 eI q7), (ro 0 55 2 (eBlockD 3 55 71) q9), ⟨0, 71, 5, [[(i64 p0.op), (i64 p0.num), (i64 p0.into), (ow 0 0 q7), (ow 1 0 q9)]]⟩]) (st1 := [(ro 0 3 1 eI q7), (ro 0 55 2 (eBlockD 3 55 71) q9), ⟨0, 71, 5, [[(i64 p0.op), (i64 p0.num), (i64 p0.into), (ow 3 0 q7), (ow 4 0 q9)]]⟩]) [3, 4, 1] rfl .nil (by decide) rfl rfl (.pure (pure_map fun _ => rfl) (.deep (pure_mapD fun _ => rfl) (.raw rfl rfl .nil))) ⟨.rfl, trivial⟩).trans (Wk.to (L := [(2, (.ptr 2 0 0 0))]) ⟨.rfl, trivial⟩)) (aq_ldpa (x := .tmp 2) (off := 0) (cs := [(i64 p0.op), (i64 p0.num), (i64 p0.into), (ow 0 0 q7), (ow 1 0 q9)]) (vs := [(i64 p0.op), (i64 p0.num), (i64 p0.into), (ow 0 0 q7), (ow 1 0 q9)]) ti71 rfl rfl rfl (show 0 + 5 ≤ 5 by decide) rfl _ ⟨rfl, rfl⟩)))
theorem laws_toStepS_2_ok {N : Nat} {rec_laws_toBlock_2 : Block → Option (Block)} (hrec_laws_toBlock_2 : ∀ {p0 : Block} {r : Block}, rec_laws_toBlock_2 p0 = some r → ACalls Tryz.prog 122 [(.agg [(ls eStep p0.steps), (i64 p0.result)])] [] (fun v st => v = (.agg [(ow 0 0 r.steps), (i64 r.result)]) ∧ st = [(ro 0 71 5 (eStepD 3 55 71) r.steps)])) {p0 : (List Step)} {r : (List Step)} (h0 : laws_toStepS_2 N rec_laws_toBlock_2 p0 = some r) : ACalls Tryz.prog 178 [(ls eStep p0)] [] (fun v st => v = (ow 0 0 r) ∧ st = [(ro 0 71 5 (eStepD 3 55 71) r)]) := by
 unfold laws_toStepS_2 at h0
 refine ai Tryz.func178 rfl rfl rfl rfl (zr tb rfl rfl (sr rfl fun K2 hK2 => zq tb rfl (zl tb rfl rfl (bs h0 fun l3 gl3 h0 => ?_))))
 refine ao_maked (m := 0) (st' := [(ro 0 71 5 (eStepD 3 55 71) l3)]) (enc := (eStepD 3 55 71)) (u := (Step.mk 0 0 0 [] [])) ei53 rfl rfl (by rw [eStepD_eq]; exact ⟨.inl ⟨rfl, rfl⟩, ⟨.inl ⟨rfl, rfl⟩, ⟨.inl ⟨rfl, rfl⟩, ⟨.inr ⟨rfl, _, _, rfl, by decide⟩, ⟨.inr ⟨rfl, _, _, rfl, by decide⟩, trivial⟩⟩⟩⟩⟩) gl3 rfl rfl ?_
 refine zq tb rfl (dn hK2 rfl (AW.seq fun K4 hK4 => zr tb rfl rfl (bs h0 fun o9 h1 h0 => ?_)))
 have M9 : ∀ (l8 : (List Step)), o9 = l8 → ∀ s, Wk 0 s ⟨23, envL [(3, (ow 0 0 l8))], [(ro 0 71 5 (eStepD 3 55 71) l8)]⟩ → K4 s := by
  intro l8 hq s hw
  subst o9
  try dsimp only at h0
  refine hK4 _ (AW.weaken hw (zr tb rfl rfl ?_))
  replace h0 := Sh.some_eq h0
  subst r
  exact AW.ret (xr (Wk.to (L := [(2, (ow 0 0 l8))]) ⟨.rfl, trivial⟩))
 refine AW.block (AW.loopF (σ := Int × (List Step)) (fun n v => laws_toStepS_2_L1 N p0 rec_laws_toBlock_2 n v.1 v.2 = some o9) (fun (i6, l7) => ⟨23, envL [(0, (ls eStep p0)), (3, (ow 0 0 l7)), (4, (i64 i6))], [(ro 0 71 5 (eStepD 3 55 71) l7)]⟩) N (0, l3) h1 (Wk.tr rfl) (fun _ hv => by rw [laws_toStepS_2_L1] at hv; cases hv) ?_)
 rintro n ⟨i6, l7⟩ h1
 try dsimp only at h1 ⊢
 rw [laws_toStepS_2_L1] at h1
 refine AW.seq fun K11 hK11 => sr rfl fun K12 hK12 => zm tb 2 rfl (zl tb rfl rfl (zq tb rfl (dn hK12 rfl ?_)))
 refine ci h1 rfl ?_ ?_ <;> clear h1
 ·intro b13 h1
  refine AW.skip (hK11 _ (AW.seq fun K14 hK14 => AW.block (AW.regionO rfl (zm tb 4 rfl (bs h1 fun c15 gc15 h1 => zz (.iptr [(i64 c15.op), (i64 c15.num), (i64 c15.into), (ls eI c15.args), (ls eBlock c15.kids)] 0) (aq_ixsE ei85 rfl rfl gc15 (eStep_eq _) rfl) rfl (zq tb rfl (bs h1 fun q16 gq16 h1 => ao_call (v' := (.agg [(i64 q16.op), (i64 q16.num), (i64 q16.into), (ow 1 0 q16.args), (ow 2 0 q16.kids)])) (st' := [(ro 0 71 5 (eStepD 3 55 71) l7), (ro 0 3 1 eI q16.args), (ro 0 55 2 (eBlockD 3 55 71) q16.kids)]) go0 hb209 (laws_toStep_2_ok hrec_laws_toBlock_2 gq16) rfl rfl ⟨(pure_map' fun _ => rfl), ⟨(pure_mapD fun _ => rfl), trivial⟩⟩ rfl rfl (bs h1 fun c17 gc17 h1 => zz (.ptr 0 0 (Int.toNat i6) 0) (aq_ixo ei53 rfl rfl rfl rfl gc17) rfl ?_))))))))
  refine ao_sth (st' := [⟨0, 71, 5, hole l7 (eStepD 3 55 71) i6 [(i64 q16.op), (i64 q16.num), (i64 q16.into), (ow 1 0 q16.args), (ow 2 0 q16.kids)]⟩, (ro 0 3 1 eI q16.args), (ro 0 55 2 (eBlockD 3 55 71) q16.kids)]) go0 ti71 rfl rfl gc17 rfl rfl rfl (show 5 ≤ 5 by decide) (eStepD_len _) rfl ?_
  refine AO.weaken (Wk.take (id := 0) (m := 1) (j := 3) (i := i6) (c := c17) (ys := q16.args) (encY := eI) (x' := [(i64 q16.op), (i64 q16.num), (i64 q16.into), (.dv 3 1 (List.map eI q16.args)), (ow 2 0 q16.kids)]) (st' := [⟨0, 71, 5, hole l7 (eStepD 3 55 71) i6 [(i64 q16.op), (i64 q16.num), (i64 q16.into), (.dv 3 1 (List.map eI q16.args)), (ow 2 0 q16.kids)]⟩, ⟨1, 3, 1, []⟩, (ro 0 55 2 (eBlockD 3 55 71) q16.kids)]) rfl gc17 rfl rfl rfl (by decide) (show 0 ≤ 1 by decide) (fun _ => rfl) rfl rfl) ?_
  refine AO.weaken (Wk.take (id := 0) (m := 2) (j := 4) (i := i6) (c := c17) (ys := q16.kids) (encY := (eBlockD 3 55 71)) (x' := [(i64 q16.op), (i64 q16.num), (i64 q16.into), (.dv 3 1 (List.map eI q16.args)), (.dv 55 2 (List.map (eBlockD 3 55 71) q16.kids))]) (st' := [⟨0, 71, 5, hole l7 (eStepD 3 55 71) i6 [(i64 q16.op), (i64 q16.num), (i64 q16.into), (.dv 3 1 (List.map eI q16.args)), (.dv 55 2 (List.map (eBlockD 3 55 71) q16.kids))]⟩, ⟨1, 3, 1, []⟩, ⟨1, 55, 2, []⟩]) rfl gc17 rfl rfl rfl (by decide) (show 0 ≤ 2 by decide) (fun _ => rfl) rfl rfl) ?_
  refine AO.weaken (Wk.filled (id := 0) (i := i6) (u := q16) (st' := [(ro 0 71 5 (eStepD 3 55 71) (Sh.put l7 i6 q16)), ⟨1, 3, 1, []⟩, ⟨1, 55, 2, []⟩]) rfl (eStepD_eq q16).symm rfl) (dn hK14 rfl (AW.regionO rfl (zm tb 3 rfl ?_)))
  exact AO.done (xi (Sh.w (i6 + 1), Sh.put l7 i6 q16) h1 (by refine Wk.trans (Wk.permk (L := [(0, (.sl (List.map eStep p0))), (3, (.own 0 0 (List.length l7))), (4, (i64 (Sh.w (i6 + 1))))]) (st' := [⟨0, 71, 5, List.map (eStepD 3 55 71) (Sh.put l7 i6 q16)⟩]) (st1 := [⟨0, 71, 5, List.map (eStepD 3 55 71) (Sh.put l7 i6 q16)⟩]) [0] rfl .nil (by decide) rfl rfl (.deep (pure_mapD eStepD_pure) .nil) ⟨.rfl, .rfl, .rfl, trivial⟩) ?_; exact Wk.to (L := [(0, (.sl (List.map eStep p0))), (3, (.own 0 0 (List.length (Sh.put l7 i6 q16)))), (4, (i64 (Sh.w (i6 + 1))))]) ⟨.rfl, (.len (by simp only [Sh.put_len])), .rfl, trivial⟩))
 ·intro b13 h1
  exact AW.exit (M9 l7 (Sh.some_eq h1).symm _ (Wk.tr rfl))
noncomputable abbrev wC40 (p0 : Block) : Go.Abs.Row := ⟨0, 87, 2, [[(ls eStep p0.steps), (i64 p0.result)]]⟩
theorem laws_toBlock_2_B_ok {N : Nat} {rec_laws_toBlock_2 : Block → Option (Block)} (hrec_laws_toBlock_2 : ∀ {p0 : Block} {r : Block}, rec_laws_toBlock_2 p0 = some r → ACalls Tryz.prog 122 [(.agg [(ls eStep p0.steps), (i64 p0.result)])] [] (fun v st => v = (.agg [(ow 0 0 r.steps), (i64 r.result)]) ∧ st = [(ro 0 71 5 (eStepD 3 55 71) r.steps)])) {p0 : Block} {r : Block} (h0 : laws_toBlock_2_B N rec_laws_toBlock_2 p0 = some r) : ACalls Tryz.prog 122 [(.agg [(ls eStep p0.steps), (i64 p0.result)])] [] (fun v st => v = (.agg [(ow 0 0 r.steps), (i64 r.result)]) ∧ st = [(ro 0 71 5 (eStepD 3 55 71) r.steps)]) := by
 unfold laws_toBlock_2_B at h0
 refine ACalls.wk (r0 := (.agg [(ow 0 0 r.steps), (i64 r.result)])) (st0 := [(ro 0 71 5 (eStepD 3 55 71) r.steps), ⟨0, 55, 2, [[(ow 0 0 r.steps), (i64 r.result)]]⟩]) ?_ (Wk.sel (L := [(0, (.agg [(ow 0 0 r.steps), (i64 r.result)]))]) (st' := [(ro 0 71 5 (eStepD 3 55 71) r.steps)]) [0] rfl (by decide) rfl rfl (.deep (pure_mapD eStepD_pure) trivial) ⟨.rfl, trivial⟩)
 refine ai Tryz.func122 rfl rfl rfl rfl (sr rfl fun K1 hK1 => ao_box (m := 0) (st' := [(wC40 p0)]) go0 rfl rfl rfl rfl rfl (ao_alloc (m := 1) (st' := [(wC40 p0), ⟨0, 55, 2, [[.zc, (i64 0)]]⟩]) go0 zi55 rfl rfl (dn hK1 rfl (sr rfl fun K2 hK2 => ao_alloc (m := 2) (st' := [(wC40 p0), ⟨0, 55, 2, [[.zc, (i64 0)]]⟩, ⟨0, 55, 2, [[.zc, (i64 0)]]⟩]) go0 zi55 rfl rfl (dn hK2 rfl (sr rfl fun K3 hK3 => zm tb 2 rfl (bs h0 fun q4 gq4 h0 => ao_call (v' := (ow 3 0 q4)) (st' := [(wC40 p0), ⟨0, 55, 2, [[.zc, (i64 0)]]⟩, ⟨0, 55, 2, [[.zc, (i64 0)]]⟩, (ro 0 71 5 (eStepD 3 55 71) q4)]) go0 hb178 (laws_toStepS_2_ok hrec_laws_toBlock_2 gq4) rfl rfl ⟨(pure_mapD eStepD_pure), trivial⟩ rfl rfl ?_)))))))
 refine zq tb rfl (ao_str (st' := [(wC40 p0), ⟨0, 55, 2, [[.zc, (i64 0)]]⟩, ⟨0, 55, 2, [[(ow 3 0 q4), (i64 0)]]⟩, (ro 0 71 5 (eStepD 3 55 71) q4)]) go0 ti53 rfl rfl rfl rfl rfl rfl (show 0 + 1 ≤ 2 by decide) rfl (dn hK3 rfl (sr rfl fun K5 hK5 => zm tb 3 rfl (ao_str (st' := [(wC40 p0), ⟨0, 55, 2, [[.zc, (i64 0)]]⟩, ⟨0, 55, 2, [[(ow 3 0 q4), (i64 p0.result)]]⟩, (ro 0 71 5 (eStepD 3 55 71) q4)]) go0 ti3 rfl rfl rfl rfl rfl rfl (show 1 + 1 ≤ 2 by decide) rfl (dn hK5 rfl (sr rfl fun K6 hK6 => zq tb rfl (ao_str (st' := [(wC40 p0), ⟨0, 55, 2, [[(ow 3 0 q4), (i64 p0.result)]]⟩, ⟨0, 55, 2, [[(ow 3 0 q4), (i64 p0.result)]]⟩, (ro 0 71 5 (eStepD 3 55 71) q4)]) go0 ti55 rfl rfl rfl rfl rfl rfl (show 0 + 2 ≤ 2 by decide) rfl (dn hK6 rfl ?_))))))))
 replace h0 := Sh.some_eq h0
 subst r
 exact AW.ret (Exists.intro _ (And.intro ((Wk.permk (L := [(2, (.ptr 1 0 0 0))]) (st' := [(ro 0 71 5 (eStepD 3 55 71) q4), ⟨0, 55, 2, [[(ow 0 0 q4), (i64 p0.result)]]⟩]) (st1 := [(ro 0 71 5 (eStepD 3 55 71) q4), ⟨0, 55, 2, [[(ow 3 0 q4), (i64 p0.result)]]⟩]) [3, 1] rfl .nil (by decide) rfl rfl (.deep (pure_mapD eStepD_pure) (.raw rfl rfl .nil)) ⟨.rfl, trivial⟩).trans (Wk.to (L := [(2, (.ptr 1 0 0 0))]) ⟨.rfl, trivial⟩)) (aq_ldpa (x := .tmp 2) (off := 0) (cs := [(ow 0 0 q4), (i64 p0.result)]) (vs := [(ow 0 0 q4), (i64 p0.result)]) ti55 rfl rfl rfl (show 0 + 2 ≤ 2 by decide) rfl _ ⟨rfl, rfl⟩)))

theorem laws_toBlock_2_F_ok {N : Nat} : ∀ (n : Nat), ∀ {p0 : Block} {r : Block}, laws_toBlock_2_F N n p0 = some r → ACalls Tryz.prog 122 [(.agg [(ls eStep p0.steps), (i64 p0.result)])] [] (fun v st => v = (.agg [(ow 0 0 r.steps), (i64 r.result)]) ∧ st = [(ro 0 71 5 (eStepD 3 55 71) r.steps)]) := by
 intro n
 induction n with
 | zero => intro p0 r h0; cases h0
 | succ n ih =>
  intro p0 r h0
  rw [laws_toBlock_2_F] at h0
  exact laws_toBlock_2_B_ok (fun h => ih h) h0
theorem laws_toBlock_2_ok {N : Nat} : ∀ {p0 : Block} {r : Block}, laws_toBlock_2 N p0 = some r → ACalls Tryz.prog 122 [(.agg [(ls eStep p0.steps), (i64 p0.result)])] [] (fun v st => v = (.agg [(ow 0 0 r.steps), (i64 r.result)]) ∧ st = [(ro 0 71 5 (eStepD 3 55 71) r.steps)]) := by
 intro p0 r h0
 exact laws_toBlock_2_F_ok N h0
end Go.Proofs.YtcegihniiokijaaGreat

