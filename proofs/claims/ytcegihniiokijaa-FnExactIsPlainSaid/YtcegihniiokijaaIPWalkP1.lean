import Derived.Test.YtcegihniiokijaaProg
import Derived.Test.YtcegihniiokijaaIPDefs
import Derived.Test.YtcegihniiokijaaIPWalkP0
namespace Go.Proofs.Ytcegihniiokijaa
open Go Go.Abs RC
attribute [local irreducible] Go.Abs.dops
set_option maxRecDepth 100000
set_option maxHeartbeats 4000000

theorem ei100 : einfo Try.prog 100 = some ⟨127, 3, 56, [.sl [], .sl [], .int .i64 0]⟩ := by kernel_rfl
theorem hb100 : hasBody Try.prog 100 = true := by kernel_rfl
theorem hb101 : hasBody Try.prog 101 = true := by kernel_rfl
theorem hb104 : hasBody Try.prog 104 = true := by kernel_rfl
theorem hb105 : hasBody Try.prog 105 = true := by kernel_rfl
theorem hb106 : hasBody Try.prog 106 = true := by kernel_rfl
theorem hb117 : hasBody Try.prog 117 = true := by kernel_rfl
theorem hb118 : hasBody Try.prog 118 = true := by kernel_rfl
theorem hb122 : hasBody Try.prog 122 = true := by kernel_rfl
theorem hb123 : hasBody Try.prog 123 = true := by kernel_rfl
theorem hb125 : hasBody Try.prog 125 = true := by kernel_rfl
theorem hb29 : hasBody Try.prog 29 = true := by kernel_rfl
theorem hb52 : hasBody Try.prog 52 = true := by kernel_rfl
theorem hb53 : hasBody Try.prog 53 = true := by kernel_rfl
theorem hb74 : hasBody Try.prog 74 = true := by kernel_rfl
theorem hb75 : hasBody Try.prog 75 = true := by kernel_rfl
theorem hb77 : hasBody Try.prog 77 = true := by kernel_rfl
theorem sl100 : isSliceT Try.prog 100 = true := by kernel_rfl
theorem ti127 : tinfo Try.prog 127 = some (true, 3) := by kernel_rfl
theorem zi127 : zinfo Try.prog 127 = some [.zc, .zc, .int .i64 0] := by kernel_rfl

theorem spec_stepType_ok {N : Nat} {rec_spec_blockType : RNormal → (List Int) → Block → Option (Int)} (hrec_spec_blockType : ∀ {p0 : RNormal} {p1 : (List Int)} {p2 : Block} {r : Int}, rec_spec_blockType p0 p1 p2 = some r → ACalls Try.prog 76 [(.agg [(ls eRDecl p0.decls), (ls eRRoutine p0.routines)]), (ls eI p1), (.agg [(ls eStep p2.steps), (i64 p2.result)])] [] (fun v st => v = (i64 r) ∧ st = [])) {p0 : RNormal} {p1 : (List Int)} {p2 : Step} {r : Int} (h0 : spec_stepType N rec_spec_blockType p0 p1 p2 = some r) : ACalls Try.prog 100 [(.agg [(ls eRDecl p0.decls), (ls eRRoutine p0.routines)]), (ls eI p1), (.agg [(i64 p2.op), (i64 p2.num), (i64 p2.into), (ls eI p2.args), (ls eBlock p2.kids)])] [] (fun v st => v = (i64 r) ∧ st = []) := by
 unfold spec_stepType at h0
 refine ai Try.func100 rfl rfl rfl rfl (sr rfl fun K1 hK1 => ao_box (m := 0) (st' := [⟨0, 42, 2, [[(ls eRDecl p0.decls), (ls eRRoutine p0.routines)]]⟩]) go0 rfl rfl rfl rfl rfl (ao_box (m := 1) (st' := [⟨0, 42, 2, [[(ls eRDecl p0.decls), (ls eRRoutine p0.routines)]]⟩, ⟨0, 110, 5, [[(i64 p2.op), (i64 p2.num), (i64 p2.into), (ls eI p2.args), (ls eBlock p2.kids)]]⟩]) go0 rfl rfl rfl rfl rfl (zq tb rfl (dn hK1 rfl (AW.seq fun K2 hK2 => AW.seq fun K3 hK3 => bs h0 fun o5 h1 h0 => ?_)))))
 have M5 : ∀ (t4 : Bool), o5 = t4 → ∀ s, Wk 0 s ⟨183, envL [(1, (ls eI p1)), (3, (.ptr 0 0 0 0)), (5, (.ptr 1 0 0 0)), (38, (.bool t4))], [⟨0, 42, 2, [[(ls eRDecl p0.decls), (ls eRRoutine p0.routines)]]⟩, ⟨0, 110, 5, [[(i64 p2.op), (i64 p2.num), (i64 p2.into), (ls eI p2.args), (ls eBlock p2.kids)]]⟩]⟩ → K3 s := by
  intro t4 hq s hw
  subst o5
  try dsimp only at h0
  refine hK3 _ (AW.weaken hw ?_)
  refine ci h0 rfl ?_ ?_ <;> clear h0
  ·intro b6 h0
   refine zr tb rfl rfl ?_
   replace h0 := Sh.some_eq h0
   subst r
   exact AW.ret (xr (Wk.d0 [(6, (i64 (-1)))] rfl))
  ·intro b6 h0
   refine AW.skip (hK2 _ (AW.seq fun K8 hK8 => ?_))
   obtain ⟨o9, h1, h0⟩ := Sh.cont_some h0
   have M9 : ∀ (_ : Unit), o9 = Sum.inr () → ∀ s, Wk 0 s ⟨183, envL [], []⟩ → K8 s := by
    intro _ hq s hw
    subst o9
    try dsimp only at h0
    refine hK8 _ (AW.weaken hw (zr tb rfl rfl ?_))
    replace h0 := Sh.some_eq h0
    subst r
    exact AW.ret (xr (Wk.to (L := [(6, (i64 (-1)))]) ⟨.rfl, trivial⟩))
   refine zr tb rfl rfl (AW.block (zr tb rfl rfl ?_))
   refine ci h1 rfl ?_ ?_ <;> clear h1
   ·intro b13 h1
    refine AW.seq fun K14 hK14 => bs h1 fun o16 h2 h1 => ?_
    have M16 : ∀ (t15 : Bool), o16 = t15 → ∀ s, Wk 0 s ⟨183, envL [(51, (.bool t15))], []⟩ → K14 s := by
     intro t15 hq s hw
     subst o16
     try dsimp only at h1
     refine hK14 _ (AW.weaken hw ?_)
     refine ci h1 rfl ?_ ?_ <;> clear h1
     ·intro b17 h1
      refine zr tb rfl rfl ?_
      replace h1 := Sh.some_eq h1
      subst o9
      try dsimp only [id] at h0
      replace h0 := Sh.some_eq h0
      subst r
      exact AW.ret (xr (Wk.to (L := [(6, (i64 0))]) ⟨.rfl, trivial⟩))
     ·intro b17 h1
      exact AW.skip (M9 () (Sh.some_eq h1).symm _ (Wk.tr rfl))
    refine AW.regionO rfl (zm tb 2 rfl (zl tb rfl rfl (zm tb 2 rfl ?_)))
    rcases Sh.ite_some h2 with ⟨b19, h2⟩ | ⟨b19, h2⟩
    ·exact zg tb b19 rfl (zg tb b19 rfl (bs h2 fun q20 gq20 h2 => zd b19 hb85 (spec_inRange_ok gq20) rfl rfl rfl rfl (zt b19 rfl (AO.done (M16 q20 (Sh.some_eq h2).symm _ (Wk.d0 _ rfl))))))
    ·exact zs b19 rfl (zs b19 rfl (zs b19 rfl (zf b19 rfl (AO.done (M16 false (Sh.some_eq h2).symm _ (Wk.d0 _ rfl))))))
   ·intro b13 h1
    refine AW.seq fun K21 hK21 => bs h1 fun o23 h2 h1 => ?_
    have M23 : ∀ (t22 : Bool), o23 = t22 → ∀ s, Wk 0 s ⟨183, envL [(1, (ls eI p1)), (3, (.ptr 0 0 0 0)), (5, (.ptr 1 0 0 0)), (40, (i64 p2.op)), (52, (.bool t22))], [⟨0, 42, 2, [[(ls eRDecl p0.decls), (ls eRRoutine p0.routines)]]⟩, ⟨0, 110, 5, [[(i64 p2.op), (i64 p2.num), (i64 p2.into), (ls eI p2.args), (ls eBlock p2.kids)]]⟩]⟩ → K21 s := by
     intro t22 hq s hw
     subst o23
     try dsimp only at h1
     refine hK21 _ (AW.weaken hw ?_)
     refine ci h1 rfl ?_ ?_ <;> clear h1
     ·intro b24 h1
      refine sr rfl fun K25 hK25 => zm tb 3 rfl ?_
      refine ao_bs (m := 2) (st' := [⟨0, 42, 2, [[(ls eRDecl p0.decls), (ls eRRoutine p0.routines)]]⟩, ⟨0, 110, 5, [[(i64 p2.op), (i64 p2.num), (i64 p2.into), (ls eI p2.args), (ls eBlock p2.kids)]]⟩, (ro 0 3 1 eI [(0 : Int), 0])]) (l := [(0 : Int), 0]) (enc := eI) go0 ei22 (by decide) rfl rfl rfl rfl rfl rfl ?_
      refine AO.weaken (Wk.frz (L := [(57, (ls eI p1)), (59, (ls eI p2.args)), (60, (ls eI [(0 : Int), 0]))]) (st' := [⟨0, 42, 2, [[(ls eRDecl p0.decls), (ls eRRoutine p0.routines)]]⟩, ⟨0, 110, 5, [[(i64 p2.op), (i64 p2.num), (i64 p2.into), (ls eI p2.args), (ls eBlock p2.kids)]]⟩, ⟨1, 3, 1, []⟩]) (id := 2) rfl (show 0 ≤ 2 by decide) (pure_map fun _ => rfl) ⟨.rfl, .rfl, (.frz rfl), trivial⟩ rfl) (bs h1 fun q26 gq26 h1 => zc hb119 (spec_typed_ok gq26) rfl rfl rfl (dn hK25 rfl ?_))
      refine ci h1 rfl ?_ ?_ <;> clear h1
      ·intro b27 h1
       refine zr tb rfl rfl ?_
       replace h1 := Sh.some_eq h1
       subst o9
       try dsimp only [id] at h0
       replace h0 := Sh.some_eq h0
       subst r
       exact AW.ret (xr (Wk.d0 [(6, (i64 0))] rfl))
      ·intro b27 h1
       exact AW.skip (M9 () (Sh.some_eq h1).symm _ (Wk.d0 _ rfl))
     ·intro b24 h1
      refine zr tb rfl rfl ?_
      refine ci h1 rfl ?_ ?_ <;> clear h1
      ·intro b30 h1
       refine sr rfl fun K31 hK31 => zm tb 3 rfl ?_
       refine ao_bs (m := 2) (st' := [⟨0, 42, 2, [[(ls eRDecl p0.decls), (ls eRRoutine p0.routines)]]⟩, ⟨0, 110, 5, [[(i64 p2.op), (i64 p2.num), (i64 p2.into), (ls eI p2.args), (ls eBlock p2.kids)]]⟩, (ro 0 3 1 eI [(0 : Int)])]) (l := [(0 : Int)]) (enc := eI) go0 ei22 (by decide) rfl rfl rfl rfl rfl rfl ?_
       refine AO.weaken (Wk.frz (L := [(64, (ls eI p1)), (66, (ls eI p2.args)), (67, (ls eI [(0 : Int)]))]) (st' := [⟨0, 42, 2, [[(ls eRDecl p0.decls), (ls eRRoutine p0.routines)]]⟩, ⟨0, 110, 5, [[(i64 p2.op), (i64 p2.num), (i64 p2.into), (ls eI p2.args), (ls eBlock p2.kids)]]⟩, ⟨1, 3, 1, []⟩]) (id := 2) rfl (show 0 ≤ 2 by decide) (pure_map fun _ => rfl) ⟨.rfl, .rfl, (.frz rfl), trivial⟩ rfl) (bs h1 fun q32 gq32 h1 => zc hb119 (spec_typed_ok gq32) rfl rfl rfl (dn hK31 rfl ?_))
       refine ci h1 rfl ?_ ?_ <;> clear h1
       ·intro b33 h1
        refine zr tb rfl rfl ?_
        replace h1 := Sh.some_eq h1
        subst o9
        try dsimp only [id] at h0
        replace h0 := Sh.some_eq h0
        subst r
        exact AW.ret (xr (Wk.d0 [(6, (i64 0))] rfl))
       ·intro b33 h1
        exact AW.skip (M9 () (Sh.some_eq h1).symm _ (Wk.d0 _ rfl))
      ·intro b30 h1
       refine zr tb rfl rfl ?_
       refine ci h1 rfl ?_ ?_ <;> clear h1
       ·intro b36 h1
        refine AW.seq fun K37 hK37 => bs h1 fun o39 h2 h1 => ?_
        have M39 : ∀ (t38 : Bool), o39 = t38 → ∀ s, Wk 0 s ⟨183, envL [(3, (.ptr 0 0 0 0)), (5, (.ptr 1 0 0 0)), (87, (.bool t38))], [⟨0, 42, 2, [[(ls eRDecl p0.decls), (ls eRRoutine p0.routines)]]⟩, ⟨0, 110, 5, [[(i64 p2.op), (i64 p2.num), (i64 p2.into), (ls eI p2.args), (ls eBlock p2.kids)]]⟩]⟩ → K37 s := by
         intro t38 hq s hw
         subst o39
         try dsimp only at h1
         refine hK37 _ (AW.weaken hw ?_)
         refine ci h1 rfl ?_ ?_ <;> clear h1
         ·intro b40 h1
          refine sr rfl fun K41 hK41 => zm tb 4 rfl (bs h1 fun q42 gq42 h1 => zc hb120 (spec_conType_ok gq42) rfl rfl rfl (zq tb rfl (dn hK41 rfl ?_)))
          replace h1 := Sh.some_eq h1
          subst o9
          try dsimp only [id] at h0
          replace h0 := Sh.some_eq h0
          subst r
          exact AW.ret (xr (Wk.d0 [(6, (i64 q42))] rfl))
         ·intro b40 h1
          exact AW.skip (M9 () (Sh.some_eq h1).symm _ (Wk.d0 _ rfl))
        refine AW.drawTailO 16 (by kernel_rfl) (by kernel_rfl) (by rfl) ?_
        iterate 4 refine yq tb rfl ?_
        refine bs h2 fun q43 gq43 h2 => d_call (v := (i64 q43)) go0 hb120 (spec_conType_ok gq43) rfl rfl rfl ?_
        iterate 2 refine yq tb rfl ?_
        rcases Sh.ite_some h2 with ⟨b44, h2⟩ | ⟨b44, h2⟩
        ·refine yg tb b44 rfl ?_
         iterate 6 refine yg tb b44 rfl ?_
         exact bs h2 fun q45 gq45 h2 => d_call (v := (ls eI q45)) (go1 rfl rfl b44) hb121 (spec_conFields_ok gq45) rfl rfl rfl (bs h2 fun q46 gq46 h2 => d_call (v := (.bool q46)) (go1 rfl rfl b44) hb119 (spec_typed_ok gq46) rfl rfl rfl (d_done (zt b44 rfl (AO.done (M39 q46 (Sh.some_eq h2).symm _ (Wk.tr rfl))))))
        ·refine ys b44 rfl ?_
         iterate 8 refine ys b44 rfl ?_
         exact d_done (zf b44 rfl (AO.done (M39 false (Sh.some_eq h2).symm _ (Wk.tr rfl))))
       ·intro b36 h1
        refine zr tb rfl rfl ?_
        refine ci h1 rfl ?_ ?_ <;> clear h1
        ·intro b48 h1
         refine sr rfl fun K49 hK49 => zm tb 3 rfl ?_
         refine ao_bs (m := 2) (st' := [⟨0, 42, 2, [[(ls eRDecl p0.decls), (ls eRRoutine p0.routines)]]⟩, ⟨0, 110, 5, [[(i64 p2.op), (i64 p2.num), (i64 p2.into), (ls eI p2.args), (ls eBlock p2.kids)]]⟩, (ro 0 3 1 eI [(0 : Int)])]) (l := [(0 : Int)]) (enc := eI) go0 ei22 (by decide) rfl rfl rfl rfl rfl rfl ?_
         refine AO.weaken (Wk.frz (L := [(1, (ls eI p1)), (3, (.ptr 0 0 0 0)), (5, (.ptr 1 0 0 0)), (95, (ls eI p1)), (97, (ls eI p2.args)), (98, (ls eI [(0 : Int)]))]) (st' := [⟨0, 42, 2, [[(ls eRDecl p0.decls), (ls eRRoutine p0.routines)]]⟩, ⟨0, 110, 5, [[(i64 p2.op), (i64 p2.num), (i64 p2.into), (ls eI p2.args), (ls eBlock p2.kids)]]⟩, ⟨1, 3, 1, []⟩]) (id := 2) rfl (show 0 ≤ 2 by decide) (pure_map fun _ => rfl) ⟨.rfl, .rfl, .rfl, .rfl, .rfl, (.frz rfl), trivial⟩ rfl) (bs h1 fun q50 gq50 h1 => zc hb119 (spec_typed_ok gq50) rfl rfl rfl (dn hK49 rfl ?_))
         refine ci h1 rfl ?_ ?_ <;> clear h1
         ·intro b51 h1
          refine sr rfl fun K52 hK52 => zm tb 3 rfl (bs h1 fun q53 gq53 h1 => zc hb122 (spec_kidsType_ok hrec_spec_blockType gq53) rfl rfl rfl (zq tb rfl (dn hK52 rfl ?_)))
          replace h1 := Sh.some_eq h1
          subst o9
          try dsimp only [id] at h0
          replace h0 := Sh.some_eq h0
          subst r
          exact AW.ret (xr (Wk.d0 [(6, (i64 q53))] rfl))
         ·intro b51 h1
          exact AW.skip (M9 () (Sh.some_eq h1).symm _ (Wk.d0 _ rfl))
        ·intro b48 h1
         refine zr tb rfl rfl ?_
         refine ci h1 rfl ?_ ?_ <;> clear h1
         ·intro b55 h1
          refine sr rfl fun K56 hK56 => zm tb 5 rfl ?_
          refine ao_bs (m := 2) (st' := [⟨0, 42, 2, [[(ls eRDecl p0.decls), (ls eRRoutine p0.routines)]]⟩, ⟨0, 110, 5, [[(i64 p2.op), (i64 p2.num), (i64 p2.into), (ls eI p2.args), (ls eBlock p2.kids)]]⟩, (ro 0 3 1 eI [p2.num])]) (l := [p2.num]) (enc := eI) go0 ei22 (by decide) rfl rfl rfl rfl rfl rfl ?_
          refine AO.weaken (Wk.frz (L := [(1, (ls eI p1)), (3, (.ptr 0 0 0 0)), (5, (.ptr 1 0 0 0)), (106, (ls eI p1)), (108, (ls eI p2.args)), (111, (ls eI [p2.num]))]) (st' := [⟨0, 42, 2, [[(ls eRDecl p0.decls), (ls eRRoutine p0.routines)]]⟩, ⟨0, 110, 5, [[(i64 p2.op), (i64 p2.num), (i64 p2.into), (ls eI p2.args), (ls eBlock p2.kids)]]⟩, ⟨1, 3, 1, []⟩]) (id := 2) rfl (show 0 ≤ 2 by decide) (pure_map fun _ => rfl) ⟨.rfl, .rfl, .rfl, .rfl, .rfl, (.frz rfl), trivial⟩ rfl) (bs h1 fun q57 gq57 h1 => zc hb119 (spec_typed_ok gq57) rfl rfl rfl (dn hK56 rfl ?_))
          refine ci h1 rfl ?_ ?_ <;> clear h1
          ·intro b58 h1
           refine sr rfl fun K59 hK59 => zm tb 3 rfl (bs h1 fun q60 gq60 h1 => zc hb122 (spec_kidsType_ok hrec_spec_blockType gq60) rfl rfl rfl (zq tb rfl (dn hK59 rfl ?_)))
           replace h1 := Sh.some_eq h1
           subst o9
           try dsimp only [id] at h0
           replace h0 := Sh.some_eq h0
           subst r
           exact AW.ret (xr (Wk.d0 [(6, (i64 q60))] rfl))
          ·intro b58 h1
           exact AW.skip (M9 () (Sh.some_eq h1).symm _ (Wk.d0 _ rfl))
         ·intro b55 h1
          refine AW.seq fun K61 hK61 => bs h1 fun o63 h2 h1 => ?_
          have M63 : ∀ (t62 : Bool), o63 = t62 → ∀ s, Wk 0 s ⟨183, envL [(1, (ls eI p1)), (3, (.ptr 0 0 0 0)), (5, (.ptr 1 0 0 0)), (40, (i64 p2.op)), (117, (.bool t62))], [⟨0, 42, 2, [[(ls eRDecl p0.decls), (ls eRRoutine p0.routines)]]⟩, ⟨0, 110, 5, [[(i64 p2.op), (i64 p2.num), (i64 p2.into), (ls eI p2.args), (ls eBlock p2.kids)]]⟩]⟩ → K61 s := by
           intro t62 hq s hw
           subst o63
           try dsimp only at h1
           refine hK61 _ (AW.weaken hw ?_)
           refine ci h1 rfl ?_ ?_ <;> clear h1
           ·intro b64 h1
            refine sr rfl fun K65 hK65 => zm tb 3 rfl (bs h1 fun q66 gq66 h1 => zc hb123 (spec_routineType_ok gq66) rfl rfl rfl (zq tb rfl (dn hK65 rfl ?_)))
            replace h1 := Sh.some_eq h1
            subst o9
            try dsimp only [id] at h0
            replace h0 := Sh.some_eq h0
            subst r
            exact AW.ret (xr (Wk.d0 [(6, (i64 q66))] rfl))
           ·intro b64 h1
            refine zr tb rfl rfl ?_
            refine ci h1 rfl ?_ ?_ <;> clear h1
            ·intro b68 h1
             refine AW.seq fun K69 hK69 => bs h1 fun o71 h2 h1 => ?_
             have M71 : ∀ (t70 : Bool), o71 = t70 → ∀ s, Wk 0 s ⟨183, envL [(1, (ls eI p1)), (3, (.ptr 0 0 0 0)), (5, (.ptr 1 0 0 0)), (151, (.bool t70))], [⟨0, 42, 2, [[(ls eRDecl p0.decls), (ls eRRoutine p0.routines)]]⟩, ⟨0, 110, 5, [[(i64 p2.op), (i64 p2.num), (i64 p2.into), (ls eI p2.args), (ls eBlock p2.kids)]]⟩]⟩ → K69 s := by
              intro t70 hq s hw
              subst o71
              try dsimp only at h1
              refine hK69 _ (AW.weaken hw ?_)
              refine ci h1 rfl ?_ ?_ <;> clear h1
              ·intro b72 h1
               refine AW.seq fun K73 hK73 => ?_
               refine AW.drawX (by kernel_rfl) ?_
               refine bs h1 fun c74 gc74 h1 => bs h1 fun c75 gc75 h1 => bs h1 fun c76 gc76 h1 => AX.one fun A77 hA77 => ?_
               have A77_0123456789abcd : A77 0 #[true, true, true, true, true, true, true, true, true, true, true, true, true, true] ⟨183, envL [(1, (ls eI p1)), (5, (.ptr 0 0 0 0)), (7, (.ptr 1 0 0 0))], [⟨0, 110, 5, [[(i64 p2.op), (i64 p2.num), (i64 p2.into), (ls eI p2.args), (ls eBlock p2.kids)]]⟩, ⟨0, 97, 3, [(eRDecl c76)]⟩]⟩ := (hA77 _ _ _).2 (by
                refine AX.done rfl (by kernel_rfl) ?_
                refine hK73 _ (AW.seq fun K78 hK78 => ?_)
                refine AW.drawTailO 7 (by kernel_rfl) (by kernel_rfl) (by rfl) ?_
                iterate 3 refine yq tb rfl ?_
                refine bs h1 fun l79 gl79 h1 => d_sls (i := 1) (j := Sh.len p2.args) go0 ei22 rfl rfl rfl (fun _ => rfl) gl79 ?_
                iterate 2 refine yq tb rfl ?_
                refine d_bs (l := [c76.from_]) (enc := eI) go0 ei22 (by decide) rfl rfl rfl rfl rfl (pure_map fun _ => rfl) ?_
                refine d_done (bs h1 fun q80 gq80 h1 => zc hb119 (spec_typed_ok gq80) rfl rfl rfl (dn hK78 rfl ?_))
                refine ci h1 rfl ?_ ?_ <;> clear h1
                ·intro b81 h1
                 refine zr tb rfl rfl ?_
                 replace h1 := Sh.some_eq h1
                 subst o9
                 try dsimp only [id] at h0
                 replace h0 := Sh.some_eq h0
                 subst r
                 exact AW.ret (xr (Wk.d0 [(6, (i64 c76.to))] rfl))
                ·intro b81 h1
                 exact AW.skip (M9 () (Sh.some_eq h1).symm _ (by refine Wk.trans (Wk.permk (L := []) (st' := []) (st1 := []) [] rfl .nil (by decide) rfl rfl .nil trivial) ?_; exact Wk.to (L := []) trivial)))
               have A77_0123456789abc : A77 1 #[true, true, true, true, true, true, true, true, true, true, true, true, true, false] ⟨183, envL [(1, (ls eI p1)), (5, (.ptr 0 0 0 0)), (7, (.ptr 1 0 0 0)), (163, (.agg (eRDecl c76)))], [⟨0, 110, 5, [[(i64 p2.op), (i64 p2.num), (i64 p2.into), (ls eI p2.args), (ls eBlock p2.kids)]]⟩, ⟨0, 97, 3, [[(i64 0), (i64 0), .zc]]⟩]⟩ := (hA77 _ _ _).2 (by
                refine AX.all [13] rfl (by kernel_rfl) (by decide) ⟨?_, trivial⟩
                ·refine AXs.of (i := 13) rfl rfl (by rfl) ?_
                 refine ao_str (st' := [⟨0, 110, 5, [[(i64 p2.op), (i64 p2.num), (i64 p2.into), (ls eI p2.args), (ls eBlock p2.kids)]]⟩, ⟨0, 97, 3, [(eRDecl c76)]⟩]) go0 ti97 rfl rfl rfl rfl rfl rfl (show 0 + 3 ≤ 3 by decide) rfl (AO.done ⟨rfl, ?_⟩)
                 exact AX.weaken (Wk.to (L := [(1, (ls eI p1)), (5, (.ptr 0 0 0 0)), (7, (.ptr 1 0 0 0))]) ⟨.rfl, .rfl, .rfl, trivial⟩) (AX.lst (by kernel_rfl) ((hA77 _ _ _).1 A77_0123456789abcd)) rfl)
               have A77_0123456789ab : A77 2 #[true, true, true, true, true, true, true, true, true, true, true, true, false, false] ⟨183, envL [(1, (ls eI p1)), (5, (.ptr 0 0 0 0)), (163, (.agg (eRDecl c76)))], [⟨0, 110, 5, [[(i64 p2.op), (i64 p2.num), (i64 p2.into), (ls eI p2.args), (ls eBlock p2.kids)]]⟩]⟩ := (hA77 _ _ _).2 (by
                refine AX.all [12] rfl (by kernel_rfl) (by decide) ⟨?_, trivial⟩
                ·refine AXs.of (i := 12) rfl rfl (by rfl) ?_
                 refine ao_alloc (m := 1) (st' := [⟨0, 110, 5, [[(i64 p2.op), (i64 p2.num), (i64 p2.into), (ls eI p2.args), (ls eBlock p2.kids)]]⟩, ⟨0, 97, 3, [[(i64 0), (i64 0), .zc]]⟩]) go0 zi97 rfl rfl (AO.done ⟨rfl, ?_⟩)
                 exact AX.weaken (Wk.to (L := [(1, (ls eI p1)), (5, (.ptr 0 0 0 0)), (7, (.ptr 1 0 0 0)), (163, (.agg (eRDecl c76)))]) ⟨.rfl, .rfl, .rfl, .rfl, trivial⟩) (AX.lst (by kernel_rfl) ((hA77 _ _ _).1 A77_0123456789abc)) rfl)
               have A77_0123456789ac : A77 2 #[true, true, true, true, true, true, true, true, true, true, true, false, true, false] ⟨183, envL [(1, (ls eI p1)), (5, (.ptr 0 0 0 0)), (7, (.ptr 1 0 0 0)), (162, (.iptr (eRDecl c76) 0))], [⟨0, 110, 5, [[(i64 p2.op), (i64 p2.num), (i64 p2.into), (ls eI p2.args), (ls eBlock p2.kids)]]⟩, ⟨0, 97, 3, [[(i64 0), (i64 0), .zc]]⟩]⟩ := (hA77 _ _ _).2 (by
                refine AX.all [11] rfl (by kernel_rfl) (by decide) ⟨?_, trivial⟩
                ·refine AXs.of (i := 11) rfl rfl (by rfl) ?_
                 refine zq tb rfl (AO.done ⟨rfl, ?_⟩)
                 exact AX.weaken (Wk.to (L := [(1, (ls eI p1)), (5, (.ptr 0 0 0 0)), (7, (.ptr 1 0 0 0)), (163, (.agg (eRDecl c76)))]) ⟨.rfl, .rfl, .rfl, .rfl, trivial⟩) (AX.lst (by kernel_rfl) ((hA77 _ _ _).1 A77_0123456789abc)) rfl)
               have A77_0123456789a : A77 3 #[true, true, true, true, true, true, true, true, true, true, true, false, false, false] ⟨183, envL [(1, (ls eI p1)), (5, (.ptr 0 0 0 0)), (162, (.iptr (eRDecl c76) 0))], [⟨0, 110, 5, [[(i64 p2.op), (i64 p2.num), (i64 p2.into), (ls eI p2.args), (ls eBlock p2.kids)]]⟩]⟩ := (hA77 _ _ _).2 (by
                refine AX.all [11, 12] rfl (by kernel_rfl) (by decide) ⟨?_, ?_, trivial⟩
                ·refine AXs.of (i := 11) rfl rfl (by rfl) ?_
                 refine zq tb rfl (AO.done ⟨rfl, ?_⟩)
                 exact AX.weaken (Wk.to (L := [(1, (ls eI p1)), (5, (.ptr 0 0 0 0)), (163, (.agg (eRDecl c76)))]) ⟨.rfl, .rfl, .rfl, trivial⟩) (AX.lst (by kernel_rfl) ((hA77 _ _ _).1 A77_0123456789ab)) rfl
                ·refine AXs.of (i := 12) rfl rfl (by rfl) ?_
                 refine ao_alloc (m := 1) (st' := [⟨0, 110, 5, [[(i64 p2.op), (i64 p2.num), (i64 p2.into), (ls eI p2.args), (ls eBlock p2.kids)]]⟩, ⟨0, 97, 3, [[(i64 0), (i64 0), .zc]]⟩]) go0 zi97 rfl rfl (AO.done ⟨rfl, ?_⟩)
                 exact AX.weaken (Wk.to (L := [(1, (ls eI p1)), (5, (.ptr 0 0 0 0)), (7, (.ptr 1 0 0 0)), (162, (.iptr (eRDecl c76) 0))]) ⟨.rfl, .rfl, .rfl, .rfl, trivial⟩) (AX.lst (by kernel_rfl) ((hA77 _ _ _).1 A77_0123456789ac)) rfl)
               have A77_0123456789c : A77 3 #[true, true, true, true, true, true, true, true, true, true, false, false, true, false] ⟨183, envL [(1, (ls eI p1)), (5, (.ptr 0 0 0 0)), (7, (.ptr 1 0 0 0)), (153, (ls eRDecl p0.decls)), (161, (i64 (Sh.w (c75 - 1))))], [⟨0, 110, 5, [[(i64 p2.op), (i64 p2.num), (i64 p2.into), (ls eI p2.args), (ls eBlock p2.kids)]]⟩, ⟨0, 97, 3, [[(i64 0), (i64 0), .zc]]⟩]⟩ := (hA77 _ _ _).2 (by
                refine AX.all [10] rfl (by kernel_rfl) (by decide) ⟨?_, trivial⟩
                ·refine AXs.of (i := 10) rfl rfl (by rfl) ?_
                 refine zx ei39 gc76 rfl rfl rfl (AO.done ⟨rfl, ?_⟩)
                 exact AX.weaken (Wk.to (L := [(1, (ls eI p1)), (5, (.ptr 0 0 0 0)), (7, (.ptr 1 0 0 0)), (162, (.iptr (eRDecl c76) 0))]) ⟨.rfl, .rfl, .rfl, .rfl, trivial⟩) (AX.lst (by kernel_rfl) ((hA77 _ _ _).1 A77_0123456789ac)) rfl)
               have A77_0123456789 : A77 4 #[true, true, true, true, true, true, true, true, true, true, false, false, false, false] ⟨183, envL [(1, (ls eI p1)), (5, (.ptr 0 0 0 0)), (153, (ls eRDecl p0.decls)), (161, (i64 (Sh.w (c75 - 1))))], [⟨0, 110, 5, [[(i64 p2.op), (i64 p2.num), (i64 p2.into), (ls eI p2.args), (ls eBlock p2.kids)]]⟩]⟩ := (hA77 _ _ _).2 (by
                refine AX.all [10, 12] rfl (by kernel_rfl) (by decide) ⟨?_, ?_, trivial⟩
                ·refine AXs.of (i := 10) rfl rfl (by rfl) ?_
                 refine zx ei39 gc76 rfl rfl rfl (AO.done ⟨rfl, ?_⟩)
                 exact AX.weaken (Wk.to (L := [(1, (ls eI p1)), (5, (.ptr 0 0 0 0)), (162, (.iptr (eRDecl c76) 0))]) ⟨.rfl, .rfl, .rfl, trivial⟩) (AX.lst (by kernel_rfl) ((hA77 _ _ _).1 A77_0123456789a)) rfl
                ·refine AXs.of (i := 12) rfl rfl (by rfl) ?_
                 refine ao_alloc (m := 1) (st' := [⟨0, 110, 5, [[(i64 p2.op), (i64 p2.num), (i64 p2.into), (ls eI p2.args), (ls eBlock p2.kids)]]⟩, ⟨0, 97, 3, [[(i64 0), (i64 0), .zc]]⟩]) go0 zi97 rfl rfl (AO.done ⟨rfl, ?_⟩)
                 exact AX.weaken (Wk.to (L := [(1, (ls eI p1)), (5, (.ptr 0 0 0 0)), (7, (.ptr 1 0 0 0)), (153, (ls eRDecl p0.decls)), (161, (i64 (Sh.w (c75 - 1))))]) ⟨.rfl, .rfl, .rfl, .rfl, .rfl, trivial⟩) (AX.lst (by kernel_rfl) ((hA77 _ _ _).1 A77_0123456789c)) rfl)
               have A77_012345678c : A77 4 #[true, true, true, true, true, true, true, true, true, false, false, false, true, false] ⟨183, envL [(1, (ls eI p1)), (5, (.ptr 0 0 0 0)), (7, (.ptr 1 0 0 0)), (153, (ls eRDecl p0.decls)), (160, (i64 c75))], [⟨0, 110, 5, [[(i64 p2.op), (i64 p2.num), (i64 p2.into), (ls eI p2.args), (ls eBlock p2.kids)]]⟩, ⟨0, 97, 3, [[(i64 0), (i64 0), .zc]]⟩]⟩ := (hA77 _ _ _).2 (by
                refine AX.all [9] rfl (by kernel_rfl) (by decide) ⟨?_, trivial⟩
                ·refine AXs.of (i := 9) rfl rfl (by rfl) ?_
                 refine zq tb rfl (AO.done ⟨rfl, ?_⟩)
                 exact AX.weaken (Wk.to (L := [(1, (ls eI p1)), (5, (.ptr 0 0 0 0)), (7, (.ptr 1 0 0 0)), (153, (ls eRDecl p0.decls)), (161, (i64 (Sh.w (c75 - 1))))]) ⟨.rfl, .rfl, .rfl, .rfl, .rfl, trivial⟩) (AX.lst (by kernel_rfl) ((hA77 _ _ _).1 A77_0123456789c)) rfl)
               have A77_012345678 : A77 5 #[true, true, true, true, true, true, true, true, true, false, false, false, false, false] ⟨183, envL [(1, (ls eI p1)), (5, (.ptr 0 0 0 0)), (153, (ls eRDecl p0.decls)), (160, (i64 c75))], [⟨0, 110, 5, [[(i64 p2.op), (i64 p2.num), (i64 p2.into), (ls eI p2.args), (ls eBlock p2.kids)]]⟩]⟩ := (hA77 _ _ _).2 (by
                refine AX.all [9, 12] rfl (by kernel_rfl) (by decide) ⟨?_, ?_, trivial⟩
                ·refine AXs.of (i := 9) rfl rfl (by rfl) ?_
                 refine zq tb rfl (AO.done ⟨rfl, ?_⟩)
                 exact AX.weaken (Wk.to (L := [(1, (ls eI p1)), (5, (.ptr 0 0 0 0)), (153, (ls eRDecl p0.decls)), (161, (i64 (Sh.w (c75 - 1))))]) ⟨.rfl, .rfl, .rfl, .rfl, trivial⟩) (AX.lst (by kernel_rfl) ((hA77 _ _ _).1 A77_0123456789)) rfl
                ·refine AXs.of (i := 12) rfl rfl (by rfl) ?_
                 refine ao_alloc (m := 1) (st' := [⟨0, 110, 5, [[(i64 p2.op), (i64 p2.num), (i64 p2.into), (ls eI p2.args), (ls eBlock p2.kids)]]⟩, ⟨0, 97, 3, [[(i64 0), (i64 0), .zc]]⟩]) go0 zi97 rfl rfl (AO.done ⟨rfl, ?_⟩)
                 exact AX.weaken (Wk.to (L := [(1, (ls eI p1)), (5, (.ptr 0 0 0 0)), (7, (.ptr 1 0 0 0)), (153, (ls eRDecl p0.decls)), (160, (i64 c75))]) ⟨.rfl, .rfl, .rfl, .rfl, .rfl, trivial⟩) (AX.lst (by kernel_rfl) ((hA77 _ _ _).1 A77_012345678c)) rfl)
               have A77_01234567c : A77 5 #[true, true, true, true, true, true, true, true, false, false, false, false, true, false] ⟨183, envL [(1, (ls eI p1)), (5, (.ptr 0 0 0 0)), (7, (.ptr 1 0 0 0)), (153, (ls eRDecl p0.decls)), (159, (.iptr (eI c75) 0))], [⟨0, 110, 5, [[(i64 p2.op), (i64 p2.num), (i64 p2.into), (ls eI p2.args), (ls eBlock p2.kids)]]⟩, ⟨0, 97, 3, [[(i64 0), (i64 0), .zc]]⟩]⟩ := (hA77 _ _ _).2 (by
                refine AX.all [8] rfl (by kernel_rfl) (by decide) ⟨?_, trivial⟩
                ·refine AXs.of (i := 8) rfl rfl (by rfl) ?_
                 refine zq tb rfl (AO.done ⟨rfl, ?_⟩)
                 exact AX.weaken (Wk.to (L := [(1, (ls eI p1)), (5, (.ptr 0 0 0 0)), (7, (.ptr 1 0 0 0)), (153, (ls eRDecl p0.decls)), (160, (i64 c75))]) ⟨.rfl, .rfl, .rfl, .rfl, .rfl, trivial⟩) (AX.lst (by kernel_rfl) ((hA77 _ _ _).1 A77_012345678c)) rfl)
               have A77_01234567 : A77 6 #[true, true, true, true, true, true, true, true, false, false, false, false, false, false] ⟨183, envL [(1, (ls eI p1)), (5, (.ptr 0 0 0 0)), (153, (ls eRDecl p0.decls)), (159, (.iptr (eI c75) 0))], [⟨0, 110, 5, [[(i64 p2.op), (i64 p2.num), (i64 p2.into), (ls eI p2.args), (ls eBlock p2.kids)]]⟩]⟩ := (hA77 _ _ _).2 (by
                refine AX.all [8, 12] rfl (by kernel_rfl) (by decide) ⟨?_, ?_, trivial⟩
                ·refine AXs.of (i := 8) rfl rfl (by rfl) ?_
                 refine zq tb rfl (AO.done ⟨rfl, ?_⟩)
                 exact AX.weaken (Wk.to (L := [(1, (ls eI p1)), (5, (.ptr 0 0 0 0)), (153, (ls eRDecl p0.decls)), (160, (i64 c75))]) ⟨.rfl, .rfl, .rfl, .rfl, trivial⟩) (AX.lst (by kernel_rfl) ((hA77 _ _ _).1 A77_012345678)) rfl
                ·refine AXs.of (i := 12) rfl rfl (by rfl) ?_
                 refine ao_alloc (m := 1) (st' := [⟨0, 110, 5, [[(i64 p2.op), (i64 p2.num), (i64 p2.into), (ls eI p2.args), (ls eBlock p2.kids)]]⟩, ⟨0, 97, 3, [[(i64 0), (i64 0), .zc]]⟩]) go0 zi97 rfl rfl (AO.done ⟨rfl, ?_⟩)
                 exact AX.weaken (Wk.to (L := [(1, (ls eI p1)), (5, (.ptr 0 0 0 0)), (7, (.ptr 1 0 0 0)), (153, (ls eRDecl p0.decls)), (159, (.iptr (eI c75) 0))]) ⟨.rfl, .rfl, .rfl, .rfl, .rfl, trivial⟩) (AX.lst (by kernel_rfl) ((hA77 _ _ _).1 A77_01234567c)) rfl)
               have A77_0123456c : A77 6 #[true, true, true, true, true, true, true, false, false, false, false, false, true, false] ⟨183, envL [(1, (ls eI p1)), (5, (.ptr 0 0 0 0)), (7, (.ptr 1 0 0 0)), (153, (ls eRDecl p0.decls)), (154, (ls eI p1)), (158, (i64 c74))], [⟨0, 110, 5, [[(i64 p2.op), (i64 p2.num), (i64 p2.into), (ls eI p2.args), (ls eBlock p2.kids)]]⟩, ⟨0, 97, 3, [[(i64 0), (i64 0), .zc]]⟩]⟩ := (hA77 _ _ _).2 (by
                refine AX.all [7] rfl (by kernel_rfl) (by decide) ⟨?_, trivial⟩
                ·refine AXs.of (i := 7) rfl rfl (by rfl) ?_
                 refine zx ei22 gc75 rfl rfl rfl (AO.done ⟨rfl, ?_⟩)
                 exact AX.weaken (Wk.to (L := [(1, (ls eI p1)), (5, (.ptr 0 0 0 0)), (7, (.ptr 1 0 0 0)), (153, (ls eRDecl p0.decls)), (159, (.iptr (eI c75) 0))]) ⟨.rfl, .rfl, .rfl, .rfl, .rfl, trivial⟩) (AX.lst (by kernel_rfl) ((hA77 _ _ _).1 A77_01234567c)) rfl)
               have A77_0123456 : A77 7 #[true, true, true, true, true, true, true, false, false, false, false, false, false, false] ⟨183, envL [(1, (ls eI p1)), (5, (.ptr 0 0 0 0)), (153, (ls eRDecl p0.decls)), (154, (ls eI p1)), (158, (i64 c74))], [⟨0, 110, 5, [[(i64 p2.op), (i64 p2.num), (i64 p2.into), (ls eI p2.args), (ls eBlock p2.kids)]]⟩]⟩ := (hA77 _ _ _).2 (by
                refine AX.all [7, 12] rfl (by kernel_rfl) (by decide) ⟨?_, ?_, trivial⟩
                ·refine AXs.of (i := 7) rfl rfl (by rfl) ?_
                 refine zx ei22 gc75 rfl rfl rfl (AO.done ⟨rfl, ?_⟩)
                 exact AX.weaken (Wk.to (L := [(1, (ls eI p1)), (5, (.ptr 0 0 0 0)), (153, (ls eRDecl p0.decls)), (159, (.iptr (eI c75) 0))]) ⟨.rfl, .rfl, .rfl, .rfl, trivial⟩) (AX.lst (by kernel_rfl) ((hA77 _ _ _).1 A77_01234567)) rfl
                ·refine AXs.of (i := 12) rfl rfl (by rfl) ?_
                 refine ao_alloc (m := 1) (st' := [⟨0, 110, 5, [[(i64 p2.op), (i64 p2.num), (i64 p2.into), (ls eI p2.args), (ls eBlock p2.kids)]]⟩, ⟨0, 97, 3, [[(i64 0), (i64 0), .zc]]⟩]) go0 zi97 rfl rfl (AO.done ⟨rfl, ?_⟩)
                 exact AX.weaken (Wk.to (L := [(1, (ls eI p1)), (5, (.ptr 0 0 0 0)), (7, (.ptr 1 0 0 0)), (153, (ls eRDecl p0.decls)), (154, (ls eI p1)), (158, (i64 c74))]) ⟨.rfl, .rfl, .rfl, .rfl, .rfl, .rfl, trivial⟩) (AX.lst (by kernel_rfl) ((hA77 _ _ _).1 A77_0123456c)) rfl)
               have A77_012345c : A77 7 #[true, true, true, true, true, true, false, false, false, false, false, false, true, false] ⟨183, envL [(1, (ls eI p1)), (5, (.ptr 0 0 0 0)), (7, (.ptr 1 0 0 0)), (153, (ls eRDecl p0.decls)), (154, (ls eI p1)), (157, (.iptr (eI c74) 0))], [⟨0, 110, 5, [[(i64 p2.op), (i64 p2.num), (i64 p2.into), (ls eI p2.args), (ls eBlock p2.kids)]]⟩, ⟨0, 97, 3, [[(i64 0), (i64 0), .zc]]⟩]⟩ := (hA77 _ _ _).2 (by
                refine AX.all [6] rfl (by kernel_rfl) (by decide) ⟨?_, trivial⟩
                ·refine AXs.of (i := 6) rfl rfl (by rfl) ?_
                 refine zq tb rfl (AO.done ⟨rfl, ?_⟩)
                 exact AX.weaken (Wk.to (L := [(1, (ls eI p1)), (5, (.ptr 0 0 0 0)), (7, (.ptr 1 0 0 0)), (153, (ls eRDecl p0.decls)), (154, (ls eI p1)), (158, (i64 c74))]) ⟨.rfl, .rfl, .rfl, .rfl, .rfl, .rfl, trivial⟩) (AX.lst (by kernel_rfl) ((hA77 _ _ _).1 A77_0123456c)) rfl)
               have A77_012345 : A77 8 #[true, true, true, true, true, true, false, false, false, false, false, false, false, false] ⟨183, envL [(1, (ls eI p1)), (5, (.ptr 0 0 0 0)), (153, (ls eRDecl p0.decls)), (154, (ls eI p1)), (157, (.iptr (eI c74) 0))], [⟨0, 110, 5, [[(i64 p2.op), (i64 p2.num), (i64 p2.into), (ls eI p2.args), (ls eBlock p2.kids)]]⟩]⟩ := (hA77 _ _ _).2 (by
                refine AX.all [6, 12] rfl (by kernel_rfl) (by decide) ⟨?_, ?_, trivial⟩
                ·refine AXs.of (i := 6) rfl rfl (by rfl) ?_
                 refine zq tb rfl (AO.done ⟨rfl, ?_⟩)
                 exact AX.weaken (Wk.to (L := [(1, (ls eI p1)), (5, (.ptr 0 0 0 0)), (153, (ls eRDecl p0.decls)), (154, (ls eI p1)), (158, (i64 c74))]) ⟨.rfl, .rfl, .rfl, .rfl, .rfl, trivial⟩) (AX.lst (by kernel_rfl) ((hA77 _ _ _).1 A77_0123456)) rfl
                ·refine AXs.of (i := 12) rfl rfl (by rfl) ?_
                 refine ao_alloc (m := 1) (st' := [⟨0, 110, 5, [[(i64 p2.op), (i64 p2.num), (i64 p2.into), (ls eI p2.args), (ls eBlock p2.kids)]]⟩, ⟨0, 97, 3, [[(i64 0), (i64 0), .zc]]⟩]) go0 zi97 rfl rfl (AO.done ⟨rfl, ?_⟩)
                 exact AX.weaken (Wk.to (L := [(1, (ls eI p1)), (5, (.ptr 0 0 0 0)), (7, (.ptr 1 0 0 0)), (153, (ls eRDecl p0.decls)), (154, (ls eI p1)), (157, (.iptr (eI c74) 0))]) ⟨.rfl, .rfl, .rfl, .rfl, .rfl, .rfl, trivial⟩) (AX.lst (by kernel_rfl) ((hA77 _ _ _).1 A77_012345c)) rfl)
               have A77_01234c : A77 8 #[true, true, true, true, true, false, false, false, false, false, false, false, true, false] ⟨183, envL [(1, (ls eI p1)), (5, (.ptr 0 0 0 0)), (7, (.ptr 1 0 0 0)), (153, (ls eRDecl p0.decls)), (154, (ls eI p1)), (156, (ls eI p2.args))], [⟨0, 110, 5, [[(i64 p2.op), (i64 p2.num), (i64 p2.into), (ls eI p2.args), (ls eBlock p2.kids)]]⟩, ⟨0, 97, 3, [[(i64 0), (i64 0), .zc]]⟩]⟩ := (hA77 _ _ _).2 (by
                refine AX.all [5] rfl (by kernel_rfl) (by decide) ⟨?_, trivial⟩
                ·refine AXs.of (i := 5) rfl rfl (by rfl) ?_
                 refine zx ei22 gc74 rfl rfl rfl (AO.done ⟨rfl, ?_⟩)
                 exact AX.weaken (Wk.to (L := [(1, (ls eI p1)), (5, (.ptr 0 0 0 0)), (7, (.ptr 1 0 0 0)), (153, (ls eRDecl p0.decls)), (154, (ls eI p1)), (157, (.iptr (eI c74) 0))]) ⟨.rfl, .rfl, .rfl, .rfl, .rfl, .rfl, trivial⟩) (AX.lst (by kernel_rfl) ((hA77 _ _ _).1 A77_012345c)) rfl)
               have A77_01234 : A77 9 #[true, true, true, true, true, false, false, false, false, false, false, false, false, false] ⟨183, envL [(1, (ls eI p1)), (5, (.ptr 0 0 0 0)), (153, (ls eRDecl p0.decls)), (154, (ls eI p1)), (156, (ls eI p2.args))], [⟨0, 110, 5, [[(i64 p2.op), (i64 p2.num), (i64 p2.into), (ls eI p2.args), (ls eBlock p2.kids)]]⟩]⟩ := (hA77 _ _ _).2 (by
                refine AX.all [5, 12] rfl (by kernel_rfl) (by decide) ⟨?_, ?_, trivial⟩
                ·refine AXs.of (i := 5) rfl rfl (by rfl) ?_
                 refine zx ei22 gc74 rfl rfl rfl (AO.done ⟨rfl, ?_⟩)
                 exact AX.weaken (Wk.to (L := [(1, (ls eI p1)), (5, (.ptr 0 0 0 0)), (153, (ls eRDecl p0.decls)), (154, (ls eI p1)), (157, (.iptr (eI c74) 0))]) ⟨.rfl, .rfl, .rfl, .rfl, .rfl, trivial⟩) (AX.lst (by kernel_rfl) ((hA77 _ _ _).1 A77_012345)) rfl
                ·refine AXs.of (i := 12) rfl rfl (by rfl) ?_
                 refine ao_alloc (m := 1) (st' := [⟨0, 110, 5, [[(i64 p2.op), (i64 p2.num), (i64 p2.into), (ls eI p2.args), (ls eBlock p2.kids)]]⟩, ⟨0, 97, 3, [[(i64 0), (i64 0), .zc]]⟩]) go0 zi97 rfl rfl (AO.done ⟨rfl, ?_⟩)
                 exact AX.weaken (Wk.to (L := [(1, (ls eI p1)), (5, (.ptr 0 0 0 0)), (7, (.ptr 1 0 0 0)), (153, (ls eRDecl p0.decls)), (154, (ls eI p1)), (156, (ls eI p2.args))]) ⟨.rfl, .rfl, .rfl, .rfl, .rfl, .rfl, trivial⟩) (AX.lst (by kernel_rfl) ((hA77 _ _ _).1 A77_01234c)) rfl)
               have A77_0123c : A77 9 #[true, true, true, true, false, false, false, false, false, false, false, false, true, false] ⟨183, envL [(1, (ls eI p1)), (5, (.ptr 0 0 0 0)), (7, (.ptr 1 0 0 0)), (153, (ls eRDecl p0.decls)), (154, (ls eI p1)), (155, (.ptr 0 0 0 3))], [⟨0, 110, 5, [[(i64 p2.op), (i64 p2.num), (i64 p2.into), (ls eI p2.args), (ls eBlock p2.kids)]]⟩, ⟨0, 97, 3, [[(i64 0), (i64 0), .zc]]⟩]⟩ := (hA77 _ _ _).2 (by
                refine AX.all [4] rfl (by kernel_rfl) (by decide) ⟨?_, trivial⟩
                ·refine AXs.of (i := 4) rfl rfl (by rfl) ?_
                 refine zq tb rfl (AO.done ⟨rfl, ?_⟩)
                 exact AX.weaken (Wk.to (L := [(1, (ls eI p1)), (5, (.ptr 0 0 0 0)), (7, (.ptr 1 0 0 0)), (153, (ls eRDecl p0.decls)), (154, (ls eI p1)), (156, (ls eI p2.args))]) ⟨.rfl, .rfl, .rfl, .rfl, .rfl, .rfl, trivial⟩) (AX.lst (by kernel_rfl) ((hA77 _ _ _).1 A77_01234c)) rfl)
               have A77_0123 : A77 10 #[true, true, true, true, false, false, false, false, false, false, false, false, false, false] ⟨183, envL [(1, (ls eI p1)), (5, (.ptr 0 0 0 0)), (153, (ls eRDecl p0.decls)), (154, (ls eI p1)), (155, (.ptr 0 0 0 3))], [⟨0, 110, 5, [[(i64 p2.op), (i64 p2.num), (i64 p2.into), (ls eI p2.args), (ls eBlock p2.kids)]]⟩]⟩ := (hA77 _ _ _).2 (by
                refine AX.all [4, 12] rfl (by kernel_rfl) (by decide) ⟨?_, ?_, trivial⟩
                ·refine AXs.of (i := 4) rfl rfl (by rfl) ?_
                 refine zq tb rfl (AO.done ⟨rfl, ?_⟩)
                 exact AX.weaken (Wk.to (L := [(1, (ls eI p1)), (5, (.ptr 0 0 0 0)), (153, (ls eRDecl p0.decls)), (154, (ls eI p1)), (156, (ls eI p2.args))]) ⟨.rfl, .rfl, .rfl, .rfl, .rfl, trivial⟩) (AX.lst (by kernel_rfl) ((hA77 _ _ _).1 A77_01234)) rfl
                ·refine AXs.of (i := 12) rfl rfl (by rfl) ?_
                 refine ao_alloc (m := 1) (st' := [⟨0, 110, 5, [[(i64 p2.op), (i64 p2.num), (i64 p2.into), (ls eI p2.args), (ls eBlock p2.kids)]]⟩, ⟨0, 97, 3, [[(i64 0), (i64 0), .zc]]⟩]) go0 zi97 rfl rfl (AO.done ⟨rfl, ?_⟩)
                 exact AX.weaken (Wk.to (L := [(1, (ls eI p1)), (5, (.ptr 0 0 0 0)), (7, (.ptr 1 0 0 0)), (153, (ls eRDecl p0.decls)), (154, (ls eI p1)), (155, (.ptr 0 0 0 3))]) ⟨.rfl, .rfl, .rfl, .rfl, .rfl, .rfl, trivial⟩) (AX.lst (by kernel_rfl) ((hA77 _ _ _).1 A77_0123c)) rfl)
               have A77_012c : A77 10 #[true, true, true, false, false, false, false, false, false, false, false, false, true, false] ⟨183, envL [(1, (ls eI p1)), (5, (.ptr 0 0 0 0)), (7, (.ptr 1 0 0 0)), (153, (ls eRDecl p0.decls)), (154, (ls eI p1))], [⟨0, 110, 5, [[(i64 p2.op), (i64 p2.num), (i64 p2.into), (ls eI p2.args), (ls eBlock p2.kids)]]⟩, ⟨0, 97, 3, [[(i64 0), (i64 0), .zc]]⟩]⟩ := (hA77 _ _ _).2 (by
                refine AX.all [3] rfl (by kernel_rfl) (by decide) ⟨?_, trivial⟩
                ·refine AXs.of (i := 3) rfl rfl (by rfl) ?_
                 refine zq tb rfl (AO.done ⟨rfl, ?_⟩)
                 exact AX.weaken (Wk.to (L := [(1, (ls eI p1)), (5, (.ptr 0 0 0 0)), (7, (.ptr 1 0 0 0)), (153, (ls eRDecl p0.decls)), (154, (ls eI p1)), (155, (.ptr 0 0 0 3))]) ⟨.rfl, .rfl, .rfl, .rfl, .rfl, .rfl, trivial⟩) (AX.lst (by kernel_rfl) ((hA77 _ _ _).1 A77_0123c)) rfl)
               have A77_012 : A77 11 #[true, true, true, false, false, false, false, false, false, false, false, false, false, false] ⟨183, envL [(1, (ls eI p1)), (5, (.ptr 0 0 0 0)), (153, (ls eRDecl p0.decls)), (154, (ls eI p1))], [⟨0, 110, 5, [[(i64 p2.op), (i64 p2.num), (i64 p2.into), (ls eI p2.args), (ls eBlock p2.kids)]]⟩]⟩ := (hA77 _ _ _).2 (by
                refine AX.all [3, 12] rfl (by kernel_rfl) (by decide) ⟨?_, ?_, trivial⟩
                ·refine AXs.of (i := 3) rfl rfl (by rfl) ?_
                 refine zq tb rfl (AO.done ⟨rfl, ?_⟩)
                 exact AX.weaken (Wk.to (L := [(1, (ls eI p1)), (5, (.ptr 0 0 0 0)), (153, (ls eRDecl p0.decls)), (154, (ls eI p1)), (155, (.ptr 0 0 0 3))]) ⟨.rfl, .rfl, .rfl, .rfl, .rfl, trivial⟩) (AX.lst (by kernel_rfl) ((hA77 _ _ _).1 A77_0123)) rfl
                ·refine AXs.of (i := 12) rfl rfl (by rfl) ?_
                 refine ao_alloc (m := 1) (st' := [⟨0, 110, 5, [[(i64 p2.op), (i64 p2.num), (i64 p2.into), (ls eI p2.args), (ls eBlock p2.kids)]]⟩, ⟨0, 97, 3, [[(i64 0), (i64 0), .zc]]⟩]) go0 zi97 rfl rfl (AO.done ⟨rfl, ?_⟩)
                 exact AX.weaken (Wk.to (L := [(1, (ls eI p1)), (5, (.ptr 0 0 0 0)), (7, (.ptr 1 0 0 0)), (153, (ls eRDecl p0.decls)), (154, (ls eI p1))]) ⟨.rfl, .rfl, .rfl, .rfl, .rfl, trivial⟩) (AX.lst (by kernel_rfl) ((hA77 _ _ _).1 A77_012c)) rfl)
               have A77_023456789c : A77 4 #[true, false, true, true, true, true, true, true, true, true, false, false, true, false] ⟨183, envL [(1, (ls eI p1)), (5, (.ptr 0 0 0 0)), (7, (.ptr 1 0 0 0)), (152, (.ptr 2 0 0 0)), (161, (i64 (Sh.w (c75 - 1))))], [⟨0, 110, 5, [[(i64 p2.op), (i64 p2.num), (i64 p2.into), (ls eI p2.args), (ls eBlock p2.kids)]]⟩, ⟨0, 97, 3, [[(i64 0), (i64 0), .zc]]⟩, ⟨0, 42, 2, [[(ls eRDecl p0.decls), (ls eRRoutine p0.routines)]]⟩]⟩ := (hA77 _ _ _).2 (by
                refine AX.all [1] rfl (by kernel_rfl) (by decide) ⟨?_, trivial⟩
                ·refine AXs.of (i := 1) rfl rfl (by rfl) ?_
                 refine zq tb rfl (AO.done ⟨rfl, ?_⟩)
                 exact AX.weaken (by refine Wk.trans (Wk.permk (L := [(1, (ls eI p1)), (5, (.ptr 0 0 0 0)), (7, (.ptr 1 0 0 0)), (153, (ls eRDecl p0.decls)), (161, (i64 (Sh.w (c75 - 1))))]) (st' := [⟨0, 110, 5, [[(i64 p2.op), (i64 p2.num), (i64 p2.into), (ls eI p2.args), (ls eBlock p2.kids)]]⟩, ⟨0, 97, 3, [[(i64 0), (i64 0), .zc]]⟩]) (st1 := [⟨0, 110, 5, [[(i64 p2.op), (i64 p2.num), (i64 p2.into), (ls eI p2.args), (ls eBlock p2.kids)]]⟩, ⟨0, 97, 3, [[(i64 0), (i64 0), .zc]]⟩]) [0, 1] rfl .nil (by decide) rfl rfl (.raw rfl rfl (.raw rfl rfl .nil)) ⟨.rfl, .rfl, .rfl, .rfl, .rfl, trivial⟩) ?_; exact Wk.to (L := [(1, (ls eI p1)), (5, (.ptr 0 0 0 0)), (7, (.ptr 1 0 0 0)), (153, (ls eRDecl p0.decls)), (161, (i64 (Sh.w (c75 - 1))))]) ⟨.rfl, .rfl, .rfl, .rfl, .rfl, trivial⟩) (AX.lst (by kernel_rfl) ((hA77 _ _ _).1 A77_0123456789c)) rfl)
               have A77_023456789 : A77 5 #[true, false, true, true, true, true, true, true, true, true, false, false, false, false] ⟨183, envL [(1, (ls eI p1)), (5, (.ptr 0 0 0 0)), (152, (.ptr 1 0 0 0)), (161, (i64 (Sh.w (c75 - 1))))], [⟨0, 110, 5, [[(i64 p2.op), (i64 p2.num), (i64 p2.into), (ls eI p2.args), (ls eBlock p2.kids)]]⟩, ⟨0, 42, 2, [[(ls eRDecl p0.decls), (ls eRRoutine p0.routines)]]⟩]⟩ := (hA77 _ _ _).2 (by
                refine AX.all [1, 12] rfl (by kernel_rfl) (by decide) ⟨?_, ?_, trivial⟩
                ·refine AXs.of (i := 1) rfl rfl (by rfl) ?_
                 refine zq tb rfl (AO.done ⟨rfl, ?_⟩)
                 exact AX.weaken (by refine Wk.trans (Wk.permk (L := [(1, (ls eI p1)), (5, (.ptr 0 0 0 0)), (153, (ls eRDecl p0.decls)), (161, (i64 (Sh.w (c75 - 1))))]) (st' := [⟨0, 110, 5, [[(i64 p2.op), (i64 p2.num), (i64 p2.into), (ls eI p2.args), (ls eBlock p2.kids)]]⟩]) (st1 := [⟨0, 110, 5, [[(i64 p2.op), (i64 p2.num), (i64 p2.into), (ls eI p2.args), (ls eBlock p2.kids)]]⟩]) [0] rfl .nil (by decide) rfl rfl (.raw rfl rfl .nil) ⟨.rfl, .rfl, .rfl, .rfl, trivial⟩) ?_; exact Wk.to (L := [(1, (ls eI p1)), (5, (.ptr 0 0 0 0)), (153, (ls eRDecl p0.decls)), (161, (i64 (Sh.w (c75 - 1))))]) ⟨.rfl, .rfl, .rfl, .rfl, trivial⟩) (AX.lst (by kernel_rfl) ((hA77 _ _ _).1 A77_0123456789)) rfl
                ·refine AXs.of (i := 12) rfl rfl (by rfl) ?_
                 refine ao_alloc (m := 2) (st' := [⟨0, 110, 5, [[(i64 p2.op), (i64 p2.num), (i64 p2.into), (ls eI p2.args), (ls eBlock p2.kids)]]⟩, ⟨0, 42, 2, [[(ls eRDecl p0.decls), (ls eRRoutine p0.routines)]]⟩, ⟨0, 97, 3, [[(i64 0), (i64 0), .zc]]⟩]) go0 zi97 rfl rfl (AO.done ⟨rfl, ?_⟩)
                 exact AX.weaken (by refine Wk.trans (Wk.permk (L := [(1, (ls eI p1)), (5, (.ptr 0 0 0 0)), (7, (.ptr 1 0 0 0)), (152, (.ptr 2 0 0 0)), (161, (i64 (Sh.w (c75 - 1))))]) (st' := [⟨0, 110, 5, [[(i64 p2.op), (i64 p2.num), (i64 p2.into), (ls eI p2.args), (ls eBlock p2.kids)]]⟩, ⟨0, 97, 3, [[(i64 0), (i64 0), .zc]]⟩, ⟨0, 42, 2, [[(ls eRDecl p0.decls), (ls eRRoutine p0.routines)]]⟩]) (st1 := [⟨0, 110, 5, [[(i64 p2.op), (i64 p2.num), (i64 p2.into), (ls eI p2.args), (ls eBlock p2.kids)]]⟩, ⟨0, 97, 3, [[(i64 0), (i64 0), .zc]]⟩, ⟨0, 42, 2, [[(ls eRDecl p0.decls), (ls eRRoutine p0.routines)]]⟩]) [0, 2, 1] rfl .nil (by decide) rfl rfl (.raw rfl rfl (.raw rfl rfl (.raw rfl rfl .nil))) ⟨.rfl, .rfl, .rfl, .rfl, .rfl, trivial⟩) ?_; exact Wk.to (L := [(1, (ls eI p1)), (5, (.ptr 0 0 0 0)), (7, (.ptr 1 0 0 0)), (152, (.ptr 2 0 0 0)), (161, (i64 (Sh.w (c75 - 1))))]) ⟨.rfl, .rfl, .rfl, .rfl, .rfl, trivial⟩) (AX.lst (by kernel_rfl) ((hA77 _ _ _).1 A77_023456789c)) rfl)
               have A77_02345678c : A77 5 #[true, false, true, true, true, true, true, true, true, false, false, false, true, false] ⟨183, envL [(1, (ls eI p1)), (5, (.ptr 0 0 0 0)), (7, (.ptr 1 0 0 0)), (152, (.ptr 2 0 0 0)), (160, (i64 c75))], [⟨0, 110, 5, [[(i64 p2.op), (i64 p2.num), (i64 p2.into), (ls eI p2.args), (ls eBlock p2.kids)]]⟩, ⟨0, 97, 3, [[(i64 0), (i64 0), .zc]]⟩, ⟨0, 42, 2, [[(ls eRDecl p0.decls), (ls eRRoutine p0.routines)]]⟩]⟩ := (hA77 _ _ _).2 (by
                refine AX.all [1, 9] rfl (by kernel_rfl) (by decide) ⟨?_, ?_, trivial⟩
                ·refine AXs.of (i := 1) rfl rfl (by rfl) ?_
                 refine zq tb rfl (AO.done ⟨rfl, ?_⟩)
                 exact AX.weaken (by refine Wk.trans (Wk.permk (L := [(1, (ls eI p1)), (5, (.ptr 0 0 0 0)), (7, (.ptr 1 0 0 0)), (153, (ls eRDecl p0.decls)), (160, (i64 c75))]) (st' := [⟨0, 110, 5, [[(i64 p2.op), (i64 p2.num), (i64 p2.into), (ls eI p2.args), (ls eBlock p2.kids)]]⟩, ⟨0, 97, 3, [[(i64 0), (i64 0), .zc]]⟩]) (st1 := [⟨0, 110, 5, [[(i64 p2.op), (i64 p2.num), (i64 p2.into), (ls eI p2.args), (ls eBlock p2.kids)]]⟩, ⟨0, 97, 3, [[(i64 0), (i64 0), .zc]]⟩]) [0, 1] rfl .nil (by decide) rfl rfl (.raw rfl rfl (.raw rfl rfl .nil)) ⟨.rfl, .rfl, .rfl, .rfl, .rfl, trivial⟩) ?_; exact Wk.to (L := [(1, (ls eI p1)), (5, (.ptr 0 0 0 0)), (7, (.ptr 1 0 0 0)), (153, (ls eRDecl p0.decls)), (160, (i64 c75))]) ⟨.rfl, .rfl, .rfl, .rfl, .rfl, trivial⟩) (AX.lst (by kernel_rfl) ((hA77 _ _ _).1 A77_012345678c)) rfl
                ·refine AXs.of (i := 9) rfl rfl (by rfl) ?_
                 refine zq tb rfl (AO.done ⟨rfl, ?_⟩)
                 exact AX.weaken (Wk.to (L := [(1, (ls eI p1)), (5, (.ptr 0 0 0 0)), (7, (.ptr 1 0 0 0)), (152, (.ptr 2 0 0 0)), (161, (i64 (Sh.w (c75 - 1))))]) ⟨.rfl, .rfl, .rfl, .rfl, .rfl, trivial⟩) (AX.lst (by kernel_rfl) ((hA77 _ _ _).1 A77_023456789c)) rfl)
               have A77_02345678 : A77 6 #[true, false, true, true, true, true, true, true, true, false, false, false, false, false] ⟨183, envL [(1, (ls eI p1)), (5, (.ptr 0 0 0 0)), (152, (.ptr 1 0 0 0)), (160, (i64 c75))], [⟨0, 110, 5, [[(i64 p2.op), (i64 p2.num), (i64 p2.into), (ls eI p2.args), (ls eBlock p2.kids)]]⟩, ⟨0, 42, 2, [[(ls eRDecl p0.decls), (ls eRRoutine p0.routines)]]⟩]⟩ := (hA77 _ _ _).2 (by
                refine AX.all [1, 9, 12] rfl (by kernel_rfl) (by decide) ⟨?_, ?_, ?_, trivial⟩
                ·refine AXs.of (i := 1) rfl rfl (by rfl) ?_
                 refine zq tb rfl (AO.done ⟨rfl, ?_⟩)
                 exact AX.weaken (by refine Wk.trans (Wk.permk (L := [(1, (ls eI p1)), (5, (.ptr 0 0 0 0)), (153, (ls eRDecl p0.decls)), (160, (i64 c75))]) (st' := [⟨0, 110, 5, [[(i64 p2.op), (i64 p2.num), (i64 p2.into), (ls eI p2.args), (ls eBlock p2.kids)]]⟩]) (st1 := [⟨0, 110, 5, [[(i64 p2.op), (i64 p2.num), (i64 p2.into), (ls eI p2.args), (ls eBlock p2.kids)]]⟩]) [0] rfl .nil (by decide) rfl rfl (.raw rfl rfl .nil) ⟨.rfl, .rfl, .rfl, .rfl, trivial⟩) ?_; exact Wk.to (L := [(1, (ls eI p1)), (5, (.ptr 0 0 0 0)), (153, (ls eRDecl p0.decls)), (160, (i64 c75))]) ⟨.rfl, .rfl, .rfl, .rfl, trivial⟩) (AX.lst (by kernel_rfl) ((hA77 _ _ _).1 A77_012345678)) rfl
                ·refine AXs.of (i := 9) rfl rfl (by rfl) ?_
                 refine zq tb rfl (AO.done ⟨rfl, ?_⟩)
                 exact AX.weaken (Wk.to (L := [(1, (ls eI p1)), (5, (.ptr 0 0 0 0)), (152, (.ptr 1 0 0 0)), (161, (i64 (Sh.w (c75 - 1))))]) ⟨.rfl, .rfl, .rfl, .rfl, trivial⟩) (AX.lst (by kernel_rfl) ((hA77 _ _ _).1 A77_023456789)) rfl
                ·refine AXs.of (i := 12) rfl rfl (by rfl) ?_
                 refine ao_alloc (m := 2) (st' := [⟨0, 110, 5, [[(i64 p2.op), (i64 p2.num), (i64 p2.into), (ls eI p2.args), (ls eBlock p2.kids)]]⟩, ⟨0, 42, 2, [[(ls eRDecl p0.decls), (ls eRRoutine p0.routines)]]⟩, ⟨0, 97, 3, [[(i64 0), (i64 0), .zc]]⟩]) go0 zi97 rfl rfl (AO.done ⟨rfl, ?_⟩)
                 exact AX.weaken (by refine Wk.trans (Wk.permk (L := [(1, (ls eI p1)), (5, (.ptr 0 0 0 0)), (7, (.ptr 1 0 0 0)), (152, (.ptr 2 0 0 0)), (160, (i64 c75))]) (st' := [⟨0, 110, 5, [[(i64 p2.op), (i64 p2.num), (i64 p2.into), (ls eI p2.args), (ls eBlock p2.kids)]]⟩, ⟨0, 97, 3, [[(i64 0), (i64 0), .zc]]⟩, ⟨0, 42, 2, [[(ls eRDecl p0.decls), (ls eRRoutine p0.routines)]]⟩]) (st1 := [⟨0, 110, 5, [[(i64 p2.op), (i64 p2.num), (i64 p2.into), (ls eI p2.args), (ls eBlock p2.kids)]]⟩, ⟨0, 97, 3, [[(i64 0), (i64 0), .zc]]⟩, ⟨0, 42, 2, [[(ls eRDecl p0.decls), (ls eRRoutine p0.routines)]]⟩]) [0, 2, 1] rfl .nil (by decide) rfl rfl (.raw rfl rfl (.raw rfl rfl (.raw rfl rfl .nil))) ⟨.rfl, .rfl, .rfl, .rfl, .rfl, trivial⟩) ?_; exact Wk.to (L := [(1, (ls eI p1)), (5, (.ptr 0 0 0 0)), (7, (.ptr 1 0 0 0)), (152, (.ptr 2 0 0 0)), (160, (i64 c75))]) ⟨.rfl, .rfl, .rfl, .rfl, .rfl, trivial⟩) (AX.lst (by kernel_rfl) ((hA77 _ _ _).1 A77_02345678c)) rfl)
               have A77_0234567c : A77 6 #[true, false, true, true, true, true, true, true, false, false, false, false, true, false] ⟨183, envL [(1, (ls eI p1)), (5, (.ptr 0 0 0 0)), (7, (.ptr 1 0 0 0)), (152, (.ptr 2 0 0 0)), (159, (.iptr (eI c75) 0))], [⟨0, 110, 5, [[(i64 p2.op), (i64 p2.num), (i64 p2.into), (ls eI p2.args), (ls eBlock p2.kids)]]⟩, ⟨0, 97, 3, [[(i64 0), (i64 0), .zc]]⟩, ⟨0, 42, 2, [[(ls eRDecl p0.decls), (ls eRRoutine p0.routines)]]⟩]⟩ := (hA77 _ _ _).2 (by
                refine AX.all [1, 8] rfl (by kernel_rfl) (by decide) ⟨?_, ?_, trivial⟩
                ·refine AXs.of (i := 1) rfl rfl (by rfl) ?_
                 refine zq tb rfl (AO.done ⟨rfl, ?_⟩)
                 exact AX.weaken (by refine Wk.trans (Wk.permk (L := [(1, (ls eI p1)), (5, (.ptr 0 0 0 0)), (7, (.ptr 1 0 0 0)), (153, (ls eRDecl p0.decls)), (159, (.iptr (eI c75) 0))]) (st' := [⟨0, 110, 5, [[(i64 p2.op), (i64 p2.num), (i64 p2.into), (ls eI p2.args), (ls eBlock p2.kids)]]⟩, ⟨0, 97, 3, [[(i64 0), (i64 0), .zc]]⟩]) (st1 := [⟨0, 110, 5, [[(i64 p2.op), (i64 p2.num), (i64 p2.into), (ls eI p2.args), (ls eBlock p2.kids)]]⟩, ⟨0, 97, 3, [[(i64 0), (i64 0), .zc]]⟩]) [0, 1] rfl .nil (by decide) rfl rfl (.raw rfl rfl (.raw rfl rfl .nil)) ⟨.rfl, .rfl, .rfl, .rfl, .rfl, trivial⟩) ?_; exact Wk.to (L := [(1, (ls eI p1)), (5, (.ptr 0 0 0 0)), (7, (.ptr 1 0 0 0)), (153, (ls eRDecl p0.decls)), (159, (.iptr (eI c75) 0))]) ⟨.rfl, .rfl, .rfl, .rfl, .rfl, trivial⟩) (AX.lst (by kernel_rfl) ((hA77 _ _ _).1 A77_01234567c)) rfl
                ·refine AXs.of (i := 8) rfl rfl (by rfl) ?_
                 refine zq tb rfl (AO.done ⟨rfl, ?_⟩)
                 exact AX.weaken (Wk.to (L := [(1, (ls eI p1)), (5, (.ptr 0 0 0 0)), (7, (.ptr 1 0 0 0)), (152, (.ptr 2 0 0 0)), (160, (i64 c75))]) ⟨.rfl, .rfl, .rfl, .rfl, .rfl, trivial⟩) (AX.lst (by kernel_rfl) ((hA77 _ _ _).1 A77_02345678c)) rfl)
               have A77_0234567 : A77 7 #[true, false, true, true, true, true, true, true, false, false, false, false, false, false] ⟨183, envL [(1, (ls eI p1)), (5, (.ptr 0 0 0 0)), (152, (.ptr 1 0 0 0)), (159, (.iptr (eI c75) 0))], [⟨0, 110, 5, [[(i64 p2.op), (i64 p2.num), (i64 p2.into), (ls eI p2.args), (ls eBlock p2.kids)]]⟩, ⟨0, 42, 2, [[(ls eRDecl p0.decls), (ls eRRoutine p0.routines)]]⟩]⟩ := (hA77 _ _ _).2 (by
                refine AX.all [1, 8, 12] rfl (by kernel_rfl) (by decide) ⟨?_, ?_, ?_, trivial⟩
                ·refine AXs.of (i := 1) rfl rfl (by rfl) ?_
                 refine zq tb rfl (AO.done ⟨rfl, ?_⟩)
                 exact AX.weaken (by refine Wk.trans (Wk.permk (L := [(1, (ls eI p1)), (5, (.ptr 0 0 0 0)), (153, (ls eRDecl p0.decls)), (159, (.iptr (eI c75) 0))]) (st' := [⟨0, 110, 5, [[(i64 p2.op), (i64 p2.num), (i64 p2.into), (ls eI p2.args), (ls eBlock p2.kids)]]⟩]) (st1 := [⟨0, 110, 5, [[(i64 p2.op), (i64 p2.num), (i64 p2.into), (ls eI p2.args), (ls eBlock p2.kids)]]⟩]) [0] rfl .nil (by decide) rfl rfl (.raw rfl rfl .nil) ⟨.rfl, .rfl, .rfl, .rfl, trivial⟩) ?_; exact Wk.to (L := [(1, (ls eI p1)), (5, (.ptr 0 0 0 0)), (153, (ls eRDecl p0.decls)), (159, (.iptr (eI c75) 0))]) ⟨.rfl, .rfl, .rfl, .rfl, trivial⟩) (AX.lst (by kernel_rfl) ((hA77 _ _ _).1 A77_01234567)) rfl
                ·refine AXs.of (i := 8) rfl rfl (by rfl) ?_
                 refine zq tb rfl (AO.done ⟨rfl, ?_⟩)
                 exact AX.weaken (Wk.to (L := [(1, (ls eI p1)), (5, (.ptr 0 0 0 0)), (152, (.ptr 1 0 0 0)), (160, (i64 c75))]) ⟨.rfl, .rfl, .rfl, .rfl, trivial⟩) (AX.lst (by kernel_rfl) ((hA77 _ _ _).1 A77_02345678)) rfl
                ·refine AXs.of (i := 12) rfl rfl (by rfl) ?_
                 refine ao_alloc (m := 2) (st' := [⟨0, 110, 5, [[(i64 p2.op), (i64 p2.num), (i64 p2.into), (ls eI p2.args), (ls eBlock p2.kids)]]⟩, ⟨0, 42, 2, [[(ls eRDecl p0.decls), (ls eRRoutine p0.routines)]]⟩, ⟨0, 97, 3, [[(i64 0), (i64 0), .zc]]⟩]) go0 zi97 rfl rfl (AO.done ⟨rfl, ?_⟩)
                 exact AX.weaken (by refine Wk.trans (Wk.permk (L := [(1, (ls eI p1)), (5, (.ptr 0 0 0 0)), (7, (.ptr 1 0 0 0)), (152, (.ptr 2 0 0 0)), (159, (.iptr (eI c75) 0))]) (st' := [⟨0, 110, 5, [[(i64 p2.op), (i64 p2.num), (i64 p2.into), (ls eI p2.args), (ls eBlock p2.kids)]]⟩, ⟨0, 97, 3, [[(i64 0), (i64 0), .zc]]⟩, ⟨0, 42, 2, [[(ls eRDecl p0.decls), (ls eRRoutine p0.routines)]]⟩]) (st1 := [⟨0, 110, 5, [[(i64 p2.op), (i64 p2.num), (i64 p2.into), (ls eI p2.args), (ls eBlock p2.kids)]]⟩, ⟨0, 97, 3, [[(i64 0), (i64 0), .zc]]⟩, ⟨0, 42, 2, [[(ls eRDecl p0.decls), (ls eRRoutine p0.routines)]]⟩]) [0, 2, 1] rfl .nil (by decide) rfl rfl (.raw rfl rfl (.raw rfl rfl (.raw rfl rfl .nil))) ⟨.rfl, .rfl, .rfl, .rfl, .rfl, trivial⟩) ?_; exact Wk.to (L := [(1, (ls eI p1)), (5, (.ptr 0 0 0 0)), (7, (.ptr 1 0 0 0)), (152, (.ptr 2 0 0 0)), (159, (.iptr (eI c75) 0))]) ⟨.rfl, .rfl, .rfl, .rfl, .rfl, trivial⟩) (AX.lst (by kernel_rfl) ((hA77 _ _ _).1 A77_0234567c)) rfl)
               have A77_023456c : A77 7 #[true, false, true, true, true, true, true, false, false, false, false, false, true, false] ⟨183, envL [(1, (ls eI p1)), (5, (.ptr 0 0 0 0)), (7, (.ptr 1 0 0 0)), (152, (.ptr 2 0 0 0)), (154, (ls eI p1)), (158, (i64 c74))], [⟨0, 110, 5, [[(i64 p2.op), (i64 p2.num), (i64 p2.into), (ls eI p2.args), (ls eBlock p2.kids)]]⟩, ⟨0, 97, 3, [[(i64 0), (i64 0), .zc]]⟩, ⟨0, 42, 2, [[(ls eRDecl p0.decls), (ls eRRoutine p0.routines)]]⟩]⟩ := (hA77 _ _ _).2 (by
                refine AX.all [1, 7] rfl (by kernel_rfl) (by decide) ⟨?_, ?_, trivial⟩
                ·refine AXs.of (i := 1) rfl rfl (by rfl) ?_
                 refine zq tb rfl (AO.done ⟨rfl, ?_⟩)
                 exact AX.weaken (by refine Wk.trans (Wk.permk (L := [(1, (ls eI p1)), (5, (.ptr 0 0 0 0)), (7, (.ptr 1 0 0 0)), (153, (ls eRDecl p0.decls)), (154, (ls eI p1)), (158, (i64 c74))]) (st' := [⟨0, 110, 5, [[(i64 p2.op), (i64 p2.num), (i64 p2.into), (ls eI p2.args), (ls eBlock p2.kids)]]⟩, ⟨0, 97, 3, [[(i64 0), (i64 0), .zc]]⟩]) (st1 := [⟨0, 110, 5, [[(i64 p2.op), (i64 p2.num), (i64 p2.into), (ls eI p2.args), (ls eBlock p2.kids)]]⟩, ⟨0, 97, 3, [[(i64 0), (i64 0), .zc]]⟩]) [0, 1] rfl .nil (by decide) rfl rfl (.raw rfl rfl (.raw rfl rfl .nil)) ⟨.rfl, .rfl, .rfl, .rfl, .rfl, .rfl, trivial⟩) ?_; exact Wk.to (L := [(1, (ls eI p1)), (5, (.ptr 0 0 0 0)), (7, (.ptr 1 0 0 0)), (153, (ls eRDecl p0.decls)), (154, (ls eI p1)), (158, (i64 c74))]) ⟨.rfl, .rfl, .rfl, .rfl, .rfl, .rfl, trivial⟩) (AX.lst (by kernel_rfl) ((hA77 _ _ _).1 A77_0123456c)) rfl
                ·refine AXs.of (i := 7) rfl rfl (by rfl) ?_
                 refine zx ei22 gc75 rfl rfl rfl (AO.done ⟨rfl, ?_⟩)
                 exact AX.weaken (Wk.to (L := [(1, (ls eI p1)), (5, (.ptr 0 0 0 0)), (7, (.ptr 1 0 0 0)), (152, (.ptr 2 0 0 0)), (159, (.iptr (eI c75) 0))]) ⟨.rfl, .rfl, .rfl, .rfl, .rfl, trivial⟩) (AX.lst (by kernel_rfl) ((hA77 _ _ _).1 A77_0234567c)) rfl)
               have A77_023456 : A77 8 #[true, false, true, true, true, true, true, false, false, false, false, false, false, false] ⟨183, envL [(1, (ls eI p1)), (5, (.ptr 0 0 0 0)), (152, (.ptr 1 0 0 0)), (154, (ls eI p1)), (158, (i64 c74))], [⟨0, 110, 5, [[(i64 p2.op), (i64 p2.num), (i64 p2.into), (ls eI p2.args), (ls eBlock p2.kids)]]⟩, ⟨0, 42, 2, [[(ls eRDecl p0.decls), (ls eRRoutine p0.routines)]]⟩]⟩ := (hA77 _ _ _).2 (by
                refine AX.all [1, 7, 12] rfl (by kernel_rfl) (by decide) ⟨?_, ?_, ?_, trivial⟩
                ·refine AXs.of (i := 1) rfl rfl (by rfl) ?_
                 refine zq tb rfl (AO.done ⟨rfl, ?_⟩)
                 exact AX.weaken (by refine Wk.trans (Wk.permk (L := [(1, (ls eI p1)), (5, (.ptr 0 0 0 0)), (153, (ls eRDecl p0.decls)), (154, (ls eI p1)), (158, (i64 c74))]) (st' := [⟨0, 110, 5, [[(i64 p2.op), (i64 p2.num), (i64 p2.into), (ls eI p2.args), (ls eBlock p2.kids)]]⟩]) (st1 := [⟨0, 110, 5, [[(i64 p2.op), (i64 p2.num), (i64 p2.into), (ls eI p2.args), (ls eBlock p2.kids)]]⟩]) [0] rfl .nil (by decide) rfl rfl (.raw rfl rfl .nil) ⟨.rfl, .rfl, .rfl, .rfl, .rfl, trivial⟩) ?_; exact Wk.to (L := [(1, (ls eI p1)), (5, (.ptr 0 0 0 0)), (153, (ls eRDecl p0.decls)), (154, (ls eI p1)), (158, (i64 c74))]) ⟨.rfl, .rfl, .rfl, .rfl, .rfl, trivial⟩) (AX.lst (by kernel_rfl) ((hA77 _ _ _).1 A77_0123456)) rfl
                ·refine AXs.of (i := 7) rfl rfl (by rfl) ?_
                 refine zx ei22 gc75 rfl rfl rfl (AO.done ⟨rfl, ?_⟩)
                 exact AX.weaken (Wk.to (L := [(1, (ls eI p1)), (5, (.ptr 0 0 0 0)), (152, (.ptr 1 0 0 0)), (159, (.iptr (eI c75) 0))]) ⟨.rfl, .rfl, .rfl, .rfl, trivial⟩) (AX.lst (by kernel_rfl) ((hA77 _ _ _).1 A77_0234567)) rfl
                ·refine AXs.of (i := 12) rfl rfl (by rfl) ?_
                 refine ao_alloc (m := 2) (st' := [⟨0, 110, 5, [[(i64 p2.op), (i64 p2.num), (i64 p2.into), (ls eI p2.args), (ls eBlock p2.kids)]]⟩, ⟨0, 42, 2, [[(ls eRDecl p0.decls), (ls eRRoutine p0.routines)]]⟩, ⟨0, 97, 3, [[(i64 0), (i64 0), .zc]]⟩]) go0 zi97 rfl rfl (AO.done ⟨rfl, ?_⟩)
                 exact AX.weaken (by refine Wk.trans (Wk.permk (L := [(1, (ls eI p1)), (5, (.ptr 0 0 0 0)), (7, (.ptr 1 0 0 0)), (152, (.ptr 2 0 0 0)), (154, (ls eI p1)), (158, (i64 c74))]) (st' := [⟨0, 110, 5, [[(i64 p2.op), (i64 p2.num), (i64 p2.into), (ls eI p2.args), (ls eBlock p2.kids)]]⟩, ⟨0, 97, 3, [[(i64 0), (i64 0), .zc]]⟩, ⟨0, 42, 2, [[(ls eRDecl p0.decls), (ls eRRoutine p0.routines)]]⟩]) (st1 := [⟨0, 110, 5, [[(i64 p2.op), (i64 p2.num), (i64 p2.into), (ls eI p2.args), (ls eBlock p2.kids)]]⟩, ⟨0, 97, 3, [[(i64 0), (i64 0), .zc]]⟩, ⟨0, 42, 2, [[(ls eRDecl p0.decls), (ls eRRoutine p0.routines)]]⟩]) [0, 2, 1] rfl .nil (by decide) rfl rfl (.raw rfl rfl (.raw rfl rfl (.raw rfl rfl .nil))) ⟨.rfl, .rfl, .rfl, .rfl, .rfl, .rfl, trivial⟩) ?_; exact Wk.to (L := [(1, (ls eI p1)), (5, (.ptr 0 0 0 0)), (7, (.ptr 1 0 0 0)), (152, (.ptr 2 0 0 0)), (154, (ls eI p1)), (158, (i64 c74))]) ⟨.rfl, .rfl, .rfl, .rfl, .rfl, .rfl, trivial⟩) (AX.lst (by kernel_rfl) ((hA77 _ _ _).1 A77_023456c)) rfl)
               have A77_02345c : A77 8 #[true, false, true, true, true, true, false, false, false, false, false, false, true, false] ⟨183, envL [(1, (ls eI p1)), (5, (.ptr 0 0 0 0)), (7, (.ptr 1 0 0 0)), (152, (.ptr 2 0 0 0)), (154, (ls eI p1)), (157, (.iptr (eI c74) 0))], [⟨0, 110, 5, [[(i64 p2.op), (i64 p2.num), (i64 p2.into), (ls eI p2.args), (ls eBlock p2.kids)]]⟩, ⟨0, 97, 3, [[(i64 0), (i64 0), .zc]]⟩, ⟨0, 42, 2, [[(ls eRDecl p0.decls), (ls eRRoutine p0.routines)]]⟩]⟩ := (hA77 _ _ _).2 (by
                refine AX.all [1, 6] rfl (by kernel_rfl) (by decide) ⟨?_, ?_, trivial⟩
                ·refine AXs.of (i := 1) rfl rfl (by rfl) ?_
                 refine zq tb rfl (AO.done ⟨rfl, ?_⟩)
                 exact AX.weaken (by refine Wk.trans (Wk.permk (L := [(1, (ls eI p1)), (5, (.ptr 0 0 0 0)), (7, (.ptr 1 0 0 0)), (153, (ls eRDecl p0.decls)), (154, (ls eI p1)), (157, (.iptr (eI c74) 0))]) (st' := [⟨0, 110, 5, [[(i64 p2.op), (i64 p2.num), (i64 p2.into), (ls eI p2.args), (ls eBlock p2.kids)]]⟩, ⟨0, 97, 3, [[(i64 0), (i64 0), .zc]]⟩]) (st1 := [⟨0, 110, 5, [[(i64 p2.op), (i64 p2.num), (i64 p2.into), (ls eI p2.args), (ls eBlock p2.kids)]]⟩, ⟨0, 97, 3, [[(i64 0), (i64 0), .zc]]⟩]) [0, 1] rfl .nil (by decide) rfl rfl (.raw rfl rfl (.raw rfl rfl .nil)) ⟨.rfl, .rfl, .rfl, .rfl, .rfl, .rfl, trivial⟩) ?_; exact Wk.to (L := [(1, (ls eI p1)), (5, (.ptr 0 0 0 0)), (7, (.ptr 1 0 0 0)), (153, (ls eRDecl p0.decls)), (154, (ls eI p1)), (157, (.iptr (eI c74) 0))]) ⟨.rfl, .rfl, .rfl, .rfl, .rfl, .rfl, trivial⟩) (AX.lst (by kernel_rfl) ((hA77 _ _ _).1 A77_012345c)) rfl
                ·refine AXs.of (i := 6) rfl rfl (by rfl) ?_
                 refine zq tb rfl (AO.done ⟨rfl, ?_⟩)
                 exact AX.weaken (Wk.to (L := [(1, (ls eI p1)), (5, (.ptr 0 0 0 0)), (7, (.ptr 1 0 0 0)), (152, (.ptr 2 0 0 0)), (154, (ls eI p1)), (158, (i64 c74))]) ⟨.rfl, .rfl, .rfl, .rfl, .rfl, .rfl, trivial⟩) (AX.lst (by kernel_rfl) ((hA77 _ _ _).1 A77_023456c)) rfl)
               have A77_02345 : A77 9 #[true, false, true, true, true, true, false, false, false, false, false, false, false, false] ⟨183, envL [(1, (ls eI p1)), (5, (.ptr 0 0 0 0)), (152, (.ptr 1 0 0 0)), (154, (ls eI p1)), (157, (.iptr (eI c74) 0))], [⟨0, 110, 5, [[(i64 p2.op), (i64 p2.num), (i64 p2.into), (ls eI p2.args), (ls eBlock p2.kids)]]⟩, ⟨0, 42, 2, [[(ls eRDecl p0.decls), (ls eRRoutine p0.routines)]]⟩]⟩ := (hA77 _ _ _).2 (by
                refine AX.all [1, 6, 12] rfl (by kernel_rfl) (by decide) ⟨?_, ?_, ?_, trivial⟩
                ·refine AXs.of (i := 1) rfl rfl (by rfl) ?_
                 refine zq tb rfl (AO.done ⟨rfl, ?_⟩)
                 exact AX.weaken (by refine Wk.trans (Wk.permk (L := [(1, (ls eI p1)), (5, (.ptr 0 0 0 0)), (153, (ls eRDecl p0.decls)), (154, (ls eI p1)), (157, (.iptr (eI c74) 0))]) (st' := [⟨0, 110, 5, [[(i64 p2.op), (i64 p2.num), (i64 p2.into), (ls eI p2.args), (ls eBlock p2.kids)]]⟩]) (st1 := [⟨0, 110, 5, [[(i64 p2.op), (i64 p2.num), (i64 p2.into), (ls eI p2.args), (ls eBlock p2.kids)]]⟩]) [0] rfl .nil (by decide) rfl rfl (.raw rfl rfl .nil) ⟨.rfl, .rfl, .rfl, .rfl, .rfl, trivial⟩) ?_; exact Wk.to (L := [(1, (ls eI p1)), (5, (.ptr 0 0 0 0)), (153, (ls eRDecl p0.decls)), (154, (ls eI p1)), (157, (.iptr (eI c74) 0))]) ⟨.rfl, .rfl, .rfl, .rfl, .rfl, trivial⟩) (AX.lst (by kernel_rfl) ((hA77 _ _ _).1 A77_012345)) rfl
                ·refine AXs.of (i := 6) rfl rfl (by rfl) ?_
                 refine zq tb rfl (AO.done ⟨rfl, ?_⟩)
                 exact AX.weaken (Wk.to (L := [(1, (ls eI p1)), (5, (.ptr 0 0 0 0)), (152, (.ptr 1 0 0 0)), (154, (ls eI p1)), (158, (i64 c74))]) ⟨.rfl, .rfl, .rfl, .rfl, .rfl, trivial⟩) (AX.lst (by kernel_rfl) ((hA77 _ _ _).1 A77_023456)) rfl
                ·refine AXs.of (i := 12) rfl rfl (by rfl) ?_
                 refine ao_alloc (m := 2) (st' := [⟨0, 110, 5, [[(i64 p2.op), (i64 p2.num), (i64 p2.into), (ls eI p2.args), (ls eBlock p2.kids)]]⟩, ⟨0, 42, 2, [[(ls eRDecl p0.decls), (ls eRRoutine p0.routines)]]⟩, ⟨0, 97, 3, [[(i64 0), (i64 0), .zc]]⟩]) go0 zi97 rfl rfl (AO.done ⟨rfl, ?_⟩)
                 exact AX.weaken (by refine Wk.trans (Wk.permk (L := [(1, (ls eI p1)), (5, (.ptr 0 0 0 0)), (7, (.ptr 1 0 0 0)), (152, (.ptr 2 0 0 0)), (154, (ls eI p1)), (157, (.iptr (eI c74) 0))]) (st' := [⟨0, 110, 5, [[(i64 p2.op), (i64 p2.num), (i64 p2.into), (ls eI p2.args), (ls eBlock p2.kids)]]⟩, ⟨0, 97, 3, [[(i64 0), (i64 0), .zc]]⟩, ⟨0, 42, 2, [[(ls eRDecl p0.decls), (ls eRRoutine p0.routines)]]⟩]) (st1 := [⟨0, 110, 5, [[(i64 p2.op), (i64 p2.num), (i64 p2.into), (ls eI p2.args), (ls eBlock p2.kids)]]⟩, ⟨0, 97, 3, [[(i64 0), (i64 0), .zc]]⟩, ⟨0, 42, 2, [[(ls eRDecl p0.decls), (ls eRRoutine p0.routines)]]⟩]) [0, 2, 1] rfl .nil (by decide) rfl rfl (.raw rfl rfl (.raw rfl rfl (.raw rfl rfl .nil))) ⟨.rfl, .rfl, .rfl, .rfl, .rfl, .rfl, trivial⟩) ?_; exact Wk.to (L := [(1, (ls eI p1)), (5, (.ptr 0 0 0 0)), (7, (.ptr 1 0 0 0)), (152, (.ptr 2 0 0 0)), (154, (ls eI p1)), (157, (.iptr (eI c74) 0))]) ⟨.rfl, .rfl, .rfl, .rfl, .rfl, .rfl, trivial⟩) (AX.lst (by kernel_rfl) ((hA77 _ _ _).1 A77_02345c)) rfl)
               have A77_0234c : A77 9 #[true, false, true, true, true, false, false, false, false, false, false, false, true, false] ⟨183, envL [(1, (ls eI p1)), (5, (.ptr 0 0 0 0)), (7, (.ptr 1 0 0 0)), (152, (.ptr 2 0 0 0)), (154, (ls eI p1)), (156, (ls eI p2.args))], [⟨0, 110, 5, [[(i64 p2.op), (i64 p2.num), (i64 p2.into), (ls eI p2.args), (ls eBlock p2.kids)]]⟩, ⟨0, 97, 3, [[(i64 0), (i64 0), .zc]]⟩, ⟨0, 42, 2, [[(ls eRDecl p0.decls), (ls eRRoutine p0.routines)]]⟩]⟩ := (hA77 _ _ _).2 (by
                refine AX.all [1, 5] rfl (by kernel_rfl) (by decide) ⟨?_, ?_, trivial⟩
                ·refine AXs.of (i := 1) rfl rfl (by rfl) ?_
                 refine zq tb rfl (AO.done ⟨rfl, ?_⟩)
                 exact AX.weaken (by refine Wk.trans (Wk.permk (L := [(1, (ls eI p1)), (5, (.ptr 0 0 0 0)), (7, (.ptr 1 0 0 0)), (153, (ls eRDecl p0.decls)), (154, (ls eI p1)), (156, (ls eI p2.args))]) (st' := [⟨0, 110, 5, [[(i64 p2.op), (i64 p2.num), (i64 p2.into), (ls eI p2.args), (ls eBlock p2.kids)]]⟩, ⟨0, 97, 3, [[(i64 0), (i64 0), .zc]]⟩]) (st1 := [⟨0, 110, 5, [[(i64 p2.op), (i64 p2.num), (i64 p2.into), (ls eI p2.args), (ls eBlock p2.kids)]]⟩, ⟨0, 97, 3, [[(i64 0), (i64 0), .zc]]⟩]) [0, 1] rfl .nil (by decide) rfl rfl (.raw rfl rfl (.raw rfl rfl .nil)) ⟨.rfl, .rfl, .rfl, .rfl, .rfl, .rfl, trivial⟩) ?_; exact Wk.to (L := [(1, (ls eI p1)), (5, (.ptr 0 0 0 0)), (7, (.ptr 1 0 0 0)), (153, (ls eRDecl p0.decls)), (154, (ls eI p1)), (156, (ls eI p2.args))]) ⟨.rfl, .rfl, .rfl, .rfl, .rfl, .rfl, trivial⟩) (AX.lst (by kernel_rfl) ((hA77 _ _ _).1 A77_01234c)) rfl
                ·refine AXs.of (i := 5) rfl rfl (by rfl) ?_
                 refine zx ei22 gc74 rfl rfl rfl (AO.done ⟨rfl, ?_⟩)
                 exact AX.weaken (Wk.to (L := [(1, (ls eI p1)), (5, (.ptr 0 0 0 0)), (7, (.ptr 1 0 0 0)), (152, (.ptr 2 0 0 0)), (154, (ls eI p1)), (157, (.iptr (eI c74) 0))]) ⟨.rfl, .rfl, .rfl, .rfl, .rfl, .rfl, trivial⟩) (AX.lst (by kernel_rfl) ((hA77 _ _ _).1 A77_02345c)) rfl)
               have A77_0234 : A77 10 #[true, false, true, true, true, false, false, false, false, false, false, false, false, false] ⟨183, envL [(1, (ls eI p1)), (5, (.ptr 0 0 0 0)), (152, (.ptr 1 0 0 0)), (154, (ls eI p1)), (156, (ls eI p2.args))], [⟨0, 110, 5, [[(i64 p2.op), (i64 p2.num), (i64 p2.into), (ls eI p2.args), (ls eBlock p2.kids)]]⟩, ⟨0, 42, 2, [[(ls eRDecl p0.decls), (ls eRRoutine p0.routines)]]⟩]⟩ := (hA77 _ _ _).2 (by
                refine AX.all [1, 5, 12] rfl (by kernel_rfl) (by decide) ⟨?_, ?_, ?_, trivial⟩
                ·refine AXs.of (i := 1) rfl rfl (by rfl) ?_
                 refine zq tb rfl (AO.done ⟨rfl, ?_⟩)
                 exact AX.weaken (by refine Wk.trans (Wk.permk (L := [(1, (ls eI p1)), (5, (.ptr 0 0 0 0)), (153, (ls eRDecl p0.decls)), (154, (ls eI p1)), (156, (ls eI p2.args))]) (st' := [⟨0, 110, 5, [[(i64 p2.op), (i64 p2.num), (i64 p2.into), (ls eI p2.args), (ls eBlock p2.kids)]]⟩]) (st1 := [⟨0, 110, 5, [[(i64 p2.op), (i64 p2.num), (i64 p2.into), (ls eI p2.args), (ls eBlock p2.kids)]]⟩]) [0] rfl .nil (by decide) rfl rfl (.raw rfl rfl .nil) ⟨.rfl, .rfl, .rfl, .rfl, .rfl, trivial⟩) ?_; exact Wk.to (L := [(1, (ls eI p1)), (5, (.ptr 0 0 0 0)), (153, (ls eRDecl p0.decls)), (154, (ls eI p1)), (156, (ls eI p2.args))]) ⟨.rfl, .rfl, .rfl, .rfl, .rfl, trivial⟩) (AX.lst (by kernel_rfl) ((hA77 _ _ _).1 A77_01234)) rfl
                ·refine AXs.of (i := 5) rfl rfl (by rfl) ?_
                 refine zx ei22 gc74 rfl rfl rfl (AO.done ⟨rfl, ?_⟩)
                 exact AX.weaken (Wk.to (L := [(1, (ls eI p1)), (5, (.ptr 0 0 0 0)), (152, (.ptr 1 0 0 0)), (154, (ls eI p1)), (157, (.iptr (eI c74) 0))]) ⟨.rfl, .rfl, .rfl, .rfl, .rfl, trivial⟩) (AX.lst (by kernel_rfl) ((hA77 _ _ _).1 A77_02345)) rfl
                ·refine AXs.of (i := 12) rfl rfl (by rfl) ?_
                 refine ao_alloc (m := 2) (st' := [⟨0, 110, 5, [[(i64 p2.op), (i64 p2.num), (i64 p2.into), (ls eI p2.args), (ls eBlock p2.kids)]]⟩, ⟨0, 42, 2, [[(ls eRDecl p0.decls), (ls eRRoutine p0.routines)]]⟩, ⟨0, 97, 3, [[(i64 0), (i64 0), .zc]]⟩]) go0 zi97 rfl rfl (AO.done ⟨rfl, ?_⟩)
                 exact AX.weaken (by refine Wk.trans (Wk.permk (L := [(1, (ls eI p1)), (5, (.ptr 0 0 0 0)), (7, (.ptr 1 0 0 0)), (152, (.ptr 2 0 0 0)), (154, (ls eI p1)), (156, (ls eI p2.args))]) (st' := [⟨0, 110, 5, [[(i64 p2.op), (i64 p2.num), (i64 p2.into), (ls eI p2.args), (ls eBlock p2.kids)]]⟩, ⟨0, 97, 3, [[(i64 0), (i64 0), .zc]]⟩, ⟨0, 42, 2, [[(ls eRDecl p0.decls), (ls eRRoutine p0.routines)]]⟩]) (st1 := [⟨0, 110, 5, [[(i64 p2.op), (i64 p2.num), (i64 p2.into), (ls eI p2.args), (ls eBlock p2.kids)]]⟩, ⟨0, 97, 3, [[(i64 0), (i64 0), .zc]]⟩, ⟨0, 42, 2, [[(ls eRDecl p0.decls), (ls eRRoutine p0.routines)]]⟩]) [0, 2, 1] rfl .nil (by decide) rfl rfl (.raw rfl rfl (.raw rfl rfl (.raw rfl rfl .nil))) ⟨.rfl, .rfl, .rfl, .rfl, .rfl, .rfl, trivial⟩) ?_; exact Wk.to (L := [(1, (ls eI p1)), (5, (.ptr 0 0 0 0)), (7, (.ptr 1 0 0 0)), (152, (.ptr 2 0 0 0)), (154, (ls eI p1)), (156, (ls eI p2.args))]) ⟨.rfl, .rfl, .rfl, .rfl, .rfl, .rfl, trivial⟩) (AX.lst (by kernel_rfl) ((hA77 _ _ _).1 A77_0234c)) rfl)
               have A77_023c : A77 10 #[true, false, true, true, false, false, false, false, false, false, false, false, true, false] ⟨183, envL [(1, (ls eI p1)), (5, (.ptr 0 0 0 0)), (7, (.ptr 1 0 0 0)), (152, (.ptr 2 0 0 0)), (154, (ls eI p1)), (155, (.ptr 0 0 0 3))], [⟨0, 110, 5, [[(i64 p2.op), (i64 p2.num), (i64 p2.into), (ls eI p2.args), (ls eBlock p2.kids)]]⟩, ⟨0, 97, 3, [[(i64 0), (i64 0), .zc]]⟩, ⟨0, 42, 2, [[(ls eRDecl p0.decls), (ls eRRoutine p0.routines)]]⟩]⟩ := (hA77 _ _ _).2 (by
                refine AX.all [1, 4] rfl (by kernel_rfl) (by decide) ⟨?_, ?_, trivial⟩
                ·refine AXs.of (i := 1) rfl rfl (by rfl) ?_
                 refine zq tb rfl (AO.done ⟨rfl, ?_⟩)
                 exact AX.weaken (by refine Wk.trans (Wk.permk (L := [(1, (ls eI p1)), (5, (.ptr 0 0 0 0)), (7, (.ptr 1 0 0 0)), (153, (ls eRDecl p0.decls)), (154, (ls eI p1)), (155, (.ptr 0 0 0 3))]) (st' := [⟨0, 110, 5, [[(i64 p2.op), (i64 p2.num), (i64 p2.into), (ls eI p2.args), (ls eBlock p2.kids)]]⟩, ⟨0, 97, 3, [[(i64 0), (i64 0), .zc]]⟩]) (st1 := [⟨0, 110, 5, [[(i64 p2.op), (i64 p2.num), (i64 p2.into), (ls eI p2.args), (ls eBlock p2.kids)]]⟩, ⟨0, 97, 3, [[(i64 0), (i64 0), .zc]]⟩]) [0, 1] rfl .nil (by decide) rfl rfl (.raw rfl rfl (.raw rfl rfl .nil)) ⟨.rfl, .rfl, .rfl, .rfl, .rfl, .rfl, trivial⟩) ?_; exact Wk.to (L := [(1, (ls eI p1)), (5, (.ptr 0 0 0 0)), (7, (.ptr 1 0 0 0)), (153, (ls eRDecl p0.decls)), (154, (ls eI p1)), (155, (.ptr 0 0 0 3))]) ⟨.rfl, .rfl, .rfl, .rfl, .rfl, .rfl, trivial⟩) (AX.lst (by kernel_rfl) ((hA77 _ _ _).1 A77_0123c)) rfl
                ·refine AXs.of (i := 4) rfl rfl (by rfl) ?_
                 refine zq tb rfl (AO.done ⟨rfl, ?_⟩)
                 exact AX.weaken (Wk.to (L := [(1, (ls eI p1)), (5, (.ptr 0 0 0 0)), (7, (.ptr 1 0 0 0)), (152, (.ptr 2 0 0 0)), (154, (ls eI p1)), (156, (ls eI p2.args))]) ⟨.rfl, .rfl, .rfl, .rfl, .rfl, .rfl, trivial⟩) (AX.lst (by kernel_rfl) ((hA77 _ _ _).1 A77_0234c)) rfl)
               have A77_023 : A77 11 #[true, false, true, true, false, false, false, false, false, false, false, false, false, false] ⟨183, envL [(1, (ls eI p1)), (5, (.ptr 0 0 0 0)), (152, (.ptr 1 0 0 0)), (154, (ls eI p1)), (155, (.ptr 0 0 0 3))], [⟨0, 110, 5, [[(i64 p2.op), (i64 p2.num), (i64 p2.into), (ls eI p2.args), (ls eBlock p2.kids)]]⟩, ⟨0, 42, 2, [[(ls eRDecl p0.decls), (ls eRRoutine p0.routines)]]⟩]⟩ := (hA77 _ _ _).2 (by
                refine AX.all [1, 4, 12] rfl (by kernel_rfl) (by decide) ⟨?_, ?_, ?_, trivial⟩
                ·refine AXs.of (i := 1) rfl rfl (by rfl) ?_
                 refine zq tb rfl (AO.done ⟨rfl, ?_⟩)
                 exact AX.weaken (by refine Wk.trans (Wk.permk (L := [(1, (ls eI p1)), (5, (.ptr 0 0 0 0)), (153, (ls eRDecl p0.decls)), (154, (ls eI p1)), (155, (.ptr 0 0 0 3))]) (st' := [⟨0, 110, 5, [[(i64 p2.op), (i64 p2.num), (i64 p2.into), (ls eI p2.args), (ls eBlock p2.kids)]]⟩]) (st1 := [⟨0, 110, 5, [[(i64 p2.op), (i64 p2.num), (i64 p2.into), (ls eI p2.args), (ls eBlock p2.kids)]]⟩]) [0] rfl .nil (by decide) rfl rfl (.raw rfl rfl .nil) ⟨.rfl, .rfl, .rfl, .rfl, .rfl, trivial⟩) ?_; exact Wk.to (L := [(1, (ls eI p1)), (5, (.ptr 0 0 0 0)), (153, (ls eRDecl p0.decls)), (154, (ls eI p1)), (155, (.ptr 0 0 0 3))]) ⟨.rfl, .rfl, .rfl, .rfl, .rfl, trivial⟩) (AX.lst (by kernel_rfl) ((hA77 _ _ _).1 A77_0123)) rfl
                ·refine AXs.of (i := 4) rfl rfl (by rfl) ?_
                 refine zq tb rfl (AO.done ⟨rfl, ?_⟩)
                 exact AX.weaken (Wk.to (L := [(1, (ls eI p1)), (5, (.ptr 0 0 0 0)), (152, (.ptr 1 0 0 0)), (154, (ls eI p1)), (156, (ls eI p2.args))]) ⟨.rfl, .rfl, .rfl, .rfl, .rfl, trivial⟩) (AX.lst (by kernel_rfl) ((hA77 _ _ _).1 A77_0234)) rfl
                ·refine AXs.of (i := 12) rfl rfl (by rfl) ?_
                 refine ao_alloc (m := 2) (st' := [⟨0, 110, 5, [[(i64 p2.op), (i64 p2.num), (i64 p2.into), (ls eI p2.args), (ls eBlock p2.kids)]]⟩, ⟨0, 42, 2, [[(ls eRDecl p0.decls), (ls eRRoutine p0.routines)]]⟩, ⟨0, 97, 3, [[(i64 0), (i64 0), .zc]]⟩]) go0 zi97 rfl rfl (AO.done ⟨rfl, ?_⟩)
                 exact AX.weaken (by refine Wk.trans (Wk.permk (L := [(1, (ls eI p1)), (5, (.ptr 0 0 0 0)), (7, (.ptr 1 0 0 0)), (152, (.ptr 2 0 0 0)), (154, (ls eI p1)), (155, (.ptr 0 0 0 3))]) (st' := [⟨0, 110, 5, [[(i64 p2.op), (i64 p2.num), (i64 p2.into), (ls eI p2.args), (ls eBlock p2.kids)]]⟩, ⟨0, 97, 3, [[(i64 0), (i64 0), .zc]]⟩, ⟨0, 42, 2, [[(ls eRDecl p0.decls), (ls eRRoutine p0.routines)]]⟩]) (st1 := [⟨0, 110, 5, [[(i64 p2.op), (i64 p2.num), (i64 p2.into), (ls eI p2.args), (ls eBlock p2.kids)]]⟩, ⟨0, 97, 3, [[(i64 0), (i64 0), .zc]]⟩, ⟨0, 42, 2, [[(ls eRDecl p0.decls), (ls eRRoutine p0.routines)]]⟩]) [0, 2, 1] rfl .nil (by decide) rfl rfl (.raw rfl rfl (.raw rfl rfl (.raw rfl rfl .nil))) ⟨.rfl, .rfl, .rfl, .rfl, .rfl, .rfl, trivial⟩) ?_; exact Wk.to (L := [(1, (ls eI p1)), (5, (.ptr 0 0 0 0)), (7, (.ptr 1 0 0 0)), (152, (.ptr 2 0 0 0)), (154, (ls eI p1)), (155, (.ptr 0 0 0 3))]) ⟨.rfl, .rfl, .rfl, .rfl, .rfl, .rfl, trivial⟩) (AX.lst (by kernel_rfl) ((hA77 _ _ _).1 A77_023c)) rfl)
               have A77_02c : A77 11 #[true, false, true, false, false, false, false, false, false, false, false, false, true, false] ⟨183, envL [(1, (ls eI p1)), (5, (.ptr 0 0 0 0)), (7, (.ptr 1 0 0 0)), (152, (.ptr 2 0 0 0)), (154, (ls eI p1))], [⟨0, 110, 5, [[(i64 p2.op), (i64 p2.num), (i64 p2.into), (ls eI p2.args), (ls eBlock p2.kids)]]⟩, ⟨0, 97, 3, [[(i64 0), (i64 0), .zc]]⟩, ⟨0, 42, 2, [[(ls eRDecl p0.decls), (ls eRRoutine p0.routines)]]⟩]⟩ := (hA77 _ _ _).2 (by
                refine AX.all [1, 3] rfl (by kernel_rfl) (by decide) ⟨?_, ?_, trivial⟩
                ·refine AXs.of (i := 1) rfl rfl (by rfl) ?_
                 refine zq tb rfl (AO.done ⟨rfl, ?_⟩)
                 exact AX.weaken (by refine Wk.trans (Wk.permk (L := [(1, (ls eI p1)), (5, (.ptr 0 0 0 0)), (7, (.ptr 1 0 0 0)), (153, (ls eRDecl p0.decls)), (154, (ls eI p1))]) (st' := [⟨0, 110, 5, [[(i64 p2.op), (i64 p2.num), (i64 p2.into), (ls eI p2.args), (ls eBlock p2.kids)]]⟩, ⟨0, 97, 3, [[(i64 0), (i64 0), .zc]]⟩]) (st1 := [⟨0, 110, 5, [[(i64 p2.op), (i64 p2.num), (i64 p2.into), (ls eI p2.args), (ls eBlock p2.kids)]]⟩, ⟨0, 97, 3, [[(i64 0), (i64 0), .zc]]⟩]) [0, 1] rfl .nil (by decide) rfl rfl (.raw rfl rfl (.raw rfl rfl .nil)) ⟨.rfl, .rfl, .rfl, .rfl, .rfl, trivial⟩) ?_; exact Wk.to (L := [(1, (ls eI p1)), (5, (.ptr 0 0 0 0)), (7, (.ptr 1 0 0 0)), (153, (ls eRDecl p0.decls)), (154, (ls eI p1))]) ⟨.rfl, .rfl, .rfl, .rfl, .rfl, trivial⟩) (AX.lst (by kernel_rfl) ((hA77 _ _ _).1 A77_012c)) rfl
                ·refine AXs.of (i := 3) rfl rfl (by rfl) ?_
                 refine zq tb rfl (AO.done ⟨rfl, ?_⟩)
                 exact AX.weaken (Wk.to (L := [(1, (ls eI p1)), (5, (.ptr 0 0 0 0)), (7, (.ptr 1 0 0 0)), (152, (.ptr 2 0 0 0)), (154, (ls eI p1)), (155, (.ptr 0 0 0 3))]) ⟨.rfl, .rfl, .rfl, .rfl, .rfl, .rfl, trivial⟩) (AX.lst (by kernel_rfl) ((hA77 _ _ _).1 A77_023c)) rfl)
               have A77_02 : A77 12 #[true, false, true, false, false, false, false, false, false, false, false, false, false, false] ⟨183, envL [(1, (ls eI p1)), (5, (.ptr 0 0 0 0)), (152, (.ptr 1 0 0 0)), (154, (ls eI p1))], [⟨0, 110, 5, [[(i64 p2.op), (i64 p2.num), (i64 p2.into), (ls eI p2.args), (ls eBlock p2.kids)]]⟩, ⟨0, 42, 2, [[(ls eRDecl p0.decls), (ls eRRoutine p0.routines)]]⟩]⟩ := (hA77 _ _ _).2 (by
                refine AX.all [1, 3, 12] rfl (by kernel_rfl) (by decide) ⟨?_, ?_, ?_, trivial⟩
                ·refine AXs.of (i := 1) rfl rfl (by rfl) ?_
                 refine zq tb rfl (AO.done ⟨rfl, ?_⟩)
                 exact AX.weaken (by refine Wk.trans (Wk.permk (L := [(1, (ls eI p1)), (5, (.ptr 0 0 0 0)), (153, (ls eRDecl p0.decls)), (154, (ls eI p1))]) (st' := [⟨0, 110, 5, [[(i64 p2.op), (i64 p2.num), (i64 p2.into), (ls eI p2.args), (ls eBlock p2.kids)]]⟩]) (st1 := [⟨0, 110, 5, [[(i64 p2.op), (i64 p2.num), (i64 p2.into), (ls eI p2.args), (ls eBlock p2.kids)]]⟩]) [0] rfl .nil (by decide) rfl rfl (.raw rfl rfl .nil) ⟨.rfl, .rfl, .rfl, .rfl, trivial⟩) ?_; exact Wk.to (L := [(1, (ls eI p1)), (5, (.ptr 0 0 0 0)), (153, (ls eRDecl p0.decls)), (154, (ls eI p1))]) ⟨.rfl, .rfl, .rfl, .rfl, trivial⟩) (AX.lst (by kernel_rfl) ((hA77 _ _ _).1 A77_012)) rfl
                ·refine AXs.of (i := 3) rfl rfl (by rfl) ?_
                 refine zq tb rfl (AO.done ⟨rfl, ?_⟩)
                 exact AX.weaken (Wk.to (L := [(1, (ls eI p1)), (5, (.ptr 0 0 0 0)), (152, (.ptr 1 0 0 0)), (154, (ls eI p1)), (155, (.ptr 0 0 0 3))]) ⟨.rfl, .rfl, .rfl, .rfl, .rfl, trivial⟩) (AX.lst (by kernel_rfl) ((hA77 _ _ _).1 A77_023)) rfl
                ·refine AXs.of (i := 12) rfl rfl (by rfl) ?_
                 refine ao_alloc (m := 2) (st' := [⟨0, 110, 5, [[(i64 p2.op), (i64 p2.num), (i64 p2.into), (ls eI p2.args), (ls eBlock p2.kids)]]⟩, ⟨0, 42, 2, [[(ls eRDecl p0.decls), (ls eRRoutine p0.routines)]]⟩, ⟨0, 97, 3, [[(i64 0), (i64 0), .zc]]⟩]) go0 zi97 rfl rfl (AO.done ⟨rfl, ?_⟩)
                 exact AX.weaken (by refine Wk.trans (Wk.permk (L := [(1, (ls eI p1)), (5, (.ptr 0 0 0 0)), (7, (.ptr 1 0 0 0)), (152, (.ptr 2 0 0 0)), (154, (ls eI p1))]) (st' := [⟨0, 110, 5, [[(i64 p2.op), (i64 p2.num), (i64 p2.into), (ls eI p2.args), (ls eBlock p2.kids)]]⟩, ⟨0, 97, 3, [[(i64 0), (i64 0), .zc]]⟩, ⟨0, 42, 2, [[(ls eRDecl p0.decls), (ls eRRoutine p0.routines)]]⟩]) (st1 := [⟨0, 110, 5, [[(i64 p2.op), (i64 p2.num), (i64 p2.into), (ls eI p2.args), (ls eBlock p2.kids)]]⟩, ⟨0, 97, 3, [[(i64 0), (i64 0), .zc]]⟩, ⟨0, 42, 2, [[(ls eRDecl p0.decls), (ls eRRoutine p0.routines)]]⟩]) [0, 2, 1] rfl .nil (by decide) rfl rfl (.raw rfl rfl (.raw rfl rfl (.raw rfl rfl .nil))) ⟨.rfl, .rfl, .rfl, .rfl, .rfl, trivial⟩) ?_; exact Wk.to (L := [(1, (ls eI p1)), (5, (.ptr 0 0 0 0)), (7, (.ptr 1 0 0 0)), (152, (.ptr 2 0 0 0)), (154, (ls eI p1))]) ⟨.rfl, .rfl, .rfl, .rfl, .rfl, trivial⟩) (AX.lst (by kernel_rfl) ((hA77 _ _ _).1 A77_02c)) rfl)
               have A77_23456789c : A77 5 #[false, false, true, true, true, true, true, true, true, true, false, false, true, false] ⟨183, envL [(1, (ls eI p1)), (3, (.ptr 0 0 0 0)), (5, (.ptr 1 0 0 0)), (7, (.ptr 2 0 0 0)), (161, (i64 (Sh.w (c75 - 1))))], [⟨0, 42, 2, [[(ls eRDecl p0.decls), (ls eRRoutine p0.routines)]]⟩, ⟨0, 110, 5, [[(i64 p2.op), (i64 p2.num), (i64 p2.into), (ls eI p2.args), (ls eBlock p2.kids)]]⟩, ⟨0, 97, 3, [[(i64 0), (i64 0), .zc]]⟩]⟩ := (hA77 _ _ _).2 (by
                refine AX.all [0] rfl (by kernel_rfl) (by decide) ⟨?_, trivial⟩
                ·refine AXs.of (i := 0) rfl rfl (by rfl) ?_
                 refine zq tb rfl (AO.done ⟨rfl, ?_⟩)
                 exact AX.weaken (by refine Wk.trans (Wk.permk (L := [(1, (ls eI p1)), (5, (.ptr 0 0 0 0)), (7, (.ptr 1 0 0 0)), (152, (.ptr 2 0 0 0)), (161, (i64 (Sh.w (c75 - 1))))]) (st' := [⟨0, 110, 5, [[(i64 p2.op), (i64 p2.num), (i64 p2.into), (ls eI p2.args), (ls eBlock p2.kids)]]⟩, ⟨0, 97, 3, [[(i64 0), (i64 0), .zc]]⟩, ⟨0, 42, 2, [[(ls eRDecl p0.decls), (ls eRRoutine p0.routines)]]⟩]) (st1 := [⟨0, 110, 5, [[(i64 p2.op), (i64 p2.num), (i64 p2.into), (ls eI p2.args), (ls eBlock p2.kids)]]⟩, ⟨0, 97, 3, [[(i64 0), (i64 0), .zc]]⟩, ⟨0, 42, 2, [[(ls eRDecl p0.decls), (ls eRRoutine p0.routines)]]⟩]) [1, 2, 0] rfl .nil (by decide) rfl rfl (.raw rfl rfl (.raw rfl rfl (.raw rfl rfl .nil))) ⟨.rfl, .rfl, .rfl, .rfl, .rfl, trivial⟩) ?_; exact Wk.to (L := [(1, (ls eI p1)), (5, (.ptr 0 0 0 0)), (7, (.ptr 1 0 0 0)), (152, (.ptr 2 0 0 0)), (161, (i64 (Sh.w (c75 - 1))))]) ⟨.rfl, .rfl, .rfl, .rfl, .rfl, trivial⟩) (AX.lst (by kernel_rfl) ((hA77 _ _ _).1 A77_023456789c)) rfl)
               have A77_23456789 : A77 6 #[false, false, true, true, true, true, true, true, true, true, false, false, false, false] ⟨183, envL [(1, (ls eI p1)), (3, (.ptr 0 0 0 0)), (5, (.ptr 1 0 0 0)), (161, (i64 (Sh.w (c75 - 1))))], [⟨0, 42, 2, [[(ls eRDecl p0.decls), (ls eRRoutine p0.routines)]]⟩, ⟨0, 110, 5, [[(i64 p2.op), (i64 p2.num), (i64 p2.into), (ls eI p2.args), (ls eBlock p2.kids)]]⟩]⟩ := (hA77 _ _ _).2 (by
                refine AX.all [0, 12] rfl (by kernel_rfl) (by decide) ⟨?_, ?_, trivial⟩
                ·refine AXs.of (i := 0) rfl rfl (by rfl) ?_
                 refine zq tb rfl (AO.done ⟨rfl, ?_⟩)
                 exact AX.weaken (by refine Wk.trans (Wk.permk (L := [(1, (ls eI p1)), (5, (.ptr 0 0 0 0)), (152, (.ptr 1 0 0 0)), (161, (i64 (Sh.w (c75 - 1))))]) (st' := [⟨0, 110, 5, [[(i64 p2.op), (i64 p2.num), (i64 p2.into), (ls eI p2.args), (ls eBlock p2.kids)]]⟩, ⟨0, 42, 2, [[(ls eRDecl p0.decls), (ls eRRoutine p0.routines)]]⟩]) (st1 := [⟨0, 110, 5, [[(i64 p2.op), (i64 p2.num), (i64 p2.into), (ls eI p2.args), (ls eBlock p2.kids)]]⟩, ⟨0, 42, 2, [[(ls eRDecl p0.decls), (ls eRRoutine p0.routines)]]⟩]) [1, 0] rfl .nil (by decide) rfl rfl (.raw rfl rfl (.raw rfl rfl .nil)) ⟨.rfl, .rfl, .rfl, .rfl, trivial⟩) ?_; exact Wk.to (L := [(1, (ls eI p1)), (5, (.ptr 0 0 0 0)), (152, (.ptr 1 0 0 0)), (161, (i64 (Sh.w (c75 - 1))))]) ⟨.rfl, .rfl, .rfl, .rfl, trivial⟩) (AX.lst (by kernel_rfl) ((hA77 _ _ _).1 A77_023456789)) rfl
                ·refine AXs.of (i := 12) rfl rfl (by rfl) ?_
                 refine ao_alloc (m := 2) (st' := [⟨0, 42, 2, [[(ls eRDecl p0.decls), (ls eRRoutine p0.routines)]]⟩, ⟨0, 110, 5, [[(i64 p2.op), (i64 p2.num), (i64 p2.into), (ls eI p2.args), (ls eBlock p2.kids)]]⟩, ⟨0, 97, 3, [[(i64 0), (i64 0), .zc]]⟩]) go0 zi97 rfl rfl (AO.done ⟨rfl, ?_⟩)
                 exact AX.weaken (Wk.to (L := [(1, (ls eI p1)), (3, (.ptr 0 0 0 0)), (5, (.ptr 1 0 0 0)), (7, (.ptr 2 0 0 0)), (161, (i64 (Sh.w (c75 - 1))))]) ⟨.rfl, .rfl, .rfl, .rfl, .rfl, trivial⟩) (AX.lst (by kernel_rfl) ((hA77 _ _ _).1 A77_23456789c)) rfl)
               have A77_2345678c : A77 6 #[false, false, true, true, true, true, true, true, true, false, false, false, true, false] ⟨183, envL [(1, (ls eI p1)), (3, (.ptr 0 0 0 0)), (5, (.ptr 1 0 0 0)), (7, (.ptr 2 0 0 0)), (160, (i64 c75))], [⟨0, 42, 2, [[(ls eRDecl p0.decls), (ls eRRoutine p0.routines)]]⟩, ⟨0, 110, 5, [[(i64 p2.op), (i64 p2.num), (i64 p2.into), (ls eI p2.args), (ls eBlock p2.kids)]]⟩, ⟨0, 97, 3, [[(i64 0), (i64 0), .zc]]⟩]⟩ := (hA77 _ _ _).2 (by
                refine AX.all [0, 9] rfl (by kernel_rfl) (by decide) ⟨?_, ?_, trivial⟩
                ·refine AXs.of (i := 0) rfl rfl (by rfl) ?_
                 refine zq tb rfl (AO.done ⟨rfl, ?_⟩)
                 exact AX.weaken (by refine Wk.trans (Wk.permk (L := [(1, (ls eI p1)), (5, (.ptr 0 0 0 0)), (7, (.ptr 1 0 0 0)), (152, (.ptr 2 0 0 0)), (160, (i64 c75))]) (st' := [⟨0, 110, 5, [[(i64 p2.op), (i64 p2.num), (i64 p2.into), (ls eI p2.args), (ls eBlock p2.kids)]]⟩, ⟨0, 97, 3, [[(i64 0), (i64 0), .zc]]⟩, ⟨0, 42, 2, [[(ls eRDecl p0.decls), (ls eRRoutine p0.routines)]]⟩]) (st1 := [⟨0, 110, 5, [[(i64 p2.op), (i64 p2.num), (i64 p2.into), (ls eI p2.args), (ls eBlock p2.kids)]]⟩, ⟨0, 97, 3, [[(i64 0), (i64 0), .zc]]⟩, ⟨0, 42, 2, [[(ls eRDecl p0.decls), (ls eRRoutine p0.routines)]]⟩]) [1, 2, 0] rfl .nil (by decide) rfl rfl (.raw rfl rfl (.raw rfl rfl (.raw rfl rfl .nil))) ⟨.rfl, .rfl, .rfl, .rfl, .rfl, trivial⟩) ?_; exact Wk.to (L := [(1, (ls eI p1)), (5, (.ptr 0 0 0 0)), (7, (.ptr 1 0 0 0)), (152, (.ptr 2 0 0 0)), (160, (i64 c75))]) ⟨.rfl, .rfl, .rfl, .rfl, .rfl, trivial⟩) (AX.lst (by kernel_rfl) ((hA77 _ _ _).1 A77_02345678c)) rfl
                ·refine AXs.of (i := 9) rfl rfl (by rfl) ?_
                 refine zq tb rfl (AO.done ⟨rfl, ?_⟩)
                 exact AX.weaken (Wk.to (L := [(1, (ls eI p1)), (3, (.ptr 0 0 0 0)), (5, (.ptr 1 0 0 0)), (7, (.ptr 2 0 0 0)), (161, (i64 (Sh.w (c75 - 1))))]) ⟨.rfl, .rfl, .rfl, .rfl, .rfl, trivial⟩) (AX.lst (by kernel_rfl) ((hA77 _ _ _).1 A77_23456789c)) rfl)
               have A77_2345678 : A77 7 #[false, false, true, true, true, true, true, true, true, false, false, false, false, false] ⟨183, envL [(1, (ls eI p1)), (3, (.ptr 0 0 0 0)), (5, (.ptr 1 0 0 0)), (160, (i64 c75))], [⟨0, 42, 2, [[(ls eRDecl p0.decls), (ls eRRoutine p0.routines)]]⟩, ⟨0, 110, 5, [[(i64 p2.op), (i64 p2.num), (i64 p2.into), (ls eI p2.args), (ls eBlock p2.kids)]]⟩]⟩ := (hA77 _ _ _).2 (by
                refine AX.all [0, 9, 12] rfl (by kernel_rfl) (by decide) ⟨?_, ?_, ?_, trivial⟩
                ·refine AXs.of (i := 0) rfl rfl (by rfl) ?_
                 refine zq tb rfl (AO.done ⟨rfl, ?_⟩)
                 exact AX.weaken (by refine Wk.trans (Wk.permk (L := [(1, (ls eI p1)), (5, (.ptr 0 0 0 0)), (152, (.ptr 1 0 0 0)), (160, (i64 c75))]) (st' := [⟨0, 110, 5, [[(i64 p2.op), (i64 p2.num), (i64 p2.into), (ls eI p2.args), (ls eBlock p2.kids)]]⟩, ⟨0, 42, 2, [[(ls eRDecl p0.decls), (ls eRRoutine p0.routines)]]⟩]) (st1 := [⟨0, 110, 5, [[(i64 p2.op), (i64 p2.num), (i64 p2.into), (ls eI p2.args), (ls eBlock p2.kids)]]⟩, ⟨0, 42, 2, [[(ls eRDecl p0.decls), (ls eRRoutine p0.routines)]]⟩]) [1, 0] rfl .nil (by decide) rfl rfl (.raw rfl rfl (.raw rfl rfl .nil)) ⟨.rfl, .rfl, .rfl, .rfl, trivial⟩) ?_; exact Wk.to (L := [(1, (ls eI p1)), (5, (.ptr 0 0 0 0)), (152, (.ptr 1 0 0 0)), (160, (i64 c75))]) ⟨.rfl, .rfl, .rfl, .rfl, trivial⟩) (AX.lst (by kernel_rfl) ((hA77 _ _ _).1 A77_02345678)) rfl
                ·refine AXs.of (i := 9) rfl rfl (by rfl) ?_
                 refine zq tb rfl (AO.done ⟨rfl, ?_⟩)
                 exact AX.weaken (Wk.to (L := [(1, (ls eI p1)), (3, (.ptr 0 0 0 0)), (5, (.ptr 1 0 0 0)), (161, (i64 (Sh.w (c75 - 1))))]) ⟨.rfl, .rfl, .rfl, .rfl, trivial⟩) (AX.lst (by kernel_rfl) ((hA77 _ _ _).1 A77_23456789)) rfl
                ·refine AXs.of (i := 12) rfl rfl (by rfl) ?_
                 refine ao_alloc (m := 2) (st' := [⟨0, 42, 2, [[(ls eRDecl p0.decls), (ls eRRoutine p0.routines)]]⟩, ⟨0, 110, 5, [[(i64 p2.op), (i64 p2.num), (i64 p2.into), (ls eI p2.args), (ls eBlock p2.kids)]]⟩, ⟨0, 97, 3, [[(i64 0), (i64 0), .zc]]⟩]) go0 zi97 rfl rfl (AO.done ⟨rfl, ?_⟩)
                 exact AX.weaken (Wk.to (L := [(1, (ls eI p1)), (3, (.ptr 0 0 0 0)), (5, (.ptr 1 0 0 0)), (7, (.ptr 2 0 0 0)), (160, (i64 c75))]) ⟨.rfl, .rfl, .rfl, .rfl, .rfl, trivial⟩) (AX.lst (by kernel_rfl) ((hA77 _ _ _).1 A77_2345678c)) rfl)
               have A77_234567c : A77 7 #[false, false, true, true, true, true, true, true, false, false, false, false, true, false] ⟨183, envL [(1, (ls eI p1)), (3, (.ptr 0 0 0 0)), (5, (.ptr 1 0 0 0)), (7, (.ptr 2 0 0 0)), (159, (.iptr (eI c75) 0))], [⟨0, 42, 2, [[(ls eRDecl p0.decls), (ls eRRoutine p0.routines)]]⟩, ⟨0, 110, 5, [[(i64 p2.op), (i64 p2.num), (i64 p2.into), (ls eI p2.args), (ls eBlock p2.kids)]]⟩, ⟨0, 97, 3, [[(i64 0), (i64 0), .zc]]⟩]⟩ := (hA77 _ _ _).2 (by
                refine AX.all [0, 8] rfl (by kernel_rfl) (by decide) ⟨?_, ?_, trivial⟩
                ·refine AXs.of (i := 0) rfl rfl (by rfl) ?_
                 refine zq tb rfl (AO.done ⟨rfl, ?_⟩)
                 exact AX.weaken (by refine Wk.trans (Wk.permk (L := [(1, (ls eI p1)), (5, (.ptr 0 0 0 0)), (7, (.ptr 1 0 0 0)), (152, (.ptr 2 0 0 0)), (159, (.iptr (eI c75) 0))]) (st' := [⟨0, 110, 5, [[(i64 p2.op), (i64 p2.num), (i64 p2.into), (ls eI p2.args), (ls eBlock p2.kids)]]⟩, ⟨0, 97, 3, [[(i64 0), (i64 0), .zc]]⟩, ⟨0, 42, 2, [[(ls eRDecl p0.decls), (ls eRRoutine p0.routines)]]⟩]) (st1 := [⟨0, 110, 5, [[(i64 p2.op), (i64 p2.num), (i64 p2.into), (ls eI p2.args), (ls eBlock p2.kids)]]⟩, ⟨0, 97, 3, [[(i64 0), (i64 0), .zc]]⟩, ⟨0, 42, 2, [[(ls eRDecl p0.decls), (ls eRRoutine p0.routines)]]⟩]) [1, 2, 0] rfl .nil (by decide) rfl rfl (.raw rfl rfl (.raw rfl rfl (.raw rfl rfl .nil))) ⟨.rfl, .rfl, .rfl, .rfl, .rfl, trivial⟩) ?_; exact Wk.to (L := [(1, (ls eI p1)), (5, (.ptr 0 0 0 0)), (7, (.ptr 1 0 0 0)), (152, (.ptr 2 0 0 0)), (159, (.iptr (eI c75) 0))]) ⟨.rfl, .rfl, .rfl, .rfl, .rfl, trivial⟩) (AX.lst (by kernel_rfl) ((hA77 _ _ _).1 A77_0234567c)) rfl
                ·refine AXs.of (i := 8) rfl rfl (by rfl) ?_
                 refine zq tb rfl (AO.done ⟨rfl, ?_⟩)
                 exact AX.weaken (Wk.to (L := [(1, (ls eI p1)), (3, (.ptr 0 0 0 0)), (5, (.ptr 1 0 0 0)), (7, (.ptr 2 0 0 0)), (160, (i64 c75))]) ⟨.rfl, .rfl, .rfl, .rfl, .rfl, trivial⟩) (AX.lst (by kernel_rfl) ((hA77 _ _ _).1 A77_2345678c)) rfl)
               have A77_234567 : A77 8 #[false, false, true, true, true, true, true, true, false, false, false, false, false, false] ⟨183, envL [(1, (ls eI p1)), (3, (.ptr 0 0 0 0)), (5, (.ptr 1 0 0 0)), (159, (.iptr (eI c75) 0))], [⟨0, 42, 2, [[(ls eRDecl p0.decls), (ls eRRoutine p0.routines)]]⟩, ⟨0, 110, 5, [[(i64 p2.op), (i64 p2.num), (i64 p2.into), (ls eI p2.args), (ls eBlock p2.kids)]]⟩]⟩ := (hA77 _ _ _).2 (by
                refine AX.all [0, 8, 12] rfl (by kernel_rfl) (by decide) ⟨?_, ?_, ?_, trivial⟩
                ·refine AXs.of (i := 0) rfl rfl (by rfl) ?_
                 refine zq tb rfl (AO.done ⟨rfl, ?_⟩)
                 exact AX.weaken (by refine Wk.trans (Wk.permk (L := [(1, (ls eI p1)), (5, (.ptr 0 0 0 0)), (152, (.ptr 1 0 0 0)), (159, (.iptr (eI c75) 0))]) (st' := [⟨0, 110, 5, [[(i64 p2.op), (i64 p2.num), (i64 p2.into), (ls eI p2.args), (ls eBlock p2.kids)]]⟩, ⟨0, 42, 2, [[(ls eRDecl p0.decls), (ls eRRoutine p0.routines)]]⟩]) (st1 := [⟨0, 110, 5, [[(i64 p2.op), (i64 p2.num), (i64 p2.into), (ls eI p2.args), (ls eBlock p2.kids)]]⟩, ⟨0, 42, 2, [[(ls eRDecl p0.decls), (ls eRRoutine p0.routines)]]⟩]) [1, 0] rfl .nil (by decide) rfl rfl (.raw rfl rfl (.raw rfl rfl .nil)) ⟨.rfl, .rfl, .rfl, .rfl, trivial⟩) ?_; exact Wk.to (L := [(1, (ls eI p1)), (5, (.ptr 0 0 0 0)), (152, (.ptr 1 0 0 0)), (159, (.iptr (eI c75) 0))]) ⟨.rfl, .rfl, .rfl, .rfl, trivial⟩) (AX.lst (by kernel_rfl) ((hA77 _ _ _).1 A77_0234567)) rfl
                ·refine AXs.of (i := 8) rfl rfl (by rfl) ?_
                 refine zq tb rfl (AO.done ⟨rfl, ?_⟩)
                 exact AX.weaken (Wk.to (L := [(1, (ls eI p1)), (3, (.ptr 0 0 0 0)), (5, (.ptr 1 0 0 0)), (160, (i64 c75))]) ⟨.rfl, .rfl, .rfl, .rfl, trivial⟩) (AX.lst (by kernel_rfl) ((hA77 _ _ _).1 A77_2345678)) rfl
                ·refine AXs.of (i := 12) rfl rfl (by rfl) ?_
                 refine ao_alloc (m := 2) (st' := [⟨0, 42, 2, [[(ls eRDecl p0.decls), (ls eRRoutine p0.routines)]]⟩, ⟨0, 110, 5, [[(i64 p2.op), (i64 p2.num), (i64 p2.into), (ls eI p2.args), (ls eBlock p2.kids)]]⟩, ⟨0, 97, 3, [[(i64 0), (i64 0), .zc]]⟩]) go0 zi97 rfl rfl (AO.done ⟨rfl, ?_⟩)
                 exact AX.weaken (Wk.to (L := [(1, (ls eI p1)), (3, (.ptr 0 0 0 0)), (5, (.ptr 1 0 0 0)), (7, (.ptr 2 0 0 0)), (159, (.iptr (eI c75) 0))]) ⟨.rfl, .rfl, .rfl, .rfl, .rfl, trivial⟩) (AX.lst (by kernel_rfl) ((hA77 _ _ _).1 A77_234567c)) rfl)
               have A77_23456c : A77 8 #[false, false, true, true, true, true, true, false, false, false, false, false, true, false] ⟨183, envL [(1, (ls eI p1)), (3, (.ptr 0 0 0 0)), (5, (.ptr 1 0 0 0)), (7, (.ptr 2 0 0 0)), (154, (ls eI p1)), (158, (i64 c74))], [⟨0, 42, 2, [[(ls eRDecl p0.decls), (ls eRRoutine p0.routines)]]⟩, ⟨0, 110, 5, [[(i64 p2.op), (i64 p2.num), (i64 p2.into), (ls eI p2.args), (ls eBlock p2.kids)]]⟩, ⟨0, 97, 3, [[(i64 0), (i64 0), .zc]]⟩]⟩ := (hA77 _ _ _).2 (by
                refine AX.all [0, 7] rfl (by kernel_rfl) (by decide) ⟨?_, ?_, trivial⟩
                ·refine AXs.of (i := 0) rfl rfl (by rfl) ?_
                 refine zq tb rfl (AO.done ⟨rfl, ?_⟩)
                 exact AX.weaken (by refine Wk.trans (Wk.permk (L := [(1, (ls eI p1)), (5, (.ptr 0 0 0 0)), (7, (.ptr 1 0 0 0)), (152, (.ptr 2 0 0 0)), (154, (ls eI p1)), (158, (i64 c74))]) (st' := [⟨0, 110, 5, [[(i64 p2.op), (i64 p2.num), (i64 p2.into), (ls eI p2.args), (ls eBlock p2.kids)]]⟩, ⟨0, 97, 3, [[(i64 0), (i64 0), .zc]]⟩, ⟨0, 42, 2, [[(ls eRDecl p0.decls), (ls eRRoutine p0.routines)]]⟩]) (st1 := [⟨0, 110, 5, [[(i64 p2.op), (i64 p2.num), (i64 p2.into), (ls eI p2.args), (ls eBlock p2.kids)]]⟩, ⟨0, 97, 3, [[(i64 0), (i64 0), .zc]]⟩, ⟨0, 42, 2, [[(ls eRDecl p0.decls), (ls eRRoutine p0.routines)]]⟩]) [1, 2, 0] rfl .nil (by decide) rfl rfl (.raw rfl rfl (.raw rfl rfl (.raw rfl rfl .nil))) ⟨.rfl, .rfl, .rfl, .rfl, .rfl, .rfl, trivial⟩) ?_; exact Wk.to (L := [(1, (ls eI p1)), (5, (.ptr 0 0 0 0)), (7, (.ptr 1 0 0 0)), (152, (.ptr 2 0 0 0)), (154, (ls eI p1)), (158, (i64 c74))]) ⟨.rfl, .rfl, .rfl, .rfl, .rfl, .rfl, trivial⟩) (AX.lst (by kernel_rfl) ((hA77 _ _ _).1 A77_023456c)) rfl
                ·refine AXs.of (i := 7) rfl rfl (by rfl) ?_
                 refine zx ei22 gc75 rfl rfl rfl (AO.done ⟨rfl, ?_⟩)
                 exact AX.weaken (Wk.to (L := [(1, (ls eI p1)), (3, (.ptr 0 0 0 0)), (5, (.ptr 1 0 0 0)), (7, (.ptr 2 0 0 0)), (159, (.iptr (eI c75) 0))]) ⟨.rfl, .rfl, .rfl, .rfl, .rfl, trivial⟩) (AX.lst (by kernel_rfl) ((hA77 _ _ _).1 A77_234567c)) rfl)
               have A77_23456 : A77 9 #[false, false, true, true, true, true, true, false, false, false, false, false, false, false] ⟨183, envL [(1, (ls eI p1)), (3, (.ptr 0 0 0 0)), (5, (.ptr 1 0 0 0)), (154, (ls eI p1)), (158, (i64 c74))], [⟨0, 42, 2, [[(ls eRDecl p0.decls), (ls eRRoutine p0.routines)]]⟩, ⟨0, 110, 5, [[(i64 p2.op), (i64 p2.num), (i64 p2.into), (ls eI p2.args), (ls eBlock p2.kids)]]⟩]⟩ := (hA77 _ _ _).2 (by
                refine AX.all [0, 7, 12] rfl (by kernel_rfl) (by decide) ⟨?_, ?_, ?_, trivial⟩
                ·refine AXs.of (i := 0) rfl rfl (by rfl) ?_
                 refine zq tb rfl (AO.done ⟨rfl, ?_⟩)
                 exact AX.weaken (by refine Wk.trans (Wk.permk (L := [(1, (ls eI p1)), (5, (.ptr 0 0 0 0)), (152, (.ptr 1 0 0 0)), (154, (ls eI p1)), (158, (i64 c74))]) (st' := [⟨0, 110, 5, [[(i64 p2.op), (i64 p2.num), (i64 p2.into), (ls eI p2.args), (ls eBlock p2.kids)]]⟩, ⟨0, 42, 2, [[(ls eRDecl p0.decls), (ls eRRoutine p0.routines)]]⟩]) (st1 := [⟨0, 110, 5, [[(i64 p2.op), (i64 p2.num), (i64 p2.into), (ls eI p2.args), (ls eBlock p2.kids)]]⟩, ⟨0, 42, 2, [[(ls eRDecl p0.decls), (ls eRRoutine p0.routines)]]⟩]) [1, 0] rfl .nil (by decide) rfl rfl (.raw rfl rfl (.raw rfl rfl .nil)) ⟨.rfl, .rfl, .rfl, .rfl, .rfl, trivial⟩) ?_; exact Wk.to (L := [(1, (ls eI p1)), (5, (.ptr 0 0 0 0)), (152, (.ptr 1 0 0 0)), (154, (ls eI p1)), (158, (i64 c74))]) ⟨.rfl, .rfl, .rfl, .rfl, .rfl, trivial⟩) (AX.lst (by kernel_rfl) ((hA77 _ _ _).1 A77_023456)) rfl
                ·refine AXs.of (i := 7) rfl rfl (by rfl) ?_
                 refine zx ei22 gc75 rfl rfl rfl (AO.done ⟨rfl, ?_⟩)
                 exact AX.weaken (Wk.to (L := [(1, (ls eI p1)), (3, (.ptr 0 0 0 0)), (5, (.ptr 1 0 0 0)), (159, (.iptr (eI c75) 0))]) ⟨.rfl, .rfl, .rfl, .rfl, trivial⟩) (AX.lst (by kernel_rfl) ((hA77 _ _ _).1 A77_234567)) rfl
                ·refine AXs.of (i := 12) rfl rfl (by rfl) ?_
                 refine ao_alloc (m := 2) (st' := [⟨0, 42, 2, [[(ls eRDecl p0.decls), (ls eRRoutine p0.routines)]]⟩, ⟨0, 110, 5, [[(i64 p2.op), (i64 p2.num), (i64 p2.into), (ls eI p2.args), (ls eBlock p2.kids)]]⟩, ⟨0, 97, 3, [[(i64 0), (i64 0), .zc]]⟩]) go0 zi97 rfl rfl (AO.done ⟨rfl, ?_⟩)
                 exact AX.weaken (Wk.to (L := [(1, (ls eI p1)), (3, (.ptr 0 0 0 0)), (5, (.ptr 1 0 0 0)), (7, (.ptr 2 0 0 0)), (154, (ls eI p1)), (158, (i64 c74))]) ⟨.rfl, .rfl, .rfl, .rfl, .rfl, .rfl, trivial⟩) (AX.lst (by kernel_rfl) ((hA77 _ _ _).1 A77_23456c)) rfl)
               have A77_2345c : A77 9 #[false, false, true, true, true, true, false, false, false, false, false, false, true, false] ⟨183, envL [(1, (ls eI p1)), (3, (.ptr 0 0 0 0)), (5, (.ptr 1 0 0 0)), (7, (.ptr 2 0 0 0)), (154, (ls eI p1)), (157, (.iptr (eI c74) 0))], [⟨0, 42, 2, [[(ls eRDecl p0.decls), (ls eRRoutine p0.routines)]]⟩, ⟨0, 110, 5, [[(i64 p2.op), (i64 p2.num), (i64 p2.into), (ls eI p2.args), (ls eBlock p2.kids)]]⟩, ⟨0, 97, 3, [[(i64 0), (i64 0), .zc]]⟩]⟩ := (hA77 _ _ _).2 (by
                refine AX.all [0, 6] rfl (by kernel_rfl) (by decide) ⟨?_, ?_, trivial⟩
                ·refine AXs.of (i := 0) rfl rfl (by rfl) ?_
                 refine zq tb rfl (AO.done ⟨rfl, ?_⟩)
                 exact AX.weaken (by refine Wk.trans (Wk.permk (L := [(1, (ls eI p1)), (5, (.ptr 0 0 0 0)), (7, (.ptr 1 0 0 0)), (152, (.ptr 2 0 0 0)), (154, (ls eI p1)), (157, (.iptr (eI c74) 0))]) (st' := [⟨0, 110, 5, [[(i64 p2.op), (i64 p2.num), (i64 p2.into), (ls eI p2.args), (ls eBlock p2.kids)]]⟩, ⟨0, 97, 3, [[(i64 0), (i64 0), .zc]]⟩, ⟨0, 42, 2, [[(ls eRDecl p0.decls), (ls eRRoutine p0.routines)]]⟩]) (st1 := [⟨0, 110, 5, [[(i64 p2.op), (i64 p2.num), (i64 p2.into), (ls eI p2.args), (ls eBlock p2.kids)]]⟩, ⟨0, 97, 3, [[(i64 0), (i64 0), .zc]]⟩, ⟨0, 42, 2, [[(ls eRDecl p0.decls), (ls eRRoutine p0.routines)]]⟩]) [1, 2, 0] rfl .nil (by decide) rfl rfl (.raw rfl rfl (.raw rfl rfl (.raw rfl rfl .nil))) ⟨.rfl, .rfl, .rfl, .rfl, .rfl, .rfl, trivial⟩) ?_; exact Wk.to (L := [(1, (ls eI p1)), (5, (.ptr 0 0 0 0)), (7, (.ptr 1 0 0 0)), (152, (.ptr 2 0 0 0)), (154, (ls eI p1)), (157, (.iptr (eI c74) 0))]) ⟨.rfl, .rfl, .rfl, .rfl, .rfl, .rfl, trivial⟩) (AX.lst (by kernel_rfl) ((hA77 _ _ _).1 A77_02345c)) rfl
                ·refine AXs.of (i := 6) rfl rfl (by rfl) ?_
                 refine zq tb rfl (AO.done ⟨rfl, ?_⟩)
                 exact AX.weaken (Wk.to (L := [(1, (ls eI p1)), (3, (.ptr 0 0 0 0)), (5, (.ptr 1 0 0 0)), (7, (.ptr 2 0 0 0)), (154, (ls eI p1)), (158, (i64 c74))]) ⟨.rfl, .rfl, .rfl, .rfl, .rfl, .rfl, trivial⟩) (AX.lst (by kernel_rfl) ((hA77 _ _ _).1 A77_23456c)) rfl)
               have A77_2345 : A77 10 #[false, false, true, true, true, true, false, false, false, false, false, false, false, false] ⟨183, envL [(1, (ls eI p1)), (3, (.ptr 0 0 0 0)), (5, (.ptr 1 0 0 0)), (154, (ls eI p1)), (157, (.iptr (eI c74) 0))], [⟨0, 42, 2, [[(ls eRDecl p0.decls), (ls eRRoutine p0.routines)]]⟩, ⟨0, 110, 5, [[(i64 p2.op), (i64 p2.num), (i64 p2.into), (ls eI p2.args), (ls eBlock p2.kids)]]⟩]⟩ := (hA77 _ _ _).2 (by
                refine AX.all [0, 6, 12] rfl (by kernel_rfl) (by decide) ⟨?_, ?_, ?_, trivial⟩
                ·refine AXs.of (i := 0) rfl rfl (by rfl) ?_
                 refine zq tb rfl (AO.done ⟨rfl, ?_⟩)
                 exact AX.weaken (by refine Wk.trans (Wk.permk (L := [(1, (ls eI p1)), (5, (.ptr 0 0 0 0)), (152, (.ptr 1 0 0 0)), (154, (ls eI p1)), (157, (.iptr (eI c74) 0))]) (st' := [⟨0, 110, 5, [[(i64 p2.op), (i64 p2.num), (i64 p2.into), (ls eI p2.args), (ls eBlock p2.kids)]]⟩, ⟨0, 42, 2, [[(ls eRDecl p0.decls), (ls eRRoutine p0.routines)]]⟩]) (st1 := [⟨0, 110, 5, [[(i64 p2.op), (i64 p2.num), (i64 p2.into), (ls eI p2.args), (ls eBlock p2.kids)]]⟩, ⟨0, 42, 2, [[(ls eRDecl p0.decls), (ls eRRoutine p0.routines)]]⟩]) [1, 0] rfl .nil (by decide) rfl rfl (.raw rfl rfl (.raw rfl rfl .nil)) ⟨.rfl, .rfl, .rfl, .rfl, .rfl, trivial⟩) ?_; exact Wk.to (L := [(1, (ls eI p1)), (5, (.ptr 0 0 0 0)), (152, (.ptr 1 0 0 0)), (154, (ls eI p1)), (157, (.iptr (eI c74) 0))]) ⟨.rfl, .rfl, .rfl, .rfl, .rfl, trivial⟩) (AX.lst (by kernel_rfl) ((hA77 _ _ _).1 A77_02345)) rfl
                ·refine AXs.of (i := 6) rfl rfl (by rfl) ?_
                 refine zq tb rfl (AO.done ⟨rfl, ?_⟩)
                 exact AX.weaken (Wk.to (L := [(1, (ls eI p1)), (3, (.ptr 0 0 0 0)), (5, (.ptr 1 0 0 0)), (154, (ls eI p1)), (158, (i64 c74))]) ⟨.rfl, .rfl, .rfl, .rfl, .rfl, trivial⟩) (AX.lst (by kernel_rfl) ((hA77 _ _ _).1 A77_23456)) rfl
                ·refine AXs.of (i := 12) rfl rfl (by rfl) ?_
                 refine ao_alloc (m := 2) (st' := [⟨0, 42, 2, [[(ls eRDecl p0.decls), (ls eRRoutine p0.routines)]]⟩, ⟨0, 110, 5, [[(i64 p2.op), (i64 p2.num), (i64 p2.into), (ls eI p2.args), (ls eBlock p2.kids)]]⟩, ⟨0, 97, 3, [[(i64 0), (i64 0), .zc]]⟩]) go0 zi97 rfl rfl (AO.done ⟨rfl, ?_⟩)
                 exact AX.weaken (Wk.to (L := [(1, (ls eI p1)), (3, (.ptr 0 0 0 0)), (5, (.ptr 1 0 0 0)), (7, (.ptr 2 0 0 0)), (154, (ls eI p1)), (157, (.iptr (eI c74) 0))]) ⟨.rfl, .rfl, .rfl, .rfl, .rfl, .rfl, trivial⟩) (AX.lst (by kernel_rfl) ((hA77 _ _ _).1 A77_2345c)) rfl)
               have A77_234c : A77 10 #[false, false, true, true, true, false, false, false, false, false, false, false, true, false] ⟨183, envL [(1, (ls eI p1)), (3, (.ptr 0 0 0 0)), (5, (.ptr 1 0 0 0)), (7, (.ptr 2 0 0 0)), (154, (ls eI p1)), (156, (ls eI p2.args))], [⟨0, 42, 2, [[(ls eRDecl p0.decls), (ls eRRoutine p0.routines)]]⟩, ⟨0, 110, 5, [[(i64 p2.op), (i64 p2.num), (i64 p2.into), (ls eI p2.args), (ls eBlock p2.kids)]]⟩, ⟨0, 97, 3, [[(i64 0), (i64 0), .zc]]⟩]⟩ := (hA77 _ _ _).2 (by
                refine AX.all [0, 5] rfl (by kernel_rfl) (by decide) ⟨?_, ?_, trivial⟩
                ·refine AXs.of (i := 0) rfl rfl (by rfl) ?_
                 refine zq tb rfl (AO.done ⟨rfl, ?_⟩)
                 exact AX.weaken (by refine Wk.trans (Wk.permk (L := [(1, (ls eI p1)), (5, (.ptr 0 0 0 0)), (7, (.ptr 1 0 0 0)), (152, (.ptr 2 0 0 0)), (154, (ls eI p1)), (156, (ls eI p2.args))]) (st' := [⟨0, 110, 5, [[(i64 p2.op), (i64 p2.num), (i64 p2.into), (ls eI p2.args), (ls eBlock p2.kids)]]⟩, ⟨0, 97, 3, [[(i64 0), (i64 0), .zc]]⟩, ⟨0, 42, 2, [[(ls eRDecl p0.decls), (ls eRRoutine p0.routines)]]⟩]) (st1 := [⟨0, 110, 5, [[(i64 p2.op), (i64 p2.num), (i64 p2.into), (ls eI p2.args), (ls eBlock p2.kids)]]⟩, ⟨0, 97, 3, [[(i64 0), (i64 0), .zc]]⟩, ⟨0, 42, 2, [[(ls eRDecl p0.decls), (ls eRRoutine p0.routines)]]⟩]) [1, 2, 0] rfl .nil (by decide) rfl rfl (.raw rfl rfl (.raw rfl rfl (.raw rfl rfl .nil))) ⟨.rfl, .rfl, .rfl, .rfl, .rfl, .rfl, trivial⟩) ?_; exact Wk.to (L := [(1, (ls eI p1)), (5, (.ptr 0 0 0 0)), (7, (.ptr 1 0 0 0)), (152, (.ptr 2 0 0 0)), (154, (ls eI p1)), (156, (ls eI p2.args))]) ⟨.rfl, .rfl, .rfl, .rfl, .rfl, .rfl, trivial⟩) (AX.lst (by kernel_rfl) ((hA77 _ _ _).1 A77_0234c)) rfl
                ·refine AXs.of (i := 5) rfl rfl (by rfl) ?_
                 refine zx ei22 gc74 rfl rfl rfl (AO.done ⟨rfl, ?_⟩)
                 exact AX.weaken (Wk.to (L := [(1, (ls eI p1)), (3, (.ptr 0 0 0 0)), (5, (.ptr 1 0 0 0)), (7, (.ptr 2 0 0 0)), (154, (ls eI p1)), (157, (.iptr (eI c74) 0))]) ⟨.rfl, .rfl, .rfl, .rfl, .rfl, .rfl, trivial⟩) (AX.lst (by kernel_rfl) ((hA77 _ _ _).1 A77_2345c)) rfl)
               have A77_234 : A77 11 #[false, false, true, true, true, false, false, false, false, false, false, false, false, false] ⟨183, envL [(1, (ls eI p1)), (3, (.ptr 0 0 0 0)), (5, (.ptr 1 0 0 0)), (154, (ls eI p1)), (156, (ls eI p2.args))], [⟨0, 42, 2, [[(ls eRDecl p0.decls), (ls eRRoutine p0.routines)]]⟩, ⟨0, 110, 5, [[(i64 p2.op), (i64 p2.num), (i64 p2.into), (ls eI p2.args), (ls eBlock p2.kids)]]⟩]⟩ := (hA77 _ _ _).2 (by
                refine AX.all [0, 5, 12] rfl (by kernel_rfl) (by decide) ⟨?_, ?_, ?_, trivial⟩
                ·refine AXs.of (i := 0) rfl rfl (by rfl) ?_
                 refine zq tb rfl (AO.done ⟨rfl, ?_⟩)
                 exact AX.weaken (by refine Wk.trans (Wk.permk (L := [(1, (ls eI p1)), (5, (.ptr 0 0 0 0)), (152, (.ptr 1 0 0 0)), (154, (ls eI p1)), (156, (ls eI p2.args))]) (st' := [⟨0, 110, 5, [[(i64 p2.op), (i64 p2.num), (i64 p2.into), (ls eI p2.args), (ls eBlock p2.kids)]]⟩, ⟨0, 42, 2, [[(ls eRDecl p0.decls), (ls eRRoutine p0.routines)]]⟩]) (st1 := [⟨0, 110, 5, [[(i64 p2.op), (i64 p2.num), (i64 p2.into), (ls eI p2.args), (ls eBlock p2.kids)]]⟩, ⟨0, 42, 2, [[(ls eRDecl p0.decls), (ls eRRoutine p0.routines)]]⟩]) [1, 0] rfl .nil (by decide) rfl rfl (.raw rfl rfl (.raw rfl rfl .nil)) ⟨.rfl, .rfl, .rfl, .rfl, .rfl, trivial⟩) ?_; exact Wk.to (L := [(1, (ls eI p1)), (5, (.ptr 0 0 0 0)), (152, (.ptr 1 0 0 0)), (154, (ls eI p1)), (156, (ls eI p2.args))]) ⟨.rfl, .rfl, .rfl, .rfl, .rfl, trivial⟩) (AX.lst (by kernel_rfl) ((hA77 _ _ _).1 A77_0234)) rfl
                ·refine AXs.of (i := 5) rfl rfl (by rfl) ?_
                 refine zx ei22 gc74 rfl rfl rfl (AO.done ⟨rfl, ?_⟩)
                 exact AX.weaken (Wk.to (L := [(1, (ls eI p1)), (3, (.ptr 0 0 0 0)), (5, (.ptr 1 0 0 0)), (154, (ls eI p1)), (157, (.iptr (eI c74) 0))]) ⟨.rfl, .rfl, .rfl, .rfl, .rfl, trivial⟩) (AX.lst (by kernel_rfl) ((hA77 _ _ _).1 A77_2345)) rfl
                ·refine AXs.of (i := 12) rfl rfl (by rfl) ?_
                 refine ao_alloc (m := 2) (st' := [⟨0, 42, 2, [[(ls eRDecl p0.decls), (ls eRRoutine p0.routines)]]⟩, ⟨0, 110, 5, [[(i64 p2.op), (i64 p2.num), (i64 p2.into), (ls eI p2.args), (ls eBlock p2.kids)]]⟩, ⟨0, 97, 3, [[(i64 0), (i64 0), .zc]]⟩]) go0 zi97 rfl rfl (AO.done ⟨rfl, ?_⟩)
                 exact AX.weaken (Wk.to (L := [(1, (ls eI p1)), (3, (.ptr 0 0 0 0)), (5, (.ptr 1 0 0 0)), (7, (.ptr 2 0 0 0)), (154, (ls eI p1)), (156, (ls eI p2.args))]) ⟨.rfl, .rfl, .rfl, .rfl, .rfl, .rfl, trivial⟩) (AX.lst (by kernel_rfl) ((hA77 _ _ _).1 A77_234c)) rfl)
               have A77_23c : A77 11 #[false, false, true, true, false, false, false, false, false, false, false, false, true, false] ⟨183, envL [(1, (ls eI p1)), (3, (.ptr 0 0 0 0)), (5, (.ptr 1 0 0 0)), (7, (.ptr 2 0 0 0)), (154, (ls eI p1)), (155, (.ptr 1 0 0 3))], [⟨0, 42, 2, [[(ls eRDecl p0.decls), (ls eRRoutine p0.routines)]]⟩, ⟨0, 110, 5, [[(i64 p2.op), (i64 p2.num), (i64 p2.into), (ls eI p2.args), (ls eBlock p2.kids)]]⟩, ⟨0, 97, 3, [[(i64 0), (i64 0), .zc]]⟩]⟩ := (hA77 _ _ _).2 (by
                refine AX.all [0, 4] rfl (by kernel_rfl) (by decide) ⟨?_, ?_, trivial⟩
                ·refine AXs.of (i := 0) rfl rfl (by rfl) ?_
                 refine zq tb rfl (AO.done ⟨rfl, ?_⟩)
                 exact AX.weaken (by refine Wk.trans (Wk.permk (L := [(1, (ls eI p1)), (5, (.ptr 0 0 0 0)), (7, (.ptr 1 0 0 0)), (152, (.ptr 2 0 0 0)), (154, (ls eI p1)), (155, (.ptr 0 0 0 3))]) (st' := [⟨0, 110, 5, [[(i64 p2.op), (i64 p2.num), (i64 p2.into), (ls eI p2.args), (ls eBlock p2.kids)]]⟩, ⟨0, 97, 3, [[(i64 0), (i64 0), .zc]]⟩, ⟨0, 42, 2, [[(ls eRDecl p0.decls), (ls eRRoutine p0.routines)]]⟩]) (st1 := [⟨0, 110, 5, [[(i64 p2.op), (i64 p2.num), (i64 p2.into), (ls eI p2.args), (ls eBlock p2.kids)]]⟩, ⟨0, 97, 3, [[(i64 0), (i64 0), .zc]]⟩, ⟨0, 42, 2, [[(ls eRDecl p0.decls), (ls eRRoutine p0.routines)]]⟩]) [1, 2, 0] rfl .nil (by decide) rfl rfl (.raw rfl rfl (.raw rfl rfl (.raw rfl rfl .nil))) ⟨.rfl, .rfl, .rfl, .rfl, .rfl, .rfl, trivial⟩) ?_; exact Wk.to (L := [(1, (ls eI p1)), (5, (.ptr 0 0 0 0)), (7, (.ptr 1 0 0 0)), (152, (.ptr 2 0 0 0)), (154, (ls eI p1)), (155, (.ptr 0 0 0 3))]) ⟨.rfl, .rfl, .rfl, .rfl, .rfl, .rfl, trivial⟩) (AX.lst (by kernel_rfl) ((hA77 _ _ _).1 A77_023c)) rfl
                ·refine AXs.of (i := 4) rfl rfl (by rfl) ?_
                 refine zq tb rfl (AO.done ⟨rfl, ?_⟩)
                 exact AX.weaken (Wk.to (L := [(1, (ls eI p1)), (3, (.ptr 0 0 0 0)), (5, (.ptr 1 0 0 0)), (7, (.ptr 2 0 0 0)), (154, (ls eI p1)), (156, (ls eI p2.args))]) ⟨.rfl, .rfl, .rfl, .rfl, .rfl, .rfl, trivial⟩) (AX.lst (by kernel_rfl) ((hA77 _ _ _).1 A77_234c)) rfl)
               have A77_23 : A77 12 #[false, false, true, true, false, false, false, false, false, false, false, false, false, false] ⟨183, envL [(1, (ls eI p1)), (3, (.ptr 0 0 0 0)), (5, (.ptr 1 0 0 0)), (154, (ls eI p1)), (155, (.ptr 1 0 0 3))], [⟨0, 42, 2, [[(ls eRDecl p0.decls), (ls eRRoutine p0.routines)]]⟩, ⟨0, 110, 5, [[(i64 p2.op), (i64 p2.num), (i64 p2.into), (ls eI p2.args), (ls eBlock p2.kids)]]⟩]⟩ := (hA77 _ _ _).2 (by
                refine AX.all [0, 4, 12] rfl (by kernel_rfl) (by decide) ⟨?_, ?_, ?_, trivial⟩
                ·refine AXs.of (i := 0) rfl rfl (by rfl) ?_
                 refine zq tb rfl (AO.done ⟨rfl, ?_⟩)
                 exact AX.weaken (by refine Wk.trans (Wk.permk (L := [(1, (ls eI p1)), (5, (.ptr 0 0 0 0)), (152, (.ptr 1 0 0 0)), (154, (ls eI p1)), (155, (.ptr 0 0 0 3))]) (st' := [⟨0, 110, 5, [[(i64 p2.op), (i64 p2.num), (i64 p2.into), (ls eI p2.args), (ls eBlock p2.kids)]]⟩, ⟨0, 42, 2, [[(ls eRDecl p0.decls), (ls eRRoutine p0.routines)]]⟩]) (st1 := [⟨0, 110, 5, [[(i64 p2.op), (i64 p2.num), (i64 p2.into), (ls eI p2.args), (ls eBlock p2.kids)]]⟩, ⟨0, 42, 2, [[(ls eRDecl p0.decls), (ls eRRoutine p0.routines)]]⟩]) [1, 0] rfl .nil (by decide) rfl rfl (.raw rfl rfl (.raw rfl rfl .nil)) ⟨.rfl, .rfl, .rfl, .rfl, .rfl, trivial⟩) ?_; exact Wk.to (L := [(1, (ls eI p1)), (5, (.ptr 0 0 0 0)), (152, (.ptr 1 0 0 0)), (154, (ls eI p1)), (155, (.ptr 0 0 0 3))]) ⟨.rfl, .rfl, .rfl, .rfl, .rfl, trivial⟩) (AX.lst (by kernel_rfl) ((hA77 _ _ _).1 A77_023)) rfl
                ·refine AXs.of (i := 4) rfl rfl (by rfl) ?_
                 refine zq tb rfl (AO.done ⟨rfl, ?_⟩)
                 exact AX.weaken (Wk.to (L := [(1, (ls eI p1)), (3, (.ptr 0 0 0 0)), (5, (.ptr 1 0 0 0)), (154, (ls eI p1)), (156, (ls eI p2.args))]) ⟨.rfl, .rfl, .rfl, .rfl, .rfl, trivial⟩) (AX.lst (by kernel_rfl) ((hA77 _ _ _).1 A77_234)) rfl
                ·refine AXs.of (i := 12) rfl rfl (by rfl) ?_
                 refine ao_alloc (m := 2) (st' := [⟨0, 42, 2, [[(ls eRDecl p0.decls), (ls eRRoutine p0.routines)]]⟩, ⟨0, 110, 5, [[(i64 p2.op), (i64 p2.num), (i64 p2.into), (ls eI p2.args), (ls eBlock p2.kids)]]⟩, ⟨0, 97, 3, [[(i64 0), (i64 0), .zc]]⟩]) go0 zi97 rfl rfl (AO.done ⟨rfl, ?_⟩)
                 exact AX.weaken (Wk.to (L := [(1, (ls eI p1)), (3, (.ptr 0 0 0 0)), (5, (.ptr 1 0 0 0)), (7, (.ptr 2 0 0 0)), (154, (ls eI p1)), (155, (.ptr 1 0 0 3))]) ⟨.rfl, .rfl, .rfl, .rfl, .rfl, .rfl, trivial⟩) (AX.lst (by kernel_rfl) ((hA77 _ _ _).1 A77_23c)) rfl)
               have A77_2c : A77 12 #[false, false, true, false, false, false, false, false, false, false, false, false, true, false] ⟨183, envL [(1, (ls eI p1)), (3, (.ptr 0 0 0 0)), (5, (.ptr 1 0 0 0)), (7, (.ptr 2 0 0 0)), (154, (ls eI p1))], [⟨0, 42, 2, [[(ls eRDecl p0.decls), (ls eRRoutine p0.routines)]]⟩, ⟨0, 110, 5, [[(i64 p2.op), (i64 p2.num), (i64 p2.into), (ls eI p2.args), (ls eBlock p2.kids)]]⟩, ⟨0, 97, 3, [[(i64 0), (i64 0), .zc]]⟩]⟩ := (hA77 _ _ _).2 (by
                refine AX.all [0, 3] rfl (by kernel_rfl) (by decide) ⟨?_, ?_, trivial⟩
                ·refine AXs.of (i := 0) rfl rfl (by rfl) ?_
                 refine zq tb rfl (AO.done ⟨rfl, ?_⟩)
                 exact AX.weaken (by refine Wk.trans (Wk.permk (L := [(1, (ls eI p1)), (5, (.ptr 0 0 0 0)), (7, (.ptr 1 0 0 0)), (152, (.ptr 2 0 0 0)), (154, (ls eI p1))]) (st' := [⟨0, 110, 5, [[(i64 p2.op), (i64 p2.num), (i64 p2.into), (ls eI p2.args), (ls eBlock p2.kids)]]⟩, ⟨0, 97, 3, [[(i64 0), (i64 0), .zc]]⟩, ⟨0, 42, 2, [[(ls eRDecl p0.decls), (ls eRRoutine p0.routines)]]⟩]) (st1 := [⟨0, 110, 5, [[(i64 p2.op), (i64 p2.num), (i64 p2.into), (ls eI p2.args), (ls eBlock p2.kids)]]⟩, ⟨0, 97, 3, [[(i64 0), (i64 0), .zc]]⟩, ⟨0, 42, 2, [[(ls eRDecl p0.decls), (ls eRRoutine p0.routines)]]⟩]) [1, 2, 0] rfl .nil (by decide) rfl rfl (.raw rfl rfl (.raw rfl rfl (.raw rfl rfl .nil))) ⟨.rfl, .rfl, .rfl, .rfl, .rfl, trivial⟩) ?_; exact Wk.to (L := [(1, (ls eI p1)), (5, (.ptr 0 0 0 0)), (7, (.ptr 1 0 0 0)), (152, (.ptr 2 0 0 0)), (154, (ls eI p1))]) ⟨.rfl, .rfl, .rfl, .rfl, .rfl, trivial⟩) (AX.lst (by kernel_rfl) ((hA77 _ _ _).1 A77_02c)) rfl
                ·refine AXs.of (i := 3) rfl rfl (by rfl) ?_
                 refine zq tb rfl (AO.done ⟨rfl, ?_⟩)
                 exact AX.weaken (Wk.to (L := [(1, (ls eI p1)), (3, (.ptr 0 0 0 0)), (5, (.ptr 1 0 0 0)), (7, (.ptr 2 0 0 0)), (154, (ls eI p1)), (155, (.ptr 1 0 0 3))]) ⟨.rfl, .rfl, .rfl, .rfl, .rfl, .rfl, trivial⟩) (AX.lst (by kernel_rfl) ((hA77 _ _ _).1 A77_23c)) rfl)
               have A77_2 : A77 13 #[false, false, true, false, false, false, false, false, false, false, false, false, false, false] ⟨183, envL [(1, (ls eI p1)), (3, (.ptr 0 0 0 0)), (5, (.ptr 1 0 0 0)), (154, (ls eI p1))], [⟨0, 42, 2, [[(ls eRDecl p0.decls), (ls eRRoutine p0.routines)]]⟩, ⟨0, 110, 5, [[(i64 p2.op), (i64 p2.num), (i64 p2.into), (ls eI p2.args), (ls eBlock p2.kids)]]⟩]⟩ := (hA77 _ _ _).2 (by
                refine AX.all [0, 3, 12] rfl (by kernel_rfl) (by decide) ⟨?_, ?_, ?_, trivial⟩
                ·refine AXs.of (i := 0) rfl rfl (by rfl) ?_
                 refine zq tb rfl (AO.done ⟨rfl, ?_⟩)
                 exact AX.weaken (by refine Wk.trans (Wk.permk (L := [(1, (ls eI p1)), (5, (.ptr 0 0 0 0)), (152, (.ptr 1 0 0 0)), (154, (ls eI p1))]) (st' := [⟨0, 110, 5, [[(i64 p2.op), (i64 p2.num), (i64 p2.into), (ls eI p2.args), (ls eBlock p2.kids)]]⟩, ⟨0, 42, 2, [[(ls eRDecl p0.decls), (ls eRRoutine p0.routines)]]⟩]) (st1 := [⟨0, 110, 5, [[(i64 p2.op), (i64 p2.num), (i64 p2.into), (ls eI p2.args), (ls eBlock p2.kids)]]⟩, ⟨0, 42, 2, [[(ls eRDecl p0.decls), (ls eRRoutine p0.routines)]]⟩]) [1, 0] rfl .nil (by decide) rfl rfl (.raw rfl rfl (.raw rfl rfl .nil)) ⟨.rfl, .rfl, .rfl, .rfl, trivial⟩) ?_; exact Wk.to (L := [(1, (ls eI p1)), (5, (.ptr 0 0 0 0)), (152, (.ptr 1 0 0 0)), (154, (ls eI p1))]) ⟨.rfl, .rfl, .rfl, .rfl, trivial⟩) (AX.lst (by kernel_rfl) ((hA77 _ _ _).1 A77_02)) rfl
                ·refine AXs.of (i := 3) rfl rfl (by rfl) ?_
                 refine zq tb rfl (AO.done ⟨rfl, ?_⟩)
                 exact AX.weaken (Wk.to (L := [(1, (ls eI p1)), (3, (.ptr 0 0 0 0)), (5, (.ptr 1 0 0 0)), (154, (ls eI p1)), (155, (.ptr 1 0 0 3))]) ⟨.rfl, .rfl, .rfl, .rfl, .rfl, trivial⟩) (AX.lst (by kernel_rfl) ((hA77 _ _ _).1 A77_23)) rfl
                ·refine AXs.of (i := 12) rfl rfl (by rfl) ?_
                 refine ao_alloc (m := 2) (st' := [⟨0, 42, 2, [[(ls eRDecl p0.decls), (ls eRRoutine p0.routines)]]⟩, ⟨0, 110, 5, [[(i64 p2.op), (i64 p2.num), (i64 p2.into), (ls eI p2.args), (ls eBlock p2.kids)]]⟩, ⟨0, 97, 3, [[(i64 0), (i64 0), .zc]]⟩]) go0 zi97 rfl rfl (AO.done ⟨rfl, ?_⟩)
                 exact AX.weaken (Wk.to (L := [(1, (ls eI p1)), (3, (.ptr 0 0 0 0)), (5, (.ptr 1 0 0 0)), (7, (.ptr 2 0 0 0)), (154, (ls eI p1))]) ⟨.rfl, .rfl, .rfl, .rfl, .rfl, trivial⟩) (AX.lst (by kernel_rfl) ((hA77 _ _ _).1 A77_2c)) rfl)
               have A77_e : A77 14 #[false, false, false, false, false, false, false, false, false, false, false, false, false, false] ⟨183, envL [(1, (ls eI p1)), (3, (.ptr 0 0 0 0)), (5, (.ptr 1 0 0 0))], [⟨0, 42, 2, [[(ls eRDecl p0.decls), (ls eRRoutine p0.routines)]]⟩, ⟨0, 110, 5, [[(i64 p2.op), (i64 p2.num), (i64 p2.into), (ls eI p2.args), (ls eBlock p2.kids)]]⟩]⟩ := (hA77 _ _ _).2 (by
                refine AX.hoist 2 (v := (ls eI p1)) rfl rfl (by kernel_rfl) (by kernel_rfl) (by kernel_rfl) rfl (hoist_mv rfl) ?_
                exact AX.weaken (Wk.to (L := [(1, (ls eI p1)), (3, (.ptr 0 0 0 0)), (5, (.ptr 1 0 0 0)), (154, (ls eI p1))]) ⟨.rfl, .rfl, .rfl, .rfl, trivial⟩) (AX.lst (by kernel_rfl) ((hA77 _ _ _).1 A77_2)) rfl)
               refine (hA77 _ _ _).2 ?_
               exact AX.weaken (Wk.to (L := [(1, (ls eI p1)), (3, (.ptr 0 0 0 0)), (5, (.ptr 1 0 0 0))]) ⟨.rfl, .rfl, .rfl, trivial⟩) (AX.lst (by kernel_rfl) ((hA77 _ _ _).1 A77_e)) rfl
              ·intro b72 h1
               exact AW.skip (M9 () (Sh.some_eq h1).symm _ (Wk.d0 _ rfl))
             refine AW.draw (by kernel_rfl) (by kernel_rfl) (by rfl) ?_
             iterate 2 refine yq tb rfl ?_
             refine yl tb rfl rfl ?_
             iterate 2 refine yq tb rfl ?_
             rcases Sh.ite_some h2 with ⟨b78, h2⟩ | ⟨b78, h2⟩
             ·refine yg tb b78 rfl (yg tb b78 rfl (bs h2 fun c79 gc79 h2 => d_q (v := (.iptr (eI c79) 0)) (go1 rfl rfl b78) rfl (aq_ixs ei22 rfl rfl gc79 rfl) ?_))
              iterate 2 refine yg tb b78 rfl ?_
              refine d_q (v := (i64 (Sh.len p1))) (go1 rfl rfl b78) rfl (aq_lens sl22 rfl) (yg tb b78 rfl (bs h2 fun q80 gq80 h2 => d_call (v := (.bool q80)) (go1 rfl rfl b78) hb85 (spec_inRange_ok gq80) rfl rfl rfl (yt b78 rfl (yq tb rfl ?_))))
              rcases Sh.ite_some h2 with ⟨b81, h2⟩ | ⟨b81, h2⟩
              ·refine yg tb b81 rfl ?_
               iterate 4 refine yg tb b81 rfl ?_
               exact d_q (v := (.iptr (eI c79) 0)) (go1 rfl rfl b81) rfl (aq_ixs ei22 rfl rfl gc79 rfl) (yg tb b81 rfl (bs h2 fun c82 gc82 h2 => d_q (v := (.iptr (eI c82) 0)) (go1 rfl rfl b81) rfl (aq_ixs ei22 rfl rfl gc82 rfl) (yg tb b81 rfl (bs h2 fun q83 gq83 h2 => d_call (v := (.bool q83)) (go1 rfl rfl b81) hb124 (spec_isArrow_ok gq83) rfl rfl rfl (yt b81 rfl (d_done (M71 q83 (Sh.some_eq h2).symm _ (Wk.tr rfl))))))))
              ·refine ys b81 rfl ?_
               iterate 9 refine ys b81 rfl ?_
               exact yf b81 rfl (d_done (M71 false (Sh.some_eq h2).symm _ (Wk.tr rfl)))
             ·refine ys b78 rfl ?_
              iterate 7 refine ys b78 rfl ?_
              refine yf b78 rfl (yq tb rfl ?_)
              iterate 10 refine ys rfl rfl ?_
              exact yf rfl rfl (d_done (M71 false (Sh.some_eq h2).symm _ (Wk.tr rfl)))
            ·intro b68 h1
             refine AW.seq fun K84 hK84 => bs h1 fun o86 h2 h1 => ?_
             have M86 : ∀ (t85 : Bool), o86 = t85 → ∀ s, Wk 0 s ⟨183, envL [(1, (ls eI p1)), (3, (.ptr 0 0 0 0)), (5, (.ptr 1 0 0 0)), (174, (.bool t85))], [⟨0, 42, 2, [[(ls eRDecl p0.decls), (ls eRRoutine p0.routines)]]⟩, ⟨0, 110, 5, [[(i64 p2.op), (i64 p2.num), (i64 p2.into), (ls eI p2.args), (ls eBlock p2.kids)]]⟩]⟩ → K84 s := by
              intro t85 hq s hw
              subst o86
              try dsimp only at h1
              refine hK84 _ (AW.weaken hw ?_)
              refine ci h1 rfl ?_ ?_ <;> clear h1
              ·intro b87 h1
               refine sr rfl fun K88 hK88 => zm tb 3 rfl (bs h1 fun q89 gq89 h1 => zc hb125 (spec_countingType_ok gq89) rfl rfl rfl (zq tb rfl (dn hK88 rfl ?_)))
               replace h1 := Sh.some_eq h1
               subst o9
               try dsimp only [id] at h0
               replace h0 := Sh.some_eq h0
               subst r
               exact AW.ret (xr (Wk.d0 [(6, (i64 q89))] rfl))
              ·intro b87 h1
               exact AW.skip (M9 () (Sh.some_eq h1).symm _ (Wk.d0 _ rfl))
             refine zr tb rfl rfl ?_
             refine ci h2 rfl ?_ ?_ <;> clear h2
             ·intro b91 h2
              exact AW.skip (M86 true (Sh.some_eq h2).symm _ (Wk.to (L := [(1, (ls eI p1)), (3, (.ptr 0 0 0 0)), (5, (.ptr 1 0 0 0)), (174, (.bool true))]) ⟨.rfl, .rfl, .rfl, (.of (congrArg AV.bool b91)), trivial⟩))
             ·intro b91 h2
              refine zr tb rfl rfl ?_
              refine ci h2 rfl ?_ ?_ <;> clear h2
              ·intro b93 h2
               exact AW.skip (M86 true (Sh.some_eq h2).symm _ (Wk.to (L := [(1, (ls eI p1)), (3, (.ptr 0 0 0 0)), (5, (.ptr 1 0 0 0)), (174, (.bool true))]) ⟨.rfl, .rfl, .rfl, (.of (congrArg AV.bool b93)), trivial⟩))
              ·intro b93 h2
               refine zr tb rfl rfl ?_
               refine ci h2 rfl ?_ ?_ <;> clear h2
               ·intro b95 h2
                exact AW.skip (M86 true (Sh.some_eq h2).symm _ (Wk.to (L := [(1, (ls eI p1)), (3, (.ptr 0 0 0 0)), (5, (.ptr 1 0 0 0)), (174, (.bool true))]) ⟨.rfl, .rfl, .rfl, (.of (congrArg AV.bool b95)), trivial⟩))
               ·intro b95 h2
                exact AW.regionO rfl (zm tb 2 rfl (AO.done (M86 (decide (p2.op = 17)) (Sh.some_eq h2).symm _ (Wk.tr rfl))))
          refine zr tb rfl rfl ?_
          refine ci h2 rfl ?_ ?_ <;> clear h2
          ·intro b97 h2
           exact AW.skip (M63 true (Sh.some_eq h2).symm _ (Wk.to (L := [(1, (ls eI p1)), (3, (.ptr 0 0 0 0)), (5, (.ptr 1 0 0 0)), (40, (i64 p2.op)), (117, (.bool true))]) ⟨.rfl, .rfl, .rfl, .rfl, (.of (congrArg AV.bool b97)), trivial⟩))
          ·intro b97 h2
           exact AW.regionO rfl (zm tb 2 rfl (AO.done (M63 (decide (p2.op = 10)) (Sh.some_eq h2).symm _ (Wk.tr rfl))))
    refine zr tb rfl rfl ?_
    refine ci h2 rfl ?_ ?_ <;> clear h2
    ·intro b99 h2
     exact AW.skip (M23 true (Sh.some_eq h2).symm _ (Wk.to (L := [(1, (ls eI p1)), (3, (.ptr 0 0 0 0)), (5, (.ptr 1 0 0 0)), (40, (i64 p2.op)), (52, (.bool true))]) ⟨.rfl, .rfl, .rfl, .rfl, (.of (congrArg AV.bool b99)), trivial⟩))
    ·intro b99 h2
     refine zr tb rfl rfl ?_
     refine ci h2 rfl ?_ ?_ <;> clear h2
     ·intro b101 h2
      exact AW.skip (M23 true (Sh.some_eq h2).symm _ (Wk.to (L := [(1, (ls eI p1)), (3, (.ptr 0 0 0 0)), (5, (.ptr 1 0 0 0)), (40, (i64 p2.op)), (52, (.bool true))]) ⟨.rfl, .rfl, .rfl, .rfl, (.of (congrArg AV.bool b101)), trivial⟩))
     ·intro b101 h2
      refine zr tb rfl rfl ?_
      refine ci h2 rfl ?_ ?_ <;> clear h2
      ·intro b103 h2
       exact AW.skip (M23 true (Sh.some_eq h2).symm _ (Wk.to (L := [(1, (ls eI p1)), (3, (.ptr 0 0 0 0)), (5, (.ptr 1 0 0 0)), (40, (i64 p2.op)), (52, (.bool true))]) ⟨.rfl, .rfl, .rfl, .rfl, (.of (congrArg AV.bool b103)), trivial⟩))
      ·intro b103 h2
       exact AW.regionO rfl (zm tb 2 rfl (AO.done (M23 (decide (p2.op = 4)) (Sh.some_eq h2).symm _ (Wk.tr rfl))))
 refine AW.regionO rfl (zm tb 4 rfl ?_)
 rcases Sh.ite_some h1 with ⟨b104, h1⟩ | ⟨b104, h1⟩
 ·refine zg tb b104 rfl (zg tb b104 rfl (bs h1 fun q105 gq105 h1 => zd b104 hb117 (spec_hasNum_ok gq105) rfl rfl rfl rfl (zg tb b104 rfl (zt b104 rfl (zq tb rfl ?_)))))
  rcases Sh.ite_some h1 with ⟨b106, h1⟩ | ⟨b106, h1⟩
  ·refine zs b106 rfl ?_
   iterate 3 refine zs b106 rfl ?_
   refine zt b106 rfl (zq tb rfl ?_)
   iterate 5 refine zs rfl rfl ?_
   iterate 3 refine zn rfl ?_
   refine zs rfl rfl (zs rfl rfl ?_)
   iterate 3 refine zn rfl ?_
   exact zs rfl rfl (zt rfl rfl (AO.done (M5 true (Sh.some_eq h1).symm _ (Wk.tr rfl))))
  ·refine zg tb b106 rfl (zg tb b106 rfl (bs h1 fun q107 gq107 h1 => zd b106 hb118 (spec_validInto_ok gq107) rfl rfl rfl rfl (zg tb b106 rfl (zf b106 rfl (zq tb rfl ?_)))))
   rcases Sh.ite_some h1 with ⟨b108, h1⟩ | ⟨b108, h1⟩
   ·refine zs b108 rfl ?_
    iterate 4 refine zs b108 rfl ?_
    iterate 3 refine zn rfl ?_
    refine zs b108 rfl (zs b108 rfl ?_)
    iterate 3 refine zn rfl ?_
    exact zs b108 rfl (zt b108 rfl (AO.done (M5 true (Sh.some_eq h1).symm _ (Wk.tr rfl))))
   ·refine zg tb b108 rfl (zg tb b108 rfl (ao_q (v := (i64 (Sh.len p2.kids))) (go1 rfl rfl b108) rfl (aq_lens sl108 rfl) (zg tb b108 rfl (zg tb b108 rfl ?_))))
    rcases Sh.ite_some h1 with ⟨b109, h1⟩ | ⟨b109, h1⟩
    ·refine zg tb b109 rfl (zg tb b109 rfl (zg tb b109 rfl (ao_q (v := (.bool (!decide (p2.op = 7)))) (go1 rfl rfl b108) rfl (aq_pkt rfl b109 rfl) (zg tb b108 rfl ?_))))
     rcases Sh.ite_some h1 with ⟨b110, h1⟩ | ⟨b110, h1⟩
     ·exact zg tb b110 rfl (zg tb b110 rfl (zg tb b110 rfl (ao_q (v := (.bool (!decide (p2.op = 8)))) (go1 rfl rfl b108) rfl (aq_pkt rfl b110 rfl) (zf b108 rfl (AO.done (M5 (!decide (p2.op = 8)) (Sh.some_eq h1).symm _ (Wk.tr rfl)))))))
     ·exact zs b110 rfl (zs b110 rfl (zs b110 rfl (ao_q (v := (.bool false)) (go1 rfl rfl b108) rfl (aq_pkf rfl b110 rfl) (zf b108 rfl (AO.done (M5 false (Sh.some_eq h1).symm _ (Wk.tr rfl)))))))
    ·refine zs b109 rfl (zs b109 rfl (zs b109 rfl (ao_q (v := (.bool false)) (go1 rfl rfl b108) rfl (aq_pkf rfl b109 rfl) (zg tb b108 rfl ?_))))
     iterate 3 refine zs rfl rfl ?_
     exact ao_q (v := (.bool false)) (go1 rfl rfl b108) rfl (aq_pkf rfl rfl rfl) (zf b108 rfl (AO.done (M5 false (Sh.some_eq h1).symm _ (Wk.tr rfl))))
 ·refine zs b104 rfl ?_
  iterate 3 refine zs b104 rfl ?_
  refine zf b104 rfl (zq tb rfl (zg tb rfl rfl (zg tb rfl rfl (bs h1 fun q111 gq111 h1 => zd rfl hb118 (spec_validInto_ok gq111) rfl rfl rfl rfl (zg tb rfl rfl (zf rfl rfl (zq tb rfl ?_)))))))
  rcases Sh.ite_some h1 with ⟨b112, h1⟩ | ⟨b112, h1⟩
  ·refine zs b112 rfl ?_
   iterate 4 refine zs b112 rfl ?_
   iterate 3 refine zn rfl ?_
   refine zs b112 rfl (zs b112 rfl ?_)
   iterate 3 refine zn rfl ?_
   exact zs b112 rfl (zt b112 rfl (AO.done (M5 true (Sh.some_eq h1).symm _ (Wk.tr rfl))))
  ·refine zg tb b112 rfl (zg tb b112 rfl (ao_q (v := (i64 (Sh.len p2.kids))) (go1 rfl rfl b112) rfl (aq_lens sl108 rfl) (zg tb b112 rfl (zg tb b112 rfl ?_))))
   rcases Sh.ite_some h1 with ⟨b113, h1⟩ | ⟨b113, h1⟩
   ·refine zg tb b113 rfl (zg tb b113 rfl (zg tb b113 rfl (ao_q (v := (.bool (!decide (p2.op = 7)))) (go1 rfl rfl b112) rfl (aq_pkt rfl b113 rfl) (zg tb b112 rfl ?_))))
    rcases Sh.ite_some h1 with ⟨b114, h1⟩ | ⟨b114, h1⟩
    ·exact zg tb b114 rfl (zg tb b114 rfl (zg tb b114 rfl (ao_q (v := (.bool (!decide (p2.op = 8)))) (go1 rfl rfl b112) rfl (aq_pkt rfl b114 rfl) (zf b112 rfl (AO.done (M5 (!decide (p2.op = 8)) (Sh.some_eq h1).symm _ (Wk.tr rfl)))))))
    ·exact zs b114 rfl (zs b114 rfl (zs b114 rfl (ao_q (v := (.bool false)) (go1 rfl rfl b112) rfl (aq_pkf rfl b114 rfl) (zf b112 rfl (AO.done (M5 false (Sh.some_eq h1).symm _ (Wk.tr rfl)))))))
   ·refine zs b113 rfl (zs b113 rfl (zs b113 rfl (ao_q (v := (.bool false)) (go1 rfl rfl b112) rfl (aq_pkf rfl b113 rfl) (zg tb b112 rfl ?_))))
    iterate 3 refine zs rfl rfl ?_
    exact ao_q (v := (.bool false)) (go1 rfl rfl b112) rfl (aq_pkf rfl rfl rfl) (zf b112 rfl (AO.done (M5 false (Sh.some_eq h1).symm _ (Wk.tr rfl))))
theorem spec_defines_ok {p0 : Int} {r : Bool} (h0 : spec_defines p0 = some r) : ACalls Try.prog 101 [(i64 p0)] [] (fun v st => v = (.bool r) ∧ st = []) := by
 unfold spec_defines at h0
 refine ai Try.func101 rfl rfl rfl rfl (zr tb rfl rfl (sr rfl fun K2 hK2 => zq tb rfl (bs h0 fun q3 gq3 h0 => zc hb85 (spec_inRange_ok gq3) rfl rfl rfl (zq tb rfl (dn hK2 rfl ?_)))))
 replace h0 := Sh.some_eq h0
 subst r
 exact AW.ret (xr (Wk.to (L := [(2, (.bool q3))]) ⟨.rfl, trivial⟩))
theorem spec_blockType_B_ok {N : Nat} {rec_spec_blockType : RNormal → (List Int) → Block → Option (Int)} (hrec_spec_blockType : ∀ {p0 : RNormal} {p1 : (List Int)} {p2 : Block} {r : Int}, rec_spec_blockType p0 p1 p2 = some r → ACalls Try.prog 76 [(.agg [(ls eRDecl p0.decls), (ls eRRoutine p0.routines)]), (ls eI p1), (.agg [(ls eStep p2.steps), (i64 p2.result)])] [] (fun v st => v = (i64 r) ∧ st = [])) {p0 : RNormal} {p1 : (List Int)} {p2 : Block} {r : Int} (h0 : spec_blockType_B N rec_spec_blockType p0 p1 p2 = some r) : ACalls Try.prog 76 [(.agg [(ls eRDecl p0.decls), (ls eRRoutine p0.routines)]), (ls eI p1), (.agg [(ls eStep p2.steps), (i64 p2.result)])] [] (fun v st => v = (i64 r) ∧ st = []) := by
 unfold spec_blockType_B at h0
 refine ai Try.func76 rfl rfl rfl rfl (sr rfl fun K1 hK1 => ao_box (m := 0) (st' := [⟨0, 42, 2, [[(ls eRDecl p0.decls), (ls eRRoutine p0.routines)]]⟩]) go0 rfl rfl rfl rfl rfl (ao_box (m := 1) (st' := [⟨0, 42, 2, [[(ls eRDecl p0.decls), (ls eRRoutine p0.routines)]]⟩, ⟨0, 66, 2, [[(ls eStep p2.steps), (i64 p2.result)]]⟩]) go0 rfl rfl rfl rfl rfl (zq tb rfl (dn hK1 rfl (sr rfl fun K2 hK2 => zq tb rfl (bs h0 fun q3 gq3 h0 => ao_call (v' := (ow 2 0 q3)) (st' := [⟨0, 42, 2, [[(ls eRDecl p0.decls), (ls eRRoutine p0.routines)]]⟩, ⟨0, 66, 2, [[(ls eStep p2.steps), (i64 p2.result)]]⟩, (ro 0 3 1 eI q3)]) go0 hb99 (spec_copyInts_ok gq3) rfl rfl ⟨(pure_map' fun _ => rfl), trivial⟩ rfl rfl (zq tb rfl (dn hK2 rfl ?_))))))))
 refine AW.seq fun K4 hK4 => zr tb rfl rfl ?_
 obtain ⟨o9, h1, h0⟩ := Sh.cont_some h0
 have M9 : ∀ (l8 : (List Int)), o9 = Sum.inr l8 → ∀ s, Wk 0 s ⟨52, envL [(5, (.ptr 0 0 0 0)), (7, (ow 1 0 l8))], [⟨0, 66, 2, [[(ls eStep p2.steps), (i64 p2.result)]]⟩, (ro 0 3 1 eI l8)]⟩ → K4 s := by
  intro l8 hq s hw
  subst o9
  try dsimp only at h0
  refine hK4 _ (AW.weaken hw (AW.seq fun K10 hK10 => sr rfl fun K11 hK11 => zm tb 3 rfl (zz (i64 (Sh.len l8)) (aq_leno sl22 rfl rfl rfl) rfl (zq tb rfl (bs h0 fun q12 gq12 h0 => zc hb85 (spec_inRange_ok gq12) rfl rfl rfl (zq tb rfl (dn hK11 rfl ?_)))))))
  refine ci h0 rfl ?_ ?_ <;> clear h0
  ·intro b13 h0
   have b14 : q12 = false := by simpa using b13
   refine zr tb rfl rfl ?_
   replace h0 := Sh.some_eq h0
   subst r
   exact AW.ret (xr (Wk.d0 [(6, (i64 (-1)))] rfl))
  ·intro b13 h0
   have b16 : q12 = true := by simpa using b13
   refine AW.skip (hK10 _ (sr rfl fun K17 hK17 => zm tb 3 rfl (bs h0 fun c18 gc18 h0 => zz (.ptr 1 0 (Int.toNat p2.result) 0) (aq_ixo ei22 rfl rfl rfl rfl gc18) rfl (zz (i64 c18) (aq_ldp ti3 rfl rfl (map_get gc18) rfl) rfl (zq tb rfl (dn hK17 rfl ?_))))))
   replace h0 := Sh.some_eq h0
   subst r
   exact AW.ret (xr (Wk.d0 [(6, (i64 c18))] rfl))
 refine AW.block (AW.loopF (σ := Int × (List Int)) (fun n v => spec_blockType_B_L1 N p0 p2 rec_spec_blockType n v.1 v.2 = some o9) (fun (i6, l7) => ⟨52, envL [(3, (.ptr 0 0 0 0)), (5, (.ptr 1 0 0 0)), (7, (ow 2 0 l7)), (8, (i64 i6))], [⟨0, 42, 2, [[(ls eRDecl p0.decls), (ls eRRoutine p0.routines)]]⟩, ⟨0, 66, 2, [[(ls eStep p2.steps), (i64 p2.result)]]⟩, (ro 0 3 1 eI l7)]⟩) N (0, q3) h1 (Wk.tr rfl) (fun _ hv => by rw [spec_blockType_B_L1] at hv; cases hv) ?_)
 rintro n ⟨i6, l7⟩ h1
 try dsimp only at h1 ⊢
 rw [spec_blockType_B_L1] at h1
 refine AW.seq fun K19 hK19 => sr rfl fun K20 hK20 => zm tb 3 rfl (zl tb rfl rfl (zq tb rfl (dn hK20 rfl ?_)))
 refine ci h1 rfl ?_ ?_ <;> clear h1
 ·intro b21 h1
  refine AW.skip (hK19 _ (AW.seq fun K22 hK22 => ?_))
  obtain ⟨o24, h2, h1⟩ := Sh.cont_some h1
  have M24 : ∀ (l23 : (List Int)), o24 = Sum.inr l23 → ∀ s, Wk 0 s ⟨52, envL [(3, (.ptr 0 0 0 0)), (5, (.ptr 1 0 0 0)), (7, (ow 2 0 l23)), (8, (i64 i6))], [⟨0, 42, 2, [[(ls eRDecl p0.decls), (ls eRRoutine p0.routines)]]⟩, ⟨0, 66, 2, [[(ls eStep p2.steps), (i64 p2.result)]]⟩, (ro 0 3 1 eI l23)]⟩ → K22 s := by
   intro l23 hq s hw
   subst o24
   try dsimp only at h1
   exact hK22 _ (AW.weaken hw (AW.regionO rfl (zm tb 3 rfl (AO.done (xi (Sh.w (i6 + 1), l23) h1 (Wk.tr rfl))))))
  refine AW.block (AW.seq fun K25 hK25 => ?_)
  refine AW.draw (by kernel_rfl) (by kernel_rfl) (by rfl) ?_
  iterate 5 refine yq tb rfl ?_
  refine bs h2 fun c26 gc26 h2 => yz (.iptr [(i64 c26.op), (i64 c26.num), (i64 c26.into), (ls eI c26.args), (ls eBlock c26.kids)] 0) (aq_ixsE ei64 rfl rfl gc26 (eStep_eq _) rfl) rfl (yq tb rfl (bs h2 fun q27 gq27 h2 => d_callb (v' := (i64 q27)) go0 hb100 (spec_stepType_ok hrec_spec_blockType gq27) rfl (.val rfl (.own rfl rfl (fun _ => rfl) (.val rfl .nil))) rfl rfl (yq tb rfl (d_done (hK25 _ (AW.seq fun K28 hK28 => zr tb rfl rfl ?_))))))
  refine ci h2 rfl ?_ ?_ <;> clear h2
  ·intro b30 h2
   refine zr tb rfl rfl ?_
   replace h2 := Sh.some_eq h2
   subst o24
   try dsimp only [id] at h1
   replace h1 := Sh.some_eq h1
   subst o9
   try dsimp only [id] at h0
   replace h0 := Sh.some_eq h0
   subst r
   exact AW.ret (xr (Wk.d0 [(6, (i64 (-1)))] rfl))
  ·intro b30 h2
   refine AW.skip (hK28 _ (sr rfl fun K32 hK32 => zm tb 3 rfl (zz (.iptr [(i64 c26.op), (i64 c26.num), (i64 c26.into), (ls eI c26.args), (ls eBlock c26.kids)] 0) (aq_ixsE ei64 rfl rfl gc26 (eStep_eq _) rfl) rfl (zm tb 2 rfl (bs h2 fun q33 gq33 h2 => zc hb101 (spec_defines_ok gq33) rfl rfl rfl (dn hK32 rfl ?_))))))
   refine ci h2 rfl ?_ ?_ <;> clear h2
   ·intro b34 h2
    refine AW.regionO rfl (zm tb 2 rfl ?_)
    refine ao_bs (m := 3) (st' := [⟨0, 42, 2, [[(ls eRDecl p0.decls), (ls eRRoutine p0.routines)]]⟩, ⟨0, 66, 2, [[(ls eStep p2.steps), (i64 p2.result)]]⟩, (ro 0 3 1 eI l7), (ro 0 3 1 eI [q27])]) (l := [q27]) (enc := eI) go0 ei22 (by decide) rfl rfl rfl rfl rfl rfl ?_
    refine bs h2 fun l35 gl35 h2 => ao_apo (st' := [⟨0, 42, 2, [[(ls eRDecl p0.decls), (ls eRRoutine p0.routines)]]⟩, ⟨0, 66, 2, [[(ls eStep p2.steps), (i64 p2.result)]]⟩, (ro 1 3 1 eI l35), (ro 0 3 1 eI [q27])]) (l2 := [q27]) go0 ei22 rfl rfl rfl rfl (el_o rfl rfl) (fun _ => rfl) gl35 rfl (zq tb rfl ?_)
    exact AO.done (M24 l35 (Sh.some_eq h2).symm _ (by refine Wk.trans (Wk.rg (L := [(3, (.ptr 0 0 0 0)), (5, (.ptr 1 0 0 0)), (7, (ow 2 0 l35)), (8, (i64 i6))]) (st' := [⟨0, 42, 2, [[(ls eRDecl p0.decls), (ls eRRoutine p0.routines)]]⟩, ⟨0, 66, 2, [[(ls eStep p2.steps), (i64 p2.result)]]⟩, (ro 0 3 1 eI l35), (ro 0 3 1 eI [q27])]) (.raw rfl rfl (.raw rfl rfl (.pure (pure_map fun _ => rfl) (.pure (pure_map fun _ => rfl) .nil)))) ⟨.rfl, .rfl, .rfl, .rfl, trivial⟩) ?_; exact Wk.permk (L := [(3, (.ptr 0 0 0 0)), (5, (.ptr 1 0 0 0)), (7, (ow 2 0 l35)), (8, (i64 i6))]) (st' := [⟨0, 42, 2, [[(ls eRDecl p0.decls), (ls eRRoutine p0.routines)]]⟩, ⟨0, 66, 2, [[(ls eStep p2.steps), (i64 p2.result)]]⟩, (ro 0 3 1 eI l35)]) (st1 := [⟨0, 42, 2, [[(ls eRDecl p0.decls), (ls eRRoutine p0.routines)]]⟩, ⟨0, 66, 2, [[(ls eStep p2.steps), (i64 p2.result)]]⟩, (ro 0 3 1 eI l35)]) [0, 1, 2] rfl .nil (by decide) rfl rfl (.raw rfl rfl (.raw rfl rfl (.pure (pure_map fun _ => rfl) .nil))) ⟨.rfl, .rfl, .rfl, .rfl, trivial⟩))
   ·intro b34 h2
    exact AW.skip (M24 l7 (Sh.some_eq h2).symm _ (Wk.tr rfl))
 ·intro b21 h1
  exact AW.exit (M9 l7 (Sh.some_eq h1).symm _ (Wk.permk (L := [(5, (.ptr 0 0 0 0)), (7, (ow 1 0 l7))]) (st' := [⟨0, 66, 2, [[(ls eStep p2.steps), (i64 p2.result)]]⟩, (ro 0 3 1 eI l7)]) (st1 := [⟨0, 66, 2, [[(ls eStep p2.steps), (i64 p2.result)]]⟩, (ro 0 3 1 eI l7)]) [1, 2] rfl .nil (by decide) rfl rfl (.raw rfl rfl (.pure (pure_map fun _ => rfl) .nil)) ⟨.rfl, .rfl, trivial⟩))

theorem spec_blockType_F_ok {N : Nat} : ∀ (n : Nat), ∀ {p0 : RNormal} {p1 : (List Int)} {p2 : Block} {r : Int}, spec_blockType_F N n p0 p1 p2 = some r → ACalls Try.prog 76 [(.agg [(ls eRDecl p0.decls), (ls eRRoutine p0.routines)]), (ls eI p1), (.agg [(ls eStep p2.steps), (i64 p2.result)])] [] (fun v st => v = (i64 r) ∧ st = []) := by
 intro n
 induction n with
 | zero => intro p0 p1 p2 r h0; cases h0
 | succ n ih =>
  intro p0 p1 p2 r h0
  rw [spec_blockType_F] at h0
  exact spec_blockType_B_ok (fun h => ih h) h0
theorem spec_blockType_ok {N : Nat} : ∀ {p0 : RNormal} {p1 : (List Int)} {p2 : Block} {r : Int}, spec_blockType N p0 p1 p2 = some r → ACalls Try.prog 76 [(.agg [(ls eRDecl p0.decls), (ls eRRoutine p0.routines)]), (ls eI p1), (.agg [(ls eStep p2.steps), (i64 p2.result)])] [] (fun v st => v = (i64 r) ∧ st = []) := by
 intro p0 p1 p2 r h0
 exact spec_blockType_F_ok N h0
theorem spec_validNormal_ok {N : Nat} {p0 : RNormal} {r : Bool} (h0 : spec_validNormal N p0 = some r) : ACalls Try.prog 52 [(.agg [(ls eRDecl p0.decls), (ls eRRoutine p0.routines)])] [] (fun v st => v = (.bool r) ∧ st = []) := by
 unfold spec_validNormal at h0
 refine ai Try.func52 rfl rfl rfl rfl (sr rfl fun K1 hK1 => ao_box (m := 0) (st' := [⟨0, 42, 2, [[(ls eRDecl p0.decls), (ls eRRoutine p0.routines)]]⟩]) go0 rfl rfl rfl rfl rfl (zq tb rfl (dn hK1 rfl (AW.seq fun K2 hK2 => sr rfl fun K3 hK3 => zq tb rfl (bs h0 fun q4 gq4 h0 => zc hb74 (spec_validNormalSigs_ok gq4) rfl rfl rfl (zq tb rfl (dn hK3 rfl ?_)))))))
 refine ci h0 rfl ?_ ?_ <;> clear h0
 ·intro b5 h0
  have b6 : q4 = false := by simpa using b5
  refine zr tb rfl rfl ?_
  replace h0 := Sh.some_eq h0
  subst r
  exact AW.ret (xr (Wk.d0 [(2, (.bool false))] rfl))
 ·intro b5 h0
  have b8 : q4 = true := by simpa using b5
  refine AW.skip (hK2 _ (AW.seq fun K9 hK9 => zr tb rfl rfl ?_))
  obtain ⟨o12, h1, h0⟩ := Sh.cont_some h0
  have M12 : ∀ (_ : Unit), o12 = Sum.inr () → ∀ s, Wk 0 s ⟨35, envL [], []⟩ → K9 s := by
   intro _ hq s hw
   subst o12
   try dsimp only at h0
   refine hK9 _ (AW.weaken hw (zr tb rfl rfl ?_))
   replace h0 := Sh.some_eq h0
   subst r
   exact AW.ret (xr (Wk.to (L := [(2, (.bool true))]) ⟨.rfl, trivial⟩))
  refine AW.block (AW.loopF (σ := Int) (fun n v => spec_validNormal_L1 N p0 n v = some o12) (fun i11 => ⟨35, envL [(1, (.ptr 0 0 0 0)), (3, (i64 i11))], [⟨0, 42, 2, [[(ls eRDecl p0.decls), (ls eRRoutine p0.routines)]]⟩]⟩) N 0 h1 (Wk.tr rfl) (fun _ hv => by rw [spec_validNormal_L1] at hv; cases hv) ?_)
  rintro n i11 h1
  try dsimp only at h1 ⊢
  rw [spec_validNormal_L1] at h1
  refine AW.seq fun K14 hK14 => sr rfl fun K15 hK15 => zm tb 3 rfl (zl tb rfl rfl (zq tb rfl (dn hK15 rfl ?_)))
  refine ci h1 rfl ?_ ?_ <;> clear h1
  ·intro b16 h1
   refine AW.skip (hK14 _ (AW.seq fun K17 hK17 => AW.block (sr rfl fun K18 hK18 => zm tb 3 rfl (bs h1 fun c19 gc19 h1 => zx ei40 gc19 rfl rfl rfl (zq tb rfl (ao_alloc (m := 1) (st' := [⟨0, 42, 2, [[(ls eRDecl p0.decls), (ls eRRoutine p0.routines)]]⟩, ⟨0, 68, 5, [[.zc, .zc, (i64 0), .zc, (i64 0)]]⟩]) go0 zi68 rfl rfl (ao_str (st' := [⟨0, 42, 2, [[(ls eRDecl p0.decls), (ls eRRoutine p0.routines)]]⟩, ⟨0, 68, 5, [[(ls eI c19.params), (ls eI c19.lent), (i64 c19.result), (ls eStep c19.body.steps), (i64 c19.body.result)]]⟩]) go0 ti68 rfl rfl rfl rfl rfl rfl (show 0 + 5 ≤ 5 by decide) rfl (dn hK18 rfl (AW.seq fun K20 hK20 => ?_)))))))))
   refine bs h1 fun o22 h2 h1 => ?_
   have M22 : ∀ (t21 : Bool), o22 = t21 → ∀ s, Wk 0 s ⟨35, envL [(1, (.ptr 0 0 0 0)), (3, (i64 i11)), (34, (.bool t21))], [⟨0, 42, 2, [[(ls eRDecl p0.decls), (ls eRRoutine p0.routines)]]⟩]⟩ → K20 s := by
    intro t21 hq s hw
    subst o22
    try dsimp only at h1
    refine hK20 _ (AW.weaken hw ?_)
    refine ci h1 rfl ?_ ?_ <;> clear h1
    ·intro b23 h1
     refine zr tb rfl rfl ?_
     replace h1 := Sh.some_eq h1
     subst o12
     try dsimp only [id] at h0
     replace h0 := Sh.some_eq h0
     subst r
     exact AW.ret (xr (Wk.d0 [(2, (.bool false))] rfl))
    ·intro b23 h1
     exact AW.skip (hK17 _ (AW.regionO rfl (zm tb 3 rfl (AO.done (xi (Sh.w (i11 + 1)) h1 (Wk.tr rfl))))))
   refine AW.draw (by kernel_rfl) (by kernel_rfl) (by rfl) ?_
   iterate 2 refine yq tb rfl ?_
   refine bs h2 fun q25 gq25 h2 => d_call (v := (i64 q25)) go0 hb75 (spec_stepsOf_ok gq25) rfl rfl rfl ?_
   iterate 2 refine yq tb rfl ?_
   rcases Sh.ite_some h2 with ⟨b26, h2⟩ | ⟨b26, h2⟩
   ·refine ys b26 rfl ?_
    iterate 8 refine ys b26 rfl ?_
    refine yt b26 rfl ?_
    exact d_done (M22 true (Sh.some_eq h2).symm _ (Wk.permk (L := [(1, (.ptr 0 0 0 0)), (3, (i64 i11)), (34, (.bool true))]) (st' := [⟨0, 42, 2, [[(ls eRDecl p0.decls), (ls eRRoutine p0.routines)]]⟩]) (st1 := [⟨0, 42, 2, [[(ls eRDecl p0.decls), (ls eRRoutine p0.routines)]]⟩]) [0] rfl .nil (by decide) rfl rfl (.raw rfl rfl .nil) ⟨.rfl, .rfl, .rfl, trivial⟩))
   ·refine yg tb b26 rfl ?_
    iterate 4 refine yg tb b26 rfl ?_
    refine bs h2 fun q27 gq27 h2 => d_call (v := (i64 q27)) (go1 rfl rfl b26) hb76 (spec_blockType_ok gq27) rfl rfl rfl ?_
    iterate 3 refine yg tb b26 rfl ?_
    refine yf b26 rfl ?_
    exact d_done (M22 (!decide (q27 = c19.result)) (Sh.some_eq h2).symm _ (Wk.permk (L := [(1, (.ptr 0 0 0 0)), (3, (i64 i11)), (34, (.bool (!decide (q27 = c19.result))))]) (st' := [⟨0, 42, 2, [[(ls eRDecl p0.decls), (ls eRRoutine p0.routines)]]⟩]) (st1 := [⟨0, 42, 2, [[(ls eRDecl p0.decls), (ls eRRoutine p0.routines)]]⟩]) [0] rfl .nil (by decide) rfl rfl (.raw rfl rfl .nil) ⟨.rfl, .rfl, .rfl, trivial⟩))
  ·intro b16 h1
   exact AW.exit (M12 () (Sh.some_eq h1).symm _ (Wk.d0 _ rfl))
theorem spec_isCounting_ok {p0 : Int} {r : Bool} (h0 : spec_isCounting p0 = some r) : ACalls Try.prog 77 [(i64 p0)] [] (fun v st => v = (.bool r) ∧ st = []) := by
 unfold spec_isCounting at h0
 refine ai Try.func77 rfl rfl rfl rfl (zr tb rfl rfl (sr rfl fun K2 hK2 => zq tb rfl (bs h0 fun q3 gq3 h0 => zc hb85 (spec_inRange_ok gq3) rfl rfl rfl (zq tb rfl (dn hK2 rfl ?_)))))
 replace h0 := Sh.some_eq h0
 subst r
 exact AW.ret (xr (Wk.to (L := [(2, (.bool q3))]) ⟨.rfl, trivial⟩))
theorem spec_plainSteps_B_ok {N : Nat} {rec_spec_plainSteps : Block → Option (Bool)} (hrec_spec_plainSteps : ∀ {p0 : Block} {r : Bool}, rec_spec_plainSteps p0 = some r → ACalls Try.prog 53 [(.agg [(ls eStep p0.steps), (i64 p0.result)])] [] (fun v st => v = (.bool r) ∧ st = [])) {p0 : Block} {r : Bool} (h0 : spec_plainSteps_B N rec_spec_plainSteps p0 = some r) : ACalls Try.prog 53 [(.agg [(ls eStep p0.steps), (i64 p0.result)])] [] (fun v st => v = (.bool r) ∧ st = []) := by
 unfold spec_plainSteps_B at h0
 refine ai Try.func53 rfl rfl rfl rfl (sr rfl fun K1 hK1 => ao_box (m := 0) (st' := [⟨0, 66, 2, [[(ls eStep p0.steps), (i64 p0.result)]]⟩]) go0 rfl rfl rfl rfl rfl (zq tb rfl (dn hK1 rfl (AW.seq fun K2 hK2 => zr tb rfl rfl ?_))))
 obtain ⟨o5, h1, h0⟩ := Sh.cont_some h0
 have M5 : ∀ (_ : Unit), o5 = Sum.inr () → ∀ s, Wk 0 s ⟨50, envL [], []⟩ → K2 s := by
  intro _ hq s hw
  subst o5
  try dsimp only at h0
  refine hK2 _ (AW.weaken hw (zr tb rfl rfl ?_))
  replace h0 := Sh.some_eq h0
  subst r
  exact AW.ret (xr (Wk.to (L := [(2, (.bool true))]) ⟨.rfl, trivial⟩))
 refine AW.block (AW.loopF (σ := Int) (fun n v => spec_plainSteps_B_L1 N p0 rec_spec_plainSteps n v = some o5) (fun i4 => ⟨50, envL [(1, (.ptr 0 0 0 0)), (3, (i64 i4))], [⟨0, 66, 2, [[(ls eStep p0.steps), (i64 p0.result)]]⟩]⟩) N 0 h1 (Wk.tr rfl) (fun _ hv => by rw [spec_plainSteps_B_L1] at hv; cases hv) ?_)
 rintro n i4 h1
 try dsimp only at h1 ⊢
 rw [spec_plainSteps_B_L1] at h1
 refine AW.seq fun K7 hK7 => sr rfl fun K8 hK8 => zm tb 3 rfl (zl tb rfl rfl (zq tb rfl (dn hK8 rfl ?_)))
 refine ci h1 rfl ?_ ?_ <;> clear h1
 ·intro b9 h1
  refine AW.skip (hK7 _ (AW.seq fun K10 hK10 => AW.block (AW.seq fun K11 hK11 => AW.seq fun K12 hK12 => bs h1 fun o14 h2 h1 => ?_)))
  have M14 : ∀ (t13 : Bool), o14 = t13 → ∀ s, Wk 0 s ⟨50, envL [(1, (.ptr 0 0 0 0)), (3, (i64 i4)), (27, (.bool t13))], [⟨0, 66, 2, [[(ls eStep p0.steps), (i64 p0.result)]]⟩]⟩ → K12 s := by
   intro t13 hq s hw
   subst o14
   try dsimp only at h1
   refine hK12 _ (AW.weaken hw ?_)
   refine ci h1 rfl ?_ ?_ <;> clear h1
   ·intro b15 h1
    refine zr tb rfl rfl ?_
    replace h1 := Sh.some_eq h1
    subst o5
    try dsimp only [id] at h0
    replace h0 := Sh.some_eq h0
    subst r
    exact AW.ret (xr (Wk.d0 [(2, (.bool false))] rfl))
   ·intro b15 h1
    refine AW.skip (hK11 _ (zr tb rfl rfl ?_))
    obtain ⟨o19, h2, h1⟩ := Sh.cont_some h1
    have M19 : ∀ (_ : Unit), o19 = Sum.inr () → ∀ s, Wk 0 s ⟨50, envL [(1, (.ptr 0 0 0 0)), (3, (i64 i4))], [⟨0, 66, 2, [[(ls eStep p0.steps), (i64 p0.result)]]⟩]⟩ → K10 s := by
     intro _ hq s hw
     subst o19
     try dsimp only at h1
     exact hK10 _ (AW.weaken hw (AW.regionO rfl (zm tb 3 rfl (AO.done (xi (Sh.w (i4 + 1)) h1 (Wk.tr rfl))))))
    refine AW.block (AW.loopF (σ := Int) (fun n v => spec_plainSteps_B_L2 i4 p0 rec_spec_plainSteps n v = some o19) (fun k18 => ⟨50, envL [(1, (.ptr 0 0 0 0)), (3, (i64 i4)), (4, (i64 k18))], [⟨0, 66, 2, [[(ls eStep p0.steps), (i64 p0.result)]]⟩]⟩) N 0 h2 (Wk.tr rfl) (fun _ hv => by rw [spec_plainSteps_B_L2] at hv; cases hv) ?_)
    rintro n k18 h2
    try dsimp only at h2 ⊢
    rw [spec_plainSteps_B_L2] at h2
    refine AW.seq fun K20 hK20 => sr rfl fun K21 hK21 => zm tb 4 rfl (bs h2 fun c22 gc22 h2 => zz (.iptr [(i64 c22.op), (i64 c22.num), (i64 c22.into), (ls eI c22.args), (ls eBlock c22.kids)] 0) (aq_ixsE ei64 rfl rfl gc22 (eStep_eq _) rfl) rfl (zm tb 2 rfl (zl tb rfl rfl (zq tb rfl (dn hK21 rfl ?_)))))
    refine ci h2 rfl ?_ ?_ <;> clear h2
    ·intro b23 h2
     refine AW.skip (hK20 _ (AW.seq fun K24 hK24 => AW.block (sr rfl fun K25 hK25 => zm tb 3 rfl (zz (.iptr [(i64 c22.op), (i64 c22.num), (i64 c22.into), (ls eI c22.args), (ls eBlock c22.kids)] 0) (aq_ixsE ei64 rfl rfl gc22 (eStep_eq _) rfl) rfl (zm tb 3 rfl (bs h2 fun c26 gc26 h2 => zx ei108 gc26 rfl rfl rfl (zq tb rfl (bs h2 fun q27 gq27 h2 => zc hb53 (hrec_spec_plainSteps gq27) rfl rfl rfl ?_))))))))
     refine zq tb rfl (dn hK25 rfl ?_)
     refine ci h2 rfl ?_ ?_ <;> clear h2
     ·intro b28 h2
      have b29 : q27 = false := by simpa using b28
      refine zr tb rfl rfl ?_
      replace h2 := Sh.some_eq h2
      subst o19
      try dsimp only [id] at h1
      replace h1 := Sh.some_eq h1
      subst o5
      try dsimp only [id] at h0
      replace h0 := Sh.some_eq h0
      subst r
      exact AW.ret (xr (Wk.d0 [(2, (.bool false))] rfl))
     ·intro b28 h2
      have b31 : q27 = true := by simpa using b28
      exact AW.skip (hK24 _ (AW.regionO rfl (zm tb 3 rfl (AO.done (xi (Sh.w (k18 + 1)) h2 (Wk.tr rfl))))))
    ·intro b23 h2
     exact AW.exit (M19 () (Sh.some_eq h2).symm _ (Wk.tr rfl))
  refine AW.regionO rfl (zm tb 3 rfl (bs h2 fun c32 gc32 h2 => zz (.iptr [(i64 c32.op), (i64 c32.num), (i64 c32.into), (ls eI c32.args), (ls eBlock c32.kids)] 0) (aq_ixsE ei64 rfl rfl gc32 (eStep_eq _) rfl) rfl (zm tb 2 rfl (bs h2 fun q33 gq33 h2 => zc hb77 (spec_isCounting_ok gq33) rfl rfl rfl (zq tb rfl ?_)))))
  rcases Sh.ite_some h2 with ⟨b34, h2⟩ | ⟨b34, h2⟩
  ·refine zs b34 rfl ?_
   iterate 6 refine zs b34 rfl ?_
   exact zt b34 rfl (AO.done (M14 true (Sh.some_eq h2).symm _ (Wk.tr rfl)))
  ·refine zg tb b34 rfl (zg tb b34 rfl (zg tb b34 rfl (ao_q (v := (.iptr [(i64 c32.op), (i64 c32.num), (i64 c32.into), (ls eI c32.args), (ls eBlock c32.kids)] 0)) (go1 rfl rfl b34) rfl (aq_ixsE ei64 rfl rfl gc32 (eStep_eq _) rfl) ?_)))
   iterate 3 refine zg tb b34 rfl ?_
   exact zf b34 rfl (AO.done (M14 (!decide (c32.into = 0)) (Sh.some_eq h2).symm _ (Wk.tr rfl)))
 ·intro b9 h1
  exact AW.exit (M5 () (Sh.some_eq h1).symm _ (Wk.d0 _ rfl))

theorem spec_plainSteps_F_ok {N : Nat} : ∀ (n : Nat), ∀ {p0 : Block} {r : Bool}, spec_plainSteps_F N n p0 = some r → ACalls Try.prog 53 [(.agg [(ls eStep p0.steps), (i64 p0.result)])] [] (fun v st => v = (.bool r) ∧ st = []) := by
 intro n
 induction n with
 | zero => intro p0 r h0; cases h0
 | succ n ih =>
  intro p0 r h0
  rw [spec_plainSteps_F] at h0
  exact spec_plainSteps_B_ok (fun h => ih h) h0
theorem spec_plainSteps_ok {N : Nat} : ∀ {p0 : Block} {r : Bool}, spec_plainSteps N p0 = some r → ACalls Try.prog 53 [(.agg [(ls eStep p0.steps), (i64 p0.result)])] [] (fun v st => v = (.bool r) ∧ st = []) := by
 intro p0 r h0
 exact spec_plainSteps_F_ok N h0
theorem spec_isPlain_ok {N : Nat} {p0 : RNormal} {r : Bool} (h0 : spec_isPlain N p0 = some r) : ACalls Try.prog 29 [(.agg [(ls eRDecl p0.decls), (ls eRRoutine p0.routines)])] [] (fun v st => v = (.bool r) ∧ st = []) := by
 unfold spec_isPlain at h0
 refine ai Try.func29 rfl rfl rfl rfl (sr rfl fun K1 hK1 => ao_box (m := 0) (st' := [⟨0, 42, 2, [[(ls eRDecl p0.decls), (ls eRRoutine p0.routines)]]⟩]) go0 rfl rfl rfl rfl rfl (zq tb rfl (dn hK1 rfl (AW.seq fun K2 hK2 => sr rfl fun K3 hK3 => zq tb rfl (bs h0 fun q4 gq4 h0 => zc hb52 (spec_validNormal_ok gq4) rfl rfl rfl (zq tb rfl (dn hK3 rfl ?_)))))))
 refine ci h0 rfl ?_ ?_ <;> clear h0
 ·intro b5 h0
  have b6 : q4 = false := by simpa using b5
  refine zr tb rfl rfl ?_
  replace h0 := Sh.some_eq h0
  subst r
  exact AW.ret (xr (Wk.d0 [(2, (.bool false))] rfl))
 ·intro b5 h0
  have b8 : q4 = true := by simpa using b5
  refine AW.skip (hK2 _ (AW.seq fun K9 hK9 => zr tb rfl rfl ?_))
  obtain ⟨o12, h1, h0⟩ := Sh.cont_some h0
  have M12 : ∀ (_ : Unit), o12 = Sum.inr () → ∀ s, Wk 0 s ⟨22, envL [], []⟩ → K9 s := by
   intro _ hq s hw
   subst o12
   try dsimp only at h0
   refine hK9 _ (AW.weaken hw (zr tb rfl rfl ?_))
   replace h0 := Sh.some_eq h0
   subst r
   exact AW.ret (xr (Wk.to (L := [(2, (.bool true))]) ⟨.rfl, trivial⟩))
  refine AW.block (AW.loopF (σ := Int) (fun n v => spec_isPlain_L1 N p0 n v = some o12) (fun i11 => ⟨22, envL [(1, (.ptr 0 0 0 0)), (3, (i64 i11))], [⟨0, 42, 2, [[(ls eRDecl p0.decls), (ls eRRoutine p0.routines)]]⟩]⟩) N 0 h1 (Wk.tr rfl) (fun _ hv => by rw [spec_isPlain_L1] at hv; cases hv) ?_)
  rintro n i11 h1
  try dsimp only at h1 ⊢
  rw [spec_isPlain_L1] at h1
  refine AW.seq fun K14 hK14 => sr rfl fun K15 hK15 => zm tb 3 rfl (zl tb rfl rfl (zq tb rfl (dn hK15 rfl ?_)))
  refine ci h1 rfl ?_ ?_ <;> clear h1
  ·intro b16 h1
   refine AW.skip (hK14 _ (AW.seq fun K17 hK17 => AW.block (sr rfl fun K18 hK18 => zm tb 3 rfl (bs h1 fun c19 gc19 h1 => zx ei40 gc19 rfl rfl rfl (zm tb 2 rfl (bs h1 fun q20 gq20 h1 => zc hb53 (spec_plainSteps_ok gq20) rfl rfl rfl (zq tb rfl (dn hK18 rfl ?_))))))))
   refine ci h1 rfl ?_ ?_ <;> clear h1
   ·intro b21 h1
    have b22 : q20 = false := by simpa using b21
    refine zr tb rfl rfl ?_
    replace h1 := Sh.some_eq h1
    subst o12
    try dsimp only [id] at h0
    replace h0 := Sh.some_eq h0
    subst r
    exact AW.ret (xr (Wk.d0 [(2, (.bool false))] rfl))
   ·intro b21 h1
    have b24 : q20 = true := by simpa using b21
    exact AW.skip (hK17 _ (AW.regionO rfl (zm tb 3 rfl (AO.done (xi (Sh.w (i11 + 1)) h1 (Wk.tr rfl))))))
  ·intro b16 h1
   exact AW.exit (M12 () (Sh.some_eq h1).symm _ (Wk.d0 _ rfl))
theorem spec_IsPlain_ok {N : Nat} {p0 : RNormal} {r : Bool} (h0 : spec_IsPlain N p0 = some r) : ACalls Try.prog 14 [(.agg [(ls eRDecl p0.decls), (ls eRRoutine p0.routines)])] [] (fun v st => v = (.bool r) ∧ st = []) := by
 unfold spec_IsPlain at h0
 refine ai Try.func14 rfl rfl rfl rfl (sr rfl fun K1 hK1 => ao_box (m := 0) (st' := [⟨0, 42, 2, [[(ls eRDecl p0.decls), (ls eRRoutine p0.routines)]]⟩]) go0 rfl rfl rfl rfl rfl (zq tb rfl (dn hK1 rfl (sr rfl fun K2 hK2 => zq tb rfl (bs h0 fun q3 gq3 h0 => zc hb29 (spec_isPlain_ok gq3) rfl rfl rfl (zq tb rfl (dn hK2 rfl ?_)))))))
 replace h0 := Sh.some_eq h0
 subst r
 exact AW.ret (xr (Wk.d0 [(2, (.bool q3))] rfl))
theorem impl_isType_ok {p0 : (List RDecl)} {p1 : Int} {r : Bool} (h0 : impl_isType p0 p1 = some r) : ACalls Try.prog 106 [(ls eRDecl p0), (i64 p1)] [] (fun v st => v = (.bool r) ∧ st = []) := by
 unfold impl_isType at h0
 refine ai Try.func106 rfl rfl rfl rfl (zr tb rfl rfl (AW.seq fun K2 hK2 => bs h0 fun o4 h1 h0 => ?_))
 have M4 : ∀ (t3 : Bool), o4 = t3 → ∀ s, Wk 0 s ⟨13, envL [(4, (.bool t3))], []⟩ → K2 s := by
  intro t3 hq s hw
  subst o4
  try dsimp only at h0
  refine hK2 _ (AW.weaken hw ?_)
  replace h0 := Sh.some_eq h0
  subst r
  exact AW.ret (xr (Wk.to (L := [(4, (.bool t3))]) ⟨.rfl, trivial⟩))
 refine AW.regionO rfl (zm tb 3 rfl ?_)
 rcases Sh.ite_some h1 with ⟨b5, h1⟩ | ⟨b5, h1⟩
 ·exact zg tb b5 rfl (zg tb b5 rfl (ao_q (v := (i64 (Sh.len p0))) (go1 rfl rfl b5) rfl (aq_lens sl39 rfl) (zg tb b5 rfl (zt b5 rfl (zq tb rfl (AO.done (M4 (decide (p1 ≤ (Sh.len p0))) (Sh.some_eq h1).symm _ (Wk.tr rfl))))))))
 ·refine zs b5 rfl ?_
  iterate 3 refine zs b5 rfl ?_
  exact zf b5 rfl (zq tb rfl (AO.done (M4 false (Sh.some_eq h1).symm _ (Wk.tr rfl))))
theorem impl_allTypes_ok {N : Nat} {p0 : (List RDecl)} {p1 : (List Int)} {r : Bool} (h0 : impl_allTypes N p0 p1 = some r) : ACalls Try.prog 105 [(ls eRDecl p0), (ls eI p1)] [] (fun v st => v = (.bool r) ∧ st = []) := by
 unfold impl_allTypes at h0
 refine ai Try.func105 rfl rfl rfl rfl (zr tb rfl rfl (AW.seq fun K2 hK2 => sr rfl fun K3 hK3 => zq tb rfl (zl tb rfl rfl (zq tb rfl (dn hK3 rfl ?_)))))
 obtain ⟨o5, h1, h0⟩ := Sh.cont_some h0
 have M5 : ∀ (_ : Unit), o5 = Sum.inr () → ∀ s, Wk 0 s ⟨18, envL [], []⟩ → K2 s := by
  intro _ hq s hw
  subst o5
  try dsimp only at h0
  refine hK2 _ (AW.weaken hw (zr tb rfl rfl ?_))
  replace h0 := Sh.some_eq h0
  subst r
  exact AW.ret (xr (Wk.to (L := [(4, (.bool true))]) ⟨.rfl, trivial⟩))
 refine AW.block (AW.loopF (σ := Int) (fun n v => impl_allTypes_L1 p0 p1 n v = some o5) (fun t4 => ⟨18, envL [(0, (ls eRDecl p0)), (7, (ls eI p1)), (8, (i64 (Sh.len p1))), (9, (i64 t4))], []⟩) N 0 h1 (Wk.tr rfl) (fun _ hv => by rw [impl_allTypes_L1] at hv; cases hv) ?_)
 rintro n t4 h1
 try dsimp only at h1 ⊢
 rw [impl_allTypes_L1] at h1
 refine zr tb rfl rfl (AW.seq fun K8 hK8 => ?_)
 refine ci h1 rfl ?_ ?_ <;> clear h1
 ·intro b9 h1
  refine AW.skip (hK8 _ (AW.seq fun K10 hK10 => AW.block (sr rfl fun K11 hK11 => bs h1 fun c12 gc12 h1 => zx ei22 gc12 rfl rfl rfl (zm tb 2 rfl (dn hK11 rfl (sr rfl fun K13 hK13 => zm tb 2 rfl (bs h1 fun q14 gq14 h1 => zc hb106 (impl_isType_ok gq14) rfl rfl rfl ?_)))))))
  refine zq tb rfl (dn hK13 rfl ?_)
  refine ci h1 rfl ?_ ?_ <;> clear h1
  ·intro b15 h1
   have b16 : q14 = false := by simpa using b15
   refine zr tb rfl rfl ?_
   replace h1 := Sh.some_eq h1
   subst o5
   try dsimp only [id] at h0
   replace h0 := Sh.some_eq h0
   subst r
   exact AW.ret (xr (Wk.to (L := [(4, (.bool false))]) ⟨.rfl, trivial⟩))
  ·intro b15 h1
   have b18 : q14 = true := by simpa using b15
   exact AW.skip (hK10 _ (AW.regionO rfl (zm tb 2 rfl (AO.done (xi (Sh.w (t4 + 1)) h1 (Wk.tr rfl))))))
 ·intro b9 h1
  exact AW.exit (M5 () (Sh.some_eq h1).symm _ (Wk.tr rfl))
theorem impl_ValidTypes_ok {N : Nat} {p0 : (List RDecl)} {r : Bool} (h0 : impl_ValidTypes N p0 = some r) : ACalls Try.prog 104 [(ls eRDecl p0)] [] (fun v st => v = (.bool r) ∧ st = []) := by
 unfold impl_ValidTypes at h0
 refine ai Try.func104 rfl rfl rfl rfl (zr tb rfl rfl (AW.seq fun K2 hK2 => sr rfl fun K3 hK3 => zq tb rfl (zl tb rfl rfl (zq tb rfl (dn hK3 rfl ?_)))))
 refine ci h0 rfl ?_ ?_ <;> clear h0
 ·intro b4 h0
  refine zr tb rfl rfl ?_
  replace h0 := Sh.some_eq h0
  subst r
  exact AW.ret (xr (Wk.to (L := [(2, (.bool false))]) ⟨.rfl, trivial⟩))
 ·intro b4 h0
  refine AW.skip (hK2 _ (AW.seq fun K6 hK6 => sr rfl fun K7 hK7 => zq tb rfl (zl tb rfl rfl (zq tb rfl (dn hK7 rfl ?_)))))
  obtain ⟨o9, h1, h0⟩ := Sh.cont_some h0
  have M9 : ∀ (_ : Unit), o9 = Sum.inr () → ∀ s, Wk 0 s ⟨106, envL [], []⟩ → K6 s := by
   intro _ hq s hw
   subst o9
   try dsimp only at h0
   refine hK6 _ (AW.weaken hw (zr tb rfl rfl ?_))
   replace h0 := Sh.some_eq h0
   subst r
   exact AW.ret (xr (Wk.to (L := [(2, (.bool true))]) ⟨.rfl, trivial⟩))
  refine AW.block (AW.loopF (σ := Int) (fun n v => impl_ValidTypes_L1 N p0 n v = some o9) (fun t8 => ⟨106, envL [(0, (ls eRDecl p0)), (12, (ls eRDecl p0)), (13, (i64 (Sh.len p0))), (14, (i64 t8))], []⟩) N 0 h1 (Wk.tr rfl) (fun _ hv => by rw [impl_ValidTypes_L1] at hv; cases hv) ?_)
  rintro n t8 h1
  try dsimp only at h1 ⊢
  rw [impl_ValidTypes_L1] at h1
  refine zr tb rfl rfl (AW.seq fun K12 hK12 => ?_)
  refine ci h1 rfl ?_ ?_ <;> clear h1
  ·intro b13 h1
   refine AW.skip (hK12 _ (AW.seq fun K14 hK14 => AW.block (sr rfl fun K15 hK15 => zq tb rfl (bs h1 fun c16 gc16 h1 => zx ei39 gc16 rfl rfl rfl (zq tb rfl (ao_alloc (m := 0) (st' := [⟨0, 97, 3, [[(i64 0), (i64 0), .zc]]⟩]) go0 zi97 rfl rfl (zq tb rfl (ao_str (st' := [⟨0, 97, 3, [(eRDecl c16)]⟩]) go0 ti97 rfl rfl rfl rfl rfl rfl (show 0 + 3 ≤ 3 by decide) rfl (dn hK15 rfl ?_)))))))))
   refine AW.seq fun K17 hK17 => AW.seq fun K18 hK18 => bs h1 fun o20 h2 h1 => ?_
   have M20 : ∀ (t19 : Bool), o20 = t19 → ∀ s, Wk 0 s ⟨106, envL [(0, (ls eRDecl p0)), (3, (i64 t8)), (4, (.ptr 0 0 0 0)), (12, (ls eRDecl p0)), (13, (i64 (Sh.len p0))), (14, (i64 t8)), (52, (.bool t19))], [⟨0, 97, 3, [(eRDecl c16)]⟩]⟩ → K18 s := by
    intro t19 hq s hw
    subst o20
    try dsimp only at h1
    refine hK18 _ (AW.weaken hw ?_)
    refine ci h1 rfl ?_ ?_ <;> clear h1
    ·intro b21 h1
     refine zr tb rfl rfl ?_
     replace h1 := Sh.some_eq h1
     subst o9
     try dsimp only [id] at h0
     replace h0 := Sh.some_eq h0
     subst r
     exact AW.ret (xr (Wk.d0 [(2, (.bool false))] rfl))
    ·intro b21 h1
     refine AW.skip (hK17 _ (AW.seq fun K23 hK23 => sr rfl fun K24 hK24 => zm tb 2 rfl (zl tb rfl rfl (zq tb rfl (dn hK24 rfl ?_)))))
     obtain ⟨o26, h2, h1⟩ := Sh.cont_some h1
     have M26 : ∀ (_ : Unit), o26 = Sum.inr () → ∀ s, Wk 0 s ⟨106, envL [(0, (ls eRDecl p0)), (3, (i64 t8)), (4, (.ptr 0 0 0 0)), (12, (ls eRDecl p0)), (13, (i64 (Sh.len p0))), (14, (i64 t8))], [⟨0, 97, 3, [(eRDecl c16)]⟩]⟩ → K23 s := by
      intro _ hq s hw
      subst o26
      try dsimp only at h1
      refine hK23 _ (AW.weaken hw (sr rfl fun K27 hK27 => zm tb 2 rfl (bs h1 fun l28 gl28 h1 => ao_sls (i := 0) (j := t8) go0 ei39 rfl rfl rfl (fun _ => rfl) gl28 (zl tb rfl rfl (zq tb rfl (dn hK27 rfl ?_))))))
      obtain ⟨o30, h2, h1⟩ := Sh.cont_some h1
      have M30 : ∀ (_ : Unit), o30 = Sum.inr () → ∀ s, Wk 0 s ⟨106, envL [(0, (ls eRDecl p0)), (12, (ls eRDecl p0)), (13, (i64 (Sh.len p0))), (14, (i64 t8))], []⟩ → K14 s := by
       intro _ hq s hw
       subst o30
       try dsimp only at h1
       exact hK14 _ (AW.weaken hw (AW.regionO rfl (zm tb 2 rfl (AO.done (xi (Sh.w (t8 + 1)) h1 (Wk.tr rfl))))))
      refine AW.block (AW.loopF (σ := Int) (fun n v => impl_ValidTypes_L3 c16 l28 n v = some o30) (fun t29 => ⟨106, envL [(0, (ls eRDecl p0)), (4, (.ptr 0 0 0 0)), (12, (ls eRDecl p0)), (13, (i64 (Sh.len p0))), (14, (i64 t8)), (74, (ls eRDecl l28)), (75, (i64 (Sh.len l28))), (76, (i64 t29))], [⟨0, 97, 3, [(eRDecl c16)]⟩]⟩) N 0 h2 (Wk.tr rfl) (fun _ hv => by rw [impl_ValidTypes_L3] at hv; cases hv) ?_)
      rintro n t29 h2
      try dsimp only at h2 ⊢
      rw [impl_ValidTypes_L3] at h2
      refine zr tb rfl rfl (AW.seq fun K32 hK32 => ?_)
      refine ci h2 rfl ?_ ?_ <;> clear h2
      ·intro b33 h2
       refine AW.skip (hK32 _ (AW.seq fun K34 hK34 => AW.block (sr rfl fun K35 hK35 => bs h2 fun c36 gc36 h2 => zx ei39 gc36 rfl rfl rfl (zq tb rfl (ao_alloc (m := 1) (st' := [⟨0, 97, 3, [(eRDecl c16)]⟩, ⟨0, 97, 3, [[(i64 0), (i64 0), .zc]]⟩]) go0 zi97 rfl rfl (ao_str (st' := [⟨0, 97, 3, [(eRDecl c16)]⟩, ⟨0, 97, 3, [(eRDecl c36)]⟩]) go0 ti97 rfl rfl rfl rfl rfl rfl (show 0 + 3 ≤ 3 by decide) rfl (dn hK35 rfl (AW.seq fun K37 hK37 => bs h2 fun o39 h3 h2 => ?_))))))))
       have M39 : ∀ (t38 : Bool), o39 = t38 → ∀ s, Wk 0 s ⟨106, envL [(0, (ls eRDecl p0)), (4, (.ptr 0 0 0 0)), (12, (ls eRDecl p0)), (13, (i64 (Sh.len p0))), (14, (i64 t8)), (74, (ls eRDecl l28)), (75, (i64 (Sh.len l28))), (76, (i64 t29)), (103, (.bool t38))], [⟨0, 97, 3, [(eRDecl c16)]⟩]⟩ → K37 s := by
        intro t38 hq s hw
        subst o39
        try dsimp only at h2
        refine hK37 _ (AW.weaken hw ?_)
        refine ci h2 rfl ?_ ?_ <;> clear h2
        ·intro b40 h2
         refine zr tb rfl rfl ?_
         replace h2 := Sh.some_eq h2
         subst o30
         try dsimp only [id] at h1
         replace h1 := Sh.some_eq h1
         subst o9
         try dsimp only [id] at h0
         replace h0 := Sh.some_eq h0
         subst r
         exact AW.ret (xr (Wk.d0 [(2, (.bool false))] rfl))
        ·intro b40 h2
         exact AW.skip (hK34 _ (AW.regionO rfl (zm tb 2 rfl (AO.done (xi (Sh.w (t29 + 1)) h2 (Wk.tr rfl))))))
       refine AW.regionO rfl (zm tb 2 rfl (zl tb rfl rfl (zm tb 2 rfl ?_)))
       rcases Sh.ite_some h3 with ⟨b42, h3⟩ | ⟨b42, h3⟩
       ·refine zg tb b42 rfl (zg tb b42 rfl (ao_q (v := (i64 (Sh.len c36.cons))) (go1 rfl rfl b42) rfl (aq_lens sl95 rfl) (zg tb b42 rfl (zt b42 rfl (zq tb rfl ?_)))))
        rcases Sh.ite_some h3 with ⟨b43, h3⟩ | ⟨b43, h3⟩
        ·refine zg tb b43 rfl ?_
         iterate 4 refine zg tb b43 rfl ?_
         refine zt b43 rfl (zq tb rfl ?_)
         rcases Sh.ite_some h3 with ⟨b44, h3⟩ | ⟨b44, h3⟩
         ·refine zg tb b44 rfl ?_
          iterate 4 refine zg tb b44 rfl ?_
          refine zt b44 rfl ?_
          exact AO.done (M39 (decide (c36.to = c16.to)) (Sh.some_eq h3).symm _ (Wk.permk (L := [(0, (ls eRDecl p0)), (4, (.ptr 0 0 0 0)), (12, (ls eRDecl p0)), (13, (i64 (Sh.len p0))), (14, (i64 t8)), (74, (ls eRDecl l28)), (75, (i64 (Sh.len l28))), (76, (i64 t29)), (103, (.bool (decide (c36.to = c16.to))))]) (st' := [⟨0, 97, 3, [(eRDecl c16)]⟩]) (st1 := [⟨0, 97, 3, [(eRDecl c16)]⟩]) [0] rfl .nil (by decide) rfl rfl (.raw rfl rfl .nil) ⟨.rfl, .rfl, .rfl, .rfl, .rfl, .rfl, .rfl, .rfl, .rfl, trivial⟩))
         ·refine zs b44 rfl ?_
          iterate 4 refine zs b44 rfl ?_
          refine zf b44 rfl ?_
          exact AO.done (M39 false (Sh.some_eq h3).symm _ (Wk.permk (L := [(0, (ls eRDecl p0)), (4, (.ptr 0 0 0 0)), (12, (ls eRDecl p0)), (13, (i64 (Sh.len p0))), (14, (i64 t8)), (74, (ls eRDecl l28)), (75, (i64 (Sh.len l28))), (76, (i64 t29)), (103, (.bool false))]) (st' := [⟨0, 97, 3, [(eRDecl c16)]⟩]) (st1 := [⟨0, 97, 3, [(eRDecl c16)]⟩]) [0] rfl .nil (by decide) rfl rfl (.raw rfl rfl .nil) ⟨.rfl, .rfl, .rfl, .rfl, .rfl, .rfl, .rfl, .rfl, .rfl, trivial⟩))
        ·refine zs b43 rfl ?_
         iterate 4 refine zs b43 rfl ?_
         refine zf b43 rfl (zq tb rfl ?_)
         iterate 5 refine zs rfl rfl ?_
         refine zf rfl rfl ?_
         exact AO.done (M39 false (Sh.some_eq h3).symm _ (Wk.permk (L := [(0, (ls eRDecl p0)), (4, (.ptr 0 0 0 0)), (12, (ls eRDecl p0)), (13, (i64 (Sh.len p0))), (14, (i64 t8)), (74, (ls eRDecl l28)), (75, (i64 (Sh.len l28))), (76, (i64 t29)), (103, (.bool false))]) (st' := [⟨0, 97, 3, [(eRDecl c16)]⟩]) (st1 := [⟨0, 97, 3, [(eRDecl c16)]⟩]) [0] rfl .nil (by decide) rfl rfl (.raw rfl rfl .nil) ⟨.rfl, .rfl, .rfl, .rfl, .rfl, .rfl, .rfl, .rfl, .rfl, trivial⟩))
       ·refine zs b42 rfl ?_
        iterate 3 refine zs b42 rfl ?_
        refine zf b42 rfl (zq tb rfl ?_)
        iterate 5 refine zs rfl rfl ?_
        refine zf rfl rfl (zq tb rfl ?_)
        iterate 5 refine zs rfl rfl ?_
        refine zf rfl rfl ?_
        exact AO.done (M39 false (Sh.some_eq h3).symm _ (Wk.permk (L := [(0, (ls eRDecl p0)), (4, (.ptr 0 0 0 0)), (12, (ls eRDecl p0)), (13, (i64 (Sh.len p0))), (14, (i64 t8)), (74, (ls eRDecl l28)), (75, (i64 (Sh.len l28))), (76, (i64 t29)), (103, (.bool false))]) (st' := [⟨0, 97, 3, [(eRDecl c16)]⟩]) (st1 := [⟨0, 97, 3, [(eRDecl c16)]⟩]) [0] rfl .nil (by decide) rfl rfl (.raw rfl rfl .nil) ⟨.rfl, .rfl, .rfl, .rfl, .rfl, .rfl, .rfl, .rfl, .rfl, trivial⟩))
      ·intro b33 h2
       exact AW.exit (M30 () (Sh.some_eq h2).symm _ (Wk.d0 _ rfl))
     refine AW.block (AW.loopF (σ := Int) (fun n v => impl_ValidTypes_L2 N c16 p0 n v = some o26) (fun t25 => ⟨106, envL [(0, (ls eRDecl p0)), (3, (i64 t8)), (4, (.ptr 0 0 0 0)), (12, (ls eRDecl p0)), (13, (i64 (Sh.len p0))), (14, (i64 t8)), (54, (ls eRCon c16.cons)), (55, (i64 (Sh.len c16.cons))), (56, (i64 t25))], [⟨0, 97, 3, [(eRDecl c16)]⟩]⟩) N 0 h2 (Wk.tr rfl) (fun _ hv => by rw [impl_ValidTypes_L2] at hv; cases hv) ?_)
     rintro n t25 h2
     try dsimp only at h2 ⊢
     rw [impl_ValidTypes_L2] at h2
     refine zr tb rfl rfl (AW.seq fun K46 hK46 => ?_)
     refine ci h2 rfl ?_ ?_ <;> clear h2
     ·intro b47 h2
      refine AW.skip (hK46 _ (AW.seq fun K48 hK48 => AW.block (sr rfl fun K49 hK49 => bs h2 fun c50 gc50 h2 => zx ei95 gc50 rfl rfl rfl (zq tb rfl (ao_alloc (m := 1) (st' := [⟨0, 97, 3, [(eRDecl c16)]⟩, ⟨0, 152, 1, [[.zc]]⟩]) go0 zi152 rfl rfl (ao_str (st' := [⟨0, 97, 3, [(eRDecl c16)]⟩, ⟨0, 152, 1, [(eRCon c50)]⟩]) go0 ti152 rfl rfl rfl rfl rfl rfl (show 0 + 1 ≤ 1 by decide) rfl (dn hK49 rfl (AW.seq fun K51 hK51 => bs h2 fun o53 h3 h2 => ?_))))))))
      have M53 : ∀ (t52 : Bool), o53 = t52 → ∀ s, Wk 0 s ⟨106, envL [(0, (ls eRDecl p0)), (3, (i64 t8)), (4, (.ptr 0 0 0 0)), (12, (ls eRDecl p0)), (13, (i64 (Sh.len p0))), (14, (i64 t8)), (54, (ls eRCon c16.cons)), (55, (i64 (Sh.len c16.cons))), (56, (i64 t25)), (70, (.bool t52))], [⟨0, 97, 3, [(eRDecl c16)]⟩]⟩ → K51 s := by
       intro t52 hq s hw
       subst o53
       try dsimp only at h2
       refine hK51 _ (AW.weaken hw ?_)
       refine ci h2 rfl ?_ ?_ <;> clear h2
       ·intro b54 h2
        refine zr tb rfl rfl ?_
        replace h2 := Sh.some_eq h2
        subst o26
        try dsimp only [id] at h1
        replace h1 := Sh.some_eq h1
        subst o9
        try dsimp only [id] at h0
        replace h0 := Sh.some_eq h0
        subst r
        exact AW.ret (xr (Wk.d0 [(2, (.bool false))] rfl))
       ·intro b54 h2
        exact AW.skip (hK48 _ (AW.regionO rfl (zm tb 2 rfl (AO.done (xi (Sh.w (t25 + 1)) h2 (Wk.tr rfl))))))
      refine AW.regionO rfl (zm tb 2 rfl (zl tb rfl rfl (zm tb 2 rfl ?_)))
      rcases Sh.ite_some h3 with ⟨b56, h3⟩ | ⟨b56, h3⟩
      ·refine zs b56 rfl ?_
       iterate 4 refine zs b56 rfl ?_
       refine zt b56 rfl ?_
       exact AO.done (M53 true (Sh.some_eq h3).symm _ (Wk.permk (L := [(0, (ls eRDecl p0)), (3, (i64 t8)), (4, (.ptr 0 0 0 0)), (12, (ls eRDecl p0)), (13, (i64 (Sh.len p0))), (14, (i64 t8)), (54, (ls eRCon c16.cons)), (55, (i64 (Sh.len c16.cons))), (56, (i64 t25)), (70, (.bool true))]) (st' := [⟨0, 97, 3, [(eRDecl c16)]⟩]) (st1 := [⟨0, 97, 3, [(eRDecl c16)]⟩]) [0] rfl .nil (by decide) rfl rfl (.raw rfl rfl .nil) ⟨.rfl, .rfl, .rfl, .rfl, .rfl, .rfl, .rfl, .rfl, .rfl, .rfl, trivial⟩))
      ·refine zg tb b56 rfl (zg tb b56 rfl (zg tb b56 rfl (bs h3 fun q57 gq57 h3 => zd b56 hb105 (impl_allTypes_ok gq57) rfl rfl rfl rfl (zg tb b56 rfl (zf b56 rfl ?_)))))
       exact AO.done (M53 (!q57) (Sh.some_eq h3).symm _ (Wk.permk (L := [(0, (ls eRDecl p0)), (3, (i64 t8)), (4, (.ptr 0 0 0 0)), (12, (ls eRDecl p0)), (13, (i64 (Sh.len p0))), (14, (i64 t8)), (54, (ls eRCon c16.cons)), (55, (i64 (Sh.len c16.cons))), (56, (i64 t25)), (70, (.bool (!q57)))]) (st' := [⟨0, 97, 3, [(eRDecl c16)]⟩]) (st1 := [⟨0, 97, 3, [(eRDecl c16)]⟩]) [0] rfl .nil (by decide) rfl rfl (.raw rfl rfl .nil) ⟨.rfl, .rfl, .rfl, .rfl, .rfl, .rfl, .rfl, .rfl, .rfl, .rfl, trivial⟩))
     ·intro b47 h2
      exact AW.exit (M26 () (Sh.some_eq h2).symm _ (Wk.tr rfl))
   refine AW.regionO rfl (zm tb 3 rfl (bs h2 fun q58 gq58 h2 => zc hb106 (impl_isType_ok gq58) rfl rfl rfl (zm tb 2 rfl ?_)))
   rcases Sh.ite_some h2 with ⟨b59, h2⟩ | ⟨b59, h2⟩
   ·refine zs b59 rfl ?_
    iterate 4 refine zs b59 rfl ?_
    refine zt b59 rfl (zq tb rfl ?_)
    iterate 4 refine zs rfl rfl ?_
    refine zt rfl rfl (zq tb rfl ?_)
    iterate 5 refine zs rfl rfl ?_
    iterate 8 refine zn rfl ?_
    exact zs rfl rfl (zt rfl rfl (AO.done (M20 true (Sh.some_eq h2).symm _ (Wk.tr rfl))))
   ·refine zg tb b59 rfl (zg tb b59 rfl (zg tb b59 rfl (bs h2 fun q60 gq60 h2 => zd b59 hb106 (impl_isType_ok gq60) rfl rfl rfl rfl (zg tb b59 rfl (zf b59 rfl (zq tb rfl ?_))))))
    rcases Sh.ite_some h2 with ⟨b61, h2⟩ | ⟨b61, h2⟩
    ·refine zs b61 rfl ?_
     iterate 3 refine zs b61 rfl ?_
     refine zt b61 rfl (zq tb rfl ?_)
     iterate 5 refine zs rfl rfl ?_
     iterate 8 refine zn rfl ?_
     exact zs rfl rfl (zt rfl rfl (AO.done (M20 true (Sh.some_eq h2).symm _ (Wk.tr rfl))))
    ·refine zg tb b61 rfl (zg tb b61 rfl (ao_q (v := (i64 (Sh.len c16.cons))) (go1 rfl rfl b61) rfl (aq_lens sl95 rfl) (zg tb b61 rfl (zf b61 rfl (zq tb rfl ?_)))))
     rcases Sh.ite_some h2 with ⟨b62, h2⟩ | ⟨b62, h2⟩
     ·refine zs b62 rfl ?_
      iterate 4 refine zs b62 rfl ?_
      iterate 8 refine zn rfl ?_
      exact zs b62 rfl (zt b62 rfl (AO.done (M20 true (Sh.some_eq h2).symm _ (Wk.tr rfl))))
     ·refine zg tb b62 rfl (zg tb b62 rfl (ao_q (v := (i64 (Sh.len c16.cons))) (go1 rfl rfl b62) rfl (aq_lens sl95 rfl) (zg tb b62 rfl (zg tb b62 rfl ?_))))
      rcases Sh.ite_some h2 with ⟨b63, h2⟩ | ⟨b63, h2⟩
      ·refine zg tb b63 rfl ?_
       iterate 3 refine zg tb b63 rfl ?_
       rcases Sh.ite_some h2 with ⟨b64, h2⟩ | ⟨b64, h2⟩
       ·exact zs b64 rfl (zs b64 rfl (zs b64 rfl (ao_q (v := (.bool true)) (go1 rfl rfl b63) rfl (aq_pkt rfl b64 rfl) (ao_q (v := (.bool true)) (go1 rfl rfl b62) rfl (aq_pkt rfl b63 rfl) (zf b62 rfl (AO.done (M20 true (Sh.some_eq h2).symm _ (Wk.tr rfl))))))))
       ·exact zg tb b64 rfl (zg tb b64 rfl (zg tb b64 rfl (ao_q (v := (.bool (!decide (c16.to = 0)))) (go1 rfl rfl b63) rfl (aq_pkf rfl b64 rfl) (ao_q (v := (.bool (!decide (c16.to = 0)))) (go1 rfl rfl b62) rfl (aq_pkt rfl b63 rfl) (zf b62 rfl (AO.done (M20 (!decide (c16.to = 0)) (Sh.some_eq h2).symm _ (Wk.tr rfl))))))))
      ·refine zs b63 rfl ?_
       iterate 3 refine zs b63 rfl ?_
       iterate 3 refine zn rfl ?_
       exact zs b63 rfl (ao_q (v := (.bool false)) (go1 rfl rfl b62) rfl (aq_pkf rfl b63 rfl) (zf b62 rfl (AO.done (M20 false (Sh.some_eq h2).symm _ (Wk.tr rfl)))))
  ·intro b13 h1
   exact AW.exit (M9 () (Sh.some_eq h1).symm _ (Wk.tr rfl))
theorem impl_validSigs_ok {N : Nat} {p0 : (List RDecl)} {p1 : (List RSignature)} {r : Bool} (h0 : impl_validSigs N p0 p1 = some r) : ACalls Try.prog 80 [(ls eRDecl p0), (ls eRSignature p1)] [] (fun v st => v = (.bool r) ∧ st = []) := by
 unfold impl_validSigs at h0
 refine ai Try.func80 rfl rfl rfl rfl (zr tb rfl rfl (AW.seq fun K2 hK2 => AW.seq fun K3 hK3 => bs h0 fun o5 h1 h0 => ?_))
 have M5 : ∀ (t4 : Bool), o5 = t4 → ∀ s, Wk 0 s ⟨102, envL [(0, (ls eRDecl p0)), (1, (ls eRSignature p1)), (36, (.bool t4))], []⟩ → K3 s := by
  intro t4 hq s hw
  subst o5
  try dsimp only at h0
  refine hK3 _ (AW.weaken hw ?_)
  refine ci h0 rfl ?_ ?_ <;> clear h0
  ·intro b6 h0
   refine zr tb rfl rfl ?_
   replace h0 := Sh.some_eq h0
   subst r
   exact AW.ret (xr (Wk.to (L := [(4, (.bool false))]) ⟨.rfl, trivial⟩))
  ·intro b6 h0
   refine AW.skip (hK2 _ (AW.seq fun K8 hK8 => sr rfl fun K9 hK9 => zq tb rfl (zl tb rfl rfl (zq tb rfl (dn hK9 rfl ?_)))))
   obtain ⟨o11, h1, h0⟩ := Sh.cont_some h0
   have M11 : ∀ (_ : Unit), o11 = Sum.inr () → ∀ s, Wk 0 s ⟨102, envL [], []⟩ → K8 s := by
    intro _ hq s hw
    subst o11
    try dsimp only at h0
    refine hK8 _ (AW.weaken hw (zr tb rfl rfl ?_))
    replace h0 := Sh.some_eq h0
    subst r
    exact AW.ret (xr (Wk.to (L := [(4, (.bool true))]) ⟨.rfl, trivial⟩))
   refine AW.block (AW.loopF (σ := Int) (fun n v => impl_validSigs_L1 N p0 p1 n v = some o11) (fun t10 => ⟨102, envL [(0, (ls eRDecl p0)), (37, (ls eRSignature p1)), (38, (i64 (Sh.len p1))), (39, (i64 t10))], []⟩) N 0 h1 (Wk.tr rfl) (fun _ hv => by rw [impl_validSigs_L1] at hv; cases hv) ?_)
   rintro n t10 h1
   try dsimp only at h1 ⊢
   rw [impl_validSigs_L1] at h1
   refine zr tb rfl rfl (AW.seq fun K14 hK14 => ?_)
   refine ci h1 rfl ?_ ?_ <;> clear h1
   ·intro b15 h1
    refine AW.skip (hK14 _ (AW.seq fun K16 hK16 => AW.block (sr rfl fun K17 hK17 => bs h1 fun c18 gc18 h1 => zx ei100 gc18 rfl rfl rfl (zq tb rfl (ao_alloc (m := 0) (st' := [⟨0, 127, 3, [[.zc, .zc, (i64 0)]]⟩]) go0 zi127 rfl rfl (ao_str (st' := [⟨0, 127, 3, [[(ls eI c18.params), (ls eI c18.lent), (i64 c18.result)]]⟩]) go0 ti127 rfl rfl rfl rfl rfl rfl (show 0 + 3 ≤ 3 by decide) rfl (dn hK17 rfl (AW.seq fun K19 hK19 => AW.seq fun K20 hK20 => ?_))))))))
    refine bs h1 fun o22 h2 h1 => ?_
    have M22 : ∀ (t21 : Bool), o22 = t21 → ∀ s, Wk 0 s ⟨102, envL [(0, (ls eRDecl p0)), (6, (.ptr 0 0 0 0)), (37, (ls eRSignature p1)), (38, (i64 (Sh.len p1))), (39, (i64 t10)), (60, (.bool t21))], [⟨0, 127, 3, [[(ls eI c18.params), (ls eI c18.lent), (i64 c18.result)]]⟩]⟩ → K20 s := by
     intro t21 hq s hw
     subst o22
     try dsimp only at h1
     refine hK20 _ (AW.weaken hw ?_)
     refine ci h1 rfl ?_ ?_ <;> clear h1
     ·intro b23 h1
      refine zr tb rfl rfl ?_
      replace h1 := Sh.some_eq h1
      subst o11
      try dsimp only [id] at h0
      replace h0 := Sh.some_eq h0
      subst r
      exact AW.ret (xr (Wk.d0 [(4, (.bool false))] rfl))
     ·intro b23 h1
      refine AW.skip (hK19 _ (sr rfl fun K25 hK25 => zm tb 2 rfl (zl tb rfl rfl (zq tb rfl (dn hK25 rfl ?_)))))
      obtain ⟨o27, h2, h1⟩ := Sh.cont_some h1
      have M27 : ∀ (_ : Unit), o27 = Sum.inr () → ∀ s, Wk 0 s ⟨102, envL [(0, (ls eRDecl p0)), (37, (ls eRSignature p1)), (38, (i64 (Sh.len p1))), (39, (i64 t10))], []⟩ → K16 s := by
       intro _ hq s hw
       subst o27
       try dsimp only at h1
       exact hK16 _ (AW.weaken hw (AW.regionO rfl (zm tb 2 rfl (AO.done (xi (Sh.w (t10 + 1)) h1 (Wk.tr rfl))))))
      refine AW.block (AW.loopF (σ := Int) (fun n v => impl_validSigs_L2 c18 n v = some o27) (fun t26 => ⟨102, envL [(0, (ls eRDecl p0)), (6, (.ptr 0 0 0 0)), (37, (ls eRSignature p1)), (38, (i64 (Sh.len p1))), (39, (i64 t10)), (62, (ls eI c18.lent)), (63, (i64 (Sh.len c18.lent))), (64, (i64 t26))], [⟨0, 127, 3, [[(ls eI c18.params), (ls eI c18.lent), (i64 c18.result)]]⟩]⟩) N 0 h2 (Wk.tr rfl) (fun _ hv => by rw [impl_validSigs_L2] at hv; cases hv) ?_)
      rintro n t26 h2
      try dsimp only at h2 ⊢
      rw [impl_validSigs_L2] at h2
      refine zr tb rfl rfl (AW.seq fun K29 hK29 => ?_)
      refine ci h2 rfl ?_ ?_ <;> clear h2
      ·intro b30 h2
       refine AW.skip (hK29 _ (AW.seq fun K31 hK31 => AW.block (sr rfl fun K32 hK32 => zq tb rfl (bs h2 fun c33 gc33 h2 => zx ei22 gc33 rfl rfl rfl (zm tb 3 rfl (dn hK32 rfl (AW.seq fun K34 hK34 => bs h2 fun o36 h3 h2 => ?_)))))))
       have M36 : ∀ (t35 : Bool), o36 = t35 → ∀ s, Wk 0 s ⟨102, envL [(0, (ls eRDecl p0)), (6, (.ptr 0 0 0 0)), (37, (ls eRSignature p1)), (38, (i64 (Sh.len p1))), (39, (i64 t10)), (62, (ls eI c18.lent)), (63, (i64 (Sh.len c18.lent))), (64, (i64 t26)), (99, (.bool t35))], [⟨0, 127, 3, [[(ls eI c18.params), (ls eI c18.lent), (i64 c18.result)]]⟩]⟩ → K34 s := by
        intro t35 hq s hw
        subst o36
        try dsimp only at h2
        refine hK34 _ (AW.weaken hw ?_)
        refine ci h2 rfl ?_ ?_ <;> clear h2
        ·intro b37 h2
         refine zr tb rfl rfl ?_
         replace h2 := Sh.some_eq h2
         subst o27
         try dsimp only [id] at h1
         replace h1 := Sh.some_eq h1
         subst o11
         try dsimp only [id] at h0
         replace h0 := Sh.some_eq h0
         subst r
         exact AW.ret (xr (Wk.d0 [(4, (.bool false))] rfl))
        ·intro b37 h2
         exact AW.skip (hK31 _ (AW.regionO rfl (zm tb 2 rfl (AO.done (xi (Sh.w (t26 + 1)) h2 (Wk.tr rfl))))))
       refine AW.regionO rfl (zm tb 3 rfl ?_)
       rcases Sh.ite_some h3 with ⟨b39, h3⟩ | ⟨b39, h3⟩
       ·refine zs b39 rfl ?_
        iterate 4 refine zs b39 rfl ?_
        refine zt b39 rfl (zq tb rfl ?_)
        iterate 6 refine zs rfl rfl ?_
        refine zt rfl rfl (zq tb rfl ?_)
        iterate 3 refine zs rfl rfl ?_
        iterate 8 refine zn rfl ?_
        exact zs rfl rfl (zt rfl rfl (AO.done (M36 true (Sh.some_eq h3).symm _ (Wk.tr rfl))))
       ·refine zg tb b39 rfl (zg tb b39 rfl (zg tb b39 rfl (ao_q (v := (i64 (Sh.len c18.params))) (go1 rfl rfl b39) rfl (aq_lens sl22 rfl) (zg tb b39 rfl (zf b39 rfl (zq tb rfl ?_))))))
        rcases Sh.ite_some h3 with ⟨b40, h3⟩ | ⟨b40, h3⟩
        ·refine zs b40 rfl ?_
         iterate 5 refine zs b40 rfl ?_
         refine zt b40 rfl (zq tb rfl ?_)
         iterate 3 refine zs rfl rfl ?_
         iterate 8 refine zn rfl ?_
         exact zs rfl rfl (zt rfl rfl (AO.done (M36 true (Sh.some_eq h3).symm _ (Wk.tr rfl))))
        ·refine zg tb b40 rfl (zg tb b40 rfl (zg tb b40 rfl (bs h3 fun c41 gc41 h3 => ao_q (v := (.iptr (eI c41) 0)) (go1 rfl rfl b40) rfl (aq_ixs ei22 rfl rfl gc41 rfl) (zg tb b40 rfl (zg tb b40 rfl (zf b40 rfl (zq tb rfl ?_)))))))
         rcases Sh.ite_some h3 with ⟨b42, h3⟩ | ⟨b42, h3⟩
         ·refine zs b42 rfl (zs b42 rfl (zs b42 rfl ?_))
          iterate 8 refine zn rfl ?_
          exact zs b42 rfl (zt b42 rfl (AO.done (M36 true (Sh.some_eq h3).symm _ (Wk.tr rfl))))
         ·refine zg tb b42 rfl (zg tb b42 rfl (zg tb b42 rfl ?_))
          rcases Sh.ite_some h3 with ⟨b43, h3⟩ | ⟨b43, h3⟩
          ·refine zg tb b43 rfl ?_
           iterate 4 refine zg tb b43 rfl ?_
           exact bs h3 fun c44 gc44 h3 => ao_q (v := (.iptr (eI c44) 0)) (go1 rfl rfl b43) rfl (aq_ixs ei22 rfl rfl gc44 rfl) (zg tb b43 rfl (zg tb b43 rfl (ao_q (v := (.bool (decide (c33 ≤ c44)))) (go1 rfl rfl b42) rfl (aq_pkt rfl b43 rfl) (zf b42 rfl (AO.done (M36 (decide (c33 ≤ c44)) (Sh.some_eq h3).symm _ (Wk.tr rfl)))))))
          ·refine zs b43 rfl ?_
           iterate 7 refine zs b43 rfl ?_
           exact ao_q (v := (.bool false)) (go1 rfl rfl b42) rfl (aq_pkf rfl b43 rfl) (zf b42 rfl (AO.done (M36 false (Sh.some_eq h3).symm _ (Wk.tr rfl))))
      ·intro b30 h2
       exact AW.exit (M27 () (Sh.some_eq h2).symm _ (Wk.d0 _ rfl))
    refine AW.regionO rfl (zm tb 2 rfl (zl tb rfl rfl (zm tb 2 rfl ?_)))
    rcases Sh.ite_some h2 with ⟨b45, h2⟩ | ⟨b45, h2⟩
    ·refine zs b45 rfl ?_
     iterate 4 refine zs b45 rfl ?_
     refine zt b45 rfl (zq tb rfl ?_)
     iterate 5 refine zs rfl rfl ?_
     exact zt rfl rfl (AO.done (M22 true (Sh.some_eq h2).symm _ (Wk.tr rfl)))
    ·refine zg tb b45 rfl (zg tb b45 rfl (zg tb b45 rfl (bs h2 fun q46 gq46 h2 => zd b45 hb105 (impl_allTypes_ok gq46) rfl rfl rfl rfl (zg tb b45 rfl (zf b45 rfl (zq tb rfl ?_))))))
     rcases Sh.ite_some h2 with ⟨b47, h2⟩ | ⟨b47, h2⟩
     ·refine zs b47 rfl ?_
      iterate 4 refine zs b47 rfl ?_
      exact zt b47 rfl (AO.done (M22 true (Sh.some_eq h2).symm _ (Wk.tr rfl)))
     ·exact zg tb b47 rfl (zg tb b47 rfl (zg tb b47 rfl (bs h2 fun q48 gq48 h2 => zd b47 hb106 (impl_isType_ok gq48) rfl rfl rfl rfl (zg tb b47 rfl (zf b47 rfl (AO.done (M22 (!q48) (Sh.some_eq h2).symm _ (Wk.tr rfl))))))))
   ·intro b15 h1
    exact AW.exit (M11 () (Sh.some_eq h1).symm _ (Wk.tr rfl))
 refine AW.regionO rfl (zq tb rfl (bs h1 fun q49 gq49 h1 => zc hb104 (impl_ValidTypes_ok gq49) rfl rfl rfl (zm tb 2 rfl ?_)))
 rcases Sh.ite_some h1 with ⟨b50, h1⟩ | ⟨b50, h1⟩
 ·refine zs b50 rfl (zs b50 rfl (zs b50 rfl (zt b50 rfl (zq tb rfl ?_))))
  iterate 3 refine zs rfl rfl ?_
  refine zt rfl rfl (zq tb rfl ?_)
  iterate 6 refine zs rfl rfl ?_
  refine zt rfl rfl (zq tb rfl ?_)
  iterate 5 refine zs rfl rfl ?_
  exact zt rfl rfl (AO.done (M5 true (Sh.some_eq h1).symm _ (Wk.tr rfl)))
 ·refine zg tb b50 rfl (ao_q (v := (i64 (Sh.len p1))) (go1 rfl rfl b50) rfl (aq_lens sl100 rfl) (zg tb b50 rfl (zf b50 rfl (zq tb rfl ?_))))
  rcases Sh.ite_some h1 with ⟨b51, h1⟩ | ⟨b51, h1⟩
  ·refine zs b51 rfl (zs b51 rfl (zs b51 rfl (zt b51 rfl (zq tb rfl ?_))))
   iterate 6 refine zs rfl rfl ?_
   refine zt rfl rfl (zq tb rfl ?_)
   iterate 5 refine zs rfl rfl ?_
   exact zt rfl rfl (AO.done (M5 true (Sh.some_eq h1).symm _ (Wk.tr rfl)))
  ·refine zg tb b51 rfl (ao_q (v := (i64 (Sh.len p1))) (go1 rfl rfl b51) rfl (aq_lens sl100 rfl) (zg tb b51 rfl (zf b51 rfl (zq tb rfl ?_))))
   rcases Sh.ite_some h1 with ⟨b52, h1⟩ | ⟨b52, h1⟩
   ·refine zs b52 rfl ?_
    iterate 5 refine zs b52 rfl ?_
    refine zt b52 rfl (zq tb rfl ?_)
    iterate 5 refine zs rfl rfl ?_
    exact zt rfl rfl (AO.done (M5 true (Sh.some_eq h1).symm _ (Wk.tr rfl)))
   ·refine zg tb b52 rfl (bs h1 fun c53 gc53 h1 => ao_q (v := (.iptr (eRSignature c53) 0)) (go1 rfl rfl b52) rfl (aq_ixs ei100 rfl rfl gc53 rfl) (zg tb b52 rfl (zg tb b52 rfl (ao_q (v := (i64 (Sh.len c53.params))) (go1 rfl rfl b52) rfl (aq_lens sl22 rfl) (zg tb b52 rfl (zf b52 rfl (zq tb rfl ?_)))))))
    rcases Sh.ite_some h1 with ⟨b54, h1⟩ | ⟨b54, h1⟩
    ·refine zs b54 rfl ?_
     iterate 4 refine zs b54 rfl ?_
     exact zt b54 rfl (AO.done (M5 true (Sh.some_eq h1).symm _ (Wk.tr rfl)))
    ·refine zg tb b54 rfl (ao_q (v := (.iptr (eRSignature c53) 0)) (go1 rfl rfl b54) rfl (aq_ixs ei100 rfl rfl gc53 rfl) ?_)
     iterate 3 refine zg tb b54 rfl ?_
     exact zf b54 rfl (AO.done (M5 (!decide (c53.result = 0)) (Sh.some_eq h1).symm _ (Wk.tr rfl)))
end Go.Proofs.Ytcegihniiokijaa

