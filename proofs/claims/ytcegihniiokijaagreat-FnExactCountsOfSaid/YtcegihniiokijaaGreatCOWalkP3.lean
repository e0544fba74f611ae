import Derived.Test.YtcegihniiokijaaGreatProg
import Derived.Test.YtcegihniiokijaaGreatCODefs
import Derived.Test.YtcegihniiokijaaGreatCOWalkP2
namespace Go.Proofs.YtcegihniiokijaaGreat
open Go Go.Abs RC
attribute [local irreducible] Go.Abs.dops
set_option maxRecDepth 100000
set_option maxHeartbeats 4000000

theorem hb138 : hasBody Tryz.prog 138 = true := by kernel_rfl
theorem hb139 : hasBody Tryz.prog 139 = true := by kernel_rfl
theorem hb141 : hasBody Tryz.prog 141 = true := by kernel_rfl
theorem hb142 : hasBody Tryz.prog 142 = true := by kernel_rfl
theorem hb143 : hasBody Tryz.prog 143 = true := by kernel_rfl
theorem hb187 : hasBody Tryz.prog 187 = true := by kernel_rfl
theorem hb188 : hasBody Tryz.prog 188 = true := by kernel_rfl
theorem hb19 : hasBody Tryz.prog 19 = true := by kernel_rfl
theorem hb20 : hasBody Tryz.prog 20 = true := by kernel_rfl
theorem hb211 : hasBody Tryz.prog 211 = true := by kernel_rfl
theorem hb231 : hasBody Tryz.prog 231 = true := by kernel_rfl
theorem hb34 : hasBody Tryz.prog 34 = true := by kernel_rfl
theorem hb41 : hasBody Tryz.prog 41 = true := by kernel_rfl
theorem hb42 : hasBody Tryz.prog 42 = true := by kernel_rfl
theorem hb43 : hasBody Tryz.prog 43 = true := by kernel_rfl
theorem hb44 : hasBody Tryz.prog 44 = true := by kernel_rfl
theorem hb51 : hasBody Tryz.prog 51 = true := by kernel_rfl
theorem hb52 : hasBody Tryz.prog 52 = true := by kernel_rfl
theorem hb53 : hasBody Tryz.prog 53 = true := by kernel_rfl
theorem hb54 : hasBody Tryz.prog 54 = true := by kernel_rfl
theorem hb77 : hasBody Tryz.prog 77 = true := by kernel_rfl
theorem hb84 : hasBody Tryz.prog 84 = true := by kernel_rfl
theorem hb87 : hasBody Tryz.prog 87 = true := by kernel_rfl
theorem hb88 : hasBody Tryz.prog 88 = true := by kernel_rfl
theorem hb89 : hasBody Tryz.prog 89 = true := by kernel_rfl
theorem hb90 : hasBody Tryz.prog 90 = true := by kernel_rfl
theorem hb91 : hasBody Tryz.prog 91 = true := by kernel_rfl
theorem hb92 : hasBody Tryz.prog 92 = true := by kernel_rfl
theorem sl28 : isSliceT Tryz.prog 28 = true := by kernel_rfl
theorem sl53 : isSliceT Tryz.prog 53 = true := by kernel_rfl
theorem sl74 : isSliceT Tryz.prog 74 = true := by kernel_rfl
theorem zi37 : zinfo Tryz.prog 37 = some [.zc] := by kernel_rfl

noncomputable abbrev wE0 (p2 : Step) : Go.Abs.Row := ⟨0, 71, 5, [[(i64 p2.op), (i64 p2.num), (i64 p2.into), (ls eI p2.args), (ls eBlock p2.kids)]]⟩
noncomputable abbrev wE1 : Go.Abs.Row := ⟨0, 98, 3, [[(i64 0), (i64 0), .zc]]⟩
noncomputable abbrev wE2 (p0 : RSignatures) : List (Nat × Go.Abs.AV) := [(12, (.ptr 0 0 0 0)), (108, (ls eRDecl p0.decls)), (110, (.ptr 1 0 (Int.toNat 0) 0))]
noncomputable abbrev wE3 : List (Nat × Go.Abs.AV) := [(12, (.ptr 0 0 0 0)), (107, (.ptr 1 0 0 0)), (110, (.ptr 2 0 (Int.toNat 0) 0))]
noncomputable abbrev wE4 (c32 : Int) : List (Nat × Go.Abs.AV) := [(12, (.ptr 0 0 0 0)), (107, (.ptr 1 0 0 0)), (111, (i64 c32))]
noncomputable abbrev wE5 (c32 : Int) (p0 : RSignatures) : List (Nat × Go.Abs.AV) := [(12, (.ptr 0 0 0 0)), (108, (ls eRDecl p0.decls)), (111, (i64 c32))]
noncomputable abbrev wE6 (p1 : (List Int)) : List (Nat × Go.Abs.AV) := [(1, (ls eI p1)), (3, (.ptr 0 0 0 0)), (5, (.ptr 1 0 0 0)), (141, (.bool true))]
noncomputable abbrev wE7 : List (Nat × Go.Abs.AV) := [(3, (.ptr 0 0 0 0)), (12, (.ptr 1 0 0 0)), (110, (.ptr 2 0 (Int.toNat 0) 0))]
noncomputable abbrev wE8 (p0 : RSignatures) : List (Nat × Go.Abs.AV) := [(108, (ls eRDecl p0.decls)), (110, (.ptr 0 0 (Int.toNat 0) 0))]
noncomputable abbrev wE9 (c32 : Int) (p0 : RSignatures) : List (Nat × Go.Abs.AV) := [(108, (ls eRDecl p0.decls)), (111, (i64 c32))]
noncomputable abbrev wE10 (c32 : Int) : List (Nat × Go.Abs.AV) := [(3, (.ptr 0 0 0 0)), (12, (.ptr 1 0 0 0)), (111, (i64 c32))]
theorem impl_signatures_stepType_ok {N : Nat} {rec_impl_signatures_blockType : RSignatures → (List Int) → Block → Option (Int)} (hrec_impl_signatures_blockType : ∀ {p0 : RSignatures} {p1 : (List Int)} {p2 : Block} {r : Int}, rec_impl_signatures_blockType p0 p1 p2 = some r → ACalls Tryz.prog 102 [(.agg (eRSignatures p0)), (ls eI p1), (.agg [(ls eStep p2.steps), (i64 p2.result)])] [] (fun v st => v = (i64 r) ∧ st = [])) {p0 : RSignatures} {p1 : (List Int)} {p2 : Step} {r : Int × Bool} (h0 : impl_signatures_stepType N rec_impl_signatures_blockType p0 p1 p2 = some r) : ACalls Tryz.prog 87 [(.agg (eRSignatures p0)), (ls eI p1), (.agg [(i64 p2.op), (i64 p2.num), (i64 p2.into), (ls eI p2.args), (ls eBlock p2.kids)])] [] (fun v st => v = (.tup [(i64 r.1), (.bool r.2)]) ∧ st = []) := by
 unfold impl_signatures_stepType at h0
 refine ai Tryz.func87 rfl rfl rfl rfl (sr rfl fun K1 hK1 => ao_box (m := 0) (st' := [⟨0, 49, 2, [(eRSignatures p0)]⟩]) go0 rfl rfl rfl rfl rfl (ao_box (m := 1) (st' := [⟨0, 49, 2, [(eRSignatures p0)]⟩, (wE0 p2)]) go0 rfl rfl rfl rfl rfl (zm tb 2 rfl (dn hK1 rfl (sr rfl fun K2 hK2 => zm tb 2 rfl (zl tb rfl rfl (bs h0 fun l3 gl3 h0 => ao_make0v (m := 2) (st' := [⟨0, 49, 2, [(eRSignatures p0)]⟩, (wE0 p2), (ro 0 3 1 eI ([] : List Int))]) ei37 rfl rfl gl3 rfl rfl (zq tb rfl ?_))))))))
 refine dn hK2 rfl (AW.seq fun K4 hK4 => sr rfl fun K5 hK5 => zm tb 2 rfl (zl tb rfl rfl (zq tb rfl (dn hK5 rfl ?_))))
 obtain ⟨o9, h1, h0⟩ := Sh.cont_some h0
 have M9 : ∀ (l8 : (List Int)), o9 = Sum.inr l8 → ∀ s, Wk 0 s ⟨233, envL [(1, (ls eI p1)), (3, (.ptr 0 0 0 0)), (5, (.ptr 1 0 0 0)), (8, (ow 2 0 l8))], [⟨0, 49, 2, [(eRSignatures p0)]⟩, (wE0 p2), (ro 0 3 1 eI l8)]⟩ → K4 s := by
  intro l8 hq s hw
  subst o9
  try dsimp only at h0
  refine hK4 _ (AW.weaken hw (AW.seq fun K10 hK10 => AW.seq fun K11 hK11 => bs h0 fun o13 h1 h0 => ?_))
  have M13 : ∀ (t12 : Bool), o13 = t12 → ∀ s, Wk 0 s ⟨233, envL [(1, (ls eI p1)), (3, (.ptr 0 0 0 0)), (5, (.ptr 1 0 0 0)), (8, (ow 2 0 l8)), (70, (.bool t12))], [⟨0, 49, 2, [(eRSignatures p0)]⟩, (wE0 p2), (ro 0 3 1 eI l8)]⟩ → K11 s := by
   intro t12 hq s hw
   subst o13
   try dsimp only at h0
   refine hK11 _ (AW.weaken hw ?_)
   refine ci h0 rfl ?_ ?_ <;> clear h0
   ·intro b14 h0
    refine zr tb rfl rfl ?_
    replace h0 := Sh.some_eq h0
    subst r
    exact AW.ret (xr (Wk.d0 [(6, (i64 (-1))), (7, (.bool false))] rfl))
   ·intro b14 h0
    refine AW.skip (hK10 _ (AW.seq fun K16 hK16 => AW.block (sr rfl fun K17 hK17 => zm tb 2 rfl (bs h0 fun q18 gq18 h0 => zc hb54 (impl_isCounting_ok gq18) rfl rfl rfl (zq tb rfl (dn hK17 rfl ?_))))))
    refine ci h0 rfl ?_ ?_ <;> clear h0
    ·intro b19 h0
     refine AW.seq fun K20 hK20 => bs h0 fun o22 h1 h0 => ?_
     have M22 : ∀ (ok21 : Bool), o22 = ok21 → ∀ s, Wk 0 s ⟨233, envL [(3, (.ptr 0 0 0 0)), (5, (.ptr 1 0 0 0)), (8, (ow 2 0 l8)), (11, (.bool ok21))], [⟨0, 49, 2, [(eRSignatures p0)]⟩, (wE0 p2), (ro 0 3 1 eI l8)]⟩ → K20 s := by
      intro ok21 hq s hw
      subst o22
      try dsimp only at h0
      refine hK20 _ (AW.weaken hw (AW.seq fun K23 hK23 => bs h0 fun o25 h1 h0 => ?_))
      have M25 : ∀ (ok24 : Bool), o25 = ok24 → ∀ s, Wk 0 s ⟨233, envL [(11, (.bool ok24))], []⟩ → K23 s := by
       intro ok24 hq s hw
       subst o25
       try dsimp only at h0
       refine hK23 _ (AW.weaken hw (zr tb rfl rfl ?_))
       replace h0 := Sh.some_eq h0
       subst r
       exact AW.ret (xr (Wk.to (L := [(6, (i64 (-1))), (7, (.bool ok24))]) ⟨.rfl, .rfl, trivial⟩))
      refine AW.seq fun K27 hK27 => bs h1 fun o29 h2 h1 => ?_
      have M29 : ∀ (t28 : Bool), o29 = t28 → ∀ s, Wk 0 s ⟨233, envL [(3, (.ptr 0 0 0 0)), (8, (ow 1 0 l8)), (11, (.bool ok21)), (105, (.bool t28))], [⟨0, 49, 2, [(eRSignatures p0)]⟩, (ro 0 3 1 eI l8)]⟩ → K27 s := by
       intro t28 hq s hw
       subst o29
       try dsimp only at h1
       refine hK27 _ (AW.weaken hw ?_)
       refine ci h1 rfl ?_ ?_ <;> clear h1
       ·intro b30 h1
        refine AW.seq fun K31 hK31 => ?_
        refine AW.drawX (by kernel_rfl) ?_
        refine bs h1 fun c32 gc32 h1 => bs h1 fun q33 gq33 h1 => AX.one fun A34 hA34 => ?_
        have A34_0123456789ab : A34 0 #[true, true, true, true, true, true, true, true, true, true, true, true] ⟨233, envL [(13, (.bool q33.2))], []⟩ := (hA34 _ _ _).2 (by
         refine AX.done rfl (by kernel_rfl) ?_
         exact hK31 _ (AW.regionO rfl (zm tb 3 rfl (AO.done (M25 (!q33.2) (Sh.some_eq h1).symm _ (Wk.to (L := [(11, (.bool (!q33.2)))]) ⟨.rfl, trivial⟩))))))
        have A34_0123456789a : A34 1 #[true, true, true, true, true, true, true, true, true, true, true, false] ⟨233, envL [(114, (.bool q33.2))], []⟩ := (hA34 _ _ _).2 (by
         refine AX.hoist 11 (v := (.bool q33.2)) rfl rfl (by kernel_rfl) (by kernel_rfl) (by kernel_rfl) rfl (hoist_as rfl) ?_
         exact AX.weaken (Wk.to (L := [(13, (.bool q33.2))]) ⟨.rfl, trivial⟩) (AX.lst (by kernel_rfl) ((hA34 _ _ _).1 A34_0123456789ab)) rfl)
        have A34_0123456789 : A34 2 #[true, true, true, true, true, true, true, true, true, true, false, false] ⟨233, envL [(12, (.ptr 0 0 0 0)), (113, (.agg (eRDecl q33.1))), (114, (.bool q33.2))], [wE1]⟩ := (hA34 _ _ _).2 (by
         refine AX.all [10] rfl (by kernel_rfl) (by decide) ⟨?_, trivial⟩
         ·refine AXs.of (i := 10) rfl rfl (by rfl) ?_
          refine ao_str (st' := [⟨0, 98, 3, [(eRDecl q33.1)]⟩]) go0 ti98 rfl rfl rfl rfl rfl rfl (show 0 + 3 ≤ 3 by decide) rfl (AO.done ⟨rfl, ?_⟩)
          exact AX.weaken (by refine Wk.trans (Wk.permk (L := [(114, (.bool q33.2))]) (st' := []) (st1 := []) [] rfl .nil (by decide) rfl rfl .nil ⟨.rfl, trivial⟩) ?_; exact Wk.to (L := [(114, (.bool q33.2))]) ⟨.rfl, trivial⟩) (AX.lst (by kernel_rfl) ((hA34 _ _ _).1 A34_0123456789a)) rfl)
        have A34_012345678 : A34 3 #[true, true, true, true, true, true, true, true, true, false, false, false] ⟨233, envL [(113, (.agg (eRDecl q33.1))), (114, (.bool q33.2))], []⟩ := (hA34 _ _ _).2 (by
         refine AX.all [9] rfl (by kernel_rfl) (by decide) ⟨?_, trivial⟩
         ·refine AXs.of (i := 9) rfl rfl (by rfl) ?_
          refine ao_alloc (m := 0) (st' := [wE1]) go0 zi98 rfl rfl (AO.done ⟨rfl, ?_⟩)
          exact AX.weaken (Wk.to (L := [(12, (.ptr 0 0 0 0)), (113, (.agg (eRDecl q33.1))), (114, (.bool q33.2))]) ⟨.rfl, .rfl, .rfl, trivial⟩) (AX.lst (by kernel_rfl) ((hA34 _ _ _).1 A34_0123456789)) rfl)
        have A34_012345679a : A34 2 #[true, true, true, true, true, true, true, true, false, true, true, false] ⟨233, envL [(106, (.tup [(.agg (eRDecl q33.1)), (.bool q33.2)]))], []⟩ := (hA34 _ _ _).2 (by
         refine AX.all [8] rfl (by kernel_rfl) (by decide) ⟨?_, trivial⟩
         ·refine AXs.of (i := 8) rfl rfl (by rfl) ?_
          refine zq tb rfl (AO.done ⟨rfl, ?_⟩)
          exact AX.weaken (Wk.to (L := [(114, (.bool q33.2))]) ⟨.rfl, trivial⟩) (AX.lst (by kernel_rfl) ((hA34 _ _ _).1 A34_0123456789a)) rfl)
        have A34_012345679 : A34 3 #[true, true, true, true, true, true, true, true, false, true, false, false] ⟨233, envL [(12, (.ptr 0 0 0 0)), (106, (.tup [(.agg (eRDecl q33.1)), (.bool q33.2)])), (113, (.agg (eRDecl q33.1)))], [wE1]⟩ := (hA34 _ _ _).2 (by
         refine AX.all [8, 10] rfl (by kernel_rfl) (by decide) ⟨?_, ?_, trivial⟩
         ·refine AXs.of (i := 8) rfl rfl (by rfl) ?_
          refine zq tb rfl (AO.done ⟨rfl, ?_⟩)
          exact AX.weaken (Wk.to (L := [(12, (.ptr 0 0 0 0)), (113, (.agg (eRDecl q33.1))), (114, (.bool q33.2))]) ⟨.rfl, .rfl, .rfl, trivial⟩) (AX.lst (by kernel_rfl) ((hA34 _ _ _).1 A34_0123456789)) rfl
         ·refine AXs.of (i := 10) rfl rfl (by rfl) ?_
          refine ao_str (st' := [⟨0, 98, 3, [(eRDecl q33.1)]⟩]) go0 ti98 rfl rfl rfl rfl rfl rfl (show 0 + 3 ≤ 3 by decide) rfl (AO.done ⟨rfl, ?_⟩)
          exact AX.weaken (by refine Wk.trans (Wk.permk (L := [(106, (.tup [(.agg (eRDecl q33.1)), (.bool q33.2)]))]) (st' := []) (st1 := []) [] rfl .nil (by decide) rfl rfl .nil ⟨.rfl, trivial⟩) ?_; exact Wk.to (L := [(106, (.tup [(.agg (eRDecl q33.1)), (.bool q33.2)]))]) ⟨.rfl, trivial⟩) (AX.lst (by kernel_rfl) ((hA34 _ _ _).1 A34_012345679a)) rfl)
        have A34_01234567 : A34 4 #[true, true, true, true, true, true, true, true, false, false, false, false] ⟨233, envL [(106, (.tup [(.agg (eRDecl q33.1)), (.bool q33.2)])), (113, (.agg (eRDecl q33.1)))], []⟩ := (hA34 _ _ _).2 (by
         refine AX.all [8, 9] rfl (by kernel_rfl) (by decide) ⟨?_, ?_, trivial⟩
         ·refine AXs.of (i := 8) rfl rfl (by rfl) ?_
          refine zq tb rfl (AO.done ⟨rfl, ?_⟩)
          exact AX.weaken (Wk.to (L := [(113, (.agg (eRDecl q33.1))), (114, (.bool q33.2))]) ⟨.rfl, .rfl, trivial⟩) (AX.lst (by kernel_rfl) ((hA34 _ _ _).1 A34_012345678)) rfl
         ·refine AXs.of (i := 9) rfl rfl (by rfl) ?_
          refine ao_alloc (m := 0) (st' := [wE1]) go0 zi98 rfl rfl (AO.done ⟨rfl, ?_⟩)
          exact AX.weaken (Wk.to (L := [(12, (.ptr 0 0 0 0)), (106, (.tup [(.agg (eRDecl q33.1)), (.bool q33.2)])), (113, (.agg (eRDecl q33.1)))]) ⟨.rfl, .rfl, .rfl, trivial⟩) (AX.lst (by kernel_rfl) ((hA34 _ _ _).1 A34_012345679)) rfl)
        have A34_012345689 : A34 3 #[true, true, true, true, true, true, true, false, true, true, false, false] ⟨233, envL [(12, (.ptr 0 0 0 0)), (106, (.tup [(.agg (eRDecl q33.1)), (.bool q33.2)])), (114, (.bool q33.2))], [wE1]⟩ := (hA34 _ _ _).2 (by
         refine AX.all [7] rfl (by kernel_rfl) (by decide) ⟨?_, trivial⟩
         ·refine AXs.of (i := 7) rfl rfl (by rfl) ?_
          refine zq tb rfl (AO.done ⟨rfl, ?_⟩)
          exact AX.weaken (Wk.to (L := [(12, (.ptr 0 0 0 0)), (113, (.agg (eRDecl q33.1))), (114, (.bool q33.2))]) ⟨.rfl, .rfl, .rfl, trivial⟩) (AX.lst (by kernel_rfl) ((hA34 _ _ _).1 A34_0123456789)) rfl)
        have A34_01234568 : A34 4 #[true, true, true, true, true, true, true, false, true, false, false, false] ⟨233, envL [(106, (.tup [(.agg (eRDecl q33.1)), (.bool q33.2)])), (114, (.bool q33.2))], []⟩ := (hA34 _ _ _).2 (by
         refine AX.all [7, 9] rfl (by kernel_rfl) (by decide) ⟨?_, ?_, trivial⟩
         ·refine AXs.of (i := 7) rfl rfl (by rfl) ?_
          refine zq tb rfl (AO.done ⟨rfl, ?_⟩)
          exact AX.weaken (Wk.to (L := [(113, (.agg (eRDecl q33.1))), (114, (.bool q33.2))]) ⟨.rfl, .rfl, trivial⟩) (AX.lst (by kernel_rfl) ((hA34 _ _ _).1 A34_012345678)) rfl
         ·refine AXs.of (i := 9) rfl rfl (by rfl) ?_
          refine ao_alloc (m := 0) (st' := [wE1]) go0 zi98 rfl rfl (AO.done ⟨rfl, ?_⟩)
          exact AX.weaken (Wk.to (L := [(12, (.ptr 0 0 0 0)), (106, (.tup [(.agg (eRDecl q33.1)), (.bool q33.2)])), (114, (.bool q33.2))]) ⟨.rfl, .rfl, .rfl, trivial⟩) (AX.lst (by kernel_rfl) ((hA34 _ _ _).1 A34_012345689)) rfl)
        have A34_01234569 : A34 4 #[true, true, true, true, true, true, true, false, false, true, false, false] ⟨233, envL [(12, (.ptr 0 0 0 0)), (106, (.tup [(.agg (eRDecl q33.1)), (.bool q33.2)]))], [wE1]⟩ := (hA34 _ _ _).2 (by
         refine AX.all [7, 8] rfl (by kernel_rfl) (by decide) ⟨?_, ?_, trivial⟩
         ·refine AXs.of (i := 7) rfl rfl (by rfl) ?_
          refine zq tb rfl (AO.done ⟨rfl, ?_⟩)
          exact AX.weaken (Wk.to (L := [(12, (.ptr 0 0 0 0)), (106, (.tup [(.agg (eRDecl q33.1)), (.bool q33.2)])), (113, (.agg (eRDecl q33.1)))]) ⟨.rfl, .rfl, .rfl, trivial⟩) (AX.lst (by kernel_rfl) ((hA34 _ _ _).1 A34_012345679)) rfl
         ·refine AXs.of (i := 8) rfl rfl (by rfl) ?_
          refine zq tb rfl (AO.done ⟨rfl, ?_⟩)
          exact AX.weaken (Wk.to (L := [(12, (.ptr 0 0 0 0)), (106, (.tup [(.agg (eRDecl q33.1)), (.bool q33.2)])), (114, (.bool q33.2))]) ⟨.rfl, .rfl, .rfl, trivial⟩) (AX.lst (by kernel_rfl) ((hA34 _ _ _).1 A34_012345689)) rfl)
        have A34_0123456 : A34 5 #[true, true, true, true, true, true, true, false, false, false, false, false] ⟨233, envL [(106, (.tup [(.agg (eRDecl q33.1)), (.bool q33.2)]))], []⟩ := (hA34 _ _ _).2 (by
         refine AX.all [7, 8, 9] rfl (by kernel_rfl) (by decide) ⟨?_, ?_, ?_, trivial⟩
         ·refine AXs.of (i := 7) rfl rfl (by rfl) ?_
          refine zq tb rfl (AO.done ⟨rfl, ?_⟩)
          exact AX.weaken (Wk.to (L := [(106, (.tup [(.agg (eRDecl q33.1)), (.bool q33.2)])), (113, (.agg (eRDecl q33.1)))]) ⟨.rfl, .rfl, trivial⟩) (AX.lst (by kernel_rfl) ((hA34 _ _ _).1 A34_01234567)) rfl
         ·refine AXs.of (i := 8) rfl rfl (by rfl) ?_
          refine zq tb rfl (AO.done ⟨rfl, ?_⟩)
          exact AX.weaken (Wk.to (L := [(106, (.tup [(.agg (eRDecl q33.1)), (.bool q33.2)])), (114, (.bool q33.2))]) ⟨.rfl, .rfl, trivial⟩) (AX.lst (by kernel_rfl) ((hA34 _ _ _).1 A34_01234568)) rfl
         ·refine AXs.of (i := 9) rfl rfl (by rfl) ?_
          refine ao_alloc (m := 0) (st' := [wE1]) go0 zi98 rfl rfl (AO.done ⟨rfl, ?_⟩)
          exact AX.weaken (Wk.to (L := [(12, (.ptr 0 0 0 0)), (106, (.tup [(.agg (eRDecl q33.1)), (.bool q33.2)]))]) ⟨.rfl, .rfl, trivial⟩) (AX.lst (by kernel_rfl) ((hA34 _ _ _).1 A34_01234569)) rfl)
        have A34_012345 : A34 6 #[true, true, true, true, true, true, false, false, false, false, false, false] ⟨233, envL [(112, (.tup [(.agg (eRDecl q33.1)), (.bool q33.2)]))], []⟩ := (hA34 _ _ _).2 (by
         refine AX.hoist 6 (v := (.tup [(.agg (eRDecl q33.1)), (.bool q33.2)])) rfl rfl (by kernel_rfl) (by kernel_rfl) (by kernel_rfl) rfl (hoist_mv rfl) ?_
         exact AX.weaken (Wk.to (L := [(106, (.tup [(.agg (eRDecl q33.1)), (.bool q33.2)]))]) ⟨.rfl, trivial⟩) (AX.lst (by kernel_rfl) ((hA34 _ _ _).1 A34_0123456)) rfl)
        have A34_0123459 : A34 5 #[true, true, true, true, true, true, false, false, false, true, false, false] ⟨233, envL [(12, (.ptr 0 0 0 0)), (112, (.tup [(.agg (eRDecl q33.1)), (.bool q33.2)]))], [wE1]⟩ := (hA34 _ _ _).2 (by
         refine AX.hoist 6 (v := (.tup [(.agg (eRDecl q33.1)), (.bool q33.2)])) rfl rfl (by kernel_rfl) (by kernel_rfl) (by kernel_rfl) rfl (hoist_mv rfl) ?_
         exact AX.weaken (Wk.to (L := [(12, (.ptr 0 0 0 0)), (106, (.tup [(.agg (eRDecl q33.1)), (.bool q33.2)]))]) ⟨.rfl, .rfl, trivial⟩) (AX.lst (by kernel_rfl) ((hA34 _ _ _).1 A34_01234569)) rfl)
        have A34_012349 : A34 6 #[true, true, true, true, true, false, false, false, false, true, false, false] ⟨233, envL (wE5 c32 p0), [wE1]⟩ := (hA34 _ _ _).2 (by
         refine AX.all [5] rfl (by kernel_rfl) (by decide) ⟨?_, trivial⟩
         ·refine AXs.of (i := 5) rfl rfl (by rfl) ?_
          refine zc (v' := (.tup [(.agg (eRDecl q33.1)), (.bool q33.2)])) hb137 (impl_arrowAt_ok gq33) rfl rfl rfl (AO.done ⟨rfl, ?_⟩)
          exact AX.weaken (Wk.to (L := [(12, (.ptr 0 0 0 0)), (112, (.tup [(.agg (eRDecl q33.1)), (.bool q33.2)]))]) ⟨.rfl, .rfl, trivial⟩) (AX.lst (by kernel_rfl) ((hA34 _ _ _).1 A34_0123459)) rfl)
        have A34_01234 : A34 7 #[true, true, true, true, true, false, false, false, false, false, false, false] ⟨233, envL (wE9 c32 p0), []⟩ := (hA34 _ _ _).2 (by
         refine AX.all [5, 9] rfl (by kernel_rfl) (by decide) ⟨?_, ?_, trivial⟩
         ·refine AXs.of (i := 5) rfl rfl (by rfl) ?_
          refine zc (v' := (.tup [(.agg (eRDecl q33.1)), (.bool q33.2)])) hb137 (impl_arrowAt_ok gq33) rfl rfl rfl (AO.done ⟨rfl, ?_⟩)
          exact AX.weaken (Wk.to (L := [(112, (.tup [(.agg (eRDecl q33.1)), (.bool q33.2)]))]) ⟨.rfl, trivial⟩) (AX.lst (by kernel_rfl) ((hA34 _ _ _).1 A34_012345)) rfl
         ·refine AXs.of (i := 9) rfl rfl (by rfl) ?_
          refine ao_alloc (m := 0) (st' := [wE1]) go0 zi98 rfl rfl (AO.done ⟨rfl, ?_⟩)
          exact AX.weaken (Wk.to (L := (wE5 c32 p0)) ⟨.rfl, .rfl, .rfl, trivial⟩) (AX.lst (by kernel_rfl) ((hA34 _ _ _).1 A34_012349)) rfl)
        have A34_01239 : A34 7 #[true, true, true, true, false, false, false, false, false, true, false, false] ⟨233, envL (wE2 p0), [wE1, (ro 0 3 1 eI l8)]⟩ := (hA34 _ _ _).2 (by
         refine AX.all [4] rfl (by kernel_rfl) (by decide) ⟨?_, trivial⟩
         ·refine AXs.of (i := 4) rfl rfl (by rfl) ?_
          refine zz (i64 c32) (aq_ldp ti3 rfl rfl (map_get gc32) rfl) rfl (AO.done ⟨rfl, ?_⟩)
          exact AX.weaken (by refine Wk.trans (Wk.permk (L := (wE5 c32 p0)) (st' := [wE1]) (st1 := [wE1]) [0] rfl .nil (by decide) rfl rfl (.raw rfl rfl .nil) ⟨.rfl, .rfl, .rfl, trivial⟩) ?_; exact Wk.to (L := (wE5 c32 p0)) ⟨.rfl, .rfl, .rfl, trivial⟩) (AX.lst (by kernel_rfl) ((hA34 _ _ _).1 A34_012349)) rfl)
        have A34_0123 : A34 8 #[true, true, true, true, false, false, false, false, false, false, false, false] ⟨233, envL (wE8 p0), [(ro 0 3 1 eI l8)]⟩ := (hA34 _ _ _).2 (by
         refine AX.all [4, 9] rfl (by kernel_rfl) (by decide) ⟨?_, ?_, trivial⟩
         ·refine AXs.of (i := 4) rfl rfl (by rfl) ?_
          refine zz (i64 c32) (aq_ldp ti3 rfl rfl (map_get gc32) rfl) rfl (AO.done ⟨rfl, ?_⟩)
          exact AX.weaken (by refine Wk.trans (Wk.permk (L := (wE9 c32 p0)) (st' := []) (st1 := []) [] rfl .nil (by decide) rfl rfl .nil ⟨.rfl, .rfl, trivial⟩) ?_; exact Wk.to (L := (wE9 c32 p0)) ⟨.rfl, .rfl, trivial⟩) (AX.lst (by kernel_rfl) ((hA34 _ _ _).1 A34_01234)) rfl
         ·refine AXs.of (i := 9) rfl rfl (by rfl) ?_
          refine ao_alloc (m := 1) (st' := [(ro 0 3 1 eI l8), wE1]) go0 zi98 rfl rfl (AO.done ⟨rfl, ?_⟩)
          exact AX.weaken (by refine Wk.trans (Wk.permk (L := (wE2 p0)) (st' := [wE1, (ro 0 3 1 eI l8)]) (st1 := [wE1, (ro 0 3 1 eI l8)]) [1, 0] rfl .nil (by decide) rfl rfl (.raw rfl rfl (.pure (pure_map fun _ => rfl) .nil)) ⟨.rfl, .rfl, .rfl, trivial⟩) ?_; exact Wk.to (L := (wE2 p0)) ⟨.rfl, .rfl, .rfl, trivial⟩) (AX.lst (by kernel_rfl) ((hA34 _ _ _).1 A34_01239)) rfl)
        have A34_0129 : A34 8 #[true, true, true, false, false, false, false, false, false, true, false, false] ⟨233, envL [(12, (.ptr 0 0 0 0)), (108, (ls eRDecl p0.decls)), (109, (ow 1 0 l8))], [wE1, (ro 0 3 1 eI l8)]⟩ := (hA34 _ _ _).2 (by
         refine AX.all [3] rfl (by kernel_rfl) (by decide) ⟨?_, trivial⟩
         ·refine AXs.of (i := 3) rfl rfl (by rfl) ?_
          refine zz (.ptr 1 0 (Int.toNat 0) 0) (aq_ixo ei37 rfl rfl rfl rfl gc32) rfl (AO.done ⟨rfl, ?_⟩)
          exact AX.weaken (Wk.to (L := (wE2 p0)) ⟨.rfl, .rfl, .rfl, trivial⟩) (AX.lst (by kernel_rfl) ((hA34 _ _ _).1 A34_01239)) rfl)
        have A34_012 : A34 9 #[true, true, true, false, false, false, false, false, false, false, false, false] ⟨233, envL [(108, (ls eRDecl p0.decls)), (109, (ow 0 0 l8))], [(ro 0 3 1 eI l8)]⟩ := (hA34 _ _ _).2 (by
         refine AX.all [3, 9] rfl (by kernel_rfl) (by decide) ⟨?_, ?_, trivial⟩
         ·refine AXs.of (i := 3) rfl rfl (by rfl) ?_
          refine zz (.ptr 0 0 (Int.toNat 0) 0) (aq_ixo ei37 rfl rfl rfl rfl gc32) rfl (AO.done ⟨rfl, ?_⟩)
          exact AX.weaken (Wk.to (L := (wE8 p0)) ⟨.rfl, .rfl, trivial⟩) (AX.lst (by kernel_rfl) ((hA34 _ _ _).1 A34_0123)) rfl
         ·refine AXs.of (i := 9) rfl rfl (by rfl) ?_
          refine ao_alloc (m := 1) (st' := [(ro 0 3 1 eI l8), wE1]) go0 zi98 rfl rfl (AO.done ⟨rfl, ?_⟩)
          exact AX.weaken (by refine Wk.trans (Wk.permk (L := [(12, (.ptr 0 0 0 0)), (108, (ls eRDecl p0.decls)), (109, (ow 1 0 l8))]) (st' := [wE1, (ro 0 3 1 eI l8)]) (st1 := [wE1, (ro 0 3 1 eI l8)]) [1, 0] rfl .nil (by decide) rfl rfl (.raw rfl rfl (.pure (pure_map fun _ => rfl) .nil)) ⟨.rfl, .rfl, .rfl, trivial⟩) ?_; exact Wk.to (L := [(12, (.ptr 0 0 0 0)), (108, (ls eRDecl p0.decls)), (109, (ow 1 0 l8))]) ⟨.rfl, .rfl, .rfl, trivial⟩) (AX.lst (by kernel_rfl) ((hA34 _ _ _).1 A34_0129)) rfl)
        have A34_02349 : A34 7 #[true, false, true, true, true, false, false, false, false, true, false, false] ⟨233, envL (wE4 c32), [wE1, ⟨0, 49, 2, [(eRSignatures p0)]⟩]⟩ := (hA34 _ _ _).2 (by
         refine AX.all [1] rfl (by kernel_rfl) (by decide) ⟨?_, trivial⟩
         ·refine AXs.of (i := 1) rfl rfl (by rfl) ?_
          refine zq tb rfl (AO.done ⟨rfl, ?_⟩)
          exact AX.weaken (by refine Wk.trans (Wk.permk (L := (wE5 c32 p0)) (st' := [wE1]) (st1 := [wE1]) [0] rfl .nil (by decide) rfl rfl (.raw rfl rfl .nil) ⟨.rfl, .rfl, .rfl, trivial⟩) ?_; exact Wk.to (L := (wE5 c32 p0)) ⟨.rfl, .rfl, .rfl, trivial⟩) (AX.lst (by kernel_rfl) ((hA34 _ _ _).1 A34_012349)) rfl)
        have A34_0234 : A34 8 #[true, false, true, true, true, false, false, false, false, false, false, false] ⟨233, envL [(107, (.ptr 0 0 0 0)), (111, (i64 c32))], [⟨0, 49, 2, [(eRSignatures p0)]⟩]⟩ := (hA34 _ _ _).2 (by
         refine AX.all [1, 9] rfl (by kernel_rfl) (by decide) ⟨?_, ?_, trivial⟩
         ·refine AXs.of (i := 1) rfl rfl (by rfl) ?_
          refine zq tb rfl (AO.done ⟨rfl, ?_⟩)
          exact AX.weaken (by refine Wk.trans (Wk.permk (L := (wE9 c32 p0)) (st' := []) (st1 := []) [] rfl .nil (by decide) rfl rfl .nil ⟨.rfl, .rfl, trivial⟩) ?_; exact Wk.to (L := (wE9 c32 p0)) ⟨.rfl, .rfl, trivial⟩) (AX.lst (by kernel_rfl) ((hA34 _ _ _).1 A34_01234)) rfl
         ·refine AXs.of (i := 9) rfl rfl (by rfl) ?_
          refine ao_alloc (m := 1) (st' := [⟨0, 49, 2, [(eRSignatures p0)]⟩, wE1]) go0 zi98 rfl rfl (AO.done ⟨rfl, ?_⟩)
          exact AX.weaken (by refine Wk.trans (Wk.permk (L := (wE4 c32)) (st' := [wE1, ⟨0, 49, 2, [(eRSignatures p0)]⟩]) (st1 := [wE1, ⟨0, 49, 2, [(eRSignatures p0)]⟩]) [1, 0] rfl .nil (by decide) rfl rfl (.raw rfl rfl (.raw rfl rfl .nil)) ⟨.rfl, .rfl, .rfl, trivial⟩) ?_; exact Wk.to (L := (wE4 c32)) ⟨.rfl, .rfl, .rfl, trivial⟩) (AX.lst (by kernel_rfl) ((hA34 _ _ _).1 A34_02349)) rfl)
        have A34_0239 : A34 8 #[true, false, true, true, false, false, false, false, false, true, false, false] ⟨233, envL wE3, [wE1, ⟨0, 49, 2, [(eRSignatures p0)]⟩, (ro 0 3 1 eI l8)]⟩ := (hA34 _ _ _).2 (by
         refine AX.all [1, 4] rfl (by kernel_rfl) (by decide) ⟨?_, ?_, trivial⟩
         ·refine AXs.of (i := 1) rfl rfl (by rfl) ?_
          refine zq tb rfl (AO.done ⟨rfl, ?_⟩)
          exact AX.weaken (by refine Wk.trans (Wk.permk (L := (wE2 p0)) (st' := [wE1, (ro 0 3 1 eI l8)]) (st1 := [wE1, (ro 0 3 1 eI l8)]) [0, 2] rfl .nil (by decide) rfl rfl (.raw rfl rfl (.pure (pure_map fun _ => rfl) .nil)) ⟨.rfl, .rfl, .rfl, trivial⟩) ?_; exact Wk.to (L := (wE2 p0)) ⟨.rfl, .rfl, .rfl, trivial⟩) (AX.lst (by kernel_rfl) ((hA34 _ _ _).1 A34_01239)) rfl
         ·refine AXs.of (i := 4) rfl rfl (by rfl) ?_
          refine zz (i64 c32) (aq_ldp ti3 rfl rfl (map_get gc32) rfl) rfl (AO.done ⟨rfl, ?_⟩)
          exact AX.weaken (by refine Wk.trans (Wk.permk (L := (wE4 c32)) (st' := [wE1, ⟨0, 49, 2, [(eRSignatures p0)]⟩]) (st1 := [wE1, ⟨0, 49, 2, [(eRSignatures p0)]⟩]) [0, 1] rfl .nil (by decide) rfl rfl (.raw rfl rfl (.raw rfl rfl .nil)) ⟨.rfl, .rfl, .rfl, trivial⟩) ?_; exact Wk.to (L := (wE4 c32)) ⟨.rfl, .rfl, .rfl, trivial⟩) (AX.lst (by kernel_rfl) ((hA34 _ _ _).1 A34_02349)) rfl)
        have A34_023 : A34 9 #[true, false, true, true, false, false, false, false, false, false, false, false] ⟨233, envL [(107, (.ptr 0 0 0 0)), (110, (.ptr 1 0 (Int.toNat 0) 0))], [⟨0, 49, 2, [(eRSignatures p0)]⟩, (ro 0 3 1 eI l8)]⟩ := (hA34 _ _ _).2 (by
         refine AX.all [1, 4, 9] rfl (by kernel_rfl) (by decide) ⟨?_, ?_, ?_, trivial⟩
         ·refine AXs.of (i := 1) rfl rfl (by rfl) ?_
          refine zq tb rfl (AO.done ⟨rfl, ?_⟩)
          exact AX.weaken (by refine Wk.trans (Wk.permk (L := (wE8 p0)) (st' := [(ro 0 3 1 eI l8)]) (st1 := [(ro 0 3 1 eI l8)]) [1] rfl .nil (by decide) rfl rfl (.pure (pure_map fun _ => rfl) .nil) ⟨.rfl, .rfl, trivial⟩) ?_; exact Wk.to (L := (wE8 p0)) ⟨.rfl, .rfl, trivial⟩) (AX.lst (by kernel_rfl) ((hA34 _ _ _).1 A34_0123)) rfl
         ·refine AXs.of (i := 4) rfl rfl (by rfl) ?_
          refine zz (i64 c32) (aq_ldp ti3 rfl rfl (map_get gc32) rfl) rfl (AO.done ⟨rfl, ?_⟩)
          exact AX.weaken (by refine Wk.trans (Wk.permk (L := [(107, (.ptr 0 0 0 0)), (111, (i64 c32))]) (st' := [⟨0, 49, 2, [(eRSignatures p0)]⟩]) (st1 := [⟨0, 49, 2, [(eRSignatures p0)]⟩]) [0] rfl .nil (by decide) rfl rfl (.raw rfl rfl .nil) ⟨.rfl, .rfl, trivial⟩) ?_; exact Wk.to (L := [(107, (.ptr 0 0 0 0)), (111, (i64 c32))]) ⟨.rfl, .rfl, trivial⟩) (AX.lst (by kernel_rfl) ((hA34 _ _ _).1 A34_0234)) rfl
         ·refine AXs.of (i := 9) rfl rfl (by rfl) ?_
          refine ao_alloc (m := 2) (st' := [⟨0, 49, 2, [(eRSignatures p0)]⟩, (ro 0 3 1 eI l8), wE1]) go0 zi98 rfl rfl (AO.done ⟨rfl, ?_⟩)
          exact AX.weaken (by refine Wk.trans (Wk.permk (L := wE3) (st' := [wE1, ⟨0, 49, 2, [(eRSignatures p0)]⟩, (ro 0 3 1 eI l8)]) (st1 := [wE1, ⟨0, 49, 2, [(eRSignatures p0)]⟩, (ro 0 3 1 eI l8)]) [2, 0, 1] rfl .nil (by decide) rfl rfl (.raw rfl rfl (.raw rfl rfl (.pure (pure_map fun _ => rfl) .nil))) ⟨.rfl, .rfl, .rfl, trivial⟩) ?_; exact Wk.to (L := wE3) ⟨.rfl, .rfl, .rfl, trivial⟩) (AX.lst (by kernel_rfl) ((hA34 _ _ _).1 A34_0239)) rfl)
        have A34_029 : A34 9 #[true, false, true, false, false, false, false, false, false, true, false, false] ⟨233, envL [(12, (.ptr 0 0 0 0)), (107, (.ptr 1 0 0 0)), (109, (ow 2 0 l8))], [wE1, ⟨0, 49, 2, [(eRSignatures p0)]⟩, (ro 0 3 1 eI l8)]⟩ := (hA34 _ _ _).2 (by
         refine AX.all [1, 3] rfl (by kernel_rfl) (by decide) ⟨?_, ?_, trivial⟩
         ·refine AXs.of (i := 1) rfl rfl (by rfl) ?_
          refine zq tb rfl (AO.done ⟨rfl, ?_⟩)
          exact AX.weaken (by refine Wk.trans (Wk.permk (L := [(12, (.ptr 0 0 0 0)), (108, (ls eRDecl p0.decls)), (109, (ow 1 0 l8))]) (st' := [wE1, (ro 0 3 1 eI l8)]) (st1 := [wE1, (ro 0 3 1 eI l8)]) [0, 2] rfl .nil (by decide) rfl rfl (.raw rfl rfl (.pure (pure_map fun _ => rfl) .nil)) ⟨.rfl, .rfl, .rfl, trivial⟩) ?_; exact Wk.to (L := [(12, (.ptr 0 0 0 0)), (108, (ls eRDecl p0.decls)), (109, (ow 1 0 l8))]) ⟨.rfl, .rfl, .rfl, trivial⟩) (AX.lst (by kernel_rfl) ((hA34 _ _ _).1 A34_0129)) rfl
         ·refine AXs.of (i := 3) rfl rfl (by rfl) ?_
          refine zz (.ptr 2 0 (Int.toNat 0) 0) (aq_ixo ei37 rfl rfl rfl rfl gc32) rfl (AO.done ⟨rfl, ?_⟩)
          exact AX.weaken (Wk.to (L := wE3) ⟨.rfl, .rfl, .rfl, trivial⟩) (AX.lst (by kernel_rfl) ((hA34 _ _ _).1 A34_0239)) rfl)
        have A34_02 : A34 10 #[true, false, true, false, false, false, false, false, false, false, false, false] ⟨233, envL [(107, (.ptr 0 0 0 0)), (109, (ow 1 0 l8))], [⟨0, 49, 2, [(eRSignatures p0)]⟩, (ro 0 3 1 eI l8)]⟩ := (hA34 _ _ _).2 (by
         refine AX.all [1, 3, 9] rfl (by kernel_rfl) (by decide) ⟨?_, ?_, ?_, trivial⟩
         ·refine AXs.of (i := 1) rfl rfl (by rfl) ?_
          refine zq tb rfl (AO.done ⟨rfl, ?_⟩)
          exact AX.weaken (by refine Wk.trans (Wk.permk (L := [(108, (ls eRDecl p0.decls)), (109, (ow 0 0 l8))]) (st' := [(ro 0 3 1 eI l8)]) (st1 := [(ro 0 3 1 eI l8)]) [1] rfl .nil (by decide) rfl rfl (.pure (pure_map fun _ => rfl) .nil) ⟨.rfl, .rfl, trivial⟩) ?_; exact Wk.to (L := [(108, (ls eRDecl p0.decls)), (109, (ow 0 0 l8))]) ⟨.rfl, .rfl, trivial⟩) (AX.lst (by kernel_rfl) ((hA34 _ _ _).1 A34_012)) rfl
         ·refine AXs.of (i := 3) rfl rfl (by rfl) ?_
          refine zz (.ptr 1 0 (Int.toNat 0) 0) (aq_ixo ei37 rfl rfl rfl rfl gc32) rfl (AO.done ⟨rfl, ?_⟩)
          exact AX.weaken (Wk.to (L := [(107, (.ptr 0 0 0 0)), (110, (.ptr 1 0 (Int.toNat 0) 0))]) ⟨.rfl, .rfl, trivial⟩) (AX.lst (by kernel_rfl) ((hA34 _ _ _).1 A34_023)) rfl
         ·refine AXs.of (i := 9) rfl rfl (by rfl) ?_
          refine ao_alloc (m := 2) (st' := [⟨0, 49, 2, [(eRSignatures p0)]⟩, (ro 0 3 1 eI l8), wE1]) go0 zi98 rfl rfl (AO.done ⟨rfl, ?_⟩)
          exact AX.weaken (by refine Wk.trans (Wk.permk (L := [(12, (.ptr 0 0 0 0)), (107, (.ptr 1 0 0 0)), (109, (ow 2 0 l8))]) (st' := [wE1, ⟨0, 49, 2, [(eRSignatures p0)]⟩, (ro 0 3 1 eI l8)]) (st1 := [wE1, ⟨0, 49, 2, [(eRSignatures p0)]⟩, (ro 0 3 1 eI l8)]) [2, 0, 1] rfl .nil (by decide) rfl rfl (.raw rfl rfl (.raw rfl rfl (.pure (pure_map fun _ => rfl) .nil))) ⟨.rfl, .rfl, .rfl, trivial⟩) ?_; exact Wk.to (L := [(12, (.ptr 0 0 0 0)), (107, (.ptr 1 0 0 0)), (109, (ow 2 0 l8))]) ⟨.rfl, .rfl, .rfl, trivial⟩) (AX.lst (by kernel_rfl) ((hA34 _ _ _).1 A34_029)) rfl)
        have A34_2349 : A34 8 #[false, false, true, true, true, false, false, false, false, true, false, false] ⟨233, envL (wE10 c32), [⟨0, 49, 2, [(eRSignatures p0)]⟩, wE1]⟩ := (hA34 _ _ _).2 (by
         refine AX.all [0] rfl (by kernel_rfl) (by decide) ⟨?_, trivial⟩
         ·refine AXs.of (i := 0) rfl rfl (by rfl) ?_
          refine zq tb rfl (AO.done ⟨rfl, ?_⟩)
          exact AX.weaken (by refine Wk.trans (Wk.permk (L := (wE4 c32)) (st' := [wE1, ⟨0, 49, 2, [(eRSignatures p0)]⟩]) (st1 := [wE1, ⟨0, 49, 2, [(eRSignatures p0)]⟩]) [1, 0] rfl .nil (by decide) rfl rfl (.raw rfl rfl (.raw rfl rfl .nil)) ⟨.rfl, .rfl, .rfl, trivial⟩) ?_; exact Wk.to (L := (wE4 c32)) ⟨.rfl, .rfl, .rfl, trivial⟩) (AX.lst (by kernel_rfl) ((hA34 _ _ _).1 A34_02349)) rfl)
        have A34_234 : A34 9 #[false, false, true, true, true, false, false, false, false, false, false, false] ⟨233, envL [(3, (.ptr 0 0 0 0)), (111, (i64 c32))], [⟨0, 49, 2, [(eRSignatures p0)]⟩]⟩ := (hA34 _ _ _).2 (by
         refine AX.all [0, 9] rfl (by kernel_rfl) (by decide) ⟨?_, ?_, trivial⟩
         ·refine AXs.of (i := 0) rfl rfl (by rfl) ?_
          refine zq tb rfl (AO.done ⟨rfl, ?_⟩)
          exact AX.weaken (Wk.to (L := [(107, (.ptr 0 0 0 0)), (111, (i64 c32))]) ⟨.rfl, .rfl, trivial⟩) (AX.lst (by kernel_rfl) ((hA34 _ _ _).1 A34_0234)) rfl
         ·refine AXs.of (i := 9) rfl rfl (by rfl) ?_
          refine ao_alloc (m := 1) (st' := [⟨0, 49, 2, [(eRSignatures p0)]⟩, wE1]) go0 zi98 rfl rfl (AO.done ⟨rfl, ?_⟩)
          exact AX.weaken (Wk.to (L := (wE10 c32)) ⟨.rfl, .rfl, .rfl, trivial⟩) (AX.lst (by kernel_rfl) ((hA34 _ _ _).1 A34_2349)) rfl)
        have A34_239 : A34 9 #[false, false, true, true, false, false, false, false, false, true, false, false] ⟨233, envL wE7, [⟨0, 49, 2, [(eRSignatures p0)]⟩, wE1, (ro 0 3 1 eI l8)]⟩ := (hA34 _ _ _).2 (by
         refine AX.all [0, 4] rfl (by kernel_rfl) (by decide) ⟨?_, ?_, trivial⟩
         ·refine AXs.of (i := 0) rfl rfl (by rfl) ?_
          refine zq tb rfl (AO.done ⟨rfl, ?_⟩)
          exact AX.weaken (by refine Wk.trans (Wk.permk (L := wE3) (st' := [wE1, ⟨0, 49, 2, [(eRSignatures p0)]⟩, (ro 0 3 1 eI l8)]) (st1 := [wE1, ⟨0, 49, 2, [(eRSignatures p0)]⟩, (ro 0 3 1 eI l8)]) [1, 0, 2] rfl .nil (by decide) rfl rfl (.raw rfl rfl (.raw rfl rfl (.pure (pure_map fun _ => rfl) .nil))) ⟨.rfl, .rfl, .rfl, trivial⟩) ?_; exact Wk.to (L := wE3) ⟨.rfl, .rfl, .rfl, trivial⟩) (AX.lst (by kernel_rfl) ((hA34 _ _ _).1 A34_0239)) rfl
         ·refine AXs.of (i := 4) rfl rfl (by rfl) ?_
          refine zz (i64 c32) (aq_ldp ti3 rfl rfl (map_get gc32) rfl) rfl (AO.done ⟨rfl, ?_⟩)
          exact AX.weaken (by refine Wk.trans (Wk.permk (L := (wE10 c32)) (st' := [⟨0, 49, 2, [(eRSignatures p0)]⟩, wE1]) (st1 := [⟨0, 49, 2, [(eRSignatures p0)]⟩, wE1]) [0, 1] rfl .nil (by decide) rfl rfl (.raw rfl rfl (.raw rfl rfl .nil)) ⟨.rfl, .rfl, .rfl, trivial⟩) ?_; exact Wk.to (L := (wE10 c32)) ⟨.rfl, .rfl, .rfl, trivial⟩) (AX.lst (by kernel_rfl) ((hA34 _ _ _).1 A34_2349)) rfl)
        have A34_23 : A34 10 #[false, false, true, true, false, false, false, false, false, false, false, false] ⟨233, envL [(3, (.ptr 0 0 0 0)), (110, (.ptr 1 0 (Int.toNat 0) 0))], [⟨0, 49, 2, [(eRSignatures p0)]⟩, (ro 0 3 1 eI l8)]⟩ := (hA34 _ _ _).2 (by
         refine AX.all [0, 4, 9] rfl (by kernel_rfl) (by decide) ⟨?_, ?_, ?_, trivial⟩
         ·refine AXs.of (i := 0) rfl rfl (by rfl) ?_
          refine zq tb rfl (AO.done ⟨rfl, ?_⟩)
          exact AX.weaken (Wk.to (L := [(107, (.ptr 0 0 0 0)), (110, (.ptr 1 0 (Int.toNat 0) 0))]) ⟨.rfl, .rfl, trivial⟩) (AX.lst (by kernel_rfl) ((hA34 _ _ _).1 A34_023)) rfl
         ·refine AXs.of (i := 4) rfl rfl (by rfl) ?_
          refine zz (i64 c32) (aq_ldp ti3 rfl rfl (map_get gc32) rfl) rfl (AO.done ⟨rfl, ?_⟩)
          exact AX.weaken (by refine Wk.trans (Wk.permk (L := [(3, (.ptr 0 0 0 0)), (111, (i64 c32))]) (st' := [⟨0, 49, 2, [(eRSignatures p0)]⟩]) (st1 := [⟨0, 49, 2, [(eRSignatures p0)]⟩]) [0] rfl .nil (by decide) rfl rfl (.raw rfl rfl .nil) ⟨.rfl, .rfl, trivial⟩) ?_; exact Wk.to (L := [(3, (.ptr 0 0 0 0)), (111, (i64 c32))]) ⟨.rfl, .rfl, trivial⟩) (AX.lst (by kernel_rfl) ((hA34 _ _ _).1 A34_234)) rfl
         ·refine AXs.of (i := 9) rfl rfl (by rfl) ?_
          refine ao_alloc (m := 2) (st' := [⟨0, 49, 2, [(eRSignatures p0)]⟩, (ro 0 3 1 eI l8), wE1]) go0 zi98 rfl rfl (AO.done ⟨rfl, ?_⟩)
          exact AX.weaken (by refine Wk.trans (Wk.permk (L := wE7) (st' := [⟨0, 49, 2, [(eRSignatures p0)]⟩, wE1, (ro 0 3 1 eI l8)]) (st1 := [⟨0, 49, 2, [(eRSignatures p0)]⟩, wE1, (ro 0 3 1 eI l8)]) [0, 2, 1] rfl .nil (by decide) rfl rfl (.raw rfl rfl (.raw rfl rfl (.pure (pure_map fun _ => rfl) .nil))) ⟨.rfl, .rfl, .rfl, trivial⟩) ?_; exact Wk.to (L := wE7) ⟨.rfl, .rfl, .rfl, trivial⟩) (AX.lst (by kernel_rfl) ((hA34 _ _ _).1 A34_239)) rfl)
        have A34_29 : A34 10 #[false, false, true, false, false, false, false, false, false, true, false, false] ⟨233, envL [(3, (.ptr 0 0 0 0)), (12, (.ptr 1 0 0 0)), (109, (ow 2 0 l8))], [⟨0, 49, 2, [(eRSignatures p0)]⟩, wE1, (ro 0 3 1 eI l8)]⟩ := (hA34 _ _ _).2 (by
         refine AX.all [0, 3] rfl (by kernel_rfl) (by decide) ⟨?_, ?_, trivial⟩
         ·refine AXs.of (i := 0) rfl rfl (by rfl) ?_
          refine zq tb rfl (AO.done ⟨rfl, ?_⟩)
          exact AX.weaken (by refine Wk.trans (Wk.permk (L := [(12, (.ptr 0 0 0 0)), (107, (.ptr 1 0 0 0)), (109, (ow 2 0 l8))]) (st' := [wE1, ⟨0, 49, 2, [(eRSignatures p0)]⟩, (ro 0 3 1 eI l8)]) (st1 := [wE1, ⟨0, 49, 2, [(eRSignatures p0)]⟩, (ro 0 3 1 eI l8)]) [1, 0, 2] rfl .nil (by decide) rfl rfl (.raw rfl rfl (.raw rfl rfl (.pure (pure_map fun _ => rfl) .nil))) ⟨.rfl, .rfl, .rfl, trivial⟩) ?_; exact Wk.to (L := [(12, (.ptr 0 0 0 0)), (107, (.ptr 1 0 0 0)), (109, (ow 2 0 l8))]) ⟨.rfl, .rfl, .rfl, trivial⟩) (AX.lst (by kernel_rfl) ((hA34 _ _ _).1 A34_029)) rfl
         ·refine AXs.of (i := 3) rfl rfl (by rfl) ?_
          refine zz (.ptr 2 0 (Int.toNat 0) 0) (aq_ixo ei37 rfl rfl rfl rfl gc32) rfl (AO.done ⟨rfl, ?_⟩)
          exact AX.weaken (Wk.to (L := wE7) ⟨.rfl, .rfl, .rfl, trivial⟩) (AX.lst (by kernel_rfl) ((hA34 _ _ _).1 A34_239)) rfl)
        have A34_2 : A34 11 #[false, false, true, false, false, false, false, false, false, false, false, false] ⟨233, envL [(3, (.ptr 0 0 0 0)), (109, (ow 1 0 l8))], [⟨0, 49, 2, [(eRSignatures p0)]⟩, (ro 0 3 1 eI l8)]⟩ := (hA34 _ _ _).2 (by
         refine AX.all [0, 3, 9] rfl (by kernel_rfl) (by decide) ⟨?_, ?_, ?_, trivial⟩
         ·refine AXs.of (i := 0) rfl rfl (by rfl) ?_
          refine zq tb rfl (AO.done ⟨rfl, ?_⟩)
          exact AX.weaken (Wk.to (L := [(107, (.ptr 0 0 0 0)), (109, (ow 1 0 l8))]) ⟨.rfl, .rfl, trivial⟩) (AX.lst (by kernel_rfl) ((hA34 _ _ _).1 A34_02)) rfl
         ·refine AXs.of (i := 3) rfl rfl (by rfl) ?_
          refine zz (.ptr 1 0 (Int.toNat 0) 0) (aq_ixo ei37 rfl rfl rfl rfl gc32) rfl (AO.done ⟨rfl, ?_⟩)
          exact AX.weaken (Wk.to (L := [(3, (.ptr 0 0 0 0)), (110, (.ptr 1 0 (Int.toNat 0) 0))]) ⟨.rfl, .rfl, trivial⟩) (AX.lst (by kernel_rfl) ((hA34 _ _ _).1 A34_23)) rfl
         ·refine AXs.of (i := 9) rfl rfl (by rfl) ?_
          refine ao_alloc (m := 2) (st' := [⟨0, 49, 2, [(eRSignatures p0)]⟩, (ro 0 3 1 eI l8), wE1]) go0 zi98 rfl rfl (AO.done ⟨rfl, ?_⟩)
          exact AX.weaken (by refine Wk.trans (Wk.permk (L := [(3, (.ptr 0 0 0 0)), (12, (.ptr 1 0 0 0)), (109, (ow 2 0 l8))]) (st' := [⟨0, 49, 2, [(eRSignatures p0)]⟩, wE1, (ro 0 3 1 eI l8)]) (st1 := [⟨0, 49, 2, [(eRSignatures p0)]⟩, wE1, (ro 0 3 1 eI l8)]) [0, 2, 1] rfl .nil (by decide) rfl rfl (.raw rfl rfl (.raw rfl rfl (.pure (pure_map fun _ => rfl) .nil))) ⟨.rfl, .rfl, .rfl, trivial⟩) ?_; exact Wk.to (L := [(3, (.ptr 0 0 0 0)), (12, (.ptr 1 0 0 0)), (109, (ow 2 0 l8))]) ⟨.rfl, .rfl, .rfl, trivial⟩) (AX.lst (by kernel_rfl) ((hA34 _ _ _).1 A34_29)) rfl)
        have A34_e : A34 12 #[false, false, false, false, false, false, false, false, false, false, false, false] ⟨233, envL [(3, (.ptr 0 0 0 0)), (8, (ow 1 0 l8))], [⟨0, 49, 2, [(eRSignatures p0)]⟩, (ro 0 3 1 eI l8)]⟩ := (hA34 _ _ _).2 (by
         refine AX.hoist 2 (v := (ow 1 0 l8)) rfl rfl (by kernel_rfl) (by kernel_rfl) (by kernel_rfl) rfl (hoist_mv rfl) ?_
         exact AX.weaken (Wk.to (L := [(3, (.ptr 0 0 0 0)), (109, (ow 1 0 l8))]) ⟨.rfl, .rfl, trivial⟩) (AX.lst (by kernel_rfl) ((hA34 _ _ _).1 A34_2)) rfl)
        refine (hA34 _ _ _).2 ?_
        exact AX.weaken (Wk.to (L := [(3, (.ptr 0 0 0 0)), (8, (ow 1 0 l8))]) ⟨.rfl, .rfl, trivial⟩) (AX.lst (by kernel_rfl) ((hA34 _ _ _).1 A34_e)) rfl
       ·intro b30 h1
        exact AW.skip (M25 ok21 (Sh.some_eq h1).symm _ (Wk.d0 _ rfl))
      refine AW.regionO rfl (zm tb 2 rfl ?_)
      rcases Sh.ite_some h2 with ⟨b35, h2⟩ | ⟨b35, h2⟩
      ·refine zg tb b35 rfl ?_
       iterate 3 refine zg tb b35 rfl ?_
       rcases Sh.ite_some h2 with ⟨b36, h2⟩ | ⟨b36, h2⟩
       ·refine zs b36 rfl (zs b36 rfl (zs b36 rfl (ao_q (v := (.bool true)) (go1 rfl rfl b35) rfl (aq_pkt rfl b36 rfl) (zt b35 rfl ?_))))
        exact AO.done (M29 true (Sh.some_eq h2).symm _ (Wk.permk (L := [(3, (.ptr 0 0 0 0)), (8, (ow 1 0 l8)), (11, (.bool ok21)), (105, (.bool true))]) (st' := [⟨0, 49, 2, [(eRSignatures p0)]⟩, (ro 0 3 1 eI l8)]) (st1 := [⟨0, 49, 2, [(eRSignatures p0)]⟩, (ro 0 3 1 eI l8)]) [0, 2] rfl .nil (by decide) rfl rfl (.raw rfl rfl (.pure (pure_map fun _ => rfl) .nil)) ⟨.rfl, .rfl, .rfl, .rfl, trivial⟩))
       ·refine zg tb b36 rfl (zg tb b36 rfl (zg tb b36 rfl (ao_q (v := (.bool (decide (p2.op = 17)))) (go1 rfl rfl b35) rfl (aq_pkf rfl b36 rfl) (zt b35 rfl ?_))))
        exact AO.done (M29 (decide (p2.op = 17)) (Sh.some_eq h2).symm _ (Wk.permk (L := [(3, (.ptr 0 0 0 0)), (8, (ow 1 0 l8)), (11, (.bool ok21)), (105, (.bool (decide (p2.op = 17))))]) (st' := [⟨0, 49, 2, [(eRSignatures p0)]⟩, (ro 0 3 1 eI l8)]) (st1 := [⟨0, 49, 2, [(eRSignatures p0)]⟩, (ro 0 3 1 eI l8)]) [0, 2] rfl .nil (by decide) rfl rfl (.raw rfl rfl (.pure (pure_map fun _ => rfl) .nil)) ⟨.rfl, .rfl, .rfl, .rfl, trivial⟩))
      ·refine zs b35 rfl ?_
       iterate 3 refine zs b35 rfl ?_
       iterate 3 refine zn rfl ?_
       refine zs b35 rfl (zf b35 rfl ?_)
       exact AO.done (M29 false (Sh.some_eq h2).symm _ (Wk.permk (L := [(3, (.ptr 0 0 0 0)), (8, (ow 1 0 l8)), (11, (.bool ok21)), (105, (.bool false))]) (st' := [⟨0, 49, 2, [(eRSignatures p0)]⟩, (ro 0 3 1 eI l8)]) (st1 := [⟨0, 49, 2, [(eRSignatures p0)]⟩, (ro 0 3 1 eI l8)]) [0, 2] rfl .nil (by decide) rfl rfl (.raw rfl rfl (.pure (pure_map fun _ => rfl) .nil)) ⟨.rfl, .rfl, .rfl, .rfl, trivial⟩))
     refine AW.regionO rfl (zq tb rfl (zz (i64 (Sh.len l8)) (aq_leno sl37 rfl rfl rfl) rfl (zm tb 2 rfl ?_)))
     rcases Sh.ite_some h1 with ⟨b37, h1⟩ | ⟨b37, h1⟩
     ·refine zg tb b37 rfl (bs h1 fun c38 gc38 h1 => ao_q (v := (.ptr 2 0 (Int.toNat 0) 0)) (go1 rfl rfl b37) rfl (aq_ixo ei37 rfl rfl rfl rfl gc38) (ao_q (v := (i64 c38)) (go1 rfl rfl b37) rfl (aq_ldp ti3 rfl rfl (map_get gc38) rfl) (zg tb b37 rfl (zt b37 rfl (zq tb rfl ?_)))))
      rcases Sh.ite_some h1 with ⟨b39, h1⟩ | ⟨b39, h1⟩
      ·refine zg tb b39 rfl (zg tb b39 rfl (zg tb b39 rfl (zt b39 rfl (zq tb rfl ?_))))
       rcases Sh.ite_some h1 with ⟨b40, h1⟩ | ⟨b40, h1⟩
       ·exact zg tb b40 rfl (zg tb b40 rfl (ao_q (v := (i64 (Sh.len p2.kids))) (go1 rfl rfl b40) rfl (aq_lens sl69 rfl) (zg tb b40 rfl (zt b40 rfl (zq tb rfl (AO.done (M22 (decide ((Sh.len p2.kids) = 0)) (Sh.some_eq h1).symm _ (Wk.tr rfl))))))))
       ·refine zs b40 rfl ?_
        iterate 3 refine zs b40 rfl ?_
        exact zf b40 rfl (zq tb rfl (AO.done (M22 false (Sh.some_eq h1).symm _ (Wk.tr rfl))))
      ·refine zs b39 rfl (zs b39 rfl (zs b39 rfl (zf b39 rfl (zq tb rfl ?_))))
       iterate 4 refine zs rfl rfl ?_
       exact zf rfl rfl (zq tb rfl (AO.done (M22 false (Sh.some_eq h1).symm _ (Wk.tr rfl))))
     ·refine zs b37 rfl ?_
      iterate 3 refine zs b37 rfl ?_
      refine zf b37 rfl (zq tb rfl ?_)
      iterate 3 refine zs rfl rfl ?_
      refine zf rfl rfl (zq tb rfl ?_)
      iterate 4 refine zs rfl rfl ?_
      exact zf rfl rfl (zq tb rfl (AO.done (M22 false (Sh.some_eq h1).symm _ (Wk.tr rfl))))
    ·intro b19 h0
     refine zr tb rfl rfl ?_
     refine ci h0 rfl ?_ ?_ <;> clear h0
     ·intro b42 h0
      refine AW.seq fun K43 hK43 => AW.seq fun K44 hK44 => bs h0 fun o46 h1 h0 => ?_
      have M46 : ∀ (t45 : Bool), o46 = t45 → ∀ s, Wk 0 s ⟨233, envL [(1, (ls eI p1)), (3, (.ptr 0 0 0 0)), (5, (.ptr 1 0 0 0)), (141, (.bool t45))], [⟨0, 49, 2, [(eRSignatures p0)]⟩, (wE0 p2)]⟩ → K44 s := by
       intro t45 hq s hw
       subst o46
       try dsimp only at h0
       refine hK44 _ (AW.weaken hw ?_)
       refine ci h0 rfl ?_ ?_ <;> clear h0
       ·intro b47 h0
        refine zr tb rfl rfl ?_
        replace h0 := Sh.some_eq h0
        subst r
        exact AW.ret (xr (Wk.d0 [(6, (i64 (-1))), (7, (.bool false))] rfl))
       ·intro b47 h0
        refine AW.skip (hK43 _ (AW.seq fun K49 hK49 => ?_))
        refine AW.drawTailO 9 (by kernel_rfl) (by kernel_rfl) (by rfl) ?_
        iterate 4 refine yq tb rfl ?_
        refine bs h0 fun l50 gl50 h0 => d_mk (enc := (eS eI)) (u := []) go0 ei74 rfl rfl rfl gl50 (pure_map fun _ => rfl) (bs h0 fun q51 gq51 h0 => d_call (v := (.tup [(i64 q51.1), (.bool q51.2)])) go0 hb138 (impl_signatures_kidsType_ok hrec_impl_signatures_blockType gq51) rfl rfl rfl ?_)
        iterate 3 refine yq tb rfl ?_
        refine d_done (zq tb rfl (dn hK49 rfl ?_))
        replace h0 := Sh.some_eq h0
        subst r
        exact AW.ret (xr (Wk.d0 [(6, (i64 q51.1)), (7, (.bool q51.2))] rfl))
      refine AW.regionO rfl (zq tb rfl (zz (i64 (Sh.len l8)) (aq_leno sl37 rfl rfl rfl) rfl (zm tb 2 rfl ?_)))
      rcases Sh.ite_some h1 with ⟨b52, h1⟩ | ⟨b52, h1⟩
      ·refine zs b52 rfl ?_
       iterate 3 refine zs b52 rfl ?_
       refine zt b52 rfl (zq tb rfl ?_)
       iterate 3 refine zs rfl rfl ?_
       refine zt rfl rfl (zq tb rfl ?_)
       iterate 4 refine zs rfl rfl ?_
       refine zt rfl rfl ?_
       exact AO.done (M46 true (Sh.some_eq h1).symm _ (Wk.permk (L := (wE6 p1)) (st' := [⟨0, 49, 2, [(eRSignatures p0)]⟩, (wE0 p2)]) (st1 := [⟨0, 49, 2, [(eRSignatures p0)]⟩, (wE0 p2)]) [0, 1] rfl .nil (by decide) rfl rfl (.raw rfl rfl (.raw rfl rfl .nil)) ⟨.rfl, .rfl, .rfl, .rfl, trivial⟩))
      ·refine zg tb b52 rfl (bs h1 fun c53 gc53 h1 => ao_q (v := (.ptr 2 0 (Int.toNat 0) 0)) (go1 rfl rfl b52) rfl (aq_ixo ei37 rfl rfl rfl rfl gc53) (ao_q (v := (i64 c53)) (go1 rfl rfl b52) rfl (aq_ldp ti3 rfl rfl (map_get gc53) rfl) (zg tb b52 rfl (zf b52 rfl (zq tb rfl ?_)))))
       rcases Sh.ite_some h1 with ⟨b54, h1⟩ | ⟨b54, h1⟩
       ·refine zs b54 rfl (zs b54 rfl (zs b54 rfl (zt b54 rfl (zq tb rfl ?_))))
        iterate 4 refine zs rfl rfl ?_
        refine zt rfl rfl ?_
        exact AO.done (M46 true (Sh.some_eq h1).symm _ (Wk.permk (L := (wE6 p1)) (st' := [⟨0, 49, 2, [(eRSignatures p0)]⟩, (wE0 p2)]) (st1 := [⟨0, 49, 2, [(eRSignatures p0)]⟩, (wE0 p2)]) [0, 1] rfl .nil (by decide) rfl rfl (.raw rfl rfl (.raw rfl rfl .nil)) ⟨.rfl, .rfl, .rfl, .rfl, trivial⟩))
       ·refine zg tb b54 rfl (zg tb b54 rfl (zg tb b54 rfl (zf b54 rfl (zq tb rfl ?_))))
        rcases Sh.ite_some h1 with ⟨b55, h1⟩ | ⟨b55, h1⟩
        ·refine zs b55 rfl ?_
         iterate 3 refine zs b55 rfl ?_
         refine zt b55 rfl ?_
         exact AO.done (M46 true (Sh.some_eq h1).symm _ (Wk.permk (L := (wE6 p1)) (st' := [⟨0, 49, 2, [(eRSignatures p0)]⟩, (wE0 p2)]) (st1 := [⟨0, 49, 2, [(eRSignatures p0)]⟩, (wE0 p2)]) [0, 1] rfl .nil (by decide) rfl rfl (.raw rfl rfl (.raw rfl rfl .nil)) ⟨.rfl, .rfl, .rfl, .rfl, trivial⟩))
        ·refine zg tb b55 rfl (zg tb b55 rfl (ao_q (v := (i64 (Sh.len p2.kids))) (go1 rfl rfl b55) rfl (aq_lens sl69 rfl) (zg tb b55 rfl (zf b55 rfl ?_))))
         exact AO.done (M46 (!decide ((Sh.len p2.kids) = 2)) (Sh.some_eq h1).symm _ (Wk.permk (L := [(1, (ls eI p1)), (3, (.ptr 0 0 0 0)), (5, (.ptr 1 0 0 0)), (141, (.bool (!decide ((Sh.len p2.kids) = 2))))]) (st' := [⟨0, 49, 2, [(eRSignatures p0)]⟩, (wE0 p2)]) (st1 := [⟨0, 49, 2, [(eRSignatures p0)]⟩, (wE0 p2)]) [0, 1] rfl .nil (by decide) rfl rfl (.raw rfl rfl (.raw rfl rfl .nil)) ⟨.rfl, .rfl, .rfl, .rfl, trivial⟩))
     ·intro b42 h0
      refine zr tb rfl rfl ?_
      refine ci h0 rfl ?_ ?_ <;> clear h0
      ·intro b57 h0
       refine sr rfl fun K58 hK58 => zm tb 3 rfl (bs h0 fun q59 gq59 h0 => ao_call (v' := (ow 3 0 q59)) (st' := [⟨0, 49, 2, [(eRSignatures p0)]⟩, (wE0 p2), (ro 0 3 1 eI l8), (ro 0 37 1 (eS eI) q59)]) go0 hb84 (impl_signatures_armFields_ok gq59) rfl rfl ⟨(pure_map' fun _ => rfl), trivial⟩ rfl rfl (zq tb rfl (dn hK58 rfl (AW.seq fun K60 hK60 => AW.seq fun K61 hK61 => bs h0 fun o63 h1 h0 => ?_))))
       have M63 : ∀ (t62 : Bool), o63 = t62 → ∀ s, Wk 0 s ⟨233, envL [(1, (ls eI p1)), (3, (.ptr 0 0 0 0)), (5, (.ptr 1 0 0 0)), (14, (ow 2 0 q59)), (181, (.bool t62))], [⟨0, 49, 2, [(eRSignatures p0)]⟩, (wE0 p2), (ro 0 37 1 (eS eI) q59)]⟩ → K61 s := by
        intro t62 hq s hw
        subst o63
        try dsimp only at h0
        refine hK61 _ (AW.weaken hw ?_)
        refine ci h0 rfl ?_ ?_ <;> clear h0
        ·intro b64 h0
         refine zr tb rfl rfl ?_
         replace h0 := Sh.some_eq h0
         subst r
         exact AW.ret (xr (Wk.d0 [(6, (i64 (-1))), (7, (.bool false))] rfl))
        ·intro b64 h0
         refine AW.skip (hK60 _ (sr rfl fun K66 hK66 => zm tb 5 rfl (AO.weaken (Wk.frz (L := [(182, (.agg (eRSignatures p0))), (183, (ls eI p1)), (185, (ls eBlock p2.kids)), (186, (ls (eS eI) q59))]) (st' := [⟨0, 49, 2, [(eRSignatures p0)]⟩, (wE0 p2), ⟨1, 37, 1, []⟩]) (id := 2) rfl (show 0 ≤ 2 by decide) (pure_map fun _ => rfl) ⟨.rfl, .rfl, .rfl, (.frz rfl), trivial⟩ rfl) (bs h0 fun q67 gq67 h0 => zc (v' := (.tup [(i64 q67.1), (.bool q67.2)])) hb138 (impl_signatures_kidsType_ok hrec_impl_signatures_blockType gq67) rfl rfl rfl (zm tb 4 rfl (dn hK66 rfl ?_))))))
         replace h0 := Sh.some_eq h0
         subst r
         exact AW.ret (xr (Wk.d0 [(6, (i64 q67.1)), (7, (.bool q67.2))] rfl))
       refine AW.draw (by kernel_rfl) (by kernel_rfl) (by rfl) ?_
       refine yq tb rfl (yz (i64 (Sh.len l8)) (aq_leno sl37 rfl rfl rfl) rfl ?_)
       iterate 2 refine yq tb rfl ?_
       rcases Sh.ite_some h1 with ⟨b68, h1⟩ | ⟨b68, h1⟩
       ·refine ys b68 rfl ?_
        iterate 5 refine ys b68 rfl ?_
        refine yt b68 rfl (yq tb rfl ?_)
        iterate 3 refine ys rfl rfl ?_
        refine yt rfl rfl (yq tb rfl ?_)
        iterate 6 refine ys rfl rfl ?_
        refine yt rfl rfl ?_
        exact d_done (M63 true (Sh.some_eq h1).symm _ (Wk.permk (L := [(1, (ls eI p1)), (3, (.ptr 0 0 0 0)), (5, (.ptr 1 0 0 0)), (14, (ow 2 0 q59)), (181, (.bool true))]) (st' := [⟨0, 49, 2, [(eRSignatures p0)]⟩, (wE0 p2), (ro 0 37 1 (eS eI) q59)]) (st1 := [⟨0, 49, 2, [(eRSignatures p0)]⟩, (wE0 p2), (ro 0 37 1 (eS eI) q59)]) [0, 1, 3] rfl .nil (by decide) rfl rfl (.raw rfl rfl (.raw rfl rfl (.pure (pure_map fun _ => rfl) .nil))) ⟨.rfl, .rfl, .rfl, .rfl, .rfl, trivial⟩))
       ·refine yg tb b68 rfl (bs h1 fun c69 gc69 h1 => d_q (v := (.ptr 2 0 (Int.toNat 0) 0)) (go1 rfl rfl b68) rfl (aq_ixo ei37 rfl rfl rfl rfl gc69) (d_q (v := (i64 c69)) (go1 rfl rfl b68) rfl (aq_ldp ti3 rfl rfl (map_get gc69) rfl) ?_))
        iterate 3 refine yg tb b68 rfl ?_
        refine yf b68 rfl (yq tb rfl ?_)
        rcases Sh.ite_some h1 with ⟨b70, h1⟩ | ⟨b70, h1⟩
        ·refine ys b70 rfl ?_
         iterate 2 refine ys b70 rfl ?_
         refine yt b70 rfl (yq tb rfl ?_)
         iterate 6 refine ys rfl rfl ?_
         refine yt rfl rfl ?_
         exact d_done (M63 true (Sh.some_eq h1).symm _ (Wk.permk (L := [(1, (ls eI p1)), (3, (.ptr 0 0 0 0)), (5, (.ptr 1 0 0 0)), (14, (ow 2 0 q59)), (181, (.bool true))]) (st' := [⟨0, 49, 2, [(eRSignatures p0)]⟩, (wE0 p2), (ro 0 37 1 (eS eI) q59)]) (st1 := [⟨0, 49, 2, [(eRSignatures p0)]⟩, (wE0 p2), (ro 0 37 1 (eS eI) q59)]) [0, 1, 3] rfl .nil (by decide) rfl rfl (.raw rfl rfl (.raw rfl rfl (.pure (pure_map fun _ => rfl) .nil))) ⟨.rfl, .rfl, .rfl, .rfl, .rfl, trivial⟩))
        ·refine yg tb b70 rfl (d_q (v := (i64 (Sh.len q59))) (go1 rfl rfl b70) rfl (aq_leno sl74 rfl rfl rfl) (yg tb b70 rfl (yf b70 rfl (yq tb rfl ?_))))
         rcases Sh.ite_some h1 with ⟨b71, h1⟩ | ⟨b71, h1⟩
         ·refine ys b71 rfl ?_
          iterate 5 refine ys b71 rfl ?_
          refine yt b71 rfl ?_
          exact d_done (M63 true (Sh.some_eq h1).symm _ (Wk.permk (L := [(1, (ls eI p1)), (3, (.ptr 0 0 0 0)), (5, (.ptr 1 0 0 0)), (14, (ow 2 0 q59)), (181, (.bool true))]) (st' := [⟨0, 49, 2, [(eRSignatures p0)]⟩, (wE0 p2), (ro 0 37 1 (eS eI) q59)]) (st1 := [⟨0, 49, 2, [(eRSignatures p0)]⟩, (wE0 p2), (ro 0 37 1 (eS eI) q59)]) [0, 1, 3] rfl .nil (by decide) rfl rfl (.raw rfl rfl (.raw rfl rfl (.pure (pure_map fun _ => rfl) .nil))) ⟨.rfl, .rfl, .rfl, .rfl, .rfl, trivial⟩))
         ·refine yg tb b71 rfl (yg tb b71 rfl (d_q (v := (i64 (Sh.len p2.kids))) (go1 rfl rfl b71) rfl (aq_lens sl69 rfl) (yg tb b71 rfl (d_q (v := (i64 (Sh.len q59))) (go1 rfl rfl b71) rfl (aq_leno sl74 rfl rfl rfl) (yg tb b71 rfl (yf b71 rfl ?_))))))
          exact d_done (M63 (!decide ((Sh.len p2.kids) = (Sh.len q59))) (Sh.some_eq h1).symm _ (Wk.permk (L := [(1, (ls eI p1)), (3, (.ptr 0 0 0 0)), (5, (.ptr 1 0 0 0)), (14, (ow 2 0 q59)), (181, (.bool (!decide ((Sh.len p2.kids) = (Sh.len q59)))))]) (st' := [⟨0, 49, 2, [(eRSignatures p0)]⟩, (wE0 p2), (ro 0 37 1 (eS eI) q59)]) (st1 := [⟨0, 49, 2, [(eRSignatures p0)]⟩, (wE0 p2), (ro 0 37 1 (eS eI) q59)]) [0, 1, 3] rfl .nil (by decide) rfl rfl (.raw rfl rfl (.raw rfl rfl (.pure (pure_map fun _ => rfl) .nil))) ⟨.rfl, .rfl, .rfl, .rfl, .rfl, trivial⟩))
      ·intro b57 h0
       refine AW.seq fun K72 hK72 => bs h0 fun o74 h1 h0 => ?_
       have M74 : ∀ (t73 : Bool), o74 = t73 → ∀ s, Wk 0 s ⟨233, envL [(3, (.ptr 0 0 0 0)), (5, (.ptr 1 0 0 0)), (8, (ow 2 0 l8)), (190, (.bool t73))], [⟨0, 49, 2, [(eRSignatures p0)]⟩, (wE0 p2), (ro 0 3 1 eI l8)]⟩ → K72 s := by
        intro t73 hq s hw
        subst o74
        try dsimp only at h0
        refine hK72 _ (AW.weaken hw ?_)
        refine ci h0 rfl ?_ ?_ <;> clear h0
        ·intro b75 h0
         refine zr tb rfl rfl ?_
         replace h0 := Sh.some_eq h0
         subst r
         exact AW.ret (xr (Wk.d0 [(6, (i64 (-1))), (7, (.bool false))] rfl))
        ·intro b75 h0
         refine AW.skip (hK16 _ (sr rfl fun K77 hK77 => zm tb 6 rfl (AO.weaken (Wk.frz (L := [(224, (.agg (eRSignatures p0))), (226, (i64 p2.op)), (228, (i64 p2.num)), (229, (ls eI l8))]) (st' := [⟨0, 49, 2, [(eRSignatures p0)]⟩, (wE0 p2), ⟨1, 3, 1, []⟩]) (id := 2) rfl (show 0 ≤ 2 by decide) (pure_map fun _ => rfl) ⟨.rfl, .rfl, .rfl, (.frz rfl), trivial⟩ rfl) (bs h0 fun q78 gq78 h0 => zc (v' := (.tup [(i64 q78.1), (.bool q78.2)])) hb139 (impl_signatures_simpleType_ok gq78) rfl rfl rfl (zm tb 4 rfl (dn hK77 rfl ?_))))))
         replace h0 := Sh.some_eq h0
         subst r
         exact AW.ret (xr (Wk.d0 [(6, (i64 q78.1)), (7, (.bool q78.2))] rfl))
       refine AW.regionO rfl (zm tb 2 rfl (zl tb rfl rfl (zm tb 2 rfl ?_)))
       rcases Sh.ite_some h1 with ⟨b79, h1⟩ | ⟨b79, h1⟩
       ·refine zs b79 rfl ?_
        iterate 3 refine zs b79 rfl ?_
        iterate 3 refine zn rfl ?_
        refine zs b79 rfl (zs b79 rfl ?_)
        iterate 6 refine zn rfl ?_
        refine zs b79 rfl (zs b79 rfl ?_)
        iterate 9 refine zn rfl ?_
        exact zs b79 rfl (zt b79 rfl (zq tb rfl (AO.done (M74 true (Sh.some_eq h1).symm _ (Wk.tr rfl)))))
       ·refine zg tb b79 rfl ?_
        iterate 3 refine zg tb b79 rfl ?_
        rcases Sh.ite_some h1 with ⟨b80, h1⟩ | ⟨b80, h1⟩
        ·refine zg tb b80 rfl (zg tb b80 rfl (zg tb b80 rfl (ao_q (v := (.bool (decide (0 ≤ p2.num)))) (go1 rfl rfl b79) rfl (aq_pkt rfl b80 rfl) (zg tb b79 rfl ?_))))
         rcases Sh.ite_some h1 with ⟨b81, h1⟩ | ⟨b81, h1⟩
         ·refine zg tb b81 rfl ?_
          iterate 3 refine zg tb b81 rfl ?_
          refine ao_q (v := (i64 (Sh.len p0.funcs))) (go1 rfl rfl b81) rfl (aq_lens sl47 rfl) (zg tb b81 rfl (ao_q (v := (.bool (decide (p2.num < (Sh.len p0.funcs))))) (go1 rfl rfl b79) rfl (aq_pkt rfl b81 rfl) (zg tb b79 rfl ?_)))
          rcases Sh.ite_some h1 with ⟨b82, h1⟩ | ⟨b82, h1⟩
          ·refine zg tb b82 rfl ?_
           iterate 3 refine zg tb b82 rfl ?_
           exact bs h1 fun c83 gc83 h1 => ao_q (v := (.iptr (eRSignature c83) 0)) (go1 rfl rfl b82) rfl (aq_ixs ei47 rfl rfl gc83 rfl) (zg tb b82 rfl (zg tb b82 rfl (ao_q (v := (i64 (Sh.len c83.lent))) (go1 rfl rfl b82) rfl (aq_lens sl37 rfl) (zg tb b82 rfl (ao_q (v := (.bool (decide (0 < (Sh.len c83.lent))))) (go1 rfl rfl b79) rfl (aq_pkt rfl b82 rfl) (zf b79 rfl (zq tb rfl (AO.done (M74 (decide (0 < (Sh.len c83.lent))) (Sh.some_eq h1).symm _ (Wk.tr rfl))))))))))
          ·refine zs b82 rfl ?_
           iterate 8 refine zs b82 rfl ?_
           exact ao_q (v := (.bool false)) (go1 rfl rfl b79) rfl (aq_pkf rfl b82 rfl) (zf b79 rfl (zq tb rfl (AO.done (M74 false (Sh.some_eq h1).symm _ (Wk.tr rfl)))))
         ·refine zs b81 rfl ?_
          iterate 5 refine zs b81 rfl ?_
          refine ao_q (v := (.bool false)) (go1 rfl rfl b79) rfl (aq_pkf rfl b81 rfl) (zg tb b79 rfl ?_)
          iterate 9 refine zs rfl rfl ?_
          exact ao_q (v := (.bool false)) (go1 rfl rfl b79) rfl (aq_pkf rfl rfl rfl) (zf b79 rfl (zq tb rfl (AO.done (M74 false (Sh.some_eq h1).symm _ (Wk.tr rfl)))))
        ·refine zs b80 rfl (zs b80 rfl (zs b80 rfl (ao_q (v := (.bool false)) (go1 rfl rfl b79) rfl (aq_pkf rfl b80 rfl) (zg tb b79 rfl ?_))))
         iterate 6 refine zs rfl rfl ?_
         refine ao_q (v := (.bool false)) (go1 rfl rfl b79) rfl (aq_pkf rfl rfl rfl) (zg tb b79 rfl ?_)
         iterate 9 refine zs rfl rfl ?_
         exact ao_q (v := (.bool false)) (go1 rfl rfl b79) rfl (aq_pkf rfl rfl rfl) (zf b79 rfl (zq tb rfl (AO.done (M74 false (Sh.some_eq h1).symm _ (Wk.tr rfl)))))
  refine AW.regionO rfl (zm tb 4 rfl ?_)
  rcases Sh.ite_some h1 with ⟨b84, h1⟩ | ⟨b84, h1⟩
  ·refine zg tb b84 rfl ?_
   iterate 3 refine zg tb b84 rfl ?_
   rcases Sh.ite_some h1 with ⟨b85, h1⟩ | ⟨b85, h1⟩
   ·refine zs b85 rfl (zs b85 rfl (zs b85 rfl (ao_q (v := (.bool true)) (go1 rfl rfl b84) rfl (aq_pkt rfl b85 rfl) (zg tb b84 rfl ?_))))
    iterate 5 refine zs rfl rfl ?_
    refine ao_q (v := (.bool true)) (go1 rfl rfl b84) rfl (aq_pkt rfl rfl rfl) (zg tb b84 rfl ?_)
    iterate 7 refine zs rfl rfl ?_
    exact ao_q (v := (.bool true)) (go1 rfl rfl b84) rfl (aq_pkt rfl rfl rfl) (zt b84 rfl (AO.done (M13 true (Sh.some_eq h1).symm _ (Wk.tr rfl))))
   ·refine zg tb b85 rfl (zg tb b85 rfl (zg tb b85 rfl (ao_q (v := (.bool (decide (p2.into < 1)))) (go1 rfl rfl b84) rfl (aq_pkf rfl b85 rfl) (zg tb b84 rfl ?_))))
    rcases Sh.ite_some h1 with ⟨b86, h1⟩ | ⟨b86, h1⟩
    ·refine zs b86 rfl ?_
     iterate 4 refine zs b86 rfl ?_
     refine ao_q (v := (.bool true)) (go1 rfl rfl b84) rfl (aq_pkt rfl b86 rfl) (zg tb b84 rfl ?_)
     iterate 7 refine zs rfl rfl ?_
     exact ao_q (v := (.bool true)) (go1 rfl rfl b84) rfl (aq_pkt rfl rfl rfl) (zt b84 rfl (AO.done (M13 true (Sh.some_eq h1).symm _ (Wk.tr rfl))))
    ·refine zg tb b86 rfl (zg tb b86 rfl (zg tb b86 rfl (ao_q (v := (i64 (Sh.len p1))) (go1 rfl rfl b86) rfl (aq_lens sl37 rfl) (zg tb b86 rfl (ao_q (v := (.bool (decide ((Sh.len p1) < p2.into)))) (go1 rfl rfl b84) rfl (aq_pkf rfl b86 rfl) (zg tb b84 rfl ?_))))))
     rcases Sh.ite_some h1 with ⟨b87, h1⟩ | ⟨b87, h1⟩
     ·refine zs b87 rfl ?_
      iterate 6 refine zs b87 rfl ?_
      exact ao_q (v := (.bool true)) (go1 rfl rfl b84) rfl (aq_pkt rfl b87 rfl) (zt b84 rfl (AO.done (M13 true (Sh.some_eq h1).symm _ (Wk.tr rfl))))
     ·refine zg tb b87 rfl ?_
      iterate 3 refine zg tb b87 rfl ?_
      exact bs h1 fun c88 gc88 h1 => ao_q (v := (.iptr (eI c88) 0)) (go1 rfl rfl b87) rfl (aq_ixs ei37 rfl rfl gc88 rfl) (zg tb b87 rfl (zg tb b87 rfl (ao_q (v := (.bool (decide (c88 = 0)))) (go1 rfl rfl b84) rfl (aq_pkf rfl b87 rfl) (zt b84 rfl (AO.done (M13 (decide (c88 = 0)) (Sh.some_eq h1).symm _ (Wk.tr rfl)))))))
  ·refine zs b84 rfl ?_
   iterate 3 refine zs b84 rfl ?_
   iterate 3 refine zn rfl ?_
   refine zs b84 rfl (zs b84 rfl ?_)
   iterate 5 refine zn rfl ?_
   refine zs b84 rfl (zs b84 rfl ?_)
   iterate 7 refine zn rfl ?_
   exact zs b84 rfl (zf b84 rfl (AO.done (M13 false (Sh.some_eq h1).symm _ (Wk.tr rfl))))
 refine AW.block (AW.loopF (σ := Int × (List Int)) (fun n v => impl_signatures_stepType_L1 p1 p2 n v.1 v.2 = some o9) (fun (t6, l7) => ⟨233, envL [(1, (ls eI p1)), (3, (.ptr 0 0 0 0)), (5, (.ptr 1 0 0 0)), (8, (ow 2 0 l7)), (20, (ls eI p2.args)), (21, (i64 (Sh.len p2.args))), (22, (i64 t6))], [⟨0, 49, 2, [(eRSignatures p0)]⟩, (wE0 p2), (ro 0 3 1 eI l7)]⟩) N (0, []) h1 (Wk.tr rfl) (fun _ hv => by rw [impl_signatures_stepType_L1] at hv; cases hv) ?_)
 rintro n ⟨t6, l7⟩ h1
 try dsimp only at h1 ⊢
 rw [impl_signatures_stepType_L1] at h1
 refine zr tb rfl rfl (AW.seq fun K90 hK90 => ?_)
 refine ci h1 rfl ?_ ?_ <;> clear h1
 ·intro b91 h1
  refine AW.skip (hK90 _ (AW.seq fun K92 hK92 => AW.block (sr rfl fun K93 hK93 => bs h1 fun c94 gc94 h1 => zx ei37 gc94 rfl rfl rfl (zm tb 2 rfl (dn hK93 rfl (AW.seq fun K95 hK95 => AW.seq fun K96 hK96 => bs h1 fun o98 h2 h1 => ?_))))))
  have M98 : ∀ (t97 : Bool), o98 = t97 → ∀ s, Wk 0 s ⟨233, envL [(1, (ls eI p1)), (3, (.ptr 0 0 0 0)), (5, (.ptr 1 0 0 0)), (8, (ow 2 0 l7)), (10, (i64 c94)), (20, (ls eI p2.args)), (21, (i64 (Sh.len p2.args))), (22, (i64 t6)), (33, (.bool t97))], [⟨0, 49, 2, [(eRSignatures p0)]⟩, (wE0 p2), (ro 0 3 1 eI l7)]⟩ → K96 s := by
   intro t97 hq s hw
   subst o98
   try dsimp only at h1
   refine hK96 _ (AW.weaken hw ?_)
   refine ci h1 rfl ?_ ?_ <;> clear h1
   ·intro b99 h1
    refine zr tb rfl rfl ?_
    replace h1 := Sh.some_eq h1
    subst o9
    try dsimp only [id] at h0
    replace h0 := Sh.some_eq h0
    subst r
    exact AW.ret (xr (Wk.d0 [(6, (i64 (-1))), (7, (.bool false))] rfl))
   ·intro b99 h1
    refine AW.skip (hK95 _ (AW.regionO rfl (zm tb 3 rfl (bs h1 fun c101 gc101 h1 => zx ei37 gc101 rfl rfl rfl (zq tb rfl ?_)))))
    refine ao_bs (m := 3) (st' := [⟨0, 49, 2, [(eRSignatures p0)]⟩, (wE0 p2), (ro 0 3 1 eI l7), (ro 0 3 1 eI [c101])]) (l := [c101]) (enc := eI) go0 ei37 (by decide) rfl rfl rfl rfl rfl rfl ?_
    refine bs h1 fun l102 gl102 h1 => ao_apo (st' := [⟨0, 49, 2, [(eRSignatures p0)]⟩, (wE0 p2), (ro 1 3 1 eI l102), (ro 0 3 1 eI [c101])]) (l2 := [c101]) go0 ei37 rfl rfl rfl rfl (el_o rfl rfl) (fun _ => rfl) gl102 rfl (zq tb rfl (dn hK92 rfl (AW.regionO rfl (zm tb 2 rfl ?_))))
    exact AO.done (xi (Sh.w (t6 + 1), l102) h1 (by refine Wk.trans (Wk.rg (L := [(1, (ls eI p1)), (3, (.ptr 0 0 0 0)), (5, (.ptr 1 0 0 0)), (8, (ow 2 0 l102)), (20, (ls eI p2.args)), (21, (i64 (Sh.len p2.args))), (22, (i64 (Sh.w (t6 + 1))))]) (st' := [⟨0, 49, 2, [(eRSignatures p0)]⟩, (wE0 p2), (ro 0 3 1 eI l102), (ro 0 3 1 eI [c101])]) (.raw rfl rfl (.raw rfl rfl (.pure (pure_map fun _ => rfl) (.pure (pure_map fun _ => rfl) .nil)))) ⟨.rfl, .rfl, .rfl, .rfl, .rfl, .rfl, .rfl, trivial⟩) ?_; exact Wk.permk (L := [(1, (ls eI p1)), (3, (.ptr 0 0 0 0)), (5, (.ptr 1 0 0 0)), (8, (ow 2 0 l102)), (20, (ls eI p2.args)), (21, (i64 (Sh.len p2.args))), (22, (i64 (Sh.w (t6 + 1))))]) (st' := [⟨0, 49, 2, [(eRSignatures p0)]⟩, (wE0 p2), (ro 0 3 1 eI l102)]) (st1 := [⟨0, 49, 2, [(eRSignatures p0)]⟩, (wE0 p2), (ro 0 3 1 eI l102)]) [0, 1, 2] rfl .nil (by decide) rfl rfl (.raw rfl rfl (.raw rfl rfl (.pure (pure_map fun _ => rfl) .nil))) ⟨.rfl, .rfl, .rfl, .rfl, .rfl, .rfl, .rfl, trivial⟩))
  refine AW.regionO rfl (zm tb 3 rfl ?_)
  rcases Sh.ite_some h2 with ⟨b103, h2⟩ | ⟨b103, h2⟩
  ·refine zs b103 rfl ?_
   iterate 3 refine zs b103 rfl ?_
   exact zt b103 rfl (AO.done (M98 true (Sh.some_eq h2).symm _ (Wk.tr rfl)))
  ·exact zg tb b103 rfl (zg tb b103 rfl (ao_q (v := (i64 (Sh.len p1))) (go1 rfl rfl b103) rfl (aq_lens sl37 rfl) (zg tb b103 rfl (zf b103 rfl (AO.done (M98 (decide ((Sh.len p1) ≤ c94)) (Sh.some_eq h2).symm _ (Wk.tr rfl)))))))
 ·intro b91 h1
  exact AW.exit (M9 l7 (Sh.some_eq h1).symm _ (Wk.tr rfl))
noncomputable abbrev wE11 (p2 : Block) : Go.Abs.Row := ⟨0, 55, 2, [[(ls eStep p2.steps), (i64 p2.result)]]⟩
theorem impl_signatures_blockType_B_ok {N : Nat} {rec_impl_signatures_blockType : RSignatures → (List Int) → Block → Option (Int)} (hrec_impl_signatures_blockType : ∀ {p0 : RSignatures} {p1 : (List Int)} {p2 : Block} {r : Int}, rec_impl_signatures_blockType p0 p1 p2 = some r → ACalls Tryz.prog 102 [(.agg (eRSignatures p0)), (ls eI p1), (.agg [(ls eStep p2.steps), (i64 p2.result)])] [] (fun v st => v = (i64 r) ∧ st = [])) {p0 : RSignatures} {p1 : (List Int)} {p2 : Block} {r : Int} (h0 : impl_signatures_blockType_B N rec_impl_signatures_blockType p0 p1 p2 = some r) : ACalls Tryz.prog 102 [(.agg (eRSignatures p0)), (ls eI p1), (.agg [(ls eStep p2.steps), (i64 p2.result)])] [] (fun v st => v = (i64 r) ∧ st = []) := by
 unfold impl_signatures_blockType_B at h0
 refine ai Tryz.func102 rfl rfl rfl rfl (sr rfl fun K1 hK1 => ao_box (m := 0) (st' := [⟨0, 49, 2, [(eRSignatures p0)]⟩]) go0 rfl rfl rfl rfl rfl (ao_box (m := 1) (st' := [⟨0, 49, 2, [(eRSignatures p0)]⟩, (wE11 p2)]) go0 rfl rfl rfl rfl rfl (zq tb rfl (dn hK1 rfl (sr rfl fun K2 hK2 => zq tb rfl (bs h0 fun q3 gq3 h0 => ao_call (v' := (ow 2 0 q3)) (st' := [⟨0, 49, 2, [(eRSignatures p0)]⟩, (wE11 p2), (ro 0 3 1 eI q3)]) go0 hb77 (slices_Clone_int_int_ok gq3) rfl rfl ⟨(pure_map' fun _ => rfl), trivial⟩ rfl rfl (zq tb rfl (dn hK2 rfl ?_))))))))
 refine AW.seq fun K4 hK4 => sr rfl fun K5 hK5 => zm tb 2 rfl (zl tb rfl rfl (zq tb rfl (dn hK5 rfl ?_)))
 obtain ⟨o9, h1, h0⟩ := Sh.cont_some h0
 have M9 : ∀ (l8 : (List Int)), o9 = Sum.inr l8 → ∀ s, Wk 0 s ⟨54, envL [(5, (.ptr 0 0 0 0)), (7, (ow 1 0 l8))], [(wE11 p2), (ro 0 3 1 eI l8)]⟩ → K4 s := by
  intro l8 hq s hw
  subst o9
  try dsimp only at h0
  refine hK4 _ (AW.weaken hw (AW.seq fun K10 hK10 => AW.seq fun K11 hK11 => bs h0 fun o13 h1 h0 => ?_))
  have M13 : ∀ (t12 : Bool), o13 = t12 → ∀ s, Wk 0 s ⟨54, envL [(5, (.ptr 0 0 0 0)), (7, (ow 1 0 l8)), (48, (.bool t12))], [(wE11 p2), (ro 0 3 1 eI l8)]⟩ → K11 s := by
   intro t12 hq s hw
   subst o13
   try dsimp only at h0
   refine hK11 _ (AW.weaken hw ?_)
   refine ci h0 rfl ?_ ?_ <;> clear h0
   ·intro b14 h0
    refine zr tb rfl rfl ?_
    replace h0 := Sh.some_eq h0
    subst r
    exact AW.ret (xr (Wk.d0 [(6, (i64 (-1)))] rfl))
   ·intro b14 h0
    refine AW.skip (hK10 _ (sr rfl fun K16 hK16 => zm tb 3 rfl (bs h0 fun c17 gc17 h0 => zz (.ptr 1 0 (Int.toNat p2.result) 0) (aq_ixo ei37 rfl rfl rfl rfl gc17) rfl (zz (i64 c17) (aq_ldp ti3 rfl rfl (map_get gc17) rfl) rfl (zq tb rfl (dn hK16 rfl ?_))))))
    replace h0 := Sh.some_eq h0
    subst r
    exact AW.ret (xr (Wk.d0 [(6, (i64 c17))] rfl))
  refine AW.regionO rfl (zm tb 4 rfl ?_)
  rcases Sh.ite_some h1 with ⟨b18, h1⟩ | ⟨b18, h1⟩
  ·refine zs b18 rfl ?_
   iterate 4 refine zs b18 rfl ?_
   exact zt b18 rfl (AO.done (M13 true (Sh.some_eq h1).symm _ (Wk.tr rfl)))
  ·exact zg tb b18 rfl (zg tb b18 rfl (zg tb b18 rfl (ao_q (v := (i64 (Sh.len l8))) (go1 rfl rfl b18) rfl (aq_leno sl37 rfl rfl rfl) (zg tb b18 rfl (zf b18 rfl (AO.done (M13 (decide ((Sh.len l8) ≤ p2.result)) (Sh.some_eq h1).symm _ (Wk.tr rfl))))))))
 refine AW.block (AW.loopF (σ := Int × (List Int)) (fun n v => impl_signatures_blockType_B_L1 N p0 p2 rec_impl_signatures_blockType n v.1 v.2 = some o9) (fun (t6, l7) => ⟨54, envL [(3, (.ptr 0 0 0 0)), (5, (.ptr 1 0 0 0)), (7, (ow 2 0 l7)), (15, (ls eStep p2.steps)), (16, (i64 (Sh.len p2.steps))), (17, (i64 t6))], [⟨0, 49, 2, [(eRSignatures p0)]⟩, (wE11 p2), (ro 0 3 1 eI l7)]⟩) N (0, q3) h1 (Wk.tr rfl) (fun _ hv => by rw [impl_signatures_blockType_B_L1] at hv; cases hv) ?_)
 rintro n ⟨t6, l7⟩ h1
 try dsimp only at h1 ⊢
 rw [impl_signatures_blockType_B_L1] at h1
 refine zr tb rfl rfl (AW.seq fun K20 hK20 => ?_)
 refine ci h1 rfl ?_ ?_ <;> clear h1
 ·intro b21 h1
  refine AW.skip (hK20 _ (AW.seq fun K22 hK22 => ?_))
  obtain ⟨o24, h2, h1⟩ := Sh.cont_some h1
  have M24 : ∀ (l23 : (List Int)), o24 = Sum.inr l23 → ∀ s, Wk 0 s ⟨54, envL [(3, (.ptr 0 0 0 0)), (5, (.ptr 1 0 0 0)), (7, (ow 2 0 l23)), (15, (ls eStep p2.steps)), (16, (i64 (Sh.len p2.steps))), (17, (i64 t6))], [⟨0, 49, 2, [(eRSignatures p0)]⟩, (wE11 p2), (ro 0 3 1 eI l23)]⟩ → K22 s := by
   intro l23 hq s hw
   subst o24
   try dsimp only at h1
   exact hK22 _ (AW.weaken hw (AW.regionO rfl (zm tb 2 rfl (AO.done (xi (Sh.w (t6 + 1), l23) h1 (Wk.tr rfl))))))
  refine AW.block (sr rfl fun K25 hK25 => bs h2 fun c26 gc26 h2 => zz (.iptr [(i64 c26.op), (i64 c26.num), (i64 c26.into), (ls eI c26.args), (ls eBlock c26.kids)] 0) (aq_ixsE ei53 rfl rfl gc26 (eStep_eq _) rfl) rfl (zq tb rfl (ao_alloc (m := 3) (st' := [⟨0, 49, 2, [(eRSignatures p0)]⟩, (wE11 p2), (ro 0 3 1 eI l7), ⟨0, 71, 5, [[(i64 0), (i64 0), (i64 0), .zc, .zc]]⟩]) go0 zi71 rfl rfl (ao_str (st' := [⟨0, 49, 2, [(eRSignatures p0)]⟩, (wE11 p2), (ro 0 3 1 eI l7), ⟨0, 71, 5, [[(i64 c26.op), (i64 c26.num), (i64 c26.into), (ls eI c26.args), (ls eBlock c26.kids)]]⟩]) go0 ti71 rfl rfl rfl rfl rfl rfl (show 0 + 5 ≤ 5 by decide) rfl (dn hK25 rfl (sr rfl fun K27 hK27 => zm tb 3 rfl (bs h2 fun q28 gq28 h2 => ao_callb (v' := (.tup [(i64 q28.1), (.bool q28.2)])) (st' := [⟨0, 49, 2, [(eRSignatures p0)]⟩, (wE11 p2), (ro 0 3 1 eI l7), ⟨0, 71, 5, [[(i64 c26.op), (i64 c26.num), (i64 c26.into), (ls eI c26.args), (ls eBlock c26.kids)]]⟩]) go0 hb87 (impl_signatures_stepType_ok hrec_impl_signatures_blockType gq28) rfl (.val rfl (.own rfl rfl (fun _ => rfl) (.val rfl .nil))) rfl trivial rfl rfl ?_)))))))
  refine zm tb 5 rfl (dn hK27 rfl (AW.seq fun K29 hK29 => zr tb rfl rfl ?_))
  refine ci h2 rfl ?_ ?_ <;> clear h2
  ·intro b31 h2
   have b32 : q28.2 = false := by simpa using b31
   refine zr tb rfl rfl ?_
   replace h2 := Sh.some_eq h2
   subst o24
   try dsimp only [id] at h1
   replace h1 := Sh.some_eq h1
   subst o9
   try dsimp only [id] at h0
   replace h0 := Sh.some_eq h0
   subst r
   exact AW.ret (xr (Wk.d0 [(6, (i64 (-1)))] rfl))
  ·intro b31 h2
   have b34 : q28.2 = true := by simpa using b31
   refine AW.skip (hK29 _ (sr rfl fun K35 hK35 => zm tb 2 rfl (bs h2 fun q36 gq36 h2 => zc hb54 (impl_isCounting_ok gq36) rfl rfl rfl (zq tb rfl (dn hK35 rfl ?_)))))
   refine ci h2 rfl ?_ ?_ <;> clear h2
   ·intro b37 h2
    have b38 : q36 = false := by simpa using b37
    refine AW.regionO rfl (zm tb 2 rfl ?_)
    refine ao_bs (m := 4) (st' := [⟨0, 49, 2, [(eRSignatures p0)]⟩, (wE11 p2), (ro 0 3 1 eI l7), ⟨0, 71, 5, [[(i64 c26.op), (i64 c26.num), (i64 c26.into), (ls eI c26.args), (ls eBlock c26.kids)]]⟩, (ro 0 3 1 eI [q28.1])]) (l := [q28.1]) (enc := eI) go0 ei37 (by decide) rfl rfl rfl rfl rfl rfl ?_
    refine bs h2 fun l39 gl39 h2 => ao_apo (st' := [⟨0, 49, 2, [(eRSignatures p0)]⟩, (wE11 p2), (ro 1 3 1 eI l39), ⟨0, 71, 5, [[(i64 c26.op), (i64 c26.num), (i64 c26.into), (ls eI c26.args), (ls eBlock c26.kids)]]⟩, (ro 0 3 1 eI [q28.1])]) (l2 := [q28.1]) go0 ei37 rfl rfl rfl rfl (el_o rfl rfl) (fun _ => rfl) gl39 rfl (zq tb rfl ?_)
    exact AO.done (M24 l39 (Sh.some_eq h2).symm _ (by refine Wk.trans (Wk.rg (L := [(3, (.ptr 0 0 0 0)), (5, (.ptr 1 0 0 0)), (7, (ow 2 0 l39)), (15, (ls eStep p2.steps)), (16, (i64 (Sh.len p2.steps))), (17, (i64 t6))]) (st' := [⟨0, 49, 2, [(eRSignatures p0)]⟩, (wE11 p2), (ro 0 3 1 eI l39), ⟨0, 71, 5, [[(i64 c26.op), (i64 c26.num), (i64 c26.into), (ls eI c26.args), (ls eBlock c26.kids)]]⟩, (ro 0 3 1 eI [q28.1])]) (.raw rfl rfl (.raw rfl rfl (.pure (pure_map fun _ => rfl) (.raw rfl rfl (.pure (pure_map fun _ => rfl) .nil))))) ⟨.rfl, .rfl, .rfl, .rfl, .rfl, .rfl, trivial⟩) ?_; exact Wk.permk (L := [(3, (.ptr 0 0 0 0)), (5, (.ptr 1 0 0 0)), (7, (ow 2 0 l39)), (15, (ls eStep p2.steps)), (16, (i64 (Sh.len p2.steps))), (17, (i64 t6))]) (st' := [⟨0, 49, 2, [(eRSignatures p0)]⟩, (wE11 p2), (ro 0 3 1 eI l39)]) (st1 := [⟨0, 49, 2, [(eRSignatures p0)]⟩, (wE11 p2), (ro 0 3 1 eI l39)]) [0, 1, 2] rfl .nil (by decide) rfl rfl (.raw rfl rfl (.raw rfl rfl (.pure (pure_map fun _ => rfl) .nil))) ⟨.rfl, .rfl, .rfl, .rfl, .rfl, .rfl, trivial⟩))
   ·intro b37 h2
    have b40 : q36 = true := by simpa using b37
    exact AW.skip (M24 l7 (Sh.some_eq h2).symm _ (Wk.permk (L := [(3, (.ptr 0 0 0 0)), (5, (.ptr 1 0 0 0)), (7, (ow 2 0 l7)), (15, (ls eStep p2.steps)), (16, (i64 (Sh.len p2.steps))), (17, (i64 t6))]) (st' := [⟨0, 49, 2, [(eRSignatures p0)]⟩, (wE11 p2), (ro 0 3 1 eI l7)]) (st1 := [⟨0, 49, 2, [(eRSignatures p0)]⟩, (wE11 p2), (ro 0 3 1 eI l7)]) [0, 1, 2] rfl .nil (by decide) rfl rfl (.raw rfl rfl (.raw rfl rfl (.pure (pure_map fun _ => rfl) .nil))) ⟨.rfl, .rfl, .rfl, .rfl, .rfl, .rfl, trivial⟩))
 ·intro b21 h1
  exact AW.exit (M9 l7 (Sh.some_eq h1).symm _ (Wk.permk (L := [(5, (.ptr 0 0 0 0)), (7, (ow 1 0 l7))]) (st' := [(wE11 p2), (ro 0 3 1 eI l7)]) (st1 := [(wE11 p2), (ro 0 3 1 eI l7)]) [1, 2] rfl .nil (by decide) rfl rfl (.raw rfl rfl (.pure (pure_map fun _ => rfl) .nil)) ⟨.rfl, .rfl, trivial⟩))

theorem impl_signatures_blockType_F_ok {N : Nat} : ∀ (n : Nat), ∀ {p0 : RSignatures} {p1 : (List Int)} {p2 : Block} {r : Int}, impl_signatures_blockType_F N n p0 p1 p2 = some r → ACalls Tryz.prog 102 [(.agg (eRSignatures p0)), (ls eI p1), (.agg [(ls eStep p2.steps), (i64 p2.result)])] [] (fun v st => v = (i64 r) ∧ st = []) := by
 intro n
 induction n with
 | zero => intro p0 p1 p2 r h0; cases h0
 | succ n ih =>
  intro p0 p1 p2 r h0
  rw [impl_signatures_blockType_F] at h0
  exact impl_signatures_blockType_B_ok (fun h => ih h) h0
theorem impl_signatures_blockType_ok {N : Nat} : ∀ {p0 : RSignatures} {p1 : (List Int)} {p2 : Block} {r : Int}, impl_signatures_blockType N p0 p1 p2 = some r → ACalls Tryz.prog 102 [(.agg (eRSignatures p0)), (ls eI p1), (.agg [(ls eStep p2.steps), (i64 p2.result)])] [] (fun v st => v = (i64 r) ∧ st = []) := by
 intro p0 p1 p2 r h0
 exact impl_signatures_blockType_F_ok N h0
noncomputable abbrev wE12 (p0 : RNormal) : Go.Abs.Row := ⟨0, 30, 2, [[(ls eRDecl p0.decls), (ls eRRoutine p0.routines)]]⟩
theorem impl_ValidNormal_ok {N : Nat} {p0 : RNormal} {r : Bool} (h0 : impl_ValidNormal N p0 = some r) : ACalls Tryz.prog 51 [(.agg [(ls eRDecl p0.decls), (ls eRRoutine p0.routines)])] [] (fun v st => v = (.bool r) ∧ st = []) := by
 unfold impl_ValidNormal at h0
 refine ai Tryz.func51 rfl rfl rfl rfl (sr rfl fun K1 hK1 => ao_box (m := 0) (st' := [(wE12 p0)]) go0 rfl rfl rfl rfl rfl (zq tb rfl (dn hK1 rfl (sr rfl fun K2 hK2 => zq tb rfl (bs h0 fun q3 gq3 h0 => zc (v' := (.tup [(.agg (eRSignatures q3.1)), (.bool q3.2)])) hb34 (impl_normalSigs_ok gq3) rfl rfl rfl (zm tb 3 rfl (ao_alloc (m := 1) (st' := [(wE12 p0), ⟨0, 49, 2, [[.zc, .zc]]⟩]) go0 zi49 rfl rfl (ao_str (st' := [(wE12 p0), ⟨0, 49, 2, [(eRSignatures q3.1)]⟩]) go0 ti49 rfl rfl rfl rfl rfl rfl (show 0 + 2 ≤ 2 by decide) rfl ?_))))))))
 refine zq tb rfl (dn hK2 rfl (AW.seq fun K4 hK4 => zr tb rfl rfl ?_))
 refine ci h0 rfl ?_ ?_ <;> clear h0
 ·intro b6 h0
  have b7 : q3.2 = false := by simpa using b6
  refine zr tb rfl rfl ?_
  replace h0 := Sh.some_eq h0
  subst r
  exact AW.ret (xr (Wk.d0 [(2, (.bool false))] rfl))
 ·intro b6 h0
  have b9 : q3.2 = true := by simpa using b6
  refine AW.skip (hK4 _ (AW.seq fun K10 hK10 => sr rfl fun K11 hK11 => zm tb 2 rfl (zl tb rfl rfl (zq tb rfl (dn hK11 rfl ?_)))))
  obtain ⟨o13, h1, h0⟩ := Sh.cont_some h0
  have M13 : ∀ (_ : Unit), o13 = Sum.inr () → ∀ s, Wk 0 s ⟨37, envL [], []⟩ → K10 s := by
   intro _ hq s hw
   subst o13
   try dsimp only at h0
   refine hK10 _ (AW.weaken hw (zr tb rfl rfl ?_))
   replace h0 := Sh.some_eq h0
   subst r
   exact AW.ret (xr (Wk.to (L := [(2, (.bool true))]) ⟨.rfl, trivial⟩))
  refine AW.block (AW.loopF (σ := Int) (fun n v => impl_ValidNormal_L1 N p0 q3 n v = some o13) (fun t12 => ⟨37, envL [(3, (.ptr 0 0 0 0)), (15, (ls eRRoutine p0.routines)), (16, (i64 (Sh.len p0.routines))), (17, (i64 t12))], [⟨0, 49, 2, [(eRSignatures q3.1)]⟩]⟩) N 0 h1 (Wk.permk (L := [(3, (.ptr 0 0 0 0)), (15, (ls eRRoutine p0.routines)), (16, (i64 (Sh.len p0.routines))), (17, (i64 0))]) (st' := [⟨0, 49, 2, [(eRSignatures q3.1)]⟩]) (st1 := [⟨0, 49, 2, [(eRSignatures q3.1)]⟩]) [1] rfl .nil (by decide) rfl rfl (.raw rfl rfl .nil) ⟨.rfl, .rfl, .rfl, .rfl, trivial⟩) (fun _ hv => by rw [impl_ValidNormal_L1] at hv; cases hv) ?_)
  rintro n t12 h1
  try dsimp only at h1 ⊢
  rw [impl_ValidNormal_L1] at h1
  refine zr tb rfl rfl (AW.seq fun K16 hK16 => ?_)
  refine ci h1 rfl ?_ ?_ <;> clear h1
  ·intro b17 h1
   refine AW.skip (hK16 _ (AW.seq fun K18 hK18 => AW.block (sr rfl fun K19 hK19 => bs h1 fun c20 gc20 h1 => zx ei28 gc20 rfl rfl rfl (zq tb rfl (ao_alloc (m := 1) (st' := [⟨0, 49, 2, [(eRSignatures q3.1)]⟩, ⟨0, 57, 5, [[.zc, .zc, (i64 0), .zc, (i64 0)]]⟩]) go0 zi57 rfl rfl (ao_str (st' := [⟨0, 49, 2, [(eRSignatures q3.1)]⟩, ⟨0, 57, 5, [[(ls eI c20.params), (ls eI c20.lent), (i64 c20.result), (ls eStep c20.body.steps), (i64 c20.body.result)]]⟩]) go0 ti57 rfl rfl rfl rfl rfl rfl (show 0 + 5 ≤ 5 by decide) rfl (dn hK19 rfl (AW.seq fun K21 hK21 => bs h1 fun o23 h2 h1 => ?_))))))))
   have M23 : ∀ (t22 : Bool), o23 = t22 → ∀ s, Wk 0 s ⟨37, envL [(3, (.ptr 0 0 0 0)), (15, (ls eRRoutine p0.routines)), (16, (i64 (Sh.len p0.routines))), (17, (i64 t12)), (35, (.bool t22))], [⟨0, 49, 2, [(eRSignatures q3.1)]⟩]⟩ → K21 s := by
    intro t22 hq s hw
    subst o23
    try dsimp only at h1
    refine hK21 _ (AW.weaken hw ?_)
    refine ci h1 rfl ?_ ?_ <;> clear h1
    ·intro b24 h1
     refine zr tb rfl rfl ?_
     replace h1 := Sh.some_eq h1
     subst o13
     try dsimp only [id] at h0
     replace h0 := Sh.some_eq h0
     subst r
     exact AW.ret (xr (Wk.d0 [(2, (.bool false))] rfl))
    ·intro b24 h1
     exact AW.skip (hK18 _ (AW.regionO rfl (zm tb 2 rfl (AO.done (xi (Sh.w (t12 + 1)) h1 (Wk.tr rfl))))))
   refine AW.draw (by kernel_rfl) (by kernel_rfl) (by rfl) ?_
   iterate 2 refine yq tb rfl ?_
   refine bs h2 fun q26 gq26 h2 => d_call (v := (i64 q26)) go0 hb88 (impl_StepsOf_ok gq26) rfl rfl rfl ?_
   iterate 2 refine yq tb rfl ?_
   rcases Sh.ite_some h2 with ⟨b27, h2⟩ | ⟨b27, h2⟩
   ·refine ys b27 rfl ?_
    iterate 8 refine ys b27 rfl ?_
    refine yt b27 rfl ?_
    exact d_done (M23 true (Sh.some_eq h2).symm _ (Wk.permk (L := [(3, (.ptr 0 0 0 0)), (15, (ls eRRoutine p0.routines)), (16, (i64 (Sh.len p0.routines))), (17, (i64 t12)), (35, (.bool true))]) (st' := [⟨0, 49, 2, [(eRSignatures q3.1)]⟩]) (st1 := [⟨0, 49, 2, [(eRSignatures q3.1)]⟩]) [0] rfl .nil (by decide) rfl rfl (.raw rfl rfl .nil) ⟨.rfl, .rfl, .rfl, .rfl, .rfl, trivial⟩))
   ·refine yg tb b27 rfl ?_
    iterate 4 refine yg tb b27 rfl ?_
    refine bs h2 fun q28 gq28 h2 => d_call (v := (i64 q28)) (go1 rfl rfl b27) hb102 (impl_signatures_blockType_ok gq28) rfl rfl rfl ?_
    iterate 3 refine yg tb b27 rfl ?_
    refine yf b27 rfl ?_
    exact d_done (M23 (!decide (q28 = c20.result)) (Sh.some_eq h2).symm _ (Wk.permk (L := [(3, (.ptr 0 0 0 0)), (15, (ls eRRoutine p0.routines)), (16, (i64 (Sh.len p0.routines))), (17, (i64 t12)), (35, (.bool (!decide (q28 = c20.result))))]) (st' := [⟨0, 49, 2, [(eRSignatures q3.1)]⟩]) (st1 := [⟨0, 49, 2, [(eRSignatures q3.1)]⟩]) [0] rfl .nil (by decide) rfl rfl (.raw rfl rfl .nil) ⟨.rfl, .rfl, .rfl, .rfl, .rfl, trivial⟩))
  ·intro b17 h1
   exact AW.exit (M13 () (Sh.some_eq h1).symm _ (Wk.d0 _ rfl))
noncomputable abbrev wE13 (p0 : Step) : Go.Abs.Row := ⟨0, 71, 5, [[(i64 p0.op), (i64 p0.num), (i64 p0.into), (.sl (List.map eI p0.args)), (.sl (List.map eBlock p0.kids))]]⟩
noncomputable abbrev wE14 (p0 : Step) : Go.Abs.Row := ⟨0, 71, 5, [[(i64 p0.op), (i64 p0.num), (i64 p0.into), (ls eI p0.args), (ls eBlock p0.kids)]]⟩
theorem impl_CountsOf_1_ok {s1 : (List Int)} {p0 : Step} {r : (List Int)} (h0 : impl_CountsOf_1 s1 p0 = some r) : ACalls Tryz.prog 53 [(.agg [(i64 p0.op), (i64 p0.num), (i64 p0.into), (ls eI p0.args), (ls eBlock p0.kids)]), (.ptr 0 0 0 0)] [⟨0, 37, 1, [[(ow 1 0 s1)]]⟩, (ro 0 3 1 eI s1)] (fun v st => v = (.tup []) ∧ st = [⟨0, 37, 1, [[(ow 1 0 r)]]⟩, (ro 0 3 1 eI r)]) := by
 unfold impl_CountsOf_1 at h0
 refine ai Tryz.func53 rfl rfl rfl rfl (sr rfl fun K1 hK1 => ao_box (m := 2) (st' := [⟨0, 37, 1, [[(ow 1 0 s1)]]⟩, (ro 0 3 1 eI s1), (wE14 p0)]) go0 rfl rfl rfl rfl rfl (dn hK1 rfl (sr rfl fun K2 hK2 => zm tb 2 rfl (bs h0 fun q3 gq3 h0 => zc hb54 (impl_isCounting_ok gq3) rfl rfl rfl (dn hK2 rfl ?_)))))
 refine ci h0 rfl ?_ ?_ <;> clear h0
 ·intro b4 h0
  refine AW.regionO rfl (zm tb 4 rfl (bs h0 fun c5 gc5 h0 => zz (.ptr 1 0 (Int.toNat (Sh.w (p0.op - 14))) 0) (aq_ixo ei37 rfl rfl rfl rfl gc5) rfl (zz (i64 c5) (aq_ldp ti3 rfl rfl (map_get gc5) rfl) rfl (zq tb rfl (zz (.ptr 1 0 (Int.toNat (Sh.w (p0.op - 14))) 0) (aq_ixo ei37 rfl rfl rfl rfl gc5) rfl (ao_stl (st' := [⟨0, 37, 1, [[(ow 1 0 s1)]]⟩, (ro 0 3 1 eI (Sh.put s1 (Sh.w (p0.op - 14)) (Sh.w (c5 + 1)))), (wE14 p0)]) (u' := Sh.w (c5 + 1)) go0 ti3 rfl rfl gc5 rfl rfl rfl (show 0 + 1 ≤ 1 by decide) rfl rfl ?_))))))
  replace h0 := Sh.some_eq h0
  subst r
  exact AO.done (Exists.intro _ (And.intro (((Wk.steq (st := [⟨0, 37, 1, [[(.own 1 0 (List.length s1))]]⟩, ⟨0, 3, 1, List.map eI (Sh.put s1 (Sh.w (p0.op - 14)) (Sh.w (c5 + 1)))⟩, (wE13 p0)]) (st' := [⟨0, 37, 1, [[(.own 1 0 (List.length (Sh.put s1 (Sh.w (p0.op - 14)) (Sh.w (c5 + 1)))))]]⟩, ⟨0, 3, 1, List.map eI (Sh.put s1 (Sh.w (p0.op - 14)) (Sh.w (c5 + 1)))⟩, (wE13 p0)]) (by simp only [Sh.put_len])).trans (Wk.permk (L := []) (st' := [⟨0, 37, 1, [[(.own 1 0 (List.length (Sh.put s1 (Sh.w (p0.op - 14)) (Sh.w (c5 + 1)))))]]⟩, ⟨0, 3, 1, List.map eI (Sh.put s1 (Sh.w (p0.op - 14)) (Sh.w (c5 + 1)))⟩]) (st1 := [⟨0, 37, 1, [[(.own 1 0 (List.length (Sh.put s1 (Sh.w (p0.op - 14)) (Sh.w (c5 + 1)))))]]⟩, ⟨0, 3, 1, List.map eI (Sh.put s1 (Sh.w (p0.op - 14)) (Sh.w (c5 + 1)))⟩]) [0, 1] rfl (.raw rfl rfl (.pure (pure_map fun _ => rfl) .nil)) (by decide) rfl rfl (.raw rfl rfl (.pure (pure_map fun _ => rfl) .nil)) trivial)).trans (Wk.to (L := []) trivial)) (And.intro rfl rfl)))
 ·intro b4 h0
  replace h0 := Sh.some_eq h0
  subst r
  exact AW.skip (xi _ ((Wk.permk (L := []) (st' := [⟨0, 37, 1, [[(ow 1 0 s1)]]⟩, (ro 0 3 1 eI s1)]) (st1 := [⟨0, 37, 1, [[(ow 1 0 s1)]]⟩, (ro 0 3 1 eI s1)]) [0, 1] rfl (.raw rfl rfl (.pure (pure_map fun _ => rfl) .nil)) (by decide) rfl rfl (.raw rfl rfl (.pure (pure_map fun _ => rfl) .nil)) trivial).trans (Wk.to (L := []) trivial)) (And.intro rfl rfl))
theorem impl_visitSteps_2_B_ok {N : Nat} {rec_impl_visitSteps_2 : (List Int) → Block → Option ((List Int))} (hrec_impl_visitSteps_2 : ∀ {s1 : (List Int)} {p0 : Block} {r : (List Int)}, rec_impl_visitSteps_2 s1 p0 = some r → ACalls Tryz.prog 52 [(.agg [(ls eStep p0.steps), (i64 p0.result)]), (.fn 53 [(.ptr 0 0 0 0)])] [⟨0, 37, 1, [[(ow 1 0 s1)]]⟩, (ro 0 3 1 eI s1)] (fun v st => v = (.tup []) ∧ st = [⟨0, 37, 1, [[(ow 1 0 r)]]⟩, (ro 0 3 1 eI r)])) {s1 : (List Int)} {p0 : Block} {r : (List Int)} (h0 : impl_visitSteps_2_B N rec_impl_visitSteps_2 s1 p0 = some r) : ACalls Tryz.prog 52 [(.agg [(ls eStep p0.steps), (i64 p0.result)]), (.fn 53 [(.ptr 0 0 0 0)])] [⟨0, 37, 1, [[(ow 1 0 s1)]]⟩, (ro 0 3 1 eI s1)] (fun v st => v = (.tup []) ∧ st = [⟨0, 37, 1, [[(ow 1 0 r)]]⟩, (ro 0 3 1 eI r)]) := by
 unfold impl_visitSteps_2_B at h0
 refine ai Tryz.func52 rfl rfl rfl rfl (sr rfl fun K1 hK1 => ao_box (m := 2) (st' := [⟨0, 37, 1, [[(ow 1 0 s1)]]⟩, (ro 0 3 1 eI s1), ⟨0, 55, 2, [[(ls eStep p0.steps), (i64 p0.result)]]⟩]) go0 rfl rfl rfl rfl rfl (dn hK1 rfl (sr rfl fun K2 hK2 => zm tb 2 rfl (zl tb rfl rfl (zq tb rfl (dn hK2 rfl (AW.fin fun K3 hK3 => bs h0 fun o7 h1 h0 => ?_)))))))
 have M7 : ∀ (l6 : (List Int)), o7 = l6 → ∀ s, Wk 2 s ⟨30, envL [], [⟨0, 37, 1, [[(ow 1 0 l6)]]⟩, (ro 0 3 1 eI l6)]⟩ → K3 s := by
  intro l6 hq s hw
  subst o7
  try dsimp only at h0
  refine hK3 _ ?_
  replace h0 := Sh.some_eq h0
  subst r
  exact Exists.intro _ (And.intro (hw.trans (Wk.to (L := []) trivial)) (And.intro rfl rfl))
 refine AW.block (AW.loopF (σ := Int × (List Int)) (fun n v => impl_visitSteps_2_B_L1 N p0 rec_impl_visitSteps_2 n v.1 v.2 = some o7) (fun (t4, l5) => ⟨30, envL [(1, (.fn 53 [(.ptr 0 0 0 0)])), (9, (ls eStep p0.steps)), (10, (i64 (Sh.len p0.steps))), (11, (i64 t4))], [⟨0, 37, 1, [[(ow 1 0 l5)]]⟩, (ro 0 3 1 eI l5)]⟩) N (0, s1) h1 (Wk.permk (L := [(1, (.fn 53 [(.ptr 0 0 0 0)])), (9, (ls eStep p0.steps)), (10, (i64 (Sh.len p0.steps))), (11, (i64 0))]) (st' := [⟨0, 37, 1, [[(ow 1 0 s1)]]⟩, (ro 0 3 1 eI s1)]) (st1 := [⟨0, 37, 1, [[(ow 1 0 s1)]]⟩, (ro 0 3 1 eI s1)]) [0, 1] rfl (.raw rfl rfl (.pure (pure_map fun _ => rfl) .nil)) (by decide) rfl rfl (.raw rfl rfl (.pure (pure_map fun _ => rfl) .nil)) ⟨.rfl, .rfl, .rfl, .rfl, trivial⟩) (fun _ hv => by rw [impl_visitSteps_2_B_L1] at hv; cases hv) ?_)
 rintro n ⟨t4, l5⟩ h1
 try dsimp only at h1 ⊢
 rw [impl_visitSteps_2_B_L1] at h1
 refine zr tb rfl rfl (AW.seq fun K9 hK9 => ?_)
 refine ci h1 rfl ?_ ?_ <;> clear h1
 ·intro b10 h1
  refine AW.skip (hK9 _ (AW.seq fun K11 hK11 => AW.block (sr rfl fun K12 hK12 => bs h1 fun c13 gc13 h1 => zz (.iptr [(i64 c13.op), (i64 c13.num), (i64 c13.into), (ls eI c13.args), (ls eBlock c13.kids)] 0) (aq_ixsE ei53 rfl rfl gc13 (eStep_eq _) rfl) rfl (zq tb rfl (ao_alloc (m := 2) (st' := [⟨0, 37, 1, [[(ow 1 0 l5)]]⟩, (ro 0 3 1 eI l5), ⟨0, 71, 5, [[(i64 0), (i64 0), (i64 0), .zc, .zc]]⟩]) go0 zi71 rfl rfl (ao_str (st' := [⟨0, 37, 1, [[(ow 1 0 l5)]]⟩, (ro 0 3 1 eI l5), ⟨0, 71, 5, [[(i64 c13.op), (i64 c13.num), (i64 c13.into), (ls eI c13.args), (ls eBlock c13.kids)]]⟩]) go0 ti71 rfl rfl rfl rfl rfl rfl (show 0 + 5 ≤ 5 by decide) rfl (dn hK12 rfl (sr rfl fun K14 hK14 => zm tb 2 rfl ?_))))))))
  refine bs h1 fun q15 gq15 h1 => ?_
  refine ao_callst (rowsP := [⟨0, 37, 1, [[(ow 1 0 l5)]]⟩, (ro 0 3 1 eI l5)]) (rows0 := [⟨0, 37, 1, [[(ow 1 0 l5)]]⟩, (ro 0 3 1 eI l5)]) (rows1 := [⟨0, 37, 1, [[(ow 1 0 q15)]]⟩, (ro 0 3 1 eI q15)]) (rows2 := []) (rows1' := [⟨0, 37, 1, [[(ow 1 0 q15)]]⟩, (ro 0 3 1 eI q15)]) (rows2' := []) (st' := [⟨0, 37, 1, [[(ow 1 0 q15)]]⟩, (ro 0 3 1 eI q15), ⟨0, 71, 5, [[(i64 c13.op), (i64 c13.num), (i64 c13.into), (ls eI c13.args), (ls eBlock c13.kids)]]⟩]) (v' := (.tup [])) [0, 1] go0 rfl hb53 (impl_CountsOf_1_ok gq15) rfl (by decide) rfl rfl (.raw rfl rfl (.pure (pure_map fun _ => rfl) .nil)) rfl rfl (.raw rfl rfl (.pure (pure_map fun _ => rfl) .nil)) .nil rfl rfl ?_
  refine dn hK14 rfl (sr rfl fun K16 hK16 => zm tb 2 rfl (zl tb rfl rfl (zq tb rfl (dn hK16 rfl (bs h1 fun o20 h2 h1 => ?_)))))
  have M20 : ∀ (l19 : (List Int)), o20 = l19 → ∀ s, Wk 2 s ⟨30, envL [(1, (.fn 53 [(.ptr 0 0 0 0)])), (9, (ls eStep p0.steps)), (10, (i64 (Sh.len p0.steps))), (11, (i64 t4))], [⟨0, 37, 1, [[(ow 1 0 l19)]]⟩, (ro 0 3 1 eI l19)]⟩ → K11 s := by
   intro l19 hq s hw
   subst o20
   try dsimp only at h1
   exact hK11 _ (AW.weaken hw (AW.regionO rfl (zm tb 2 rfl (AO.done (xi (Sh.w (t4 + 1), l19) h1 (Wk.tr rfl))))))
  refine AW.block (AW.loopF (σ := Int × (List Int)) (fun n v => impl_visitSteps_2_B_L2 c13 rec_impl_visitSteps_2 n v.1 v.2 = some o20) (fun (t17, l18) => ⟨30, envL [(1, (.fn 53 [(.ptr 0 0 0 0)])), (9, (ls eStep p0.steps)), (10, (i64 (Sh.len p0.steps))), (11, (i64 t4)), (19, (ls eBlock c13.kids)), (20, (i64 (Sh.len c13.kids))), (21, (i64 t17))], [⟨0, 37, 1, [[(ow 1 0 l18)]]⟩, (ro 0 3 1 eI l18)]⟩) N (0, q15) h2 (Wk.permk (L := [(1, (.fn 53 [(.ptr 0 0 0 0)])), (9, (ls eStep p0.steps)), (10, (i64 (Sh.len p0.steps))), (11, (i64 t4)), (19, (ls eBlock c13.kids)), (20, (i64 (Sh.len c13.kids))), (21, (i64 0))]) (st' := [⟨0, 37, 1, [[(ow 1 0 q15)]]⟩, (ro 0 3 1 eI q15)]) (st1 := [⟨0, 37, 1, [[(ow 1 0 q15)]]⟩, (ro 0 3 1 eI q15)]) [0, 1] rfl (.raw rfl rfl (.pure (pure_map fun _ => rfl) .nil)) (by decide) rfl rfl (.raw rfl rfl (.pure (pure_map fun _ => rfl) .nil)) ⟨.rfl, .rfl, .rfl, .rfl, .rfl, .rfl, .rfl, trivial⟩) (fun _ hv => by rw [impl_visitSteps_2_B_L2] at hv; cases hv) ?_)
  rintro n ⟨t17, l18⟩ h2
  try dsimp only at h2 ⊢
  rw [impl_visitSteps_2_B_L2] at h2
  refine zr tb rfl rfl (AW.seq fun K22 hK22 => ?_)
  refine ci h2 rfl ?_ ?_ <;> clear h2
  ·intro b23 h2
   refine AW.skip (hK22 _ (AW.seq fun K24 hK24 => AW.block (sr rfl fun K25 hK25 => bs h2 fun c26 gc26 h2 => zx ei69 gc26 rfl rfl rfl (zq tb rfl (ao_alloc (m := 2) (st' := [⟨0, 37, 1, [[(ow 1 0 l18)]]⟩, (ro 0 3 1 eI l18), ⟨0, 55, 2, [[.zc, (i64 0)]]⟩]) go0 zi55 rfl rfl (ao_str (st' := [⟨0, 37, 1, [[(ow 1 0 l18)]]⟩, (ro 0 3 1 eI l18), ⟨0, 55, 2, [[(ls eStep c26.steps), (i64 c26.result)]]⟩]) go0 ti55 rfl rfl rfl rfl rfl rfl (show 0 + 2 ≤ 2 by decide) rfl (dn hK25 rfl (AW.regionO rfl (zm tb 2 rfl ?_)))))))))
   refine bs h2 fun q27 gq27 h2 => ?_
   refine ao_callsL (rowsP := [⟨0, 37, 1, [[(.own 1 0 (List.length l18))]]⟩, ⟨0, 3, 1, List.map eI l18⟩]) (rows0 := [⟨0, 37, 1, [[(.own 1 0 (List.length l18))]]⟩, ⟨0, 3, 1, List.map eI l18⟩]) (rows1 := [⟨0, 37, 1, [[(.own 1 0 (List.length q27))]]⟩, ⟨0, 3, 1, List.map eI q27⟩]) (rows2 := []) (rows1' := [⟨0, 37, 1, [[(.own 1 0 (List.length q27))]]⟩, ⟨0, 3, 1, List.map eI q27⟩]) (rows2' := []) (st' := [⟨0, 37, 1, [[(.own 1 0 (List.length q27))]]⟩, ⟨0, 3, 1, List.map eI q27⟩, ⟨0, 55, 2, [[(.sl (List.map eStep c26.steps)), (i64 c26.result)]]⟩]) (v' := (.tup [])) [0, 1] go0 hb52 (hrec_impl_visitSteps_2 gq27) rfl (by decide) rfl rfl (.raw rfl rfl (.pure (pure_map fun _ => rfl) .nil)) rfl rfl (.raw rfl rfl (.pure (pure_map fun _ => rfl) .nil)) .nil rfl rfl (fun hln => ?_)
   have ln28 : List.length q27 = List.length l18 := by simpa only [List.length_map] using hln 1 _ _ rfl rfl rfl
   refine dn hK24 rfl (AW.regionO rfl (zm tb 2 rfl ?_))
   exact AO.done (xi (Sh.w (t17 + 1), q27) h2 (Wk.permk (L := [(1, (.fn 53 [(.ptr 0 0 0 0)])), (9, (ls eStep p0.steps)), (10, (i64 (Sh.len p0.steps))), (11, (i64 t4)), (19, (ls eBlock c13.kids)), (20, (i64 (Sh.len c13.kids))), (21, (i64 (Sh.w (t17 + 1))))]) (st' := [⟨0, 37, 1, [[(ow 1 0 q27)]]⟩, (ro 0 3 1 eI q27)]) (st1 := [⟨0, 37, 1, [[(ow 1 0 q27)]]⟩, (ro 0 3 1 eI q27)]) [0, 1] rfl (.raw rfl rfl (.pure (pure_map fun _ => rfl) .nil)) (by decide) rfl rfl (.raw rfl rfl (.pure (pure_map fun _ => rfl) .nil)) ⟨.rfl, .rfl, .rfl, .rfl, .rfl, .rfl, .rfl, trivial⟩))
  ·intro b23 h2
   exact AW.exit (M20 l18 (Sh.some_eq h2).symm _ (Wk.tr rfl))
 ·intro b10 h1
  exact AW.exit (M7 l5 (Sh.some_eq h1).symm _ (Wk.tr rfl))

theorem impl_visitSteps_2_F_ok {N : Nat} : ∀ (n : Nat), ∀ {s1 : (List Int)} {p0 : Block} {r : (List Int)}, impl_visitSteps_2_F N n s1 p0 = some r → ACalls Tryz.prog 52 [(.agg [(ls eStep p0.steps), (i64 p0.result)]), (.fn 53 [(.ptr 0 0 0 0)])] [⟨0, 37, 1, [[(ow 1 0 s1)]]⟩, (ro 0 3 1 eI s1)] (fun v st => v = (.tup []) ∧ st = [⟨0, 37, 1, [[(ow 1 0 r)]]⟩, (ro 0 3 1 eI r)]) := by
 intro n
 induction n with
 | zero => intro s1 p0 r h0; cases h0
 | succ n ih =>
  intro s1 p0 r h0
  rw [impl_visitSteps_2_F] at h0
  exact impl_visitSteps_2_B_ok (fun h => ih h) h0
theorem impl_visitSteps_2_ok {N : Nat} : ∀ {s1 : (List Int)} {p0 : Block} {r : (List Int)}, impl_visitSteps_2 N s1 p0 = some r → ACalls Tryz.prog 52 [(.agg [(ls eStep p0.steps), (i64 p0.result)]), (.fn 53 [(.ptr 0 0 0 0)])] [⟨0, 37, 1, [[(ow 1 0 s1)]]⟩, (ro 0 3 1 eI s1)] (fun v st => v = (.tup []) ∧ st = [⟨0, 37, 1, [[(ow 1 0 r)]]⟩, (ro 0 3 1 eI r)]) := by
 intro s1 p0 r h0
 exact impl_visitSteps_2_F_ok N h0
theorem impl_CountsOf_ok {N : Nat} {p0 : RNormal} {r : (List Int)} (h0 : impl_CountsOf N p0 = some r) : ACalls Tryz.prog 18 [(.agg [(ls eRDecl p0.decls), (ls eRRoutine p0.routines)])] [] (fun v st => v = (ow 0 0 r) ∧ st = [(ro 0 3 1 eI r)]) := by
 unfold impl_CountsOf at h0
 refine ai Tryz.func18 rfl rfl rfl rfl (sr rfl fun K1 hK1 => ao_box (m := 0) (st' := [(wE12 p0)]) go0 rfl rfl rfl rfl rfl (zq tb rfl (dn hK1 rfl (AW.seq fun K2 hK2 => sr rfl fun K3 hK3 => zq tb rfl (bs h0 fun q4 gq4 h0 => zc hb51 (impl_ValidNormal_ok gq4) rfl rfl rfl (zq tb rfl (dn hK3 rfl ?_)))))))
 refine ci h0 rfl ?_ ?_ <;> clear h0
 ·intro b5 h0
  have b6 : q4 = false := by simpa using b5
  refine zr tb rfl rfl ?_
  replace h0 := Sh.some_eq h0
  subst r
  exact AW.ret (Exists.intro _ (And.intro ((((Wk.adopt (t := 2) rfl 3 (size := 1) (by decide)).trans (Wk.to (L := [(2, (.own 1 0 (List.length ([] : List Int))))]) ⟨.rfl, trivial⟩)).trans (Wk.permk (L := [(2, (.own 0 0 (List.length ([] : List Int))))]) (st' := [(ro 0 3 1 eI ([] : List Int))]) (st1 := [(ro 0 3 1 eI ([] : List Int))]) [1] rfl .nil (by decide) rfl rfl (.pure (pure_map fun _ => rfl) .nil) ⟨.rfl, trivial⟩)).trans (Wk.to (L := [(2, (.own 0 0 (List.length ([] : List Int))))]) ⟨.rfl, trivial⟩)) (And.intro rfl rfl)))
 ·intro b5 h0
  have b8 : q4 = true := by simpa using b5
  refine AW.skip (hK2 _ (sr rfl fun K9 hK9 => bs h0 fun l10 gl10 h0 => ao_make (m := 1) (st' := [(wE12 p0), (ro 0 3 1 eI l10)]) (enc := eI) (u := 0) go0 ei37 rfl rfl rfl gl10 rfl rfl (ao_alloc (m := 2) (st' := [(wE12 p0), (ro 0 3 1 eI l10), ⟨0, 37, 1, [[.zc]]⟩]) go0 zi37 rfl rfl (ao_str (st' := [(wE12 p0), (ro 0 3 1 eI l10), ⟨0, 37, 1, [[(ow 1 0 l10)]]⟩]) go0 ti37 rfl rfl rfl rfl rfl rfl (show 0 + 1 ≤ 1 by decide) rfl (dn hK9 rfl (AW.seq fun K11 hK11 => sr rfl fun K12 hK12 => zm tb 2 rfl (zl tb rfl rfl (zq tb rfl ?_))))))))
  refine dn hK12 rfl (bs h0 fun o16 h1 h0 => ?_)
  have M16 : ∀ (l15 : (List Int)), o16 = l15 → ∀ s, Wk 0 s ⟨23, envL [(3, (.ptr 1 0 0 0))], [(ro 0 3 1 eI l15), ⟨0, 37, 1, [[(ow 0 0 l15)]]⟩]⟩ → K11 s := by
   intro l15 hq s hw
   subst o16
   try dsimp only at h0
   refine hK11 _ (AW.weaken hw (zr tb rfl rfl ?_))
   replace h0 := Sh.some_eq h0
   subst r
   exact AW.ret (xr (Wk.permk (L := [(2, (ow 0 0 l15))]) (st' := [(ro 0 3 1 eI l15)]) (st1 := [(ro 0 3 1 eI l15)]) [0] rfl .nil (by decide) rfl rfl (.pure (pure_map fun _ => rfl) .nil) ⟨.rfl, trivial⟩))
  refine AW.block (AW.loopF (σ := Int × (List Int)) (fun n v => impl_CountsOf_L1 N p0 n v.1 v.2 = some o16) (fun (t13, l14) => ⟨23, envL [(3, (.ptr 1 0 0 0)), (11, (ls eRRoutine p0.routines)), (12, (i64 (Sh.len p0.routines))), (13, (i64 t13))], [(ro 0 3 1 eI l14), ⟨0, 37, 1, [[(ow 0 0 l14)]]⟩]⟩) N (0, l10) h1 (Wk.permk (L := [(3, (.ptr 1 0 0 0)), (11, (ls eRRoutine p0.routines)), (12, (i64 (Sh.len p0.routines))), (13, (i64 0))]) (st' := [(ro 0 3 1 eI l10), ⟨0, 37, 1, [[(ow 0 0 l10)]]⟩]) (st1 := [(ro 0 3 1 eI l10), ⟨0, 37, 1, [[(ow 1 0 l10)]]⟩]) [1, 2] rfl .nil (by decide) rfl rfl (.pure (pure_map fun _ => rfl) (.raw rfl rfl .nil)) ⟨.rfl, .rfl, .rfl, .rfl, trivial⟩) (fun _ hv => by rw [impl_CountsOf_L1] at hv; cases hv) ?_)
  rintro n ⟨t13, l14⟩ h1
  try dsimp only at h1 ⊢
  rw [impl_CountsOf_L1] at h1
  refine zr tb rfl rfl (AW.seq fun K19 hK19 => ?_)
  refine ci h1 rfl ?_ ?_ <;> clear h1
  ·intro b20 h1
   refine AW.skip (hK19 _ (AW.seq fun K21 hK21 => AW.block (sr rfl fun K22 hK22 => bs h1 fun c23 gc23 h1 => zx ei28 gc23 rfl rfl rfl (zq tb rfl (ao_alloc (m := 2) (st' := [(ro 0 3 1 eI l14), ⟨0, 37, 1, [[(ow 0 0 l14)]]⟩, ⟨0, 57, 5, [[.zc, .zc, (i64 0), .zc, (i64 0)]]⟩]) go0 zi57 rfl rfl (ao_str (st' := [(ro 0 3 1 eI l14), ⟨0, 37, 1, [[(ow 0 0 l14)]]⟩, ⟨0, 57, 5, [[(ls eI c23.params), (ls eI c23.lent), (i64 c23.result), (ls eStep c23.body.steps), (i64 c23.body.result)]]⟩]) go0 ti57 rfl rfl rfl rfl rfl rfl (show 0 + 5 ≤ 5 by decide) rfl (dn hK22 rfl (AW.regionO rfl (zm tb 2 rfl ?_)))))))))
   refine zz (.fn 53 [(.ptr 1 0 0 0)]) (aq_fn rfl) rfl (bs h1 fun q24 gq24 h1 => ?_)
   refine ao_callsL (rowsP := [⟨0, 37, 1, [[(.own 0 0 (List.length l14))]]⟩, ⟨0, 3, 1, List.map eI l14⟩]) (rows0 := [⟨0, 37, 1, [[(.own 1 0 (List.length l14))]]⟩, ⟨0, 3, 1, List.map eI l14⟩]) (rows1 := [⟨0, 37, 1, [[(.own 1 0 (List.length q24))]]⟩, ⟨0, 3, 1, List.map eI q24⟩]) (rows2 := []) (rows1' := [⟨0, 37, 1, [[(.own 0 0 (List.length q24))]]⟩, ⟨0, 3, 1, List.map eI q24⟩]) (rows2' := []) (st' := [⟨0, 3, 1, List.map eI q24⟩, ⟨0, 37, 1, [[(.own 0 0 (List.length q24))]]⟩, ⟨0, 57, 5, [[(.sl (List.map eI c23.params)), (.sl (List.map eI c23.lent)), (i64 c23.result), (.sl (List.map eStep c23.body.steps)), (i64 c23.body.result)]]⟩]) (v' := (.tup [])) [1, 0] go0 hb52 (impl_visitSteps_2_ok gq24) rfl (by decide) rfl rfl (.raw rfl rfl (.pure (pure_map fun _ => rfl) .nil)) rfl rfl (.raw rfl rfl (.pure (pure_map fun _ => rfl) .nil)) .nil rfl rfl (fun hln => ?_)
   have ln25 : List.length q24 = List.length l14 := by simpa only [List.length_map] using hln 1 _ _ rfl rfl rfl
   refine dn hK21 rfl (AW.regionO rfl (zm tb 2 rfl ?_))
   exact AO.done (xi (Sh.w (t13 + 1), q24) h1 (Wk.permk (L := [(3, (.ptr 1 0 0 0)), (11, (ls eRRoutine p0.routines)), (12, (i64 (Sh.len p0.routines))), (13, (i64 (Sh.w (t13 + 1))))]) (st' := [(ro 0 3 1 eI q24), ⟨0, 37, 1, [[(ow 0 0 q24)]]⟩]) (st1 := [(ro 0 3 1 eI q24), ⟨0, 37, 1, [[(ow 0 0 q24)]]⟩]) [0, 1] rfl .nil (by decide) rfl rfl (.pure (pure_map fun _ => rfl) (.raw rfl rfl .nil)) ⟨.rfl, .rfl, .rfl, .rfl, trivial⟩))
  ·intro b20 h1
   exact AW.exit (M16 l14 (Sh.some_eq h1).symm _ (Wk.tr rfl))
theorem laws_eqIntS_ok {N : Nat} {p0 : (List Int)} {p1 : (List Int)} {r : Bool} (h0 : laws_eqIntS N p0 p1 = some r) : ACalls Tryz.prog 19 [(ls eI p0), (ls eI p1)] [] (fun v st => v = (.bool r) ∧ st = []) := by
 unfold laws_eqIntS at h0
 refine ai Tryz.func19 rfl rfl rfl rfl (zr tb rfl rfl (AW.seq fun K2 hK2 => sr rfl fun K3 hK3 => zq tb rfl (zl tb rfl rfl (zq tb rfl (zl tb rfl rfl (zq tb rfl (dn hK3 rfl ?_)))))))
 refine ci h0 rfl ?_ ?_ <;> clear h0
 ·intro b4 h0
  have b5 : decide ((Sh.len p0) = (Sh.len p1)) = false := by simpa using b4
  refine zr tb rfl rfl ?_
  replace h0 := Sh.some_eq h0
  subst r
  exact AW.ret (xr (Wk.to (L := [(4, (.bool false))]) ⟨.rfl, trivial⟩))
 ·intro b4 h0
  have b7 : decide ((Sh.len p0) = (Sh.len p1)) = true := by simpa using b4
  refine AW.skip (hK2 _ (AW.seq fun K8 hK8 => zr tb rfl rfl ?_))
  obtain ⟨o11, h1, h0⟩ := Sh.cont_some h0
  have M11 : ∀ (_ : Unit), o11 = Sum.inr () → ∀ s, Wk 0 s ⟨26, envL [], []⟩ → K8 s := by
   intro _ hq s hw
   subst o11
   try dsimp only at h0
   refine hK8 _ (AW.weaken hw (zr tb rfl rfl ?_))
   replace h0 := Sh.some_eq h0
   subst r
   exact AW.ret (xr (Wk.to (L := [(4, (.bool true))]) ⟨.rfl, trivial⟩))
  refine AW.block (AW.loopF (σ := Int) (fun n v => laws_eqIntS_L1 p0 p1 n v = some o11) (fun i10 => ⟨26, envL [(0, (ls eI p0)), (1, (ls eI p1)), (5, (i64 i10))], []⟩) N 0 h1 (Wk.tr rfl) (fun _ hv => by rw [laws_eqIntS_L1] at hv; cases hv) ?_)
  rintro n i10 h1
  try dsimp only at h1 ⊢
  rw [laws_eqIntS_L1] at h1
  refine AW.seq fun K13 hK13 => sr rfl fun K14 hK14 => zm tb 2 rfl (zl tb rfl rfl (zq tb rfl (dn hK14 rfl ?_)))
  refine ci h1 rfl ?_ ?_ <;> clear h1
  ·intro b15 h1
   refine AW.skip (hK13 _ (AW.seq fun K16 hK16 => AW.block (AW.seq fun K17 hK17 => ?_)))
   refine AW.draw (by kernel_rfl) (by kernel_rfl) (by rfl) ?_
   iterate 2 refine yq tb rfl ?_
   refine bs h1 fun c18 gc18 h1 => yx ei37 gc18 rfl rfl rfl ?_
   iterate 3 refine yq tb rfl ?_
   refine bs h1 fun c19 gc19 h1 => yx ei37 gc19 rfl rfl rfl ?_
   iterate 2 refine yq tb rfl ?_
   refine d_done (hK17 _ ?_)
   refine ci h1 rfl ?_ ?_ <;> clear h1
   ·intro b20 h1
    have b21 : decide (c18 = c19) = false := by simpa using b20
    refine zr tb rfl rfl ?_
    replace h1 := Sh.some_eq h1
    subst o11
    try dsimp only [id] at h0
    replace h0 := Sh.some_eq h0
    subst r
    exact AW.ret (xr (Wk.to (L := [(4, (.bool false))]) ⟨.rfl, trivial⟩))
   ·intro b20 h1
    have b23 : decide (c18 = c19) = true := by simpa using b20
    exact AW.skip (hK16 _ (AW.regionO rfl (zm tb 3 rfl (AO.done (xi (Sh.w (i10 + 1)) h1 (Wk.tr rfl))))))
  ·intro b15 h1
   exact AW.exit (M11 () (Sh.some_eq h1).symm _ (Wk.tr rfl))
theorem laws_eqCon_ok {N : Nat} {p0 : RCon} {p1 : RCon} {r : Bool} (h0 : laws_eqCon N p0 p1 = some r) : ACalls Tryz.prog 187 [(.agg (eRCon p0)), (.agg (eRCon p1))] [] (fun v st => v = (.bool r) ∧ st = []) := by
 unfold laws_eqCon at h0
 refine ai Tryz.func187 rfl rfl rfl rfl (sr rfl fun K1 hK1 => ao_box (m := 0) (st' := [⟨0, 134, 1, [(eRCon p0)]⟩]) go0 rfl rfl rfl rfl rfl (ao_box (m := 1) (st' := [⟨0, 134, 1, [(eRCon p0)]⟩, ⟨0, 134, 1, [(eRCon p1)]⟩]) go0 rfl rfl rfl rfl rfl (zq tb rfl (dn hK1 rfl (AW.seq fun K2 hK2 => sr rfl fun K3 hK3 => zm tb 4 rfl (bs h0 fun q4 gq4 h0 => zc hb19 (laws_eqIntS_ok gq4) rfl rfl rfl (zq tb rfl ?_)))))))
 refine dn hK3 rfl ?_
 refine ci h0 rfl ?_ ?_ <;> clear h0
 ·intro b5 h0
  have b6 : q4 = false := by simpa using b5
  refine zr tb rfl rfl ?_
  replace h0 := Sh.some_eq h0
  subst r
  exact AW.ret (xr (Wk.d0 [(4, (.bool false))] rfl))
 ·intro b5 h0
  have b8 : q4 = true := by simpa using b5
  refine AW.skip (hK2 _ (zr tb rfl rfl ?_))
  replace h0 := Sh.some_eq h0
  subst r
  exact AW.ret (xr (Wk.d0 [(4, (.bool true))] rfl))
theorem laws_eqConS_ok {N : Nat} {p0 : (List RCon)} {p1 : (List RCon)} {r : Bool} (h0 : laws_eqConS N p0 p1 = some r) : ACalls Tryz.prog 141 [(ls eRCon p0), (ls eRCon p1)] [] (fun v st => v = (.bool r) ∧ st = []) := by
 unfold laws_eqConS at h0
 refine ai Tryz.func141 rfl rfl rfl rfl (zr tb rfl rfl (AW.seq fun K2 hK2 => sr rfl fun K3 hK3 => zq tb rfl (zl tb rfl rfl (zq tb rfl (zl tb rfl rfl (zq tb rfl (dn hK3 rfl ?_)))))))
 refine ci h0 rfl ?_ ?_ <;> clear h0
 ·intro b4 h0
  have b5 : decide ((Sh.len p0) = (Sh.len p1)) = false := by simpa using b4
  refine zr tb rfl rfl ?_
  replace h0 := Sh.some_eq h0
  subst r
  exact AW.ret (xr (Wk.to (L := [(4, (.bool false))]) ⟨.rfl, trivial⟩))
 ·intro b4 h0
  have b7 : decide ((Sh.len p0) = (Sh.len p1)) = true := by simpa using b4
  refine AW.skip (hK2 _ (AW.seq fun K8 hK8 => zr tb rfl rfl ?_))
  obtain ⟨o11, h1, h0⟩ := Sh.cont_some h0
  have M11 : ∀ (_ : Unit), o11 = Sum.inr () → ∀ s, Wk 0 s ⟨27, envL [], []⟩ → K8 s := by
   intro _ hq s hw
   subst o11
   try dsimp only at h0
   refine hK8 _ (AW.weaken hw (zr tb rfl rfl ?_))
   replace h0 := Sh.some_eq h0
   subst r
   exact AW.ret (xr (Wk.to (L := [(4, (.bool true))]) ⟨.rfl, trivial⟩))
  refine AW.block (AW.loopF (σ := Int) (fun n v => laws_eqConS_L1 N p0 p1 n v = some o11) (fun i10 => ⟨27, envL [(0, (ls eRCon p0)), (1, (ls eRCon p1)), (5, (i64 i10))], []⟩) N 0 h1 (Wk.tr rfl) (fun _ hv => by rw [laws_eqConS_L1] at hv; cases hv) ?_)
  rintro n i10 h1
  try dsimp only at h1 ⊢
  rw [laws_eqConS_L1] at h1
  refine AW.seq fun K13 hK13 => sr rfl fun K14 hK14 => zm tb 2 rfl (zl tb rfl rfl (zq tb rfl (dn hK14 rfl ?_)))
  refine ci h1 rfl ?_ ?_ <;> clear h1
  ·intro b15 h1
   refine AW.skip (hK13 _ (AW.seq fun K16 hK16 => AW.block (AW.seq fun K17 hK17 => ?_)))
   refine AW.draw (by kernel_rfl) (by kernel_rfl) (by rfl) ?_
   iterate 2 refine yq tb rfl ?_
   refine bs h1 fun c18 gc18 h1 => yx ei96 gc18 rfl rfl rfl ?_
   iterate 3 refine yq tb rfl ?_
   refine bs h1 fun c19 gc19 h1 => yx ei96 gc19 rfl rfl rfl (yq tb rfl (bs h1 fun q20 gq20 h1 => d_call (v := (.bool q20)) go0 hb187 (laws_eqCon_ok gq20) rfl rfl rfl (yq tb rfl (d_done (hK17 _ ?_)))))
   refine ci h1 rfl ?_ ?_ <;> clear h1
   ·intro b21 h1
    have b22 : q20 = false := by simpa using b21
    refine zr tb rfl rfl ?_
    replace h1 := Sh.some_eq h1
    subst o11
    try dsimp only [id] at h0
    replace h0 := Sh.some_eq h0
    subst r
    exact AW.ret (xr (Wk.to (L := [(4, (.bool false))]) ⟨.rfl, trivial⟩))
   ·intro b21 h1
    have b24 : q20 = true := by simpa using b21
    exact AW.skip (hK16 _ (AW.regionO rfl (zm tb 3 rfl (AO.done (xi (Sh.w (i10 + 1)) h1 (Wk.tr rfl))))))
  ·intro b15 h1
   exact AW.exit (M11 () (Sh.some_eq h1).symm _ (Wk.tr rfl))
theorem laws_eqDecl_ok {N : Nat} {p0 : RDecl} {p1 : RDecl} {r : Bool} (h0 : laws_eqDecl N p0 p1 = some r) : ACalls Tryz.prog 89 [(.agg (eRDecl p0)), (.agg (eRDecl p1))] [] (fun v st => v = (.bool r) ∧ st = []) := by
 unfold laws_eqDecl at h0
 refine ai Tryz.func89 rfl rfl rfl rfl (sr rfl fun K1 hK1 => ao_box (m := 0) (st' := [⟨0, 98, 3, [(eRDecl p0)]⟩]) go0 rfl rfl rfl rfl rfl (ao_box (m := 1) (st' := [⟨0, 98, 3, [(eRDecl p0)]⟩, ⟨0, 98, 3, [(eRDecl p1)]⟩]) go0 rfl rfl rfl rfl rfl (zq tb rfl (dn hK1 rfl (AW.seq fun K2 hK2 => zr tb rfl rfl ?_)))))
 refine ci h0 rfl ?_ ?_ <;> clear h0
 ·intro b4 h0
  have b5 : decide (p0.from_ = p1.from_) = false := by simpa using b4
  refine zr tb rfl rfl ?_
  replace h0 := Sh.some_eq h0
  subst r
  exact AW.ret (xr (Wk.d0 [(4, (.bool false))] rfl))
 ·intro b4 h0
  have b7 : decide (p0.from_ = p1.from_) = true := by simpa using b4
  refine AW.skip (hK2 _ (AW.seq fun K8 hK8 => zr tb rfl rfl ?_))
  refine ci h0 rfl ?_ ?_ <;> clear h0
  ·intro b10 h0
   have b11 : decide (p0.to = p1.to) = false := by simpa using b10
   refine zr tb rfl rfl ?_
   replace h0 := Sh.some_eq h0
   subst r
   exact AW.ret (xr (Wk.d0 [(4, (.bool false))] rfl))
  ·intro b10 h0
   have b13 : decide (p0.to = p1.to) = true := by simpa using b10
   refine AW.skip (hK8 _ (AW.seq fun K14 hK14 => sr rfl fun K15 hK15 => zm tb 4 rfl (bs h0 fun q16 gq16 h0 => zc hb141 (laws_eqConS_ok gq16) rfl rfl rfl (zq tb rfl (dn hK15 rfl ?_)))))
   refine ci h0 rfl ?_ ?_ <;> clear h0
   ·intro b17 h0
    have b18 : q16 = false := by simpa using b17
    refine zr tb rfl rfl ?_
    replace h0 := Sh.some_eq h0
    subst r
    exact AW.ret (xr (Wk.d0 [(4, (.bool false))] rfl))
   ·intro b17 h0
    have b20 : q16 = true := by simpa using b17
    refine AW.skip (hK14 _ (zr tb rfl rfl ?_))
    replace h0 := Sh.some_eq h0
    subst r
    exact AW.ret (xr (Wk.d0 [(4, (.bool true))] rfl))
theorem laws_eqDeclS_ok {N : Nat} {p0 : (List RDecl)} {p1 : (List RDecl)} {r : Bool} (h0 : laws_eqDeclS N p0 p1 = some r) : ACalls Tryz.prog 41 [(ls eRDecl p0), (ls eRDecl p1)] [] (fun v st => v = (.bool r) ∧ st = []) := by
 unfold laws_eqDeclS at h0
 refine ai Tryz.func41 rfl rfl rfl rfl (zr tb rfl rfl (AW.seq fun K2 hK2 => sr rfl fun K3 hK3 => zq tb rfl (zl tb rfl rfl (zq tb rfl (zl tb rfl rfl (zq tb rfl (dn hK3 rfl ?_)))))))
 refine ci h0 rfl ?_ ?_ <;> clear h0
 ·intro b4 h0
  have b5 : decide ((Sh.len p0) = (Sh.len p1)) = false := by simpa using b4
  refine zr tb rfl rfl ?_
  replace h0 := Sh.some_eq h0
  subst r
  exact AW.ret (xr (Wk.to (L := [(4, (.bool false))]) ⟨.rfl, trivial⟩))
 ·intro b4 h0
  have b7 : decide ((Sh.len p0) = (Sh.len p1)) = true := by simpa using b4
  refine AW.skip (hK2 _ (AW.seq fun K8 hK8 => zr tb rfl rfl ?_))
  obtain ⟨o11, h1, h0⟩ := Sh.cont_some h0
  have M11 : ∀ (_ : Unit), o11 = Sum.inr () → ∀ s, Wk 0 s ⟨27, envL [], []⟩ → K8 s := by
   intro _ hq s hw
   subst o11
   try dsimp only at h0
   refine hK8 _ (AW.weaken hw (zr tb rfl rfl ?_))
   replace h0 := Sh.some_eq h0
   subst r
   exact AW.ret (xr (Wk.to (L := [(4, (.bool true))]) ⟨.rfl, trivial⟩))
  refine AW.block (AW.loopF (σ := Int) (fun n v => laws_eqDeclS_L1 N p0 p1 n v = some o11) (fun i10 => ⟨27, envL [(0, (ls eRDecl p0)), (1, (ls eRDecl p1)), (5, (i64 i10))], []⟩) N 0 h1 (Wk.tr rfl) (fun _ hv => by rw [laws_eqDeclS_L1] at hv; cases hv) ?_)
  rintro n i10 h1
  try dsimp only at h1 ⊢
  rw [laws_eqDeclS_L1] at h1
  refine AW.seq fun K13 hK13 => sr rfl fun K14 hK14 => zm tb 2 rfl (zl tb rfl rfl (zq tb rfl (dn hK14 rfl ?_)))
  refine ci h1 rfl ?_ ?_ <;> clear h1
  ·intro b15 h1
   refine AW.skip (hK13 _ (AW.seq fun K16 hK16 => AW.block (AW.seq fun K17 hK17 => ?_)))
   refine AW.draw (by kernel_rfl) (by kernel_rfl) (by rfl) ?_
   iterate 2 refine yq tb rfl ?_
   refine bs h1 fun c18 gc18 h1 => yx ei27 gc18 rfl rfl rfl ?_
   iterate 3 refine yq tb rfl ?_
   refine bs h1 fun c19 gc19 h1 => yx ei27 gc19 rfl rfl rfl (yq tb rfl (bs h1 fun q20 gq20 h1 => d_call (v := (.bool q20)) go0 hb89 (laws_eqDecl_ok gq20) rfl rfl rfl (yq tb rfl (d_done (hK17 _ ?_)))))
   refine ci h1 rfl ?_ ?_ <;> clear h1
   ·intro b21 h1
    have b22 : q20 = false := by simpa using b21
    refine zr tb rfl rfl ?_
    replace h1 := Sh.some_eq h1
    subst o11
    try dsimp only [id] at h0
    replace h0 := Sh.some_eq h0
    subst r
    exact AW.ret (xr (Wk.to (L := [(4, (.bool false))]) ⟨.rfl, trivial⟩))
   ·intro b21 h1
    have b24 : q20 = true := by simpa using b21
    exact AW.skip (hK16 _ (AW.regionO rfl (zm tb 3 rfl (AO.done (xi (Sh.w (i10 + 1)) h1 (Wk.tr rfl))))))
  ·intro b15 h1
   exact AW.exit (M11 () (Sh.some_eq h1).symm _ (Wk.tr rfl))
theorem laws_eqBlockS_ok {N : Nat} {rec_laws_eqBlock : Block → Block → Option (Bool)} (hrec_laws_eqBlock : ∀ {p0 : Block} {p1 : Block} {r : Bool}, rec_laws_eqBlock p0 p1 = some r → ACalls Tryz.prog 142 [(.agg [(ls eStep p0.steps), (i64 p0.result)]), (.agg [(ls eStep p1.steps), (i64 p1.result)])] [] (fun v st => v = (.bool r) ∧ st = [])) {p0 : (List Block)} {p1 : (List Block)} {r : Bool} (h0 : laws_eqBlockS N rec_laws_eqBlock p0 p1 = some r) : ACalls Tryz.prog 231 [(ls eBlock p0), (ls eBlock p1)] [] (fun v st => v = (.bool r) ∧ st = []) := by
 unfold laws_eqBlockS at h0
 refine ai Tryz.func231 rfl rfl rfl rfl (zr tb rfl rfl (AW.seq fun K2 hK2 => sr rfl fun K3 hK3 => zq tb rfl (zl tb rfl rfl (zq tb rfl (zl tb rfl rfl (zq tb rfl (dn hK3 rfl ?_)))))))
 refine ci h0 rfl ?_ ?_ <;> clear h0
 ·intro b4 h0
  have b5 : decide ((Sh.len p0) = (Sh.len p1)) = false := by simpa using b4
  refine zr tb rfl rfl ?_
  replace h0 := Sh.some_eq h0
  subst r
  exact AW.ret (xr (Wk.to (L := [(4, (.bool false))]) ⟨.rfl, trivial⟩))
 ·intro b4 h0
  have b7 : decide ((Sh.len p0) = (Sh.len p1)) = true := by simpa using b4
  refine AW.skip (hK2 _ (AW.seq fun K8 hK8 => zr tb rfl rfl ?_))
  obtain ⟨o11, h1, h0⟩ := Sh.cont_some h0
  have M11 : ∀ (_ : Unit), o11 = Sum.inr () → ∀ s, Wk 0 s ⟨27, envL [], []⟩ → K8 s := by
   intro _ hq s hw
   subst o11
   try dsimp only at h0
   refine hK8 _ (AW.weaken hw (zr tb rfl rfl ?_))
   replace h0 := Sh.some_eq h0
   subst r
   exact AW.ret (xr (Wk.to (L := [(4, (.bool true))]) ⟨.rfl, trivial⟩))
  refine AW.block (AW.loopF (σ := Int) (fun n v => laws_eqBlockS_L1 p0 p1 rec_laws_eqBlock n v = some o11) (fun i10 => ⟨27, envL [(0, (ls eBlock p0)), (1, (ls eBlock p1)), (5, (i64 i10))], []⟩) N 0 h1 (Wk.tr rfl) (fun _ hv => by rw [laws_eqBlockS_L1] at hv; cases hv) ?_)
  rintro n i10 h1
  try dsimp only at h1 ⊢
  rw [laws_eqBlockS_L1] at h1
  refine AW.seq fun K13 hK13 => sr rfl fun K14 hK14 => zm tb 2 rfl (zl tb rfl rfl (zq tb rfl (dn hK14 rfl ?_)))
  refine ci h1 rfl ?_ ?_ <;> clear h1
  ·intro b15 h1
   refine AW.skip (hK13 _ (AW.seq fun K16 hK16 => AW.block (AW.seq fun K17 hK17 => ?_)))
   refine AW.draw (by kernel_rfl) (by kernel_rfl) (by rfl) ?_
   iterate 2 refine yq tb rfl ?_
   refine bs h1 fun c18 gc18 h1 => yx ei69 gc18 rfl rfl rfl ?_
   iterate 3 refine yq tb rfl ?_
   refine bs h1 fun c19 gc19 h1 => yx ei69 gc19 rfl rfl rfl (yq tb rfl (bs h1 fun q20 gq20 h1 => d_call (v := (.bool q20)) go0 hb142 (hrec_laws_eqBlock gq20) rfl rfl rfl (yq tb rfl (d_done (hK17 _ ?_)))))
   refine ci h1 rfl ?_ ?_ <;> clear h1
   ·intro b21 h1
    have b22 : q20 = false := by simpa using b21
    refine zr tb rfl rfl ?_
    replace h1 := Sh.some_eq h1
    subst o11
    try dsimp only [id] at h0
    replace h0 := Sh.some_eq h0
    subst r
    exact AW.ret (xr (Wk.to (L := [(4, (.bool false))]) ⟨.rfl, trivial⟩))
   ·intro b21 h1
    have b24 : q20 = true := by simpa using b21
    exact AW.skip (hK16 _ (AW.regionO rfl (zm tb 3 rfl (AO.done (xi (Sh.w (i10 + 1)) h1 (Wk.tr rfl))))))
  ·intro b15 h1
   exact AW.exit (M11 () (Sh.some_eq h1).symm _ (Wk.tr rfl))
theorem laws_eqStep_ok {N : Nat} {rec_laws_eqBlock : Block → Block → Option (Bool)} (hrec_laws_eqBlock : ∀ {p0 : Block} {p1 : Block} {r : Bool}, rec_laws_eqBlock p0 p1 = some r → ACalls Tryz.prog 142 [(.agg [(ls eStep p0.steps), (i64 p0.result)]), (.agg [(ls eStep p1.steps), (i64 p1.result)])] [] (fun v st => v = (.bool r) ∧ st = [])) {p0 : Step} {p1 : Step} {r : Bool} (h0 : laws_eqStep N rec_laws_eqBlock p0 p1 = some r) : ACalls Tryz.prog 211 [(.agg [(i64 p0.op), (i64 p0.num), (i64 p0.into), (ls eI p0.args), (ls eBlock p0.kids)]), (.agg [(i64 p1.op), (i64 p1.num), (i64 p1.into), (ls eI p1.args), (ls eBlock p1.kids)])] [] (fun v st => v = (.bool r) ∧ st = []) := by
 unfold laws_eqStep at h0
 refine ai Tryz.func211 rfl rfl rfl rfl (sr rfl fun K1 hK1 => ao_box (m := 0) (st' := [(wE14 p0)]) go0 rfl rfl rfl rfl rfl (ao_box (m := 1) (st' := [(wE14 p0), ⟨0, 71, 5, [[(i64 p1.op), (i64 p1.num), (i64 p1.into), (ls eI p1.args), (ls eBlock p1.kids)]]⟩]) go0 rfl rfl rfl rfl rfl (zq tb rfl (dn hK1 rfl (AW.seq fun K2 hK2 => zr tb rfl rfl ?_)))))
 refine ci h0 rfl ?_ ?_ <;> clear h0
 ·intro b4 h0
  have b5 : decide (p0.op = p1.op) = false := by simpa using b4
  refine zr tb rfl rfl ?_
  replace h0 := Sh.some_eq h0
  subst r
  exact AW.ret (xr (Wk.d0 [(4, (.bool false))] rfl))
 ·intro b4 h0
  have b7 : decide (p0.op = p1.op) = true := by simpa using b4
  refine AW.skip (hK2 _ (AW.seq fun K8 hK8 => zr tb rfl rfl ?_))
  refine ci h0 rfl ?_ ?_ <;> clear h0
  ·intro b10 h0
   have b11 : decide (p0.num = p1.num) = false := by simpa using b10
   refine zr tb rfl rfl ?_
   replace h0 := Sh.some_eq h0
   subst r
   exact AW.ret (xr (Wk.d0 [(4, (.bool false))] rfl))
  ·intro b10 h0
   have b13 : decide (p0.num = p1.num) = true := by simpa using b10
   refine AW.skip (hK8 _ (AW.seq fun K14 hK14 => zr tb rfl rfl ?_))
   refine ci h0 rfl ?_ ?_ <;> clear h0
   ·intro b16 h0
    have b17 : decide (p0.into = p1.into) = false := by simpa using b16
    refine zr tb rfl rfl ?_
    replace h0 := Sh.some_eq h0
    subst r
    exact AW.ret (xr (Wk.d0 [(4, (.bool false))] rfl))
   ·intro b16 h0
    have b19 : decide (p0.into = p1.into) = true := by simpa using b16
    refine AW.skip (hK14 _ (AW.seq fun K20 hK20 => sr rfl fun K21 hK21 => zm tb 4 rfl (bs h0 fun q22 gq22 h0 => zc hb19 (laws_eqIntS_ok gq22) rfl rfl rfl (zq tb rfl (dn hK21 rfl ?_)))))
    refine ci h0 rfl ?_ ?_ <;> clear h0
    ·intro b23 h0
     have b24 : q22 = false := by simpa using b23
     refine zr tb rfl rfl ?_
     replace h0 := Sh.some_eq h0
     subst r
     exact AW.ret (xr (Wk.d0 [(4, (.bool false))] rfl))
    ·intro b23 h0
     have b26 : q22 = true := by simpa using b23
     refine AW.skip (hK20 _ (AW.seq fun K27 hK27 => sr rfl fun K28 hK28 => zm tb 4 rfl (bs h0 fun q29 gq29 h0 => zc hb231 (laws_eqBlockS_ok hrec_laws_eqBlock gq29) rfl rfl rfl (zq tb rfl (dn hK28 rfl ?_)))))
     refine ci h0 rfl ?_ ?_ <;> clear h0
     ·intro b30 h0
      have b31 : q29 = false := by simpa using b30
      refine zr tb rfl rfl ?_
      replace h0 := Sh.some_eq h0
      subst r
      exact AW.ret (xr (Wk.d0 [(4, (.bool false))] rfl))
     ·intro b30 h0
      have b33 : q29 = true := by simpa using b30
      refine AW.skip (hK27 _ (zr tb rfl rfl ?_))
      replace h0 := Sh.some_eq h0
      subst r
      exact AW.ret (xr (Wk.d0 [(4, (.bool true))] rfl))
theorem laws_eqStepS_ok {N : Nat} {rec_laws_eqBlock : Block → Block → Option (Bool)} (hrec_laws_eqBlock : ∀ {p0 : Block} {p1 : Block} {r : Bool}, rec_laws_eqBlock p0 p1 = some r → ACalls Tryz.prog 142 [(.agg [(ls eStep p0.steps), (i64 p0.result)]), (.agg [(ls eStep p1.steps), (i64 p1.result)])] [] (fun v st => v = (.bool r) ∧ st = [])) {p0 : (List Step)} {p1 : (List Step)} {r : Bool} (h0 : laws_eqStepS N rec_laws_eqBlock p0 p1 = some r) : ACalls Tryz.prog 188 [(ls eStep p0), (ls eStep p1)] [] (fun v st => v = (.bool r) ∧ st = []) := by
 unfold laws_eqStepS at h0
 refine ai Tryz.func188 rfl rfl rfl rfl (zr tb rfl rfl (AW.seq fun K2 hK2 => sr rfl fun K3 hK3 => zq tb rfl (zl tb rfl rfl (zq tb rfl (zl tb rfl rfl (zq tb rfl (dn hK3 rfl ?_)))))))
 refine ci h0 rfl ?_ ?_ <;> clear h0
 ·intro b4 h0
  have b5 : decide ((Sh.len p0) = (Sh.len p1)) = false := by simpa using b4
  refine zr tb rfl rfl ?_
  replace h0 := Sh.some_eq h0
  subst r
  exact AW.ret (xr (Wk.to (L := [(4, (.bool false))]) ⟨.rfl, trivial⟩))
 ·intro b4 h0
  have b7 : decide ((Sh.len p0) = (Sh.len p1)) = true := by simpa using b4
  refine AW.skip (hK2 _ (AW.seq fun K8 hK8 => zr tb rfl rfl ?_))
  obtain ⟨o11, h1, h0⟩ := Sh.cont_some h0
  have M11 : ∀ (_ : Unit), o11 = Sum.inr () → ∀ s, Wk 0 s ⟨27, envL [], []⟩ → K8 s := by
   intro _ hq s hw
   subst o11
   try dsimp only at h0
   refine hK8 _ (AW.weaken hw (zr tb rfl rfl ?_))
   replace h0 := Sh.some_eq h0
   subst r
   exact AW.ret (xr (Wk.to (L := [(4, (.bool true))]) ⟨.rfl, trivial⟩))
  refine AW.block (AW.loopF (σ := Int) (fun n v => laws_eqStepS_L1 N p0 p1 rec_laws_eqBlock n v = some o11) (fun i10 => ⟨27, envL [(0, (ls eStep p0)), (1, (ls eStep p1)), (5, (i64 i10))], []⟩) N 0 h1 (Wk.tr rfl) (fun _ hv => by rw [laws_eqStepS_L1] at hv; cases hv) ?_)
  rintro n i10 h1
  try dsimp only at h1 ⊢
  rw [laws_eqStepS_L1] at h1
  refine AW.seq fun K13 hK13 => sr rfl fun K14 hK14 => zm tb 2 rfl (zl tb rfl rfl (zq tb rfl (dn hK14 rfl ?_)))
  refine ci h1 rfl ?_ ?_ <;> clear h1
  ·intro b15 h1
   refine AW.skip (hK13 _ (AW.seq fun K16 hK16 => AW.block (AW.seq fun K17 hK17 => ?_)))
   refine AW.draw (by kernel_rfl) (by kernel_rfl) (by rfl) ?_
   iterate 2 refine yq tb rfl ?_
   refine bs h1 fun c18 gc18 h1 => yz (.iptr [(i64 c18.op), (i64 c18.num), (i64 c18.into), (ls eI c18.args), (ls eBlock c18.kids)] 0) (aq_ixsE ei53 rfl rfl gc18 (eStep_eq _) rfl) rfl ?_
   iterate 3 refine yq tb rfl ?_
   refine bs h1 fun c19 gc19 h1 => yz (.iptr [(i64 c19.op), (i64 c19.num), (i64 c19.into), (ls eI c19.args), (ls eBlock c19.kids)] 0) (aq_ixsE ei53 rfl rfl gc19 (eStep_eq _) rfl) rfl (yq tb rfl (bs h1 fun q20 gq20 h1 => d_call (v := (.bool q20)) go0 hb211 (laws_eqStep_ok hrec_laws_eqBlock gq20) rfl rfl rfl (yq tb rfl (d_done (hK17 _ ?_)))))
   refine ci h1 rfl ?_ ?_ <;> clear h1
   ·intro b21 h1
    have b22 : q20 = false := by simpa using b21
    refine zr tb rfl rfl ?_
    replace h1 := Sh.some_eq h1
    subst o11
    try dsimp only [id] at h0
    replace h0 := Sh.some_eq h0
    subst r
    exact AW.ret (xr (Wk.to (L := [(4, (.bool false))]) ⟨.rfl, trivial⟩))
   ·intro b21 h1
    have b24 : q20 = true := by simpa using b21
    exact AW.skip (hK16 _ (AW.regionO rfl (zm tb 3 rfl (AO.done (xi (Sh.w (i10 + 1)) h1 (Wk.tr rfl))))))
  ·intro b15 h1
   exact AW.exit (M11 () (Sh.some_eq h1).symm _ (Wk.tr rfl))
theorem laws_eqBlock_B_ok {N : Nat} {rec_laws_eqBlock : Block → Block → Option (Bool)} (hrec_laws_eqBlock : ∀ {p0 : Block} {p1 : Block} {r : Bool}, rec_laws_eqBlock p0 p1 = some r → ACalls Tryz.prog 142 [(.agg [(ls eStep p0.steps), (i64 p0.result)]), (.agg [(ls eStep p1.steps), (i64 p1.result)])] [] (fun v st => v = (.bool r) ∧ st = [])) {p0 : Block} {p1 : Block} {r : Bool} (h0 : laws_eqBlock_B N rec_laws_eqBlock p0 p1 = some r) : ACalls Tryz.prog 142 [(.agg [(ls eStep p0.steps), (i64 p0.result)]), (.agg [(ls eStep p1.steps), (i64 p1.result)])] [] (fun v st => v = (.bool r) ∧ st = []) := by
 unfold laws_eqBlock_B at h0
 refine ai Tryz.func142 rfl rfl rfl rfl (sr rfl fun K1 hK1 => ao_box (m := 0) (st' := [⟨0, 55, 2, [[(ls eStep p0.steps), (i64 p0.result)]]⟩]) go0 rfl rfl rfl rfl rfl (ao_box (m := 1) (st' := [⟨0, 55, 2, [[(ls eStep p0.steps), (i64 p0.result)]]⟩, ⟨0, 55, 2, [[(ls eStep p1.steps), (i64 p1.result)]]⟩]) go0 rfl rfl rfl rfl rfl (zq tb rfl (dn hK1 rfl (AW.seq fun K2 hK2 => sr rfl fun K3 hK3 => zm tb 4 rfl (bs h0 fun q4 gq4 h0 => zc hb188 (laws_eqStepS_ok hrec_laws_eqBlock gq4) rfl rfl rfl (zq tb rfl ?_)))))))
 refine dn hK3 rfl ?_
 refine ci h0 rfl ?_ ?_ <;> clear h0
 ·intro b5 h0
  have b6 : q4 = false := by simpa using b5
  refine zr tb rfl rfl ?_
  replace h0 := Sh.some_eq h0
  subst r
  exact AW.ret (xr (Wk.d0 [(4, (.bool false))] rfl))
 ·intro b5 h0
  have b8 : q4 = true := by simpa using b5
  refine AW.skip (hK2 _ (AW.seq fun K9 hK9 => zr tb rfl rfl ?_))
  refine ci h0 rfl ?_ ?_ <;> clear h0
  ·intro b11 h0
   have b12 : decide (p0.result = p1.result) = false := by simpa using b11
   refine zr tb rfl rfl ?_
   replace h0 := Sh.some_eq h0
   subst r
   exact AW.ret (xr (Wk.d0 [(4, (.bool false))] rfl))
  ·intro b11 h0
   have b14 : decide (p0.result = p1.result) = true := by simpa using b11
   refine AW.skip (hK9 _ (zr tb rfl rfl ?_))
   replace h0 := Sh.some_eq h0
   subst r
   exact AW.ret (xr (Wk.d0 [(4, (.bool true))] rfl))

theorem laws_eqBlock_F_ok {N : Nat} : ∀ (n : Nat), ∀ {p0 : Block} {p1 : Block} {r : Bool}, laws_eqBlock_F N n p0 p1 = some r → ACalls Tryz.prog 142 [(.agg [(ls eStep p0.steps), (i64 p0.result)]), (.agg [(ls eStep p1.steps), (i64 p1.result)])] [] (fun v st => v = (.bool r) ∧ st = []) := by
 intro n
 induction n with
 | zero => intro p0 p1 r h0; cases h0
 | succ n ih =>
  intro p0 p1 r h0
  rw [laws_eqBlock_F] at h0
  exact laws_eqBlock_B_ok (fun h => ih h) h0
theorem laws_eqBlock_ok {N : Nat} : ∀ {p0 : Block} {p1 : Block} {r : Bool}, laws_eqBlock N p0 p1 = some r → ACalls Tryz.prog 142 [(.agg [(ls eStep p0.steps), (i64 p0.result)]), (.agg [(ls eStep p1.steps), (i64 p1.result)])] [] (fun v st => v = (.bool r) ∧ st = []) := by
 intro p0 p1 r h0
 exact laws_eqBlock_F_ok N h0
noncomputable abbrev wE15 (p0 : RRoutine) : Go.Abs.Row := ⟨0, 57, 5, [[(ls eI p0.params), (ls eI p0.lent), (i64 p0.result), (ls eStep p0.body.steps), (i64 p0.body.result)]]⟩
theorem laws_eqRoutine_ok {N : Nat} {p0 : RRoutine} {p1 : RRoutine} {r : Bool} (h0 : laws_eqRoutine N p0 p1 = some r) : ACalls Tryz.prog 90 [(.agg [(ls eI p0.params), (ls eI p0.lent), (i64 p0.result), (ls eStep p0.body.steps), (i64 p0.body.result)]), (.agg [(ls eI p1.params), (ls eI p1.lent), (i64 p1.result), (ls eStep p1.body.steps), (i64 p1.body.result)])] [] (fun v st => v = (.bool r) ∧ st = []) := by
 unfold laws_eqRoutine at h0
 refine ai Tryz.func90 rfl rfl rfl rfl (sr rfl fun K1 hK1 => ao_box (m := 0) (st' := [(wE15 p0)]) go0 rfl rfl rfl rfl rfl (ao_box (m := 1) (st' := [(wE15 p0), ⟨0, 57, 5, [[(ls eI p1.params), (ls eI p1.lent), (i64 p1.result), (ls eStep p1.body.steps), (i64 p1.body.result)]]⟩]) go0 rfl rfl rfl rfl rfl (zq tb rfl (dn hK1 rfl (AW.seq fun K2 hK2 => sr rfl fun K3 hK3 => zm tb 4 rfl (bs h0 fun q4 gq4 h0 => zc hb19 (laws_eqIntS_ok gq4) rfl rfl rfl (zq tb rfl ?_)))))))
 refine dn hK3 rfl ?_
 refine ci h0 rfl ?_ ?_ <;> clear h0
 ·intro b5 h0
  have b6 : q4 = false := by simpa using b5
  refine zr tb rfl rfl ?_
  replace h0 := Sh.some_eq h0
  subst r
  exact AW.ret (xr (Wk.d0 [(4, (.bool false))] rfl))
 ·intro b5 h0
  have b8 : q4 = true := by simpa using b5
  refine AW.skip (hK2 _ (AW.seq fun K9 hK9 => sr rfl fun K10 hK10 => zm tb 4 rfl (bs h0 fun q11 gq11 h0 => zc hb19 (laws_eqIntS_ok gq11) rfl rfl rfl (zq tb rfl (dn hK10 rfl ?_)))))
  refine ci h0 rfl ?_ ?_ <;> clear h0
  ·intro b12 h0
   have b13 : q11 = false := by simpa using b12
   refine zr tb rfl rfl ?_
   replace h0 := Sh.some_eq h0
   subst r
   exact AW.ret (xr (Wk.d0 [(4, (.bool false))] rfl))
  ·intro b12 h0
   have b15 : q11 = true := by simpa using b12
   refine AW.skip (hK9 _ (AW.seq fun K16 hK16 => zr tb rfl rfl ?_))
   refine ci h0 rfl ?_ ?_ <;> clear h0
   ·intro b18 h0
    have b19 : decide (p0.result = p1.result) = false := by simpa using b18
    refine zr tb rfl rfl ?_
    replace h0 := Sh.some_eq h0
    subst r
    exact AW.ret (xr (Wk.d0 [(4, (.bool false))] rfl))
   ·intro b18 h0
    have b21 : decide (p0.result = p1.result) = true := by simpa using b18
    refine AW.skip (hK16 _ (AW.seq fun K22 hK22 => sr rfl fun K23 hK23 => zm tb 4 rfl (bs h0 fun q24 gq24 h0 => zc hb142 (laws_eqBlock_ok gq24) rfl rfl rfl (zq tb rfl (dn hK23 rfl ?_)))))
    refine ci h0 rfl ?_ ?_ <;> clear h0
    ·intro b25 h0
     have b26 : q24 = false := by simpa using b25
     refine zr tb rfl rfl ?_
     replace h0 := Sh.some_eq h0
     subst r
     exact AW.ret (xr (Wk.d0 [(4, (.bool false))] rfl))
    ·intro b25 h0
     have b28 : q24 = true := by simpa using b25
     refine AW.skip (hK22 _ (zr tb rfl rfl ?_))
     replace h0 := Sh.some_eq h0
     subst r
     exact AW.ret (xr (Wk.d0 [(4, (.bool true))] rfl))
theorem laws_eqRoutineS_ok {N : Nat} {p0 : (List RRoutine)} {p1 : (List RRoutine)} {r : Bool} (h0 : laws_eqRoutineS N p0 p1 = some r) : ACalls Tryz.prog 42 [(ls eRRoutine p0), (ls eRRoutine p1)] [] (fun v st => v = (.bool r) ∧ st = []) := by
 unfold laws_eqRoutineS at h0
 refine ai Tryz.func42 rfl rfl rfl rfl (zr tb rfl rfl (AW.seq fun K2 hK2 => sr rfl fun K3 hK3 => zq tb rfl (zl tb rfl rfl (zq tb rfl (zl tb rfl rfl (zq tb rfl (dn hK3 rfl ?_)))))))
 refine ci h0 rfl ?_ ?_ <;> clear h0
 ·intro b4 h0
  have b5 : decide ((Sh.len p0) = (Sh.len p1)) = false := by simpa using b4
  refine zr tb rfl rfl ?_
  replace h0 := Sh.some_eq h0
  subst r
  exact AW.ret (xr (Wk.to (L := [(4, (.bool false))]) ⟨.rfl, trivial⟩))
 ·intro b4 h0
  have b7 : decide ((Sh.len p0) = (Sh.len p1)) = true := by simpa using b4
  refine AW.skip (hK2 _ (AW.seq fun K8 hK8 => zr tb rfl rfl ?_))
  obtain ⟨o11, h1, h0⟩ := Sh.cont_some h0
  have M11 : ∀ (_ : Unit), o11 = Sum.inr () → ∀ s, Wk 0 s ⟨27, envL [], []⟩ → K8 s := by
   intro _ hq s hw
   subst o11
   try dsimp only at h0
   refine hK8 _ (AW.weaken hw (zr tb rfl rfl ?_))
   replace h0 := Sh.some_eq h0
   subst r
   exact AW.ret (xr (Wk.to (L := [(4, (.bool true))]) ⟨.rfl, trivial⟩))
  refine AW.block (AW.loopF (σ := Int) (fun n v => laws_eqRoutineS_L1 N p0 p1 n v = some o11) (fun i10 => ⟨27, envL [(0, (ls eRRoutine p0)), (1, (ls eRRoutine p1)), (5, (i64 i10))], []⟩) N 0 h1 (Wk.tr rfl) (fun _ hv => by rw [laws_eqRoutineS_L1] at hv; cases hv) ?_)
  rintro n i10 h1
  try dsimp only at h1 ⊢
  rw [laws_eqRoutineS_L1] at h1
  refine AW.seq fun K13 hK13 => sr rfl fun K14 hK14 => zm tb 2 rfl (zl tb rfl rfl (zq tb rfl (dn hK14 rfl ?_)))
  refine ci h1 rfl ?_ ?_ <;> clear h1
  ·intro b15 h1
   refine AW.skip (hK13 _ (AW.seq fun K16 hK16 => AW.block (AW.seq fun K17 hK17 => ?_)))
   refine AW.draw (by kernel_rfl) (by kernel_rfl) (by rfl) ?_
   iterate 2 refine yq tb rfl ?_
   refine bs h1 fun c18 gc18 h1 => yx ei28 gc18 rfl rfl rfl ?_
   iterate 3 refine yq tb rfl ?_
   refine bs h1 fun c19 gc19 h1 => yx ei28 gc19 rfl rfl rfl (yq tb rfl (bs h1 fun q20 gq20 h1 => d_call (v := (.bool q20)) go0 hb90 (laws_eqRoutine_ok gq20) rfl rfl rfl (yq tb rfl (d_done (hK17 _ ?_)))))
   refine ci h1 rfl ?_ ?_ <;> clear h1
   ·intro b21 h1
    have b22 : q20 = false := by simpa using b21
    refine zr tb rfl rfl ?_
    replace h1 := Sh.some_eq h1
    subst o11
    try dsimp only [id] at h0
    replace h0 := Sh.some_eq h0
    subst r
    exact AW.ret (xr (Wk.to (L := [(4, (.bool false))]) ⟨.rfl, trivial⟩))
   ·intro b21 h1
    have b24 : q20 = true := by simpa using b21
    exact AW.skip (hK16 _ (AW.regionO rfl (zm tb 3 rfl (AO.done (xi (Sh.w (i10 + 1)) h1 (Wk.tr rfl))))))
  ·intro b15 h1
   exact AW.exit (M11 () (Sh.some_eq h1).symm _ (Wk.tr rfl))
theorem laws_eqNormal_ok {N : Nat} {p0 : RNormal} {p1 : RNormal} {r : Bool} (h0 : laws_eqNormal N p0 p1 = some r) : ACalls Tryz.prog 12 [(.agg [(ls eRDecl p0.decls), (ls eRRoutine p0.routines)]), (.agg [(ls eRDecl p1.decls), (ls eRRoutine p1.routines)])] [] (fun v st => v = (.bool r) ∧ st = []) := by
 unfold laws_eqNormal at h0
 refine ai Tryz.func12 rfl rfl rfl rfl (sr rfl fun K1 hK1 => ao_box (m := 0) (st' := [(wE12 p0)]) go0 rfl rfl rfl rfl rfl (ao_box (m := 1) (st' := [(wE12 p0), ⟨0, 30, 2, [[(ls eRDecl p1.decls), (ls eRRoutine p1.routines)]]⟩]) go0 rfl rfl rfl rfl rfl (zq tb rfl (dn hK1 rfl (AW.seq fun K2 hK2 => sr rfl fun K3 hK3 => zm tb 4 rfl (bs h0 fun q4 gq4 h0 => zc hb41 (laws_eqDeclS_ok gq4) rfl rfl rfl (zq tb rfl ?_)))))))
 refine dn hK3 rfl ?_
 refine ci h0 rfl ?_ ?_ <;> clear h0
 ·intro b5 h0
  have b6 : q4 = false := by simpa using b5
  refine zr tb rfl rfl ?_
  replace h0 := Sh.some_eq h0
  subst r
  exact AW.ret (xr (Wk.d0 [(4, (.bool false))] rfl))
 ·intro b5 h0
  have b8 : q4 = true := by simpa using b5
  refine AW.skip (hK2 _ (AW.seq fun K9 hK9 => sr rfl fun K10 hK10 => zm tb 4 rfl (bs h0 fun q11 gq11 h0 => zc hb42 (laws_eqRoutineS_ok gq11) rfl rfl rfl (zq tb rfl (dn hK10 rfl ?_)))))
  refine ci h0 rfl ?_ ?_ <;> clear h0
  ·intro b12 h0
   have b13 : q11 = false := by simpa using b12
   refine zr tb rfl rfl ?_
   replace h0 := Sh.some_eq h0
   subst r
   exact AW.ret (xr (Wk.d0 [(4, (.bool false))] rfl))
  ·intro b12 h0
   have b15 : q11 = true := by simpa using b12
   refine AW.skip (hK9 _ (zr tb rfl rfl ?_))
   replace h0 := Sh.some_eq h0
   subst r
   exact AW.ret (xr (Wk.d0 [(4, (.bool true))] rfl))
theorem laws_markIntS_ok {N : Nat} {s0 : (List Int)} {p1 : Int} {r : Int × (List Int)} (h0 : laws_markIntS N s0 p1 = some r) : ACalls Tryz.prog 20 [(ow 0 0 s0), (i64 p1)] [(ro 0 3 1 eI s0)] (fun v st => v = (i64 r.1) ∧ st = [(ro 0 3 1 eI r.2)]) := by
 unfold laws_markIntS at h0
 refine ai Tryz.func20 rfl rfl rfl rfl (zr tb rfl rfl (AW.seq fun K2 hK2 => zr tb rfl rfl (bs h0 fun o9 h1 h0 => ?_)))
 have M9 : ∀ (k7 : Int) (l8 : (List Int)), o9 = (k7, l8) → ∀ s, Wk 1 s ⟨19, envL [(1, (i64 k7))], [(ro 0 3 1 eI l8)]⟩ → K2 s := by
  intro k7 l8 hq s hw
  subst o9
  try dsimp only at h0
  refine hK2 _ (AW.weaken hw (zr tb rfl rfl ?_))
  replace h0 := Sh.some_eq h0
  subst r
  exact AW.ret (xr (Wk.to (L := [(4, (i64 k7))]) ⟨.rfl, trivial⟩))
 refine AW.block (AW.loopF (σ := Int × Int × (List Int)) (fun n v => laws_markIntS_L1  n v.1 v.2.1 v.2.2 = some o9) (fun (k4, i5, l6) => ⟨19, envL [(0, (ow 0 0 l6)), (1, (i64 k4)), (5, (i64 i5))], [(ro 0 3 1 eI l6)]⟩) N (p1, 0, s0) h1 (Wk.tr rfl) (fun _ hv => by rw [laws_markIntS_L1] at hv; cases hv) ?_)
 rintro n ⟨k4, i5, l6⟩ h1
 try dsimp only at h1 ⊢
 rw [laws_markIntS_L1] at h1
 refine AW.seq fun K11 hK11 => sr rfl fun K12 hK12 => zm tb 2 rfl (zz (i64 (Sh.len l6)) (aq_leno sl37 rfl rfl rfl) rfl (zq tb rfl (dn hK12 rfl ?_)))
 refine ci h1 rfl ?_ ?_ <;> clear h1
 ·intro b13 h1
  refine AW.skip (hK11 _ (AW.seq fun K14 hK14 => AW.block (sr rfl fun K15 hK15 => zm tb 3 rfl (bs h1 fun c16 gc16 h1 => zz (.ptr 0 0 (Int.toNat i5) 0) (aq_ixo ei37 rfl rfl rfl rfl gc16) rfl (ao_stl (st' := [(ro 0 3 1 eI (Sh.put l6 i5 k4))]) (u' := k4) go0 ti3 rfl rfl gc16 rfl rfl rfl (show 0 + 1 ≤ 1 by decide) rfl rfl (dn hK15 rfl (AW.regionO rfl (zm tb 3 rfl (dn hK14 rfl ?_)))))))))
  refine AW.regionO rfl (zm tb 3 rfl ?_)
  exact AO.done (xi (Sh.w (k4 + 1), Sh.w (i5 + 1), Sh.put l6 i5 k4) h1 (Wk.to (L := [(0, (.own 0 0 (List.length (Sh.put l6 i5 k4)))), (1, (i64 (Sh.w (k4 + 1)))), (5, (i64 (Sh.w (i5 + 1))))]) ⟨(.len (by simp only [Sh.put_len])), .rfl, .rfl, trivial⟩))
 ·intro b13 h1
  exact AW.exit (M9 k4 l6 (Sh.some_eq h1).symm _ (Wk.tr rfl))
theorem laws_markConS_ok {N : Nat} {s0 : (List RCon)} {p1 : Int} {r : Int × (List RCon)} (h0 : laws_markConS N s0 p1 = some r) : ACalls Tryz.prog 91 [(ow 0 0 s0), (i64 p1)] [(ro 0 134 1 (eRConD 3) s0)] (fun v st => v = (i64 r.1) ∧ st = [(ro 0 134 1 (eRConD 3) r.2)]) := by
 unfold laws_markConS at h0
 refine ai Tryz.func91 rfl rfl rfl rfl (zr tb rfl rfl (AW.seq fun K2 hK2 => zr tb rfl rfl (bs h0 fun o9 h1 h0 => ?_)))
 have M9 : ∀ (k7 : Int) (l8 : (List RCon)), o9 = (k7, l8) → ∀ s, Wk 1 s ⟨20, envL [(1, (i64 k7))], [(ro 0 134 1 (eRConD 3) l8)]⟩ → K2 s := by
  intro k7 l8 hq s hw
  subst o9
  try dsimp only at h0
  refine hK2 _ (AW.weaken hw (zr tb rfl rfl ?_))
  replace h0 := Sh.some_eq h0
  subst r
  exact AW.ret (xr (Wk.to (L := [(4, (i64 k7))]) ⟨.rfl, trivial⟩))
 refine AW.block (AW.loopF (σ := Int × Int × (List RCon)) (fun n v => laws_markConS_L1 N n v.1 v.2.1 v.2.2 = some o9) (fun (k4, i5, l6) => ⟨20, envL [(0, (ow 0 0 l6)), (1, (i64 k4)), (5, (i64 i5))], [(ro 0 134 1 (eRConD 3) l6)]⟩) N (p1, 0, s0) h1 (Wk.tr rfl) (fun _ hv => by rw [laws_markConS_L1] at hv; cases hv) ?_)
 rintro n ⟨k4, i5, l6⟩ h1
 try dsimp only at h1 ⊢
 rw [laws_markConS_L1] at h1
 refine AW.seq fun K11 hK11 => sr rfl fun K12 hK12 => zm tb 2 rfl (zz (i64 (Sh.len l6)) (aq_leno sl96 rfl rfl rfl) rfl (zq tb rfl (dn hK12 rfl ?_)))
 refine ci h1 rfl ?_ ?_ <;> clear h1
 ·intro b13 h1
  refine AW.skip (hK11 _ (AW.seq fun K14 hK14 => AW.block (AW.regionO rfl (zm tb 2 rfl (bs h1 fun c15 gc15 h1 => zz (.ptr 0 0 (Int.toNat i5) 0) (aq_ixo ei96 rfl rfl rfl rfl gc15) rfl (zq tb rfl (AO.weaken (Wk.expel (id := 0) (j := 0) (i := i5) (c := c15) (ys := c15.fields) (encY := eI) (x := [(.dv 3 1 (List.map eI c15.fields))]) (x' := [(ow 1 0 c15.fields)]) (st' := [⟨0, 134, 1, hole l6 (eRConD 3) i5 [(ow 1 0 c15.fields)]⟩, (ro 0 3 1 eI c15.fields)]) rfl gc15 rfl rfl rfl rfl rfl) (zz (ow 1 0 c15.fields) (aq_ldp ti37 rfl rfl (hole_get gc15) rfl) rfl (zq tb rfl (bs h1 fun q16 gq16 h1 => ?_))))))))))
  refine ao_callsL (rowsP := [⟨0, 3, 1, List.map eI c15.fields⟩]) (rows0 := [⟨0, 3, 1, List.map eI c15.fields⟩]) (rows1 := [⟨0, 3, 1, List.map eI q16.2⟩]) (rows2 := []) (rows1' := [⟨0, 3, 1, List.map eI q16.2⟩]) (rows2' := []) (st' := [⟨0, 134, 1, hole l6 (eRConD 3) i5 [(.own 1 0 (List.length c15.fields))]⟩, ⟨0, 3, 1, List.map eI q16.2⟩]) (v' := (i64 q16.1)) [1] go0 hb20 (laws_markIntS_ok gq16) rfl (by decide) rfl rfl (.pure (pure_map fun _ => rfl) .nil) rfl rfl (.pure (pure_map fun _ => rfl) .nil) .nil rfl rfl (fun hln => ?_)
  have ln17 : List.length q16.2 = List.length c15.fields := by simpa only [List.length_map] using hln 0 _ _ rfl rfl rfl
  refine AO.weaken (Wk.take (id := 0) (m := 1) (j := 0) (i := i5) (c := c15) (ys := q16.2) (encY := eI) (x' := [(.dv 3 1 (List.map eI q16.2))]) (st' := [⟨0, 134, 1, hole l6 (eRConD 3) i5 [(.dv 3 1 (List.map eI q16.2))]⟩, ⟨1, 3, 1, []⟩]) rfl gc15 rfl rfl (by first | (simp only [Sh.put_len]; done) | (simp only [Sh.put_len]; omega) | omega) (by decide) (show 1 ≤ 1 by decide) (fun _ => rfl) rfl rfl) ?_
  refine AO.weaken (Wk.filled (id := 0) (i := i5) (u := (RCon.mk q16.2)) (st' := [(ro 0 134 1 (eRConD 3) (Sh.put l6 i5 (RCon.mk q16.2))), ⟨1, 3, 1, []⟩]) rfl rfl rfl) (zq tb rfl (dn hK14 rfl (AW.regionO rfl (zm tb 3 rfl ?_))))
  exact AO.done (xi (q16.1, Sh.w (i5 + 1), Sh.put l6 i5 (RCon.mk q16.2)) h1 (by refine Wk.trans (Wk.permk (L := [(0, (.own 0 0 (List.length l6))), (1, (i64 q16.1)), (5, (i64 (Sh.w (i5 + 1))))]) (st' := [⟨0, 134, 1, List.map (eRConD 3) (Sh.put l6 i5 (RCon.mk q16.2))⟩]) (st1 := [⟨0, 134, 1, List.map (eRConD 3) (Sh.put l6 i5 (RCon.mk q16.2))⟩]) [0] rfl (.deep (pure_mapD fun _ => rfl) .nil) (by decide) rfl rfl (.deep (pure_mapD fun _ => rfl) .nil) ⟨.rfl, .rfl, .rfl, trivial⟩) ?_; exact Wk.to (L := [(0, (.own 0 0 (List.length (Sh.put l6 i5 (RCon.mk q16.2))))), (1, (i64 q16.1)), (5, (i64 (Sh.w (i5 + 1))))]) ⟨(.len (by first | (simp only [Sh.put_len]; done) | (simp only [Sh.put_len]; omega) | omega)), .rfl, .rfl, trivial⟩))
 ·intro b13 h1
  exact AW.exit (M9 k4 l6 (Sh.some_eq h1).symm _ (Wk.tr rfl))
theorem laws_markDeclS_ok {N : Nat} {s0 : (List RDecl)} {p1 : Int} {r : Int × (List RDecl)} (h0 : laws_markDeclS N s0 p1 = some r) : ACalls Tryz.prog 43 [(ow 0 0 s0), (i64 p1)] [(ro 0 98 3 (eRDeclD 134 3) s0)] (fun v st => v = (i64 r.1) ∧ st = [(ro 0 98 3 (eRDeclD 134 3) r.2)]) := by
 unfold laws_markDeclS at h0
 refine ai Tryz.func43 rfl rfl rfl rfl (zr tb rfl rfl (AW.seq fun K2 hK2 => zr tb rfl rfl (bs h0 fun o9 h1 h0 => ?_)))
 have M9 : ∀ (k7 : Int) (l8 : (List RDecl)), o9 = (k7, l8) → ∀ s, Wk 1 s ⟨34, envL [(1, (i64 k7))], [(ro 0 98 3 (eRDeclD 134 3) l8)]⟩ → K2 s := by
  intro k7 l8 hq s hw
  subst o9
  try dsimp only at h0
  refine hK2 _ (AW.weaken hw (zr tb rfl rfl ?_))
  replace h0 := Sh.some_eq h0
  subst r
  exact AW.ret (xr (Wk.to (L := [(4, (i64 k7))]) ⟨.rfl, trivial⟩))
 refine AW.block (AW.loopF (σ := Int × Int × (List RDecl)) (fun n v => laws_markDeclS_L1 N n v.1 v.2.1 v.2.2 = some o9) (fun (k4, i5, l6) => ⟨34, envL [(0, (ow 0 0 l6)), (1, (i64 k4)), (5, (i64 i5))], [(ro 0 98 3 (eRDeclD 134 3) l6)]⟩) N (p1, 0, s0) h1 (Wk.tr rfl) (fun _ hv => by rw [laws_markDeclS_L1] at hv; cases hv) ?_)
 rintro n ⟨k4, i5, l6⟩ h1
 try dsimp only at h1 ⊢
 rw [laws_markDeclS_L1] at h1
 refine AW.seq fun K11 hK11 => sr rfl fun K12 hK12 => zm tb 2 rfl (zz (i64 (Sh.len l6)) (aq_leno sl27 rfl rfl rfl) rfl (zq tb rfl (dn hK12 rfl ?_)))
 refine ci h1 rfl ?_ ?_ <;> clear h1
 ·intro b13 h1
  refine AW.skip (hK11 _ (AW.seq fun K14 hK14 => AW.block (sr rfl fun K15 hK15 => zm tb 3 rfl (bs h1 fun c16 gc16 h1 => zz (.ptr 0 0 (Int.toNat i5) 0) (aq_ixo ei27 rfl rfl rfl rfl gc16) rfl (zq tb rfl (ao_stl (st' := [(ro 0 98 3 (eRDeclD 134 3) (Sh.put l6 i5 (RDecl.mk k4 c16.to c16.cons)))]) (u' := (RDecl.mk k4 c16.to c16.cons)) go0 ti3 rfl rfl gc16 rfl rfl rfl (show 0 + 1 ≤ 3 by decide) rfl rfl (dn hK15 rfl (zr tb rfl rfl (sr rfl fun K18 hK18 => ?_)))))))))
  refine zm tb 3 rfl (bs h1 fun c19 gc19 h1 => ?_)
  refine zz (.ptr 0 0 (Int.toNat i5) 0) (aq_ixo ei27 rfl rfl rfl (by simp only [Sh.put_len]) gc19) rfl ?_
  refine zq tb rfl (ao_stl (st' := [(ro 0 98 3 (eRDeclD 134 3) (Sh.put (Sh.put l6 i5 (RDecl.mk k4 c16.to c16.cons)) i5 (RDecl.mk c19.from_ (Sh.w (k4 + 1)) c19.cons)))]) (u' := (RDecl.mk c19.from_ (Sh.w (k4 + 1)) c19.cons)) go0 ti3 rfl rfl gc19 rfl rfl rfl (show 1 + 1 ≤ 3 by decide) rfl rfl (dn hK18 rfl (zr tb rfl rfl (AW.regionO rfl (zm tb 2 rfl (bs h1 fun c21 gc21 h1 => ?_))))))
  refine zz (.ptr 0 0 (Int.toNat i5) 0) (aq_ixo ei27 rfl rfl rfl (by simp only [Sh.put_len]) gc21) rfl ?_
  refine zq tb rfl (AO.weaken (Wk.expel (id := 0) (j := 2) (i := i5) (c := c21) (ys := c21.cons) (encY := (eRConD 3)) (x := [(i64 c21.from_), (i64 c21.to), (.dv 134 1 (List.map (eRConD 3) c21.cons))]) (x' := [(i64 c21.from_), (i64 c21.to), (ow 1 0 c21.cons)]) (st' := [⟨0, 98, 3, hole (Sh.put (Sh.put l6 i5 (RDecl.mk k4 c16.to c16.cons)) i5 (RDecl.mk c19.from_ (Sh.w (k4 + 1)) c19.cons)) (eRDeclD 134 3) i5 [(i64 c21.from_), (i64 c21.to), (ow 1 0 c21.cons)]⟩, (ro 0 134 1 (eRConD 3) c21.cons)]) rfl gc21 rfl rfl rfl rfl rfl) (zz (ow 1 0 c21.cons) (aq_ldp ti96 rfl rfl (hole_get gc21) rfl) rfl (zq tb rfl (bs h1 fun q22 gq22 h1 => ?_))))
  refine ao_callsL (rowsP := [⟨0, 134, 1, List.map (eRConD 3) c21.cons⟩]) (rows0 := [⟨0, 134, 1, List.map (eRConD 3) c21.cons⟩]) (rows1 := [⟨0, 134, 1, List.map (eRConD 3) q22.2⟩]) (rows2 := []) (rows1' := [⟨0, 134, 1, List.map (eRConD 3) q22.2⟩]) (rows2' := []) (st' := [⟨0, 98, 3, hole (Sh.put (Sh.put l6 i5 (RDecl.mk k4 c16.to c16.cons)) i5 (RDecl.mk c19.from_ (Sh.w (k4 + 1)) c19.cons)) (eRDeclD 134 3) i5 [(i64 c21.from_), (i64 c21.to), (.own 1 0 (List.length c21.cons))]⟩, ⟨0, 134, 1, List.map (eRConD 3) q22.2⟩]) (v' := (i64 q22.1)) [1] go0 hb91 (laws_markConS_ok gq22) rfl (by decide) rfl rfl (.deep (pure_mapD fun _ => rfl) .nil) rfl rfl (.deep (pure_mapD fun _ => rfl) .nil) .nil rfl rfl (fun hln => ?_)
  have ln23 : List.length q22.2 = List.length c21.cons := by simpa only [List.length_map] using hln 0 _ _ rfl rfl rfl
  refine AO.weaken (Wk.take (id := 0) (m := 1) (j := 2) (i := i5) (c := c21) (ys := q22.2) (encY := (eRConD 3)) (x' := [(i64 c21.from_), (i64 c21.to), (.dv 134 1 (List.map (eRConD 3) q22.2))]) (st' := [⟨0, 98, 3, hole (Sh.put (Sh.put l6 i5 (RDecl.mk k4 c16.to c16.cons)) i5 (RDecl.mk c19.from_ (Sh.w (k4 + 1)) c19.cons)) (eRDeclD 134 3) i5 [(i64 c21.from_), (i64 c21.to), (.dv 134 1 (List.map (eRConD 3) q22.2))]⟩, ⟨1, 134, 1, []⟩]) rfl gc21 rfl rfl (by first | (simp only [Sh.put_len]; done) | (simp only [Sh.put_len]; omega) | omega) (by decide) (show 1 ≤ 1 by decide) (fun _ => rfl) rfl rfl) ?_
  refine AO.weaken (Wk.filled (id := 0) (i := i5) (u := (RDecl.mk c21.from_ c21.to q22.2)) (st' := [(ro 0 98 3 (eRDeclD 134 3) (Sh.put (Sh.put (Sh.put l6 i5 (RDecl.mk k4 c16.to c16.cons)) i5 (RDecl.mk c19.from_ (Sh.w (k4 + 1)) c19.cons)) i5 (RDecl.mk c21.from_ c21.to q22.2))), ⟨1, 134, 1, []⟩]) rfl rfl rfl) (zq tb rfl (dn hK14 rfl (AW.regionO rfl (zm tb 3 rfl ?_))))
  exact AO.done (xi (q22.1, Sh.w (i5 + 1), Sh.put (Sh.put (Sh.put l6 i5 (RDecl.mk k4 c16.to c16.cons)) i5 (RDecl.mk c19.from_ (Sh.w (k4 + 1)) c19.cons)) i5 (RDecl.mk c21.from_ c21.to q22.2)) h1 (by refine Wk.trans (Wk.permk (L := [(0, (.own 0 0 (List.length l6))), (1, (i64 q22.1)), (5, (i64 (Sh.w (i5 + 1))))]) (st' := [⟨0, 98, 3, List.map (eRDeclD 134 3) (Sh.put (Sh.put (Sh.put l6 i5 (RDecl.mk k4 c16.to c16.cons)) i5 (RDecl.mk c19.from_ (Sh.w (k4 + 1)) c19.cons)) i5 (RDecl.mk c21.from_ c21.to q22.2))⟩]) (st1 := [⟨0, 98, 3, List.map (eRDeclD 134 3) (Sh.put (Sh.put (Sh.put l6 i5 (RDecl.mk k4 c16.to c16.cons)) i5 (RDecl.mk c19.from_ (Sh.w (k4 + 1)) c19.cons)) i5 (RDecl.mk c21.from_ c21.to q22.2))⟩]) [0] rfl (.deep (pure_mapD fun _ => rfl) .nil) (by decide) rfl rfl (.deep (pure_mapD fun _ => rfl) .nil) ⟨.rfl, .rfl, .rfl, trivial⟩) ?_; exact Wk.to (L := [(0, (.own 0 0 (List.length (Sh.put (Sh.put (Sh.put l6 i5 (RDecl.mk k4 c16.to c16.cons)) i5 (RDecl.mk c19.from_ (Sh.w (k4 + 1)) c19.cons)) i5 (RDecl.mk c21.from_ c21.to q22.2))))), (1, (i64 q22.1)), (5, (i64 (Sh.w (i5 + 1))))]) ⟨(.len (by first | (simp only [Sh.put_len]; done) | (simp only [Sh.put_len]; omega) | omega)), .rfl, .rfl, trivial⟩))
 ·intro b13 h1
  exact AW.exit (M9 k4 l6 (Sh.some_eq h1).symm _ (Wk.tr rfl))
theorem laws_markBlockS_ok {N : Nat} {rec_laws_markStepS : (List Step) → Int → Option (Int × (List Step))} (hrec_laws_markStepS : ∀ {s0 : (List Step)} {p1 : Int} {r : Int × (List Step)}, rec_laws_markStepS s0 p1 = some r → ACalls Tryz.prog 92 [(ow 0 0 s0), (i64 p1)] [(ro 0 71 5 (eStepD 3 55 71) s0)] (fun v st => v = (i64 r.1) ∧ st = [(ro 0 71 5 (eStepD 3 55 71) r.2)])) {s0 : (List Block)} {p1 : Int} {r : Int × (List Block)} (h0 : laws_markBlockS N rec_laws_markStepS s0 p1 = some r) : ACalls Tryz.prog 143 [(ow 0 0 s0), (i64 p1)] [(ro 0 55 2 (eBlockD 3 55 71) s0)] (fun v st => v = (i64 r.1) ∧ st = [(ro 0 55 2 (eBlockD 3 55 71) r.2)]) := by
 unfold laws_markBlockS at h0
 refine ai Tryz.func143 rfl rfl rfl rfl (zr tb rfl rfl (AW.seq fun K2 hK2 => zr tb rfl rfl (bs h0 fun o9 h1 h0 => ?_)))
 have M9 : ∀ (k7 : Int) (l8 : (List Block)), o9 = (k7, l8) → ∀ s, Wk 1 s ⟨27, envL [(1, (i64 k7))], [(ro 0 55 2 (eBlockD 3 55 71) l8)]⟩ → K2 s := by
  intro k7 l8 hq s hw
  subst o9
  try dsimp only at h0
  refine hK2 _ (AW.weaken hw (zr tb rfl rfl ?_))
  replace h0 := Sh.some_eq h0
  subst r
  exact AW.ret (xr (Wk.to (L := [(4, (i64 k7))]) ⟨.rfl, trivial⟩))
 refine AW.block (AW.loopF (σ := Int × Int × (List Block)) (fun n v => laws_markBlockS_L1 rec_laws_markStepS n v.1 v.2.1 v.2.2 = some o9) (fun (k4, i5, l6) => ⟨27, envL [(0, (ow 0 0 l6)), (1, (i64 k4)), (5, (i64 i5))], [(ro 0 55 2 (eBlockD 3 55 71) l6)]⟩) N (p1, 0, s0) h1 (Wk.tr rfl) (fun _ hv => by rw [laws_markBlockS_L1] at hv; cases hv) ?_)
 rintro n ⟨k4, i5, l6⟩ h1
 try dsimp only at h1 ⊢
 rw [laws_markBlockS_L1] at h1
 refine AW.seq fun K11 hK11 => sr rfl fun K12 hK12 => zm tb 2 rfl (zz (i64 (Sh.len l6)) (aq_leno sl69 rfl rfl rfl) rfl (zq tb rfl (dn hK12 rfl ?_)))
 refine ci h1 rfl ?_ ?_ <;> clear h1
 ·intro b13 h1
  refine AW.skip (hK11 _ (AW.seq fun K14 hK14 => AW.block (sr rfl fun K15 hK15 => zm tb 2 rfl (bs h1 fun c16 gc16 h1 => zz (.ptr 0 0 (Int.toNat i5) 0) (aq_ixo ei69 rfl rfl rfl rfl gc16) rfl (zq tb rfl (AO.weaken (Wk.expel (id := 0) (j := 0) (i := i5) (c := c16) (ys := c16.steps) (encY := (eStepD 3 55 71)) (x := [(.dv 71 5 (List.map (eStepD 3 55 71) c16.steps)), (i64 c16.result)]) (x' := [(ow 1 0 c16.steps), (i64 c16.result)]) (st' := [⟨0, 55, 2, hole l6 (eBlockD 3 55 71) i5 [(ow 1 0 c16.steps), (i64 c16.result)]⟩, (ro 0 71 5 (eStepD 3 55 71) c16.steps)]) rfl gc16 rfl rfl rfl rfl rfl) (zz (ow 1 0 c16.steps) (aq_ldp ti53 rfl rfl (hole_get gc16) rfl) rfl (zq tb rfl (bs h1 fun q17 gq17 h1 => ?_)))))))))
  refine ao_callsL (rowsP := [⟨0, 71, 5, List.map (eStepD 3 55 71) c16.steps⟩]) (rows0 := [⟨0, 71, 5, List.map (eStepD 3 55 71) c16.steps⟩]) (rows1 := [⟨0, 71, 5, List.map (eStepD 3 55 71) q17.2⟩]) (rows2 := []) (rows1' := [⟨0, 71, 5, List.map (eStepD 3 55 71) q17.2⟩]) (rows2' := []) (st' := [⟨0, 55, 2, hole l6 (eBlockD 3 55 71) i5 [(.own 1 0 (List.length c16.steps)), (i64 c16.result)]⟩, ⟨0, 71, 5, List.map (eStepD 3 55 71) q17.2⟩]) (v' := (i64 q17.1)) [1] go0 hb92 (hrec_laws_markStepS gq17) rfl (by decide) rfl rfl (.deep (pure_mapD eStepD_pure) .nil) rfl rfl (.deep (pure_mapD eStepD_pure) .nil) .nil rfl rfl (fun hln => ?_)
  have ln18 : List.length q17.2 = List.length c16.steps := by simpa only [List.length_map] using hln 0 _ _ rfl rfl rfl
  refine AO.weaken (Wk.take (id := 0) (m := 1) (j := 0) (i := i5) (c := c16) (ys := q17.2) (encY := (eStepD 3 55 71)) (x' := [(.dv 71 5 (List.map (eStepD 3 55 71) q17.2)), (i64 c16.result)]) (st' := [⟨0, 55, 2, hole l6 (eBlockD 3 55 71) i5 [(.dv 71 5 (List.map (eStepD 3 55 71) q17.2)), (i64 c16.result)]⟩, ⟨1, 71, 5, []⟩]) rfl gc16 rfl rfl (by first | (simp only [Sh.put_len]; done) | (simp only [Sh.put_len]; omega) | omega) (by decide) (show 1 ≤ 1 by decide) eStepD_deep rfl rfl) ?_
  refine AO.weaken (Wk.filled (id := 0) (i := i5) (u := (Block.mk q17.2 c16.result)) (st' := [(ro 0 55 2 (eBlockD 3 55 71) (Sh.put l6 i5 (Block.mk q17.2 c16.result))), ⟨1, 71, 5, []⟩]) rfl rfl rfl) (zq tb rfl (dn hK15 rfl (sr rfl fun K19 hK19 => zm tb 3 rfl (bs h1 fun c20 gc20 h1 => ?_))))
  refine zz (.ptr 0 0 (Int.toNat i5) 0) (aq_ixo ei69 rfl rfl rfl (by first | (simp only [Sh.put_len]; done) | (simp only [Sh.put_len]; omega) | omega) gc20) rfl ?_
  refine zq tb rfl (ao_stl (st' := [(ro 0 55 2 (eBlockD 3 55 71) (Sh.put (Sh.put l6 i5 (Block.mk q17.2 c16.result)) i5 (Block.mk c20.steps q17.1))), ⟨1, 71, 5, []⟩]) (u' := (Block.mk c20.steps q17.1)) go0 ti3 rfl rfl gc20 rfl rfl rfl (show 1 + 1 ≤ 2 by decide) rfl rfl (dn hK19 rfl (AW.regionO rfl (zm tb 3 rfl (dn hK14 rfl (AW.regionO rfl (zm tb 3 rfl ?_)))))))
  exact AO.done (xi (Sh.w (q17.1 + 1), Sh.w (i5 + 1), Sh.put (Sh.put l6 i5 (Block.mk q17.2 c16.result)) i5 (Block.mk c20.steps q17.1)) h1 (by refine Wk.trans (Wk.permk (L := [(0, (.own 0 0 (List.length l6))), (1, (i64 (Sh.w (q17.1 + 1)))), (5, (i64 (Sh.w (i5 + 1))))]) (st' := [⟨0, 55, 2, List.map (eBlockD 3 55 71) (Sh.put (Sh.put l6 i5 (Block.mk q17.2 c16.result)) i5 (Block.mk c20.steps q17.1))⟩]) (st1 := [⟨0, 55, 2, List.map (eBlockD 3 55 71) (Sh.put (Sh.put l6 i5 (Block.mk q17.2 c16.result)) i5 (Block.mk c20.steps q17.1))⟩]) [0] rfl (.deep (pure_mapD fun _ => rfl) .nil) (by decide) rfl rfl (.deep (pure_mapD fun _ => rfl) .nil) ⟨.rfl, .rfl, .rfl, trivial⟩) ?_; exact Wk.to (L := [(0, (.own 0 0 (List.length (Sh.put (Sh.put l6 i5 (Block.mk q17.2 c16.result)) i5 (Block.mk c20.steps q17.1))))), (1, (i64 (Sh.w (q17.1 + 1)))), (5, (i64 (Sh.w (i5 + 1))))]) ⟨(.len (by first | (simp only [Sh.put_len]; done) | (simp only [Sh.put_len]; omega) | omega)), .rfl, .rfl, trivial⟩))
 ·intro b13 h1
  exact AW.exit (M9 k4 l6 (Sh.some_eq h1).symm _ (Wk.tr rfl))
theorem laws_markStepS_B_ok {N : Nat} {rec_laws_markStepS : (List Step) → Int → Option (Int × (List Step))} (hrec_laws_markStepS : ∀ {s0 : (List Step)} {p1 : Int} {r : Int × (List Step)}, rec_laws_markStepS s0 p1 = some r → ACalls Tryz.prog 92 [(ow 0 0 s0), (i64 p1)] [(ro 0 71 5 (eStepD 3 55 71) s0)] (fun v st => v = (i64 r.1) ∧ st = [(ro 0 71 5 (eStepD 3 55 71) r.2)])) {s0 : (List Step)} {p1 : Int} {r : Int × (List Step)} (h0 : laws_markStepS_B N rec_laws_markStepS s0 p1 = some r) : ACalls Tryz.prog 92 [(ow 0 0 s0), (i64 p1)] [(ro 0 71 5 (eStepD 3 55 71) s0)] (fun v st => v = (i64 r.1) ∧ st = [(ro 0 71 5 (eStepD 3 55 71) r.2)]) := by
 unfold laws_markStepS_B at h0
 refine ai Tryz.func92 rfl rfl rfl rfl (zr tb rfl rfl (AW.seq fun K2 hK2 => zr tb rfl rfl (bs h0 fun o9 h1 h0 => ?_)))
 have M9 : ∀ (k7 : Int) (l8 : (List Step)), o9 = (k7, l8) → ∀ s, Wk 1 s ⟨48, envL [(1, (i64 k7))], [(ro 0 71 5 (eStepD 3 55 71) l8)]⟩ → K2 s := by
  intro k7 l8 hq s hw
  subst o9
  try dsimp only at h0
  refine hK2 _ (AW.weaken hw (zr tb rfl rfl ?_))
  replace h0 := Sh.some_eq h0
  subst r
  exact AW.ret (xr (Wk.to (L := [(4, (i64 k7))]) ⟨.rfl, trivial⟩))
 refine AW.block (AW.loopF (σ := Int × Int × (List Step)) (fun n v => laws_markStepS_B_L1 N rec_laws_markStepS n v.1 v.2.1 v.2.2 = some o9) (fun (k4, i5, l6) => ⟨48, envL [(0, (ow 0 0 l6)), (1, (i64 k4)), (5, (i64 i5))], [(ro 0 71 5 (eStepD 3 55 71) l6)]⟩) N (p1, 0, s0) h1 (Wk.tr rfl) (fun _ hv => by rw [laws_markStepS_B_L1] at hv; cases hv) ?_)
 rintro n ⟨k4, i5, l6⟩ h1
 try dsimp only at h1 ⊢
 rw [laws_markStepS_B_L1] at h1
 refine AW.seq fun K11 hK11 => sr rfl fun K12 hK12 => zm tb 2 rfl (zz (i64 (Sh.len l6)) (aq_leno sl53 rfl rfl rfl) rfl (zq tb rfl (dn hK12 rfl ?_)))
 refine ci h1 rfl ?_ ?_ <;> clear h1
 ·intro b13 h1
  refine AW.skip (hK11 _ (AW.seq fun K14 hK14 => AW.block (sr rfl fun K15 hK15 => zm tb 3 rfl (bs h1 fun c16 gc16 h1 => zz (.ptr 0 0 (Int.toNat i5) 0) (aq_ixo ei53 rfl rfl rfl rfl gc16) rfl (zq tb rfl ?_)))))
  refine ao_stl (st' := [(ro 0 71 5 (eStepD 3 55 71) (Sh.put l6 i5 (Step.mk k4 c16.num c16.into c16.args c16.kids)))]) (u' := (Step.mk k4 c16.num c16.into c16.args c16.kids)) go0 ti3 rfl rfl gc16 rfl rfl rfl (show 0 + 1 ≤ 5 by decide) (by rw [eStepD_eq, eStepD_eq]; rfl) rfl ?_
  refine dn hK15 rfl (zr tb rfl rfl (sr rfl fun K18 hK18 => zm tb 3 rfl (bs h1 fun c19 gc19 h1 => ?_)))
  refine zz (.ptr 0 0 (Int.toNat i5) 0) (aq_ixo ei53 rfl rfl rfl (by simp only [Sh.put_len]) gc19) rfl ?_
  refine zq tb rfl ?_
  refine ao_stl (st' := [(ro 0 71 5 (eStepD 3 55 71) (Sh.put (Sh.put l6 i5 (Step.mk k4 c16.num c16.into c16.args c16.kids)) i5 (Step.mk c19.op (Sh.w (k4 + 1)) c19.into c19.args c19.kids)))]) (u' := (Step.mk c19.op (Sh.w (k4 + 1)) c19.into c19.args c19.kids)) go0 ti3 rfl rfl gc19 rfl rfl rfl (show 1 + 1 ≤ 5 by decide) (by rw [eStepD_eq, eStepD_eq]; rfl) rfl ?_
  refine dn hK18 rfl (zr tb rfl rfl (sr rfl fun K21 hK21 => zm tb 3 rfl (bs h1 fun c22 gc22 h1 => ?_)))
  refine zz (.ptr 0 0 (Int.toNat i5) 0) (aq_ixo ei53 rfl rfl rfl (by simp only [Sh.put_len]) gc22) rfl ?_
  refine zq tb rfl ?_
  refine ao_stl (st' := [(ro 0 71 5 (eStepD 3 55 71) (Sh.put (Sh.put (Sh.put l6 i5 (Step.mk k4 c16.num c16.into c16.args c16.kids)) i5 (Step.mk c19.op (Sh.w (k4 + 1)) c19.into c19.args c19.kids)) i5 (Step.mk c22.op c22.num (Sh.w ((Sh.w (k4 + 1)) + 1)) c22.args c22.kids)))]) (u' := (Step.mk c22.op c22.num (Sh.w ((Sh.w (k4 + 1)) + 1)) c22.args c22.kids)) go0 ti3 rfl rfl gc22 rfl rfl rfl (show 2 + 1 ≤ 5 by decide) (by rw [eStepD_eq, eStepD_eq]; rfl) rfl ?_
  refine dn hK21 rfl (zr tb rfl rfl (sr rfl fun K24 hK24 => zm tb 2 rfl (bs h1 fun c25 gc25 h1 => ?_)))
  refine zz (.ptr 0 0 (Int.toNat i5) 0) (aq_ixo ei53 rfl rfl rfl (by simp only [Sh.put_len]) gc25) rfl ?_
  refine zq tb rfl (AO.weaken (Wk.expel (id := 0) (j := 3) (i := i5) (c := c25) (ys := c25.args) (encY := eI) (x := [(i64 c25.op), (i64 c25.num), (i64 c25.into), (.dv 3 1 (List.map eI c25.args)), (.dv 55 2 (List.map (eBlockD 3 55 71) c25.kids))]) (x' := [(i64 c25.op), (i64 c25.num), (i64 c25.into), (ow 1 0 c25.args), (.dv 55 2 (List.map (eBlockD 3 55 71) c25.kids))]) (st' := [⟨0, 71, 5, hole (Sh.put (Sh.put (Sh.put l6 i5 (Step.mk k4 c16.num c16.into c16.args c16.kids)) i5 (Step.mk c19.op (Sh.w (k4 + 1)) c19.into c19.args c19.kids)) i5 (Step.mk c22.op c22.num (Sh.w ((Sh.w (k4 + 1)) + 1)) c22.args c22.kids)) (eStepD 3 55 71) i5 [(i64 c25.op), (i64 c25.num), (i64 c25.into), (ow 1 0 c25.args), (.dv 55 2 (List.map (eBlockD 3 55 71) c25.kids))]⟩, (ro 0 3 1 eI c25.args)]) rfl gc25 (eStepD_eq _) rfl rfl rfl rfl) (zz (ow 1 0 c25.args) (aq_ldp ti37 rfl rfl (hole_get gc25) rfl) rfl (zq tb rfl (bs h1 fun q26 gq26 h1 => ?_))))
  refine ao_callsL (rowsP := [⟨0, 3, 1, List.map eI c25.args⟩]) (rows0 := [⟨0, 3, 1, List.map eI c25.args⟩]) (rows1 := [⟨0, 3, 1, List.map eI q26.2⟩]) (rows2 := []) (rows1' := [⟨0, 3, 1, List.map eI q26.2⟩]) (rows2' := []) (st' := [⟨0, 71, 5, hole (Sh.put (Sh.put (Sh.put l6 i5 (Step.mk k4 c16.num c16.into c16.args c16.kids)) i5 (Step.mk c19.op (Sh.w (k4 + 1)) c19.into c19.args c19.kids)) i5 (Step.mk c22.op c22.num (Sh.w ((Sh.w (k4 + 1)) + 1)) c22.args c22.kids)) (eStepD 3 55 71) i5 [(i64 c25.op), (i64 c25.num), (i64 c25.into), (.own 1 0 (List.length c25.args)), (.dv 55 2 (List.map (eBlockD 3 55 71) c25.kids))]⟩, ⟨0, 3, 1, List.map eI q26.2⟩]) (v' := (i64 q26.1)) [1] go0 hb20 (laws_markIntS_ok gq26) rfl (by decide) rfl rfl (.pure (pure_map fun _ => rfl) .nil) rfl rfl (.pure (pure_map fun _ => rfl) .nil) .nil rfl rfl (fun hln => ?_)
  have ln27 : List.length q26.2 = List.length c25.args := by simpa only [List.length_map] using hln 0 _ _ rfl rfl rfl
  refine AO.weaken (Wk.take (id := 0) (m := 1) (j := 3) (i := i5) (c := c25) (ys := q26.2) (encY := eI) (x' := [(i64 c25.op), (i64 c25.num), (i64 c25.into), (.dv 3 1 (List.map eI q26.2)), (.dv 55 2 (List.map (eBlockD 3 55 71) c25.kids))]) (st' := [⟨0, 71, 5, hole (Sh.put (Sh.put (Sh.put l6 i5 (Step.mk k4 c16.num c16.into c16.args c16.kids)) i5 (Step.mk c19.op (Sh.w (k4 + 1)) c19.into c19.args c19.kids)) i5 (Step.mk c22.op c22.num (Sh.w ((Sh.w (k4 + 1)) + 1)) c22.args c22.kids)) (eStepD 3 55 71) i5 [(i64 c25.op), (i64 c25.num), (i64 c25.into), (.dv 3 1 (List.map eI q26.2)), (.dv 55 2 (List.map (eBlockD 3 55 71) c25.kids))]⟩, ⟨1, 3, 1, []⟩]) rfl gc25 rfl rfl (by first | (simp only [Sh.put_len]; done) | (simp only [Sh.put_len]; omega) | omega) (by decide) (show 1 ≤ 1 by decide) (fun _ => rfl) rfl rfl) ?_
  refine AO.weaken (Wk.filled (id := 0) (i := i5) (u := (Step.mk c25.op c25.num c25.into q26.2 c25.kids)) (st' := [(ro 0 71 5 (eStepD 3 55 71) (Sh.put (Sh.put (Sh.put (Sh.put l6 i5 (Step.mk k4 c16.num c16.into c16.args c16.kids)) i5 (Step.mk c19.op (Sh.w (k4 + 1)) c19.into c19.args c19.kids)) i5 (Step.mk c22.op c22.num (Sh.w ((Sh.w (k4 + 1)) + 1)) c22.args c22.kids)) i5 (Step.mk c25.op c25.num c25.into q26.2 c25.kids))), ⟨1, 3, 1, []⟩]) rfl (eStepD_eq (Step.mk c25.op c25.num c25.into q26.2 c25.kids)).symm rfl) (zq tb rfl (dn hK24 rfl (AW.regionO rfl (zm tb 2 rfl (bs h1 fun c28 gc28 h1 => ?_)))))
  refine zz (.ptr 0 0 (Int.toNat i5) 0) (aq_ixo ei53 rfl rfl rfl (by first | (simp only [Sh.put_len]; done) | (simp only [Sh.put_len]; omega) | omega) gc28) rfl ?_
  refine zq tb rfl (AO.weaken (Wk.expel (id := 0) (j := 4) (i := i5) (c := c28) (ys := c28.kids) (encY := (eBlockD 3 55 71)) (x := [(i64 c28.op), (i64 c28.num), (i64 c28.into), (.dv 3 1 (List.map eI c28.args)), (.dv 55 2 (List.map (eBlockD 3 55 71) c28.kids))]) (x' := [(i64 c28.op), (i64 c28.num), (i64 c28.into), (.dv 3 1 (List.map eI c28.args)), (ow 2 0 c28.kids)]) (st' := [⟨0, 71, 5, hole (Sh.put (Sh.put (Sh.put (Sh.put l6 i5 (Step.mk k4 c16.num c16.into c16.args c16.kids)) i5 (Step.mk c19.op (Sh.w (k4 + 1)) c19.into c19.args c19.kids)) i5 (Step.mk c22.op c22.num (Sh.w ((Sh.w (k4 + 1)) + 1)) c22.args c22.kids)) i5 (Step.mk c25.op c25.num c25.into q26.2 c25.kids)) (eStepD 3 55 71) i5 [(i64 c28.op), (i64 c28.num), (i64 c28.into), (.dv 3 1 (List.map eI c28.args)), (ow 2 0 c28.kids)]⟩, ⟨1, 3, 1, []⟩, (ro 0 55 2 (eBlockD 3 55 71) c28.kids)]) rfl gc28 (eStepD_eq _) rfl rfl rfl rfl) (zz (ow 2 0 c28.kids) (aq_ldp ti69 rfl rfl (hole_get gc28) rfl) rfl (zq tb rfl (bs h1 fun q29 gq29 h1 => ?_))))
  refine ao_callsL (rowsP := [⟨0, 55, 2, List.map (eBlockD 3 55 71) c28.kids⟩]) (rows0 := [⟨0, 55, 2, List.map (eBlockD 3 55 71) c28.kids⟩]) (rows1 := [⟨0, 55, 2, List.map (eBlockD 3 55 71) q29.2⟩]) (rows2 := []) (rows1' := [⟨0, 55, 2, List.map (eBlockD 3 55 71) q29.2⟩]) (rows2' := []) (st' := [⟨0, 71, 5, hole (Sh.put (Sh.put (Sh.put (Sh.put l6 i5 (Step.mk k4 c16.num c16.into c16.args c16.kids)) i5 (Step.mk c19.op (Sh.w (k4 + 1)) c19.into c19.args c19.kids)) i5 (Step.mk c22.op c22.num (Sh.w ((Sh.w (k4 + 1)) + 1)) c22.args c22.kids)) i5 (Step.mk c25.op c25.num c25.into q26.2 c25.kids)) (eStepD 3 55 71) i5 [(i64 c28.op), (i64 c28.num), (i64 c28.into), (.dv 3 1 (List.map eI c28.args)), (.own 2 0 (List.length c28.kids))]⟩, ⟨1, 3, 1, []⟩, ⟨0, 55, 2, List.map (eBlockD 3 55 71) q29.2⟩]) (v' := (i64 q29.1)) [2] go0 hb143 (laws_markBlockS_ok hrec_laws_markStepS gq29) rfl (by decide) rfl rfl (.deep (pure_mapD fun _ => rfl) .nil) rfl rfl (.deep (pure_mapD fun _ => rfl) .nil) .nil rfl rfl (fun hln => ?_)
  have ln30 : List.length q29.2 = List.length c28.kids := by simpa only [List.length_map] using hln 0 _ _ rfl rfl rfl
  refine AO.weaken (Wk.take (id := 0) (m := 2) (j := 4) (i := i5) (c := c28) (ys := q29.2) (encY := (eBlockD 3 55 71)) (x' := [(i64 c28.op), (i64 c28.num), (i64 c28.into), (.dv 3 1 (List.map eI c28.args)), (.dv 55 2 (List.map (eBlockD 3 55 71) q29.2))]) (st' := [⟨0, 71, 5, hole (Sh.put (Sh.put (Sh.put (Sh.put l6 i5 (Step.mk k4 c16.num c16.into c16.args c16.kids)) i5 (Step.mk c19.op (Sh.w (k4 + 1)) c19.into c19.args c19.kids)) i5 (Step.mk c22.op c22.num (Sh.w ((Sh.w (k4 + 1)) + 1)) c22.args c22.kids)) i5 (Step.mk c25.op c25.num c25.into q26.2 c25.kids)) (eStepD 3 55 71) i5 [(i64 c28.op), (i64 c28.num), (i64 c28.into), (.dv 3 1 (List.map eI c28.args)), (.dv 55 2 (List.map (eBlockD 3 55 71) q29.2))]⟩, ⟨1, 3, 1, []⟩, ⟨1, 55, 2, []⟩]) rfl gc28 rfl rfl (by first | (simp only [Sh.put_len]; done) | (simp only [Sh.put_len]; omega) | omega) (by decide) (show 1 ≤ 2 by decide) (fun _ => rfl) rfl rfl) ?_
  refine AO.weaken (Wk.filled (id := 0) (i := i5) (u := (Step.mk c28.op c28.num c28.into c28.args q29.2)) (st' := [(ro 0 71 5 (eStepD 3 55 71) (Sh.put (Sh.put (Sh.put (Sh.put (Sh.put l6 i5 (Step.mk k4 c16.num c16.into c16.args c16.kids)) i5 (Step.mk c19.op (Sh.w (k4 + 1)) c19.into c19.args c19.kids)) i5 (Step.mk c22.op c22.num (Sh.w ((Sh.w (k4 + 1)) + 1)) c22.args c22.kids)) i5 (Step.mk c25.op c25.num c25.into q26.2 c25.kids)) i5 (Step.mk c28.op c28.num c28.into c28.args q29.2))), ⟨1, 3, 1, []⟩, ⟨1, 55, 2, []⟩]) rfl (eStepD_eq (Step.mk c28.op c28.num c28.into c28.args q29.2)).symm rfl) (zq tb rfl (dn hK14 rfl (AW.regionO rfl (zm tb 3 rfl ?_))))
  exact AO.done (xi (q29.1, Sh.w (i5 + 1), Sh.put (Sh.put (Sh.put (Sh.put (Sh.put l6 i5 (Step.mk k4 c16.num c16.into c16.args c16.kids)) i5 (Step.mk c19.op (Sh.w (k4 + 1)) c19.into c19.args c19.kids)) i5 (Step.mk c22.op c22.num (Sh.w ((Sh.w (k4 + 1)) + 1)) c22.args c22.kids)) i5 (Step.mk c25.op c25.num c25.into q26.2 c25.kids)) i5 (Step.mk c28.op c28.num c28.into c28.args q29.2)) h1 (by refine Wk.trans (Wk.permk (L := [(0, (.own 0 0 (List.length l6))), (1, (i64 q29.1)), (5, (i64 (Sh.w (i5 + 1))))]) (st' := [⟨0, 71, 5, List.map (eStepD 3 55 71) (Sh.put (Sh.put (Sh.put (Sh.put (Sh.put l6 i5 (Step.mk k4 c16.num c16.into c16.args c16.kids)) i5 (Step.mk c19.op (Sh.w (k4 + 1)) c19.into c19.args c19.kids)) i5 (Step.mk c22.op c22.num (Sh.w ((Sh.w (k4 + 1)) + 1)) c22.args c22.kids)) i5 (Step.mk c25.op c25.num c25.into q26.2 c25.kids)) i5 (Step.mk c28.op c28.num c28.into c28.args q29.2))⟩]) (st1 := [⟨0, 71, 5, List.map (eStepD 3 55 71) (Sh.put (Sh.put (Sh.put (Sh.put (Sh.put l6 i5 (Step.mk k4 c16.num c16.into c16.args c16.kids)) i5 (Step.mk c19.op (Sh.w (k4 + 1)) c19.into c19.args c19.kids)) i5 (Step.mk c22.op c22.num (Sh.w ((Sh.w (k4 + 1)) + 1)) c22.args c22.kids)) i5 (Step.mk c25.op c25.num c25.into q26.2 c25.kids)) i5 (Step.mk c28.op c28.num c28.into c28.args q29.2))⟩]) [0] rfl (.deep (pure_mapD eStepD_pure) .nil) (by decide) rfl rfl (.deep (pure_mapD eStepD_pure) .nil) ⟨.rfl, .rfl, .rfl, trivial⟩) ?_; exact Wk.to (L := [(0, (.own 0 0 (List.length (Sh.put (Sh.put (Sh.put (Sh.put (Sh.put l6 i5 (Step.mk k4 c16.num c16.into c16.args c16.kids)) i5 (Step.mk c19.op (Sh.w (k4 + 1)) c19.into c19.args c19.kids)) i5 (Step.mk c22.op c22.num (Sh.w ((Sh.w (k4 + 1)) + 1)) c22.args c22.kids)) i5 (Step.mk c25.op c25.num c25.into q26.2 c25.kids)) i5 (Step.mk c28.op c28.num c28.into c28.args q29.2))))), (1, (i64 q29.1)), (5, (i64 (Sh.w (i5 + 1))))]) ⟨(.len (by first | (simp only [Sh.put_len]; done) | (simp only [Sh.put_len]; omega) | omega)), .rfl, .rfl, trivial⟩))
 ·intro b13 h1
  exact AW.exit (M9 k4 l6 (Sh.some_eq h1).symm _ (Wk.tr rfl))

theorem laws_markStepS_F_ok {N : Nat} : ∀ (n : Nat), ∀ {s0 : (List Step)} {p1 : Int} {r : Int × (List Step)}, laws_markStepS_F N n s0 p1 = some r → ACalls Tryz.prog 92 [(ow 0 0 s0), (i64 p1)] [(ro 0 71 5 (eStepD 3 55 71) s0)] (fun v st => v = (i64 r.1) ∧ st = [(ro 0 71 5 (eStepD 3 55 71) r.2)]) := by
 intro n
 induction n with
 | zero => intro s0 p1 r h0; cases h0
 | succ n ih =>
  intro s0 p1 r h0
  rw [laws_markStepS_F] at h0
  exact laws_markStepS_B_ok (fun h => ih h) h0
theorem laws_markStepS_ok {N : Nat} : ∀ {s0 : (List Step)} {p1 : Int} {r : Int × (List Step)}, laws_markStepS N s0 p1 = some r → ACalls Tryz.prog 92 [(ow 0 0 s0), (i64 p1)] [(ro 0 71 5 (eStepD 3 55 71) s0)] (fun v st => v = (i64 r.1) ∧ st = [(ro 0 71 5 (eStepD 3 55 71) r.2)]) := by
 intro s0 p1 r h0
 exact laws_markStepS_F_ok N h0
theorem laws_markRoutineS_ok {N : Nat} {s0 : (List RRoutine)} {p1 : Int} {r : Int × (List RRoutine)} (h0 : laws_markRoutineS N s0 p1 = some r) : ACalls Tryz.prog 44 [(ow 0 0 s0), (i64 p1)] [(ro 0 57 5 (eRRoutineD 3 3 3 55 71) s0)] (fun v st => v = (i64 r.1) ∧ st = [(ro 0 57 5 (eRRoutineD 3 3 3 55 71) r.2)]) := by
 unfold laws_markRoutineS at h0
 refine ai Tryz.func44 rfl rfl rfl rfl (zr tb rfl rfl (AW.seq fun K2 hK2 => zr tb rfl rfl (bs h0 fun o9 h1 h0 => ?_)))
 have M9 : ∀ (k7 : Int) (l8 : (List RRoutine)), o9 = (k7, l8) → ∀ s, Wk 1 s ⟨50, envL [(1, (i64 k7))], [(ro 0 57 5 (eRRoutineD 3 3 3 55 71) l8)]⟩ → K2 s := by
  intro k7 l8 hq s hw
  subst o9
  try dsimp only at h0
  refine hK2 _ (AW.weaken hw (zr tb rfl rfl ?_))
  replace h0 := Sh.some_eq h0
  subst r
  exact AW.ret (xr (Wk.to (L := [(4, (i64 k7))]) ⟨.rfl, trivial⟩))
 refine AW.block (AW.loopF (σ := Int × Int × (List RRoutine)) (fun n v => laws_markRoutineS_L1 N n v.1 v.2.1 v.2.2 = some o9) (fun (k4, i5, l6) => ⟨50, envL [(0, (ow 0 0 l6)), (1, (i64 k4)), (5, (i64 i5))], [(ro 0 57 5 (eRRoutineD 3 3 3 55 71) l6)]⟩) N (p1, 0, s0) h1 (Wk.tr rfl) (fun _ hv => by rw [laws_markRoutineS_L1] at hv; cases hv) ?_)
 rintro n ⟨k4, i5, l6⟩ h1
 try dsimp only at h1 ⊢
 rw [laws_markRoutineS_L1] at h1
 refine AW.seq fun K11 hK11 => sr rfl fun K12 hK12 => zm tb 2 rfl (zz (i64 (Sh.len l6)) (aq_leno sl28 rfl rfl rfl) rfl (zq tb rfl (dn hK12 rfl ?_)))
 refine ci h1 rfl ?_ ?_ <;> clear h1
 ·intro b13 h1
  refine AW.skip (hK11 _ (AW.seq fun K14 hK14 => AW.block (sr rfl fun K15 hK15 => zm tb 2 rfl (bs h1 fun c16 gc16 h1 => zz (.ptr 0 0 (Int.toNat i5) 0) (aq_ixo ei28 rfl rfl rfl rfl gc16) rfl (zq tb rfl (AO.weaken (Wk.expel (id := 0) (j := 0) (i := i5) (c := c16) (ys := c16.params) (encY := eI) (x := [(.dv 3 1 (List.map eI c16.params)), (.dv 3 1 (List.map eI c16.lent)), (i64 c16.result), (.dv 71 5 (List.map (eStepD 3 55 71) c16.body.steps)), (i64 c16.body.result)]) (x' := [(ow 1 0 c16.params), (.dv 3 1 (List.map eI c16.lent)), (i64 c16.result), (.dv 71 5 (List.map (eStepD 3 55 71) c16.body.steps)), (i64 c16.body.result)]) (st' := [⟨0, 57, 5, hole l6 (eRRoutineD 3 3 3 55 71) i5 [(ow 1 0 c16.params), (.dv 3 1 (List.map eI c16.lent)), (i64 c16.result), (.dv 71 5 (List.map (eStepD 3 55 71) c16.body.steps)), (i64 c16.body.result)]⟩, (ro 0 3 1 eI c16.params)]) rfl gc16 rfl rfl rfl rfl rfl) (zz (ow 1 0 c16.params) (aq_ldp ti37 rfl rfl (hole_get gc16) rfl) rfl (zq tb rfl (bs h1 fun q17 gq17 h1 => ?_)))))))))
  refine ao_callsL (rowsP := [⟨0, 3, 1, List.map eI c16.params⟩]) (rows0 := [⟨0, 3, 1, List.map eI c16.params⟩]) (rows1 := [⟨0, 3, 1, List.map eI q17.2⟩]) (rows2 := []) (rows1' := [⟨0, 3, 1, List.map eI q17.2⟩]) (rows2' := []) (st' := [⟨0, 57, 5, hole l6 (eRRoutineD 3 3 3 55 71) i5 [(.own 1 0 (List.length c16.params)), (.dv 3 1 (List.map eI c16.lent)), (i64 c16.result), (.dv 71 5 (List.map (eStepD 3 55 71) c16.body.steps)), (i64 c16.body.result)]⟩, ⟨0, 3, 1, List.map eI q17.2⟩]) (v' := (i64 q17.1)) [1] go0 hb20 (laws_markIntS_ok gq17) rfl (by decide) rfl rfl (.pure (pure_map fun _ => rfl) .nil) rfl rfl (.pure (pure_map fun _ => rfl) .nil) .nil rfl rfl (fun hln => ?_)
  have ln18 : List.length q17.2 = List.length c16.params := by simpa only [List.length_map] using hln 0 _ _ rfl rfl rfl
  refine AO.weaken (Wk.take (id := 0) (m := 1) (j := 0) (i := i5) (c := c16) (ys := q17.2) (encY := eI) (x' := [(.dv 3 1 (List.map eI q17.2)), (.dv 3 1 (List.map eI c16.lent)), (i64 c16.result), (.dv 71 5 (List.map (eStepD 3 55 71) c16.body.steps)), (i64 c16.body.result)]) (st' := [⟨0, 57, 5, hole l6 (eRRoutineD 3 3 3 55 71) i5 [(.dv 3 1 (List.map eI q17.2)), (.dv 3 1 (List.map eI c16.lent)), (i64 c16.result), (.dv 71 5 (List.map (eStepD 3 55 71) c16.body.steps)), (i64 c16.body.result)]⟩, ⟨1, 3, 1, []⟩]) rfl gc16 rfl rfl (by first | (simp only [Sh.put_len]; done) | (simp only [Sh.put_len]; omega) | omega) (by decide) (show 1 ≤ 1 by decide) (fun _ => rfl) rfl rfl) ?_
  refine AO.weaken (Wk.filled (id := 0) (i := i5) (u := (RRoutine.mk q17.2 c16.lent c16.result c16.body)) (st' := [(ro 0 57 5 (eRRoutineD 3 3 3 55 71) (Sh.put l6 i5 (RRoutine.mk q17.2 c16.lent c16.result c16.body))), ⟨1, 3, 1, []⟩]) rfl rfl rfl) (zq tb rfl (dn hK15 rfl (sr rfl fun K19 hK19 => zm tb 2 rfl (bs h1 fun c20 gc20 h1 => ?_))))
  refine zz (.ptr 0 0 (Int.toNat i5) 0) (aq_ixo ei28 rfl rfl rfl (by first | (simp only [Sh.put_len]; done) | (simp only [Sh.put_len]; omega) | omega) gc20) rfl ?_
  refine zq tb rfl (AO.weaken (Wk.expel (id := 0) (j := 1) (i := i5) (c := c20) (ys := c20.lent) (encY := eI) (x := [(.dv 3 1 (List.map eI c20.params)), (.dv 3 1 (List.map eI c20.lent)), (i64 c20.result), (.dv 71 5 (List.map (eStepD 3 55 71) c20.body.steps)), (i64 c20.body.result)]) (x' := [(.dv 3 1 (List.map eI c20.params)), (ow 2 0 c20.lent), (i64 c20.result), (.dv 71 5 (List.map (eStepD 3 55 71) c20.body.steps)), (i64 c20.body.result)]) (st' := [⟨0, 57, 5, hole (Sh.put l6 i5 (RRoutine.mk q17.2 c16.lent c16.result c16.body)) (eRRoutineD 3 3 3 55 71) i5 [(.dv 3 1 (List.map eI c20.params)), (ow 2 0 c20.lent), (i64 c20.result), (.dv 71 5 (List.map (eStepD 3 55 71) c20.body.steps)), (i64 c20.body.result)]⟩, ⟨1, 3, 1, []⟩, (ro 0 3 1 eI c20.lent)]) rfl gc20 rfl rfl rfl rfl rfl) (zz (ow 2 0 c20.lent) (aq_ldp ti37 rfl rfl (hole_get gc20) rfl) rfl (zq tb rfl (bs h1 fun q21 gq21 h1 => ?_))))
  refine ao_callsL (rowsP := [⟨0, 3, 1, List.map eI c20.lent⟩]) (rows0 := [⟨0, 3, 1, List.map eI c20.lent⟩]) (rows1 := [⟨0, 3, 1, List.map eI q21.2⟩]) (rows2 := []) (rows1' := [⟨0, 3, 1, List.map eI q21.2⟩]) (rows2' := []) (st' := [⟨0, 57, 5, hole (Sh.put l6 i5 (RRoutine.mk q17.2 c16.lent c16.result c16.body)) (eRRoutineD 3 3 3 55 71) i5 [(.dv 3 1 (List.map eI c20.params)), (.own 2 0 (List.length c20.lent)), (i64 c20.result), (.dv 71 5 (List.map (eStepD 3 55 71) c20.body.steps)), (i64 c20.body.result)]⟩, ⟨1, 3, 1, []⟩, ⟨0, 3, 1, List.map eI q21.2⟩]) (v' := (i64 q21.1)) [2] go0 hb20 (laws_markIntS_ok gq21) rfl (by decide) rfl rfl (.pure (pure_map fun _ => rfl) .nil) rfl rfl (.pure (pure_map fun _ => rfl) .nil) .nil rfl rfl (fun hln => ?_)
  have ln22 : List.length q21.2 = List.length c20.lent := by simpa only [List.length_map] using hln 0 _ _ rfl rfl rfl
  refine AO.weaken (Wk.take (id := 0) (m := 2) (j := 1) (i := i5) (c := c20) (ys := q21.2) (encY := eI) (x' := [(.dv 3 1 (List.map eI c20.params)), (.dv 3 1 (List.map eI q21.2)), (i64 c20.result), (.dv 71 5 (List.map (eStepD 3 55 71) c20.body.steps)), (i64 c20.body.result)]) (st' := [⟨0, 57, 5, hole (Sh.put l6 i5 (RRoutine.mk q17.2 c16.lent c16.result c16.body)) (eRRoutineD 3 3 3 55 71) i5 [(.dv 3 1 (List.map eI c20.params)), (.dv 3 1 (List.map eI q21.2)), (i64 c20.result), (.dv 71 5 (List.map (eStepD 3 55 71) c20.body.steps)), (i64 c20.body.result)]⟩, ⟨1, 3, 1, []⟩, ⟨1, 3, 1, []⟩]) rfl gc20 rfl rfl (by first | (simp only [Sh.put_len]; done) | (simp only [Sh.put_len]; omega) | omega) (by decide) (show 1 ≤ 2 by decide) (fun _ => rfl) rfl rfl) ?_
  refine AO.weaken (Wk.filled (id := 0) (i := i5) (u := (RRoutine.mk c20.params q21.2 c20.result c20.body)) (st' := [(ro 0 57 5 (eRRoutineD 3 3 3 55 71) (Sh.put (Sh.put l6 i5 (RRoutine.mk q17.2 c16.lent c16.result c16.body)) i5 (RRoutine.mk c20.params q21.2 c20.result c20.body))), ⟨1, 3, 1, []⟩, ⟨1, 3, 1, []⟩]) rfl rfl rfl) (zq tb rfl (dn hK19 rfl (sr rfl fun K23 hK23 => zm tb 3 rfl (bs h1 fun c24 gc24 h1 => ?_))))
  refine zz (.ptr 0 0 (Int.toNat i5) 0) (aq_ixo ei28 rfl rfl rfl (by first | (simp only [Sh.put_len]; done) | (simp only [Sh.put_len]; omega) | omega) gc24) rfl ?_
  refine zq tb rfl (ao_stl (st' := [(ro 0 57 5 (eRRoutineD 3 3 3 55 71) (Sh.put (Sh.put (Sh.put l6 i5 (RRoutine.mk q17.2 c16.lent c16.result c16.body)) i5 (RRoutine.mk c20.params q21.2 c20.result c20.body)) i5 (RRoutine.mk c24.params c24.lent q21.1 c24.body))), ⟨1, 3, 1, []⟩, ⟨1, 3, 1, []⟩]) (u' := (RRoutine.mk c24.params c24.lent q21.1 c24.body)) go0 ti3 rfl rfl gc24 rfl rfl rfl (show 2 + 1 ≤ 5 by decide) rfl rfl (dn hK23 rfl (zr tb rfl rfl (sr rfl fun K26 hK26 => zm tb 2 rfl (bs h1 fun c27 gc27 h1 => ?_)))))
  refine zz (.ptr 0 0 (Int.toNat i5) 0) (aq_ixo ei28 rfl rfl rfl (by first | (simp only [Sh.put_len]; done) | (simp only [Sh.put_len]; omega) | omega) gc27) rfl ?_
  refine zm tb 2 rfl (AO.weaken (Wk.expel (id := 0) (j := 3) (i := i5) (c := c27) (ys := c27.body.steps) (encY := (eStepD 3 55 71)) (x := [(.dv 3 1 (List.map eI c27.params)), (.dv 3 1 (List.map eI c27.lent)), (i64 c27.result), (.dv 71 5 (List.map (eStepD 3 55 71) c27.body.steps)), (i64 c27.body.result)]) (x' := [(.dv 3 1 (List.map eI c27.params)), (.dv 3 1 (List.map eI c27.lent)), (i64 c27.result), (ow 3 0 c27.body.steps), (i64 c27.body.result)]) (st' := [⟨0, 57, 5, hole (Sh.put (Sh.put (Sh.put l6 i5 (RRoutine.mk q17.2 c16.lent c16.result c16.body)) i5 (RRoutine.mk c20.params q21.2 c20.result c20.body)) i5 (RRoutine.mk c24.params c24.lent q21.1 c24.body)) (eRRoutineD 3 3 3 55 71) i5 [(.dv 3 1 (List.map eI c27.params)), (.dv 3 1 (List.map eI c27.lent)), (i64 c27.result), (ow 3 0 c27.body.steps), (i64 c27.body.result)]⟩, ⟨1, 3, 1, []⟩, ⟨1, 3, 1, []⟩, (ro 0 71 5 (eStepD 3 55 71) c27.body.steps)]) rfl gc27 rfl rfl rfl rfl rfl) (zz (ow 3 0 c27.body.steps) (aq_ldp ti53 rfl rfl (hole_get gc27) rfl) rfl (zq tb rfl (bs h1 fun q28 gq28 h1 => ?_))))
  refine ao_callsL (rowsP := [⟨0, 71, 5, List.map (eStepD 3 55 71) c27.body.steps⟩]) (rows0 := [⟨0, 71, 5, List.map (eStepD 3 55 71) c27.body.steps⟩]) (rows1 := [⟨0, 71, 5, List.map (eStepD 3 55 71) q28.2⟩]) (rows2 := []) (rows1' := [⟨0, 71, 5, List.map (eStepD 3 55 71) q28.2⟩]) (rows2' := []) (st' := [⟨0, 57, 5, hole (Sh.put (Sh.put (Sh.put l6 i5 (RRoutine.mk q17.2 c16.lent c16.result c16.body)) i5 (RRoutine.mk c20.params q21.2 c20.result c20.body)) i5 (RRoutine.mk c24.params c24.lent q21.1 c24.body)) (eRRoutineD 3 3 3 55 71) i5 [(.dv 3 1 (List.map eI c27.params)), (.dv 3 1 (List.map eI c27.lent)), (i64 c27.result), (.own 3 0 (List.length c27.body.steps)), (i64 c27.body.result)]⟩, ⟨1, 3, 1, []⟩, ⟨1, 3, 1, []⟩, ⟨0, 71, 5, List.map (eStepD 3 55 71) q28.2⟩]) (v' := (i64 q28.1)) [3] go0 hb92 (laws_markStepS_ok gq28) rfl (by decide) rfl rfl (.deep (pure_mapD eStepD_pure) .nil) rfl rfl (.deep (pure_mapD eStepD_pure) .nil) .nil rfl rfl (fun hln => ?_)
  have ln29 : List.length q28.2 = List.length c27.body.steps := by simpa only [List.length_map] using hln 0 _ _ rfl rfl rfl
  refine AO.weaken (Wk.take (id := 0) (m := 3) (j := 3) (i := i5) (c := c27) (ys := q28.2) (encY := (eStepD 3 55 71)) (x' := [(.dv 3 1 (List.map eI c27.params)), (.dv 3 1 (List.map eI c27.lent)), (i64 c27.result), (.dv 71 5 (List.map (eStepD 3 55 71) q28.2)), (i64 c27.body.result)]) (st' := [⟨0, 57, 5, hole (Sh.put (Sh.put (Sh.put l6 i5 (RRoutine.mk q17.2 c16.lent c16.result c16.body)) i5 (RRoutine.mk c20.params q21.2 c20.result c20.body)) i5 (RRoutine.mk c24.params c24.lent q21.1 c24.body)) (eRRoutineD 3 3 3 55 71) i5 [(.dv 3 1 (List.map eI c27.params)), (.dv 3 1 (List.map eI c27.lent)), (i64 c27.result), (.dv 71 5 (List.map (eStepD 3 55 71) q28.2)), (i64 c27.body.result)]⟩, ⟨1, 3, 1, []⟩, ⟨1, 3, 1, []⟩, ⟨1, 71, 5, []⟩]) rfl gc27 rfl rfl (by first | (simp only [Sh.put_len]; done) | (simp only [Sh.put_len]; omega) | omega) (by decide) (show 1 ≤ 3 by decide) eStepD_deep rfl rfl) ?_
  refine AO.weaken (Wk.filled (id := 0) (i := i5) (u := (RRoutine.mk c27.params c27.lent c27.result (Block.mk q28.2 c27.body.result))) (st' := [(ro 0 57 5 (eRRoutineD 3 3 3 55 71) (Sh.put (Sh.put (Sh.put (Sh.put l6 i5 (RRoutine.mk q17.2 c16.lent c16.result c16.body)) i5 (RRoutine.mk c20.params q21.2 c20.result c20.body)) i5 (RRoutine.mk c24.params c24.lent q21.1 c24.body)) i5 (RRoutine.mk c27.params c27.lent c27.result (Block.mk q28.2 c27.body.result)))), ⟨1, 3, 1, []⟩, ⟨1, 3, 1, []⟩, ⟨1, 71, 5, []⟩]) rfl rfl rfl) (zq tb rfl (dn hK26 rfl (sr rfl fun K30 hK30 => zm tb 3 rfl (bs h1 fun c31 gc31 h1 => ?_))))
  refine zz (.ptr 0 0 (Int.toNat i5) 0) (aq_ixo ei28 rfl rfl rfl (by first | (simp only [Sh.put_len]; done) | (simp only [Sh.put_len]; omega) | omega) gc31) rfl ?_
  refine zm tb 2 rfl (ao_stl (st' := [(ro 0 57 5 (eRRoutineD 3 3 3 55 71) (Sh.put (Sh.put (Sh.put (Sh.put (Sh.put l6 i5 (RRoutine.mk q17.2 c16.lent c16.result c16.body)) i5 (RRoutine.mk c20.params q21.2 c20.result c20.body)) i5 (RRoutine.mk c24.params c24.lent q21.1 c24.body)) i5 (RRoutine.mk c27.params c27.lent c27.result (Block.mk q28.2 c27.body.result))) i5 (RRoutine.mk c31.params c31.lent c31.result (Block.mk c31.body.steps q28.1)))), ⟨1, 3, 1, []⟩, ⟨1, 3, 1, []⟩, ⟨1, 71, 5, []⟩]) (u' := (RRoutine.mk c31.params c31.lent c31.result (Block.mk c31.body.steps q28.1))) go0 ti3 rfl rfl gc31 rfl rfl rfl (show 4 + 1 ≤ 5 by decide) rfl rfl (dn hK30 rfl (AW.regionO rfl (zm tb 3 rfl (dn hK14 rfl (AW.regionO rfl (zm tb 3 rfl ?_)))))))
  exact AO.done (xi (Sh.w (q28.1 + 1), Sh.w (i5 + 1), Sh.put (Sh.put (Sh.put (Sh.put (Sh.put l6 i5 (RRoutine.mk q17.2 c16.lent c16.result c16.body)) i5 (RRoutine.mk c20.params q21.2 c20.result c20.body)) i5 (RRoutine.mk c24.params c24.lent q21.1 c24.body)) i5 (RRoutine.mk c27.params c27.lent c27.result (Block.mk q28.2 c27.body.result))) i5 (RRoutine.mk c31.params c31.lent c31.result (Block.mk c31.body.steps q28.1))) h1 (by refine Wk.trans (Wk.permk (L := [(0, (.own 0 0 (List.length l6))), (1, (i64 (Sh.w (q28.1 + 1)))), (5, (i64 (Sh.w (i5 + 1))))]) (st' := [⟨0, 57, 5, List.map (eRRoutineD 3 3 3 55 71) (Sh.put (Sh.put (Sh.put (Sh.put (Sh.put l6 i5 (RRoutine.mk q17.2 c16.lent c16.result c16.body)) i5 (RRoutine.mk c20.params q21.2 c20.result c20.body)) i5 (RRoutine.mk c24.params c24.lent q21.1 c24.body)) i5 (RRoutine.mk c27.params c27.lent c27.result (Block.mk q28.2 c27.body.result))) i5 (RRoutine.mk c31.params c31.lent c31.result (Block.mk c31.body.steps q28.1)))⟩]) (st1 := [⟨0, 57, 5, List.map (eRRoutineD 3 3 3 55 71) (Sh.put (Sh.put (Sh.put (Sh.put (Sh.put l6 i5 (RRoutine.mk q17.2 c16.lent c16.result c16.body)) i5 (RRoutine.mk c20.params q21.2 c20.result c20.body)) i5 (RRoutine.mk c24.params c24.lent q21.1 c24.body)) i5 (RRoutine.mk c27.params c27.lent c27.result (Block.mk q28.2 c27.body.result))) i5 (RRoutine.mk c31.params c31.lent c31.result (Block.mk c31.body.steps q28.1)))⟩]) [0] rfl (.deep (pure_mapD fun _ => rfl) .nil) (by decide) rfl rfl (.deep (pure_mapD fun _ => rfl) .nil) ⟨.rfl, .rfl, .rfl, trivial⟩) ?_; exact Wk.to (L := [(0, (.own 0 0 (List.length (Sh.put (Sh.put (Sh.put (Sh.put (Sh.put l6 i5 (RRoutine.mk q17.2 c16.lent c16.result c16.body)) i5 (RRoutine.mk c20.params q21.2 c20.result c20.body)) i5 (RRoutine.mk c24.params c24.lent q21.1 c24.body)) i5 (RRoutine.mk c27.params c27.lent c27.result (Block.mk q28.2 c27.body.result))) i5 (RRoutine.mk c31.params c31.lent c31.result (Block.mk c31.body.steps q28.1)))))), (1, (i64 (Sh.w (q28.1 + 1)))), (5, (i64 (Sh.w (i5 + 1))))]) ⟨(.len (by first | (simp only [Sh.put_len]; done) | (simp only [Sh.put_len]; omega) | omega)), .rfl, .rfl, trivial⟩))
 ·intro b13 h1
  exact AW.exit (M9 k4 l6 (Sh.some_eq h1).symm _ (Wk.tr rfl))
noncomputable abbrev wE16 (s0 : (List RDecl)) (s1 : (List RRoutine)) : Go.Abs.Row := ⟨0, 30, 2, [[(.own 0 0 (List.length s0)), (.own 1 0 (List.length s1))]]⟩
theorem laws_markNormal_ok {N : Nat} {s0 : (List RDecl)} {s1 : (List RRoutine)} {p1 : Int} {r : Int × (List RDecl) × (List RRoutine)} (h0 : laws_markNormal N s0 s1 p1 = some r) : ACalls Tryz.prog 13 [(.agg [(ow 0 0 s0), (ow 1 0 s1)]), (i64 p1)] [(ro 0 98 3 (eRDeclD 134 3) s0), (ro 0 57 5 (eRRoutineD 3 3 3 55 71) s1)] (fun v st => v = (i64 r.1) ∧ st = [(ro 0 98 3 (eRDeclD 134 3) r.2.1), (ro 0 57 5 (eRRoutineD 3 3 3 55 71) r.2.2)]) := by
 unfold laws_markNormal at h0
 refine ai Tryz.func13 rfl rfl rfl rfl (sr rfl fun K1 hK1 => ao_box (m := 2) (st' := [(ro 0 98 3 (eRDeclD 134 3) s0), (ro 0 57 5 (eRRoutineD 3 3 3 55 71) s1), ⟨0, 30, 2, [[(ow 0 0 s0), (ow 1 0 s1)]]⟩]) go0 rfl rfl rfl rfl rfl (zq tb rfl (dn hK1 rfl (sr rfl fun K2 hK2 => zm tb 3 rfl (bs h0 fun q3 gq3 h0 => ?_)))))
 refine ao_callsL (rowsP := [⟨0, 98, 3, List.map (eRDeclD 134 3) s0⟩]) (rows0 := [⟨0, 98, 3, List.map (eRDeclD 134 3) s0⟩]) (rows1 := [⟨0, 98, 3, List.map (eRDeclD 134 3) q3.2⟩]) (rows2 := []) (rows1' := [⟨0, 98, 3, List.map (eRDeclD 134 3) q3.2⟩]) (rows2' := []) (st' := [⟨0, 98, 3, List.map (eRDeclD 134 3) q3.2⟩, ⟨0, 57, 5, List.map (eRRoutineD 3 3 3 55 71) s1⟩, (wE16 s0 s1)]) (v' := (i64 q3.1)) [0] go0 hb43 (laws_markDeclS_ok gq3) rfl (by decide) rfl rfl (.deep (pure_mapD fun _ => rfl) .nil) rfl rfl (.deep (pure_mapD fun _ => rfl) .nil) .nil rfl rfl (fun hln => ?_)
 have ln4 : List.length q3.2 = List.length s0 := by simpa only [List.length_map] using hln 0 _ _ rfl rfl rfl
 refine zq tb rfl (dn hK2 rfl (sr rfl fun K5 hK5 => zm tb 3 rfl (bs h0 fun q6 gq6 h0 => ?_)))
 refine ao_callsL (rowsP := [⟨0, 57, 5, List.map (eRRoutineD 3 3 3 55 71) s1⟩]) (rows0 := [⟨0, 57, 5, List.map (eRRoutineD 3 3 3 55 71) s1⟩]) (rows1 := [⟨0, 57, 5, List.map (eRRoutineD 3 3 3 55 71) q6.2⟩]) (rows2 := []) (rows1' := [⟨0, 57, 5, List.map (eRRoutineD 3 3 3 55 71) q6.2⟩]) (rows2' := []) (st' := [⟨0, 98, 3, List.map (eRDeclD 134 3) q3.2⟩, ⟨0, 57, 5, List.map (eRRoutineD 3 3 3 55 71) q6.2⟩, (wE16 s0 s1)]) (v' := (i64 q6.1)) [1] go0 hb44 (laws_markRoutineS_ok gq6) rfl (by decide) rfl rfl (.deep (pure_mapD fun _ => rfl) .nil) rfl rfl (.deep (pure_mapD fun _ => rfl) .nil) .nil rfl rfl (fun hln => ?_)
 have ln7 : List.length q6.2 = List.length s1 := by simpa only [List.length_map] using hln 0 _ _ rfl rfl rfl
 refine zq tb rfl (dn hK5 rfl (zr tb rfl rfl ?_))
 replace h0 := Sh.some_eq h0
 subst r
 exact AW.ret (Exists.intro _ (And.intro (((Wk.steq (st := [⟨0, 98, 3, List.map (eRDeclD 134 3) q3.2⟩, ⟨0, 57, 5, List.map (eRRoutineD 3 3 3 55 71) q6.2⟩, (wE16 s0 s1)]) (st' := [⟨0, 98, 3, List.map (eRDeclD 134 3) q3.2⟩, ⟨0, 57, 5, List.map (eRRoutineD 3 3 3 55 71) q6.2⟩, ⟨0, 30, 2, [[(.own 0 0 (List.length q3.2)), (.own 1 0 (List.length q6.2))]]⟩]) (by first | (simp only [Sh.put_len]; done) | simp only [Sh.put_len, ln4, ln7] | simp only [ln4, ln7])).trans (Wk.permk (L := [(4, (i64 q6.1))]) (st' := [⟨0, 98, 3, List.map (eRDeclD 134 3) q3.2⟩, ⟨0, 57, 5, List.map (eRRoutineD 3 3 3 55 71) q6.2⟩]) (st1 := [⟨0, 98, 3, List.map (eRDeclD 134 3) q3.2⟩, ⟨0, 57, 5, List.map (eRRoutineD 3 3 3 55 71) q6.2⟩]) [0, 1] rfl (.deep (pure_mapD fun _ => rfl) (.deep (pure_mapD fun _ => rfl) .nil)) (by decide) rfl rfl (.deep (pure_mapD fun _ => rfl) (.deep (pure_mapD fun _ => rfl) .nil)) ⟨.rfl, trivial⟩)).trans (Wk.to (L := [(4, (i64 q6.1))]) ⟨.rfl, trivial⟩)) (And.intro rfl rfl)))
end Go.Proofs.YtcegihniiokijaaGreat

