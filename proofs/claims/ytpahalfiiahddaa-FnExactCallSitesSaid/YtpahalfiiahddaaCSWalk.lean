import Derived.Test.YtpahalfiiahddaaProg
import Derived.Test.YtpahalfiiahddaaCSDefs
import Derived.Test.YtpahalfiiahddaaCSWalkP2
namespace Go.Proofs.Ytpahalfiiahddaa
open Go Go.Abs RC
attribute [local irreducible] Go.Abs.dops
set_option maxRecDepth 100000
set_option maxHeartbeats 4000000

theorem hb10 : hasBody Try.prog 10 = true := by kernel_rfl
theorem hb105 : hasBody Try.prog 105 = true := by kernel_rfl
theorem hb106 : hasBody Try.prog 106 = true := by kernel_rfl
theorem hb11 : hasBody Try.prog 11 = true := by kernel_rfl
theorem hb18 : hasBody Try.prog 18 = true := by kernel_rfl
theorem hb27 : hasBody Try.prog 27 = true := by kernel_rfl
theorem hb28 : hasBody Try.prog 28 = true := by kernel_rfl
theorem hb29 : hasBody Try.prog 29 = true := by kernel_rfl
theorem hb30 : hasBody Try.prog 30 = true := by kernel_rfl
theorem hb38 : hasBody Try.prog 38 = true := by kernel_rfl
theorem hb39 : hasBody Try.prog 39 = true := by kernel_rfl
theorem hb47 : hasBody Try.prog 47 = true := by kernel_rfl
theorem hb48 : hasBody Try.prog 48 = true := by kernel_rfl
theorem hb58 : hasBody Try.prog 58 = true := by kernel_rfl
theorem hb60 : hasBody Try.prog 60 = true := by kernel_rfl
theorem hb62 : hasBody Try.prog 62 = true := by kernel_rfl
theorem hb7 : hasBody Try.prog 7 = true := by kernel_rfl
theorem hb8 : hasBody Try.prog 8 = true := by kernel_rfl
theorem hb80 : hasBody Try.prog 80 = true := by kernel_rfl
theorem hb81 : hasBody Try.prog 81 = true := by kernel_rfl
theorem hb82 : hasBody Try.prog 82 = true := by kernel_rfl
theorem hb9 : hasBody Try.prog 9 = true := by kernel_rfl
theorem hb92 : hasBody Try.prog 92 = true := by kernel_rfl
theorem hb93 : hasBody Try.prog 93 = true := by kernel_rfl
theorem hb94 : hasBody Try.prog 94 = true := by kernel_rfl
theorem hb95 : hasBody Try.prog 95 = true := by kernel_rfl

theorem impl_signatures_typeOf_B_ok {N : Nat} {rec_impl_signatures_typeOf : (List Int) → RSignatures → RExpr → Option (Int)} (hrec_impl_signatures_typeOf : ∀ {s0 : (List Int)} {p0 : RSignatures} {p2 : RExpr} {r : Int}, rec_impl_signatures_typeOf s0 p0 p2 = some r → ACalls Try.prog 61 [(.agg (eRSignatures p0)), (ow 0 0 s0), (.agg [(i64 p2.op), (i64 p2.num), (ls eRExpr p2.kids)])] [(ro 0 3 1 eI s0)] (fun v st => v = (i64 r) ∧ st = [(ro 0 3 1 eI s0)])) {s0 : (List Int)} {p0 : RSignatures} {p2 : RExpr} {r : Int} (h0 : impl_signatures_typeOf_B N rec_impl_signatures_typeOf s0 p0 p2 = some r) : ACalls Try.prog 61 [(.agg (eRSignatures p0)), (ow 0 0 s0), (.agg [(i64 p2.op), (i64 p2.num), (ls eRExpr p2.kids)])] [(ro 0 3 1 eI s0)] (fun v st => v = (i64 r) ∧ st = [(ro 0 3 1 eI s0)]) := by
 unfold impl_signatures_typeOf_B at h0
 refine ai Try.func61 rfl rfl rfl rfl (sr rfl fun K1 hK1 => ao_box (m := 1) (st' := [(ro 0 3 1 eI s0), ⟨0, 97, 2, [(eRSignatures p0)]⟩]) go0 rfl rfl rfl rfl rfl (ao_box (m := 2) (st' := [(ro 0 3 1 eI s0), ⟨0, 97, 2, [(eRSignatures p0)]⟩, ⟨0, 50, 3, [[(i64 p2.op), (i64 p2.num), (ls eRExpr p2.kids)]]⟩]) go0 rfl rfl rfl rfl rfl (zq tb rfl (dn hK1 rfl (AW.seq fun K2 hK2 => zr tb rfl rfl (AW.block (zr tb rfl rfl ?_)))))))
 refine ci h0 rfl ?_ ?_ <;> clear h0
 ·intro b5 h0
  refine AW.seq fun K6 hK6 => AW.seq fun K7 hK7 => bs h0 fun o9 h1 h0 => ?_
  have M9 : ∀ (t8 : Bool), o9 = t8 → ∀ s, Wk 1 s ⟨194, envL [(1, (ow 0 0 s0)), (5, (.ptr 1 0 0 0)), (36, (.bool t8))], [(ro 0 3 1 eI s0), ⟨0, 50, 3, [[(i64 p2.op), (i64 p2.num), (ls eRExpr p2.kids)]]⟩]⟩ → K7 s := by
   intro t8 hq s hw
   subst o9
   try dsimp only at h0
   refine hK7 _ (AW.weaken hw ?_)
   refine ci h0 rfl ?_ ?_ <;> clear h0
   ·intro b10 h0
    refine zr tb rfl rfl ?_
    replace h0 := Sh.some_eq h0
    subst r
    exact AW.ret (xr (Wk.permk (L := [(6, (i64 (-1)))]) (st' := [(ro 0 3 1 eI s0)]) (st1 := [(ro 0 3 1 eI s0)]) [0] rfl (.pure (pure_map fun _ => rfl) .nil) (by decide) rfl rfl (.pure (pure_map fun _ => rfl) .nil) ⟨.rfl, trivial⟩))
   ·intro b10 h0
    refine AW.skip (hK6 _ (sr rfl fun K12 hK12 => zm tb 3 rfl (bs h0 fun c13 gc13 h0 => zz (.ptr 0 0 (Int.toNat p2.num) 0) (aq_ixo ei40 rfl rfl rfl rfl gc13) rfl (zz (i64 c13) (aq_ldp ti3 rfl rfl (map_get gc13) rfl) rfl (zq tb rfl (dn hK12 rfl ?_))))))
    replace h0 := Sh.some_eq h0
    subst r
    exact AW.ret (xr (Wk.permk (L := [(6, (i64 c13))]) (st' := [(ro 0 3 1 eI s0)]) (st1 := [(ro 0 3 1 eI s0)]) [0] rfl (.pure (pure_map fun _ => rfl) .nil) (by decide) rfl rfl (.pure (pure_map fun _ => rfl) .nil) ⟨.rfl, trivial⟩))
  refine AW.regionO rfl (zm tb 2 rfl (zl tb rfl rfl (zm tb 2 rfl ?_)))
  rcases Sh.ite_some h1 with ⟨b14, h1⟩ | ⟨b14, h1⟩
  ·refine zs b14 rfl (zs b14 rfl (zs b14 rfl (zt b14 rfl (zq tb rfl ?_))))
   iterate 5 refine zs rfl rfl ?_
   refine zt rfl rfl ?_
   exact AO.done (M9 true (Sh.some_eq h1).symm _ (Wk.permk (L := [(1, (ow 0 0 s0)), (5, (.ptr 1 0 0 0)), (36, (.bool true))]) (st' := [(ro 0 3 1 eI s0), ⟨0, 50, 3, [[(i64 p2.op), (i64 p2.num), (ls eRExpr p2.kids)]]⟩]) (st1 := [(ro 0 3 1 eI s0), ⟨0, 50, 3, [[(i64 p2.op), (i64 p2.num), (ls eRExpr p2.kids)]]⟩]) [0, 2] rfl (.pure (pure_map fun _ => rfl) .nil) (by decide) rfl rfl (.pure (pure_map fun _ => rfl) (.raw rfl rfl .nil)) ⟨.rfl, .rfl, .rfl, trivial⟩))
  ·refine zg tb b14 rfl (zg tb b14 rfl (zg tb b14 rfl (zf b14 rfl (zq tb rfl ?_))))
   rcases Sh.ite_some h1 with ⟨b15, h1⟩ | ⟨b15, h1⟩
   ·refine zs b15 rfl ?_
    iterate 4 refine zs b15 rfl ?_
    refine zt b15 rfl ?_
    exact AO.done (M9 true (Sh.some_eq h1).symm _ (Wk.permk (L := [(1, (ow 0 0 s0)), (5, (.ptr 1 0 0 0)), (36, (.bool true))]) (st' := [(ro 0 3 1 eI s0), ⟨0, 50, 3, [[(i64 p2.op), (i64 p2.num), (ls eRExpr p2.kids)]]⟩]) (st1 := [(ro 0 3 1 eI s0), ⟨0, 50, 3, [[(i64 p2.op), (i64 p2.num), (ls eRExpr p2.kids)]]⟩]) [0, 2] rfl (.pure (pure_map fun _ => rfl) .nil) (by decide) rfl rfl (.pure (pure_map fun _ => rfl) (.raw rfl rfl .nil)) ⟨.rfl, .rfl, .rfl, trivial⟩))
   ·refine zg tb b15 rfl (zg tb b15 rfl (zg tb b15 rfl (ao_q (v := (i64 (Sh.len s0))) (go1 rfl rfl b15) rfl (aq_leno sl40 rfl rfl rfl) (zg tb b15 rfl (zf b15 rfl ?_)))))
    exact AO.done (M9 (decide ((Sh.len s0) ≤ p2.num)) (Sh.some_eq h1).symm _ (Wk.permk (L := [(1, (ow 0 0 s0)), (5, (.ptr 1 0 0 0)), (36, (.bool (decide ((Sh.len s0) ≤ p2.num))))]) (st' := [(ro 0 3 1 eI s0), ⟨0, 50, 3, [[(i64 p2.op), (i64 p2.num), (ls eRExpr p2.kids)]]⟩]) (st1 := [(ro 0 3 1 eI s0), ⟨0, 50, 3, [[(i64 p2.op), (i64 p2.num), (ls eRExpr p2.kids)]]⟩]) [0, 2] rfl (.pure (pure_map fun _ => rfl) .nil) (by decide) rfl rfl (.pure (pure_map fun _ => rfl) (.raw rfl rfl .nil)) ⟨.rfl, .rfl, .rfl, trivial⟩))
 ·intro b5 h0
  refine zr tb rfl rfl ?_
  refine ci h0 rfl ?_ ?_ <;> clear h0
  ·intro b17 h0
   refine AW.seq fun K18 hK18 => AW.seq fun K19 hK19 => bs h0 fun o21 h1 h0 => ?_
   have M21 : ∀ (t20 : Bool), o21 = t20 → ∀ s, Wk 1 s ⟨194, envL [(1, (ow 0 0 s0)), (3, (.ptr 1 0 0 0)), (5, (.ptr 2 0 0 0)), (52, (.bool t20))], [(ro 0 3 1 eI s0), ⟨0, 97, 2, [(eRSignatures p0)]⟩, ⟨0, 50, 3, [[(i64 p2.op), (i64 p2.num), (ls eRExpr p2.kids)]]⟩]⟩ → K19 s := by
    intro t20 hq s hw
    subst o21
    try dsimp only at h0
    refine hK19 _ (AW.weaken hw ?_)
    refine ci h0 rfl ?_ ?_ <;> clear h0
    ·intro b22 h0
     refine zr tb rfl rfl ?_
     replace h0 := Sh.some_eq h0
     subst r
     exact AW.ret (xr (Wk.permk (L := [(6, (i64 (-1)))]) (st' := [(ro 0 3 1 eI s0)]) (st1 := [(ro 0 3 1 eI s0)]) [0] rfl (.pure (pure_map fun _ => rfl) .nil) (by decide) rfl rfl (.pure (pure_map fun _ => rfl) .nil) ⟨.rfl, trivial⟩))
    ·intro b22 h0
     refine AW.skip (hK18 _ (AW.seq fun K24 hK24 => ?_))
     refine AW.draw (by kernel_rfl) (by kernel_rfl) (by rfl) ?_
     iterate 4 refine yq tb rfl ?_
     refine bs h0 fun c25 gc25 h0 => yz (.iptr [(i64 c25.op), (i64 c25.num), (ls eRExpr c25.kids)] 0) (aq_ixsE ei48 rfl rfl gc25 (eRExpr_eq _) rfl) rfl (yq tb rfl (bs h0 fun q26 gq26 h0 => ?_))
     refine d_calls (rowsP := [(ro 0 3 1 eI s0)]) (rows0 := [(ro 0 3 1 eI s0)]) (rows1 := [(ro 0 3 1 eI s0)]) (rows1' := [(ro 0 3 1 eI s0)]) (v' := (i64 q26)) [0] go0 hb61 (hrec_impl_signatures_typeOf gq26) rfl (by decide) rfl rfl (.pure (pure_map fun _ => rfl) .nil) rfl rfl (.pure (pure_map fun _ => rfl) .nil) rfl rfl ?_
     refine yq tb rfl (d_done (hK24 _ (AW.seq fun K27 hK27 => zr tb rfl rfl ?_)))
     refine ci h0 rfl ?_ ?_ <;> clear h0
     ·intro b29 h0
      refine zr tb rfl rfl ?_
      replace h0 := Sh.some_eq h0
      subst r
      exact AW.ret (xr (Wk.permk (L := [(6, (i64 (-1)))]) (st' := [(ro 0 3 1 eI s0)]) (st1 := [(ro 0 3 1 eI s0)]) [0] rfl (.pure (pure_map fun _ => rfl) .nil) (by decide) rfl rfl (.pure (pure_map fun _ => rfl) .nil) ⟨.rfl, trivial⟩))
     ·intro b29 h0
      refine AW.skip (hK27 _ (AW.seq fun K31 hK31 => ?_))
      refine AW.drawX (by kernel_rfl) ?_
      refine bs h0 fun l32 gl32 h0 => bs h0 fun c33 gc33 h0 => bs h0 fun q34 gq34 h0 => AX.two (ro 0 3 1 eI s0) (ro 0 3 1 eI l32) fun A35 A35' hA35 hA35' => ?_
      have A35_0123456789aw0 : A35' 0 #[true, true, true, true, true, true, true, true, true, true, true] ⟨194, envL [(6, (i64 q34))], [(ro 0 3 1 eI l32), ⟨0, 97, 2, [(eRSignatures p0)]⟩, ⟨0, 50, 3, [[(i64 p2.op), (i64 p2.num), (ls eRExpr p2.kids)]]⟩, (ro 0 3 1 eI [q26])]⟩ := (hA35' _ _ _).2 (by
       refine AX.done rfl (by kernel_rfl) ⟨⟨_, rfl⟩, ?_⟩
       refine hK31 _ ?_
       replace h0 := Sh.some_eq h0
       subst r
       exact AW.ret (Exists.intro _ (And.intro (Wk.to (L := [(6, (i64 q34))]) ⟨.rfl, trivial⟩) (And.intro rfl rfl))))
      have A35_0123456789w0 : A35' 1 #[true, true, true, true, true, true, true, true, true, true, false] ⟨194, envL [(71, (i64 q34))], [(ro 0 3 1 eI l32), ⟨0, 97, 2, [(eRSignatures p0)]⟩, ⟨0, 50, 3, [[(i64 p2.op), (i64 p2.num), (ls eRExpr p2.kids)]]⟩, (ro 0 3 1 eI [q26])]⟩ := (hA35' _ _ _).2 (by
       refine AX.hoist 10 (v := (i64 q34)) rfl rfl (by kernel_rfl) (by kernel_rfl) (by kernel_rfl) rfl (hoist_as rfl) ?_
       refine AX.weaken (Wk.to (L := [(6, (i64 q34))]) ⟨.rfl, trivial⟩) ?_ rfl
       exact AX.lst (by kernel_rfl) ((hA35' _ _ _).1 A35_0123456789aw0))
      have A35_012345678w0 : A35' 2 #[true, true, true, true, true, true, true, true, true, false, false] ⟨194, envL [(62, (.agg (eRSignatures p0))), (66, (ow 0 0 l32)), (70, (.agg [(i64 c33.op), (i64 c33.num), (ls eRExpr c33.kids)]))], [(ro 0 3 1 eI l32), ⟨0, 97, 2, [(eRSignatures p0)]⟩, ⟨0, 50, 3, [[(i64 p2.op), (i64 p2.num), (ls eRExpr p2.kids)]]⟩, (ro 0 3 1 eI [q26])]⟩ := (hA35' _ _ _).2 (by
       refine AX.all [9] rfl (by kernel_rfl) (by decide) ⟨?_, trivial⟩
       ·refine AXs.of (i := 9) rfl rfl (by rfl) ?_
        refine ao_calls (rowsP := [(ro 0 3 1 eI l32)]) (rows0 := [(ro 0 3 1 eI l32)]) (rows1 := [(ro 0 3 1 eI l32)]) (rows2 := []) (rows1' := [(ro 0 3 1 eI l32)]) (rows2' := []) (st' := [(ro 0 3 1 eI l32), ⟨0, 97, 2, [(eRSignatures p0)]⟩, ⟨0, 50, 3, [[(i64 p2.op), (i64 p2.num), (ls eRExpr p2.kids)]]⟩, (ro 0 3 1 eI [q26])]) (v' := (i64 q34)) [0] go0 hb61 (hrec_impl_signatures_typeOf gq34) rfl (by decide) rfl rfl (.pure (pure_map fun _ => rfl) .nil) rfl rfl (.pure (pure_map fun _ => rfl) .nil) .nil rfl rfl ?_
        refine AO.done ⟨rfl, (AX.weaken (Wk.to (L := [(71, (i64 q34))]) ⟨.rfl, trivial⟩) ?_ rfl)⟩
        exact AX.lst (by kernel_rfl) ((hA35' _ _ _).1 A35_0123456789w0))
      have A35_01234567w0 : A35' 3 #[true, true, true, true, true, true, true, true, false, false, false] ⟨194, envL [(62, (.agg (eRSignatures p0))), (66, (ow 0 0 l32)), (69, (.iptr [(i64 c33.op), (i64 c33.num), (ls eRExpr c33.kids)] 0))], [(ro 0 3 1 eI l32), ⟨0, 97, 2, [(eRSignatures p0)]⟩, ⟨0, 50, 3, [[(i64 p2.op), (i64 p2.num), (ls eRExpr p2.kids)]]⟩, (ro 0 3 1 eI [q26])]⟩ := (hA35' _ _ _).2 (by
       refine AX.all [8] rfl (by kernel_rfl) (by decide) ⟨?_, trivial⟩
       ·refine AXs.of (i := 8) rfl rfl (by rfl) ?_
        refine zq tb rfl (AO.done ⟨rfl, (AX.weaken (Wk.to (L := [(62, (.agg (eRSignatures p0))), (66, (ow 0 0 l32)), (70, (.agg [(i64 c33.op), (i64 c33.num), (ls eRExpr c33.kids)]))]) ⟨.rfl, .rfl, .rfl, trivial⟩) ?_ rfl)⟩)
        exact AX.lst (by kernel_rfl) ((hA35' _ _ _).1 A35_012345678w0))
      have A35_0123456w0 : A35' 4 #[true, true, true, true, true, true, true, false, false, false, false] ⟨194, envL [(62, (.agg (eRSignatures p0))), (66, (ow 0 0 l32)), (68, (ls eRExpr p2.kids))], [(ro 0 3 1 eI l32), ⟨0, 97, 2, [(eRSignatures p0)]⟩, ⟨0, 50, 3, [[(i64 p2.op), (i64 p2.num), (ls eRExpr p2.kids)]]⟩, (ro 0 3 1 eI [q26])]⟩ := (hA35' _ _ _).2 (by
       refine AX.all [7] rfl (by kernel_rfl) (by decide) ⟨?_, trivial⟩
       ·refine AXs.of (i := 7) rfl rfl (by rfl) ?_
        refine zz (.iptr [(i64 c33.op), (i64 c33.num), (ls eRExpr c33.kids)] 0) (aq_ixsE ei48 rfl rfl gc33 (eRExpr_eq _) rfl) rfl (AO.done ⟨rfl, (AX.weaken (Wk.to (L := [(62, (.agg (eRSignatures p0))), (66, (ow 0 0 l32)), (69, (.iptr [(i64 c33.op), (i64 c33.num), (ls eRExpr c33.kids)] 0))]) ⟨.rfl, .rfl, .rfl, trivial⟩) ?_ rfl)⟩)
        exact AX.lst (by kernel_rfl) ((hA35' _ _ _).1 A35_01234567w0))
      have A35_012345w0 : A35' 5 #[true, true, true, true, true, true, false, false, false, false, false] ⟨194, envL [(62, (.agg (eRSignatures p0))), (66, (ow 0 0 l32)), (67, (.ptr 2 0 0 2))], [(ro 0 3 1 eI l32), ⟨0, 97, 2, [(eRSignatures p0)]⟩, ⟨0, 50, 3, [[(i64 p2.op), (i64 p2.num), (ls eRExpr p2.kids)]]⟩, (ro 0 3 1 eI [q26])]⟩ := (hA35' _ _ _).2 (by
       refine AX.all [6] rfl (by kernel_rfl) (by decide) ⟨?_, trivial⟩
       ·refine AXs.of (i := 6) rfl rfl (by rfl) ?_
        refine zq tb rfl (AO.done ⟨rfl, (AX.weaken (Wk.to (L := [(62, (.agg (eRSignatures p0))), (66, (ow 0 0 l32)), (68, (ls eRExpr p2.kids))]) ⟨.rfl, .rfl, .rfl, trivial⟩) ?_ rfl)⟩)
        exact AX.lst (by kernel_rfl) ((hA35' _ _ _).1 A35_0123456w0))
      have A35_01234w0 : A35' 6 #[true, true, true, true, true, false, false, false, false, false, false] ⟨194, envL [(5, (.ptr 2 0 0 0)), (62, (.agg (eRSignatures p0))), (66, (ow 0 0 l32))], [(ro 0 3 1 eI l32), ⟨0, 97, 2, [(eRSignatures p0)]⟩, ⟨0, 50, 3, [[(i64 p2.op), (i64 p2.num), (ls eRExpr p2.kids)]]⟩, (ro 0 3 1 eI [q26])]⟩ := (hA35' _ _ _).2 (by
       refine AX.all [5] rfl (by kernel_rfl) (by decide) ⟨?_, trivial⟩
       ·refine AXs.of (i := 5) rfl rfl (by rfl) ?_
        refine zq tb rfl (AO.done ⟨rfl, (AX.weaken (Wk.to (L := [(62, (.agg (eRSignatures p0))), (66, (ow 0 0 l32)), (67, (.ptr 2 0 0 2))]) ⟨.rfl, .rfl, .rfl, trivial⟩) ?_ rfl)⟩)
        exact AX.lst (by kernel_rfl) ((hA35' _ _ _).1 A35_012345w0))
      have A35_0123456789aw1 : A35 0 #[true, true, true, true, true, true, true, true, true, true, true] ⟨194, envL [(6, (i64 q34))], [(ro 0 3 1 eI s0), ⟨0, 97, 2, [(eRSignatures p0)]⟩, ⟨0, 50, 3, [[(i64 p2.op), (i64 p2.num), (ls eRExpr p2.kids)]]⟩, (ro 0 3 1 eI [q26]), (ro 0 3 1 eI l32)]⟩ := (hA35 _ _ _).2 (by
       refine AX.done rfl (by kernel_rfl) ?_
       refine hK31 _ ?_
       replace h0 := Sh.some_eq h0
       subst r
       exact AW.ret (Exists.intro _ (And.intro ((Wk.permk (L := [(6, (i64 q34))]) (st' := [(ro 0 3 1 eI s0)]) (st1 := [(ro 0 3 1 eI s0)]) [0] rfl (.pure (pure_map fun _ => rfl) .nil) (by decide) rfl rfl (.pure (pure_map fun _ => rfl) .nil) ⟨.rfl, trivial⟩).trans (Wk.to (L := [(6, (i64 q34))]) ⟨.rfl, trivial⟩)) (And.intro rfl rfl))))
      have A35_0123456789w1 : A35 1 #[true, true, true, true, true, true, true, true, true, true, false] ⟨194, envL [(71, (i64 q34))], [(ro 0 3 1 eI s0), ⟨0, 97, 2, [(eRSignatures p0)]⟩, ⟨0, 50, 3, [[(i64 p2.op), (i64 p2.num), (ls eRExpr p2.kids)]]⟩, (ro 0 3 1 eI [q26]), (ro 0 3 1 eI l32)]⟩ := (hA35 _ _ _).2 (by
       refine AX.hoist 10 (v := (i64 q34)) rfl rfl (by kernel_rfl) (by kernel_rfl) (by kernel_rfl) rfl (hoist_as rfl) ?_
       refine AX.weaken (Wk.to (L := [(6, (i64 q34))]) ⟨.rfl, trivial⟩) ?_ rfl
       exact AX.lst (by kernel_rfl) ((hA35 _ _ _).1 A35_0123456789aw1))
      have A35_012345678w1 : A35 2 #[true, true, true, true, true, true, true, true, true, false, false] ⟨194, envL [(62, (.agg (eRSignatures p0))), (66, (ow 4 0 l32)), (70, (.agg [(i64 c33.op), (i64 c33.num), (ls eRExpr c33.kids)]))], [(ro 0 3 1 eI s0), ⟨0, 97, 2, [(eRSignatures p0)]⟩, ⟨0, 50, 3, [[(i64 p2.op), (i64 p2.num), (ls eRExpr p2.kids)]]⟩, (ro 0 3 1 eI [q26]), (ro 0 3 1 eI l32)]⟩ := (hA35 _ _ _).2 (by
       refine AX.all [9] rfl (by kernel_rfl) (by decide) ⟨?_, trivial⟩
       ·refine AXs.of (i := 9) rfl rfl (by rfl) ?_
        refine ao_calls (rowsP := [(ro 0 3 1 eI l32)]) (rows0 := [(ro 0 3 1 eI l32)]) (rows1 := [(ro 0 3 1 eI l32)]) (rows2 := []) (rows1' := [(ro 0 3 1 eI l32)]) (rows2' := []) (st' := [(ro 0 3 1 eI s0), ⟨0, 97, 2, [(eRSignatures p0)]⟩, ⟨0, 50, 3, [[(i64 p2.op), (i64 p2.num), (ls eRExpr p2.kids)]]⟩, (ro 0 3 1 eI [q26]), (ro 0 3 1 eI l32)]) (v' := (i64 q34)) [4] go0 hb61 (hrec_impl_signatures_typeOf gq34) rfl (by decide) rfl rfl (.pure (pure_map fun _ => rfl) .nil) rfl rfl (.pure (pure_map fun _ => rfl) .nil) .nil rfl rfl ?_
        refine AO.done ⟨rfl, (AX.weaken (Wk.to (L := [(71, (i64 q34))]) ⟨.rfl, trivial⟩) ?_ rfl)⟩
        exact AX.lst (by kernel_rfl) ((hA35 _ _ _).1 A35_0123456789w1))
      have A35_01234567w1 : A35 3 #[true, true, true, true, true, true, true, true, false, false, false] ⟨194, envL [(62, (.agg (eRSignatures p0))), (66, (ow 4 0 l32)), (69, (.iptr [(i64 c33.op), (i64 c33.num), (ls eRExpr c33.kids)] 0))], [(ro 0 3 1 eI s0), ⟨0, 97, 2, [(eRSignatures p0)]⟩, ⟨0, 50, 3, [[(i64 p2.op), (i64 p2.num), (ls eRExpr p2.kids)]]⟩, (ro 0 3 1 eI [q26]), (ro 0 3 1 eI l32)]⟩ := (hA35 _ _ _).2 (by
       refine AX.all [8] rfl (by kernel_rfl) (by decide) ⟨?_, trivial⟩
       ·refine AXs.of (i := 8) rfl rfl (by rfl) ?_
        refine zq tb rfl (AO.done ⟨rfl, (AX.weaken (Wk.to (L := [(62, (.agg (eRSignatures p0))), (66, (ow 4 0 l32)), (70, (.agg [(i64 c33.op), (i64 c33.num), (ls eRExpr c33.kids)]))]) ⟨.rfl, .rfl, .rfl, trivial⟩) ?_ rfl)⟩)
        exact AX.lst (by kernel_rfl) ((hA35 _ _ _).1 A35_012345678w1))
      have A35_0123456w1 : A35 4 #[true, true, true, true, true, true, true, false, false, false, false] ⟨194, envL [(62, (.agg (eRSignatures p0))), (66, (ow 4 0 l32)), (68, (ls eRExpr p2.kids))], [(ro 0 3 1 eI s0), ⟨0, 97, 2, [(eRSignatures p0)]⟩, ⟨0, 50, 3, [[(i64 p2.op), (i64 p2.num), (ls eRExpr p2.kids)]]⟩, (ro 0 3 1 eI [q26]), (ro 0 3 1 eI l32)]⟩ := (hA35 _ _ _).2 (by
       refine AX.all [7] rfl (by kernel_rfl) (by decide) ⟨?_, trivial⟩
       ·refine AXs.of (i := 7) rfl rfl (by rfl) ?_
        refine zz (.iptr [(i64 c33.op), (i64 c33.num), (ls eRExpr c33.kids)] 0) (aq_ixsE ei48 rfl rfl gc33 (eRExpr_eq _) rfl) rfl (AO.done ⟨rfl, (AX.weaken (Wk.to (L := [(62, (.agg (eRSignatures p0))), (66, (ow 4 0 l32)), (69, (.iptr [(i64 c33.op), (i64 c33.num), (ls eRExpr c33.kids)] 0))]) ⟨.rfl, .rfl, .rfl, trivial⟩) ?_ rfl)⟩)
        exact AX.lst (by kernel_rfl) ((hA35 _ _ _).1 A35_01234567w1))
      have A35_012345w1 : A35 5 #[true, true, true, true, true, true, false, false, false, false, false] ⟨194, envL [(62, (.agg (eRSignatures p0))), (66, (ow 4 0 l32)), (67, (.ptr 2 0 0 2))], [(ro 0 3 1 eI s0), ⟨0, 97, 2, [(eRSignatures p0)]⟩, ⟨0, 50, 3, [[(i64 p2.op), (i64 p2.num), (ls eRExpr p2.kids)]]⟩, (ro 0 3 1 eI [q26]), (ro 0 3 1 eI l32)]⟩ := (hA35 _ _ _).2 (by
       refine AX.all [6] rfl (by kernel_rfl) (by decide) ⟨?_, trivial⟩
       ·refine AXs.of (i := 6) rfl rfl (by rfl) ?_
        refine zq tb rfl (AO.done ⟨rfl, (AX.weaken (Wk.to (L := [(62, (.agg (eRSignatures p0))), (66, (ow 4 0 l32)), (68, (ls eRExpr p2.kids))]) ⟨.rfl, .rfl, .rfl, trivial⟩) ?_ rfl)⟩)
        exact AX.lst (by kernel_rfl) ((hA35 _ _ _).1 A35_0123456w1))
      have A35_01234w1 : A35 6 #[true, true, true, true, true, false, false, false, false, false, false] ⟨194, envL [(5, (.ptr 2 0 0 0)), (62, (.agg (eRSignatures p0))), (66, (ow 4 0 l32))], [(ro 0 3 1 eI s0), ⟨0, 97, 2, [(eRSignatures p0)]⟩, ⟨0, 50, 3, [[(i64 p2.op), (i64 p2.num), (ls eRExpr p2.kids)]]⟩, (ro 0 3 1 eI [q26]), (ro 0 3 1 eI l32)]⟩ := (hA35 _ _ _).2 (by
       refine AX.all [5] rfl (by kernel_rfl) (by decide) ⟨?_, trivial⟩
       ·refine AXs.of (i := 5) rfl rfl (by rfl) ?_
        refine zq tb rfl (AO.done ⟨rfl, (AX.weaken (Wk.to (L := [(62, (.agg (eRSignatures p0))), (66, (ow 4 0 l32)), (67, (.ptr 2 0 0 2))]) ⟨.rfl, .rfl, .rfl, trivial⟩) ?_ rfl)⟩)
        exact AX.lst (by kernel_rfl) ((hA35 _ _ _).1 A35_012345w1))
      have A35_01235678 : A35 3 #[true, true, true, true, false, true, true, true, true, false, false] ⟨194, envL [(62, (.agg (eRSignatures p0))), (63, (ow 0 0 s0)), (65, (ow 3 0 [q26])), (70, (.agg [(i64 c33.op), (i64 c33.num), (ls eRExpr c33.kids)]))], [(ro 0 3 1 eI s0), ⟨0, 97, 2, [(eRSignatures p0)]⟩, ⟨0, 50, 3, [[(i64 p2.op), (i64 p2.num), (ls eRExpr p2.kids)]]⟩, (ro 0 3 1 eI [q26])]⟩ := (hA35 _ _ _).2 (by
       refine AX.all [4] rfl (by kernel_rfl) (by decide) ⟨?_, trivial⟩
       ·refine AXs.fork (l := s0) (l2 := [q26]) (l' := l32) rfl rfl ei40 (pur_cons (pure_raw rfl) (pur_cons (pure_raw rfl) (pur_cons (pure_map fun _ => rfl) (fun _ hq => nomatch hq)))) rfl rfl rfl (el_o rfl rfl) rfl (fun _ => rfl) (fun _ => (pure_map fun _ => rfl)) gl32 ?_ ?_
        ·refine AX.weaken (Wk.to (L := [(62, (.agg (eRSignatures p0))), (66, (ow 0 0 l32)), (70, (.agg [(i64 c33.op), (i64 c33.num), (ls eRExpr c33.kids)]))]) ⟨.rfl, .rfl, .rfl, trivial⟩) ?_ rfl
         exact AX.lst (by kernel_rfl) ((hA35' _ _ _).1 A35_012345678w0)
        ·refine AX.weaken (Wk.to (L := [(62, (.agg (eRSignatures p0))), (66, (ow 4 0 l32)), (70, (.agg [(i64 c33.op), (i64 c33.num), (ls eRExpr c33.kids)]))]) ⟨.rfl, .rfl, .rfl, trivial⟩) ?_ rfl
         exact AX.lst (by kernel_rfl) ((hA35 _ _ _).1 A35_012345678w1))
      have A35_0123567 : A35 4 #[true, true, true, true, false, true, true, true, false, false, false] ⟨194, envL [(62, (.agg (eRSignatures p0))), (63, (ow 0 0 s0)), (65, (ow 3 0 [q26])), (69, (.iptr [(i64 c33.op), (i64 c33.num), (ls eRExpr c33.kids)] 0))], [(ro 0 3 1 eI s0), ⟨0, 97, 2, [(eRSignatures p0)]⟩, ⟨0, 50, 3, [[(i64 p2.op), (i64 p2.num), (ls eRExpr p2.kids)]]⟩, (ro 0 3 1 eI [q26])]⟩ := (hA35 _ _ _).2 (by
       refine AX.all [4, 8] rfl (by kernel_rfl) (by decide) ⟨?_, ?_, trivial⟩
       ·refine AXs.fork (l := s0) (l2 := [q26]) (l' := l32) rfl rfl ei40 (pur_cons (pure_raw rfl) (pur_cons (pure_raw rfl) (pur_cons (pure_map fun _ => rfl) (fun _ hq => nomatch hq)))) rfl rfl rfl (el_o rfl rfl) rfl (fun _ => rfl) (fun _ => (pure_map fun _ => rfl)) gl32 ?_ ?_
        ·refine AX.weaken (Wk.to (L := [(62, (.agg (eRSignatures p0))), (66, (ow 0 0 l32)), (69, (.iptr [(i64 c33.op), (i64 c33.num), (ls eRExpr c33.kids)] 0))]) ⟨.rfl, .rfl, .rfl, trivial⟩) ?_ rfl
         exact AX.lst (by kernel_rfl) ((hA35' _ _ _).1 A35_01234567w0)
        ·refine AX.weaken (Wk.to (L := [(62, (.agg (eRSignatures p0))), (66, (ow 4 0 l32)), (69, (.iptr [(i64 c33.op), (i64 c33.num), (ls eRExpr c33.kids)] 0))]) ⟨.rfl, .rfl, .rfl, trivial⟩) ?_ rfl
         exact AX.lst (by kernel_rfl) ((hA35 _ _ _).1 A35_01234567w1)
       ·refine AXs.of (i := 8) rfl rfl (by rfl) ?_
        refine zq tb rfl (AO.done ⟨rfl, (AX.weaken (Wk.to (L := [(62, (.agg (eRSignatures p0))), (63, (ow 0 0 s0)), (65, (ow 3 0 [q26])), (70, (.agg [(i64 c33.op), (i64 c33.num), (ls eRExpr c33.kids)]))]) ⟨.rfl, .rfl, .rfl, .rfl, trivial⟩) ?_ rfl)⟩)
        exact AX.lst (by kernel_rfl) ((hA35 _ _ _).1 A35_01235678))
      have A35_012356 : A35 5 #[true, true, true, true, false, true, true, false, false, false, false] ⟨194, envL [(62, (.agg (eRSignatures p0))), (63, (ow 0 0 s0)), (65, (ow 3 0 [q26])), (68, (ls eRExpr p2.kids))], [(ro 0 3 1 eI s0), ⟨0, 97, 2, [(eRSignatures p0)]⟩, ⟨0, 50, 3, [[(i64 p2.op), (i64 p2.num), (ls eRExpr p2.kids)]]⟩, (ro 0 3 1 eI [q26])]⟩ := (hA35 _ _ _).2 (by
       refine AX.all [4, 7] rfl (by kernel_rfl) (by decide) ⟨?_, ?_, trivial⟩
       ·refine AXs.fork (l := s0) (l2 := [q26]) (l' := l32) rfl rfl ei40 (pur_cons (pure_raw rfl) (pur_cons (pure_raw rfl) (pur_cons (pure_map fun _ => rfl) (fun _ hq => nomatch hq)))) rfl rfl rfl (el_o rfl rfl) rfl (fun _ => rfl) (fun _ => (pure_map fun _ => rfl)) gl32 ?_ ?_
        ·refine AX.weaken (Wk.to (L := [(62, (.agg (eRSignatures p0))), (66, (ow 0 0 l32)), (68, (ls eRExpr p2.kids))]) ⟨.rfl, .rfl, .rfl, trivial⟩) ?_ rfl
         exact AX.lst (by kernel_rfl) ((hA35' _ _ _).1 A35_0123456w0)
        ·refine AX.weaken (Wk.to (L := [(62, (.agg (eRSignatures p0))), (66, (ow 4 0 l32)), (68, (ls eRExpr p2.kids))]) ⟨.rfl, .rfl, .rfl, trivial⟩) ?_ rfl
         exact AX.lst (by kernel_rfl) ((hA35 _ _ _).1 A35_0123456w1)
       ·refine AXs.of (i := 7) rfl rfl (by rfl) ?_
        refine zz (.iptr [(i64 c33.op), (i64 c33.num), (ls eRExpr c33.kids)] 0) (aq_ixsE ei48 rfl rfl gc33 (eRExpr_eq _) rfl) rfl (AO.done ⟨rfl, (AX.weaken (Wk.to (L := [(62, (.agg (eRSignatures p0))), (63, (ow 0 0 s0)), (65, (ow 3 0 [q26])), (69, (.iptr [(i64 c33.op), (i64 c33.num), (ls eRExpr c33.kids)] 0))]) ⟨.rfl, .rfl, .rfl, .rfl, trivial⟩) ?_ rfl)⟩)
        exact AX.lst (by kernel_rfl) ((hA35 _ _ _).1 A35_0123567))
      have A35_01235 : A35 6 #[true, true, true, true, false, true, false, false, false, false, false] ⟨194, envL [(62, (.agg (eRSignatures p0))), (63, (ow 0 0 s0)), (65, (ow 3 0 [q26])), (67, (.ptr 2 0 0 2))], [(ro 0 3 1 eI s0), ⟨0, 97, 2, [(eRSignatures p0)]⟩, ⟨0, 50, 3, [[(i64 p2.op), (i64 p2.num), (ls eRExpr p2.kids)]]⟩, (ro 0 3 1 eI [q26])]⟩ := (hA35 _ _ _).2 (by
       refine AX.all [4, 6] rfl (by kernel_rfl) (by decide) ⟨?_, ?_, trivial⟩
       ·refine AXs.fork (l := s0) (l2 := [q26]) (l' := l32) rfl rfl ei40 (pur_cons (pure_raw rfl) (pur_cons (pure_raw rfl) (pur_cons (pure_map fun _ => rfl) (fun _ hq => nomatch hq)))) rfl rfl rfl (el_o rfl rfl) rfl (fun _ => rfl) (fun _ => (pure_map fun _ => rfl)) gl32 ?_ ?_
        ·refine AX.weaken (Wk.to (L := [(62, (.agg (eRSignatures p0))), (66, (ow 0 0 l32)), (67, (.ptr 2 0 0 2))]) ⟨.rfl, .rfl, .rfl, trivial⟩) ?_ rfl
         exact AX.lst (by kernel_rfl) ((hA35' _ _ _).1 A35_012345w0)
        ·refine AX.weaken (Wk.to (L := [(62, (.agg (eRSignatures p0))), (66, (ow 4 0 l32)), (67, (.ptr 2 0 0 2))]) ⟨.rfl, .rfl, .rfl, trivial⟩) ?_ rfl
         exact AX.lst (by kernel_rfl) ((hA35 _ _ _).1 A35_012345w1)
       ·refine AXs.of (i := 6) rfl rfl (by rfl) ?_
        refine zq tb rfl (AO.done ⟨rfl, (AX.weaken (Wk.to (L := [(62, (.agg (eRSignatures p0))), (63, (ow 0 0 s0)), (65, (ow 3 0 [q26])), (68, (ls eRExpr p2.kids))]) ⟨.rfl, .rfl, .rfl, .rfl, trivial⟩) ?_ rfl)⟩)
        exact AX.lst (by kernel_rfl) ((hA35 _ _ _).1 A35_012356))
      have A35_0123 : A35 7 #[true, true, true, true, false, false, false, false, false, false, false] ⟨194, envL [(5, (.ptr 2 0 0 0)), (62, (.agg (eRSignatures p0))), (63, (ow 0 0 s0)), (65, (ow 3 0 [q26]))], [(ro 0 3 1 eI s0), ⟨0, 97, 2, [(eRSignatures p0)]⟩, ⟨0, 50, 3, [[(i64 p2.op), (i64 p2.num), (ls eRExpr p2.kids)]]⟩, (ro 0 3 1 eI [q26])]⟩ := (hA35 _ _ _).2 (by
       refine AX.all [4, 5] rfl (by kernel_rfl) (by decide) ⟨?_, ?_, trivial⟩
       ·refine AXs.fork (l := s0) (l2 := [q26]) (l' := l32) rfl rfl ei40 (pur_cons (pure_raw rfl) (pur_cons (pure_raw rfl) (pur_cons (pure_map fun _ => rfl) (fun _ hq => nomatch hq)))) rfl rfl rfl (el_o rfl rfl) rfl (fun _ => rfl) (fun _ => (pure_map fun _ => rfl)) gl32 ?_ ?_
        ·refine AX.weaken (Wk.to (L := [(5, (.ptr 2 0 0 0)), (62, (.agg (eRSignatures p0))), (66, (ow 0 0 l32))]) ⟨.rfl, .rfl, .rfl, trivial⟩) ?_ rfl
         exact AX.lst (by kernel_rfl) ((hA35' _ _ _).1 A35_01234w0)
        ·refine AX.weaken (Wk.to (L := [(5, (.ptr 2 0 0 0)), (62, (.agg (eRSignatures p0))), (66, (ow 4 0 l32))]) ⟨.rfl, .rfl, .rfl, trivial⟩) ?_ rfl
         exact AX.lst (by kernel_rfl) ((hA35 _ _ _).1 A35_01234w1)
       ·refine AXs.of (i := 5) rfl rfl (by rfl) ?_
        refine zq tb rfl (AO.done ⟨rfl, (AX.weaken (Wk.to (L := [(62, (.agg (eRSignatures p0))), (63, (ow 0 0 s0)), (65, (ow 3 0 [q26])), (67, (.ptr 2 0 0 2))]) ⟨.rfl, .rfl, .rfl, .rfl, trivial⟩) ?_ rfl)⟩)
        exact AX.lst (by kernel_rfl) ((hA35 _ _ _).1 A35_01235))
      have A35_0125678 : A35 4 #[true, true, true, false, false, true, true, true, true, false, false] ⟨194, envL [(62, (.agg (eRSignatures p0))), (63, (ow 0 0 s0)), (64, (i64 q26)), (70, (.agg [(i64 c33.op), (i64 c33.num), (ls eRExpr c33.kids)]))], [(ro 0 3 1 eI s0), ⟨0, 97, 2, [(eRSignatures p0)]⟩, ⟨0, 50, 3, [[(i64 p2.op), (i64 p2.num), (ls eRExpr p2.kids)]]⟩]⟩ := (hA35 _ _ _).2 (by
       refine AX.all [3] rfl (by kernel_rfl) (by decide) ⟨?_, trivial⟩
       ·refine AXs.of (i := 3) rfl rfl (by rfl) ?_
        refine ao_bs (m := 3) (st' := [(ro 0 3 1 eI s0), ⟨0, 97, 2, [(eRSignatures p0)]⟩, ⟨0, 50, 3, [[(i64 p2.op), (i64 p2.num), (ls eRExpr p2.kids)]]⟩, (ro 0 3 1 eI [q26])]) (l := [q26]) (enc := eI) go0 ei40 (by decide) rfl rfl rfl rfl rfl rfl ?_
        refine AO.done ⟨rfl, (AX.weaken (Wk.to (L := [(62, (.agg (eRSignatures p0))), (63, (ow 0 0 s0)), (65, (ow 3 0 [q26])), (70, (.agg [(i64 c33.op), (i64 c33.num), (ls eRExpr c33.kids)]))]) ⟨.rfl, .rfl, .rfl, .rfl, trivial⟩) ?_ rfl)⟩
        exact AX.lst (by kernel_rfl) ((hA35 _ _ _).1 A35_01235678))
      have A35_012567 : A35 5 #[true, true, true, false, false, true, true, true, false, false, false] ⟨194, envL [(62, (.agg (eRSignatures p0))), (63, (ow 0 0 s0)), (64, (i64 q26)), (69, (.iptr [(i64 c33.op), (i64 c33.num), (ls eRExpr c33.kids)] 0))], [(ro 0 3 1 eI s0), ⟨0, 97, 2, [(eRSignatures p0)]⟩, ⟨0, 50, 3, [[(i64 p2.op), (i64 p2.num), (ls eRExpr p2.kids)]]⟩]⟩ := (hA35 _ _ _).2 (by
       refine AX.all [3, 8] rfl (by kernel_rfl) (by decide) ⟨?_, ?_, trivial⟩
       ·refine AXs.of (i := 3) rfl rfl (by rfl) ?_
        refine ao_bs (m := 3) (st' := [(ro 0 3 1 eI s0), ⟨0, 97, 2, [(eRSignatures p0)]⟩, ⟨0, 50, 3, [[(i64 p2.op), (i64 p2.num), (ls eRExpr p2.kids)]]⟩, (ro 0 3 1 eI [q26])]) (l := [q26]) (enc := eI) go0 ei40 (by decide) rfl rfl rfl rfl rfl rfl ?_
        refine AO.done ⟨rfl, (AX.weaken (Wk.to (L := [(62, (.agg (eRSignatures p0))), (63, (ow 0 0 s0)), (65, (ow 3 0 [q26])), (69, (.iptr [(i64 c33.op), (i64 c33.num), (ls eRExpr c33.kids)] 0))]) ⟨.rfl, .rfl, .rfl, .rfl, trivial⟩) ?_ rfl)⟩
        exact AX.lst (by kernel_rfl) ((hA35 _ _ _).1 A35_0123567)
       ·refine AXs.of (i := 8) rfl rfl (by rfl) ?_
        refine zq tb rfl (AO.done ⟨rfl, (AX.weaken (Wk.to (L := [(62, (.agg (eRSignatures p0))), (63, (ow 0 0 s0)), (64, (i64 q26)), (70, (.agg [(i64 c33.op), (i64 c33.num), (ls eRExpr c33.kids)]))]) ⟨.rfl, .rfl, .rfl, .rfl, trivial⟩) ?_ rfl)⟩)
        exact AX.lst (by kernel_rfl) ((hA35 _ _ _).1 A35_0125678))
      have A35_01256 : A35 6 #[true, true, true, false, false, true, true, false, false, false, false] ⟨194, envL [(62, (.agg (eRSignatures p0))), (63, (ow 0 0 s0)), (64, (i64 q26)), (68, (ls eRExpr p2.kids))], [(ro 0 3 1 eI s0), ⟨0, 97, 2, [(eRSignatures p0)]⟩, ⟨0, 50, 3, [[(i64 p2.op), (i64 p2.num), (ls eRExpr p2.kids)]]⟩]⟩ := (hA35 _ _ _).2 (by
       refine AX.all [3, 7] rfl (by kernel_rfl) (by decide) ⟨?_, ?_, trivial⟩
       ·refine AXs.of (i := 3) rfl rfl (by rfl) ?_
        refine ao_bs (m := 3) (st' := [(ro 0 3 1 eI s0), ⟨0, 97, 2, [(eRSignatures p0)]⟩, ⟨0, 50, 3, [[(i64 p2.op), (i64 p2.num), (ls eRExpr p2.kids)]]⟩, (ro 0 3 1 eI [q26])]) (l := [q26]) (enc := eI) go0 ei40 (by decide) rfl rfl rfl rfl rfl rfl ?_
        refine AO.done ⟨rfl, (AX.weaken (Wk.to (L := [(62, (.agg (eRSignatures p0))), (63, (ow 0 0 s0)), (65, (ow 3 0 [q26])), (68, (ls eRExpr p2.kids))]) ⟨.rfl, .rfl, .rfl, .rfl, trivial⟩) ?_ rfl)⟩
        exact AX.lst (by kernel_rfl) ((hA35 _ _ _).1 A35_012356)
       ·refine AXs.of (i := 7) rfl rfl (by rfl) ?_
        refine zz (.iptr [(i64 c33.op), (i64 c33.num), (ls eRExpr c33.kids)] 0) (aq_ixsE ei48 rfl rfl gc33 (eRExpr_eq _) rfl) rfl (AO.done ⟨rfl, (AX.weaken (Wk.to (L := [(62, (.agg (eRSignatures p0))), (63, (ow 0 0 s0)), (64, (i64 q26)), (69, (.iptr [(i64 c33.op), (i64 c33.num), (ls eRExpr c33.kids)] 0))]) ⟨.rfl, .rfl, .rfl, .rfl, trivial⟩) ?_ rfl)⟩)
        exact AX.lst (by kernel_rfl) ((hA35 _ _ _).1 A35_012567))
      have A35_0125 : A35 7 #[true, true, true, false, false, true, false, false, false, false, false] ⟨194, envL [(62, (.agg (eRSignatures p0))), (63, (ow 0 0 s0)), (64, (i64 q26)), (67, (.ptr 2 0 0 2))], [(ro 0 3 1 eI s0), ⟨0, 97, 2, [(eRSignatures p0)]⟩, ⟨0, 50, 3, [[(i64 p2.op), (i64 p2.num), (ls eRExpr p2.kids)]]⟩]⟩ := (hA35 _ _ _).2 (by
       refine AX.all [3, 6] rfl (by kernel_rfl) (by decide) ⟨?_, ?_, trivial⟩
       ·refine AXs.of (i := 3) rfl rfl (by rfl) ?_
        refine ao_bs (m := 3) (st' := [(ro 0 3 1 eI s0), ⟨0, 97, 2, [(eRSignatures p0)]⟩, ⟨0, 50, 3, [[(i64 p2.op), (i64 p2.num), (ls eRExpr p2.kids)]]⟩, (ro 0 3 1 eI [q26])]) (l := [q26]) (enc := eI) go0 ei40 (by decide) rfl rfl rfl rfl rfl rfl ?_
        refine AO.done ⟨rfl, (AX.weaken (Wk.to (L := [(62, (.agg (eRSignatures p0))), (63, (ow 0 0 s0)), (65, (ow 3 0 [q26])), (67, (.ptr 2 0 0 2))]) ⟨.rfl, .rfl, .rfl, .rfl, trivial⟩) ?_ rfl)⟩
        exact AX.lst (by kernel_rfl) ((hA35 _ _ _).1 A35_01235)
       ·refine AXs.of (i := 6) rfl rfl (by rfl) ?_
        refine zq tb rfl (AO.done ⟨rfl, (AX.weaken (Wk.to (L := [(62, (.agg (eRSignatures p0))), (63, (ow 0 0 s0)), (64, (i64 q26)), (68, (ls eRExpr p2.kids))]) ⟨.rfl, .rfl, .rfl, .rfl, trivial⟩) ?_ rfl)⟩)
        exact AX.lst (by kernel_rfl) ((hA35 _ _ _).1 A35_01256))
      have A35_012 : A35 8 #[true, true, true, false, false, false, false, false, false, false, false] ⟨194, envL [(5, (.ptr 2 0 0 0)), (62, (.agg (eRSignatures p0))), (63, (ow 0 0 s0)), (64, (i64 q26))], [(ro 0 3 1 eI s0), ⟨0, 97, 2, [(eRSignatures p0)]⟩, ⟨0, 50, 3, [[(i64 p2.op), (i64 p2.num), (ls eRExpr p2.kids)]]⟩]⟩ := (hA35 _ _ _).2 (by
       refine AX.all [3, 5] rfl (by kernel_rfl) (by decide) ⟨?_, ?_, trivial⟩
       ·refine AXs.of (i := 3) rfl rfl (by rfl) ?_
        refine ao_bs (m := 3) (st' := [(ro 0 3 1 eI s0), ⟨0, 97, 2, [(eRSignatures p0)]⟩, ⟨0, 50, 3, [[(i64 p2.op), (i64 p2.num), (ls eRExpr p2.kids)]]⟩, (ro 0 3 1 eI [q26])]) (l := [q26]) (enc := eI) go0 ei40 (by decide) rfl rfl rfl rfl rfl rfl ?_
        refine AO.done ⟨rfl, (AX.weaken (Wk.to (L := [(5, (.ptr 2 0 0 0)), (62, (.agg (eRSignatures p0))), (63, (ow 0 0 s0)), (65, (ow 3 0 [q26]))]) ⟨.rfl, .rfl, .rfl, .rfl, trivial⟩) ?_ rfl)⟩
        exact AX.lst (by kernel_rfl) ((hA35 _ _ _).1 A35_0123)
       ·refine AXs.of (i := 5) rfl rfl (by rfl) ?_
        refine zq tb rfl (AO.done ⟨rfl, (AX.weaken (Wk.to (L := [(62, (.agg (eRSignatures p0))), (63, (ow 0 0 s0)), (64, (i64 q26)), (67, (.ptr 2 0 0 2))]) ⟨.rfl, .rfl, .rfl, .rfl, trivial⟩) ?_ rfl)⟩)
        exact AX.lst (by kernel_rfl) ((hA35 _ _ _).1 A35_0125))
      have A35_12345678w0 : A35' 3 #[false, true, true, true, true, true, true, true, true, false, false] ⟨194, envL [(3, (.ptr 1 0 0 0)), (66, (ow 0 0 l32)), (70, (.agg [(i64 c33.op), (i64 c33.num), (ls eRExpr c33.kids)]))], [(ro 0 3 1 eI l32), ⟨0, 97, 2, [(eRSignatures p0)]⟩, ⟨0, 50, 3, [[(i64 p2.op), (i64 p2.num), (ls eRExpr p2.kids)]]⟩, (ro 0 3 1 eI [q26])]⟩ := (hA35' _ _ _).2 (by
       refine AX.all [0] rfl (by kernel_rfl) (by decide) ⟨?_, trivial⟩
       ·refine AXs.of (i := 0) rfl rfl (by rfl) ?_
        refine zq tb rfl (AO.done ⟨rfl, (AX.weaken (Wk.to (L := [(62, (.agg (eRSignatures p0))), (66, (ow 0 0 l32)), (70, (.agg [(i64 c33.op), (i64 c33.num), (ls eRExpr c33.kids)]))]) ⟨.rfl, .rfl, .rfl, trivial⟩) ?_ rfl)⟩)
        exact AX.lst (by kernel_rfl) ((hA35' _ _ _).1 A35_012345678w0))
      have A35_1234567w0 : A35' 4 #[false, true, true, true, true, true, true, true, false, false, false] ⟨194, envL [(3, (.ptr 1 0 0 0)), (66, (ow 0 0 l32)), (69, (.iptr [(i64 c33.op), (i64 c33.num), (ls eRExpr c33.kids)] 0))], [(ro 0 3 1 eI l32), ⟨0, 97, 2, [(eRSignatures p0)]⟩, ⟨0, 50, 3, [[(i64 p2.op), (i64 p2.num), (ls eRExpr p2.kids)]]⟩, (ro 0 3 1 eI [q26])]⟩ := (hA35' _ _ _).2 (by
       refine AX.all [0, 8] rfl (by kernel_rfl) (by decide) ⟨?_, ?_, trivial⟩
       ·refine AXs.of (i := 0) rfl rfl (by rfl) ?_
        refine zq tb rfl (AO.done ⟨rfl, (AX.weaken (Wk.to (L := [(62, (.agg (eRSignatures p0))), (66, (ow 0 0 l32)), (69, (.iptr [(i64 c33.op), (i64 c33.num), (ls eRExpr c33.kids)] 0))]) ⟨.rfl, .rfl, .rfl, trivial⟩) ?_ rfl)⟩)
        exact AX.lst (by kernel_rfl) ((hA35' _ _ _).1 A35_01234567w0)
       ·refine AXs.of (i := 8) rfl rfl (by rfl) ?_
        refine zq tb rfl (AO.done ⟨rfl, (AX.weaken (Wk.to (L := [(3, (.ptr 1 0 0 0)), (66, (ow 0 0 l32)), (70, (.agg [(i64 c33.op), (i64 c33.num), (ls eRExpr c33.kids)]))]) ⟨.rfl, .rfl, .rfl, trivial⟩) ?_ rfl)⟩)
        exact AX.lst (by kernel_rfl) ((hA35' _ _ _).1 A35_12345678w0))
      have A35_123456w0 : A35' 5 #[false, true, true, true, true, true, true, false, false, false, false] ⟨194, envL [(3, (.ptr 1 0 0 0)), (66, (ow 0 0 l32)), (68, (ls eRExpr p2.kids))], [(ro 0 3 1 eI l32), ⟨0, 97, 2, [(eRSignatures p0)]⟩, ⟨0, 50, 3, [[(i64 p2.op), (i64 p2.num), (ls eRExpr p2.kids)]]⟩, (ro 0 3 1 eI [q26])]⟩ := (hA35' _ _ _).2 (by
       refine AX.all [0, 7] rfl (by kernel_rfl) (by decide) ⟨?_, ?_, trivial⟩
       ·refine AXs.of (i := 0) rfl rfl (by rfl) ?_
        refine zq tb rfl (AO.done ⟨rfl, (AX.weaken (Wk.to (L := [(62, (.agg (eRSignatures p0))), (66, (ow 0 0 l32)), (68, (ls eRExpr p2.kids))]) ⟨.rfl, .rfl, .rfl, trivial⟩) ?_ rfl)⟩)
        exact AX.lst (by kernel_rfl) ((hA35' _ _ _).1 A35_0123456w0)
       ·refine AXs.of (i := 7) rfl rfl (by rfl) ?_
        refine zz (.iptr [(i64 c33.op), (i64 c33.num), (ls eRExpr c33.kids)] 0) (aq_ixsE ei48 rfl rfl gc33 (eRExpr_eq _) rfl) rfl (AO.done ⟨rfl, (AX.weaken (Wk.to (L := [(3, (.ptr 1 0 0 0)), (66, (ow 0 0 l32)), (69, (.iptr [(i64 c33.op), (i64 c33.num), (ls eRExpr c33.kids)] 0))]) ⟨.rfl, .rfl, .rfl, trivial⟩) ?_ rfl)⟩)
        exact AX.lst (by kernel_rfl) ((hA35' _ _ _).1 A35_1234567w0))
      have A35_12345w0 : A35' 6 #[false, true, true, true, true, true, false, false, false, false, false] ⟨194, envL [(3, (.ptr 1 0 0 0)), (66, (ow 0 0 l32)), (67, (.ptr 2 0 0 2))], [(ro 0 3 1 eI l32), ⟨0, 97, 2, [(eRSignatures p0)]⟩, ⟨0, 50, 3, [[(i64 p2.op), (i64 p2.num), (ls eRExpr p2.kids)]]⟩, (ro 0 3 1 eI [q26])]⟩ := (hA35' _ _ _).2 (by
       refine AX.all [0, 6] rfl (by kernel_rfl) (by decide) ⟨?_, ?_, trivial⟩
       ·refine AXs.of (i := 0) rfl rfl (by rfl) ?_
        refine zq tb rfl (AO.done ⟨rfl, (AX.weaken (Wk.to (L := [(62, (.agg (eRSignatures p0))), (66, (ow 0 0 l32)), (67, (.ptr 2 0 0 2))]) ⟨.rfl, .rfl, .rfl, trivial⟩) ?_ rfl)⟩)
        exact AX.lst (by kernel_rfl) ((hA35' _ _ _).1 A35_012345w0)
       ·refine AXs.of (i := 6) rfl rfl (by rfl) ?_
        refine zq tb rfl (AO.done ⟨rfl, (AX.weaken (Wk.to (L := [(3, (.ptr 1 0 0 0)), (66, (ow 0 0 l32)), (68, (ls eRExpr p2.kids))]) ⟨.rfl, .rfl, .rfl, trivial⟩) ?_ rfl)⟩)
        exact AX.lst (by kernel_rfl) ((hA35' _ _ _).1 A35_123456w0))
      have A35_1234w0 : A35' 7 #[false, true, true, true, true, false, false, false, false, false, false] ⟨194, envL [(3, (.ptr 1 0 0 0)), (5, (.ptr 2 0 0 0)), (66, (ow 0 0 l32))], [(ro 0 3 1 eI l32), ⟨0, 97, 2, [(eRSignatures p0)]⟩, ⟨0, 50, 3, [[(i64 p2.op), (i64 p2.num), (ls eRExpr p2.kids)]]⟩, (ro 0 3 1 eI [q26])]⟩ := (hA35' _ _ _).2 (by
       refine AX.all [0, 5] rfl (by kernel_rfl) (by decide) ⟨?_, ?_, trivial⟩
       ·refine AXs.of (i := 0) rfl rfl (by rfl) ?_
        refine zq tb rfl (AO.done ⟨rfl, (AX.weaken (Wk.to (L := [(5, (.ptr 2 0 0 0)), (62, (.agg (eRSignatures p0))), (66, (ow 0 0 l32))]) ⟨.rfl, .rfl, .rfl, trivial⟩) ?_ rfl)⟩)
        exact AX.lst (by kernel_rfl) ((hA35' _ _ _).1 A35_01234w0)
       ·refine AXs.of (i := 5) rfl rfl (by rfl) ?_
        refine zq tb rfl (AO.done ⟨rfl, (AX.weaken (Wk.to (L := [(3, (.ptr 1 0 0 0)), (66, (ow 0 0 l32)), (67, (.ptr 2 0 0 2))]) ⟨.rfl, .rfl, .rfl, trivial⟩) ?_ rfl)⟩)
        exact AX.lst (by kernel_rfl) ((hA35' _ _ _).1 A35_12345w0))
      have A35_12345678w1 : A35 3 #[false, true, true, true, true, true, true, true, true, false, false] ⟨194, envL [(3, (.ptr 1 0 0 0)), (66, (ow 4 0 l32)), (70, (.agg [(i64 c33.op), (i64 c33.num), (ls eRExpr c33.kids)]))], [(ro 0 3 1 eI s0), ⟨0, 97, 2, [(eRSignatures p0)]⟩, ⟨0, 50, 3, [[(i64 p2.op), (i64 p2.num), (ls eRExpr p2.kids)]]⟩, (ro 0 3 1 eI [q26]), (ro 0 3 1 eI l32)]⟩ := (hA35 _ _ _).2 (by
       refine AX.all [0] rfl (by kernel_rfl) (by decide) ⟨?_, trivial⟩
       ·refine AXs.of (i := 0) rfl rfl (by rfl) ?_
        refine zq tb rfl (AO.done ⟨rfl, (AX.weaken (Wk.to (L := [(62, (.agg (eRSignatures p0))), (66, (ow 4 0 l32)), (70, (.agg [(i64 c33.op), (i64 c33.num), (ls eRExpr c33.kids)]))]) ⟨.rfl, .rfl, .rfl, trivial⟩) ?_ rfl)⟩)
        exact AX.lst (by kernel_rfl) ((hA35 _ _ _).1 A35_012345678w1))
      have A35_1234567w1 : A35 4 #[false, true, true, true, true, true, true, true, false, false, false] ⟨194, envL [(3, (.ptr 1 0 0 0)), (66, (ow 4 0 l32)), (69, (.iptr [(i64 c33.op), (i64 c33.num), (ls eRExpr c33.kids)] 0))], [(ro 0 3 1 eI s0), ⟨0, 97, 2, [(eRSignatures p0)]⟩, ⟨0, 50, 3, [[(i64 p2.op), (i64 p2.num), (ls eRExpr p2.kids)]]⟩, (ro 0 3 1 eI [q26]), (ro 0 3 1 eI l32)]⟩ := (hA35 _ _ _).2 (by
       refine AX.all [0, 8] rfl (by kernel_rfl) (by decide) ⟨?_, ?_, trivial⟩
       ·refine AXs.of (i := 0) rfl rfl (by rfl) ?_
        refine zq tb rfl (AO.done ⟨rfl, (AX.weaken (Wk.to (L := [(62, (.agg (eRSignatures p0))), (66, (ow 4 0 l32)), (69, (.iptr [(i64 c33.op), (i64 c33.num), (ls eRExpr c33.kids)] 0))]) ⟨.rfl, .rfl, .rfl, trivial⟩) ?_ rfl)⟩)
        exact AX.lst (by kernel_rfl) ((hA35 _ _ _).1 A35_01234567w1)
       ·refine AXs.of (i := 8) rfl rfl (by rfl) ?_
        refine zq tb rfl (AO.done ⟨rfl, (AX.weaken (Wk.to (L := [(3, (.ptr 1 0 0 0)), (66, (ow 4 0 l32)), (70, (.agg [(i64 c33.op), (i64 c33.num), (ls eRExpr c33.kids)]))]) ⟨.rfl, .rfl, .rfl, trivial⟩) ?_ rfl)⟩)
        exact AX.lst (by kernel_rfl) ((hA35 _ _ _).1 A35_12345678w1))
      have A35_123456w1 : A35 5 #[false, true, true, true, true, true, true, false, false, false, false] ⟨194, envL [(3, (.ptr 1 0 0 0)), (66, (ow 4 0 l32)), (68, (ls eRExpr p2.kids))], [(ro 0 3 1 eI s0), ⟨0, 97, 2, [(eRSignatures p0)]⟩, ⟨0, 50, 3, [[(i64 p2.op), (i64 p2.num), (ls eRExpr p2.kids)]]⟩, (ro 0 3 1 eI [q26]), (ro 0 3 1 eI l32)]⟩ := (hA35 _ _ _).2 (by
       refine AX.all [0, 7] rfl (by kernel_rfl) (by decide) ⟨?_, ?_, trivial⟩
       ·refine AXs.of (i := 0) rfl rfl (by rfl) ?_
        refine zq tb rfl (AO.done ⟨rfl, (AX.weaken (Wk.to (L := [(62, (.agg (eRSignatures p0))), (66, (ow 4 0 l32)), (68, (ls eRExpr p2.kids))]) ⟨.rfl, .rfl, .rfl, trivial⟩) ?_ rfl)⟩)
        exact AX.lst (by kernel_rfl) ((hA35 _ _ _).1 A35_0123456w1)
       ·refine AXs.of (i := 7) rfl rfl (by rfl) ?_
        refine zz (.iptr [(i64 c33.op), (i64 c33.num), (ls eRExpr c33.kids)] 0) (aq_ixsE ei48 rfl rfl gc33 (eRExpr_eq _) rfl) rfl (AO.done ⟨rfl, (AX.weaken (Wk.to (L := [(3, (.ptr 1 0 0 0)), (66, (ow 4 0 l32)), (69, (.iptr [(i64 c33.op), (i64 c33.num), (ls eRExpr c33.kids)] 0))]) ⟨.rfl, .rfl, .rfl, trivial⟩) ?_ rfl)⟩)
        exact AX.lst (by kernel_rfl) ((hA35 _ _ _).1 A35_1234567w1))
      have A35_12345w1 : A35 6 #[false, true, true, true, true, true, false, false, false, false, false] ⟨194, envL [(3, (.ptr 1 0 0 0)), (66, (ow 4 0 l32)), (67, (.ptr 2 0 0 2))], [(ro 0 3 1 eI s0), ⟨0, 97, 2, [(eRSignatures p0)]⟩, ⟨0, 50, 3, [[(i64 p2.op), (i64 p2.num), (ls eRExpr p2.kids)]]⟩, (ro 0 3 1 eI [q26]), (ro 0 3 1 eI l32)]⟩ := (hA35 _ _ _).2 (by
       refine AX.all [0, 6] rfl (by kernel_rfl) (by decide) ⟨?_, ?_, trivial⟩
       ·refine AXs.of (i := 0) rfl rfl (by rfl) ?_
        refine zq tb rfl (AO.done ⟨rfl, (AX.weaken (Wk.to (L := [(62, (.agg (eRSignatures p0))), (66, (ow 4 0 l32)), (67, (.ptr 2 0 0 2))]) ⟨.rfl, .rfl, .rfl, trivial⟩) ?_ rfl)⟩)
        exact AX.lst (by kernel_rfl) ((hA35 _ _ _).1 A35_012345w1)
       ·refine AXs.of (i := 6) rfl rfl (by rfl) ?_
        refine zq tb rfl (AO.done ⟨rfl, (AX.weaken (Wk.to (L := [(3, (.ptr 1 0 0 0)), (66, (ow 4 0 l32)), (68, (ls eRExpr p2.kids))]) ⟨.rfl, .rfl, .rfl, trivial⟩) ?_ rfl)⟩)
        exact AX.lst (by kernel_rfl) ((hA35 _ _ _).1 A35_123456w1))
      have A35_1234w1 : A35 7 #[false, true, true, true, true, false, false, false, false, false, false] ⟨194, envL [(3, (.ptr 1 0 0 0)), (5, (.ptr 2 0 0 0)), (66, (ow 4 0 l32))], [(ro 0 3 1 eI s0), ⟨0, 97, 2, [(eRSignatures p0)]⟩, ⟨0, 50, 3, [[(i64 p2.op), (i64 p2.num), (ls eRExpr p2.kids)]]⟩, (ro 0 3 1 eI [q26]), (ro 0 3 1 eI l32)]⟩ := (hA35 _ _ _).2 (by
       refine AX.all [0, 5] rfl (by kernel_rfl) (by decide) ⟨?_, ?_, trivial⟩
       ·refine AXs.of (i := 0) rfl rfl (by rfl) ?_
        refine zq tb rfl (AO.done ⟨rfl, (AX.weaken (Wk.to (L := [(5, (.ptr 2 0 0 0)), (62, (.agg (eRSignatures p0))), (66, (ow 4 0 l32))]) ⟨.rfl, .rfl, .rfl, trivial⟩) ?_ rfl)⟩)
        exact AX.lst (by kernel_rfl) ((hA35 _ _ _).1 A35_01234w1)
       ·refine AXs.of (i := 5) rfl rfl (by rfl) ?_
        refine zq tb rfl (AO.done ⟨rfl, (AX.weaken (Wk.to (L := [(3, (.ptr 1 0 0 0)), (66, (ow 4 0 l32)), (67, (.ptr 2 0 0 2))]) ⟨.rfl, .rfl, .rfl, trivial⟩) ?_ rfl)⟩)
        exact AX.lst (by kernel_rfl) ((hA35 _ _ _).1 A35_12345w1))
      have A35_1235678 : A35 4 #[false, true, true, true, false, true, true, true, true, false, false] ⟨194, envL [(3, (.ptr 1 0 0 0)), (63, (ow 0 0 s0)), (65, (ow 3 0 [q26])), (70, (.agg [(i64 c33.op), (i64 c33.num), (ls eRExpr c33.kids)]))], [(ro 0 3 1 eI s0), ⟨0, 97, 2, [(eRSignatures p0)]⟩, ⟨0, 50, 3, [[(i64 p2.op), (i64 p2.num), (ls eRExpr p2.kids)]]⟩, (ro 0 3 1 eI [q26])]⟩ := (hA35 _ _ _).2 (by
       refine AX.all [0, 4] rfl (by kernel_rfl) (by decide) ⟨?_, ?_, trivial⟩
       ·refine AXs.of (i := 0) rfl rfl (by rfl) ?_
        refine zq tb rfl (AO.done ⟨rfl, (AX.weaken (Wk.to (L := [(62, (.agg (eRSignatures p0))), (63, (ow 0 0 s0)), (65, (ow 3 0 [q26])), (70, (.agg [(i64 c33.op), (i64 c33.num), (ls eRExpr c33.kids)]))]) ⟨.rfl, .rfl, .rfl, .rfl, trivial⟩) ?_ rfl)⟩)
        exact AX.lst (by kernel_rfl) ((hA35 _ _ _).1 A35_01235678)
       ·refine AXs.fork (l := s0) (l2 := [q26]) (l' := l32) rfl rfl ei40 (pur_cons (pure_raw rfl) (pur_cons (pure_raw rfl) (pur_cons (pure_map fun _ => rfl) (fun _ hq => nomatch hq)))) rfl rfl rfl (el_o rfl rfl) rfl (fun _ => rfl) (fun _ => (pure_map fun _ => rfl)) gl32 ?_ ?_
        ·refine AX.weaken (Wk.to (L := [(3, (.ptr 1 0 0 0)), (66, (ow 0 0 l32)), (70, (.agg [(i64 c33.op), (i64 c33.num), (ls eRExpr c33.kids)]))]) ⟨.rfl, .rfl, .rfl, trivial⟩) ?_ rfl
         exact AX.lst (by kernel_rfl) ((hA35' _ _ _).1 A35_12345678w0)
        ·refine AX.weaken (Wk.to (L := [(3, (.ptr 1 0 0 0)), (66, (ow 4 0 l32)), (70, (.agg [(i64 c33.op), (i64 c33.num), (ls eRExpr c33.kids)]))]) ⟨.rfl, .rfl, .rfl, trivial⟩) ?_ rfl
         exact AX.lst (by kernel_rfl) ((hA35 _ _ _).1 A35_12345678w1))
      have A35_123567 : A35 5 #[false, true, true, true, false, true, true, true, false, false, false] ⟨194, envL [(3, (.ptr 1 0 0 0)), (63, (ow 0 0 s0)), (65, (ow 3 0 [q26])), (69, (.iptr [(i64 c33.op), (i64 c33.num), (ls eRExpr c33.kids)] 0))], [(ro 0 3 1 eI s0), ⟨0, 97, 2, [(eRSignatures p0)]⟩, ⟨0, 50, 3, [[(i64 p2.op), (i64 p2.num), (ls eRExpr p2.kids)]]⟩, (ro 0 3 1 eI [q26])]⟩ := (hA35 _ _ _).2 (by
       refine AX.all [0, 4, 8] rfl (by kernel_rfl) (by decide) ⟨?_, ?_, ?_, trivial⟩
       ·refine AXs.of (i := 0) rfl rfl (by rfl) ?_
        refine zq tb rfl (AO.done ⟨rfl, (AX.weaken (Wk.to (L := [(62, (.agg (eRSignatures p0))), (63, (ow 0 0 s0)), (65, (ow 3 0 [q26])), (69, (.iptr [(i64 c33.op), (i64 c33.num), (ls eRExpr c33.kids)] 0))]) ⟨.rfl, .rfl, .rfl, .rfl, trivial⟩) ?_ rfl)⟩)
        exact AX.lst (by kernel_rfl) ((hA35 _ _ _).1 A35_0123567)
       ·refine AXs.fork (l := s0) (l2 := [q26]) (l' := l32) rfl rfl ei40 (pur_cons (pure_raw rfl) (pur_cons (pure_raw rfl) (pur_cons (pure_map fun _ => rfl) (fun _ hq => nomatch hq)))) rfl rfl rfl (el_o rfl rfl) rfl (fun _ => rfl) (fun _ => (pure_map fun _ => rfl)) gl32 ?_ ?_
        ·refine AX.weaken (Wk.to (L := [(3, (.ptr 1 0 0 0)), (66, (ow 0 0 l32)), (69, (.iptr [(i64 c33.op), (i64 c33.num), (ls eRExpr c33.kids)] 0))]) ⟨.rfl, .rfl, .rfl, trivial⟩) ?_ rfl
         exact AX.lst (by kernel_rfl) ((hA35' _ _ _).1 A35_1234567w0)
        ·refine AX.weaken (Wk.to (L := [(3, (.ptr 1 0 0 0)), (66, (ow 4 0 l32)), (69, (.iptr [(i64 c33.op), (i64 c33.num), (ls eRExpr c33.kids)] 0))]) ⟨.rfl, .rfl, .rfl, trivial⟩) ?_ rfl
         exact AX.lst (by kernel_rfl) ((hA35 _ _ _).1 A35_1234567w1)
       ·refine AXs.of (i := 8) rfl rfl (by rfl) ?_
        refine zq tb rfl (AO.done ⟨rfl, (AX.weaken (Wk.to (L := [(3, (.ptr 1 0 0 0)), (63, (ow 0 0 s0)), (65, (ow 3 0 [q26])), (70, (.agg [(i64 c33.op), (i64 c33.num), (ls eRExpr c33.kids)]))]) ⟨.rfl, .rfl, .rfl, .rfl, trivial⟩) ?_ rfl)⟩)
        exact AX.lst (by kernel_rfl) ((hA35 _ _ _).1 A35_1235678))
      have A35_12356 : A35 6 #[false, true, true, true, false, true, true, false, false, false, false] ⟨194, envL [(3, (.ptr 1 0 0 0)), (63, (ow 0 0 s0)), (65, (ow 3 0 [q26])), (68, (ls eRExpr p2.kids))], [(ro 0 3 1 eI s0), ⟨0, 97, 2, [(eRSignatures p0)]⟩, ⟨0, 50, 3, [[(i64 p2.op), (i64 p2.num), (ls eRExpr p2.kids)]]⟩, (ro 0 3 1 eI [q26])]⟩ := (hA35 _ _ _).2 (by
       refine AX.all [0, 4, 7] rfl (by kernel_rfl) (by decide) ⟨?_, ?_, ?_, trivial⟩
       ·refine AXs.of (i := 0) rfl rfl (by rfl) ?_
        refine zq tb rfl (AO.done ⟨rfl, (AX.weaken (Wk.to (L := [(62, (.agg (eRSignatures p0))), (63, (ow 0 0 s0)), (65, (ow 3 0 [q26])), (68, (ls eRExpr p2.kids))]) ⟨.rfl, .rfl, .rfl, .rfl, trivial⟩) ?_ rfl)⟩)
        exact AX.lst (by kernel_rfl) ((hA35 _ _ _).1 A35_012356)
       ·refine AXs.fork (l := s0) (l2 := [q26]) (l' := l32) rfl rfl ei40 (pur_cons (pure_raw rfl) (pur_cons (pure_raw rfl) (pur_cons (pure_map fun _ => rfl) (fun _ hq => nomatch hq)))) rfl rfl rfl (el_o rfl rfl) rfl (fun _ => rfl) (fun _ => (pure_map fun _ => rfl)) gl32 ?_ ?_
        ·refine AX.weaken (Wk.to (L := [(3, (.ptr 1 0 0 0)), (66, (ow 0 0 l32)), (68, (ls eRExpr p2.kids))]) ⟨.rfl, .rfl, .rfl, trivial⟩) ?_ rfl
         exact AX.lst (by kernel_rfl) ((hA35' _ _ _).1 A35_123456w0)
        ·refine AX.weaken (Wk.to (L := [(3, (.ptr 1 0 0 0)), (66, (ow 4 0 l32)), (68, (ls eRExpr p2.kids))]) ⟨.rfl, .rfl, .rfl, trivial⟩) ?_ rfl
         exact AX.lst (by kernel_rfl) ((hA35 _ _ _).1 A35_123456w1)
       ·refine AXs.of (i := 7) rfl rfl (by rfl) ?_
        refine zz (.iptr [(i64 c33.op), (i64 c33.num), (ls eRExpr c33.kids)] 0) (aq_ixsE ei48 rfl rfl gc33 (eRExpr_eq _) rfl) rfl (AO.done ⟨rfl, (AX.weaken (Wk.to (L := [(3, (.ptr 1 0 0 0)), (63, (ow 0 0 s0)), (65, (ow 3 0 [q26])), (69, (.iptr [(i64 c33.op), (i64 c33.num), (ls eRExpr c33.kids)] 0))]) ⟨.rfl, .rfl, .rfl, .rfl, trivial⟩) ?_ rfl)⟩)
        exact AX.lst (by kernel_rfl) ((hA35 _ _ _).1 A35_123567))
      have A35_1235 : A35 7 #[false, true, true, true, false, true, false, false, false, false, false] ⟨194, envL [(3, (.ptr 1 0 0 0)), (63, (ow 0 0 s0)), (65, (ow 3 0 [q26])), (67, (.ptr 2 0 0 2))], [(ro 0 3 1 eI s0), ⟨0, 97, 2, [(eRSignatures p0)]⟩, ⟨0, 50, 3, [[(i64 p2.op), (i64 p2.num), (ls eRExpr p2.kids)]]⟩, (ro 0 3 1 eI [q26])]⟩ := (hA35 _ _ _).2 (by
       refine AX.all [0, 4, 6] rfl (by kernel_rfl) (by decide) ⟨?_, ?_, ?_, trivial⟩
       ·refine AXs.of (i := 0) rfl rfl (by rfl) ?_
        refine zq tb rfl (AO.done ⟨rfl, (AX.weaken (Wk.to (L := [(62, (.agg (eRSignatures p0))), (63, (ow 0 0 s0)), (65, (ow 3 0 [q26])), (67, (.ptr 2 0 0 2))]) ⟨.rfl, .rfl, .rfl, .rfl, trivial⟩) ?_ rfl)⟩)
        exact AX.lst (by kernel_rfl) ((hA35 _ _ _).1 A35_01235)
       ·refine AXs.fork (l := s0) (l2 := [q26]) (l' := l32) rfl rfl ei40 (pur_cons (pure_raw rfl) (pur_cons (pure_raw rfl) (pur_cons (pure_map fun _ => rfl) (fun _ hq => nomatch hq)))) rfl rfl rfl (el_o rfl rfl) rfl (fun _ => rfl) (fun _ => (pure_map fun _ => rfl)) gl32 ?_ ?_
        ·refine AX.weaken (Wk.to (L := [(3, (.ptr 1 0 0 0)), (66, (ow 0 0 l32)), (67, (.ptr 2 0 0 2))]) ⟨.rfl, .rfl, .rfl, trivial⟩) ?_ rfl
         exact AX.lst (by kernel_rfl) ((hA35' _ _ _).1 A35_12345w0)
        ·refine AX.weaken (Wk.to (L := [(3, (.ptr 1 0 0 0)), (66, (ow 4 0 l32)), (67, (.ptr 2 0 0 2))]) ⟨.rfl, .rfl, .rfl, trivial⟩) ?_ rfl
         exact AX.lst (by kernel_rfl) ((hA35 _ _ _).1 A35_12345w1)
       ·refine AXs.of (i := 6) rfl rfl (by rfl) ?_
        refine zq tb rfl (AO.done ⟨rfl, (AX.weaken (Wk.to (L := [(3, (.ptr 1 0 0 0)), (63, (ow 0 0 s0)), (65, (ow 3 0 [q26])), (68, (ls eRExpr p2.kids))]) ⟨.rfl, .rfl, .rfl, .rfl, trivial⟩) ?_ rfl)⟩)
        exact AX.lst (by kernel_rfl) ((hA35 _ _ _).1 A35_12356))
      have A35_123 : A35 8 #[false, true, true, true, false, false, false, false, false, false, false] ⟨194, envL [(3, (.ptr 1 0 0 0)), (5, (.ptr 2 0 0 0)), (63, (ow 0 0 s0)), (65, (ow 3 0 [q26]))], [(ro 0 3 1 eI s0), ⟨0, 97, 2, [(eRSignatures p0)]⟩, ⟨0, 50, 3, [[(i64 p2.op), (i64 p2.num), (ls eRExpr p2.kids)]]⟩, (ro 0 3 1 eI [q26])]⟩ := (hA35 _ _ _).2 (by
       refine AX.all [0, 4, 5] rfl (by kernel_rfl) (by decide) ⟨?_, ?_, ?_, trivial⟩
       ·refine AXs.of (i := 0) rfl rfl (by rfl) ?_
        refine zq tb rfl (AO.done ⟨rfl, (AX.weaken (Wk.to (L := [(5, (.ptr 2 0 0 0)), (62, (.agg (eRSignatures p0))), (63, (ow 0 0 s0)), (65, (ow 3 0 [q26]))]) ⟨.rfl, .rfl, .rfl, .rfl, trivial⟩) ?_ rfl)⟩)
        exact AX.lst (by kernel_rfl) ((hA35 _ _ _).1 A35_0123)
       ·refine AXs.fork (l := s0) (l2 := [q26]) (l' := l32) rfl rfl ei40 (pur_cons (pure_raw rfl) (pur_cons (pure_raw rfl) (pur_cons (pure_map fun _ => rfl) (fun _ hq => nomatch hq)))) rfl rfl rfl (el_o rfl rfl) rfl (fun _ => rfl) (fun _ => (pure_map fun _ => rfl)) gl32 ?_ ?_
        ·refine AX.weaken (Wk.to (L := [(3, (.ptr 1 0 0 0)), (5, (.ptr 2 0 0 0)), (66, (ow 0 0 l32))]) ⟨.rfl, .rfl, .rfl, trivial⟩) ?_ rfl
         exact AX.lst (by kernel_rfl) ((hA35' _ _ _).1 A35_1234w0)
        ·refine AX.weaken (Wk.to (L := [(3, (.ptr 1 0 0 0)), (5, (.ptr 2 0 0 0)), (66, (ow 4 0 l32))]) ⟨.rfl, .rfl, .rfl, trivial⟩) ?_ rfl
         exact AX.lst (by kernel_rfl) ((hA35 _ _ _).1 A35_1234w1)
       ·refine AXs.of (i := 5) rfl rfl (by rfl) ?_
        refine zq tb rfl (AO.done ⟨rfl, (AX.weaken (Wk.to (L := [(3, (.ptr 1 0 0 0)), (63, (ow 0 0 s0)), (65, (ow 3 0 [q26])), (67, (.ptr 2 0 0 2))]) ⟨.rfl, .rfl, .rfl, .rfl, trivial⟩) ?_ rfl)⟩)
        exact AX.lst (by kernel_rfl) ((hA35 _ _ _).1 A35_1235))
      have A35_125678 : A35 5 #[false, true, true, false, false, true, true, true, true, false, false] ⟨194, envL [(3, (.ptr 1 0 0 0)), (63, (ow 0 0 s0)), (64, (i64 q26)), (70, (.agg [(i64 c33.op), (i64 c33.num), (ls eRExpr c33.kids)]))], [(ro 0 3 1 eI s0), ⟨0, 97, 2, [(eRSignatures p0)]⟩, ⟨0, 50, 3, [[(i64 p2.op), (i64 p2.num), (ls eRExpr p2.kids)]]⟩]⟩ := (hA35 _ _ _).2 (by
       refine AX.all [0, 3] rfl (by kernel_rfl) (by decide) ⟨?_, ?_, trivial⟩
       ·refine AXs.of (i := 0) rfl rfl (by rfl) ?_
        refine zq tb rfl (AO.done ⟨rfl, (AX.weaken (Wk.to (L := [(62, (.agg (eRSignatures p0))), (63, (ow 0 0 s0)), (64, (i64 q26)), (70, (.agg [(i64 c33.op), (i64 c33.num), (ls eRExpr c33.kids)]))]) ⟨.rfl, .rfl, .rfl, .rfl, trivial⟩) ?_ rfl)⟩)
        exact AX.lst (by kernel_rfl) ((hA35 _ _ _).1 A35_0125678)
       ·refine AXs.of (i := 3) rfl rfl (by rfl) ?_
        refine ao_bs (m := 3) (st' := [(ro 0 3 1 eI s0), ⟨0, 97, 2, [(eRSignatures p0)]⟩, ⟨0, 50, 3, [[(i64 p2.op), (i64 p2.num), (ls eRExpr p2.kids)]]⟩, (ro 0 3 1 eI [q26])]) (l := [q26]) (enc := eI) go0 ei40 (by decide) rfl rfl rfl rfl rfl rfl ?_
        refine AO.done ⟨rfl, (AX.weaken (Wk.to (L := [(3, (.ptr 1 0 0 0)), (63, (ow 0 0 s0)), (65, (ow 3 0 [q26])), (70, (.agg [(i64 c33.op), (i64 c33.num), (ls eRExpr c33.kids)]))]) ⟨.rfl, .rfl, .rfl, .rfl, trivial⟩) ?_ rfl)⟩
        exact AX.lst (by kernel_rfl) ((hA35 _ _ _).1 A35_1235678))
      have A35_12567 : A35 6 #[false, true, true, false, false, true, true, true, false, false, false] ⟨194, envL [(3, (.ptr 1 0 0 0)), (63, (ow 0 0 s0)), (64, (i64 q26)), (69, (.iptr [(i64 c33.op), (i64 c33.num), (ls eRExpr c33.kids)] 0))], [(ro 0 3 1 eI s0), ⟨0, 97, 2, [(eRSignatures p0)]⟩, ⟨0, 50, 3, [[(i64 p2.op), (i64 p2.num), (ls eRExpr p2.kids)]]⟩]⟩ := (hA35 _ _ _).2 (by
       refine AX.all [0, 3, 8] rfl (by kernel_rfl) (by decide) ⟨?_, ?_, ?_, trivial⟩
       ·refine AXs.of (i := 0) rfl rfl (by rfl) ?_
        refine zq tb rfl (AO.done ⟨rfl, (AX.weaken (Wk.to (L := [(62, (.agg (eRSignatures p0))), (63, (ow 0 0 s0)), (64, (i64 q26)), (69, (.iptr [(i64 c33.op), (i64 c33.num), (ls eRExpr c33.kids)] 0))]) ⟨.rfl, .rfl, .rfl, .rfl, trivial⟩) ?_ rfl)⟩)
        exact AX.lst (by kernel_rfl) ((hA35 _ _ _).1 A35_012567)
       ·refine AXs.of (i := 3) rfl rfl (by rfl) ?_
        refine ao_bs (m := 3) (st' := [(ro 0 3 1 eI s0), ⟨0, 97, 2, [(eRSignatures p0)]⟩, ⟨0, 50, 3, [[(i64 p2.op), (i64 p2.num), (ls eRExpr p2.kids)]]⟩, (ro 0 3 1 eI [q26])]) (l := [q26]) (enc := eI) go0 ei40 (by decide) rfl rfl rfl rfl rfl rfl ?_
        refine AO.done ⟨rfl, (AX.weaken (Wk.to (L := [(3, (.ptr 1 0 0 0)), (63, (ow 0 0 s0)), (65, (ow 3 0 [q26])), (69, (.iptr [(i64 c33.op), (i64 c33.num), (ls eRExpr c33.kids)] 0))]) ⟨.rfl, .rfl, .rfl, .rfl, trivial⟩) ?_ rfl)⟩
        exact AX.lst (by kernel_rfl) ((hA35 _ _ _).1 A35_123567)
       ·refine AXs.of (i := 8) rfl rfl (by rfl) ?_
        refine zq tb rfl (AO.done ⟨rfl, (AX.weaken (Wk.to (L := [(3, (.ptr 1 0 0 0)), (63, (ow 0 0 s0)), (64, (i64 q26)), (70, (.agg [(i64 c33.op), (i64 c33.num), (ls eRExpr c33.kids)]))]) ⟨.rfl, .rfl, .rfl, .rfl, trivial⟩) ?_ rfl)⟩)
        exact AX.lst (by kernel_rfl) ((hA35 _ _ _).1 A35_125678))
      have A35_1256 : A35 7 #[false, true, true, false, false, true, true, false, false, false, false] ⟨194, envL [(3, (.ptr 1 0 0 0)), (63, (ow 0 0 s0)), (64, (i64 q26)), (68, (ls eRExpr p2.kids))], [(ro 0 3 1 eI s0), ⟨0, 97, 2, [(eRSignatures p0)]⟩, ⟨0, 50, 3, [[(i64 p2.op), (i64 p2.num), (ls eRExpr p2.kids)]]⟩]⟩ := (hA35 _ _ _).2 (by
       refine AX.all [0, 3, 7] rfl (by kernel_rfl) (by decide) ⟨?_, ?_, ?_, trivial⟩
       ·refine AXs.of (i := 0) rfl rfl (by rfl) ?_
        refine zq tb rfl (AO.done ⟨rfl, (AX.weaken (Wk.to (L := [(62, (.agg (eRSignatures p0))), (63, (ow 0 0 s0)), (64, (i64 q26)), (68, (ls eRExpr p2.kids))]) ⟨.rfl, .rfl, .rfl, .rfl, trivial⟩) ?_ rfl)⟩)
        exact AX.lst (by kernel_rfl) ((hA35 _ _ _).1 A35_01256)
       ·refine AXs.of (i := 3) rfl rfl (by rfl) ?_
        refine ao_bs (m := 3) (st' := [(ro 0 3 1 eI s0), ⟨0, 97, 2, [(eRSignatures p0)]⟩, ⟨0, 50, 3, [[(i64 p2.op), (i64 p2.num), (ls eRExpr p2.kids)]]⟩, (ro 0 3 1 eI [q26])]) (l := [q26]) (enc := eI) go0 ei40 (by decide) rfl rfl rfl rfl rfl rfl ?_
        refine AO.done ⟨rfl, (AX.weaken (Wk.to (L := [(3, (.ptr 1 0 0 0)), (63, (ow 0 0 s0)), (65, (ow 3 0 [q26])), (68, (ls eRExpr p2.kids))]) ⟨.rfl, .rfl, .rfl, .rfl, trivial⟩) ?_ rfl)⟩
        exact AX.lst (by kernel_rfl) ((hA35 _ _ _).1 A35_12356)
       ·refine AXs.of (i := 7) rfl rfl (by rfl) ?_
        refine zz (.iptr [(i64 c33.op), (i64 c33.num), (ls eRExpr c33.kids)] 0) (aq_ixsE ei48 rfl rfl gc33 (eRExpr_eq _) rfl) rfl (AO.done ⟨rfl, (AX.weaken (Wk.to (L := [(3, (.ptr 1 0 0 0)), (63, (ow 0 0 s0)), (64, (i64 q26)), (69, (.iptr [(i64 c33.op), (i64 c33.num), (ls eRExpr c33.kids)] 0))]) ⟨.rfl, .rfl, .rfl, .rfl, trivial⟩) ?_ rfl)⟩)
        exact AX.lst (by kernel_rfl) ((hA35 _ _ _).1 A35_12567))
      have A35_125 : A35 8 #[false, true, true, false, false, true, false, false, false, false, false] ⟨194, envL [(3, (.ptr 1 0 0 0)), (63, (ow 0 0 s0)), (64, (i64 q26)), (67, (.ptr 2 0 0 2))], [(ro 0 3 1 eI s0), ⟨0, 97, 2, [(eRSignatures p0)]⟩, ⟨0, 50, 3, [[(i64 p2.op), (i64 p2.num), (ls eRExpr p2.kids)]]⟩]⟩ := (hA35 _ _ _).2 (by
       refine AX.all [0, 3, 6] rfl (by kernel_rfl) (by decide) ⟨?_, ?_, ?_, trivial⟩
       ·refine AXs.of (i := 0) rfl rfl (by rfl) ?_
        refine zq tb rfl (AO.done ⟨rfl, (AX.weaken (Wk.to (L := [(62, (.agg (eRSignatures p0))), (63, (ow 0 0 s0)), (64, (i64 q26)), (67, (.ptr 2 0 0 2))]) ⟨.rfl, .rfl, .rfl, .rfl, trivial⟩) ?_ rfl)⟩)
        exact AX.lst (by kernel_rfl) ((hA35 _ _ _).1 A35_0125)
       ·refine AXs.of (i := 3) rfl rfl (by rfl) ?_
        refine ao_bs (m := 3) (st' := [(ro 0 3 1 eI s0), ⟨0, 97, 2, [(eRSignatures p0)]⟩, ⟨0, 50, 3, [[(i64 p2.op), (i64 p2.num), (ls eRExpr p2.kids)]]⟩, (ro 0 3 1 eI [q26])]) (l := [q26]) (enc := eI) go0 ei40 (by decide) rfl rfl rfl rfl rfl rfl ?_
        refine AO.done ⟨rfl, (AX.weaken (Wk.to (L := [(3, (.ptr 1 0 0 0)), (63, (ow 0 0 s0)), (65, (ow 3 0 [q26])), (67, (.ptr 2 0 0 2))]) ⟨.rfl, .rfl, .rfl, .rfl, trivial⟩) ?_ rfl)⟩
        exact AX.lst (by kernel_rfl) ((hA35 _ _ _).1 A35_1235)
       ·refine AXs.of (i := 6) rfl rfl (by rfl) ?_
        refine zq tb rfl (AO.done ⟨rfl, (AX.weaken (Wk.to (L := [(3, (.ptr 1 0 0 0)), (63, (ow 0 0 s0)), (64, (i64 q26)), (68, (ls eRExpr p2.kids))]) ⟨.rfl, .rfl, .rfl, .rfl, trivial⟩) ?_ rfl)⟩)
        exact AX.lst (by kernel_rfl) ((hA35 _ _ _).1 A35_1256))
      have A35_12 : A35 9 #[false, true, true, false, false, false, false, false, false, false, false] ⟨194, envL [(3, (.ptr 1 0 0 0)), (5, (.ptr 2 0 0 0)), (63, (ow 0 0 s0)), (64, (i64 q26))], [(ro 0 3 1 eI s0), ⟨0, 97, 2, [(eRSignatures p0)]⟩, ⟨0, 50, 3, [[(i64 p2.op), (i64 p2.num), (ls eRExpr p2.kids)]]⟩]⟩ := (hA35 _ _ _).2 (by
       refine AX.all [0, 3, 5] rfl (by kernel_rfl) (by decide) ⟨?_, ?_, ?_, trivial⟩
       ·refine AXs.of (i := 0) rfl rfl (by rfl) ?_
        refine zq tb rfl (AO.done ⟨rfl, (AX.weaken (Wk.to (L := [(5, (.ptr 2 0 0 0)), (62, (.agg (eRSignatures p0))), (63, (ow 0 0 s0)), (64, (i64 q26))]) ⟨.rfl, .rfl, .rfl, .rfl, trivial⟩) ?_ rfl)⟩)
        exact AX.lst (by kernel_rfl) ((hA35 _ _ _).1 A35_012)
       ·refine AXs.of (i := 3) rfl rfl (by rfl) ?_
        refine ao_bs (m := 3) (st' := [(ro 0 3 1 eI s0), ⟨0, 97, 2, [(eRSignatures p0)]⟩, ⟨0, 50, 3, [[(i64 p2.op), (i64 p2.num), (ls eRExpr p2.kids)]]⟩, (ro 0 3 1 eI [q26])]) (l := [q26]) (enc := eI) go0 ei40 (by decide) rfl rfl rfl rfl rfl rfl ?_
        refine AO.done ⟨rfl, (AX.weaken (Wk.to (L := [(3, (.ptr 1 0 0 0)), (5, (.ptr 2 0 0 0)), (63, (ow 0 0 s0)), (65, (ow 3 0 [q26]))]) ⟨.rfl, .rfl, .rfl, .rfl, trivial⟩) ?_ rfl)⟩
        exact AX.lst (by kernel_rfl) ((hA35 _ _ _).1 A35_123)
       ·refine AXs.of (i := 5) rfl rfl (by rfl) ?_
        refine zq tb rfl (AO.done ⟨rfl, (AX.weaken (Wk.to (L := [(3, (.ptr 1 0 0 0)), (63, (ow 0 0 s0)), (64, (i64 q26)), (67, (.ptr 2 0 0 2))]) ⟨.rfl, .rfl, .rfl, .rfl, trivial⟩) ?_ rfl)⟩)
        exact AX.lst (by kernel_rfl) ((hA35 _ _ _).1 A35_125))
      have A35_1 : A35 10 #[false, true, false, false, false, false, false, false, false, false, false] ⟨194, envL [(3, (.ptr 1 0 0 0)), (5, (.ptr 2 0 0 0)), (7, (i64 q26)), (63, (ow 0 0 s0))], [(ro 0 3 1 eI s0), ⟨0, 97, 2, [(eRSignatures p0)]⟩, ⟨0, 50, 3, [[(i64 p2.op), (i64 p2.num), (ls eRExpr p2.kids)]]⟩]⟩ := (hA35 _ _ _).2 (by
       refine AX.hoist 2 (v := (i64 q26)) rfl rfl (by kernel_rfl) (by kernel_rfl) (by kernel_rfl) rfl (hoist_mv rfl) ?_
       refine AX.weaken (Wk.to (L := [(3, (.ptr 1 0 0 0)), (5, (.ptr 2 0 0 0)), (63, (ow 0 0 s0)), (64, (i64 q26))]) ⟨.rfl, .rfl, .rfl, .rfl, trivial⟩) ?_ rfl
       exact AX.lst (by kernel_rfl) ((hA35 _ _ _).1 A35_12))
      have A35_e : A35 11 #[false, false, false, false, false, false, false, false, false, false, false] ⟨194, envL [(1, (ow 0 0 s0)), (3, (.ptr 1 0 0 0)), (5, (.ptr 2 0 0 0)), (7, (i64 q26))], [(ro 0 3 1 eI s0), ⟨0, 97, 2, [(eRSignatures p0)]⟩, ⟨0, 50, 3, [[(i64 p2.op), (i64 p2.num), (ls eRExpr p2.kids)]]⟩]⟩ := (hA35 _ _ _).2 (by
       refine AX.hoist 1 (v := (ow 0 0 s0)) rfl rfl (by kernel_rfl) (by kernel_rfl) (by kernel_rfl) rfl (hoist_mv rfl) ?_
       refine AX.weaken (Wk.to (L := [(3, (.ptr 1 0 0 0)), (5, (.ptr 2 0 0 0)), (7, (i64 q26)), (63, (ow 0 0 s0))]) ⟨.rfl, .rfl, .rfl, .rfl, trivial⟩) ?_ rfl
       exact AX.lst (by kernel_rfl) ((hA35 _ _ _).1 A35_1))
      refine (hA35 _ _ _).2 (AX.weaken (Wk.to (L := [(1, (ow 0 0 s0)), (3, (.ptr 1 0 0 0)), (5, (.ptr 2 0 0 0)), (7, (i64 q26))]) ⟨.rfl, .rfl, .rfl, .rfl, trivial⟩) ?_ rfl)
      exact AX.lst (by kernel_rfl) ((hA35 _ _ _).1 A35_e)
   refine AW.regionO rfl (zm tb 2 rfl (zl tb rfl rfl (zm tb 2 rfl ?_)))
   rcases Sh.ite_some h1 with ⟨b36, h1⟩ | ⟨b36, h1⟩
   ·exact zs b36 rfl (zs b36 rfl (zs b36 rfl (zt b36 rfl (AO.done (M21 true (Sh.some_eq h1).symm _ (Wk.tr rfl))))))
   ·exact zg tb b36 rfl (zg tb b36 rfl (zg tb b36 rfl (zf b36 rfl (AO.done (M21 (!decide (p2.num = 0)) (Sh.some_eq h1).symm _ (Wk.tr rfl))))))
  ·intro b17 h0
   refine zr tb rfl rfl ?_
   refine ci h0 rfl ?_ ?_ <;> clear h0
   ·intro b38 h0
    refine AW.seq fun K39 hK39 => AW.seq fun K40 hK40 => bs h0 fun o42 h1 h0 => ?_
    have M42 : ∀ (t41 : Bool), o42 = t41 → ∀ s, Wk 1 s ⟨194, envL [(1, (ow 0 0 s0)), (3, (.ptr 1 0 0 0)), (5, (.ptr 2 0 0 0)), (92, (.bool t41))], [(ro 0 3 1 eI s0), ⟨0, 97, 2, [(eRSignatures p0)]⟩, ⟨0, 50, 3, [[(i64 p2.op), (i64 p2.num), (ls eRExpr p2.kids)]]⟩]⟩ → K40 s := by
     intro t41 hq s hw
     subst o42
     try dsimp only at h0
     refine hK40 _ (AW.weaken hw ?_)
     refine ci h0 rfl ?_ ?_ <;> clear h0
     ·intro b43 h0
      refine zr tb rfl rfl ?_
      replace h0 := Sh.some_eq h0
      subst r
      exact AW.ret (xr (Wk.permk (L := [(6, (i64 (-1)))]) (st' := [(ro 0 3 1 eI s0)]) (st1 := [(ro 0 3 1 eI s0)]) [0] rfl (.pure (pure_map fun _ => rfl) .nil) (by decide) rfl rfl (.pure (pure_map fun _ => rfl) .nil) ⟨.rfl, trivial⟩))
     ·intro b43 h0
      refine AW.skip (hK39 _ (AW.seq fun K45 hK45 => ?_))
      refine AW.drawTailO 7 (by kernel_rfl) (by kernel_rfl) (by rfl) ?_
      iterate 4 refine yq tb rfl ?_
      refine bs h0 fun l46 gl46 h0 => d_sls (i := 1) (j := Sh.len p2.kids) go0 ei48 rfl rfl rfl eRExpr_len gl46 (bs h0 fun l47 gl47 h0 => d_mk (enc := (eS eI)) (u := []) go0 ei123 rfl rfl rfl gl47 (pure_map fun _ => rfl) (bs h0 fun q48 gq48 h0 => d_callb (v' := (i64 q48)) go0 hb92 (impl_signatures_oneType_ok hrec_impl_signatures_typeOf gq48) rfl (.val rfl (.own rfl rfl (fun _ => rfl) (.val rfl (.val rfl .nil)))) rfl rfl (d_done (zq tb rfl (dn hK45 rfl ?_)))))
      replace h0 := Sh.some_eq h0
      subst r
      exact AW.ret (xr (Wk.permk (L := [(6, (i64 q48))]) (st' := [(ro 0 3 1 eI s0)]) (st1 := [(ro 0 3 1 eI s0)]) [0] rfl (.pure (pure_map fun _ => rfl) .nil) (by decide) rfl rfl (.pure (pure_map fun _ => rfl) .nil) ⟨.rfl, trivial⟩))
    refine AW.draw (by kernel_rfl) (by kernel_rfl) (by rfl) ?_
    iterate 2 refine yq tb rfl ?_
    refine yl tb rfl rfl ?_
    iterate 2 refine yq tb rfl ?_
    rcases Sh.ite_some h1 with ⟨b49, h1⟩ | ⟨b49, h1⟩
    ·refine ys b49 rfl ?_
     iterate 2 refine ys b49 rfl ?_
     refine yt b49 rfl (yq tb rfl ?_)
     iterate 8 refine ys rfl rfl ?_
     exact yt rfl rfl (d_done (M42 true (Sh.some_eq h1).symm _ (Wk.tr rfl)))
    ·refine yg tb b49 rfl ?_
     iterate 2 refine yg tb b49 rfl ?_
     refine yf b49 rfl (yq tb rfl ?_)
     rcases Sh.ite_some h1 with ⟨b50, h1⟩ | ⟨b50, h1⟩
     ·refine ys b50 rfl ?_
      iterate 7 refine ys b50 rfl ?_
      exact yt b50 rfl (d_done (M42 true (Sh.some_eq h1).symm _ (Wk.tr rfl)))
     ·refine yg tb b50 rfl ?_
      iterate 3 refine yg tb b50 rfl ?_
      refine bs h1 fun c51 gc51 h1 => d_q (v := (.iptr [(i64 c51.op), (i64 c51.num), (ls eRExpr c51.kids)] 0)) (go1 rfl rfl b50) rfl (aq_ixsE ei48 rfl rfl gc51 (eRExpr_eq _) rfl) (yg tb b50 rfl (bs h1 fun q52 gq52 h1 => ?_))
      refine d_calls (rowsP := [(ro 0 3 1 eI s0)]) (rows0 := [(ro 0 3 1 eI s0)]) (rows1 := [(ro 0 3 1 eI s0)]) (rows1' := [(ro 0 3 1 eI s0)]) (v' := (i64 q52)) [0] (go1 rfl rfl b50) hb61 (hrec_impl_signatures_typeOf gq52) rfl (by decide) rfl rfl (.pure (pure_map fun _ => rfl) .nil) rfl rfl (.pure (pure_map fun _ => rfl) .nil) rfl rfl ?_
      exact yg tb b50 rfl (yf b50 rfl (d_done (M42 (!decide (q52 = 0)) (Sh.some_eq h1).symm _ (Wk.tr rfl))))
   ·intro b38 h0
    refine zr tb rfl rfl ?_
    refine ci h0 rfl ?_ ?_ <;> clear h0
    ·intro b54 h0
     refine sr rfl fun K55 hK55 => zm tb 4 rfl (bs h0 fun q56 gq56 h0 => ao_call (v' := (ow 3 0 q56)) (st' := [(ro 0 3 1 eI s0), ⟨0, 97, 2, [(eRSignatures p0)]⟩, ⟨0, 50, 3, [[(i64 p2.op), (i64 p2.num), (ls eRExpr p2.kids)]]⟩, (ro 0 3 1 eI q56)]) go0 hb93 (impl_consOf_ok gq56) rfl rfl ⟨(pure_map' fun _ => rfl), trivial⟩ rfl rfl (zq tb rfl (dn hK55 rfl (AW.seq fun K57 hK57 => AW.seq fun K58 hK58 => bs h0 fun o60 h1 h0 => ?_))))
     have M60 : ∀ (t59 : Bool), o60 = t59 → ∀ s, Wk 1 s ⟨194, envL [(1, (ow 0 0 s0)), (3, (.ptr 1 0 0 0)), (5, (.ptr 2 0 0 0)), (8, (ow 3 0 q56)), (130, (.bool t59))], [(ro 0 3 1 eI s0), ⟨0, 97, 2, [(eRSignatures p0)]⟩, ⟨0, 50, 3, [[(i64 p2.op), (i64 p2.num), (ls eRExpr p2.kids)]]⟩, (ro 0 3 1 eI q56)]⟩ → K58 s := by
      intro t59 hq s hw
      subst o60
      try dsimp only at h0
      refine hK58 _ (AW.weaken hw ?_)
      refine ci h0 rfl ?_ ?_ <;> clear h0
      ·intro b61 h0
       refine zr tb rfl rfl ?_
       replace h0 := Sh.some_eq h0
       subst r
       exact AW.ret (xr (Wk.permk (L := [(6, (i64 (-1)))]) (st' := [(ro 0 3 1 eI s0)]) (st1 := [(ro 0 3 1 eI s0)]) [0] rfl (.pure (pure_map fun _ => rfl) .nil) (by decide) rfl rfl (.pure (pure_map fun _ => rfl) .nil) ⟨.rfl, trivial⟩))
      ·intro b61 h0
       refine AW.skip (hK57 _ (sr rfl fun K63 hK63 => zq tb rfl (zz (i64 (Sh.len q56)) (aq_leno sl40 rfl rfl rfl) rfl (bs h0 fun l64 gl64 h0 => ao_make (m := 4) (st' := [(ro 0 3 1 eI s0), ⟨0, 97, 2, [(eRSignatures p0)]⟩, ⟨0, 50, 3, [[(i64 p2.op), (i64 p2.num), (ls eRExpr p2.kids)]]⟩, (ro 0 3 1 eI q56), (ro 0 40 1 (eS eI) l64)]) (enc := (eS eI)) (u := []) go0 ei123 rfl rfl rfl gl64 rfl rfl (zq tb rfl (dn hK63 rfl (AW.seq fun K65 hK65 => sr rfl fun K66 hK66 => zq tb rfl (zz (i64 (Sh.len q56)) (aq_leno sl40 rfl rfl rfl) rfl ?_))))))))
       refine zq tb rfl (dn hK66 rfl (bs h0 fun o70 h1 h0 => ?_))
       have M70 : ∀ (l69 : (List (List Int))), o70 = l69 → ∀ s, Wk 1 s ⟨194, envL [(1, (ow 0 0 s0)), (3, (.ptr 1 0 0 0)), (5, (.ptr 2 0 0 0)), (9, (ow 3 0 l69))], [(ro 0 3 1 eI s0), ⟨0, 97, 2, [(eRSignatures p0)]⟩, ⟨0, 50, 3, [[(i64 p2.op), (i64 p2.num), (ls eRExpr p2.kids)]]⟩, (ro 0 40 1 (eS eI) l69)]⟩ → K65 s := by
        intro l69 hq s hw
        subst o70
        try dsimp only at h0
        refine hK65 _ (AW.weaken hw (AW.seq fun K71 hK71 => ?_))
        refine AW.drawTailO 7 (by kernel_rfl) (by kernel_rfl) (by rfl) ?_
        iterate 4 refine yq tb rfl ?_
        refine bs h0 fun l72 gl72 h0 => d_sls (i := 1) (j := Sh.len p2.kids) go0 ei48 rfl rfl rfl eRExpr_len gl72 (yq tb rfl (bs h0 fun q73 gq73 h0 => d_callb (v' := (i64 q73)) go0 hb92 (impl_signatures_oneType_ok hrec_impl_signatures_typeOf gq73) rfl (.val rfl (.own rfl rfl (fun _ => rfl) (.val rfl (.own rfl rfl (fun _ => rfl) .nil)))) rfl rfl (d_done (zq tb rfl (dn hK71 rfl ?_)))))
        replace h0 := Sh.some_eq h0
        subst r
        exact AW.ret (xr (Wk.permk (L := [(6, (i64 q73))]) (st' := [(ro 0 3 1 eI s0)]) (st1 := [(ro 0 3 1 eI s0)]) [0] rfl (.pure (pure_map fun _ => rfl) .nil) (by decide) rfl rfl (.pure (pure_map fun _ => rfl) .nil) ⟨.rfl, trivial⟩))
       refine AW.block (AW.loopF (σ := Int × (List (List Int))) (fun n v => impl_signatures_typeOf_B_L1 N p0 q56 n v.1 v.2 = some o70) (fun (t67, l68) => ⟨194, envL [(1, (ow 0 0 s0)), (3, (.ptr 1 0 0 0)), (5, (.ptr 2 0 0 0)), (9, (ow 4 0 l68)), (134, (ow 3 0 q56)), (135, (i64 (Sh.len q56))), (136, (i64 t67))], [(ro 0 3 1 eI s0), ⟨0, 97, 2, [(eRSignatures p0)]⟩, ⟨0, 50, 3, [[(i64 p2.op), (i64 p2.num), (ls eRExpr p2.kids)]]⟩, (ro 0 3 1 eI q56), (ro 0 40 1 (eS eI) l68)]⟩) N (0, l64) h1 (Wk.tr rfl) (fun _ hv => by rw [impl_signatures_typeOf_B_L1] at hv; cases hv) ?_)
       rintro n ⟨t67, l68⟩ h1
       try dsimp only at h1 ⊢
       rw [impl_signatures_typeOf_B_L1] at h1
       refine zr tb rfl rfl (AW.seq fun K75 hK75 => ?_)
       refine ci h1 rfl ?_ ?_ <;> clear h1
       ·intro b76 h1
        refine AW.skip (hK75 _ (AW.seq fun K77 hK77 => AW.block (sr rfl fun K78 hK78 => zq tb rfl (bs h1 fun c79 gc79 h1 => zz (.ptr 3 0 (Int.toNat t67) 0) (aq_ixo ei40 rfl rfl rfl rfl gc79) rfl (zz (i64 c79) (aq_ldp ti3 rfl rfl (map_get gc79) rfl) rfl (zm tb 2 rfl (dn hK78 rfl (AW.regionO rfl (zm tb 5 rfl ?_)))))))))
        refine bs h1 fun q80 gq80 h1 => zc hb94 (impl_fieldsOf_ok gq80) rfl rfl rfl (bs h1 fun c81 gc81 h1 => zz (.ptr 4 0 (Int.toNat t67) 0) (aq_ixo ei123 rfl rfl rfl rfl gc81) rfl (ao_stl (st' := [(ro 0 3 1 eI s0), ⟨0, 97, 2, [(eRSignatures p0)]⟩, ⟨0, 50, 3, [[(i64 p2.op), (i64 p2.num), (ls eRExpr p2.kids)]]⟩, (ro 0 3 1 eI q56), (ro 0 40 1 (eS eI) (Sh.put l68 t67 q80))]) (u' := q80) go0 ti40 rfl rfl gc81 rfl rfl rfl (show 0 + 1 ≤ 1 by decide) rfl rfl (dn hK77 rfl (AW.regionO rfl (zm tb 2 rfl ?_)))))
        exact AO.done (xi (Sh.w (t67 + 1), Sh.put l68 t67 q80) h1 (Wk.to (L := [(1, (.own 0 0 (List.length s0))), (3, (.ptr 1 0 0 0)), (5, (.ptr 2 0 0 0)), (9, (.own 4 0 (List.length (Sh.put l68 t67 q80)))), (134, (.own 3 0 (List.length q56))), (135, (i64 (Sh.len q56))), (136, (i64 (Sh.w (t67 + 1))))]) ⟨.rfl, .rfl, .rfl, (.len (by simp only [Sh.put_len])), .rfl, .rfl, .rfl, trivial⟩))
       ·intro b76 h1
        exact AW.exit (M70 l68 (Sh.some_eq h1).symm _ (Wk.permk (L := [(1, (ow 0 0 s0)), (3, (.ptr 1 0 0 0)), (5, (.ptr 2 0 0 0)), (9, (ow 3 0 l68))]) (st' := [(ro 0 3 1 eI s0), ⟨0, 97, 2, [(eRSignatures p0)]⟩, ⟨0, 50, 3, [[(i64 p2.op), (i64 p2.num), (ls eRExpr p2.kids)]]⟩, (ro 0 40 1 (eS eI) l68)]) (st1 := [(ro 0 3 1 eI s0), ⟨0, 97, 2, [(eRSignatures p0)]⟩, ⟨0, 50, 3, [[(i64 p2.op), (i64 p2.num), (ls eRExpr p2.kids)]]⟩, (ro 0 40 1 (eS eI) l68)]) [0, 1, 2, 4] rfl (.pure (pure_map fun _ => rfl) .nil) (by decide) rfl rfl (.pure (pure_map fun _ => rfl) (.raw rfl rfl (.raw rfl rfl (.pure (pure_map fun _ => rfl) .nil)))) ⟨.rfl, .rfl, .rfl, .rfl, trivial⟩))
     refine AW.draw (by kernel_rfl) (by kernel_rfl) (by rfl) ?_
     refine yq tb rfl (yz (i64 (Sh.len q56)) (aq_leno sl40 rfl rfl rfl) rfl ?_)
     iterate 2 refine yq tb rfl ?_
     rcases Sh.ite_some h1 with ⟨b82, h1⟩ | ⟨b82, h1⟩
     ·refine ys b82 rfl ?_
      iterate 6 refine ys b82 rfl ?_
      refine yt b82 rfl (yq tb rfl ?_)
      iterate 10 refine ys rfl rfl ?_
      exact yt rfl rfl (d_done (M60 true (Sh.some_eq h1).symm _ (Wk.tr rfl)))
     ·refine yg tb b82 rfl (yg tb b82 rfl (d_q (v := (i64 (Sh.len p2.kids))) (go1 rfl rfl b82) rfl (aq_lens sl48 rfl) (yg tb b82 rfl (d_q (v := (i64 (Sh.len q56))) (go1 rfl rfl b82) rfl (aq_leno sl40 rfl rfl rfl) ?_))))
      iterate 2 refine yg tb b82 rfl ?_
      refine yf b82 rfl (yq tb rfl ?_)
      rcases Sh.ite_some h1 with ⟨b83, h1⟩ | ⟨b83, h1⟩
      ·refine ys b83 rfl ?_
       iterate 9 refine ys b83 rfl ?_
       exact yt b83 rfl (d_done (M60 true (Sh.some_eq h1).symm _ (Wk.tr rfl)))
      ·refine yg tb b83 rfl ?_
       iterate 3 refine yg tb b83 rfl ?_
       refine bs h1 fun c84 gc84 h1 => d_q (v := (.iptr [(i64 c84.op), (i64 c84.num), (ls eRExpr c84.kids)] 0)) (go1 rfl rfl b83) rfl (aq_ixsE ei48 rfl rfl gc84 (eRExpr_eq _) rfl) (yg tb b83 rfl (bs h1 fun q85 gq85 h1 => ?_))
       refine d_calls (rowsP := [(ro 0 3 1 eI s0)]) (rows0 := [(ro 0 3 1 eI s0)]) (rows1 := [(ro 0 3 1 eI s0)]) (rows1' := [(ro 0 3 1 eI s0)]) (v' := (i64 q85)) [0] (go1 rfl rfl b83) hb61 (hrec_impl_signatures_typeOf gq85) rfl (by decide) rfl rfl (.pure (pure_map fun _ => rfl) .nil) rfl rfl (.pure (pure_map fun _ => rfl) .nil) rfl rfl ?_
       iterate 3 refine yg tb b83 rfl ?_
       exact yf b83 rfl (d_done (M60 (!decide (q85 = p2.num)) (Sh.some_eq h1).symm _ (Wk.tr rfl)))
    ·intro b54 h0
     refine AW.skip (hK2 _ (sr rfl fun K86 hK86 => zm tb 2 rfl (zl tb rfl rfl (bs h0 fun l87 gl87 h0 => ao_make (m := 3) (st' := [(ro 0 3 1 eI s0), ⟨0, 97, 2, [(eRSignatures p0)]⟩, ⟨0, 50, 3, [[(i64 p2.op), (i64 p2.num), (ls eRExpr p2.kids)]]⟩, (ro 0 3 1 eI l87)]) (enc := eI) (u := 0) go0 ei40 rfl rfl rfl gl87 rfl rfl (zq tb rfl (dn hK86 rfl (AW.seq fun K88 hK88 => sr rfl fun K89 hK89 => zm tb 2 rfl (zl tb rfl rfl ?_))))))))
     refine zq tb rfl (dn hK89 rfl ?_)
     obtain ⟨o93, h1, h0⟩ := Sh.cont_some h0
     have M93 : ∀ (l92 : (List Int)), o93 = Sum.inr l92 → ∀ s, Wk 1 s ⟨194, envL [(3, (.ptr 1 0 0 0)), (5, (.ptr 2 0 0 0)), (12, (ow 3 0 l92))], [(ro 0 3 1 eI s0), ⟨0, 97, 2, [(eRSignatures p0)]⟩, ⟨0, 50, 3, [[(i64 p2.op), (i64 p2.num), (ls eRExpr p2.kids)]]⟩, (ro 0 3 1 eI l92)]⟩ → K88 s := by
      intro l92 hq s hw
      subst o93
      try dsimp only at h0
      refine hK88 _ (AW.weaken hw (sr rfl fun K94 hK94 => zm tb 6 rfl (AO.weaken (Wk.frz (L := [(182, (.agg (eRSignatures p0))), (184, (i64 p2.op)), (186, (i64 p2.num)), (187, (ls eI l92))]) (st' := [(ro 0 3 1 eI s0), ⟨0, 97, 2, [(eRSignatures p0)]⟩, ⟨0, 50, 3, [[(i64 p2.op), (i64 p2.num), (ls eRExpr p2.kids)]]⟩, ⟨1, 3, 1, []⟩]) (id := 3) rfl (show 1 ≤ 3 by decide) (pure_map fun _ => rfl) ⟨.rfl, .rfl, .rfl, (.frz rfl), trivial⟩ rfl) (bs h0 fun q95 gq95 h0 => zc (v' := (.tup [(i64 q95.1), (.bool q95.2)])) hb95 (impl_signatures_simpleType_ok gq95) rfl rfl rfl (zm tb 5 rfl (dn hK94 rfl (AW.seq fun K96 hK96 => zr tb rfl rfl ?_)))))))
      refine ci h0 rfl ?_ ?_ <;> clear h0
      ·intro b98 h0
       have b99 : q95.2 = false := by simpa using b98
       refine zr tb rfl rfl ?_
       replace h0 := Sh.some_eq h0
       subst r
       exact AW.ret (xr (Wk.permk (L := [(6, (i64 (-1)))]) (st' := [(ro 0 3 1 eI s0)]) (st1 := [(ro 0 3 1 eI s0)]) [0] rfl (.pure (pure_map fun _ => rfl) .nil) (by decide) rfl rfl (.pure (pure_map fun _ => rfl) .nil) ⟨.rfl, trivial⟩))
      ·intro b98 h0
       have b101 : q95.2 = true := by simpa using b98
       refine AW.skip (hK96 _ (zr tb rfl rfl ?_))
       replace h0 := Sh.some_eq h0
       subst r
       exact AW.ret (xr (Wk.permk (L := [(6, (i64 q95.1))]) (st' := [(ro 0 3 1 eI s0)]) (st1 := [(ro 0 3 1 eI s0)]) [0] rfl (.pure (pure_map fun _ => rfl) .nil) (by decide) rfl rfl (.pure (pure_map fun _ => rfl) .nil) ⟨.rfl, trivial⟩))
     refine AW.block (AW.loopF (σ := Int × (List Int)) (fun n v => impl_signatures_typeOf_B_L2 s0 p0 p2 rec_impl_signatures_typeOf n v.1 v.2 = some o93) (fun (t90, l91) => ⟨194, envL [(1, (ow 0 0 s0)), (3, (.ptr 1 0 0 0)), (5, (.ptr 2 0 0 0)), (12, (ow 3 0 l91)), (161, (ls eRExpr p2.kids)), (162, (i64 (Sh.len p2.kids))), (163, (i64 t90))], [(ro 0 3 1 eI s0), ⟨0, 97, 2, [(eRSignatures p0)]⟩, ⟨0, 50, 3, [[(i64 p2.op), (i64 p2.num), (ls eRExpr p2.kids)]]⟩, (ro 0 3 1 eI l91)]⟩) N (0, l87) h1 (Wk.tr rfl) (fun _ hv => by rw [impl_signatures_typeOf_B_L2] at hv; cases hv) ?_)
     rintro n ⟨t90, l91⟩ h1
     try dsimp only at h1 ⊢
     rw [impl_signatures_typeOf_B_L2] at h1
     refine zr tb rfl rfl (AW.seq fun K104 hK104 => ?_)
     refine ci h1 rfl ?_ ?_ <;> clear h1
     ·intro b105 h1
      refine AW.skip (hK104 _ (AW.seq fun K106 hK106 => AW.block (sr rfl fun K107 hK107 => zq tb rfl (bs h1 fun c108 gc108 h1 => zz (.iptr [(i64 c108.op), (i64 c108.num), (ls eRExpr c108.kids)] 0) (aq_ixsE ei48 rfl rfl gc108 (eRExpr_eq _) rfl) rfl (zq tb rfl (ao_alloc (m := 4) (st' := [(ro 0 3 1 eI s0), ⟨0, 97, 2, [(eRSignatures p0)]⟩, ⟨0, 50, 3, [[(i64 p2.op), (i64 p2.num), (ls eRExpr p2.kids)]]⟩, (ro 0 3 1 eI l91), ⟨0, 50, 3, [[(i64 0), (i64 0), .zc]]⟩]) go0 zi50 rfl rfl (zq tb rfl (ao_str (st' := [(ro 0 3 1 eI s0), ⟨0, 97, 2, [(eRSignatures p0)]⟩, ⟨0, 50, 3, [[(i64 p2.op), (i64 p2.num), (ls eRExpr p2.kids)]]⟩, (ro 0 3 1 eI l91), ⟨0, 50, 3, [[(i64 c108.op), (i64 c108.num), (ls eRExpr c108.kids)]]⟩]) go0 ti50 rfl rfl rfl rfl rfl rfl (show 0 + 3 ≤ 3 by decide) rfl (dn hK107 rfl ?_)))))))))
      refine sr rfl fun K109 hK109 => zm tb 5 rfl (bs h1 fun q110 gq110 h1 => ?_)
      refine ao_calls (rowsP := [(ro 0 3 1 eI s0)]) (rows0 := [(ro 0 3 1 eI s0)]) (rows1 := [(ro 0 3 1 eI s0)]) (rows2 := []) (rows1' := [(ro 0 3 1 eI s0)]) (rows2' := []) (st' := [(ro 0 3 1 eI s0), ⟨0, 97, 2, [(eRSignatures p0)]⟩, ⟨0, 50, 3, [[(i64 p2.op), (i64 p2.num), (ls eRExpr p2.kids)]]⟩, (ro 0 3 1 eI l91), ⟨0, 50, 3, [[(i64 c108.op), (i64 c108.num), (ls eRExpr c108.kids)]]⟩]) (v' := (i64 q110)) [0] go0 hb61 (hrec_impl_signatures_typeOf gq110) rfl (by decide) rfl rfl (.pure (pure_map fun _ => rfl) .nil) rfl rfl (.pure (pure_map fun _ => rfl) .nil) .nil rfl rfl ?_
      refine bs h1 fun c111 gc111 h1 => zz (.ptr 3 0 (Int.toNat t90) 0) (aq_ixo ei40 rfl rfl rfl rfl gc111) rfl (ao_stl (st' := [(ro 0 3 1 eI s0), ⟨0, 97, 2, [(eRSignatures p0)]⟩, ⟨0, 50, 3, [[(i64 p2.op), (i64 p2.num), (ls eRExpr p2.kids)]]⟩, (ro 0 3 1 eI (Sh.put l91 t90 q110)), ⟨0, 50, 3, [[(i64 c108.op), (i64 c108.num), (ls eRExpr c108.kids)]]⟩]) (u' := q110) go0 ti3 rfl rfl gc111 rfl rfl rfl (show 0 + 1 ≤ 1 by decide) rfl rfl (dn hK109 rfl (sr rfl fun K112 hK112 => zm tb 2 rfl (bs h1 fun c113 gc113 h1 => ?_))))
      refine zz (.ptr 3 0 (Int.toNat t90) 0) (aq_ixo ei40 rfl rfl rfl (by simp only [Sh.put_len]) gc113) rfl ?_
      refine zz (i64 c113) (aq_ldp ti3 rfl rfl (map_get gc113) rfl) rfl (zq tb rfl (dn hK112 rfl ?_))
      refine ci h1 rfl ?_ ?_ <;> clear h1
      ·intro b114 h1
       refine zr tb rfl rfl ?_
       replace h1 := Sh.some_eq h1
       subst o93
       try dsimp only [id] at h0
       replace h0 := Sh.some_eq h0
       subst r
       exact AW.ret (xr (Wk.permk (L := [(6, (i64 (-1)))]) (st' := [(ro 0 3 1 eI s0)]) (st1 := [(ro 0 3 1 eI s0)]) [0] rfl (.pure (pure_map fun _ => rfl) .nil) (by decide) rfl rfl (.pure (pure_map fun _ => rfl) .nil) ⟨.rfl, trivial⟩))
      ·intro b114 h1
       refine AW.skip (hK106 _ (AW.regionO rfl (zm tb 2 rfl ?_)))
       exact AO.done (xi (Sh.w (t90 + 1), Sh.put l91 t90 q110) h1 (by refine Wk.trans (Wk.permk (L := [(1, (.own 0 0 (List.length s0))), (3, (.ptr 1 0 0 0)), (5, (.ptr 2 0 0 0)), (12, (.own 3 0 (List.length l91))), (161, (.sl (List.map eRExpr p2.kids))), (162, (i64 (Sh.len p2.kids))), (163, (i64 (Sh.w (t90 + 1))))]) (st' := [⟨0, 3, 1, List.map eI s0⟩, ⟨0, 97, 2, [(eRSignatures p0)]⟩, ⟨0, 50, 3, [[(i64 p2.op), (i64 p2.num), (.sl (List.map eRExpr p2.kids))]]⟩, ⟨0, 3, 1, List.map eI (Sh.put l91 t90 q110)⟩]) (st1 := [⟨0, 3, 1, List.map eI s0⟩, ⟨0, 97, 2, [(eRSignatures p0)]⟩, ⟨0, 50, 3, [[(i64 p2.op), (i64 p2.num), (.sl (List.map eRExpr p2.kids))]]⟩, ⟨0, 3, 1, List.map eI (Sh.put l91 t90 q110)⟩]) [0, 1, 2, 3] rfl (.pure (pure_map fun _ => rfl) .nil) (by decide) rfl rfl (.pure (pure_map fun _ => rfl) (.raw rfl rfl (.raw rfl rfl (.pure (pure_map fun _ => rfl) .nil)))) ⟨.rfl, .rfl, .rfl, .rfl, .rfl, .rfl, .rfl, trivial⟩) ?_; exact Wk.to (L := [(1, (.own 0 0 (List.length s0))), (3, (.ptr 1 0 0 0)), (5, (.ptr 2 0 0 0)), (12, (.own 3 0 (List.length (Sh.put l91 t90 q110)))), (161, (.sl (List.map eRExpr p2.kids))), (162, (i64 (Sh.len p2.kids))), (163, (i64 (Sh.w (t90 + 1))))]) ⟨.rfl, .rfl, .rfl, (.len (by simp only [Sh.put_len])), .rfl, .rfl, .rfl, trivial⟩))
     ·intro b105 h1
      exact AW.exit (M93 l91 (Sh.some_eq h1).symm _ (Wk.tr rfl))

theorem impl_signatures_typeOf_F_ok {N : Nat} : ∀ (n : Nat), ∀ {s0 : (List Int)} {p0 : RSignatures} {p2 : RExpr} {r : Int}, impl_signatures_typeOf_F N n s0 p0 p2 = some r → ACalls Try.prog 61 [(.agg (eRSignatures p0)), (ow 0 0 s0), (.agg [(i64 p2.op), (i64 p2.num), (ls eRExpr p2.kids)])] [(ro 0 3 1 eI s0)] (fun v st => v = (i64 r) ∧ st = [(ro 0 3 1 eI s0)]) := by
 intro n
 induction n with
 | zero => intro s0 p0 p2 r h0; cases h0
 | succ n ih =>
  intro s0 p0 p2 r h0
  rw [impl_signatures_typeOf_F] at h0
  exact impl_signatures_typeOf_B_ok (fun h => ih h) h0
theorem impl_signatures_typeOf_ok {N : Nat} : ∀ {s0 : (List Int)} {p0 : RSignatures} {p2 : RExpr} {r : Int}, impl_signatures_typeOf N s0 p0 p2 = some r → ACalls Try.prog 61 [(.agg (eRSignatures p0)), (ow 0 0 s0), (.agg [(i64 p2.op), (i64 p2.num), (ls eRExpr p2.kids)])] [(ro 0 3 1 eI s0)] (fun v st => v = (i64 r) ∧ st = [(ro 0 3 1 eI s0)]) := by
 intro s0 p0 p2 r h0
 exact impl_signatures_typeOf_F_ok N h0
theorem impl_TypeOf_ok {N : Nat} {p0 : RProgram} {p1 : (List Int)} {p2 : RExpr} {r : Int} (h0 : impl_TypeOf N p0 p1 p2 = some r) : ACalls Try.prog 39 [(.agg [(ls eRDecl p0.decls), (ls eRFunc p0.funcs)]), (ls eI p1), (.agg [(i64 p2.op), (i64 p2.num), (ls eRExpr p2.kids)])] [] (fun v st => v = (i64 r) ∧ st = []) := by
 unfold impl_TypeOf at h0
 refine ai Try.func39 rfl rfl rfl rfl (sr rfl fun K1 hK1 => ao_box (m := 0) (st' := [⟨0, 31, 2, [[(ls eRDecl p0.decls), (ls eRFunc p0.funcs)]]⟩]) go0 rfl rfl rfl rfl rfl (ao_box (m := 1) (st' := [⟨0, 31, 2, [[(ls eRDecl p0.decls), (ls eRFunc p0.funcs)]]⟩, ⟨0, 50, 3, [[(i64 p2.op), (i64 p2.num), (ls eRExpr p2.kids)]]⟩]) go0 rfl rfl rfl rfl rfl (zq tb rfl (dn hK1 rfl (AW.seq fun K2 hK2 => AW.seq fun K3 hK3 => bs h0 fun o5 h1 h0 => ?_)))))
 have M5 : ∀ (t4 : Bool), o5 = t4 → ∀ s, Wk 0 s ⟨28, envL [(1, (ls eI p1)), (3, (.ptr 0 0 0 0)), (5, (.ptr 1 0 0 0)), (21, (.bool t4))], [⟨0, 31, 2, [[(ls eRDecl p0.decls), (ls eRFunc p0.funcs)]]⟩, ⟨0, 50, 3, [[(i64 p2.op), (i64 p2.num), (ls eRExpr p2.kids)]]⟩]⟩ → K3 s := by
  intro t4 hq s hw
  subst o5
  try dsimp only at h0
  refine hK3 _ (AW.weaken hw ?_)
  refine ci h0 rfl ?_ ?_ <;> clear h0
  ·intro b6 h0
   refine zr tb rfl rfl ?_
   replace h0 := Sh.some_eq h0
   subst r
   exact AW.ret (xr (Wk.d0 [(6, (i64 (-1)))] rfl))
  ·intro b6 h0
   refine AW.skip (hK2 _ (AW.seq fun K8 hK8 => ?_))
   refine AW.drawX (by kernel_rfl) ?_
   refine bs h0 fun q9 gq9 h0 => bs h0 fun q10 gq10 h0 => bs h0 fun q11 gq11 h0 => AX.one fun A12 hA12 => ?_
   have A12_0123456 : A12 0 #[true, true, true, true, true, true, true] ⟨28, envL [(6, (i64 q11))], [⟨0, 31, 2, [[(ls eRDecl p0.decls), (ls eRFunc p0.funcs)]]⟩, ⟨0, 50, 3, [[(i64 p2.op), (i64 p2.num), (ls eRExpr p2.kids)]]⟩, (ro 0 3 1 eI q10)]⟩ := (hA12 _ _ _).2 (by
    refine AX.done rfl (by kernel_rfl) ?_
    refine hK8 _ ?_
    replace h0 := Sh.some_eq h0
    subst r
    exact AW.ret (Exists.intro _ (And.intro ((Wk.permk (L := [(6, (i64 q11))]) (st' := []) (st1 := []) [] rfl .nil (by decide) rfl rfl .nil ⟨.rfl, trivial⟩).trans (Wk.to (L := [(6, (i64 q11))]) ⟨.rfl, trivial⟩)) (And.intro rfl rfl))))
   have A12_012345 : A12 1 #[true, true, true, true, true, true, false] ⟨28, envL [(27, (i64 q11))], [⟨0, 31, 2, [[(ls eRDecl p0.decls), (ls eRFunc p0.funcs)]]⟩, ⟨0, 50, 3, [[(i64 p2.op), (i64 p2.num), (ls eRExpr p2.kids)]]⟩, (ro 0 3 1 eI q10)]⟩ := (hA12 _ _ _).2 (by
    refine AX.hoist 6 (v := (i64 q11)) rfl rfl (by kernel_rfl) (by kernel_rfl) (by kernel_rfl) rfl (hoist_as rfl) ?_
    refine AX.weaken (Wk.to (L := [(6, (i64 q11))]) ⟨.rfl, trivial⟩) ?_ rfl
    exact AX.lst (by kernel_rfl) ((hA12 _ _ _).1 A12_0123456))
   have A12_01234 : A12 2 #[true, true, true, true, true, false, false] ⟨28, envL [(23, (.agg (eRSignatures q9))), (25, (ow 2 0 q10)), (26, (.agg [(i64 p2.op), (i64 p2.num), (ls eRExpr p2.kids)]))], [⟨0, 31, 2, [[(ls eRDecl p0.decls), (ls eRFunc p0.funcs)]]⟩, ⟨0, 50, 3, [[(i64 p2.op), (i64 p2.num), (ls eRExpr p2.kids)]]⟩, (ro 0 3 1 eI q10)]⟩ := (hA12 _ _ _).2 (by
    refine AX.all [5] rfl (by kernel_rfl) (by decide) ⟨?_, trivial⟩
    ·refine AXs.of (i := 5) rfl rfl (by rfl) ?_
     refine ao_calls (rowsP := [(ro 0 3 1 eI q10)]) (rows0 := [(ro 0 3 1 eI q10)]) (rows1 := [(ro 0 3 1 eI q10)]) (rows2 := []) (rows1' := [(ro 0 3 1 eI q10)]) (rows2' := []) (st' := [⟨0, 31, 2, [[(ls eRDecl p0.decls), (ls eRFunc p0.funcs)]]⟩, ⟨0, 50, 3, [[(i64 p2.op), (i64 p2.num), (ls eRExpr p2.kids)]]⟩, (ro 0 3 1 eI q10)]) (v' := (i64 q11)) [2] go0 hb61 (impl_signatures_typeOf_ok gq11) rfl (by decide) rfl rfl (.pure (pure_map fun _ => rfl) .nil) rfl rfl (.pure (pure_map fun _ => rfl) .nil) .nil rfl rfl ?_
     refine AO.done ⟨rfl, (AX.weaken (Wk.to (L := [(27, (i64 q11))]) ⟨.rfl, trivial⟩) ?_ rfl)⟩
     exact AX.lst (by kernel_rfl) ((hA12 _ _ _).1 A12_012345))
   have A12_0123 : A12 3 #[true, true, true, true, false, false, false] ⟨28, envL [(5, (.ptr 1 0 0 0)), (23, (.agg (eRSignatures q9))), (25, (ow 2 0 q10))], [⟨0, 31, 2, [[(ls eRDecl p0.decls), (ls eRFunc p0.funcs)]]⟩, ⟨0, 50, 3, [[(i64 p2.op), (i64 p2.num), (ls eRExpr p2.kids)]]⟩, (ro 0 3 1 eI q10)]⟩ := (hA12 _ _ _).2 (by
    refine AX.all [4] rfl (by kernel_rfl) (by decide) ⟨?_, trivial⟩
    ·refine AXs.of (i := 4) rfl rfl (by rfl) ?_
     refine zq tb rfl (AO.done ⟨rfl, (AX.weaken (Wk.to (L := [(23, (.agg (eRSignatures q9))), (25, (ow 2 0 q10)), (26, (.agg [(i64 p2.op), (i64 p2.num), (ls eRExpr p2.kids)]))]) ⟨.rfl, .rfl, .rfl, trivial⟩) ?_ rfl)⟩)
     exact AX.lst (by kernel_rfl) ((hA12 _ _ _).1 A12_01234))
   have A12_0124 : A12 3 #[true, true, true, false, true, false, false] ⟨28, envL [(23, (.agg (eRSignatures q9))), (24, (ls eI p1)), (26, (.agg [(i64 p2.op), (i64 p2.num), (ls eRExpr p2.kids)]))], [⟨0, 31, 2, [[(ls eRDecl p0.decls), (ls eRFunc p0.funcs)]]⟩, ⟨0, 50, 3, [[(i64 p2.op), (i64 p2.num), (ls eRExpr p2.kids)]]⟩]⟩ := (hA12 _ _ _).2 (by
    refine AX.all [3] rfl (by kernel_rfl) (by decide) ⟨?_, trivial⟩
    ·refine AXs.of (i := 3) rfl rfl (by rfl) ?_
     refine ao_call (v' := (ow 2 0 q10)) (st' := [⟨0, 31, 2, [[(ls eRDecl p0.decls), (ls eRFunc p0.funcs)]]⟩, ⟨0, 50, 3, [[(i64 p2.op), (i64 p2.num), (ls eRExpr p2.kids)]]⟩, (ro 0 3 1 eI q10)]) go0 hb62 (slices_Clone_int_int_ok gq10) rfl rfl ⟨(pure_map' fun _ => rfl), trivial⟩ rfl rfl (AO.done ⟨rfl, (AX.weaken (Wk.to (L := [(23, (.agg (eRSignatures q9))), (25, (ow 2 0 q10)), (26, (.agg [(i64 p2.op), (i64 p2.num), (ls eRExpr p2.kids)]))]) ⟨.rfl, .rfl, .rfl, trivial⟩) ?_ rfl)⟩)
     exact AX.lst (by kernel_rfl) ((hA12 _ _ _).1 A12_01234))
   have A12_012 : A12 4 #[true, true, true, false, false, false, false] ⟨28, envL [(5, (.ptr 1 0 0 0)), (23, (.agg (eRSignatures q9))), (24, (ls eI p1))], [⟨0, 31, 2, [[(ls eRDecl p0.decls), (ls eRFunc p0.funcs)]]⟩, ⟨0, 50, 3, [[(i64 p2.op), (i64 p2.num), (ls eRExpr p2.kids)]]⟩]⟩ := (hA12 _ _ _).2 (by
    refine AX.all [3, 4] rfl (by kernel_rfl) (by decide) ⟨?_, ?_, trivial⟩
    ·refine AXs.of (i := 3) rfl rfl (by rfl) ?_
     refine ao_call (v' := (ow 2 0 q10)) (st' := [⟨0, 31, 2, [[(ls eRDecl p0.decls), (ls eRFunc p0.funcs)]]⟩, ⟨0, 50, 3, [[(i64 p2.op), (i64 p2.num), (ls eRExpr p2.kids)]]⟩, (ro 0 3 1 eI q10)]) go0 hb62 (slices_Clone_int_int_ok gq10) rfl rfl ⟨(pure_map' fun _ => rfl), trivial⟩ rfl rfl (AO.done ⟨rfl, (AX.weaken (Wk.to (L := [(5, (.ptr 1 0 0 0)), (23, (.agg (eRSignatures q9))), (25, (ow 2 0 q10))]) ⟨.rfl, .rfl, .rfl, trivial⟩) ?_ rfl)⟩)
     exact AX.lst (by kernel_rfl) ((hA12 _ _ _).1 A12_0123)
    ·refine AXs.of (i := 4) rfl rfl (by rfl) ?_
     refine zq tb rfl (AO.done ⟨rfl, (AX.weaken (Wk.to (L := [(23, (.agg (eRSignatures q9))), (24, (ls eI p1)), (26, (.agg [(i64 p2.op), (i64 p2.num), (ls eRExpr p2.kids)]))]) ⟨.rfl, .rfl, .rfl, trivial⟩) ?_ rfl)⟩)
     exact AX.lst (by kernel_rfl) ((hA12 _ _ _).1 A12_0124))
   have A12_024 : A12 4 #[true, false, true, false, true, false, false] ⟨28, envL [(22, (.agg [(ls eRDecl p0.decls), (ls eRFunc p0.funcs)])), (24, (ls eI p1)), (26, (.agg [(i64 p2.op), (i64 p2.num), (ls eRExpr p2.kids)]))], [⟨0, 31, 2, [[(ls eRDecl p0.decls), (ls eRFunc p0.funcs)]]⟩, ⟨0, 50, 3, [[(i64 p2.op), (i64 p2.num), (ls eRExpr p2.kids)]]⟩]⟩ := (hA12 _ _ _).2 (by
    refine AX.all [1] rfl (by kernel_rfl) (by decide) ⟨?_, trivial⟩
    ·refine AXs.of (i := 1) rfl rfl (by rfl) ?_
     refine zc (v' := (.agg (eRSignatures q9))) hb60 (impl_sigsOf_ok gq9) rfl rfl rfl (AO.done ⟨rfl, (AX.weaken (Wk.to (L := [(23, (.agg (eRSignatures q9))), (24, (ls eI p1)), (26, (.agg [(i64 p2.op), (i64 p2.num), (ls eRExpr p2.kids)]))]) ⟨.rfl, .rfl, .rfl, trivial⟩) ?_ rfl)⟩)
     exact AX.lst (by kernel_rfl) ((hA12 _ _ _).1 A12_0124))
   have A12_02 : A12 5 #[true, false, true, false, false, false, false] ⟨28, envL [(5, (.ptr 1 0 0 0)), (22, (.agg [(ls eRDecl p0.decls), (ls eRFunc p0.funcs)])), (24, (ls eI p1))], [⟨0, 31, 2, [[(ls eRDecl p0.decls), (ls eRFunc p0.funcs)]]⟩, ⟨0, 50, 3, [[(i64 p2.op), (i64 p2.num), (ls eRExpr p2.kids)]]⟩]⟩ := (hA12 _ _ _).2 (by
    refine AX.all [1, 4] rfl (by kernel_rfl) (by decide) ⟨?_, ?_, trivial⟩
    ·refine AXs.of (i := 1) rfl rfl (by rfl) ?_
     refine zc (v' := (.agg (eRSignatures q9))) hb60 (impl_sigsOf_ok gq9) rfl rfl rfl (AO.done ⟨rfl, (AX.weaken (Wk.to (L := [(5, (.ptr 1 0 0 0)), (23, (.agg (eRSignatures q9))), (24, (ls eI p1))]) ⟨.rfl, .rfl, .rfl, trivial⟩) ?_ rfl)⟩)
     exact AX.lst (by kernel_rfl) ((hA12 _ _ _).1 A12_012)
    ·refine AXs.of (i := 4) rfl rfl (by rfl) ?_
     refine zq tb rfl (AO.done ⟨rfl, (AX.weaken (Wk.to (L := [(22, (.agg [(ls eRDecl p0.decls), (ls eRFunc p0.funcs)])), (24, (ls eI p1)), (26, (.agg [(i64 p2.op), (i64 p2.num), (ls eRExpr p2.kids)]))]) ⟨.rfl, .rfl, .rfl, trivial⟩) ?_ rfl)⟩)
     exact AX.lst (by kernel_rfl) ((hA12 _ _ _).1 A12_024))
   have A12_24 : A12 5 #[false, false, true, false, true, false, false] ⟨28, envL [(3, (.ptr 0 0 0 0)), (24, (ls eI p1)), (26, (.agg [(i64 p2.op), (i64 p2.num), (ls eRExpr p2.kids)]))], [⟨0, 31, 2, [[(ls eRDecl p0.decls), (ls eRFunc p0.funcs)]]⟩, ⟨0, 50, 3, [[(i64 p2.op), (i64 p2.num), (ls eRExpr p2.kids)]]⟩]⟩ := (hA12 _ _ _).2 (by
    refine AX.all [0] rfl (by kernel_rfl) (by decide) ⟨?_, trivial⟩
    ·refine AXs.of (i := 0) rfl rfl (by rfl) ?_
     refine zq tb rfl (AO.done ⟨rfl, (AX.weaken (Wk.to (L := [(22, (.agg [(ls eRDecl p0.decls), (ls eRFunc p0.funcs)])), (24, (ls eI p1)), (26, (.agg [(i64 p2.op), (i64 p2.num), (ls eRExpr p2.kids)]))]) ⟨.rfl, .rfl, .rfl, trivial⟩) ?_ rfl)⟩)
     exact AX.lst (by kernel_rfl) ((hA12 _ _ _).1 A12_024))
   have A12_2 : A12 6 #[false, false, true, false, false, false, false] ⟨28, envL [(3, (.ptr 0 0 0 0)), (5, (.ptr 1 0 0 0)), (24, (ls eI p1))], [⟨0, 31, 2, [[(ls eRDecl p0.decls), (ls eRFunc p0.funcs)]]⟩, ⟨0, 50, 3, [[(i64 p2.op), (i64 p2.num), (ls eRExpr p2.kids)]]⟩]⟩ := (hA12 _ _ _).2 (by
    refine AX.all [0, 4] rfl (by kernel_rfl) (by decide) ⟨?_, ?_, trivial⟩
    ·refine AXs.of (i := 0) rfl rfl (by rfl) ?_
     refine zq tb rfl (AO.done ⟨rfl, (AX.weaken (Wk.to (L := [(5, (.ptr 1 0 0 0)), (22, (.agg [(ls eRDecl p0.decls), (ls eRFunc p0.funcs)])), (24, (ls eI p1))]) ⟨.rfl, .rfl, .rfl, trivial⟩) ?_ rfl)⟩)
     exact AX.lst (by kernel_rfl) ((hA12 _ _ _).1 A12_02)
    ·refine AXs.of (i := 4) rfl rfl (by rfl) ?_
     refine zq tb rfl (AO.done ⟨rfl, (AX.weaken (Wk.to (L := [(3, (.ptr 0 0 0 0)), (24, (ls eI p1)), (26, (.agg [(i64 p2.op), (i64 p2.num), (ls eRExpr p2.kids)]))]) ⟨.rfl, .rfl, .rfl, trivial⟩) ?_ rfl)⟩)
     exact AX.lst (by kernel_rfl) ((hA12 _ _ _).1 A12_24))
   have A12_e : A12 7 #[false, false, false, false, false, false, false] ⟨28, envL [(1, (ls eI p1)), (3, (.ptr 0 0 0 0)), (5, (.ptr 1 0 0 0))], [⟨0, 31, 2, [[(ls eRDecl p0.decls), (ls eRFunc p0.funcs)]]⟩, ⟨0, 50, 3, [[(i64 p2.op), (i64 p2.num), (ls eRExpr p2.kids)]]⟩]⟩ := (hA12 _ _ _).2 (by
    refine AX.hoist 2 (v := (ls eI p1)) rfl rfl (by kernel_rfl) (by kernel_rfl) (by kernel_rfl) rfl (hoist_mv rfl) ?_
    refine AX.weaken (Wk.to (L := [(3, (.ptr 0 0 0 0)), (5, (.ptr 1 0 0 0)), (24, (ls eI p1))]) ⟨.rfl, .rfl, .rfl, trivial⟩) ?_ rfl
    exact AX.lst (by kernel_rfl) ((hA12 _ _ _).1 A12_2))
   refine (hA12 _ _ _).2 (AX.weaken (Wk.to (L := [(1, (ls eI p1)), (3, (.ptr 0 0 0 0)), (5, (.ptr 1 0 0 0))]) ⟨.rfl, .rfl, .rfl, trivial⟩) ?_ rfl)
   exact AX.lst (by kernel_rfl) ((hA12 _ _ _).1 A12_e)
 refine AW.regionO rfl (zq tb rfl (bs h1 fun q13 gq13 h1 => zc hb38 (impl_ValidSigs_ok gq13) rfl rfl rfl (zm tb 2 rfl ?_)))
 rcases Sh.ite_some h1 with ⟨b14, h1⟩ | ⟨b14, h1⟩
 ·refine zs b14 rfl (zs b14 rfl (zs b14 rfl (zt b14 rfl (zq tb rfl ?_))))
  iterate 5 refine zs rfl rfl ?_
  exact zt rfl rfl (AO.done (M5 true (Sh.some_eq h1).symm _ (Wk.tr rfl)))
 ·refine zg tb b14 rfl (bs h1 fun q15 gq15 h1 => zd b14 hb58 (impl_NodesOf_ok gq15) rfl rfl rfl rfl (zg tb b14 rfl (zf b14 rfl (zq tb rfl ?_))))
  rcases Sh.ite_some h1 with ⟨b16, h1⟩ | ⟨b16, h1⟩
  ·refine zs b16 rfl ?_
   iterate 4 refine zs b16 rfl ?_
   exact zt b16 rfl (AO.done (M5 true (Sh.some_eq h1).symm _ (Wk.tr rfl)))
  ·exact zg tb b16 rfl (zg tb b16 rfl (zg tb b16 rfl (bs h1 fun q17 gq17 h1 => zd b16 hb59 (impl_allTypes_ok gq17) rfl rfl rfl rfl (zg tb b16 rfl (zf b16 rfl (AO.done (M5 (!q17) (Sh.some_eq h1).symm _ (Wk.tr rfl))))))))
theorem impl_ValidProgram_ok {N : Nat} {p0 : RProgram} {r : Bool} (h0 : impl_ValidProgram N p0 = some r) : ACalls Try.prog 18 [(.agg [(ls eRDecl p0.decls), (ls eRFunc p0.funcs)])] [] (fun v st => v = (.bool r) ∧ st = []) := by
 unfold impl_ValidProgram at h0
 refine ai Try.func18 rfl rfl rfl rfl (sr rfl fun K1 hK1 => ao_box (m := 0) (st' := [⟨0, 31, 2, [[(ls eRDecl p0.decls), (ls eRFunc p0.funcs)]]⟩]) go0 rfl rfl rfl rfl rfl (zq tb rfl (dn hK1 rfl (AW.seq fun K2 hK2 => sr rfl fun K3 hK3 => zq tb rfl (bs h0 fun q4 gq4 h0 => zc hb38 (impl_ValidSigs_ok gq4) rfl rfl rfl (zq tb rfl (dn hK3 rfl ?_)))))))
 refine ci h0 rfl ?_ ?_ <;> clear h0
 ·intro b5 h0
  have b6 : q4 = false := by simpa using b5
  refine zr tb rfl rfl ?_
  replace h0 := Sh.some_eq h0
  subst r
  exact AW.ret (xr (Wk.d0 [(2, (.bool false))] rfl))
 ·intro b5 h0
  have b8 : q4 = true := by simpa using b5
  refine AW.skip (hK2 _ (AW.seq fun K9 hK9 => sr rfl fun K10 hK10 => zm tb 2 rfl (zl tb rfl rfl (zq tb rfl (dn hK10 rfl ?_)))))
  obtain ⟨o12, h1, h0⟩ := Sh.cont_some h0
  have M12 : ∀ (_ : Unit), o12 = Sum.inr () → ∀ s, Wk 0 s ⟨25, envL [], []⟩ → K9 s := by
   intro _ hq s hw
   subst o12
   try dsimp only at h0
   refine hK9 _ (AW.weaken hw (zr tb rfl rfl ?_))
   replace h0 := Sh.some_eq h0
   subst r
   exact AW.ret (xr (Wk.to (L := [(2, (.bool true))]) ⟨.rfl, trivial⟩))
  refine AW.block (AW.loopF (σ := Int) (fun n v => impl_ValidProgram_L1 N p0 n v = some o12) (fun t11 => ⟨25, envL [(1, (.ptr 0 0 0 0)), (9, (ls eRFunc p0.funcs)), (10, (i64 (Sh.len p0.funcs))), (11, (i64 t11))], [⟨0, 31, 2, [[(ls eRDecl p0.decls), (ls eRFunc p0.funcs)]]⟩]⟩) N 0 h1 (Wk.tr rfl) (fun _ hv => by rw [impl_ValidProgram_L1] at hv; cases hv) ?_)
  rintro n t11 h1
  try dsimp only at h1 ⊢
  rw [impl_ValidProgram_L1] at h1
  refine zr tb rfl rfl (AW.seq fun K15 hK15 => ?_)
  refine ci h1 rfl ?_ ?_ <;> clear h1
  ·intro b16 h1
   refine AW.skip (hK15 _ (AW.seq fun K17 hK17 => AW.block (sr rfl fun K18 hK18 => bs h1 fun c19 gc19 h1 => zx ei29 gc19 rfl rfl rfl (zq tb rfl (ao_alloc (m := 1) (st' := [⟨0, 31, 2, [[(ls eRDecl p0.decls), (ls eRFunc p0.funcs)]]⟩, ⟨0, 52, 5, [[.zc, (i64 0), (i64 0), (i64 0), .zc]]⟩]) go0 zi52 rfl rfl (ao_str (st' := [⟨0, 31, 2, [[(ls eRDecl p0.decls), (ls eRFunc p0.funcs)]]⟩, ⟨0, 52, 5, [[(ls eI c19.params), (i64 c19.result), (i64 c19.body.op), (i64 c19.body.num), (ls eRExpr c19.body.kids)]]⟩]) go0 ti52 rfl rfl rfl rfl rfl rfl (show 0 + 5 ≤ 5 by decide) rfl (dn hK18 rfl (AW.seq fun K20 hK20 => ?_))))))))
   refine AW.draw (by kernel_rfl) (by kernel_rfl) (by rfl) ?_
   iterate 5 refine yq tb rfl ?_
   refine bs h1 fun q21 gq21 h1 => d_call (v := (i64 q21)) go0 hb39 (impl_TypeOf_ok gq21) rfl rfl rfl ?_
   iterate 3 refine yq tb rfl ?_
   refine d_done (hK20 _ ?_)
   refine ci h1 rfl ?_ ?_ <;> clear h1
   ·intro b22 h1
    have b23 : decide (q21 = c19.result) = false := by simpa using b22
    refine zr tb rfl rfl ?_
    replace h1 := Sh.some_eq h1
    subst o12
    try dsimp only [id] at h0
    replace h0 := Sh.some_eq h0
    subst r
    exact AW.ret (xr (Wk.d0 [(2, (.bool false))] rfl))
   ·intro b22 h1
    have b25 : decide (q21 = c19.result) = true := by simpa using b22
    refine AW.skip (hK17 _ (AW.regionO rfl (zm tb 2 rfl ?_)))
    exact AO.done (xi (Sh.w (t11 + 1)) h1 (Wk.permk (L := [(1, (.ptr 0 0 0 0)), (9, (ls eRFunc p0.funcs)), (10, (i64 (Sh.len p0.funcs))), (11, (i64 (Sh.w (t11 + 1))))]) (st' := [⟨0, 31, 2, [[(ls eRDecl p0.decls), (ls eRFunc p0.funcs)]]⟩]) (st1 := [⟨0, 31, 2, [[(ls eRDecl p0.decls), (ls eRFunc p0.funcs)]]⟩]) [0] rfl .nil (by decide) rfl rfl (.raw rfl rfl .nil) ⟨.rfl, .rfl, .rfl, .rfl, trivial⟩))
  ·intro b16 h1
   exact AW.exit (M12 () (Sh.some_eq h1).symm _ (Wk.d0 _ rfl))
theorem impl_CallSites_1_ok {s0_0 : Int} {s1_0 : Int} {p0 : RExpr} {r : Int} (h0 : impl_CallSites_1 s0_0 s1_0 p0 = some r) : ACalls Try.prog 28 [(.agg [(i64 p0.op), (i64 p0.num), (ls eRExpr p0.kids)]), (.ptr 0 0 0 0), (.ptr 1 0 0 0)] [⟨0, 3, 1, [[(i64 s0_0)]]⟩, ⟨0, 3, 1, [[(i64 s1_0)]]⟩] (fun v st => v = (.tup []) ∧ st = [⟨0, 3, 1, [[(i64 s0_0)]]⟩, ⟨0, 3, 1, [[(i64 r)]]⟩]) := by
 unfold impl_CallSites_1 at h0
 refine ai Try.func28 rfl rfl rfl rfl (sr rfl fun K1 hK1 => ao_box (m := 2) (st' := [⟨0, 3, 1, [[(i64 s0_0)]]⟩, ⟨0, 3, 1, [[(i64 s1_0)]]⟩, ⟨0, 50, 3, [[(i64 p0.op), (i64 p0.num), (ls eRExpr p0.kids)]]⟩]) go0 rfl rfl rfl rfl rfl (dn hK1 rfl (AW.seq fun K2 hK2 => bs h0 fun o4 h1 h0 => ?_)))
 have M4 : ∀ (t3 : Bool), o4 = t3 → ∀ s, Wk 2 s ⟨15, envL [(2, (.ptr 1 0 0 0)), (12, (.bool t3))], [⟨0, 3, 1, [[(i64 s0_0)]]⟩, ⟨0, 3, 1, [[(i64 s1_0)]]⟩]⟩ → K2 s := by
  intro t3 hq s hw
  subst o4
  try dsimp only at h0
  refine hK2 _ (AW.weaken hw ?_)
  refine ci h0 rfl ?_ ?_ <;> clear h0
  ·intro b5 h0
   refine AW.regionO rfl (zm tb 2 rfl (ao_str (st' := [⟨0, 3, 1, [[(i64 s0_0)]]⟩, ⟨0, 3, 1, [[(i64 (Sh.w (s1_0 + 1)))]]⟩]) go0 ti3 rfl rfl rfl rfl rfl rfl (show 0 + 1 ≤ 1 by decide) rfl ?_))
   replace h0 := Sh.some_eq h0
   subst r
   exact AO.done (xr (Wk.to (L := []) trivial))
  ·intro b5 h0
   replace h0 := Sh.some_eq h0
   subst r
   exact AW.skip (xi _ (Wk.to (L := []) trivial) (And.intro rfl rfl))
 refine AW.regionO rfl (zm tb 4 rfl ?_)
 rcases Sh.ite_some h1 with ⟨b6, h1⟩ | ⟨b6, h1⟩
 ·refine zg tb b6 rfl ?_
  iterate 3 refine zg tb b6 rfl ?_
  refine zt b6 rfl ?_
  exact AO.done (M4 (decide (p0.num = s0_0)) (Sh.some_eq h1).symm _ (Wk.permk (L := [(2, (.ptr 1 0 0 0)), (12, (.bool (decide (p0.num = s0_0))))]) (st' := [⟨0, 3, 1, [[(i64 s0_0)]]⟩, ⟨0, 3, 1, [[(i64 s1_0)]]⟩]) (st1 := [⟨0, 3, 1, [[(i64 s0_0)]]⟩, ⟨0, 3, 1, [[(i64 s1_0)]]⟩]) [0, 1] rfl (.raw rfl rfl (.raw rfl rfl .nil)) (by decide) rfl rfl (.raw rfl rfl (.raw rfl rfl .nil)) ⟨.rfl, .rfl, trivial⟩))
 ·refine zs b6 rfl ?_
  iterate 3 refine zs b6 rfl ?_
  refine zf b6 rfl ?_
  exact AO.done (M4 false (Sh.some_eq h1).symm _ (Wk.permk (L := [(2, (.ptr 1 0 0 0)), (12, (.bool false))]) (st' := [⟨0, 3, 1, [[(i64 s0_0)]]⟩, ⟨0, 3, 1, [[(i64 s1_0)]]⟩]) (st1 := [⟨0, 3, 1, [[(i64 s0_0)]]⟩, ⟨0, 3, 1, [[(i64 s1_0)]]⟩]) [0, 1] rfl (.raw rfl rfl (.raw rfl rfl .nil)) (by decide) rfl rfl (.raw rfl rfl (.raw rfl rfl .nil)) ⟨.rfl, .rfl, trivial⟩))
theorem impl_walk_B_ok {N : Nat} {rec_impl_walk : Int → Int → RExpr → Option (Int × Int)} (hrec_impl_walk : ∀ {s0_0 : Int} {s1_0 : Int} {p0 : RExpr} {r : Int × Int}, rec_impl_walk s0_0 s1_0 p0 = some r → ACalls Try.prog 27 [(.agg [(i64 p0.op), (i64 p0.num), (ls eRExpr p0.kids)]), (.fn 28 [(.ptr 0 0 0 0), (.ptr 1 0 0 0)])] [⟨0, 3, 1, [[(i64 s0_0)]]⟩, ⟨0, 3, 1, [[(i64 s1_0)]]⟩] (fun v st => v = (.tup []) ∧ st = [⟨0, 3, 1, [[(i64 r.1)]]⟩, ⟨0, 3, 1, [[(i64 r.2)]]⟩])) {s0_0 : Int} {s1_0 : Int} {p0 : RExpr} {r : Int × Int} (h0 : impl_walk_B N rec_impl_walk s0_0 s1_0 p0 = some r) : ACalls Try.prog 27 [(.agg [(i64 p0.op), (i64 p0.num), (ls eRExpr p0.kids)]), (.fn 28 [(.ptr 0 0 0 0), (.ptr 1 0 0 0)])] [⟨0, 3, 1, [[(i64 s0_0)]]⟩, ⟨0, 3, 1, [[(i64 s1_0)]]⟩] (fun v st => v = (.tup []) ∧ st = [⟨0, 3, 1, [[(i64 r.1)]]⟩, ⟨0, 3, 1, [[(i64 r.2)]]⟩]) := by
 unfold impl_walk_B at h0
 refine ai Try.func27 rfl rfl rfl rfl (sr rfl fun K1 hK1 => ao_box (m := 2) (st' := [⟨0, 3, 1, [[(i64 s0_0)]]⟩, ⟨0, 3, 1, [[(i64 s1_0)]]⟩, ⟨0, 50, 3, [[(i64 p0.op), (i64 p0.num), (ls eRExpr p0.kids)]]⟩]) go0 rfl rfl rfl rfl rfl (dn hK1 rfl (sr rfl fun K2 hK2 => zm tb 2 rfl (bs h0 fun q3 gq3 h0 => ?_))))
 refine ao_callst (rowsP := [⟨0, 3, 1, [[(i64 s0_0)]]⟩, ⟨0, 3, 1, [[(i64 s1_0)]]⟩]) (rows0 := [⟨0, 3, 1, [[(i64 s0_0)]]⟩, ⟨0, 3, 1, [[(i64 s1_0)]]⟩]) (rows1 := [⟨0, 3, 1, [[(i64 s0_0)]]⟩, ⟨0, 3, 1, [[(i64 q3)]]⟩]) (rows2 := []) (rows1' := [⟨0, 3, 1, [[(i64 s0_0)]]⟩, ⟨0, 3, 1, [[(i64 q3)]]⟩]) (rows2' := []) (st' := [⟨0, 3, 1, [[(i64 s0_0)]]⟩, ⟨0, 3, 1, [[(i64 q3)]]⟩, ⟨0, 50, 3, [[(i64 p0.op), (i64 p0.num), (ls eRExpr p0.kids)]]⟩]) (v' := (.tup [])) [0, 1] go0 rfl hb28 (impl_CallSites_1_ok gq3) rfl (by decide) rfl rfl (.raw rfl rfl (.raw rfl rfl .nil)) rfl rfl (.raw rfl rfl (.raw rfl rfl .nil)) .nil rfl rfl ?_
 refine dn hK2 rfl (sr rfl fun K4 hK4 => zm tb 2 rfl (zl tb rfl rfl (zq tb rfl (dn hK4 rfl (AW.fin fun K5 hK5 => bs h0 fun o11 h1 h0 => ?_)))))
 have M11 : ∀ (f9 : Int) (f10 : Int), o11 = (f9, f10) → ∀ s, Wk 2 s ⟨20, envL [], [⟨0, 3, 1, [[(i64 f9)]]⟩, ⟨0, 3, 1, [[(i64 f10)]]⟩]⟩ → K5 s := by
  intro f9 f10 hq s hw
  subst o11
  try dsimp only at h0
  refine hK5 _ ?_
  replace h0 := Sh.some_eq h0
  subst r
  exact Exists.intro _ (And.intro (hw.trans (Wk.to (L := []) trivial)) (And.intro rfl rfl))
 refine AW.block (AW.loopF (σ := Int × Int × Int) (fun n v => impl_walk_B_L1 p0 rec_impl_walk n v.1 v.2.1 v.2.2 = some o11) (fun (t6, f7, f8) => ⟨20, envL [(1, (.fn 28 [(.ptr 0 0 0 0), (.ptr 1 0 0 0)])), (10, (ls eRExpr p0.kids)), (11, (i64 (Sh.len p0.kids))), (12, (i64 t6))], [⟨0, 3, 1, [[(i64 f7)]]⟩, ⟨0, 3, 1, [[(i64 f8)]]⟩]⟩) N (0, s0_0, q3) h1 (Wk.permk (L := [(1, (.fn 28 [(.ptr 0 0 0 0), (.ptr 1 0 0 0)])), (10, (ls eRExpr p0.kids)), (11, (i64 (Sh.len p0.kids))), (12, (i64 0))]) (st' := [⟨0, 3, 1, [[(i64 s0_0)]]⟩, ⟨0, 3, 1, [[(i64 q3)]]⟩]) (st1 := [⟨0, 3, 1, [[(i64 s0_0)]]⟩, ⟨0, 3, 1, [[(i64 q3)]]⟩]) [0, 1] rfl (.raw rfl rfl (.raw rfl rfl .nil)) (by decide) rfl rfl (.raw rfl rfl (.raw rfl rfl .nil)) ⟨.rfl, .rfl, .rfl, .rfl, trivial⟩) (fun _ hv => by rw [impl_walk_B_L1] at hv; cases hv) ?_)
 rintro n ⟨t6, f7, f8⟩ h1
 try dsimp only at h1 ⊢
 rw [impl_walk_B_L1] at h1
 refine zr tb rfl rfl (AW.seq fun K13 hK13 => ?_)
 refine ci h1 rfl ?_ ?_ <;> clear h1
 ·intro b14 h1
  refine AW.skip (hK13 _ (AW.seq fun K15 hK15 => AW.block (sr rfl fun K16 hK16 => bs h1 fun c17 gc17 h1 => zz (.iptr [(i64 c17.op), (i64 c17.num), (ls eRExpr c17.kids)] 0) (aq_ixsE ei48 rfl rfl gc17 (eRExpr_eq _) rfl) rfl (zq tb rfl (ao_alloc (m := 2) (st' := [⟨0, 3, 1, [[(i64 f7)]]⟩, ⟨0, 3, 1, [[(i64 f8)]]⟩, ⟨0, 50, 3, [[(i64 0), (i64 0), .zc]]⟩]) go0 zi50 rfl rfl (ao_str (st' := [⟨0, 3, 1, [[(i64 f7)]]⟩, ⟨0, 3, 1, [[(i64 f8)]]⟩, ⟨0, 50, 3, [[(i64 c17.op), (i64 c17.num), (ls eRExpr c17.kids)]]⟩]) go0 ti50 rfl rfl rfl rfl rfl rfl (show 0 + 3 ≤ 3 by decide) rfl (dn hK16 rfl (AW.regionO rfl (zm tb 2 rfl ?_)))))))))
  refine bs h1 fun q18 gq18 h1 => ?_
  refine ao_calls (rowsP := [⟨0, 3, 1, [[(i64 f7)]]⟩, ⟨0, 3, 1, [[(i64 f8)]]⟩]) (rows0 := [⟨0, 3, 1, [[(i64 f7)]]⟩, ⟨0, 3, 1, [[(i64 f8)]]⟩]) (rows1 := [⟨0, 3, 1, [[(i64 q18.1)]]⟩, ⟨0, 3, 1, [[(i64 q18.2)]]⟩]) (rows2 := []) (rows1' := [⟨0, 3, 1, [[(i64 q18.1)]]⟩, ⟨0, 3, 1, [[(i64 q18.2)]]⟩]) (rows2' := []) (st' := [⟨0, 3, 1, [[(i64 q18.1)]]⟩, ⟨0, 3, 1, [[(i64 q18.2)]]⟩, ⟨0, 50, 3, [[(i64 c17.op), (i64 c17.num), (ls eRExpr c17.kids)]]⟩]) (v' := (.tup [])) [0, 1] go0 hb27 (hrec_impl_walk gq18) rfl (by decide) rfl rfl (.raw rfl rfl (.raw rfl rfl .nil)) rfl rfl (.raw rfl rfl (.raw rfl rfl .nil)) .nil rfl rfl ?_
  refine dn hK15 rfl (AW.regionO rfl (zm tb 2 rfl ?_))
  exact AO.done (xi (Sh.w (t6 + 1), q18.1, q18.2) h1 (Wk.permk (L := [(1, (.fn 28 [(.ptr 0 0 0 0), (.ptr 1 0 0 0)])), (10, (ls eRExpr p0.kids)), (11, (i64 (Sh.len p0.kids))), (12, (i64 (Sh.w (t6 + 1))))]) (st' := [⟨0, 3, 1, [[(i64 q18.1)]]⟩, ⟨0, 3, 1, [[(i64 q18.2)]]⟩]) (st1 := [⟨0, 3, 1, [[(i64 q18.1)]]⟩, ⟨0, 3, 1, [[(i64 q18.2)]]⟩]) [0, 1] rfl (.raw rfl rfl (.raw rfl rfl .nil)) (by decide) rfl rfl (.raw rfl rfl (.raw rfl rfl .nil)) ⟨.rfl, .rfl, .rfl, .rfl, trivial⟩))
 ·intro b14 h1
  exact AW.exit (M11 f7 f8 (Sh.some_eq h1).symm _ (Wk.tr rfl))

theorem impl_walk_F_ok {N : Nat} : ∀ (n : Nat), ∀ {s0_0 : Int} {s1_0 : Int} {p0 : RExpr} {r : Int × Int}, impl_walk_F N n s0_0 s1_0 p0 = some r → ACalls Try.prog 27 [(.agg [(i64 p0.op), (i64 p0.num), (ls eRExpr p0.kids)]), (.fn 28 [(.ptr 0 0 0 0), (.ptr 1 0 0 0)])] [⟨0, 3, 1, [[(i64 s0_0)]]⟩, ⟨0, 3, 1, [[(i64 s1_0)]]⟩] (fun v st => v = (.tup []) ∧ st = [⟨0, 3, 1, [[(i64 r.1)]]⟩, ⟨0, 3, 1, [[(i64 r.2)]]⟩]) := by
 intro n
 induction n with
 | zero => intro s0_0 s1_0 p0 r h0; cases h0
 | succ n ih =>
  intro s0_0 s1_0 p0 r h0
  rw [impl_walk_F] at h0
  exact impl_walk_B_ok (fun h => ih h) h0
theorem impl_walk_ok {N : Nat} : ∀ {s0_0 : Int} {s1_0 : Int} {p0 : RExpr} {r : Int × Int}, impl_walk N s0_0 s1_0 p0 = some r → ACalls Try.prog 27 [(.agg [(i64 p0.op), (i64 p0.num), (ls eRExpr p0.kids)]), (.fn 28 [(.ptr 0 0 0 0), (.ptr 1 0 0 0)])] [⟨0, 3, 1, [[(i64 s0_0)]]⟩, ⟨0, 3, 1, [[(i64 s1_0)]]⟩] (fun v st => v = (.tup []) ∧ st = [⟨0, 3, 1, [[(i64 r.1)]]⟩, ⟨0, 3, 1, [[(i64 r.2)]]⟩]) := by
 intro s0_0 s1_0 p0 r h0
 exact impl_walk_F_ok N h0
theorem impl_CallSites_ok {N : Nat} {p0 : RProgram} {p1 : Int} {r : Int} (h0 : impl_CallSites N p0 p1 = some r) : ACalls Try.prog 10 [(.agg [(ls eRDecl p0.decls), (ls eRFunc p0.funcs)]), (i64 p1)] [] (fun v st => v = (i64 r) ∧ st = []) := by
 unfold impl_CallSites at h0
 refine ai Try.func10 rfl rfl rfl rfl (sr rfl fun K1 hK1 => ao_box (m := 0) (st' := [⟨0, 31, 2, [[(ls eRDecl p0.decls), (ls eRFunc p0.funcs)]]⟩]) go0 rfl rfl rfl rfl rfl (ao_box (m := 1) (st' := [⟨0, 31, 2, [[(ls eRDecl p0.decls), (ls eRFunc p0.funcs)]]⟩, ⟨0, 3, 1, [[(i64 p1)]]⟩]) go0 rfl rfl rfl rfl rfl (zq tb rfl (dn hK1 rfl (AW.seq fun K2 hK2 => AW.seq fun K3 hK3 => bs h0 fun o5 h1 h0 => ?_)))))
 have M5 : ∀ (t4 : Bool), o5 = t4 → ∀ s, Wk 0 s ⟨35, envL [(2, (.ptr 0 0 0 0)), (3, (.ptr 1 0 0 0)), (21, (.bool t4))], [⟨0, 31, 2, [[(ls eRDecl p0.decls), (ls eRFunc p0.funcs)]]⟩, ⟨0, 3, 1, [[(i64 p1)]]⟩]⟩ → K3 s := by
  intro t4 hq s hw
  subst o5
  try dsimp only at h0
  refine hK3 _ (AW.weaken hw ?_)
  refine ci h0 rfl ?_ ?_ <;> clear h0
  ·intro b6 h0
   refine zr tb rfl rfl ?_
   replace h0 := Sh.some_eq h0
   subst r
   exact AW.ret (xr (Wk.d0 [(4, (i64 (-1)))] rfl))
  ·intro b6 h0
   refine AW.skip (hK2 _ (sr rfl fun K8 hK8 => ao_alloc (m := 2) (st' := [⟨0, 31, 2, [[(ls eRDecl p0.decls), (ls eRFunc p0.funcs)]]⟩, ⟨0, 3, 1, [[(i64 p1)]]⟩, ⟨0, 3, 1, [[(i64 0)]]⟩]) go0 zi3 rfl rfl (ao_str (st' := [⟨0, 31, 2, [[(ls eRDecl p0.decls), (ls eRFunc p0.funcs)]]⟩, ⟨0, 3, 1, [[(i64 p1)]]⟩, ⟨0, 3, 1, [[(i64 0)]]⟩]) go0 ti3 rfl rfl rfl rfl rfl rfl (show 0 + 1 ≤ 1 by decide) rfl (dn hK8 rfl (AW.seq fun K9 hK9 => sr rfl fun K10 hK10 => zm tb 2 rfl (zl tb rfl rfl (zq tb rfl (dn hK10 rfl (bs h0 fun o15 h1 h0 => ?_)))))))))
   have M15 : ∀ (f14 : Int), o15 = f14 → ∀ s, Wk 0 s ⟨35, envL [(5, (.ptr 0 0 0 0))], [⟨0, 3, 1, [[(i64 f14)]]⟩]⟩ → K9 s := by
    intro f14 hq s hw
    subst o15
    try dsimp only at h0
    refine hK9 _ (AW.weaken hw (zr tb rfl rfl ?_))
    replace h0 := Sh.some_eq h0
    subst r
    exact AW.ret (xr (Wk.d0 [(4, (i64 f14))] rfl))
   refine AW.block (AW.loopF (σ := Int × Int × Int) (fun n v => impl_CallSites_L1 N p0 n v.1 v.2.1 v.2.2 = some o15) (fun (t11, f12, f13) => ⟨35, envL [(3, (.ptr 0 0 0 0)), (5, (.ptr 1 0 0 0)), (23, (ls eRFunc p0.funcs)), (24, (i64 (Sh.len p0.funcs))), (25, (i64 t11))], [⟨0, 3, 1, [[(i64 f12)]]⟩, ⟨0, 3, 1, [[(i64 f13)]]⟩]⟩) N (0, p1, 0) h1 (Wk.permk (L := [(3, (.ptr 0 0 0 0)), (5, (.ptr 1 0 0 0)), (23, (ls eRFunc p0.funcs)), (24, (i64 (Sh.len p0.funcs))), (25, (i64 0))]) (st' := [⟨0, 3, 1, [[(i64 p1)]]⟩, ⟨0, 3, 1, [[(i64 0)]]⟩]) (st1 := [⟨0, 3, 1, [[(i64 p1)]]⟩, ⟨0, 3, 1, [[(i64 0)]]⟩]) [1, 2] rfl .nil (by decide) rfl rfl (.raw rfl rfl (.raw rfl rfl .nil)) ⟨.rfl, .rfl, .rfl, .rfl, .rfl, trivial⟩) (fun _ hv => by rw [impl_CallSites_L1] at hv; cases hv) ?_)
   rintro n ⟨t11, f12, f13⟩ h1
   try dsimp only at h1 ⊢
   rw [impl_CallSites_L1] at h1
   refine zr tb rfl rfl (AW.seq fun K18 hK18 => ?_)
   refine ci h1 rfl ?_ ?_ <;> clear h1
   ·intro b19 h1
    refine AW.skip (hK18 _ (AW.seq fun K20 hK20 => AW.block (sr rfl fun K21 hK21 => bs h1 fun c22 gc22 h1 => zx ei29 gc22 rfl rfl rfl (zq tb rfl (ao_alloc (m := 2) (st' := [⟨0, 3, 1, [[(i64 f12)]]⟩, ⟨0, 3, 1, [[(i64 f13)]]⟩, ⟨0, 52, 5, [[.zc, (i64 0), (i64 0), (i64 0), .zc]]⟩]) go0 zi52 rfl rfl (ao_str (st' := [⟨0, 3, 1, [[(i64 f12)]]⟩, ⟨0, 3, 1, [[(i64 f13)]]⟩, ⟨0, 52, 5, [[(ls eI c22.params), (i64 c22.result), (i64 c22.body.op), (i64 c22.body.num), (ls eRExpr c22.body.kids)]]⟩]) go0 ti52 rfl rfl rfl rfl rfl rfl (show 0 + 5 ≤ 5 by decide) rfl (dn hK21 rfl (AW.regionO rfl (zm tb 2 rfl ?_)))))))))
    refine zz (.fn 28 [(.ptr 0 0 0 0), (.ptr 1 0 0 0)]) (aq_fn rfl) rfl (bs h1 fun q23 gq23 h1 => ?_)
    refine ao_calls (rowsP := [⟨0, 3, 1, [[(i64 f12)]]⟩, ⟨0, 3, 1, [[(i64 f13)]]⟩]) (rows0 := [⟨0, 3, 1, [[(i64 f12)]]⟩, ⟨0, 3, 1, [[(i64 f13)]]⟩]) (rows1 := [⟨0, 3, 1, [[(i64 q23.1)]]⟩, ⟨0, 3, 1, [[(i64 q23.2)]]⟩]) (rows2 := []) (rows1' := [⟨0, 3, 1, [[(i64 q23.1)]]⟩, ⟨0, 3, 1, [[(i64 q23.2)]]⟩]) (rows2' := []) (st' := [⟨0, 3, 1, [[(i64 q23.1)]]⟩, ⟨0, 3, 1, [[(i64 q23.2)]]⟩, ⟨0, 52, 5, [[(ls eI c22.params), (i64 c22.result), (i64 c22.body.op), (i64 c22.body.num), (ls eRExpr c22.body.kids)]]⟩]) (v' := (.tup [])) [0, 1] go0 hb27 (impl_walk_ok gq23) rfl (by decide) rfl rfl (.raw rfl rfl (.raw rfl rfl .nil)) rfl rfl (.raw rfl rfl (.raw rfl rfl .nil)) .nil rfl rfl ?_
    refine dn hK20 rfl (AW.regionO rfl (zm tb 2 rfl ?_))
    exact AO.done (xi (Sh.w (t11 + 1), q23.1, q23.2) h1 (Wk.permk (L := [(3, (.ptr 0 0 0 0)), (5, (.ptr 1 0 0 0)), (23, (ls eRFunc p0.funcs)), (24, (i64 (Sh.len p0.funcs))), (25, (i64 (Sh.w (t11 + 1))))]) (st' := [⟨0, 3, 1, [[(i64 q23.1)]]⟩, ⟨0, 3, 1, [[(i64 q23.2)]]⟩]) (st1 := [⟨0, 3, 1, [[(i64 q23.1)]]⟩, ⟨0, 3, 1, [[(i64 q23.2)]]⟩]) [0, 1] rfl .nil (by decide) rfl rfl (.raw rfl rfl (.raw rfl rfl .nil)) ⟨.rfl, .rfl, .rfl, .rfl, .rfl, trivial⟩))
   ·intro b19 h1
    exact AW.exit (M15 f13 (Sh.some_eq h1).symm _ (Wk.permk (L := [(5, (.ptr 0 0 0 0))]) (st' := [⟨0, 3, 1, [[(i64 f13)]]⟩]) (st1 := [⟨0, 3, 1, [[(i64 f13)]]⟩]) [1] rfl .nil (by decide) rfl rfl (.raw rfl rfl .nil) ⟨.rfl, trivial⟩))
 refine AW.regionO rfl (zq tb rfl (bs h1 fun q24 gq24 h1 => zc hb18 (impl_ValidProgram_ok gq24) rfl rfl rfl (zm tb 2 rfl ?_)))
 rcases Sh.ite_some h1 with ⟨b25, h1⟩ | ⟨b25, h1⟩
 ·refine zs b25 rfl (zs b25 rfl (zt b25 rfl (zq tb rfl ?_)))
  iterate 5 refine zs rfl rfl ?_
  exact zt rfl rfl (AO.done (M5 true (Sh.some_eq h1).symm _ (Wk.tr rfl)))
 ·refine zg tb b25 rfl (zg tb b25 rfl (zf b25 rfl (zq tb rfl ?_)))
  rcases Sh.ite_some h1 with ⟨b26, h1⟩ | ⟨b26, h1⟩
  ·refine zs b26 rfl ?_
   iterate 4 refine zs b26 rfl ?_
   exact zt b26 rfl (AO.done (M5 true (Sh.some_eq h1).symm _ (Wk.tr rfl)))
  ·exact zg tb b26 rfl (zg tb b26 rfl (zg tb b26 rfl (ao_q (v := (i64 (Sh.len p0.funcs))) (go1 rfl rfl b26) rfl (aq_lens sl29 rfl) (zg tb b26 rfl (zf b26 rfl (AO.done (M5 (decide ((Sh.len p0.funcs) ≤ p1)) (Sh.some_eq h1).symm _ (Wk.tr rfl))))))))
theorem laws_eqIntS_ok {N : Nat} {p0 : (List Int)} {p1 : (List Int)} {r : Bool} (h0 : laws_eqIntS N p0 p1 = some r) : ACalls Try.prog 81 [(ls eI p0), (ls eI p1)] [] (fun v st => v = (.bool r) ∧ st = []) := by
 unfold laws_eqIntS at h0
 refine ai Try.func81 rfl rfl rfl rfl (zr tb rfl rfl (AW.seq fun K2 hK2 => sr rfl fun K3 hK3 => zq tb rfl (zl tb rfl rfl (zq tb rfl (zl tb rfl rfl (zq tb rfl (dn hK3 rfl ?_)))))))
 refine ci h0 rfl ?_ ?_ <;> clear h0
 ·intro b4 h0
  have b5 : decide ((Sh.len p0) = (Sh.len p1)) = false := by simpa using b4
  refine zr tb rfl rfl ?_
  replace h0 := Sh.some_eq h0
  subst r
  exact AW.ret (xr (Wk.to (L := [(4, (.bool false))]) ⟨.rfl, trivial⟩))
 ·intro b4 h0
  have b7 : decide ((Sh.len p0) = (Sh.len p1)) = true := by simpa using b4
  refine AW.skip (hK2 _ (AW.seq fun K8 hK8 => zr tb rfl rfl ?_))
  obtain ⟨o11, h1, h0⟩ := Sh.cont_some h0
  have M11 : ∀ (_ : Unit), o11 = Sum.inr () → ∀ s, Wk 0 s ⟨26, envL [], []⟩ → K8 s := by
   intro _ hq s hw
   subst o11
   try dsimp only at h0
   refine hK8 _ (AW.weaken hw (zr tb rfl rfl ?_))
   replace h0 := Sh.some_eq h0
   subst r
   exact AW.ret (xr (Wk.to (L := [(4, (.bool true))]) ⟨.rfl, trivial⟩))
  refine AW.block (AW.loopF (σ := Int) (fun n v => laws_eqIntS_L1 p0 p1 n v = some o11) (fun i10 => ⟨26, envL [(0, (ls eI p0)), (1, (ls eI p1)), (5, (i64 i10))], []⟩) N 0 h1 (Wk.tr rfl) (fun _ hv => by rw [laws_eqIntS_L1] at hv; cases hv) ?_)
  rintro n i10 h1
  try dsimp only at h1 ⊢
  rw [laws_eqIntS_L1] at h1
  refine AW.seq fun K13 hK13 => sr rfl fun K14 hK14 => zm tb 2 rfl (zl tb rfl rfl (zq tb rfl (dn hK14 rfl ?_)))
  refine ci h1 rfl ?_ ?_ <;> clear h1
  ·intro b15 h1
   refine AW.skip (hK13 _ (AW.seq fun K16 hK16 => AW.block (AW.seq fun K17 hK17 => ?_)))
   refine AW.draw (by kernel_rfl) (by kernel_rfl) (by rfl) ?_
   iterate 2 refine yq tb rfl ?_
   refine bs h1 fun c18 gc18 h1 => yx ei40 gc18 rfl rfl rfl ?_
   iterate 3 refine yq tb rfl ?_
   refine bs h1 fun c19 gc19 h1 => yx ei40 gc19 rfl rfl rfl ?_
   iterate 2 refine yq tb rfl ?_
   refine d_done (hK17 _ ?_)
   refine ci h1 rfl ?_ ?_ <;> clear h1
   ·intro b20 h1
    have b21 : decide (c18 = c19) = false := by simpa using b20
    refine zr tb rfl rfl ?_
    replace h1 := Sh.some_eq h1
    subst o11
    try dsimp only [id] at h0
    replace h0 := Sh.some_eq h0
    subst r
    exact AW.ret (xr (Wk.to (L := [(4, (.bool false))]) ⟨.rfl, trivial⟩))
   ·intro b20 h1
    have b23 : decide (c18 = c19) = true := by simpa using b20
    exact AW.skip (hK16 _ (AW.regionO rfl (zm tb 3 rfl (AO.done (xi (Sh.w (i10 + 1)) h1 (Wk.tr rfl))))))
  ·intro b15 h1
   exact AW.exit (M11 () (Sh.some_eq h1).symm _ (Wk.tr rfl))
theorem laws_eqCon_ok {N : Nat} {p0 : RCon} {p1 : RCon} {r : Bool} (h0 : laws_eqCon N p0 p1 = some r) : ACalls Try.prog 105 [(.agg (eRCon p0)), (.agg (eRCon p1))] [] (fun v st => v = (.bool r) ∧ st = []) := by
 unfold laws_eqCon at h0
 refine ai Try.func105 rfl rfl rfl rfl (sr rfl fun K1 hK1 => ao_box (m := 0) (st' := [⟨0, 130, 1, [(eRCon p0)]⟩]) go0 rfl rfl rfl rfl rfl (ao_box (m := 1) (st' := [⟨0, 130, 1, [(eRCon p0)]⟩, ⟨0, 130, 1, [(eRCon p1)]⟩]) go0 rfl rfl rfl rfl rfl (zq tb rfl (dn hK1 rfl (AW.seq fun K2 hK2 => sr rfl fun K3 hK3 => zm tb 4 rfl (bs h0 fun q4 gq4 h0 => zc hb81 (laws_eqIntS_ok gq4) rfl rfl rfl (zq tb rfl ?_)))))))
 refine dn hK3 rfl ?_
 refine ci h0 rfl ?_ ?_ <;> clear h0
 ·intro b5 h0
  have b6 : q4 = false := by simpa using b5
  refine zr tb rfl rfl ?_
  replace h0 := Sh.some_eq h0
  subst r
  exact AW.ret (xr (Wk.d0 [(4, (.bool false))] rfl))
 ·intro b5 h0
  have b8 : q4 = true := by simpa using b5
  refine AW.skip (hK2 _ (zr tb rfl rfl ?_))
  replace h0 := Sh.some_eq h0
  subst r
  exact AW.ret (xr (Wk.d0 [(4, (.bool true))] rfl))
theorem laws_eqConS_ok {N : Nat} {p0 : (List RCon)} {p1 : (List RCon)} {r : Bool} (h0 : laws_eqConS N p0 p1 = some r) : ACalls Try.prog 80 [(ls eRCon p0), (ls eRCon p1)] [] (fun v st => v = (.bool r) ∧ st = []) := by
 unfold laws_eqConS at h0
 refine ai Try.func80 rfl rfl rfl rfl (zr tb rfl rfl (AW.seq fun K2 hK2 => sr rfl fun K3 hK3 => zq tb rfl (zl tb rfl rfl (zq tb rfl (zl tb rfl rfl (zq tb rfl (dn hK3 rfl ?_)))))))
 refine ci h0 rfl ?_ ?_ <;> clear h0
 ·intro b4 h0
  have b5 : decide ((Sh.len p0) = (Sh.len p1)) = false := by simpa using b4
  refine zr tb rfl rfl ?_
  replace h0 := Sh.some_eq h0
  subst r
  exact AW.ret (xr (Wk.to (L := [(4, (.bool false))]) ⟨.rfl, trivial⟩))
 ·intro b4 h0
  have b7 : decide ((Sh.len p0) = (Sh.len p1)) = true := by simpa using b4
  refine AW.skip (hK2 _ (AW.seq fun K8 hK8 => zr tb rfl rfl ?_))
  obtain ⟨o11, h1, h0⟩ := Sh.cont_some h0
  have M11 : ∀ (_ : Unit), o11 = Sum.inr () → ∀ s, Wk 0 s ⟨27, envL [], []⟩ → K8 s := by
   intro _ hq s hw
   subst o11
   try dsimp only at h0
   refine hK8 _ (AW.weaken hw (zr tb rfl rfl ?_))
   replace h0 := Sh.some_eq h0
   subst r
   exact AW.ret (xr (Wk.to (L := [(4, (.bool true))]) ⟨.rfl, trivial⟩))
  refine AW.block (AW.loopF (σ := Int) (fun n v => laws_eqConS_L1 N p0 p1 n v = some o11) (fun i10 => ⟨27, envL [(0, (ls eRCon p0)), (1, (ls eRCon p1)), (5, (i64 i10))], []⟩) N 0 h1 (Wk.tr rfl) (fun _ hv => by rw [laws_eqConS_L1] at hv; cases hv) ?_)
  rintro n i10 h1
  try dsimp only at h1 ⊢
  rw [laws_eqConS_L1] at h1
  refine AW.seq fun K13 hK13 => sr rfl fun K14 hK14 => zm tb 2 rfl (zl tb rfl rfl (zq tb rfl (dn hK14 rfl ?_)))
  refine ci h1 rfl ?_ ?_ <;> clear h1
  ·intro b15 h1
   refine AW.skip (hK13 _ (AW.seq fun K16 hK16 => AW.block (AW.seq fun K17 hK17 => ?_)))
   refine AW.draw (by kernel_rfl) (by kernel_rfl) (by rfl) ?_
   iterate 2 refine yq tb rfl ?_
   refine bs h1 fun c18 gc18 h1 => yx ei78 gc18 rfl rfl rfl ?_
   iterate 3 refine yq tb rfl ?_
   refine bs h1 fun c19 gc19 h1 => yx ei78 gc19 rfl rfl rfl (yq tb rfl (bs h1 fun q20 gq20 h1 => d_call (v := (.bool q20)) go0 hb105 (laws_eqCon_ok gq20) rfl rfl rfl (yq tb rfl (d_done (hK17 _ ?_)))))
   refine ci h1 rfl ?_ ?_ <;> clear h1
   ·intro b21 h1
    have b22 : q20 = false := by simpa using b21
    refine zr tb rfl rfl ?_
    replace h1 := Sh.some_eq h1
    subst o11
    try dsimp only [id] at h0
    replace h0 := Sh.some_eq h0
    subst r
    exact AW.ret (xr (Wk.to (L := [(4, (.bool false))]) ⟨.rfl, trivial⟩))
   ·intro b21 h1
    have b24 : q20 = true := by simpa using b21
    exact AW.skip (hK16 _ (AW.regionO rfl (zm tb 3 rfl (AO.done (xi (Sh.w (i10 + 1)) h1 (Wk.tr rfl))))))
  ·intro b15 h1
   exact AW.exit (M11 () (Sh.some_eq h1).symm _ (Wk.tr rfl))
theorem laws_eqDecl_ok {N : Nat} {p0 : RDecl} {p1 : RDecl} {r : Bool} (h0 : laws_eqDecl N p0 p1 = some r) : ACalls Try.prog 47 [(.agg (eRDecl p0)), (.agg (eRDecl p1))] [] (fun v st => v = (.bool r) ∧ st = []) := by
 unfold laws_eqDecl at h0
 refine ai Try.func47 rfl rfl rfl rfl (sr rfl fun K1 hK1 => ao_box (m := 0) (st' := [⟨0, 80, 3, [(eRDecl p0)]⟩]) go0 rfl rfl rfl rfl rfl (ao_box (m := 1) (st' := [⟨0, 80, 3, [(eRDecl p0)]⟩, ⟨0, 80, 3, [(eRDecl p1)]⟩]) go0 rfl rfl rfl rfl rfl (zq tb rfl (dn hK1 rfl (AW.seq fun K2 hK2 => zr tb rfl rfl ?_)))))
 refine ci h0 rfl ?_ ?_ <;> clear h0
 ·intro b4 h0
  have b5 : decide (p0.from_ = p1.from_) = false := by simpa using b4
  refine zr tb rfl rfl ?_
  replace h0 := Sh.some_eq h0
  subst r
  exact AW.ret (xr (Wk.d0 [(4, (.bool false))] rfl))
 ·intro b4 h0
  have b7 : decide (p0.from_ = p1.from_) = true := by simpa using b4
  refine AW.skip (hK2 _ (AW.seq fun K8 hK8 => zr tb rfl rfl ?_))
  refine ci h0 rfl ?_ ?_ <;> clear h0
  ·intro b10 h0
   have b11 : decide (p0.to = p1.to) = false := by simpa using b10
   refine zr tb rfl rfl ?_
   replace h0 := Sh.some_eq h0
   subst r
   exact AW.ret (xr (Wk.d0 [(4, (.bool false))] rfl))
  ·intro b10 h0
   have b13 : decide (p0.to = p1.to) = true := by simpa using b10
   refine AW.skip (hK8 _ (AW.seq fun K14 hK14 => sr rfl fun K15 hK15 => zm tb 4 rfl (bs h0 fun q16 gq16 h0 => zc hb80 (laws_eqConS_ok gq16) rfl rfl rfl (zq tb rfl (dn hK15 rfl ?_)))))
   refine ci h0 rfl ?_ ?_ <;> clear h0
   ·intro b17 h0
    have b18 : q16 = false := by simpa using b17
    refine zr tb rfl rfl ?_
    replace h0 := Sh.some_eq h0
    subst r
    exact AW.ret (xr (Wk.d0 [(4, (.bool false))] rfl))
   ·intro b17 h0
    have b20 : q16 = true := by simpa using b17
    refine AW.skip (hK14 _ (zr tb rfl rfl ?_))
    replace h0 := Sh.some_eq h0
    subst r
    exact AW.ret (xr (Wk.d0 [(4, (.bool true))] rfl))
theorem laws_eqDeclS_ok {N : Nat} {p0 : (List RDecl)} {p1 : (List RDecl)} {r : Bool} (h0 : laws_eqDeclS N p0 p1 = some r) : ACalls Try.prog 29 [(ls eRDecl p0), (ls eRDecl p1)] [] (fun v st => v = (.bool r) ∧ st = []) := by
 unfold laws_eqDeclS at h0
 refine ai Try.func29 rfl rfl rfl rfl (zr tb rfl rfl (AW.seq fun K2 hK2 => sr rfl fun K3 hK3 => zq tb rfl (zl tb rfl rfl (zq tb rfl (zl tb rfl rfl (zq tb rfl (dn hK3 rfl ?_)))))))
 refine ci h0 rfl ?_ ?_ <;> clear h0
 ·intro b4 h0
  have b5 : decide ((Sh.len p0) = (Sh.len p1)) = false := by simpa using b4
  refine zr tb rfl rfl ?_
  replace h0 := Sh.some_eq h0
  subst r
  exact AW.ret (xr (Wk.to (L := [(4, (.bool false))]) ⟨.rfl, trivial⟩))
 ·intro b4 h0
  have b7 : decide ((Sh.len p0) = (Sh.len p1)) = true := by simpa using b4
  refine AW.skip (hK2 _ (AW.seq fun K8 hK8 => zr tb rfl rfl ?_))
  obtain ⟨o11, h1, h0⟩ := Sh.cont_some h0
  have M11 : ∀ (_ : Unit), o11 = Sum.inr () → ∀ s, Wk 0 s ⟨27, envL [], []⟩ → K8 s := by
   intro _ hq s hw
   subst o11
   try dsimp only at h0
   refine hK8 _ (AW.weaken hw (zr tb rfl rfl ?_))
   replace h0 := Sh.some_eq h0
   subst r
   exact AW.ret (xr (Wk.to (L := [(4, (.bool true))]) ⟨.rfl, trivial⟩))
  refine AW.block (AW.loopF (σ := Int) (fun n v => laws_eqDeclS_L1 N p0 p1 n v = some o11) (fun i10 => ⟨27, envL [(0, (ls eRDecl p0)), (1, (ls eRDecl p1)), (5, (i64 i10))], []⟩) N 0 h1 (Wk.tr rfl) (fun _ hv => by rw [laws_eqDeclS_L1] at hv; cases hv) ?_)
  rintro n i10 h1
  try dsimp only at h1 ⊢
  rw [laws_eqDeclS_L1] at h1
  refine AW.seq fun K13 hK13 => sr rfl fun K14 hK14 => zm tb 2 rfl (zl tb rfl rfl (zq tb rfl (dn hK14 rfl ?_)))
  refine ci h1 rfl ?_ ?_ <;> clear h1
  ·intro b15 h1
   refine AW.skip (hK13 _ (AW.seq fun K16 hK16 => AW.block (AW.seq fun K17 hK17 => ?_)))
   refine AW.draw (by kernel_rfl) (by kernel_rfl) (by rfl) ?_
   iterate 2 refine yq tb rfl ?_
   refine bs h1 fun c18 gc18 h1 => yx ei28 gc18 rfl rfl rfl ?_
   iterate 3 refine yq tb rfl ?_
   refine bs h1 fun c19 gc19 h1 => yx ei28 gc19 rfl rfl rfl (yq tb rfl (bs h1 fun q20 gq20 h1 => d_call (v := (.bool q20)) go0 hb47 (laws_eqDecl_ok gq20) rfl rfl rfl (yq tb rfl (d_done (hK17 _ ?_)))))
   refine ci h1 rfl ?_ ?_ <;> clear h1
   ·intro b21 h1
    have b22 : q20 = false := by simpa using b21
    refine zr tb rfl rfl ?_
    replace h1 := Sh.some_eq h1
    subst o11
    try dsimp only [id] at h0
    replace h0 := Sh.some_eq h0
    subst r
    exact AW.ret (xr (Wk.to (L := [(4, (.bool false))]) ⟨.rfl, trivial⟩))
   ·intro b21 h1
    have b24 : q20 = true := by simpa using b21
    exact AW.skip (hK16 _ (AW.regionO rfl (zm tb 3 rfl (AO.done (xi (Sh.w (i10 + 1)) h1 (Wk.tr rfl))))))
  ·intro b15 h1
   exact AW.exit (M11 () (Sh.some_eq h1).symm _ (Wk.tr rfl))
theorem laws_eqExprS_ok {N : Nat} {rec_laws_eqExpr : RExpr → RExpr → Option (Bool)} (hrec_laws_eqExpr : ∀ {p0 : RExpr} {p1 : RExpr} {r : Bool}, rec_laws_eqExpr p0 p1 = some r → ACalls Try.prog 82 [(.agg [(i64 p0.op), (i64 p0.num), (ls eRExpr p0.kids)]), (.agg [(i64 p1.op), (i64 p1.num), (ls eRExpr p1.kids)])] [] (fun v st => v = (.bool r) ∧ st = [])) {p0 : (List RExpr)} {p1 : (List RExpr)} {r : Bool} (h0 : laws_eqExprS N rec_laws_eqExpr p0 p1 = some r) : ACalls Try.prog 106 [(ls eRExpr p0), (ls eRExpr p1)] [] (fun v st => v = (.bool r) ∧ st = []) := by
 unfold laws_eqExprS at h0
 refine ai Try.func106 rfl rfl rfl rfl (zr tb rfl rfl (AW.seq fun K2 hK2 => sr rfl fun K3 hK3 => zq tb rfl (zl tb rfl rfl (zq tb rfl (zl tb rfl rfl (zq tb rfl (dn hK3 rfl ?_)))))))
 refine ci h0 rfl ?_ ?_ <;> clear h0
 ·intro b4 h0
  have b5 : decide ((Sh.len p0) = (Sh.len p1)) = false := by simpa using b4
  refine zr tb rfl rfl ?_
  replace h0 := Sh.some_eq h0
  subst r
  exact AW.ret (xr (Wk.to (L := [(4, (.bool false))]) ⟨.rfl, trivial⟩))
 ·intro b4 h0
  have b7 : decide ((Sh.len p0) = (Sh.len p1)) = true := by simpa using b4
  refine AW.skip (hK2 _ (AW.seq fun K8 hK8 => zr tb rfl rfl ?_))
  obtain ⟨o11, h1, h0⟩ := Sh.cont_some h0
  have M11 : ∀ (_ : Unit), o11 = Sum.inr () → ∀ s, Wk 0 s ⟨27, envL [], []⟩ → K8 s := by
   intro _ hq s hw
   subst o11
   try dsimp only at h0
   refine hK8 _ (AW.weaken hw (zr tb rfl rfl ?_))
   replace h0 := Sh.some_eq h0
   subst r
   exact AW.ret (xr (Wk.to (L := [(4, (.bool true))]) ⟨.rfl, trivial⟩))
  refine AW.block (AW.loopF (σ := Int) (fun n v => laws_eqExprS_L1 p0 p1 rec_laws_eqExpr n v = some o11) (fun i10 => ⟨27, envL [(0, (ls eRExpr p0)), (1, (ls eRExpr p1)), (5, (i64 i10))], []⟩) N 0 h1 (Wk.tr rfl) (fun _ hv => by rw [laws_eqExprS_L1] at hv; cases hv) ?_)
  rintro n i10 h1
  try dsimp only at h1 ⊢
  rw [laws_eqExprS_L1] at h1
  refine AW.seq fun K13 hK13 => sr rfl fun K14 hK14 => zm tb 2 rfl (zl tb rfl rfl (zq tb rfl (dn hK14 rfl ?_)))
  refine ci h1 rfl ?_ ?_ <;> clear h1
  ·intro b15 h1
   refine AW.skip (hK13 _ (AW.seq fun K16 hK16 => AW.block (AW.seq fun K17 hK17 => ?_)))
   refine AW.draw (by kernel_rfl) (by kernel_rfl) (by rfl) ?_
   iterate 2 refine yq tb rfl ?_
   refine bs h1 fun c18 gc18 h1 => yz (.iptr [(i64 c18.op), (i64 c18.num), (ls eRExpr c18.kids)] 0) (aq_ixsE ei48 rfl rfl gc18 (eRExpr_eq _) rfl) rfl ?_
   iterate 3 refine yq tb rfl ?_
   refine bs h1 fun c19 gc19 h1 => yz (.iptr [(i64 c19.op), (i64 c19.num), (ls eRExpr c19.kids)] 0) (aq_ixsE ei48 rfl rfl gc19 (eRExpr_eq _) rfl) rfl (yq tb rfl (bs h1 fun q20 gq20 h1 => d_call (v := (.bool q20)) go0 hb82 (hrec_laws_eqExpr gq20) rfl rfl rfl (yq tb rfl (d_done (hK17 _ ?_)))))
   refine ci h1 rfl ?_ ?_ <;> clear h1
   ·intro b21 h1
    have b22 : q20 = false := by simpa using b21
    refine zr tb rfl rfl ?_
    replace h1 := Sh.some_eq h1
    subst o11
    try dsimp only [id] at h0
    replace h0 := Sh.some_eq h0
    subst r
    exact AW.ret (xr (Wk.to (L := [(4, (.bool false))]) ⟨.rfl, trivial⟩))
   ·intro b21 h1
    have b24 : q20 = true := by simpa using b21
    exact AW.skip (hK16 _ (AW.regionO rfl (zm tb 3 rfl (AO.done (xi (Sh.w (i10 + 1)) h1 (Wk.tr rfl))))))
  ·intro b15 h1
   exact AW.exit (M11 () (Sh.some_eq h1).symm _ (Wk.tr rfl))
theorem laws_eqExpr_B_ok {N : Nat} {rec_laws_eqExpr : RExpr → RExpr → Option (Bool)} (hrec_laws_eqExpr : ∀ {p0 : RExpr} {p1 : RExpr} {r : Bool}, rec_laws_eqExpr p0 p1 = some r → ACalls Try.prog 82 [(.agg [(i64 p0.op), (i64 p0.num), (ls eRExpr p0.kids)]), (.agg [(i64 p1.op), (i64 p1.num), (ls eRExpr p1.kids)])] [] (fun v st => v = (.bool r) ∧ st = [])) {p0 : RExpr} {p1 : RExpr} {r : Bool} (h0 : laws_eqExpr_B N rec_laws_eqExpr p0 p1 = some r) : ACalls Try.prog 82 [(.agg [(i64 p0.op), (i64 p0.num), (ls eRExpr p0.kids)]), (.agg [(i64 p1.op), (i64 p1.num), (ls eRExpr p1.kids)])] [] (fun v st => v = (.bool r) ∧ st = []) := by
 unfold laws_eqExpr_B at h0
 refine ai Try.func82 rfl rfl rfl rfl (sr rfl fun K1 hK1 => ao_box (m := 0) (st' := [⟨0, 50, 3, [[(i64 p0.op), (i64 p0.num), (ls eRExpr p0.kids)]]⟩]) go0 rfl rfl rfl rfl rfl (ao_box (m := 1) (st' := [⟨0, 50, 3, [[(i64 p0.op), (i64 p0.num), (ls eRExpr p0.kids)]]⟩, ⟨0, 50, 3, [[(i64 p1.op), (i64 p1.num), (ls eRExpr p1.kids)]]⟩]) go0 rfl rfl rfl rfl rfl (zq tb rfl (dn hK1 rfl (AW.seq fun K2 hK2 => zr tb rfl rfl ?_)))))
 refine ci h0 rfl ?_ ?_ <;> clear h0
 ·intro b4 h0
  have b5 : decide (p0.op = p1.op) = false := by simpa using b4
  refine zr tb rfl rfl ?_
  replace h0 := Sh.some_eq h0
  subst r
  exact AW.ret (xr (Wk.d0 [(4, (.bool false))] rfl))
 ·intro b4 h0
  have b7 : decide (p0.op = p1.op) = true := by simpa using b4
  refine AW.skip (hK2 _ (AW.seq fun K8 hK8 => zr tb rfl rfl ?_))
  refine ci h0 rfl ?_ ?_ <;> clear h0
  ·intro b10 h0
   have b11 : decide (p0.num = p1.num) = false := by simpa using b10
   refine zr tb rfl rfl ?_
   replace h0 := Sh.some_eq h0
   subst r
   exact AW.ret (xr (Wk.d0 [(4, (.bool false))] rfl))
  ·intro b10 h0
   have b13 : decide (p0.num = p1.num) = true := by simpa using b10
   refine AW.skip (hK8 _ (AW.seq fun K14 hK14 => sr rfl fun K15 hK15 => zm tb 4 rfl (bs h0 fun q16 gq16 h0 => zc hb106 (laws_eqExprS_ok hrec_laws_eqExpr gq16) rfl rfl rfl (zq tb rfl (dn hK15 rfl ?_)))))
   refine ci h0 rfl ?_ ?_ <;> clear h0
   ·intro b17 h0
    have b18 : q16 = false := by simpa using b17
    refine zr tb rfl rfl ?_
    replace h0 := Sh.some_eq h0
    subst r
    exact AW.ret (xr (Wk.d0 [(4, (.bool false))] rfl))
   ·intro b17 h0
    have b20 : q16 = true := by simpa using b17
    refine AW.skip (hK14 _ (zr tb rfl rfl ?_))
    replace h0 := Sh.some_eq h0
    subst r
    exact AW.ret (xr (Wk.d0 [(4, (.bool true))] rfl))

theorem laws_eqExpr_F_ok {N : Nat} : ∀ (n : Nat), ∀ {p0 : RExpr} {p1 : RExpr} {r : Bool}, laws_eqExpr_F N n p0 p1 = some r → ACalls Try.prog 82 [(.agg [(i64 p0.op), (i64 p0.num), (ls eRExpr p0.kids)]), (.agg [(i64 p1.op), (i64 p1.num), (ls eRExpr p1.kids)])] [] (fun v st => v = (.bool r) ∧ st = []) := by
 intro n
 induction n with
 | zero => intro p0 p1 r h0; cases h0
 | succ n ih =>
  intro p0 p1 r h0
  rw [laws_eqExpr_F] at h0
  exact laws_eqExpr_B_ok (fun h => ih h) h0
theorem laws_eqExpr_ok {N : Nat} : ∀ {p0 : RExpr} {p1 : RExpr} {r : Bool}, laws_eqExpr N p0 p1 = some r → ACalls Try.prog 82 [(.agg [(i64 p0.op), (i64 p0.num), (ls eRExpr p0.kids)]), (.agg [(i64 p1.op), (i64 p1.num), (ls eRExpr p1.kids)])] [] (fun v st => v = (.bool r) ∧ st = []) := by
 intro p0 p1 r h0
 exact laws_eqExpr_F_ok N h0
theorem laws_eqFunc_ok {N : Nat} {p0 : RFunc} {p1 : RFunc} {r : Bool} (h0 : laws_eqFunc N p0 p1 = some r) : ACalls Try.prog 48 [(.agg [(ls eI p0.params), (i64 p0.result), (i64 p0.body.op), (i64 p0.body.num), (ls eRExpr p0.body.kids)]), (.agg [(ls eI p1.params), (i64 p1.result), (i64 p1.body.op), (i64 p1.body.num), (ls eRExpr p1.body.kids)])] [] (fun v st => v = (.bool r) ∧ st = []) := by
 unfold laws_eqFunc at h0
 refine ai Try.func48 rfl rfl rfl rfl (sr rfl fun K1 hK1 => ao_box (m := 0) (st' := [⟨0, 52, 5, [[(ls eI p0.params), (i64 p0.result), (i64 p0.body.op), (i64 p0.body.num), (ls eRExpr p0.body.kids)]]⟩]) go0 rfl rfl rfl rfl rfl (ao_box (m := 1) (st' := [⟨0, 52, 5, [[(ls eI p0.params), (i64 p0.result), (i64 p0.body.op), (i64 p0.body.num), (ls eRExpr p0.body.kids)]]⟩, ⟨0, 52, 5, [[(ls eI p1.params), (i64 p1.result), (i64 p1.body.op), (i64 p1.body.num), (ls eRExpr p1.body.kids)]]⟩]) go0 rfl rfl rfl rfl rfl (zq tb rfl (dn hK1 rfl (AW.seq fun K2 hK2 => sr rfl fun K3 hK3 => zm tb 4 rfl (bs h0 fun q4 gq4 h0 => zc hb81 (laws_eqIntS_ok gq4) rfl rfl rfl (zq tb rfl ?_)))))))
 refine dn hK3 rfl ?_
 refine ci h0 rfl ?_ ?_ <;> clear h0
 ·intro b5 h0
  have b6 : q4 = false := by simpa using b5
  refine zr tb rfl rfl ?_
  replace h0 := Sh.some_eq h0
  subst r
  exact AW.ret (xr (Wk.d0 [(4, (.bool false))] rfl))
 ·intro b5 h0
  have b8 : q4 = true := by simpa using b5
  refine AW.skip (hK2 _ (AW.seq fun K9 hK9 => zr tb rfl rfl ?_))
  refine ci h0 rfl ?_ ?_ <;> clear h0
  ·intro b11 h0
   have b12 : decide (p0.result = p1.result) = false := by simpa using b11
   refine zr tb rfl rfl ?_
   replace h0 := Sh.some_eq h0
   subst r
   exact AW.ret (xr (Wk.d0 [(4, (.bool false))] rfl))
  ·intro b11 h0
   have b14 : decide (p0.result = p1.result) = true := by simpa using b11
   refine AW.skip (hK9 _ (AW.seq fun K15 hK15 => sr rfl fun K16 hK16 => zm tb 4 rfl (bs h0 fun q17 gq17 h0 => zc hb82 (laws_eqExpr_ok gq17) rfl rfl rfl (zq tb rfl (dn hK16 rfl ?_)))))
   refine ci h0 rfl ?_ ?_ <;> clear h0
   ·intro b18 h0
    have b19 : q17 = false := by simpa using b18
    refine zr tb rfl rfl ?_
    replace h0 := Sh.some_eq h0
    subst r
    exact AW.ret (xr (Wk.d0 [(4, (.bool false))] rfl))
   ·intro b18 h0
    have b21 : q17 = true := by simpa using b18
    refine AW.skip (hK15 _ (zr tb rfl rfl ?_))
    replace h0 := Sh.some_eq h0
    subst r
    exact AW.ret (xr (Wk.d0 [(4, (.bool true))] rfl))
theorem laws_eqFuncS_ok {N : Nat} {p0 : (List RFunc)} {p1 : (List RFunc)} {r : Bool} (h0 : laws_eqFuncS N p0 p1 = some r) : ACalls Try.prog 30 [(ls eRFunc p0), (ls eRFunc p1)] [] (fun v st => v = (.bool r) ∧ st = []) := by
 unfold laws_eqFuncS at h0
 refine ai Try.func30 rfl rfl rfl rfl (zr tb rfl rfl (AW.seq fun K2 hK2 => sr rfl fun K3 hK3 => zq tb rfl (zl tb rfl rfl (zq tb rfl (zl tb rfl rfl (zq tb rfl (dn hK3 rfl ?_)))))))
 refine ci h0 rfl ?_ ?_ <;> clear h0
 ·intro b4 h0
  have b5 : decide ((Sh.len p0) = (Sh.len p1)) = false := by simpa using b4
  refine zr tb rfl rfl ?_
  replace h0 := Sh.some_eq h0
  subst r
  exact AW.ret (xr (Wk.to (L := [(4, (.bool false))]) ⟨.rfl, trivial⟩))
 ·intro b4 h0
  have b7 : decide ((Sh.len p0) = (Sh.len p1)) = true := by simpa using b4
  refine AW.skip (hK2 _ (AW.seq fun K8 hK8 => zr tb rfl rfl ?_))
  obtain ⟨o11, h1, h0⟩ := Sh.cont_some h0
  have M11 : ∀ (_ : Unit), o11 = Sum.inr () → ∀ s, Wk 0 s ⟨27, envL [], []⟩ → K8 s := by
   intro _ hq s hw
   subst o11
   try dsimp only at h0
   refine hK8 _ (AW.weaken hw (zr tb rfl rfl ?_))
   replace h0 := Sh.some_eq h0
   subst r
   exact AW.ret (xr (Wk.to (L := [(4, (.bool true))]) ⟨.rfl, trivial⟩))
  refine AW.block (AW.loopF (σ := Int) (fun n v => laws_eqFuncS_L1 N p0 p1 n v = some o11) (fun i10 => ⟨27, envL [(0, (ls eRFunc p0)), (1, (ls eRFunc p1)), (5, (i64 i10))], []⟩) N 0 h1 (Wk.tr rfl) (fun _ hv => by rw [laws_eqFuncS_L1] at hv; cases hv) ?_)
  rintro n i10 h1
  try dsimp only at h1 ⊢
  rw [laws_eqFuncS_L1] at h1
  refine AW.seq fun K13 hK13 => sr rfl fun K14 hK14 => zm tb 2 rfl (zl tb rfl rfl (zq tb rfl (dn hK14 rfl ?_)))
  refine ci h1 rfl ?_ ?_ <;> clear h1
  ·intro b15 h1
   refine AW.skip (hK13 _ (AW.seq fun K16 hK16 => AW.block (AW.seq fun K17 hK17 => ?_)))
   refine AW.draw (by kernel_rfl) (by kernel_rfl) (by rfl) ?_
   iterate 2 refine yq tb rfl ?_
   refine bs h1 fun c18 gc18 h1 => yx ei29 gc18 rfl rfl rfl ?_
   iterate 3 refine yq tb rfl ?_
   refine bs h1 fun c19 gc19 h1 => yx ei29 gc19 rfl rfl rfl (yq tb rfl (bs h1 fun q20 gq20 h1 => d_call (v := (.bool q20)) go0 hb48 (laws_eqFunc_ok gq20) rfl rfl rfl (yq tb rfl (d_done (hK17 _ ?_)))))
   refine ci h1 rfl ?_ ?_ <;> clear h1
   ·intro b21 h1
    have b22 : q20 = false := by simpa using b21
    refine zr tb rfl rfl ?_
    replace h1 := Sh.some_eq h1
    subst o11
    try dsimp only [id] at h0
    replace h0 := Sh.some_eq h0
    subst r
    exact AW.ret (xr (Wk.to (L := [(4, (.bool false))]) ⟨.rfl, trivial⟩))
   ·intro b21 h1
    have b24 : q20 = true := by simpa using b21
    exact AW.skip (hK16 _ (AW.regionO rfl (zm tb 3 rfl (AO.done (xi (Sh.w (i10 + 1)) h1 (Wk.tr rfl))))))
  ·intro b15 h1
   exact AW.exit (M11 () (Sh.some_eq h1).symm _ (Wk.tr rfl))
theorem laws_eqProgram_ok {N : Nat} {p0 : RProgram} {p1 : RProgram} {r : Bool} (h0 : laws_eqProgram N p0 p1 = some r) : ACalls Try.prog 11 [(.agg [(ls eRDecl p0.decls), (ls eRFunc p0.funcs)]), (.agg [(ls eRDecl p1.decls), (ls eRFunc p1.funcs)])] [] (fun v st => v = (.bool r) ∧ st = []) := by
 unfold laws_eqProgram at h0
 refine ai Try.func11 rfl rfl rfl rfl (sr rfl fun K1 hK1 => ao_box (m := 0) (st' := [⟨0, 31, 2, [[(ls eRDecl p0.decls), (ls eRFunc p0.funcs)]]⟩]) go0 rfl rfl rfl rfl rfl (ao_box (m := 1) (st' := [⟨0, 31, 2, [[(ls eRDecl p0.decls), (ls eRFunc p0.funcs)]]⟩, ⟨0, 31, 2, [[(ls eRDecl p1.decls), (ls eRFunc p1.funcs)]]⟩]) go0 rfl rfl rfl rfl rfl (zq tb rfl (dn hK1 rfl (AW.seq fun K2 hK2 => sr rfl fun K3 hK3 => zm tb 4 rfl (bs h0 fun q4 gq4 h0 => zc hb29 (laws_eqDeclS_ok gq4) rfl rfl rfl (zq tb rfl ?_)))))))
 refine dn hK3 rfl ?_
 refine ci h0 rfl ?_ ?_ <;> clear h0
 ·intro b5 h0
  have b6 : q4 = false := by simpa using b5
  refine zr tb rfl rfl ?_
  replace h0 := Sh.some_eq h0
  subst r
  exact AW.ret (xr (Wk.d0 [(4, (.bool false))] rfl))
 ·intro b5 h0
  have b8 : q4 = true := by simpa using b5
  refine AW.skip (hK2 _ (AW.seq fun K9 hK9 => sr rfl fun K10 hK10 => zm tb 4 rfl (bs h0 fun q11 gq11 h0 => zc hb30 (laws_eqFuncS_ok gq11) rfl rfl rfl (zq tb rfl (dn hK10 rfl ?_)))))
  refine ci h0 rfl ?_ ?_ <;> clear h0
  ·intro b12 h0
   have b13 : q11 = false := by simpa using b12
   refine zr tb rfl rfl ?_
   replace h0 := Sh.some_eq h0
   subst r
   exact AW.ret (xr (Wk.d0 [(4, (.bool false))] rfl))
  ·intro b12 h0
   have b15 : q11 = true := by simpa using b12
   refine AW.skip (hK9 _ (zr tb rfl rfl ?_))
   replace h0 := Sh.some_eq h0
   subst r
   exact AW.ret (xr (Wk.d0 [(4, (.bool true))] rfl))
theorem laws_FnExactCallSites_ok {N : Nat} {p0 : RProgram} {p1 : Int} {r : Bool} (h0 : laws_FnExactCallSites N p0 p1 = some r) : ACalls Try.prog 3 [(.agg [(ls eRDecl p0.decls), (ls eRFunc p0.funcs)]), (i64 p1)] [] (fun v st => v = (.bool r) ∧ st = []) := by
 unfold laws_FnExactCallSites at h0
 refine ai Try.func3 rfl rfl rfl rfl (sr rfl fun K1 hK1 => ao_box (m := 0) (st' := [⟨0, 25, 2, [[(ls eRDecl p0.decls), (ls eRFunc p0.funcs)]]⟩]) go0 rfl rfl rfl rfl rfl (zq tb rfl (dn hK1 rfl (zr tb rfl rfl (sr rfl fun K3 hK3 => zm tb 2 rfl (bs h0 fun q4 gq4 h0 => zc hb7 (laws_szProgram_ok gq4) rfl rfl rfl (zq tb rfl (dn hK3 rfl ?_))))))))
 refine AW.seq fun K5 hK5 => zr tb rfl rfl ?_
 refine ci h0 rfl ?_ ?_ <;> clear h0
 ·intro b7 h0
  refine zr tb rfl rfl ?_
  replace h0 := Sh.some_eq h0
  subst r
  exact AW.ret (xr (Wk.d0 [(4, (.bool true))] rfl))
 ·intro b7 h0
  refine AW.skip (hK5 _ (sr rfl fun K9 hK9 => zq tb rfl (bs h0 fun q10 gq10 h0 => zc (v' := (.agg [(ls eRDecl q10.decls), (ls eRFunc q10.funcs)])) hb9 (laws_toProgram_ok gq10) rfl rfl rfl (zq tb rfl (bs h0 fun q11 gq11 h0 => zc hb8 (spec_CallSites_ok gq11) rfl rfl rfl (zq tb rfl (dn hK9 rfl (sr rfl fun K12 hK12 => zq tb rfl ?_))))))))
  refine bs h0 fun q13 gq13 h0 => zc (v' := (.agg [(ls eRDecl q13.decls), (ls eRFunc q13.funcs)])) hb9 (laws_toProgram_ok gq13) rfl rfl rfl (ao_alloc (m := 1) (st' := [⟨0, 25, 2, [[(ls eRDecl p0.decls), (ls eRFunc p0.funcs)]]⟩, ⟨0, 31, 2, [[.zc, .zc]]⟩]) go0 zi31 rfl rfl (ao_str (st' := [⟨0, 25, 2, [[(ls eRDecl p0.decls), (ls eRFunc p0.funcs)]]⟩, ⟨0, 31, 2, [[(ls eRDecl q13.decls), (ls eRFunc q13.funcs)]]⟩]) go0 ti31 rfl rfl rfl rfl rfl rfl (show 0 + 2 ≤ 2 by decide) rfl (dn hK12 rfl (sr rfl fun K14 hK14 => zm tb 2 rfl (bs h0 fun q15 gq15 h0 => zc hb10 (impl_CallSites_ok gq15) rfl rfl rfl (zq tb rfl (dn hK14 rfl (AW.seq fun K16 hK16 => ?_))))))))
  refine zr tb rfl rfl ?_
  refine ci h0 rfl ?_ ?_ <;> clear h0
  ·intro b18 h0
   have b19 : decide (q15 = q11) = false := by simpa using b18
   refine zr tb rfl rfl ?_
   replace h0 := Sh.some_eq h0
   subst r
   exact AW.ret (xr (Wk.d0 [(4, (.bool false))] rfl))
  ·intro b18 h0
   have b21 : decide (q15 = q11) = true := by simpa using b18
   refine AW.skip (hK16 _ (AW.seq fun K22 hK22 => AW.seq fun K23 hK23 => ?_))
   refine AW.draw (by kernel_rfl) (by kernel_rfl) (by rfl) ?_
   iterate 2 refine yq tb rfl ?_
   refine bs h0 fun q24 gq24 h0 => d_call (v := (.agg [(ls eRDecl q24.decls), (ls eRFunc q24.funcs)])) go0 hb9 (laws_toProgram_ok gq24) rfl rfl rfl (bs h0 fun q25 gq25 h0 => d_call (v := (.bool q25)) go0 hb11 (laws_eqProgram_ok gq25) rfl rfl rfl (yq tb rfl (d_done (hK23 _ ?_))))
   refine ci h0 rfl ?_ ?_ <;> clear h0
   ·intro b26 h0
    have b27 : q25 = false := by simpa using b26
    refine zr tb rfl rfl ?_
    replace h0 := Sh.some_eq h0
    subst r
    exact AW.ret (xr (Wk.d0 [(4, (.bool false))] rfl))
   ·intro b26 h0
    have b29 : q25 = true := by simpa using b26
    refine AW.skip (hK22 _ (zr tb rfl rfl ?_))
    replace h0 := Sh.some_eq h0
    subst r
    exact AW.ret (xr (Wk.d0 [(4, (.bool true))] rfl))
end Go.Proofs.Ytpahalfiiahddaa

