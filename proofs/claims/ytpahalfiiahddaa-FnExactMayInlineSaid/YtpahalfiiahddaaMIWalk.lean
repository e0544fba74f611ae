import Derived.Test.YtpahalfiiahddaaProg
import Derived.Test.YtpahalfiiahddaaGHADefsToMIDefs
import Derived.Test.YtpahalfiiahddaaMIWalkP1
namespace Go.Proofs.Ytpahalfiiahddaa
open Go Go.Abs RC
attribute [local irreducible] Go.Abs.dops
set_option maxRecDepth 100000
set_option maxHeartbeats 4000000

theorem ei60 : einfo Try.prog 60 = some ⟨4, 1, 1, [.bool false]⟩ := by kernel_rfl
theorem hb105 : hasBody Try.prog 105 = true := by kernel_rfl
theorem hb106 : hasBody Try.prog 106 = true := by kernel_rfl
theorem hb11 : hasBody Try.prog 11 = true := by kernel_rfl
theorem hb12 : hasBody Try.prog 12 = true := by kernel_rfl
theorem hb13 : hasBody Try.prog 13 = true := by kernel_rfl
theorem hb16 : hasBody Try.prog 16 = true := by kernel_rfl
theorem hb18 : hasBody Try.prog 18 = true := by kernel_rfl
theorem hb19 : hasBody Try.prog 19 = true := by kernel_rfl
theorem hb27 : hasBody Try.prog 27 = true := by kernel_rfl
theorem hb29 : hasBody Try.prog 29 = true := by kernel_rfl
theorem hb30 : hasBody Try.prog 30 = true := by kernel_rfl
theorem hb32 : hasBody Try.prog 32 = true := by kernel_rfl
theorem hb33 : hasBody Try.prog 33 = true := by kernel_rfl
theorem hb34 : hasBody Try.prog 34 = true := by kernel_rfl
theorem hb38 : hasBody Try.prog 38 = true := by kernel_rfl
theorem hb39 : hasBody Try.prog 39 = true := by kernel_rfl
theorem hb47 : hasBody Try.prog 47 = true := by kernel_rfl
theorem hb48 : hasBody Try.prog 48 = true := by kernel_rfl
theorem hb52 : hasBody Try.prog 52 = true := by kernel_rfl
theorem hb53 : hasBody Try.prog 53 = true := by kernel_rfl
theorem hb58 : hasBody Try.prog 58 = true := by kernel_rfl
theorem hb60 : hasBody Try.prog 60 = true := by kernel_rfl
theorem hb62 : hasBody Try.prog 62 = true := by kernel_rfl
theorem hb7 : hasBody Try.prog 7 = true := by kernel_rfl
theorem hb80 : hasBody Try.prog 80 = true := by kernel_rfl
theorem hb81 : hasBody Try.prog 81 = true := by kernel_rfl
theorem hb82 : hasBody Try.prog 82 = true := by kernel_rfl
theorem hb9 : hasBody Try.prog 9 = true := by kernel_rfl
theorem hb92 : hasBody Try.prog 92 = true := by kernel_rfl
theorem hb93 : hasBody Try.prog 93 = true := by kernel_rfl
theorem hb94 : hasBody Try.prog 94 = true := by kernel_rfl
theorem hb95 : hasBody Try.prog 95 = true := by kernel_rfl
theorem ti4 : tinfo Try.prog 4 = some (false, 1) := by kernel_rfl
theorem ti60 : tinfo Try.prog 60 = some (false, 1) := by kernel_rfl
theorem zi60 : zinfo Try.prog 60 = some [.zc] := by kernel_rfl

theorem impl_signatures_typeOf_B_ok {N : Nat} {rec_impl_signatures_typeOf : (List Int) → RSignatures → RExpr → Option (Int)} (hrec_impl_signatures_typeOf : ∀ {s0 : (List Int)} {p0 : RSignatures} {p2 : RExpr} {r : Int}, rec_impl_signatures_typeOf s0 p0 p2 = some r → ACalls Try.prog 61 [(.agg (eRSignatures p0)), (ow 0 0 s0), (.agg [(i64 p2.op), (i64 p2.num), (ls eRExpr p2.kids)])] [(ro 0 3 1 eI s0)] (fun v st => v = (i64 r) ∧ st = [(ro 0 3 1 eI s0)])) {s0 : (List Int)} {p0 : RSignatures} {p2 : RExpr} {r : Int} (h0 : impl_signatures_typeOf_B N rec_impl_signatures_typeOf s0 p0 p2 = some r) : ACalls Try.prog 61 [(.agg (eRSignatures p0)), (ow 0 0 s0), (.agg [(i64 p2.op), (i64 p2.num), (ls eRExpr p2.kids)])] [(ro 0 3 1 eI s0)] (fun v st => v = (i64 r) ∧ st = [(ro 0 3 1 eI s0)]) := by
 unfold impl_signatures_typeOf_B at h0
 refine ai Try.func61 rfl rfl rfl rfl ?_
 refine sr rfl fun K1 hK1 => ?_
 refine ao_box (m := 1) (st' := [(ro 0 3 1 eI s0), ⟨0, 97, 2, [(eRSignatures p0)]⟩]) go0 rfl rfl rfl rfl rfl ?_
 refine ao_box (m := 2) (st' := [(ro 0 3 1 eI s0), ⟨0, 97, 2, [(eRSignatures p0)]⟩, ⟨0, 50, 3, [[(i64 p2.op), (i64 p2.num), (ls eRExpr p2.kids)]]⟩]) go0 rfl rfl rfl rfl rfl ?_
 refine zq tb rfl ?_
 refine dn hK1 rfl ?_
 refine AW.seq fun K2 hK2 => ?_
 refine zr tb rfl rfl ?_
 refine AW.block ?_
 refine zr tb rfl rfl ?_
 refine ci h0 rfl ?_ ?_ <;> clear h0
 ·intro b5 h0
  refine AW.seq fun K6 hK6 => ?_
  refine AW.seq fun K7 hK7 => ?_
  obtain ⟨o9, h1, h0⟩ := Sh.bind_some h0
  have M9 : ∀ (t8 : Bool), o9 = t8 → ∀ s, Wk 1 s ⟨194, envL [(1, (ow 0 0 s0)), (5, (.ptr 1 0 0 0)), (36, (.bool t8))], [(ro 0 3 1 eI s0), ⟨0, 50, 3, [[(i64 p2.op), (i64 p2.num), (ls eRExpr p2.kids)]]⟩]⟩ → K7 s := by
   intro t8 hq s hw
   subst o9
   try dsimp only at h0
   refine hK7 _ (AW.weaken hw ?_)
   refine ci h0 rfl ?_ ?_ <;> clear h0
   ·intro b10 h0
    refine zr tb rfl rfl ?_
    replace h0 := Sh.some_eq h0
    subst r
    exact AW.ret (xr (Wk.permk (L := [(6, (i64 (-1)))]) (st' := [(ro 0 3 1 eI s0)]) (st1 := [(ro 0 3 1 eI s0)]) [0] rfl (.pure (pure_map fun _ => rfl) .nil) (by decide) rfl rfl (.pure (pure_map fun _ => rfl) .nil) ⟨.rfl, trivial⟩))
   ·intro b10 h0
    refine AW.skip (hK6 _ ?_)
    refine sr rfl fun K12 hK12 => ?_
    refine zm tb 3 rfl ?_
    obtain ⟨c13, gc13, h0⟩ := Sh.bind_some h0
    refine zz (.ptr 0 0 (Int.toNat p2.num) 0) (aq_ixo ei40 rfl rfl rfl rfl gc13) rfl ?_
    refine zz (i64 c13) (aq_ldp ti3 rfl rfl (map_get gc13) rfl) rfl ?_
    refine zq tb rfl ?_
    refine dn hK12 rfl ?_
    replace h0 := Sh.some_eq h0
    subst r
    exact AW.ret (xr (Wk.permk (L := [(6, (i64 c13))]) (st' := [(ro 0 3 1 eI s0)]) (st1 := [(ro 0 3 1 eI s0)]) [0] rfl (.pure (pure_map fun _ => rfl) .nil) (by decide) rfl rfl (.pure (pure_map fun _ => rfl) .nil) ⟨.rfl, trivial⟩))
  refine AW.regionO (by rfl) ?_
  refine zm tb 2 rfl ?_
  refine zl tb rfl rfl ?_
  refine zm tb 2 rfl ?_
  rcases Sh.ite_some h1 with ⟨b14, h1⟩ | ⟨b14, h1⟩
  ·refine zs b14 rfl ?_
   iterate 2 refine zs b14 rfl ?_
   refine zt b14 rfl ?_
   refine zq tb rfl ?_
   iterate 5 refine zs rfl rfl ?_
   refine zt rfl rfl ?_
   exact AO.done (M9 true (Sh.some_eq h1).symm _ (Wk.permk (L := [(1, (ow 0 0 s0)), (5, (.ptr 1 0 0 0)), (36, (.bool true))]) (st' := [(ro 0 3 1 eI s0), ⟨0, 50, 3, [[(i64 p2.op), (i64 p2.num), (ls eRExpr p2.kids)]]⟩]) (st1 := [(ro 0 3 1 eI s0), ⟨0, 50, 3, [[(i64 p2.op), (i64 p2.num), (ls eRExpr p2.kids)]]⟩]) [0, 2] rfl (.pure (pure_map fun _ => rfl) .nil) (by decide) rfl rfl (.pure (pure_map fun _ => rfl) (.raw rfl rfl .nil)) ⟨.rfl, .rfl, .rfl, trivial⟩))
  ·refine zg tb b14 rfl ?_
   iterate 2 refine zg tb b14 rfl ?_
   refine zf b14 rfl ?_
   refine zq tb rfl ?_
   rcases Sh.ite_some h1 with ⟨b15, h1⟩ | ⟨b15, h1⟩
   ·refine zs b15 rfl ?_
    iterate 4 refine zs b15 rfl ?_
    refine zt b15 rfl ?_
    exact AO.done (M9 true (Sh.some_eq h1).symm _ (Wk.permk (L := [(1, (ow 0 0 s0)), (5, (.ptr 1 0 0 0)), (36, (.bool true))]) (st' := [(ro 0 3 1 eI s0), ⟨0, 50, 3, [[(i64 p2.op), (i64 p2.num), (ls eRExpr p2.kids)]]⟩]) (st1 := [(ro 0 3 1 eI s0), ⟨0, 50, 3, [[(i64 p2.op), (i64 p2.num), (ls eRExpr p2.kids)]]⟩]) [0, 2] rfl (.pure (pure_map fun _ => rfl) .nil) (by decide) rfl rfl (.pure (pure_map fun _ => rfl) (.raw rfl rfl .nil)) ⟨.rfl, .rfl, .rfl, trivial⟩))
   ·refine zg tb b15 rfl ?_
    iterate 2 refine zg tb b15 rfl ?_
    refine ao_q (v := (i64 (Sh.len s0))) (go1 rfl rfl b15) rfl (aq_leno sl40 rfl rfl rfl) ?_
    refine zg tb b15 rfl ?_
    refine zf b15 rfl ?_
    exact AO.done (M9 (decide ((Sh.len s0) ≤ p2.num)) (Sh.some_eq h1).symm _ (Wk.permk (L := [(1, (ow 0 0 s0)), (5, (.ptr 1 0 0 0)), (36, (.bool (decide ((Sh.len s0) ≤ p2.num))))]) (st' := [(ro 0 3 1 eI s0), ⟨0, 50, 3, [[(i64 p2.op), (i64 p2.num), (ls eRExpr p2.kids)]]⟩]) (st1 := [(ro 0 3 1 eI s0), ⟨0, 50, 3, [[(i64 p2.op), (i64 p2.num), (ls eRExpr p2.kids)]]⟩]) [0, 2] rfl (.pure (pure_map fun _ => rfl) .nil) (by decide) rfl rfl (.pure (pure_map fun _ => rfl) (.raw rfl rfl .nil)) ⟨.rfl, .rfl, .rfl, trivial⟩))
 ·intro b5 h0
  refine zr tb rfl rfl ?_
  refine ci h0 rfl ?_ ?_ <;> clear h0
  ·intro b17 h0
   refine AW.seq fun K18 hK18 => ?_
   refine AW.seq fun K19 hK19 => ?_
   obtain ⟨o21, h1, h0⟩ := Sh.bind_some h0
   have M21 : ∀ (t20 : Bool), o21 = t20 → ∀ s, Wk 1 s ⟨194, envL [(1, (ow 0 0 s0)), (3, (.ptr 1 0 0 0)), (5, (.ptr 2 0 0 0)), (52, (.bool t20))], [(ro 0 3 1 eI s0), ⟨0, 97, 2, [(eRSignatures p0)]⟩, ⟨0, 50, 3, [[(i64 p2.op), (i64 p2.num), (ls eRExpr p2.kids)]]⟩]⟩ → K19 s := by
    intro t20 hq s hw
    subst o21
    try dsimp only at h0
    refine hK19 _ (AW.weaken hw ?_)
    refine ci h0 rfl ?_ ?_ <;> clear h0
    ·intro b22 h0
     refine zr tb rfl rfl ?_
     replace h0 := Sh.some_eq h0
     subst r
     exact AW.ret (xr (Wk.permk (L := [(6, (i64 (-1)))]) (st' := [(ro 0 3 1 eI s0)]) (st1 := [(ro 0 3 1 eI s0)]) [0] rfl (.pure (pure_map fun _ => rfl) .nil) (by decide) rfl rfl (.pure (pure_map fun _ => rfl) .nil) ⟨.rfl, trivial⟩))
    ·intro b22 h0
     refine AW.skip (hK18 _ ?_)
     refine AW.seq fun K24 hK24 => ?_
     refine AW.draw (by kernel_rfl) (by kernel_rfl) (by rfl) ?_
     iterate 4 refine yq tb rfl ?_
     obtain ⟨c25, gc25, h0⟩ := Sh.bind_some h0
     refine yz (.iptr [(i64 c25.op), (i64 c25.num), (ls eRExpr c25.kids)] 0) (aq_ixsE ei48 rfl rfl gc25 (eRExpr_eq _) rfl) rfl ?_
     refine yq tb rfl ?_
     obtain ⟨q26, gq26, h0⟩ := Sh.bind_some h0
     refine d_calls (rowsP := [(ro 0 3 1 eI s0)]) (rows0 := [(ro 0 3 1 eI s0)]) (rows1 := [(ro 0 3 1 eI s0)]) (rows1' := [(ro 0 3 1 eI s0)]) (v' := (i64 q26)) [0] go0 hb61 (hrec_impl_signatures_typeOf gq26) rfl (by decide) rfl rfl (.pure (pure_map fun _ => rfl) .nil) rfl rfl (.pure (pure_map fun _ => rfl) .nil) rfl rfl ?_
     refine yq tb rfl ?_
     refine d_done (hK24 _ ?_)
     refine AW.seq fun K27 hK27 => ?_
     refine zr tb rfl rfl ?_
     refine ci h0 rfl ?_ ?_ <;> clear h0
     ·intro b29 h0
      refine zr tb rfl rfl ?_
      replace h0 := Sh.some_eq h0
      subst r
      exact AW.ret (xr (Wk.permk (L := [(6, (i64 (-1)))]) (st' := [(ro 0 3 1 eI s0)]) (st1 := [(ro 0 3 1 eI s0)]) [0] rfl (.pure (pure_map fun _ => rfl) .nil) (by decide) rfl rfl (.pure (pure_map fun _ => rfl) .nil) ⟨.rfl, trivial⟩))
     ·intro b29 h0
      refine AW.skip (hK27 _ ?_)
      refine AW.seq fun K31 hK31 => ?_
      refine AW.drawX (by kernel_rfl) ?_
      obtain ⟨l32, gl32, h0⟩ := Sh.bind_some h0
      obtain ⟨c33, gc33, h0⟩ := Sh.bind_some h0
      obtain ⟨q34, gq34, h0⟩ := Sh.bind_some h0
      refine AX.two (ro 0 3 1 eI s0) (ro 0 3 1 eI l32) fun A35 A35' hA35 hA35' => ?_
      have A35_0123456789aw0 : A35' 0 #[true, true, true, true, true, true, true, true, true, true, true] ⟨194, envL [(6, (i64 q34))], [(ro 0 3 1 eI l32)]⟩ := (hA35' _ _ _).2 (by
       refine AX.done rfl (by kernel_rfl) ⟨⟨_, rfl⟩, ?_⟩
       refine hK31 _ ?_
       replace h0 := Sh.some_eq h0
       subst r
       exact AW.ret (Exists.intro _ (And.intro (Wk.to (L := [(6, (i64 q34))]) ⟨.rfl, trivial⟩) (And.intro rfl rfl))))
      have A35_0123456789w0 : A35' 1 #[true, true, true, true, true, true, true, true, true, true, false] ⟨194, envL [(71, (i64 q34))], [(ro 0 3 1 eI l32)]⟩ := (hA35' _ _ _).2 (by
       refine AX.hoist 10 (v := (i64 q34)) rfl rfl (by kernel_rfl) (by kernel_rfl) (by kernel_rfl) rfl (hoist_as rfl) ?_
       exact AX.weaken (Wk.to (L := [(6, (i64 q34))]) ⟨.rfl, trivial⟩) (AX.lst (by kernel_rfl) ((hA35' _ _ _).1 A35_0123456789aw0)) rfl)
      have A35_012345678w0 : A35' 2 #[true, true, true, true, true, true, true, true, true, false, false] ⟨194, envL [(62, (.agg (eRSignatures p0))), (66, (ow 0 0 l32)), (70, (.agg [(i64 c33.op), (i64 c33.num), (ls eRExpr c33.kids)]))], [(ro 0 3 1 eI l32)]⟩ := (hA35' _ _ _).2 (by
       refine AX.all [9] rfl (by kernel_rfl) (by decide) ⟨?_, trivial⟩
       ·refine AXs.of (i := 9) rfl rfl (by rfl) ?_
        refine ao_calls (rowsP := [(ro 0 3 1 eI l32)]) (rows0 := [(ro 0 3 1 eI l32)]) (rows1 := [(ro 0 3 1 eI l32)]) (rows2 := []) (rows1' := [(ro 0 3 1 eI l32)]) (rows2' := []) (st' := [(ro 0 3 1 eI l32)]) (v' := (i64 q34)) [0] go0 hb61 (hrec_impl_signatures_typeOf gq34) rfl (by decide) rfl rfl (.pure (pure_map fun _ => rfl) .nil) rfl rfl (.pure (pure_map fun _ => rfl) .nil) .nil rfl rfl ?_
        refine AO.done ⟨rfl, ?_⟩
        exact AX.weaken (Wk.to (L := [(71, (i64 q34))]) ⟨.rfl, trivial⟩) (AX.lst (by kernel_rfl) ((hA35' _ _ _).1 A35_0123456789w0)) rfl)
      have A35_01234567w0 : A35' 3 #[true, true, true, true, true, true, true, true, false, false, false] ⟨194, envL [(62, (.agg (eRSignatures p0))), (66, (ow 0 0 l32)), (69, (.iptr [(i64 c33.op), (i64 c33.num), (ls eRExpr c33.kids)] 0))], [(ro 0 3 1 eI l32)]⟩ := (hA35' _ _ _).2 (by
       refine AX.all [8] rfl (by kernel_rfl) (by decide) ⟨?_, trivial⟩
       ·refine AXs.of (i := 8) rfl rfl (by rfl) ?_
        refine zq tb rfl ?_
        refine AO.done ⟨rfl, ?_⟩
        exact AX.weaken (Wk.to (L := [(62, (.agg (eRSignatures p0))), (66, (ow 0 0 l32)), (70, (.agg [(i64 c33.op), (i64 c33.num), (ls eRExpr c33.kids)]))]) ⟨.rfl, .rfl, .rfl, trivial⟩) (AX.lst (by kernel_rfl) ((hA35' _ _ _).1 A35_012345678w0)) rfl)
      have A35_0123456w0 : A35' 4 #[true, true, true, true, true, true, true, false, false, false, false] ⟨194, envL [(62, (.agg (eRSignatures p0))), (66, (ow 0 0 l32)), (68, (ls eRExpr p2.kids))], [(ro 0 3 1 eI l32)]⟩ := (hA35' _ _ _).2 (by
       refine AX.all [7] rfl (by kernel_rfl) (by decide) ⟨?_, trivial⟩
       ·refine AXs.of (i := 7) rfl rfl (by rfl) ?_
        refine zz (.iptr [(i64 c33.op), (i64 c33.num), (ls eRExpr c33.kids)] 0) (aq_ixsE ei48 rfl rfl gc33 (eRExpr_eq _) rfl) rfl ?_
        refine AO.done ⟨rfl, ?_⟩
        exact AX.weaken (Wk.to (L := [(62, (.agg (eRSignatures p0))), (66, (ow 0 0 l32)), (69, (.iptr [(i64 c33.op), (i64 c33.num), (ls eRExpr c33.kids)] 0))]) ⟨.rfl, .rfl, .rfl, trivial⟩) (AX.lst (by kernel_rfl) ((hA35' _ _ _).1 A35_01234567w0)) rfl)
      have A35_012345w0 : A35' 5 #[true, true, true, true, true, true, false, false, false, false, false] ⟨194, envL [(62, (.agg (eRSignatures p0))), (66, (ow 0 0 l32)), (67, (.ptr 1 0 0 2))], [(ro 0 3 1 eI l32), ⟨0, 50, 3, [[(i64 p2.op), (i64 p2.num), (ls eRExpr p2.kids)]]⟩]⟩ := (hA35' _ _ _).2 (by
       refine AX.all [6] rfl (by kernel_rfl) (by decide) ⟨?_, trivial⟩
       ·refine AXs.of (i := 6) rfl rfl (by rfl) ?_
        refine zq tb rfl ?_
        refine AO.done ⟨rfl, ?_⟩
        exact AX.weaken (by refine Wk.trans (Wk.permk (L := [(62, (.agg (eRSignatures p0))), (66, (ow 0 0 l32)), (68, (ls eRExpr p2.kids))]) (st' := [(ro 0 3 1 eI l32)]) (st1 := [(ro 0 3 1 eI l32)]) [0] rfl (.pure (pure_map fun _ => rfl) .nil) (by decide) rfl rfl (.pure (pure_map fun _ => rfl) .nil) ⟨.rfl, .rfl, .rfl, trivial⟩) ?_; exact Wk.to (L := [(62, (.agg (eRSignatures p0))), (66, (ow 0 0 l32)), (68, (ls eRExpr p2.kids))]) ⟨.rfl, .rfl, .rfl, trivial⟩) (AX.lst (by kernel_rfl) ((hA35' _ _ _).1 A35_0123456w0)) rfl)
      have A35_01234w0 : A35' 6 #[true, true, true, true, true, false, false, false, false, false, false] ⟨194, envL [(5, (.ptr 1 0 0 0)), (62, (.agg (eRSignatures p0))), (66, (ow 0 0 l32))], [(ro 0 3 1 eI l32), ⟨0, 50, 3, [[(i64 p2.op), (i64 p2.num), (ls eRExpr p2.kids)]]⟩]⟩ := (hA35' _ _ _).2 (by
       refine AX.all [5] rfl (by kernel_rfl) (by decide) ⟨?_, trivial⟩
       ·refine AXs.of (i := 5) rfl rfl (by rfl) ?_
        refine zq tb rfl ?_
        refine AO.done ⟨rfl, ?_⟩
        exact AX.weaken (Wk.to (L := [(62, (.agg (eRSignatures p0))), (66, (ow 0 0 l32)), (67, (.ptr 1 0 0 2))]) ⟨.rfl, .rfl, .rfl, trivial⟩) (AX.lst (by kernel_rfl) ((hA35' _ _ _).1 A35_012345w0)) rfl)
      have A35_0123456789aw1 : A35 0 #[true, true, true, true, true, true, true, true, true, true, true] ⟨194, envL [(6, (i64 q34))], [(ro 0 3 1 eI s0)]⟩ := (hA35 _ _ _).2 (by
       refine AX.done rfl (by kernel_rfl) ?_
       refine hK31 _ ?_
       replace h0 := Sh.some_eq h0
       subst r
       exact AW.ret (Exists.intro _ (And.intro (Wk.to (L := [(6, (i64 q34))]) ⟨.rfl, trivial⟩) (And.intro rfl rfl))))
      have A35_0123456789w1 : A35 1 #[true, true, true, true, true, true, true, true, true, true, false] ⟨194, envL [(71, (i64 q34))], [(ro 0 3 1 eI s0)]⟩ := (hA35 _ _ _).2 (by
       refine AX.hoist 10 (v := (i64 q34)) rfl rfl (by kernel_rfl) (by kernel_rfl) (by kernel_rfl) rfl (hoist_as rfl) ?_
       exact AX.weaken (Wk.to (L := [(6, (i64 q34))]) ⟨.rfl, trivial⟩) (AX.lst (by kernel_rfl) ((hA35 _ _ _).1 A35_0123456789aw1)) rfl)
      have A35_012345678w1 : A35 2 #[true, true, true, true, true, true, true, true, true, false, false] ⟨194, envL [(62, (.agg (eRSignatures p0))), (66, (ow 1 0 l32)), (70, (.agg [(i64 c33.op), (i64 c33.num), (ls eRExpr c33.kids)]))], [(ro 0 3 1 eI s0), (ro 0 3 1 eI l32)]⟩ := (hA35 _ _ _).2 (by
       refine AX.all [9] rfl (by kernel_rfl) (by decide) ⟨?_, trivial⟩
       ·refine AXs.of (i := 9) rfl rfl (by rfl) ?_
        refine ao_calls (rowsP := [(ro 0 3 1 eI l32)]) (rows0 := [(ro 0 3 1 eI l32)]) (rows1 := [(ro 0 3 1 eI l32)]) (rows2 := []) (rows1' := [(ro 0 3 1 eI l32)]) (rows2' := []) (st' := [(ro 0 3 1 eI s0), (ro 0 3 1 eI l32)]) (v' := (i64 q34)) [1] go0 hb61 (hrec_impl_signatures_typeOf gq34) rfl (by decide) rfl rfl (.pure (pure_map fun _ => rfl) .nil) rfl rfl (.pure (pure_map fun _ => rfl) .nil) .nil rfl rfl ?_
        refine AO.done ⟨rfl, ?_⟩
        exact AX.weaken (by refine Wk.trans (Wk.permk (L := [(71, (i64 q34))]) (st' := [(ro 0 3 1 eI s0)]) (st1 := [(ro 0 3 1 eI s0)]) [0] rfl (.pure (pure_map fun _ => rfl) .nil) (by decide) rfl rfl (.pure (pure_map fun _ => rfl) .nil) ⟨.rfl, trivial⟩) ?_; exact Wk.to (L := [(71, (i64 q34))]) ⟨.rfl, trivial⟩) (AX.lst (by kernel_rfl) ((hA35 _ _ _).1 A35_0123456789w1)) rfl)
      have A35_01234567w1 : A35 3 #[true, true, true, true, true, true, true, true, false, false, false] ⟨194, envL [(62, (.agg (eRSignatures p0))), (66, (ow 1 0 l32)), (69, (.iptr [(i64 c33.op), (i64 c33.num), (ls eRExpr c33.kids)] 0))], [(ro 0 3 1 eI s0), (ro 0 3 1 eI l32)]⟩ := (hA35 _ _ _).2 (by
       refine AX.all [8] rfl (by kernel_rfl) (by decide) ⟨?_, trivial⟩
       ·refine AXs.of (i := 8) rfl rfl (by rfl) ?_
        refine zq tb rfl ?_
        refine AO.done ⟨rfl, ?_⟩
        exact AX.weaken (Wk.to (L := [(62, (.agg (eRSignatures p0))), (66, (ow 1 0 l32)), (70, (.agg [(i64 c33.op), (i64 c33.num), (ls eRExpr c33.kids)]))]) ⟨.rfl, .rfl, .rfl, trivial⟩) (AX.lst (by kernel_rfl) ((hA35 _ _ _).1 A35_012345678w1)) rfl)
      have A35_0123456w1 : A35 4 #[true, true, true, true, true, true, true, false, false, false, false] ⟨194, envL [(62, (.agg (eRSignatures p0))), (66, (ow 1 0 l32)), (68, (ls eRExpr p2.kids))], [(ro 0 3 1 eI s0), (ro 0 3 1 eI l32)]⟩ := (hA35 _ _ _).2 (by
       refine AX.all [7] rfl (by kernel_rfl) (by decide) ⟨?_, trivial⟩
       ·refine AXs.of (i := 7) rfl rfl (by rfl) ?_
        refine zz (.iptr [(i64 c33.op), (i64 c33.num), (ls eRExpr c33.kids)] 0) (aq_ixsE ei48 rfl rfl gc33 (eRExpr_eq _) rfl) rfl ?_
        refine AO.done ⟨rfl, ?_⟩
        exact AX.weaken (Wk.to (L := [(62, (.agg (eRSignatures p0))), (66, (ow 1 0 l32)), (69, (.iptr [(i64 c33.op), (i64 c33.num), (ls eRExpr c33.kids)] 0))]) ⟨.rfl, .rfl, .rfl, trivial⟩) (AX.lst (by kernel_rfl) ((hA35 _ _ _).1 A35_01234567w1)) rfl)
      have A35_012345w1 : A35 5 #[true, true, true, true, true, true, false, false, false, false, false] ⟨194, envL [(62, (.agg (eRSignatures p0))), (66, (ow 1 0 l32)), (67, (.ptr 2 0 0 2))], [(ro 0 3 1 eI s0), (ro 0 3 1 eI l32), ⟨0, 50, 3, [[(i64 p2.op), (i64 p2.num), (ls eRExpr p2.kids)]]⟩]⟩ := (hA35 _ _ _).2 (by
       refine AX.all [6] rfl (by kernel_rfl) (by decide) ⟨?_, trivial⟩
       ·refine AXs.of (i := 6) rfl rfl (by rfl) ?_
        refine zq tb rfl ?_
        refine AO.done ⟨rfl, ?_⟩
        exact AX.weaken (by refine Wk.trans (Wk.permk (L := [(62, (.agg (eRSignatures p0))), (66, (ow 1 0 l32)), (68, (ls eRExpr p2.kids))]) (st' := [(ro 0 3 1 eI s0), (ro 0 3 1 eI l32)]) (st1 := [(ro 0 3 1 eI s0), (ro 0 3 1 eI l32)]) [0, 1] rfl (.pure (pure_map fun _ => rfl) .nil) (by decide) rfl rfl (.pure (pure_map fun _ => rfl) (.pure (pure_map fun _ => rfl) .nil)) ⟨.rfl, .rfl, .rfl, trivial⟩) ?_; exact Wk.to (L := [(62, (.agg (eRSignatures p0))), (66, (ow 1 0 l32)), (68, (ls eRExpr p2.kids))]) ⟨.rfl, .rfl, .rfl, trivial⟩) (AX.lst (by kernel_rfl) ((hA35 _ _ _).1 A35_0123456w1)) rfl)
      have A35_01234w1 : A35 6 #[true, true, true, true, true, false, false, false, false, false, false] ⟨194, envL [(5, (.ptr 1 0 0 0)), (62, (.agg (eRSignatures p0))), (66, (ow 2 0 l32))], [(ro 0 3 1 eI s0), ⟨0, 50, 3, [[(i64 p2.op), (i64 p2.num), (ls eRExpr p2.kids)]]⟩, (ro 0 3 1 eI l32)]⟩ := (hA35 _ _ _).2 (by
       refine AX.all [5] rfl (by kernel_rfl) (by decide) ⟨?_, trivial⟩
       ·refine AXs.of (i := 5) rfl rfl (by rfl) ?_
        refine zq tb rfl ?_
        refine AO.done ⟨rfl, ?_⟩
        exact AX.weaken (by refine Wk.trans (Wk.permk (L := [(62, (.agg (eRSignatures p0))), (66, (ow 1 0 l32)), (67, (.ptr 2 0 0 2))]) (st' := [(ro 0 3 1 eI s0), (ro 0 3 1 eI l32), ⟨0, 50, 3, [[(i64 p2.op), (i64 p2.num), (ls eRExpr p2.kids)]]⟩]) (st1 := [(ro 0 3 1 eI s0), (ro 0 3 1 eI l32), ⟨0, 50, 3, [[(i64 p2.op), (i64 p2.num), (ls eRExpr p2.kids)]]⟩]) [0, 2, 1] rfl (.pure (pure_map fun _ => rfl) .nil) (by decide) rfl rfl (.pure (pure_map fun _ => rfl) (.pure (pure_map fun _ => rfl) (.raw rfl rfl .nil))) ⟨.rfl, .rfl, .rfl, trivial⟩) ?_; exact Wk.to (L := [(62, (.agg (eRSignatures p0))), (66, (ow 1 0 l32)), (67, (.ptr 2 0 0 2))]) ⟨.rfl, .rfl, .rfl, trivial⟩) (AX.lst (by kernel_rfl) ((hA35 _ _ _).1 A35_012345w1)) rfl)
      have A35_01235678 : A35 3 #[true, true, true, true, false, true, true, true, true, false, false] ⟨194, envL [(62, (.agg (eRSignatures p0))), (63, (ow 0 0 s0)), (65, (ow 1 0 [q26])), (70, (.agg [(i64 c33.op), (i64 c33.num), (ls eRExpr c33.kids)]))], [(ro 0 3 1 eI s0), (ro 0 3 1 eI [q26])]⟩ := (hA35 _ _ _).2 (by
       refine AX.all [4] rfl (by kernel_rfl) (by decide) ⟨?_, trivial⟩
       ·refine AXs.fork (l := s0) (l2 := [q26]) (l' := l32) rfl rfl ei40 (pur_cons (pure_map fun _ => rfl) (fun _ hq => nomatch hq)) rfl rfl rfl (el_o rfl rfl) rfl (fun _ => rfl) (fun _ => (pure_map fun _ => rfl)) gl32 ?_ ?_
        ·exact AX.weaken (by refine Wk.trans (Wk.permk (L := [(62, (.agg (eRSignatures p0))), (66, (ow 0 0 l32)), (70, (.agg [(i64 c33.op), (i64 c33.num), (ls eRExpr c33.kids)]))]) (st' := [(ro 0 3 1 eI l32)]) (st1 := [(ro 0 3 1 eI l32)]) [0] rfl (.pure (pure_map fun _ => rfl) .nil) (by decide) rfl rfl (.pure (pure_map fun _ => rfl) .nil) ⟨.rfl, .rfl, .rfl, trivial⟩) ?_; exact Wk.to (L := [(62, (.agg (eRSignatures p0))), (66, (ow 0 0 l32)), (70, (.agg [(i64 c33.op), (i64 c33.num), (ls eRExpr c33.kids)]))]) ⟨.rfl, .rfl, .rfl, trivial⟩) (AX.lst (by kernel_rfl) ((hA35' _ _ _).1 A35_012345678w0)) rfl
        ·exact AX.weaken (by refine Wk.trans (Wk.permk (L := [(62, (.agg (eRSignatures p0))), (66, (ow 1 0 l32)), (70, (.agg [(i64 c33.op), (i64 c33.num), (ls eRExpr c33.kids)]))]) (st' := [(ro 0 3 1 eI s0), (ro 0 3 1 eI l32)]) (st1 := [(ro 0 3 1 eI s0), (ro 0 3 1 eI l32)]) [0, 2] rfl (.pure (pure_map fun _ => rfl) .nil) (by decide) rfl rfl (.pure (pure_map fun _ => rfl) (.pure (pure_map fun _ => rfl) .nil)) ⟨.rfl, .rfl, .rfl, trivial⟩) ?_; exact Wk.to (L := [(62, (.agg (eRSignatures p0))), (66, (ow 1 0 l32)), (70, (.agg [(i64 c33.op), (i64 c33.num), (ls eRExpr c33.kids)]))]) ⟨.rfl, .rfl, .rfl, trivial⟩) (AX.lst (by kernel_rfl) ((hA35 _ _ _).1 A35_012345678w1)) rfl)
      have A35_0123567 : A35 4 #[true, true, true, true, false, true, true, true, false, false, false] ⟨194, envL [(62, (.agg (eRSignatures p0))), (63, (ow 0 0 s0)), (65, (ow 1 0 [q26])), (69, (.iptr [(i64 c33.op), (i64 c33.num), (ls eRExpr c33.kids)] 0))], [(ro 0 3 1 eI s0), (ro 0 3 1 eI [q26])]⟩ := (hA35 _ _ _).2 (by
       refine AX.all [4, 8] rfl (by kernel_rfl) (by decide) ⟨?_, ?_, trivial⟩
       ·refine AXs.fork (l := s0) (l2 := [q26]) (l' := l32) rfl rfl ei40 (pur_cons (pure_map fun _ => rfl) (fun _ hq => nomatch hq)) rfl rfl rfl (el_o rfl rfl) rfl (fun _ => rfl) (fun _ => (pure_map fun _ => rfl)) gl32 ?_ ?_
        ·exact AX.weaken (by refine Wk.trans (Wk.permk (L := [(62, (.agg (eRSignatures p0))), (66, (ow 0 0 l32)), (69, (.iptr [(i64 c33.op), (i64 c33.num), (ls eRExpr c33.kids)] 0))]) (st' := [(ro 0 3 1 eI l32)]) (st1 := [(ro 0 3 1 eI l32)]) [0] rfl (.pure (pure_map fun _ => rfl) .nil) (by decide) rfl rfl (.pure (pure_map fun _ => rfl) .nil) ⟨.rfl, .rfl, .rfl, trivial⟩) ?_; exact Wk.to (L := [(62, (.agg (eRSignatures p0))), (66, (ow 0 0 l32)), (69, (.iptr [(i64 c33.op), (i64 c33.num), (ls eRExpr c33.kids)] 0))]) ⟨.rfl, .rfl, .rfl, trivial⟩) (AX.lst (by kernel_rfl) ((hA35' _ _ _).1 A35_01234567w0)) rfl
        ·exact AX.weaken (by refine Wk.trans (Wk.permk (L := [(62, (.agg (eRSignatures p0))), (66, (ow 1 0 l32)), (69, (.iptr [(i64 c33.op), (i64 c33.num), (ls eRExpr c33.kids)] 0))]) (st' := [(ro 0 3 1 eI s0), (ro 0 3 1 eI l32)]) (st1 := [(ro 0 3 1 eI s0), (ro 0 3 1 eI l32)]) [0, 2] rfl (.pure (pure_map fun _ => rfl) .nil) (by decide) rfl rfl (.pure (pure_map fun _ => rfl) (.pure (pure_map fun _ => rfl) .nil)) ⟨.rfl, .rfl, .rfl, trivial⟩) ?_; exact Wk.to (L := [(62, (.agg (eRSignatures p0))), (66, (ow 1 0 l32)), (69, (.iptr [(i64 c33.op), (i64 c33.num), (ls eRExpr c33.kids)] 0))]) ⟨.rfl, .rfl, .rfl, trivial⟩) (AX.lst (by kernel_rfl) ((hA35 _ _ _).1 A35_01234567w1)) rfl
       ·refine AXs.of (i := 8) rfl rfl (by rfl) ?_
        refine zq tb rfl ?_
        refine AO.done ⟨rfl, ?_⟩
        exact AX.weaken (Wk.to (L := [(62, (.agg (eRSignatures p0))), (63, (ow 0 0 s0)), (65, (ow 1 0 [q26])), (70, (.agg [(i64 c33.op), (i64 c33.num), (ls eRExpr c33.kids)]))]) ⟨.rfl, .rfl, .rfl, .rfl, trivial⟩) (AX.lst (by kernel_rfl) ((hA35 _ _ _).1 A35_01235678)) rfl)
      have A35_012356 : A35 5 #[true, true, true, true, false, true, true, false, false, false, false] ⟨194, envL [(62, (.agg (eRSignatures p0))), (63, (ow 0 0 s0)), (65, (ow 1 0 [q26])), (68, (ls eRExpr p2.kids))], [(ro 0 3 1 eI s0), (ro 0 3 1 eI [q26])]⟩ := (hA35 _ _ _).2 (by
       refine AX.all [4, 7] rfl (by kernel_rfl) (by decide) ⟨?_, ?_, trivial⟩
       ·refine AXs.fork (l := s0) (l2 := [q26]) (l' := l32) rfl rfl ei40 (pur_cons (pure_map fun _ => rfl) (fun _ hq => nomatch hq)) rfl rfl rfl (el_o rfl rfl) rfl (fun _ => rfl) (fun _ => (pure_map fun _ => rfl)) gl32 ?_ ?_
        ·exact AX.weaken (by refine Wk.trans (Wk.permk (L := [(62, (.agg (eRSignatures p0))), (66, (ow 0 0 l32)), (68, (ls eRExpr p2.kids))]) (st' := [(ro 0 3 1 eI l32)]) (st1 := [(ro 0 3 1 eI l32)]) [0] rfl (.pure (pure_map fun _ => rfl) .nil) (by decide) rfl rfl (.pure (pure_map fun _ => rfl) .nil) ⟨.rfl, .rfl, .rfl, trivial⟩) ?_; exact Wk.to (L := [(62, (.agg (eRSignatures p0))), (66, (ow 0 0 l32)), (68, (ls eRExpr p2.kids))]) ⟨.rfl, .rfl, .rfl, trivial⟩) (AX.lst (by kernel_rfl) ((hA35' _ _ _).1 A35_0123456w0)) rfl
        ·exact AX.weaken (by refine Wk.trans (Wk.permk (L := [(62, (.agg (eRSignatures p0))), (66, (ow 1 0 l32)), (68, (ls eRExpr p2.kids))]) (st' := [(ro 0 3 1 eI s0), (ro 0 3 1 eI l32)]) (st1 := [(ro 0 3 1 eI s0), (ro 0 3 1 eI l32)]) [0, 2] rfl (.pure (pure_map fun _ => rfl) .nil) (by decide) rfl rfl (.pure (pure_map fun _ => rfl) (.pure (pure_map fun _ => rfl) .nil)) ⟨.rfl, .rfl, .rfl, trivial⟩) ?_; exact Wk.to (L := [(62, (.agg (eRSignatures p0))), (66, (ow 1 0 l32)), (68, (ls eRExpr p2.kids))]) ⟨.rfl, .rfl, .rfl, trivial⟩) (AX.lst (by kernel_rfl) ((hA35 _ _ _).1 A35_0123456w1)) rfl
       ·refine AXs.of (i := 7) rfl rfl (by rfl) ?_
        refine zz (.iptr [(i64 c33.op), (i64 c33.num), (ls eRExpr c33.kids)] 0) (aq_ixsE ei48 rfl rfl gc33 (eRExpr_eq _) rfl) rfl ?_
        refine AO.done ⟨rfl, ?_⟩
        exact AX.weaken (Wk.to (L := [(62, (.agg (eRSignatures p0))), (63, (ow 0 0 s0)), (65, (ow 1 0 [q26])), (69, (.iptr [(i64 c33.op), (i64 c33.num), (ls eRExpr c33.kids)] 0))]) ⟨.rfl, .rfl, .rfl, .rfl, trivial⟩) (AX.lst (by kernel_rfl) ((hA35 _ _ _).1 A35_0123567)) rfl)
      have A35_01235 : A35 6 #[true, true, true, true, false, true, false, false, false, false, false] ⟨194, envL [(62, (.agg (eRSignatures p0))), (63, (ow 0 0 s0)), (65, (ow 1 0 [q26])), (67, (.ptr 2 0 0 2))], [(ro 0 3 1 eI s0), (ro 0 3 1 eI [q26]), ⟨0, 50, 3, [[(i64 p2.op), (i64 p2.num), (ls eRExpr p2.kids)]]⟩]⟩ := (hA35 _ _ _).2 (by
       refine AX.all [4, 6] rfl (by kernel_rfl) (by decide) ⟨?_, ?_, trivial⟩
       ·refine AXs.fork (l := s0) (l2 := [q26]) (l' := l32) rfl rfl ei40 (pur_cons (pure_map fun _ => rfl) (pur_cons (pure_raw rfl) (fun _ hq => nomatch hq))) rfl rfl rfl (el_o rfl rfl) rfl (fun _ => rfl) (fun _ => (pure_map fun _ => rfl)) gl32 ?_ ?_
        ·exact AX.weaken (by refine Wk.trans (Wk.permk (L := [(62, (.agg (eRSignatures p0))), (66, (ow 0 0 l32)), (67, (.ptr 1 0 0 2))]) (st' := [(ro 0 3 1 eI l32), ⟨0, 50, 3, [[(i64 p2.op), (i64 p2.num), (ls eRExpr p2.kids)]]⟩]) (st1 := [(ro 0 3 1 eI l32), ⟨0, 50, 3, [[(i64 p2.op), (i64 p2.num), (ls eRExpr p2.kids)]]⟩]) [0, 2] rfl (.pure (pure_map fun _ => rfl) .nil) (by decide) rfl rfl (.pure (pure_map fun _ => rfl) (.raw rfl rfl .nil)) ⟨.rfl, .rfl, .rfl, trivial⟩) ?_; exact Wk.to (L := [(62, (.agg (eRSignatures p0))), (66, (ow 0 0 l32)), (67, (.ptr 1 0 0 2))]) ⟨.rfl, .rfl, .rfl, trivial⟩) (AX.lst (by kernel_rfl) ((hA35' _ _ _).1 A35_012345w0)) rfl
        ·exact AX.weaken (by refine Wk.trans (Wk.permk (L := [(62, (.agg (eRSignatures p0))), (66, (ow 1 0 l32)), (67, (.ptr 2 0 0 2))]) (st' := [(ro 0 3 1 eI s0), (ro 0 3 1 eI l32), ⟨0, 50, 3, [[(i64 p2.op), (i64 p2.num), (ls eRExpr p2.kids)]]⟩]) (st1 := [(ro 0 3 1 eI s0), (ro 0 3 1 eI l32), ⟨0, 50, 3, [[(i64 p2.op), (i64 p2.num), (ls eRExpr p2.kids)]]⟩]) [0, 3, 2] rfl (.pure (pure_map fun _ => rfl) .nil) (by decide) rfl rfl (.pure (pure_map fun _ => rfl) (.pure (pure_map fun _ => rfl) (.raw rfl rfl .nil))) ⟨.rfl, .rfl, .rfl, trivial⟩) ?_; exact Wk.to (L := [(62, (.agg (eRSignatures p0))), (66, (ow 1 0 l32)), (67, (.ptr 2 0 0 2))]) ⟨.rfl, .rfl, .rfl, trivial⟩) (AX.lst (by kernel_rfl) ((hA35 _ _ _).1 A35_012345w1)) rfl
       ·refine AXs.of (i := 6) rfl rfl (by rfl) ?_
        refine zq tb rfl ?_
        refine AO.done ⟨rfl, ?_⟩
        exact AX.weaken (by refine Wk.trans (Wk.permk (L := [(62, (.agg (eRSignatures p0))), (63, (ow 0 0 s0)), (65, (ow 1 0 [q26])), (68, (ls eRExpr p2.kids))]) (st' := [(ro 0 3 1 eI s0), (ro 0 3 1 eI [q26])]) (st1 := [(ro 0 3 1 eI s0), (ro 0 3 1 eI [q26])]) [0, 1] rfl (.pure (pure_map fun _ => rfl) .nil) (by decide) rfl rfl (.pure (pure_map fun _ => rfl) (.pure (pure_map fun _ => rfl) .nil)) ⟨.rfl, .rfl, .rfl, .rfl, trivial⟩) ?_; exact Wk.to (L := [(62, (.agg (eRSignatures p0))), (63, (ow 0 0 s0)), (65, (ow 1 0 [q26])), (68, (ls eRExpr p2.kids))]) ⟨.rfl, .rfl, .rfl, .rfl, trivial⟩) (AX.lst (by kernel_rfl) ((hA35 _ _ _).1 A35_012356)) rfl)
      have A35_0123 : A35 7 #[true, true, true, true, false, false, false, false, false, false, false] ⟨194, envL [(5, (.ptr 1 0 0 0)), (62, (.agg (eRSignatures p0))), (63, (ow 0 0 s0)), (65, (ow 2 0 [q26]))], [(ro 0 3 1 eI s0), ⟨0, 50, 3, [[(i64 p2.op), (i64 p2.num), (ls eRExpr p2.kids)]]⟩, (ro 0 3 1 eI [q26])]⟩ := (hA35 _ _ _).2 (by
       refine AX.all [4, 5] rfl (by kernel_rfl) (by decide) ⟨?_, ?_, trivial⟩
       ·refine AXs.fork (l := s0) (l2 := [q26]) (l' := l32) rfl rfl ei40 (pur_cons (pure_raw rfl) (pur_cons (pure_map fun _ => rfl) (fun _ hq => nomatch hq))) rfl rfl rfl (el_o rfl rfl) rfl (fun _ => rfl) (fun _ => (pure_map fun _ => rfl)) gl32 ?_ ?_
        ·exact AX.weaken (by refine Wk.trans (Wk.permk (L := [(5, (.ptr 1 0 0 0)), (62, (.agg (eRSignatures p0))), (66, (ow 0 0 l32))]) (st' := [(ro 0 3 1 eI l32), ⟨0, 50, 3, [[(i64 p2.op), (i64 p2.num), (ls eRExpr p2.kids)]]⟩]) (st1 := [(ro 0 3 1 eI l32), ⟨0, 50, 3, [[(i64 p2.op), (i64 p2.num), (ls eRExpr p2.kids)]]⟩]) [0, 1] rfl (.pure (pure_map fun _ => rfl) .nil) (by decide) rfl rfl (.pure (pure_map fun _ => rfl) (.raw rfl rfl .nil)) ⟨.rfl, .rfl, .rfl, trivial⟩) ?_; exact Wk.to (L := [(5, (.ptr 1 0 0 0)), (62, (.agg (eRSignatures p0))), (66, (ow 0 0 l32))]) ⟨.rfl, .rfl, .rfl, trivial⟩) (AX.lst (by kernel_rfl) ((hA35' _ _ _).1 A35_01234w0)) rfl
        ·exact AX.weaken (by refine Wk.trans (Wk.permk (L := [(5, (.ptr 1 0 0 0)), (62, (.agg (eRSignatures p0))), (66, (ow 2 0 l32))]) (st' := [(ro 0 3 1 eI s0), ⟨0, 50, 3, [[(i64 p2.op), (i64 p2.num), (ls eRExpr p2.kids)]]⟩, (ro 0 3 1 eI l32)]) (st1 := [(ro 0 3 1 eI s0), ⟨0, 50, 3, [[(i64 p2.op), (i64 p2.num), (ls eRExpr p2.kids)]]⟩, (ro 0 3 1 eI l32)]) [0, 1, 3] rfl (.pure (pure_map fun _ => rfl) .nil) (by decide) rfl rfl (.pure (pure_map fun _ => rfl) (.raw rfl rfl (.pure (pure_map fun _ => rfl) .nil))) ⟨.rfl, .rfl, .rfl, trivial⟩) ?_; exact Wk.to (L := [(5, (.ptr 1 0 0 0)), (62, (.agg (eRSignatures p0))), (66, (ow 2 0 l32))]) ⟨.rfl, .rfl, .rfl, trivial⟩) (AX.lst (by kernel_rfl) ((hA35 _ _ _).1 A35_01234w1)) rfl
       ·refine AXs.of (i := 5) rfl rfl (by rfl) ?_
        refine zq tb rfl ?_
        refine AO.done ⟨rfl, ?_⟩
        exact AX.weaken (by refine Wk.trans (Wk.permk (L := [(62, (.agg (eRSignatures p0))), (63, (ow 0 0 s0)), (65, (ow 1 0 [q26])), (67, (.ptr 2 0 0 2))]) (st' := [(ro 0 3 1 eI s0), (ro 0 3 1 eI [q26]), ⟨0, 50, 3, [[(i64 p2.op), (i64 p2.num), (ls eRExpr p2.kids)]]⟩]) (st1 := [(ro 0 3 1 eI s0), (ro 0 3 1 eI [q26]), ⟨0, 50, 3, [[(i64 p2.op), (i64 p2.num), (ls eRExpr p2.kids)]]⟩]) [0, 2, 1] rfl (.pure (pure_map fun _ => rfl) .nil) (by decide) rfl rfl (.pure (pure_map fun _ => rfl) (.pure (pure_map fun _ => rfl) (.raw rfl rfl .nil))) ⟨.rfl, .rfl, .rfl, .rfl, trivial⟩) ?_; exact Wk.to (L := [(62, (.agg (eRSignatures p0))), (63, (ow 0 0 s0)), (65, (ow 1 0 [q26])), (67, (.ptr 2 0 0 2))]) ⟨.rfl, .rfl, .rfl, .rfl, trivial⟩) (AX.lst (by kernel_rfl) ((hA35 _ _ _).1 A35_01235)) rfl)
      have A35_0125678 : A35 4 #[true, true, true, false, false, true, true, true, true, false, false] ⟨194, envL [(62, (.agg (eRSignatures p0))), (63, (ow 0 0 s0)), (64, (i64 q26)), (70, (.agg [(i64 c33.op), (i64 c33.num), (ls eRExpr c33.kids)]))], [(ro 0 3 1 eI s0)]⟩ := (hA35 _ _ _).2 (by
       refine AX.all [3] rfl (by kernel_rfl) (by decide) ⟨?_, trivial⟩
       ·refine AXs.of (i := 3) rfl rfl (by rfl) ?_
        refine ao_bs (m := 1) (st' := [(ro 0 3 1 eI s0), (ro 0 3 1 eI [q26])]) (l := [q26]) (enc := eI) go0 ei40 (by decide) rfl rfl rfl rfl rfl rfl ?_
        refine AO.done ⟨rfl, ?_⟩
        exact AX.weaken (Wk.to (L := [(62, (.agg (eRSignatures p0))), (63, (ow 0 0 s0)), (65, (ow 1 0 [q26])), (70, (.agg [(i64 c33.op), (i64 c33.num), (ls eRExpr c33.kids)]))]) ⟨.rfl, .rfl, .rfl, .rfl, trivial⟩) (AX.lst (by kernel_rfl) ((hA35 _ _ _).1 A35_01235678)) rfl)
      have A35_012567 : A35 5 #[true, true, true, false, false, true, true, true, false, false, false] ⟨194, envL [(62, (.agg (eRSignatures p0))), (63, (ow 0 0 s0)), (64, (i64 q26)), (69, (.iptr [(i64 c33.op), (i64 c33.num), (ls eRExpr c33.kids)] 0))], [(ro 0 3 1 eI s0)]⟩ := (hA35 _ _ _).2 (by
       refine AX.all [3, 8] rfl (by kernel_rfl) (by decide) ⟨?_, ?_, trivial⟩
       ·refine AXs.of (i := 3) rfl rfl (by rfl) ?_
        refine ao_bs (m := 1) (st' := [(ro 0 3 1 eI s0), (ro 0 3 1 eI [q26])]) (l := [q26]) (enc := eI) go0 ei40 (by decide) rfl rfl rfl rfl rfl rfl ?_
        refine AO.done ⟨rfl, ?_⟩
        exact AX.weaken (Wk.to (L := [(62, (.agg (eRSignatures p0))), (63, (ow 0 0 s0)), (65, (ow 1 0 [q26])), (69, (.iptr [(i64 c33.op), (i64 c33.num), (ls eRExpr c33.kids)] 0))]) ⟨.rfl, .rfl, .rfl, .rfl, trivial⟩) (AX.lst (by kernel_rfl) ((hA35 _ _ _).1 A35_0123567)) rfl
       ·refine AXs.of (i := 8) rfl rfl (by rfl) ?_
        refine zq tb rfl ?_
        refine AO.done ⟨rfl, ?_⟩
        exact AX.weaken (Wk.to (L := [(62, (.agg (eRSignatures p0))), (63, (ow 0 0 s0)), (64, (i64 q26)), (70, (.agg [(i64 c33.op), (i64 c33.num), (ls eRExpr c33.kids)]))]) ⟨.rfl, .rfl, .rfl, .rfl, trivial⟩) (AX.lst (by kernel_rfl) ((hA35 _ _ _).1 A35_0125678)) rfl)
      have A35_01256 : A35 6 #[true, true, true, false, false, true, true, false, false, false, false] ⟨194, envL [(62, (.agg (eRSignatures p0))), (63, (ow 0 0 s0)), (64, (i64 q26)), (68, (ls eRExpr p2.kids))], [(ro 0 3 1 eI s0)]⟩ := (hA35 _ _ _).2 (by
       refine AX.all [3, 7] rfl (by kernel_rfl) (by decide) ⟨?_, ?_, trivial⟩
       ·refine AXs.of (i := 3) rfl rfl (by rfl) ?_
        refine ao_bs (m := 1) (st' := [(ro 0 3 1 eI s0), (ro 0 3 1 eI [q26])]) (l := [q26]) (enc := eI) go0 ei40 (by decide) rfl rfl rfl rfl rfl rfl ?_
        refine AO.done ⟨rfl, ?_⟩
        exact AX.weaken (Wk.to (L := [(62, (.agg (eRSignatures p0))), (63, (ow 0 0 s0)), (65, (ow 1 0 [q26])), (68, (ls eRExpr p2.kids))]) ⟨.rfl, .rfl, .rfl, .rfl, trivial⟩) (AX.lst (by kernel_rfl) ((hA35 _ _ _).1 A35_012356)) rfl
       ·refine AXs.of (i := 7) rfl rfl (by rfl) ?_
        refine zz (.iptr [(i64 c33.op), (i64 c33.num), (ls eRExpr c33.kids)] 0) (aq_ixsE ei48 rfl rfl gc33 (eRExpr_eq _) rfl) rfl ?_
        refine AO.done ⟨rfl, ?_⟩
        exact AX.weaken (Wk.to (L := [(62, (.agg (eRSignatures p0))), (63, (ow 0 0 s0)), (64, (i64 q26)), (69, (.iptr [(i64 c33.op), (i64 c33.num), (ls eRExpr c33.kids)] 0))]) ⟨.rfl, .rfl, .rfl, .rfl, trivial⟩) (AX.lst (by kernel_rfl) ((hA35 _ _ _).1 A35_012567)) rfl)
      have A35_0125 : A35 7 #[true, true, true, false, false, true, false, false, false, false, false] ⟨194, envL [(62, (.agg (eRSignatures p0))), (63, (ow 0 0 s0)), (64, (i64 q26)), (67, (.ptr 1 0 0 2))], [(ro 0 3 1 eI s0), ⟨0, 50, 3, [[(i64 p2.op), (i64 p2.num), (ls eRExpr p2.kids)]]⟩]⟩ := (hA35 _ _ _).2 (by
       refine AX.all [3, 6] rfl (by kernel_rfl) (by decide) ⟨?_, ?_, trivial⟩
       ·refine AXs.of (i := 3) rfl rfl (by rfl) ?_
        refine ao_bs (m := 2) (st' := [(ro 0 3 1 eI s0), ⟨0, 50, 3, [[(i64 p2.op), (i64 p2.num), (ls eRExpr p2.kids)]]⟩, (ro 0 3 1 eI [q26])]) (l := [q26]) (enc := eI) go0 ei40 (by decide) rfl rfl rfl rfl rfl rfl ?_
        refine AO.done ⟨rfl, ?_⟩
        exact AX.weaken (by refine Wk.trans (Wk.permk (L := [(62, (.agg (eRSignatures p0))), (63, (ow 0 0 s0)), (65, (ow 1 0 [q26])), (67, (.ptr 2 0 0 2))]) (st' := [(ro 0 3 1 eI s0), (ro 0 3 1 eI [q26]), ⟨0, 50, 3, [[(i64 p2.op), (i64 p2.num), (ls eRExpr p2.kids)]]⟩]) (st1 := [(ro 0 3 1 eI s0), (ro 0 3 1 eI [q26]), ⟨0, 50, 3, [[(i64 p2.op), (i64 p2.num), (ls eRExpr p2.kids)]]⟩]) [0, 2, 1] rfl (.pure (pure_map fun _ => rfl) .nil) (by decide) rfl rfl (.pure (pure_map fun _ => rfl) (.pure (pure_map fun _ => rfl) (.raw rfl rfl .nil))) ⟨.rfl, .rfl, .rfl, .rfl, trivial⟩) ?_; exact Wk.to (L := [(62, (.agg (eRSignatures p0))), (63, (ow 0 0 s0)), (65, (ow 1 0 [q26])), (67, (.ptr 2 0 0 2))]) ⟨.rfl, .rfl, .rfl, .rfl, trivial⟩) (AX.lst (by kernel_rfl) ((hA35 _ _ _).1 A35_01235)) rfl
       ·refine AXs.of (i := 6) rfl rfl (by rfl) ?_
        refine zq tb rfl ?_
        refine AO.done ⟨rfl, ?_⟩
        exact AX.weaken (by refine Wk.trans (Wk.permk (L := [(62, (.agg (eRSignatures p0))), (63, (ow 0 0 s0)), (64, (i64 q26)), (68, (ls eRExpr p2.kids))]) (st' := [(ro 0 3 1 eI s0)]) (st1 := [(ro 0 3 1 eI s0)]) [0] rfl (.pure (pure_map fun _ => rfl) .nil) (by decide) rfl rfl (.pure (pure_map fun _ => rfl) .nil) ⟨.rfl, .rfl, .rfl, .rfl, trivial⟩) ?_; exact Wk.to (L := [(62, (.agg (eRSignatures p0))), (63, (ow 0 0 s0)), (64, (i64 q26)), (68, (ls eRExpr p2.kids))]) ⟨.rfl, .rfl, .rfl, .rfl, trivial⟩) (AX.lst (by kernel_rfl) ((hA35 _ _ _).1 A35_01256)) rfl)
      have A35_012 : A35 8 #[true, true, true, false, false, false, false, false, false, false, false] ⟨194, envL [(5, (.ptr 1 0 0 0)), (62, (.agg (eRSignatures p0))), (63, (ow 0 0 s0)), (64, (i64 q26))], [(ro 0 3 1 eI s0), ⟨0, 50, 3, [[(i64 p2.op), (i64 p2.num), (ls eRExpr p2.kids)]]⟩]⟩ := (hA35 _ _ _).2 (by
       refine AX.all [3, 5] rfl (by kernel_rfl) (by decide) ⟨?_, ?_, trivial⟩
       ·refine AXs.of (i := 3) rfl rfl (by rfl) ?_
        refine ao_bs (m := 2) (st' := [(ro 0 3 1 eI s0), ⟨0, 50, 3, [[(i64 p2.op), (i64 p2.num), (ls eRExpr p2.kids)]]⟩, (ro 0 3 1 eI [q26])]) (l := [q26]) (enc := eI) go0 ei40 (by decide) rfl rfl rfl rfl rfl rfl ?_
        refine AO.done ⟨rfl, ?_⟩
        exact AX.weaken (Wk.to (L := [(5, (.ptr 1 0 0 0)), (62, (.agg (eRSignatures p0))), (63, (ow 0 0 s0)), (65, (ow 2 0 [q26]))]) ⟨.rfl, .rfl, .rfl, .rfl, trivial⟩) (AX.lst (by kernel_rfl) ((hA35 _ _ _).1 A35_0123)) rfl
       ·refine AXs.of (i := 5) rfl rfl (by rfl) ?_
        refine zq tb rfl ?_
        refine AO.done ⟨rfl, ?_⟩
        exact AX.weaken (Wk.to (L := [(62, (.agg (eRSignatures p0))), (63, (ow 0 0 s0)), (64, (i64 q26)), (67, (.ptr 1 0 0 2))]) ⟨.rfl, .rfl, .rfl, .rfl, trivial⟩) (AX.lst (by kernel_rfl) ((hA35 _ _ _).1 A35_0125)) rfl)
      have A35_12345678w0 : A35' 3 #[false, true, true, true, true, true, true, true, true, false, false] ⟨194, envL [(3, (.ptr 1 0 0 0)), (66, (ow 0 0 l32)), (70, (.agg [(i64 c33.op), (i64 c33.num), (ls eRExpr c33.kids)]))], [(ro 0 3 1 eI l32), ⟨0, 97, 2, [(eRSignatures p0)]⟩]⟩ := (hA35' _ _ _).2 (by
       refine AX.all [0] rfl (by kernel_rfl) (by decide) ⟨?_, trivial⟩
       ·refine AXs.of (i := 0) rfl rfl (by rfl) ?_
        refine zq tb rfl ?_
        refine AO.done ⟨rfl, ?_⟩
        exact AX.weaken (by refine Wk.trans (Wk.permk (L := [(62, (.agg (eRSignatures p0))), (66, (ow 0 0 l32)), (70, (.agg [(i64 c33.op), (i64 c33.num), (ls eRExpr c33.kids)]))]) (st' := [(ro 0 3 1 eI l32)]) (st1 := [(ro 0 3 1 eI l32)]) [0] rfl (.pure (pure_map fun _ => rfl) .nil) (by decide) rfl rfl (.pure (pure_map fun _ => rfl) .nil) ⟨.rfl, .rfl, .rfl, trivial⟩) ?_; exact Wk.to (L := [(62, (.agg (eRSignatures p0))), (66, (ow 0 0 l32)), (70, (.agg [(i64 c33.op), (i64 c33.num), (ls eRExpr c33.kids)]))]) ⟨.rfl, .rfl, .rfl, trivial⟩) (AX.lst (by kernel_rfl) ((hA35' _ _ _).1 A35_012345678w0)) rfl)
      have A35_1234567w0 : A35' 4 #[false, true, true, true, true, true, true, true, false, false, false] ⟨194, envL [(3, (.ptr 1 0 0 0)), (66, (ow 0 0 l32)), (69, (.iptr [(i64 c33.op), (i64 c33.num), (ls eRExpr c33.kids)] 0))], [(ro 0 3 1 eI l32), ⟨0, 97, 2, [(eRSignatures p0)]⟩]⟩ := (hA35' _ _ _).2 (by
       refine AX.all [0, 8] rfl (by kernel_rfl) (by decide) ⟨?_, ?_, trivial⟩
       ·refine AXs.of (i := 0) rfl rfl (by rfl) ?_
        refine zq tb rfl ?_
        refine AO.done ⟨rfl, ?_⟩
        exact AX.weaken (by refine Wk.trans (Wk.permk (L := [(62, (.agg (eRSignatures p0))), (66, (ow 0 0 l32)), (69, (.iptr [(i64 c33.op), (i64 c33.num), (ls eRExpr c33.kids)] 0))]) (st' := [(ro 0 3 1 eI l32)]) (st1 := [(ro 0 3 1 eI l32)]) [0] rfl (.pure (pure_map fun _ => rfl) .nil) (by decide) rfl rfl (.pure (pure_map fun _ => rfl) .nil) ⟨.rfl, .rfl, .rfl, trivial⟩) ?_; exact Wk.to (L := [(62, (.agg (eRSignatures p0))), (66, (ow 0 0 l32)), (69, (.iptr [(i64 c33.op), (i64 c33.num), (ls eRExpr c33.kids)] 0))]) ⟨.rfl, .rfl, .rfl, trivial⟩) (AX.lst (by kernel_rfl) ((hA35' _ _ _).1 A35_01234567w0)) rfl
       ·refine AXs.of (i := 8) rfl rfl (by rfl) ?_
        refine zq tb rfl ?_
        refine AO.done ⟨rfl, ?_⟩
        exact AX.weaken (Wk.to (L := [(3, (.ptr 1 0 0 0)), (66, (ow 0 0 l32)), (70, (.agg [(i64 c33.op), (i64 c33.num), (ls eRExpr c33.kids)]))]) ⟨.rfl, .rfl, .rfl, trivial⟩) (AX.lst (by kernel_rfl) ((hA35' _ _ _).1 A35_12345678w0)) rfl)
      have A35_123456w0 : A35' 5 #[false, true, true, true, true, true, true, false, false, false, false] ⟨194, envL [(3, (.ptr 1 0 0 0)), (66, (ow 0 0 l32)), (68, (ls eRExpr p2.kids))], [(ro 0 3 1 eI l32), ⟨0, 97, 2, [(eRSignatures p0)]⟩]⟩ := (hA35' _ _ _).2 (by
       refine AX.all [0, 7] rfl (by kernel_rfl) (by decide) ⟨?_, ?_, trivial⟩
       ·refine AXs.of (i := 0) rfl rfl (by rfl) ?_
        refine zq tb rfl ?_
        refine AO.done ⟨rfl, ?_⟩
        exact AX.weaken (by refine Wk.trans (Wk.permk (L := [(62, (.agg (eRSignatures p0))), (66, (ow 0 0 l32)), (68, (ls eRExpr p2.kids))]) (st' := [(ro 0 3 1 eI l32)]) (st1 := [(ro 0 3 1 eI l32)]) [0] rfl (.pure (pure_map fun _ => rfl) .nil) (by decide) rfl rfl (.pure (pure_map fun _ => rfl) .nil) ⟨.rfl, .rfl, .rfl, trivial⟩) ?_; exact Wk.to (L := [(62, (.agg (eRSignatures p0))), (66, (ow 0 0 l32)), (68, (ls eRExpr p2.kids))]) ⟨.rfl, .rfl, .rfl, trivial⟩) (AX.lst (by kernel_rfl) ((hA35' _ _ _).1 A35_0123456w0)) rfl
       ·refine AXs.of (i := 7) rfl rfl (by rfl) ?_
        refine zz (.iptr [(i64 c33.op), (i64 c33.num), (ls eRExpr c33.kids)] 0) (aq_ixsE ei48 rfl rfl gc33 (eRExpr_eq _) rfl) rfl ?_
        refine AO.done ⟨rfl, ?_⟩
        exact AX.weaken (Wk.to (L := [(3, (.ptr 1 0 0 0)), (66, (ow 0 0 l32)), (69, (.iptr [(i64 c33.op), (i64 c33.num), (ls eRExpr c33.kids)] 0))]) ⟨.rfl, .rfl, .rfl, trivial⟩) (AX.lst (by kernel_rfl) ((hA35' _ _ _).1 A35_1234567w0)) rfl)
      have A35_12345w0 : A35' 6 #[false, true, true, true, true, true, false, false, false, false, false] ⟨194, envL [(3, (.ptr 1 0 0 0)), (66, (ow 0 0 l32)), (67, (.ptr 2 0 0 2))], [(ro 0 3 1 eI l32), ⟨0, 97, 2, [(eRSignatures p0)]⟩, ⟨0, 50, 3, [[(i64 p2.op), (i64 p2.num), (ls eRExpr p2.kids)]]⟩]⟩ := (hA35' _ _ _).2 (by
       refine AX.all [0, 6] rfl (by kernel_rfl) (by decide) ⟨?_, ?_, trivial⟩
       ·refine AXs.of (i := 0) rfl rfl (by rfl) ?_
        refine zq tb rfl ?_
        refine AO.done ⟨rfl, ?_⟩
        exact AX.weaken (by refine Wk.trans (Wk.permk (L := [(62, (.agg (eRSignatures p0))), (66, (ow 0 0 l32)), (67, (.ptr 1 0 0 2))]) (st' := [(ro 0 3 1 eI l32), ⟨0, 50, 3, [[(i64 p2.op), (i64 p2.num), (ls eRExpr p2.kids)]]⟩]) (st1 := [(ro 0 3 1 eI l32), ⟨0, 50, 3, [[(i64 p2.op), (i64 p2.num), (ls eRExpr p2.kids)]]⟩]) [0, 2] rfl (.pure (pure_map fun _ => rfl) .nil) (by decide) rfl rfl (.pure (pure_map fun _ => rfl) (.raw rfl rfl .nil)) ⟨.rfl, .rfl, .rfl, trivial⟩) ?_; exact Wk.to (L := [(62, (.agg (eRSignatures p0))), (66, (ow 0 0 l32)), (67, (.ptr 1 0 0 2))]) ⟨.rfl, .rfl, .rfl, trivial⟩) (AX.lst (by kernel_rfl) ((hA35' _ _ _).1 A35_012345w0)) rfl
       ·refine AXs.of (i := 6) rfl rfl (by rfl) ?_
        refine zq tb rfl ?_
        refine AO.done ⟨rfl, ?_⟩
        exact AX.weaken (by refine Wk.trans (Wk.permk (L := [(3, (.ptr 1 0 0 0)), (66, (ow 0 0 l32)), (68, (ls eRExpr p2.kids))]) (st' := [(ro 0 3 1 eI l32), ⟨0, 97, 2, [(eRSignatures p0)]⟩]) (st1 := [(ro 0 3 1 eI l32), ⟨0, 97, 2, [(eRSignatures p0)]⟩]) [0, 1] rfl (.pure (pure_map fun _ => rfl) .nil) (by decide) rfl rfl (.pure (pure_map fun _ => rfl) (.raw rfl rfl .nil)) ⟨.rfl, .rfl, .rfl, trivial⟩) ?_; exact Wk.to (L := [(3, (.ptr 1 0 0 0)), (66, (ow 0 0 l32)), (68, (ls eRExpr p2.kids))]) ⟨.rfl, .rfl, .rfl, trivial⟩) (AX.lst (by kernel_rfl) ((hA35' _ _ _).1 A35_123456w0)) rfl)
      have A35_1234w0 : A35' 7 #[false, true, true, true, true, false, false, false, false, false, false] ⟨194, envL [(3, (.ptr 1 0 0 0)), (5, (.ptr 2 0 0 0)), (66, (ow 0 0 l32))], [(ro 0 3 1 eI l32), ⟨0, 97, 2, [(eRSignatures p0)]⟩, ⟨0, 50, 3, [[(i64 p2.op), (i64 p2.num), (ls eRExpr p2.kids)]]⟩]⟩ := (hA35' _ _ _).2 (by
       refine AX.all [0, 5] rfl (by kernel_rfl) (by decide) ⟨?_, ?_, trivial⟩
       ·refine AXs.of (i := 0) rfl rfl (by rfl) ?_
        refine zq tb rfl ?_
        refine AO.done ⟨rfl, ?_⟩
        exact AX.weaken (by refine Wk.trans (Wk.permk (L := [(5, (.ptr 1 0 0 0)), (62, (.agg (eRSignatures p0))), (66, (ow 0 0 l32))]) (st' := [(ro 0 3 1 eI l32), ⟨0, 50, 3, [[(i64 p2.op), (i64 p2.num), (ls eRExpr p2.kids)]]⟩]) (st1 := [(ro 0 3 1 eI l32), ⟨0, 50, 3, [[(i64 p2.op), (i64 p2.num), (ls eRExpr p2.kids)]]⟩]) [0, 2] rfl (.pure (pure_map fun _ => rfl) .nil) (by decide) rfl rfl (.pure (pure_map fun _ => rfl) (.raw rfl rfl .nil)) ⟨.rfl, .rfl, .rfl, trivial⟩) ?_; exact Wk.to (L := [(5, (.ptr 1 0 0 0)), (62, (.agg (eRSignatures p0))), (66, (ow 0 0 l32))]) ⟨.rfl, .rfl, .rfl, trivial⟩) (AX.lst (by kernel_rfl) ((hA35' _ _ _).1 A35_01234w0)) rfl
       ·refine AXs.of (i := 5) rfl rfl (by rfl) ?_
        refine zq tb rfl ?_
        refine AO.done ⟨rfl, ?_⟩
        exact AX.weaken (Wk.to (L := [(3, (.ptr 1 0 0 0)), (66, (ow 0 0 l32)), (67, (.ptr 2 0 0 2))]) ⟨.rfl, .rfl, .rfl, trivial⟩) (AX.lst (by kernel_rfl) ((hA35' _ _ _).1 A35_12345w0)) rfl)
      have A35_12345678w1 : A35 3 #[false, true, true, true, true, true, true, true, true, false, false] ⟨194, envL [(3, (.ptr 1 0 0 0)), (66, (ow 2 0 l32)), (70, (.agg [(i64 c33.op), (i64 c33.num), (ls eRExpr c33.kids)]))], [(ro 0 3 1 eI s0), ⟨0, 97, 2, [(eRSignatures p0)]⟩, (ro 0 3 1 eI l32)]⟩ := (hA35 _ _ _).2 (by
       refine AX.all [0] rfl (by kernel_rfl) (by decide) ⟨?_, trivial⟩
       ·refine AXs.of (i := 0) rfl rfl (by rfl) ?_
        refine zq tb rfl ?_
        refine AO.done ⟨rfl, ?_⟩
        exact AX.weaken (by refine Wk.trans (Wk.permk (L := [(62, (.agg (eRSignatures p0))), (66, (ow 1 0 l32)), (70, (.agg [(i64 c33.op), (i64 c33.num), (ls eRExpr c33.kids)]))]) (st' := [(ro 0 3 1 eI s0), (ro 0 3 1 eI l32)]) (st1 := [(ro 0 3 1 eI s0), (ro 0 3 1 eI l32)]) [0, 2] rfl (.pure (pure_map fun _ => rfl) .nil) (by decide) rfl rfl (.pure (pure_map fun _ => rfl) (.pure (pure_map fun _ => rfl) .nil)) ⟨.rfl, .rfl, .rfl, trivial⟩) ?_; exact Wk.to (L := [(62, (.agg (eRSignatures p0))), (66, (ow 1 0 l32)), (70, (.agg [(i64 c33.op), (i64 c33.num), (ls eRExpr c33.kids)]))]) ⟨.rfl, .rfl, .rfl, trivial⟩) (AX.lst (by kernel_rfl) ((hA35 _ _ _).1 A35_012345678w1)) rfl)
      have A35_1234567w1 : A35 4 #[false, true, true, true, true, true, true, true, false, false, false] ⟨194, envL [(3, (.ptr 1 0 0 0)), (66, (ow 2 0 l32)), (69, (.iptr [(i64 c33.op), (i64 c33.num), (ls eRExpr c33.kids)] 0))], [(ro 0 3 1 eI s0), ⟨0, 97, 2, [(eRSignatures p0)]⟩, (ro 0 3 1 eI l32)]⟩ := (hA35 _ _ _).2 (by
       refine AX.all [0, 8] rfl (by kernel_rfl) (by decide) ⟨?_, ?_, trivial⟩
       ·refine AXs.of (i := 0) rfl rfl (by rfl) ?_
        refine zq tb rfl ?_
        refine AO.done ⟨rfl, ?_⟩
        exact AX.weaken (by refine Wk.trans (Wk.permk (L := [(62, (.agg (eRSignatures p0))), (66, (ow 1 0 l32)), (69, (.iptr [(i64 c33.op), (i64 c33.num), (ls eRExpr c33.kids)] 0))]) (st' := [(ro 0 3 1 eI s0), (ro 0 3 1 eI l32)]) (st1 := [(ro 0 3 1 eI s0), (ro 0 3 1 eI l32)]) [0, 2] rfl (.pure (pure_map fun _ => rfl) .nil) (by decide) rfl rfl (.pure (pure_map fun _ => rfl) (.pure (pure_map fun _ => rfl) .nil)) ⟨.rfl, .rfl, .rfl, trivial⟩) ?_; exact Wk.to (L := [(62, (.agg (eRSignatures p0))), (66, (ow 1 0 l32)), (69, (.iptr [(i64 c33.op), (i64 c33.num), (ls eRExpr c33.kids)] 0))]) ⟨.rfl, .rfl, .rfl, trivial⟩) (AX.lst (by kernel_rfl) ((hA35 _ _ _).1 A35_01234567w1)) rfl
       ·refine AXs.of (i := 8) rfl rfl (by rfl) ?_
        refine zq tb rfl ?_
        refine AO.done ⟨rfl, ?_⟩
        exact AX.weaken (Wk.to (L := [(3, (.ptr 1 0 0 0)), (66, (ow 2 0 l32)), (70, (.agg [(i64 c33.op), (i64 c33.num), (ls eRExpr c33.kids)]))]) ⟨.rfl, .rfl, .rfl, trivial⟩) (AX.lst (by kernel_rfl) ((hA35 _ _ _).1 A35_12345678w1)) rfl)
      have A35_123456w1 : A35 5 #[false, true, true, true, true, true, true, false, false, false, false] ⟨194, envL [(3, (.ptr 1 0 0 0)), (66, (ow 2 0 l32)), (68, (ls eRExpr p2.kids))], [(ro 0 3 1 eI s0), ⟨0, 97, 2, [(eRSignatures p0)]⟩, (ro 0 3 1 eI l32)]⟩ := (hA35 _ _ _).2 (by
       refine AX.all [0, 7] rfl (by kernel_rfl) (by decide) ⟨?_, ?_, trivial⟩
       ·refine AXs.of (i := 0) rfl rfl (by rfl) ?_
        refine zq tb rfl ?_
        refine AO.done ⟨rfl, ?_⟩
        exact AX.weaken (by refine Wk.trans (Wk.permk (L := [(62, (.agg (eRSignatures p0))), (66, (ow 1 0 l32)), (68, (ls eRExpr p2.kids))]) (st' := [(ro 0 3 1 eI s0), (ro 0 3 1 eI l32)]) (st1 := [(ro 0 3 1 eI s0), (ro 0 3 1 eI l32)]) [0, 2] rfl (.pure (pure_map fun _ => rfl) .nil) (by decide) rfl rfl (.pure (pure_map fun _ => rfl) (.pure (pure_map fun _ => rfl) .nil)) ⟨.rfl, .rfl, .rfl, trivial⟩) ?_; exact Wk.to (L := [(62, (.agg (eRSignatures p0))), (66, (ow 1 0 l32)), (68, (ls eRExpr p2.kids))]) ⟨.rfl, .rfl, .rfl, trivial⟩) (AX.lst (by kernel_rfl) ((hA35 _ _ _).1 A35_0123456w1)) rfl
       ·refine AXs.of (i := 7) rfl rfl (by rfl) ?_
        refine zz (.iptr [(i64 c33.op), (i64 c33.num), (ls eRExpr c33.kids)] 0) (aq_ixsE ei48 rfl rfl gc33 (eRExpr_eq _) rfl) rfl ?_
        refine AO.done ⟨rfl, ?_⟩
        exact AX.weaken (Wk.to (L := [(3, (.ptr 1 0 0 0)), (66, (ow 2 0 l32)), (69, (.iptr [(i64 c33.op), (i64 c33.num), (ls eRExpr c33.kids)] 0))]) ⟨.rfl, .rfl, .rfl, trivial⟩) (AX.lst (by kernel_rfl) ((hA35 _ _ _).1 A35_1234567w1)) rfl)
      have A35_12345w1 : A35 6 #[false, true, true, true, true, true, false, false, false, false, false] ⟨194, envL [(3, (.ptr 1 0 0 0)), (66, (ow 2 0 l32)), (67, (.ptr 3 0 0 2))], [(ro 0 3 1 eI s0), ⟨0, 97, 2, [(eRSignatures p0)]⟩, (ro 0 3 1 eI l32), ⟨0, 50, 3, [[(i64 p2.op), (i64 p2.num), (ls eRExpr p2.kids)]]⟩]⟩ := (hA35 _ _ _).2 (by
       refine AX.all [0, 6] rfl (by kernel_rfl) (by decide) ⟨?_, ?_, trivial⟩
       ·refine AXs.of (i := 0) rfl rfl (by rfl) ?_
        refine zq tb rfl ?_
        refine AO.done ⟨rfl, ?_⟩
        exact AX.weaken (by refine Wk.trans (Wk.permk (L := [(62, (.agg (eRSignatures p0))), (66, (ow 1 0 l32)), (67, (.ptr 2 0 0 2))]) (st' := [(ro 0 3 1 eI s0), (ro 0 3 1 eI l32), ⟨0, 50, 3, [[(i64 p2.op), (i64 p2.num), (ls eRExpr p2.kids)]]⟩]) (st1 := [(ro 0 3 1 eI s0), (ro 0 3 1 eI l32), ⟨0, 50, 3, [[(i64 p2.op), (i64 p2.num), (ls eRExpr p2.kids)]]⟩]) [0, 2, 3] rfl (.pure (pure_map fun _ => rfl) .nil) (by decide) rfl rfl (.pure (pure_map fun _ => rfl) (.pure (pure_map fun _ => rfl) (.raw rfl rfl .nil))) ⟨.rfl, .rfl, .rfl, trivial⟩) ?_; exact Wk.to (L := [(62, (.agg (eRSignatures p0))), (66, (ow 1 0 l32)), (67, (.ptr 2 0 0 2))]) ⟨.rfl, .rfl, .rfl, trivial⟩) (AX.lst (by kernel_rfl) ((hA35 _ _ _).1 A35_012345w1)) rfl
       ·refine AXs.of (i := 6) rfl rfl (by rfl) ?_
        refine zq tb rfl ?_
        refine AO.done ⟨rfl, ?_⟩
        exact AX.weaken (by refine Wk.trans (Wk.permk (L := [(3, (.ptr 1 0 0 0)), (66, (ow 2 0 l32)), (68, (ls eRExpr p2.kids))]) (st' := [(ro 0 3 1 eI s0), ⟨0, 97, 2, [(eRSignatures p0)]⟩, (ro 0 3 1 eI l32)]) (st1 := [(ro 0 3 1 eI s0), ⟨0, 97, 2, [(eRSignatures p0)]⟩, (ro 0 3 1 eI l32)]) [0, 1, 2] rfl (.pure (pure_map fun _ => rfl) .nil) (by decide) rfl rfl (.pure (pure_map fun _ => rfl) (.raw rfl rfl (.pure (pure_map fun _ => rfl) .nil))) ⟨.rfl, .rfl, .rfl, trivial⟩) ?_; exact Wk.to (L := [(3, (.ptr 1 0 0 0)), (66, (ow 2 0 l32)), (68, (ls eRExpr p2.kids))]) ⟨.rfl, .rfl, .rfl, trivial⟩) (AX.lst (by kernel_rfl) ((hA35 _ _ _).1 A35_123456w1)) rfl)
      have A35_1234w1 : A35 7 #[false, true, true, true, true, false, false, false, false, false, false] ⟨194, envL [(3, (.ptr 1 0 0 0)), (5, (.ptr 2 0 0 0)), (66, (ow 3 0 l32))], [(ro 0 3 1 eI s0), ⟨0, 97, 2, [(eRSignatures p0)]⟩, ⟨0, 50, 3, [[(i64 p2.op), (i64 p2.num), (ls eRExpr p2.kids)]]⟩, (ro 0 3 1 eI l32)]⟩ := (hA35 _ _ _).2 (by
       refine AX.all [0, 5] rfl (by kernel_rfl) (by decide) ⟨?_, ?_, trivial⟩
       ·refine AXs.of (i := 0) rfl rfl (by rfl) ?_
        refine zq tb rfl ?_
        refine AO.done ⟨rfl, ?_⟩
        exact AX.weaken (by refine Wk.trans (Wk.permk (L := [(5, (.ptr 1 0 0 0)), (62, (.agg (eRSignatures p0))), (66, (ow 2 0 l32))]) (st' := [(ro 0 3 1 eI s0), ⟨0, 50, 3, [[(i64 p2.op), (i64 p2.num), (ls eRExpr p2.kids)]]⟩, (ro 0 3 1 eI l32)]) (st1 := [(ro 0 3 1 eI s0), ⟨0, 50, 3, [[(i64 p2.op), (i64 p2.num), (ls eRExpr p2.kids)]]⟩, (ro 0 3 1 eI l32)]) [0, 2, 3] rfl (.pure (pure_map fun _ => rfl) .nil) (by decide) rfl rfl (.pure (pure_map fun _ => rfl) (.raw rfl rfl (.pure (pure_map fun _ => rfl) .nil))) ⟨.rfl, .rfl, .rfl, trivial⟩) ?_; exact Wk.to (L := [(5, (.ptr 1 0 0 0)), (62, (.agg (eRSignatures p0))), (66, (ow 2 0 l32))]) ⟨.rfl, .rfl, .rfl, trivial⟩) (AX.lst (by kernel_rfl) ((hA35 _ _ _).1 A35_01234w1)) rfl
       ·refine AXs.of (i := 5) rfl rfl (by rfl) ?_
        refine zq tb rfl ?_
        refine AO.done ⟨rfl, ?_⟩
        exact AX.weaken (by refine Wk.trans (Wk.permk (L := [(3, (.ptr 1 0 0 0)), (66, (ow 2 0 l32)), (67, (.ptr 3 0 0 2))]) (st' := [(ro 0 3 1 eI s0), ⟨0, 97, 2, [(eRSignatures p0)]⟩, (ro 0 3 1 eI l32), ⟨0, 50, 3, [[(i64 p2.op), (i64 p2.num), (ls eRExpr p2.kids)]]⟩]) (st1 := [(ro 0 3 1 eI s0), ⟨0, 97, 2, [(eRSignatures p0)]⟩, (ro 0 3 1 eI l32), ⟨0, 50, 3, [[(i64 p2.op), (i64 p2.num), (ls eRExpr p2.kids)]]⟩]) [0, 1, 3, 2] rfl (.pure (pure_map fun _ => rfl) .nil) (by decide) rfl rfl (.pure (pure_map fun _ => rfl) (.raw rfl rfl (.pure (pure_map fun _ => rfl) (.raw rfl rfl .nil)))) ⟨.rfl, .rfl, .rfl, trivial⟩) ?_; exact Wk.to (L := [(3, (.ptr 1 0 0 0)), (66, (ow 2 0 l32)), (67, (.ptr 3 0 0 2))]) ⟨.rfl, .rfl, .rfl, trivial⟩) (AX.lst (by kernel_rfl) ((hA35 _ _ _).1 A35_12345w1)) rfl)
      have A35_1235678 : A35 4 #[false, true, true, true, false, true, true, true, true, false, false] ⟨194, envL [(3, (.ptr 1 0 0 0)), (63, (ow 0 0 s0)), (65, (ow 2 0 [q26])), (70, (.agg [(i64 c33.op), (i64 c33.num), (ls eRExpr c33.kids)]))], [(ro 0 3 1 eI s0), ⟨0, 97, 2, [(eRSignatures p0)]⟩, (ro 0 3 1 eI [q26])]⟩ := (hA35 _ _ _).2 (by
       refine AX.all [0, 4] rfl (by kernel_rfl) (by decide) ⟨?_, ?_, trivial⟩
       ·refine AXs.of (i := 0) rfl rfl (by rfl) ?_
        refine zq tb rfl ?_
        refine AO.done ⟨rfl, ?_⟩
        exact AX.weaken (by refine Wk.trans (Wk.permk (L := [(62, (.agg (eRSignatures p0))), (63, (ow 0 0 s0)), (65, (ow 1 0 [q26])), (70, (.agg [(i64 c33.op), (i64 c33.num), (ls eRExpr c33.kids)]))]) (st' := [(ro 0 3 1 eI s0), (ro 0 3 1 eI [q26])]) (st1 := [(ro 0 3 1 eI s0), (ro 0 3 1 eI [q26])]) [0, 2] rfl (.pure (pure_map fun _ => rfl) .nil) (by decide) rfl rfl (.pure (pure_map fun _ => rfl) (.pure (pure_map fun _ => rfl) .nil)) ⟨.rfl, .rfl, .rfl, .rfl, trivial⟩) ?_; exact Wk.to (L := [(62, (.agg (eRSignatures p0))), (63, (ow 0 0 s0)), (65, (ow 1 0 [q26])), (70, (.agg [(i64 c33.op), (i64 c33.num), (ls eRExpr c33.kids)]))]) ⟨.rfl, .rfl, .rfl, .rfl, trivial⟩) (AX.lst (by kernel_rfl) ((hA35 _ _ _).1 A35_01235678)) rfl
       ·refine AXs.fork (l := s0) (l2 := [q26]) (l' := l32) rfl rfl ei40 (pur_cons (pure_raw rfl) (pur_cons (pure_map fun _ => rfl) (fun _ hq => nomatch hq))) rfl rfl rfl (el_o rfl rfl) rfl (fun _ => rfl) (fun _ => (pure_map fun _ => rfl)) gl32 ?_ ?_
        ·exact AX.weaken (by refine Wk.trans (Wk.permk (L := [(3, (.ptr 1 0 0 0)), (66, (ow 0 0 l32)), (70, (.agg [(i64 c33.op), (i64 c33.num), (ls eRExpr c33.kids)]))]) (st' := [(ro 0 3 1 eI l32), ⟨0, 97, 2, [(eRSignatures p0)]⟩]) (st1 := [(ro 0 3 1 eI l32), ⟨0, 97, 2, [(eRSignatures p0)]⟩]) [0, 1] rfl (.pure (pure_map fun _ => rfl) .nil) (by decide) rfl rfl (.pure (pure_map fun _ => rfl) (.raw rfl rfl .nil)) ⟨.rfl, .rfl, .rfl, trivial⟩) ?_; exact Wk.to (L := [(3, (.ptr 1 0 0 0)), (66, (ow 0 0 l32)), (70, (.agg [(i64 c33.op), (i64 c33.num), (ls eRExpr c33.kids)]))]) ⟨.rfl, .rfl, .rfl, trivial⟩) (AX.lst (by kernel_rfl) ((hA35' _ _ _).1 A35_12345678w0)) rfl
        ·exact AX.weaken (by refine Wk.trans (Wk.permk (L := [(3, (.ptr 1 0 0 0)), (66, (ow 2 0 l32)), (70, (.agg [(i64 c33.op), (i64 c33.num), (ls eRExpr c33.kids)]))]) (st' := [(ro 0 3 1 eI s0), ⟨0, 97, 2, [(eRSignatures p0)]⟩, (ro 0 3 1 eI l32)]) (st1 := [(ro 0 3 1 eI s0), ⟨0, 97, 2, [(eRSignatures p0)]⟩, (ro 0 3 1 eI l32)]) [0, 1, 3] rfl (.pure (pure_map fun _ => rfl) .nil) (by decide) rfl rfl (.pure (pure_map fun _ => rfl) (.raw rfl rfl (.pure (pure_map fun _ => rfl) .nil))) ⟨.rfl, .rfl, .rfl, trivial⟩) ?_; exact Wk.to (L := [(3, (.ptr 1 0 0 0)), (66, (ow 2 0 l32)), (70, (.agg [(i64 c33.op), (i64 c33.num), (ls eRExpr c33.kids)]))]) ⟨.rfl, .rfl, .rfl, trivial⟩) (AX.lst (by kernel_rfl) ((hA35 _ _ _).1 A35_12345678w1)) rfl)
      have A35_123567 : A35 5 #[false, true, true, true, false, true, true, true, false, false, false] ⟨194, envL [(3, (.ptr 1 0 0 0)), (63, (ow 0 0 s0)), (65, (ow 2 0 [q26])), (69, (.iptr [(i64 c33.op), (i64 c33.num), (ls eRExpr c33.kids)] 0))], [(ro 0 3 1 eI s0), ⟨0, 97, 2, [(eRSignatures p0)]⟩, (ro 0 3 1 eI [q26])]⟩ := (hA35 _ _ _).2 (by
       refine AX.all [0, 4, 8] rfl (by kernel_rfl) (by decide) ⟨?_, ?_, ?_, trivial⟩
       ·refine AXs.of (i := 0) rfl rfl (by rfl) ?_
        refine zq tb rfl ?_
        refine AO.done ⟨rfl, ?_⟩
        exact AX.weaken (by refine Wk.trans (Wk.permk (L := [(62, (.agg (eRSignatures p0))), (63, (ow 0 0 s0)), (65, (ow 1 0 [q26])), (69, (.iptr [(i64 c33.op), (i64 c33.num), (ls eRExpr c33.kids)] 0))]) (st' := [(ro 0 3 1 eI s0), (ro 0 3 1 eI [q26])]) (st1 := [(ro 0 3 1 eI s0), (ro 0 3 1 eI [q26])]) [0, 2] rfl (.pure (pure_map fun _ => rfl) .nil) (by decide) rfl rfl (.pure (pure_map fun _ => rfl) (.pure (pure_map fun _ => rfl) .nil)) ⟨.rfl, .rfl, .rfl, .rfl, trivial⟩) ?_; exact Wk.to (L := [(62, (.agg (eRSignatures p0))), (63, (ow 0 0 s0)), (65, (ow 1 0 [q26])), (69, (.iptr [(i64 c33.op), (i64 c33.num), (ls eRExpr c33.kids)] 0))]) ⟨.rfl, .rfl, .rfl, .rfl, trivial⟩) (AX.lst (by kernel_rfl) ((hA35 _ _ _).1 A35_0123567)) rfl
       ·refine AXs.fork (l := s0) (l2 := [q26]) (l' := l32) rfl rfl ei40 (pur_cons (pure_raw rfl) (pur_cons (pure_map fun _ => rfl) (fun _ hq => nomatch hq))) rfl rfl rfl (el_o rfl rfl) rfl (fun _ => rfl) (fun _ => (pure_map fun _ => rfl)) gl32 ?_ ?_
        ·exact AX.weaken (by refine Wk.trans (Wk.permk (L := [(3, (.ptr 1 0 0 0)), (66, (ow 0 0 l32)), (69, (.iptr [(i64 c33.op), (i64 c33.num), (ls eRExpr c33.kids)] 0))]) (st' := [(ro 0 3 1 eI l32), ⟨0, 97, 2, [(eRSignatures p0)]⟩]) (st1 := [(ro 0 3 1 eI l32), ⟨0, 97, 2, [(eRSignatures p0)]⟩]) [0, 1] rfl (.pure (pure_map fun _ => rfl) .nil) (by decide) rfl rfl (.pure (pure_map fun _ => rfl) (.raw rfl rfl .nil)) ⟨.rfl, .rfl, .rfl, trivial⟩) ?_; exact Wk.to (L := [(3, (.ptr 1 0 0 0)), (66, (ow 0 0 l32)), (69, (.iptr [(i64 c33.op), (i64 c33.num), (ls eRExpr c33.kids)] 0))]) ⟨.rfl, .rfl, .rfl, trivial⟩) (AX.lst (by kernel_rfl) ((hA35' _ _ _).1 A35_1234567w0)) rfl
        ·exact AX.weaken (by refine Wk.trans (Wk.permk (L := [(3, (.ptr 1 0 0 0)), (66, (ow 2 0 l32)), (69, (.iptr [(i64 c33.op), (i64 c33.num), (ls eRExpr c33.kids)] 0))]) (st' := [(ro 0 3 1 eI s0), ⟨0, 97, 2, [(eRSignatures p0)]⟩, (ro 0 3 1 eI l32)]) (st1 := [(ro 0 3 1 eI s0), ⟨0, 97, 2, [(eRSignatures p0)]⟩, (ro 0 3 1 eI l32)]) [0, 1, 3] rfl (.pure (pure_map fun _ => rfl) .nil) (by decide) rfl rfl (.pure (pure_map fun _ => rfl) (.raw rfl rfl (.pure (pure_map fun _ => rfl) .nil))) ⟨.rfl, .rfl, .rfl, trivial⟩) ?_; exact Wk.to (L := [(3, (.ptr 1 0 0 0)), (66, (ow 2 0 l32)), (69, (.iptr [(i64 c33.op), (i64 c33.num), (ls eRExpr c33.kids)] 0))]) ⟨.rfl, .rfl, .rfl, trivial⟩) (AX.lst (by kernel_rfl) ((hA35 _ _ _).1 A35_1234567w1)) rfl
       ·refine AXs.of (i := 8) rfl rfl (by rfl) ?_
        refine zq tb rfl ?_
        refine AO.done ⟨rfl, ?_⟩
        exact AX.weaken (Wk.to (L := [(3, (.ptr 1 0 0 0)), (63, (ow 0 0 s0)), (65, (ow 2 0 [q26])), (70, (.agg [(i64 c33.op), (i64 c33.num), (ls eRExpr c33.kids)]))]) ⟨.rfl, .rfl, .rfl, .rfl, trivial⟩) (AX.lst (by kernel_rfl) ((hA35 _ _ _).1 A35_1235678)) rfl)
      have A35_12356 : A35 6 #[false, true, true, true, false, true, true, false, false, false, false] ⟨194, envL [(3, (.ptr 1 0 0 0)), (63, (ow 0 0 s0)), (65, (ow 2 0 [q26])), (68, (ls eRExpr p2.kids))], [(ro 0 3 1 eI s0), ⟨0, 97, 2, [(eRSignatures p0)]⟩, (ro 0 3 1 eI [q26])]⟩ := (hA35 _ _ _).2 (by
       refine AX.all [0, 4, 7] rfl (by kernel_rfl) (by decide) ⟨?_, ?_, ?_, trivial⟩
       ·refine AXs.of (i := 0) rfl rfl (by rfl) ?_
        refine zq tb rfl ?_
        refine AO.done ⟨rfl, ?_⟩
        exact AX.weaken (by refine Wk.trans (Wk.permk (L := [(62, (.agg (eRSignatures p0))), (63, (ow 0 0 s0)), (65, (ow 1 0 [q26])), (68, (ls eRExpr p2.kids))]) (st' := [(ro 0 3 1 eI s0), (ro 0 3 1 eI [q26])]) (st1 := [(ro 0 3 1 eI s0), (ro 0 3 1 eI [q26])]) [0, 2] rfl (.pure (pure_map fun _ => rfl) .nil) (by decide) rfl rfl (.pure (pure_map fun _ => rfl) (.pure (pure_map fun _ => rfl) .nil)) ⟨.rfl, .rfl, .rfl, .rfl, trivial⟩) ?_; exact Wk.to (L := [(62, (.agg (eRSignatures p0))), (63, (ow 0 0 s0)), (65, (ow 1 0 [q26])), (68, (ls eRExpr p2.kids))]) ⟨.rfl, .rfl, .rfl, .rfl, trivial⟩) (AX.lst (by kernel_rfl) ((hA35 _ _ _).1 A35_012356)) rfl
       ·refine AXs.fork (l := s0) (l2 := [q26]) (l' := l32) rfl rfl ei40 (pur_cons (pure_raw rfl) (pur_cons (pure_map fun _ => rfl) (fun _ hq => nomatch hq))) rfl rfl rfl (el_o rfl rfl) rfl (fun _ => rfl) (fun _ => (pure_map fun _ => rfl)) gl32 ?_ ?_
        ·exact AX.weaken (by refine Wk.trans (Wk.permk (L := [(3, (.ptr 1 0 0 0)), (66, (ow 0 0 l32)), (68, (ls eRExpr p2.kids))]) (st' := [(ro 0 3 1 eI l32), ⟨0, 97, 2, [(eRSignatures p0)]⟩]) (st1 := [(ro 0 3 1 eI l32), ⟨0, 97, 2, [(eRSignatures p0)]⟩]) [0, 1] rfl (.pure (pure_map fun _ => rfl) .nil) (by decide) rfl rfl (.pure (pure_map fun _ => rfl) (.raw rfl rfl .nil)) ⟨.rfl, .rfl, .rfl, trivial⟩) ?_; exact Wk.to (L := [(3, (.ptr 1 0 0 0)), (66, (ow 0 0 l32)), (68, (ls eRExpr p2.kids))]) ⟨.rfl, .rfl, .rfl, trivial⟩) (AX.lst (by kernel_rfl) ((hA35' _ _ _).1 A35_123456w0)) rfl
        ·exact AX.weaken (by refine Wk.trans (Wk.permk (L := [(3, (.ptr 1 0 0 0)), (66, (ow 2 0 l32)), (68, (ls eRExpr p2.kids))]) (st' := [(ro 0 3 1 eI s0), ⟨0, 97, 2, [(eRSignatures p0)]⟩, (ro 0 3 1 eI l32)]) (st1 := [(ro 0 3 1 eI s0), ⟨0, 97, 2, [(eRSignatures p0)]⟩, (ro 0 3 1 eI l32)]) [0, 1, 3] rfl (.pure (pure_map fun _ => rfl) .nil) (by decide) rfl rfl (.pure (pure_map fun _ => rfl) (.raw rfl rfl (.pure (pure_map fun _ => rfl) .nil))) ⟨.rfl, .rfl, .rfl, trivial⟩) ?_; exact Wk.to (L := [(3, (.ptr 1 0 0 0)), (66, (ow 2 0 l32)), (68, (ls eRExpr p2.kids))]) ⟨.rfl, .rfl, .rfl, trivial⟩) (AX.lst (by kernel_rfl) ((hA35 _ _ _).1 A35_123456w1)) rfl
       ·refine AXs.of (i := 7) rfl rfl (by rfl) ?_
        refine zz (.iptr [(i64 c33.op), (i64 c33.num), (ls eRExpr c33.kids)] 0) (aq_ixsE ei48 rfl rfl gc33 (eRExpr_eq _) rfl) rfl ?_
        refine AO.done ⟨rfl, ?_⟩
        exact AX.weaken (Wk.to (L := [(3, (.ptr 1 0 0 0)), (63, (ow 0 0 s0)), (65, (ow 2 0 [q26])), (69, (.iptr [(i64 c33.op), (i64 c33.num), (ls eRExpr c33.kids)] 0))]) ⟨.rfl, .rfl, .rfl, .rfl, trivial⟩) (AX.lst (by kernel_rfl) ((hA35 _ _ _).1 A35_123567)) rfl)
      have A35_1235 : A35 7 #[false, true, true, true, false, true, false, false, false, false, false] ⟨194, envL [(3, (.ptr 1 0 0 0)), (63, (ow 0 0 s0)), (65, (ow 2 0 [q26])), (67, (.ptr 3 0 0 2))], [(ro 0 3 1 eI s0), ⟨0, 97, 2, [(eRSignatures p0)]⟩, (ro 0 3 1 eI [q26]), ⟨0, 50, 3, [[(i64 p2.op), (i64 p2.num), (ls eRExpr p2.kids)]]⟩]⟩ := (hA35 _ _ _).2 (by
       refine AX.all [0, 4, 6] rfl (by kernel_rfl) (by decide) ⟨?_, ?_, ?_, trivial⟩
       ·refine AXs.of (i := 0) rfl rfl (by rfl) ?_
        refine zq tb rfl ?_
        refine AO.done ⟨rfl, ?_⟩
        exact AX.weaken (by refine Wk.trans (Wk.permk (L := [(62, (.agg (eRSignatures p0))), (63, (ow 0 0 s0)), (65, (ow 1 0 [q26])), (67, (.ptr 2 0 0 2))]) (st' := [(ro 0 3 1 eI s0), (ro 0 3 1 eI [q26]), ⟨0, 50, 3, [[(i64 p2.op), (i64 p2.num), (ls eRExpr p2.kids)]]⟩]) (st1 := [(ro 0 3 1 eI s0), (ro 0 3 1 eI [q26]), ⟨0, 50, 3, [[(i64 p2.op), (i64 p2.num), (ls eRExpr p2.kids)]]⟩]) [0, 2, 3] rfl (.pure (pure_map fun _ => rfl) .nil) (by decide) rfl rfl (.pure (pure_map fun _ => rfl) (.pure (pure_map fun _ => rfl) (.raw rfl rfl .nil))) ⟨.rfl, .rfl, .rfl, .rfl, trivial⟩) ?_; exact Wk.to (L := [(62, (.agg (eRSignatures p0))), (63, (ow 0 0 s0)), (65, (ow 1 0 [q26])), (67, (.ptr 2 0 0 2))]) ⟨.rfl, .rfl, .rfl, .rfl, trivial⟩) (AX.lst (by kernel_rfl) ((hA35 _ _ _).1 A35_01235)) rfl
       ·refine AXs.fork (l := s0) (l2 := [q26]) (l' := l32) rfl rfl ei40 (pur_cons (pure_raw rfl) (pur_cons (pure_map fun _ => rfl) (pur_cons (pure_raw rfl) (fun _ hq => nomatch hq)))) rfl rfl rfl (el_o rfl rfl) rfl (fun _ => rfl) (fun _ => (pure_map fun _ => rfl)) gl32 ?_ ?_
        ·exact AX.weaken (by refine Wk.trans (Wk.permk (L := [(3, (.ptr 1 0 0 0)), (66, (ow 0 0 l32)), (67, (.ptr 2 0 0 2))]) (st' := [(ro 0 3 1 eI l32), ⟨0, 97, 2, [(eRSignatures p0)]⟩, ⟨0, 50, 3, [[(i64 p2.op), (i64 p2.num), (ls eRExpr p2.kids)]]⟩]) (st1 := [(ro 0 3 1 eI l32), ⟨0, 97, 2, [(eRSignatures p0)]⟩, ⟨0, 50, 3, [[(i64 p2.op), (i64 p2.num), (ls eRExpr p2.kids)]]⟩]) [0, 1, 3] rfl (.pure (pure_map fun _ => rfl) .nil) (by decide) rfl rfl (.pure (pure_map fun _ => rfl) (.raw rfl rfl (.raw rfl rfl .nil))) ⟨.rfl, .rfl, .rfl, trivial⟩) ?_; exact Wk.to (L := [(3, (.ptr 1 0 0 0)), (66, (ow 0 0 l32)), (67, (.ptr 2 0 0 2))]) ⟨.rfl, .rfl, .rfl, trivial⟩) (AX.lst (by kernel_rfl) ((hA35' _ _ _).1 A35_12345w0)) rfl
        ·exact AX.weaken (by refine Wk.trans (Wk.permk (L := [(3, (.ptr 1 0 0 0)), (66, (ow 2 0 l32)), (67, (.ptr 3 0 0 2))]) (st' := [(ro 0 3 1 eI s0), ⟨0, 97, 2, [(eRSignatures p0)]⟩, (ro 0 3 1 eI l32), ⟨0, 50, 3, [[(i64 p2.op), (i64 p2.num), (ls eRExpr p2.kids)]]⟩]) (st1 := [(ro 0 3 1 eI s0), ⟨0, 97, 2, [(eRSignatures p0)]⟩, (ro 0 3 1 eI l32), ⟨0, 50, 3, [[(i64 p2.op), (i64 p2.num), (ls eRExpr p2.kids)]]⟩]) [0, 1, 4, 3] rfl (.pure (pure_map fun _ => rfl) .nil) (by decide) rfl rfl (.pure (pure_map fun _ => rfl) (.raw rfl rfl (.pure (pure_map fun _ => rfl) (.raw rfl rfl .nil)))) ⟨.rfl, .rfl, .rfl, trivial⟩) ?_; exact Wk.to (L := [(3, (.ptr 1 0 0 0)), (66, (ow 2 0 l32)), (67, (.ptr 3 0 0 2))]) ⟨.rfl, .rfl, .rfl, trivial⟩) (AX.lst (by kernel_rfl) ((hA35 _ _ _).1 A35_12345w1)) rfl
       ·refine AXs.of (i := 6) rfl rfl (by rfl) ?_
        refine zq tb rfl ?_
        refine AO.done ⟨rfl, ?_⟩
        exact AX.weaken (by refine Wk.trans (Wk.permk (L := [(3, (.ptr 1 0 0 0)), (63, (ow 0 0 s0)), (65, (ow 2 0 [q26])), (68, (ls eRExpr p2.kids))]) (st' := [(ro 0 3 1 eI s0), ⟨0, 97, 2, [(eRSignatures p0)]⟩, (ro 0 3 1 eI [q26])]) (st1 := [(ro 0 3 1 eI s0), ⟨0, 97, 2, [(eRSignatures p0)]⟩, (ro 0 3 1 eI [q26])]) [0, 1, 2] rfl (.pure (pure_map fun _ => rfl) .nil) (by decide) rfl rfl (.pure (pure_map fun _ => rfl) (.raw rfl rfl (.pure (pure_map fun _ => rfl) .nil))) ⟨.rfl, .rfl, .rfl, .rfl, trivial⟩) ?_; exact Wk.to (L := [(3, (.ptr 1 0 0 0)), (63, (ow 0 0 s0)), (65, (ow 2 0 [q26])), (68, (ls eRExpr p2.kids))]) ⟨.rfl, .rfl, .rfl, .rfl, trivial⟩) (AX.lst (by kernel_rfl) ((hA35 _ _ _).1 A35_12356)) rfl)
      have A35_123 : A35 8 #[false, true, true, true, false, false, false, false, false, false, false] ⟨194, envL [(3, (.ptr 1 0 0 0)), (5, (.ptr 2 0 0 0)), (63, (ow 0 0 s0)), (65, (ow 3 0 [q26]))], [(ro 0 3 1 eI s0), ⟨0, 97, 2, [(eRSignatures p0)]⟩, ⟨0, 50, 3, [[(i64 p2.op), (i64 p2.num), (ls eRExpr p2.kids)]]⟩, (ro 0 3 1 eI [q26])]⟩ := (hA35 _ _ _).2 (by
       refine AX.all [0, 4, 5] rfl (by kernel_rfl) (by decide) ⟨?_, ?_, ?_, trivial⟩
       ·refine AXs.of (i := 0) rfl rfl (by rfl) ?_
        refine zq tb rfl ?_
        refine AO.done ⟨rfl, ?_⟩
        exact AX.weaken (by refine Wk.trans (Wk.permk (L := [(5, (.ptr 1 0 0 0)), (62, (.agg (eRSignatures p0))), (63, (ow 0 0 s0)), (65, (ow 2 0 [q26]))]) (st' := [(ro 0 3 1 eI s0), ⟨0, 50, 3, [[(i64 p2.op), (i64 p2.num), (ls eRExpr p2.kids)]]⟩, (ro 0 3 1 eI [q26])]) (st1 := [(ro 0 3 1 eI s0), ⟨0, 50, 3, [[(i64 p2.op), (i64 p2.num), (ls eRExpr p2.kids)]]⟩, (ro 0 3 1 eI [q26])]) [0, 2, 3] rfl (.pure (pure_map fun _ => rfl) .nil) (by decide) rfl rfl (.pure (pure_map fun _ => rfl) (.raw rfl rfl (.pure (pure_map fun _ => rfl) .nil))) ⟨.rfl, .rfl, .rfl, .rfl, trivial⟩) ?_; exact Wk.to (L := [(5, (.ptr 1 0 0 0)), (62, (.agg (eRSignatures p0))), (63, (ow 0 0 s0)), (65, (ow 2 0 [q26]))]) ⟨.rfl, .rfl, .rfl, .rfl, trivial⟩) (AX.lst (by kernel_rfl) ((hA35 _ _ _).1 A35_0123)) rfl
       ·refine AXs.fork (l := s0) (l2 := [q26]) (l' := l32) rfl rfl ei40 (pur_cons (pure_raw rfl) (pur_cons (pure_raw rfl) (pur_cons (pure_map fun _ => rfl) (fun _ hq => nomatch hq)))) rfl rfl rfl (el_o rfl rfl) rfl (fun _ => rfl) (fun _ => (pure_map fun _ => rfl)) gl32 ?_ ?_
        ·exact AX.weaken (by refine Wk.trans (Wk.permk (L := [(3, (.ptr 1 0 0 0)), (5, (.ptr 2 0 0 0)), (66, (ow 0 0 l32))]) (st' := [(ro 0 3 1 eI l32), ⟨0, 97, 2, [(eRSignatures p0)]⟩, ⟨0, 50, 3, [[(i64 p2.op), (i64 p2.num), (ls eRExpr p2.kids)]]⟩]) (st1 := [(ro 0 3 1 eI l32), ⟨0, 97, 2, [(eRSignatures p0)]⟩, ⟨0, 50, 3, [[(i64 p2.op), (i64 p2.num), (ls eRExpr p2.kids)]]⟩]) [0, 1, 2] rfl (.pure (pure_map fun _ => rfl) .nil) (by decide) rfl rfl (.pure (pure_map fun _ => rfl) (.raw rfl rfl (.raw rfl rfl .nil))) ⟨.rfl, .rfl, .rfl, trivial⟩) ?_; exact Wk.to (L := [(3, (.ptr 1 0 0 0)), (5, (.ptr 2 0 0 0)), (66, (ow 0 0 l32))]) ⟨.rfl, .rfl, .rfl, trivial⟩) (AX.lst (by kernel_rfl) ((hA35' _ _ _).1 A35_1234w0)) rfl
        ·exact AX.weaken (by refine Wk.trans (Wk.permk (L := [(3, (.ptr 1 0 0 0)), (5, (.ptr 2 0 0 0)), (66, (ow 3 0 l32))]) (st' := [(ro 0 3 1 eI s0), ⟨0, 97, 2, [(eRSignatures p0)]⟩, ⟨0, 50, 3, [[(i64 p2.op), (i64 p2.num), (ls eRExpr p2.kids)]]⟩, (ro 0 3 1 eI l32)]) (st1 := [(ro 0 3 1 eI s0), ⟨0, 97, 2, [(eRSignatures p0)]⟩, ⟨0, 50, 3, [[(i64 p2.op), (i64 p2.num), (ls eRExpr p2.kids)]]⟩, (ro 0 3 1 eI l32)]) [0, 1, 2, 4] rfl (.pure (pure_map fun _ => rfl) .nil) (by decide) rfl rfl (.pure (pure_map fun _ => rfl) (.raw rfl rfl (.raw rfl rfl (.pure (pure_map fun _ => rfl) .nil)))) ⟨.rfl, .rfl, .rfl, trivial⟩) ?_; exact Wk.to (L := [(3, (.ptr 1 0 0 0)), (5, (.ptr 2 0 0 0)), (66, (ow 3 0 l32))]) ⟨.rfl, .rfl, .rfl, trivial⟩) (AX.lst (by kernel_rfl) ((hA35 _ _ _).1 A35_1234w1)) rfl
       ·refine AXs.of (i := 5) rfl rfl (by rfl) ?_
        refine zq tb rfl ?_
        refine AO.done ⟨rfl, ?_⟩
        exact AX.weaken (by refine Wk.trans (Wk.permk (L := [(3, (.ptr 1 0 0 0)), (63, (ow 0 0 s0)), (65, (ow 2 0 [q26])), (67, (.ptr 3 0 0 2))]) (st' := [(ro 0 3 1 eI s0), ⟨0, 97, 2, [(eRSignatures p0)]⟩, (ro 0 3 1 eI [q26]), ⟨0, 50, 3, [[(i64 p2.op), (i64 p2.num), (ls eRExpr p2.kids)]]⟩]) (st1 := [(ro 0 3 1 eI s0), ⟨0, 97, 2, [(eRSignatures p0)]⟩, (ro 0 3 1 eI [q26]), ⟨0, 50, 3, [[(i64 p2.op), (i64 p2.num), (ls eRExpr p2.kids)]]⟩]) [0, 1, 3, 2] rfl (.pure (pure_map fun _ => rfl) .nil) (by decide) rfl rfl (.pure (pure_map fun _ => rfl) (.raw rfl rfl (.pure (pure_map fun _ => rfl) (.raw rfl rfl .nil)))) ⟨.rfl, .rfl, .rfl, .rfl, trivial⟩) ?_; exact Wk.to (L := [(3, (.ptr 1 0 0 0)), (63, (ow 0 0 s0)), (65, (ow 2 0 [q26])), (67, (.ptr 3 0 0 2))]) ⟨.rfl, .rfl, .rfl, .rfl, trivial⟩) (AX.lst (by kernel_rfl) ((hA35 _ _ _).1 A35_1235)) rfl)
      have A35_125678 : A35 5 #[false, true, true, false, false, true, true, true, true, false, false] ⟨194, envL [(3, (.ptr 1 0 0 0)), (63, (ow 0 0 s0)), (64, (i64 q26)), (70, (.agg [(i64 c33.op), (i64 c33.num), (ls eRExpr c33.kids)]))], [(ro 0 3 1 eI s0), ⟨0, 97, 2, [(eRSignatures p0)]⟩]⟩ := (hA35 _ _ _).2 (by
       refine AX.all [0, 3] rfl (by kernel_rfl) (by decide) ⟨?_, ?_, trivial⟩
       ·refine AXs.of (i := 0) rfl rfl (by rfl) ?_
        refine zq tb rfl ?_
        refine AO.done ⟨rfl, ?_⟩
        exact AX.weaken (by refine Wk.trans (Wk.permk (L := [(62, (.agg (eRSignatures p0))), (63, (ow 0 0 s0)), (64, (i64 q26)), (70, (.agg [(i64 c33.op), (i64 c33.num), (ls eRExpr c33.kids)]))]) (st' := [(ro 0 3 1 eI s0)]) (st1 := [(ro 0 3 1 eI s0)]) [0] rfl (.pure (pure_map fun _ => rfl) .nil) (by decide) rfl rfl (.pure (pure_map fun _ => rfl) .nil) ⟨.rfl, .rfl, .rfl, .rfl, trivial⟩) ?_; exact Wk.to (L := [(62, (.agg (eRSignatures p0))), (63, (ow 0 0 s0)), (64, (i64 q26)), (70, (.agg [(i64 c33.op), (i64 c33.num), (ls eRExpr c33.kids)]))]) ⟨.rfl, .rfl, .rfl, .rfl, trivial⟩) (AX.lst (by kernel_rfl) ((hA35 _ _ _).1 A35_0125678)) rfl
       ·refine AXs.of (i := 3) rfl rfl (by rfl) ?_
        refine ao_bs (m := 2) (st' := [(ro 0 3 1 eI s0), ⟨0, 97, 2, [(eRSignatures p0)]⟩, (ro 0 3 1 eI [q26])]) (l := [q26]) (enc := eI) go0 ei40 (by decide) rfl rfl rfl rfl rfl rfl ?_
        refine AO.done ⟨rfl, ?_⟩
        exact AX.weaken (Wk.to (L := [(3, (.ptr 1 0 0 0)), (63, (ow 0 0 s0)), (65, (ow 2 0 [q26])), (70, (.agg [(i64 c33.op), (i64 c33.num), (ls eRExpr c33.kids)]))]) ⟨.rfl, .rfl, .rfl, .rfl, trivial⟩) (AX.lst (by kernel_rfl) ((hA35 _ _ _).1 A35_1235678)) rfl)
      have A35_12567 : A35 6 #[false, true, true, false, false, true, true, true, false, false, false] ⟨194, envL [(3, (.ptr 1 0 0 0)), (63, (ow 0 0 s0)), (64, (i64 q26)), (69, (.iptr [(i64 c33.op), (i64 c33.num), (ls eRExpr c33.kids)] 0))], [(ro 0 3 1 eI s0), ⟨0, 97, 2, [(eRSignatures p0)]⟩]⟩ := (hA35 _ _ _).2 (by
       refine AX.all [0, 3, 8] rfl (by kernel_rfl) (by decide) ⟨?_, ?_, ?_, trivial⟩
       ·refine AXs.of (i := 0) rfl rfl (by rfl) ?_
        refine zq tb rfl ?_
        refine AO.done ⟨rfl, ?_⟩
        exact AX.weaken (by refine Wk.trans (Wk.permk (L := [(62, (.agg (eRSignatures p0))), (63, (ow 0 0 s0)), (64, (i64 q26)), (69, (.iptr [(i64 c33.op), (i64 c33.num), (ls eRExpr c33.kids)] 0))]) (st' := [(ro 0 3 1 eI s0)]) (st1 := [(ro 0 3 1 eI s0)]) [0] rfl (.pure (pure_map fun _ => rfl) .nil) (by decide) rfl rfl (.pure (pure_map fun _ => rfl) .nil) ⟨.rfl, .rfl, .rfl, .rfl, trivial⟩) ?_; exact Wk.to (L := [(62, (.agg (eRSignatures p0))), (63, (ow 0 0 s0)), (64, (i64 q26)), (69, (.iptr [(i64 c33.op), (i64 c33.num), (ls eRExpr c33.kids)] 0))]) ⟨.rfl, .rfl, .rfl, .rfl, trivial⟩) (AX.lst (by kernel_rfl) ((hA35 _ _ _).1 A35_012567)) rfl
       ·refine AXs.of (i := 3) rfl rfl (by rfl) ?_
        refine ao_bs (m := 2) (st' := [(ro 0 3 1 eI s0), ⟨0, 97, 2, [(eRSignatures p0)]⟩, (ro 0 3 1 eI [q26])]) (l := [q26]) (enc := eI) go0 ei40 (by decide) rfl rfl rfl rfl rfl rfl ?_
        refine AO.done ⟨rfl, ?_⟩
        exact AX.weaken (Wk.to (L := [(3, (.ptr 1 0 0 0)), (63, (ow 0 0 s0)), (65, (ow 2 0 [q26])), (69, (.iptr [(i64 c33.op), (i64 c33.num), (ls eRExpr c33.kids)] 0))]) ⟨.rfl, .rfl, .rfl, .rfl, trivial⟩) (AX.lst (by kernel_rfl) ((hA35 _ _ _).1 A35_123567)) rfl
       ·refine AXs.of (i := 8) rfl rfl (by rfl) ?_
        refine zq tb rfl ?_
        refine AO.done ⟨rfl, ?_⟩
        exact AX.weaken (Wk.to (L := [(3, (.ptr 1 0 0 0)), (63, (ow 0 0 s0)), (64, (i64 q26)), (70, (.agg [(i64 c33.op), (i64 c33.num), (ls eRExpr c33.kids)]))]) ⟨.rfl, .rfl, .rfl, .rfl, trivial⟩) (AX.lst (by kernel_rfl) ((hA35 _ _ _).1 A35_125678)) rfl)
      have A35_1256 : A35 7 #[false, true, true, false, false, true, true, false, false, false, false] ⟨194, envL [(3, (.ptr 1 0 0 0)), (63, (ow 0 0 s0)), (64, (i64 q26)), (68, (ls eRExpr p2.kids))], [(ro 0 3 1 eI s0), ⟨0, 97, 2, [(eRSignatures p0)]⟩]⟩ := (hA35 _ _ _).2 (by
       refine AX.all [0, 3, 7] rfl (by kernel_rfl) (by decide) ⟨?_, ?_, ?_, trivial⟩
       ·refine AXs.of (i := 0) rfl rfl (by rfl) ?_
        refine zq tb rfl ?_
        refine AO.done ⟨rfl, ?_⟩
        exact AX.weaken (by refine Wk.trans (Wk.permk (L := [(62, (.agg (eRSignatures p0))), (63, (ow 0 0 s0)), (64, (i64 q26)), (68, (ls eRExpr p2.kids))]) (st' := [(ro 0 3 1 eI s0)]) (st1 := [(ro 0 3 1 eI s0)]) [0] rfl (.pure (pure_map fun _ => rfl) .nil) (by decide) rfl rfl (.pure (pure_map fun _ => rfl) .nil) ⟨.rfl, .rfl, .rfl, .rfl, trivial⟩) ?_; exact Wk.to (L := [(62, (.agg (eRSignatures p0))), (63, (ow 0 0 s0)), (64, (i64 q26)), (68, (ls eRExpr p2.kids))]) ⟨.rfl, .rfl, .rfl, .rfl, trivial⟩) (AX.lst (by kernel_rfl) ((hA35 _ _ _).1 A35_01256)) rfl
       ·refine AXs.of (i := 3) rfl rfl (by rfl) ?_
        refine ao_bs (m := 2) (st' := [(ro 0 3 1 eI s0), ⟨0, 97, 2, [(eRSignatures p0)]⟩, (ro 0 3 1 eI [q26])]) (l := [q26]) (enc := eI) go0 ei40 (by decide) rfl rfl rfl rfl rfl rfl ?_
        refine AO.done ⟨rfl, ?_⟩
        exact AX.weaken (Wk.to (L := [(3, (.ptr 1 0 0 0)), (63, (ow 0 0 s0)), (65, (ow 2 0 [q26])), (68, (ls eRExpr p2.kids))]) ⟨.rfl, .rfl, .rfl, .rfl, trivial⟩) (AX.lst (by kernel_rfl) ((hA35 _ _ _).1 A35_12356)) rfl
       ·refine AXs.of (i := 7) rfl rfl (by rfl) ?_
        refine zz (.iptr [(i64 c33.op), (i64 c33.num), (ls eRExpr c33.kids)] 0) (aq_ixsE ei48 rfl rfl gc33 (eRExpr_eq _) rfl) rfl ?_
        refine AO.done ⟨rfl, ?_⟩
        exact AX.weaken (Wk.to (L := [(3, (.ptr 1 0 0 0)), (63, (ow 0 0 s0)), (64, (i64 q26)), (69, (.iptr [(i64 c33.op), (i64 c33.num), (ls eRExpr c33.kids)] 0))]) ⟨.rfl, .rfl, .rfl, .rfl, trivial⟩) (AX.lst (by kernel_rfl) ((hA35 _ _ _).1 A35_12567)) rfl)
      have A35_125 : A35 8 #[false, true, true, false, false, true, false, false, false, false, false] ⟨194, envL [(3, (.ptr 1 0 0 0)), (63, (ow 0 0 s0)), (64, (i64 q26)), (67, (.ptr 2 0 0 2))], [(ro 0 3 1 eI s0), ⟨0, 97, 2, [(eRSignatures p0)]⟩, ⟨0, 50, 3, [[(i64 p2.op), (i64 p2.num), (ls eRExpr p2.kids)]]⟩]⟩ := (hA35 _ _ _).2 (by
       refine AX.all [0, 3, 6] rfl (by kernel_rfl) (by decide) ⟨?_, ?_, ?_, trivial⟩
       ·refine AXs.of (i := 0) rfl rfl (by rfl) ?_
        refine zq tb rfl ?_
        refine AO.done ⟨rfl, ?_⟩
        exact AX.weaken (by refine Wk.trans (Wk.permk (L := [(62, (.agg (eRSignatures p0))), (63, (ow 0 0 s0)), (64, (i64 q26)), (67, (.ptr 1 0 0 2))]) (st' := [(ro 0 3 1 eI s0), ⟨0, 50, 3, [[(i64 p2.op), (i64 p2.num), (ls eRExpr p2.kids)]]⟩]) (st1 := [(ro 0 3 1 eI s0), ⟨0, 50, 3, [[(i64 p2.op), (i64 p2.num), (ls eRExpr p2.kids)]]⟩]) [0, 2] rfl (.pure (pure_map fun _ => rfl) .nil) (by decide) rfl rfl (.pure (pure_map fun _ => rfl) (.raw rfl rfl .nil)) ⟨.rfl, .rfl, .rfl, .rfl, trivial⟩) ?_; exact Wk.to (L := [(62, (.agg (eRSignatures p0))), (63, (ow 0 0 s0)), (64, (i64 q26)), (67, (.ptr 1 0 0 2))]) ⟨.rfl, .rfl, .rfl, .rfl, trivial⟩) (AX.lst (by kernel_rfl) ((hA35 _ _ _).1 A35_0125)) rfl
       ·refine AXs.of (i := 3) rfl rfl (by rfl) ?_
        refine ao_bs (m := 3) (st' := [(ro 0 3 1 eI s0), ⟨0, 97, 2, [(eRSignatures p0)]⟩, ⟨0, 50, 3, [[(i64 p2.op), (i64 p2.num), (ls eRExpr p2.kids)]]⟩, (ro 0 3 1 eI [q26])]) (l := [q26]) (enc := eI) go0 ei40 (by decide) rfl rfl rfl rfl rfl rfl ?_
        refine AO.done ⟨rfl, ?_⟩
        exact AX.weaken (by refine Wk.trans (Wk.permk (L := [(3, (.ptr 1 0 0 0)), (63, (ow 0 0 s0)), (65, (ow 2 0 [q26])), (67, (.ptr 3 0 0 2))]) (st' := [(ro 0 3 1 eI s0), ⟨0, 97, 2, [(eRSignatures p0)]⟩, (ro 0 3 1 eI [q26]), ⟨0, 50, 3, [[(i64 p2.op), (i64 p2.num), (ls eRExpr p2.kids)]]⟩]) (st1 := [(ro 0 3 1 eI s0), ⟨0, 97, 2, [(eRSignatures p0)]⟩, (ro 0 3 1 eI [q26]), ⟨0, 50, 3, [[(i64 p2.op), (i64 p2.num), (ls eRExpr p2.kids)]]⟩]) [0, 1, 3, 2] rfl (.pure (pure_map fun _ => rfl) .nil) (by decide) rfl rfl (.pure (pure_map fun _ => rfl) (.raw rfl rfl (.pure (pure_map fun _ => rfl) (.raw rfl rfl .nil)))) ⟨.rfl, .rfl, .rfl, .rfl, trivial⟩) ?_; exact Wk.to (L := [(3, (.ptr 1 0 0 0)), (63, (ow 0 0 s0)), (65, (ow 2 0 [q26])), (67, (.ptr 3 0 0 2))]) ⟨.rfl, .rfl, .rfl, .rfl, trivial⟩) (AX.lst (by kernel_rfl) ((hA35 _ _ _).1 A35_1235)) rfl
       ·refine AXs.of (i := 6) rfl rfl (by rfl) ?_
        refine zq tb rfl ?_
        refine AO.done ⟨rfl, ?_⟩
        exact AX.weaken (by refine Wk.trans (Wk.permk (L := [(3, (.ptr 1 0 0 0)), (63, (ow 0 0 s0)), (64, (i64 q26)), (68, (ls eRExpr p2.kids))]) (st' := [(ro 0 3 1 eI s0), ⟨0, 97, 2, [(eRSignatures p0)]⟩]) (st1 := [(ro 0 3 1 eI s0), ⟨0, 97, 2, [(eRSignatures p0)]⟩]) [0, 1] rfl (.pure (pure_map fun _ => rfl) .nil) (by decide) rfl rfl (.pure (pure_map fun _ => rfl) (.raw rfl rfl .nil)) ⟨.rfl, .rfl, .rfl, .rfl, trivial⟩) ?_; exact Wk.to (L := [(3, (.ptr 1 0 0 0)), (63, (ow 0 0 s0)), (64, (i64 q26)), (68, (ls eRExpr p2.kids))]) ⟨.rfl, .rfl, .rfl, .rfl, trivial⟩) (AX.lst (by kernel_rfl) ((hA35 _ _ _).1 A35_1256)) rfl)
      have A35_12 : A35 9 #[false, true, true, false, false, false, false, false, false, false, false] ⟨194, envL [(3, (.ptr 1 0 0 0)), (5, (.ptr 2 0 0 0)), (63, (ow 0 0 s0)), (64, (i64 q26))], [(ro 0 3 1 eI s0), ⟨0, 97, 2, [(eRSignatures p0)]⟩, ⟨0, 50, 3, [[(i64 p2.op), (i64 p2.num), (ls eRExpr p2.kids)]]⟩]⟩ := (hA35 _ _ _).2 (by
       refine AX.all [0, 3, 5] rfl (by kernel_rfl) (by decide) ⟨?_, ?_, ?_, trivial⟩
       ·refine AXs.of (i := 0) rfl rfl (by rfl) ?_
        refine zq tb rfl ?_
        refine AO.done ⟨rfl, ?_⟩
        exact AX.weaken (by refine Wk.trans (Wk.permk (L := [(5, (.ptr 1 0 0 0)), (62, (.agg (eRSignatures p0))), (63, (ow 0 0 s0)), (64, (i64 q26))]) (st' := [(ro 0 3 1 eI s0), ⟨0, 50, 3, [[(i64 p2.op), (i64 p2.num), (ls eRExpr p2.kids)]]⟩]) (st1 := [(ro 0 3 1 eI s0), ⟨0, 50, 3, [[(i64 p2.op), (i64 p2.num), (ls eRExpr p2.kids)]]⟩]) [0, 2] rfl (.pure (pure_map fun _ => rfl) .nil) (by decide) rfl rfl (.pure (pure_map fun _ => rfl) (.raw rfl rfl .nil)) ⟨.rfl, .rfl, .rfl, .rfl, trivial⟩) ?_; exact Wk.to (L := [(5, (.ptr 1 0 0 0)), (62, (.agg (eRSignatures p0))), (63, (ow 0 0 s0)), (64, (i64 q26))]) ⟨.rfl, .rfl, .rfl, .rfl, trivial⟩) (AX.lst (by kernel_rfl) ((hA35 _ _ _).1 A35_012)) rfl
       ·refine AXs.of (i := 3) rfl rfl (by rfl) ?_
        refine ao_bs (m := 3) (st' := [(ro 0 3 1 eI s0), ⟨0, 97, 2, [(eRSignatures p0)]⟩, ⟨0, 50, 3, [[(i64 p2.op), (i64 p2.num), (ls eRExpr p2.kids)]]⟩, (ro 0 3 1 eI [q26])]) (l := [q26]) (enc := eI) go0 ei40 (by decide) rfl rfl rfl rfl rfl rfl ?_
        refine AO.done ⟨rfl, ?_⟩
        exact AX.weaken (Wk.to (L := [(3, (.ptr 1 0 0 0)), (5, (.ptr 2 0 0 0)), (63, (ow 0 0 s0)), (65, (ow 3 0 [q26]))]) ⟨.rfl, .rfl, .rfl, .rfl, trivial⟩) (AX.lst (by kernel_rfl) ((hA35 _ _ _).1 A35_123)) rfl
       ·refine AXs.of (i := 5) rfl rfl (by rfl) ?_
        refine zq tb rfl ?_
        refine AO.done ⟨rfl, ?_⟩
        exact AX.weaken (Wk.to (L := [(3, (.ptr 1 0 0 0)), (63, (ow 0 0 s0)), (64, (i64 q26)), (67, (.ptr 2 0 0 2))]) ⟨.rfl, .rfl, .rfl, .rfl, trivial⟩) (AX.lst (by kernel_rfl) ((hA35 _ _ _).1 A35_125)) rfl)
      have A35_1 : A35 10 #[false, true, false, false, false, false, false, false, false, false, false] ⟨194, envL [(3, (.ptr 1 0 0 0)), (5, (.ptr 2 0 0 0)), (7, (i64 q26)), (63, (ow 0 0 s0))], [(ro 0 3 1 eI s0), ⟨0, 97, 2, [(eRSignatures p0)]⟩, ⟨0, 50, 3, [[(i64 p2.op), (i64 p2.num), (ls eRExpr p2.kids)]]⟩]⟩ := (hA35 _ _ _).2 (by
       refine AX.hoist 2 (v := (i64 q26)) rfl rfl (by kernel_rfl) (by kernel_rfl) (by kernel_rfl) rfl (hoist_mv rfl) ?_
       exact AX.weaken (Wk.to (L := [(3, (.ptr 1 0 0 0)), (5, (.ptr 2 0 0 0)), (63, (ow 0 0 s0)), (64, (i64 q26))]) ⟨.rfl, .rfl, .rfl, .rfl, trivial⟩) (AX.lst (by kernel_rfl) ((hA35 _ _ _).1 A35_12)) rfl)
      have A35_e : A35 11 #[false, false, false, false, false, false, false, false, false, false, false] ⟨194, envL [(1, (ow 0 0 s0)), (3, (.ptr 1 0 0 0)), (5, (.ptr 2 0 0 0)), (7, (i64 q26))], [(ro 0 3 1 eI s0), ⟨0, 97, 2, [(eRSignatures p0)]⟩, ⟨0, 50, 3, [[(i64 p2.op), (i64 p2.num), (ls eRExpr p2.kids)]]⟩]⟩ := (hA35 _ _ _).2 (by
       refine AX.hoist 1 (v := (ow 0 0 s0)) rfl rfl (by kernel_rfl) (by kernel_rfl) (by kernel_rfl) rfl (hoist_mv rfl) ?_
       exact AX.weaken (Wk.to (L := [(3, (.ptr 1 0 0 0)), (5, (.ptr 2 0 0 0)), (7, (i64 q26)), (63, (ow 0 0 s0))]) ⟨.rfl, .rfl, .rfl, .rfl, trivial⟩) (AX.lst (by kernel_rfl) ((hA35 _ _ _).1 A35_1)) rfl)
      refine (hA35 _ _ _).2 ?_
      exact AX.weaken (Wk.to (L := [(1, (ow 0 0 s0)), (3, (.ptr 1 0 0 0)), (5, (.ptr 2 0 0 0)), (7, (i64 q26))]) ⟨.rfl, .rfl, .rfl, .rfl, trivial⟩) (AX.lst (by kernel_rfl) ((hA35 _ _ _).1 A35_e)) rfl
   refine AW.regionO (by rfl) ?_
   refine zm tb 2 rfl ?_
   refine zl tb rfl rfl ?_
   refine zm tb 2 rfl ?_
   rcases Sh.ite_some h1 with ⟨b36, h1⟩ | ⟨b36, h1⟩
   ·refine zs b36 rfl ?_
    iterate 2 refine zs b36 rfl ?_
    refine zt b36 rfl ?_
    exact AO.done (M21 true (Sh.some_eq h1).symm _ (Wk.tr rfl))
   ·refine zg tb b36 rfl ?_
    iterate 2 refine zg tb b36 rfl ?_
    refine zf b36 rfl ?_
    exact AO.done (M21 (!decide (p2.num = 0)) (Sh.some_eq h1).symm _ (Wk.tr rfl))
  ·intro b17 h0
   refine zr tb rfl rfl ?_
   refine ci h0 rfl ?_ ?_ <;> clear h0
   ·intro b38 h0
    refine AW.seq fun K39 hK39 => ?_
    refine AW.seq fun K40 hK40 => ?_
    obtain ⟨o42, h1, h0⟩ := Sh.bind_some h0
    have M42 : ∀ (t41 : Bool), o42 = t41 → ∀ s, Wk 1 s ⟨194, envL [(1, (ow 0 0 s0)), (3, (.ptr 1 0 0 0)), (5, (.ptr 2 0 0 0)), (92, (.bool t41))], [(ro 0 3 1 eI s0), ⟨0, 97, 2, [(eRSignatures p0)]⟩, ⟨0, 50, 3, [[(i64 p2.op), (i64 p2.num), (ls eRExpr p2.kids)]]⟩]⟩ → K40 s := by
     intro t41 hq s hw
     subst o42
     try dsimp only at h0
     refine hK40 _ (AW.weaken hw ?_)
     refine ci h0 rfl ?_ ?_ <;> clear h0
     ·intro b43 h0
      refine zr tb rfl rfl ?_
      replace h0 := Sh.some_eq h0
      subst r
      exact AW.ret (xr (Wk.permk (L := [(6, (i64 (-1)))]) (st' := [(ro 0 3 1 eI s0)]) (st1 := [(ro 0 3 1 eI s0)]) [0] rfl (.pure (pure_map fun _ => rfl) .nil) (by decide) rfl rfl (.pure (pure_map fun _ => rfl) .nil) ⟨.rfl, trivial⟩))
     ·intro b43 h0
      refine AW.skip (hK39 _ ?_)
      refine AW.seq fun K45 hK45 => ?_
      refine AW.drawTailO 7 (by kernel_rfl) (by kernel_rfl) (by rfl) ?_
      iterate 4 refine yq tb rfl ?_
      obtain ⟨l46, gl46, h0⟩ := Sh.bind_some h0
      refine d_sls (i := 1) (j := Sh.len p2.kids) go0 ei48 rfl rfl rfl eRExpr_len gl46 ?_
      obtain ⟨l47, gl47, h0⟩ := Sh.bind_some h0
      refine d_mk (enc := (eS eI)) (u := []) go0 ei123 rfl rfl rfl gl47 (pure_map fun _ => rfl) ?_
      obtain ⟨q48, gq48, h0⟩ := Sh.bind_some h0
      refine d_callb (v' := (i64 q48)) go0 hb92 (impl_signatures_oneType_ok hrec_impl_signatures_typeOf gq48) rfl (.val rfl (.own rfl rfl (fun _ => rfl) (.val rfl (.val rfl .nil)))) rfl rfl ?_
      refine d_done ?_
      refine zq tb rfl ?_
      refine dn hK45 rfl ?_
      replace h0 := Sh.some_eq h0
      subst r
      exact AW.ret (xr (Wk.permk (L := [(6, (i64 q48))]) (st' := [(ro 0 3 1 eI s0)]) (st1 := [(ro 0 3 1 eI s0)]) [0] rfl (.pure (pure_map fun _ => rfl) .nil) (by decide) rfl rfl (.pure (pure_map fun _ => rfl) .nil) ⟨.rfl, trivial⟩))
    refine AW.draw (by kernel_rfl) (by kernel_rfl) (by rfl) ?_
    iterate 2 refine yq tb rfl ?_
    refine yl tb rfl rfl ?_
    iterate 2 refine yq tb rfl ?_
    rcases Sh.ite_some h1 with ⟨b49, h1⟩ | ⟨b49, h1⟩
    ·refine ys b49 rfl ?_
     iterate 2 refine ys b49 rfl ?_
     refine yt b49 rfl ?_
     refine yq tb rfl ?_
     iterate 8 refine ys rfl rfl ?_
     refine yt rfl rfl ?_
     exact d_done (M42 true (Sh.some_eq h1).symm _ (Wk.tr rfl))
    ·refine yg tb b49 rfl ?_
     iterate 2 refine yg tb b49 rfl ?_
     refine yf b49 rfl ?_
     refine yq tb rfl ?_
     rcases Sh.ite_some h1 with ⟨b50, h1⟩ | ⟨b50, h1⟩
     ·refine ys b50 rfl ?_
      iterate 7 refine ys b50 rfl ?_
      refine yt b50 rfl ?_
      exact d_done (M42 true (Sh.some_eq h1).symm _ (Wk.tr rfl))
     ·refine yg tb b50 rfl ?_
      iterate 3 refine yg tb b50 rfl ?_
      obtain ⟨c51, gc51, h1⟩ := Sh.bind_some h1
      refine d_q (v := (.iptr [(i64 c51.op), (i64 c51.num), (ls eRExpr c51.kids)] 0)) (go1 rfl rfl b50) rfl (aq_ixsE ei48 rfl rfl gc51 (eRExpr_eq _) rfl) ?_
      refine yg tb b50 rfl ?_
      obtain ⟨q52, gq52, h1⟩ := Sh.bind_some h1
      refine d_calls (rowsP := [(ro 0 3 1 eI s0)]) (rows0 := [(ro 0 3 1 eI s0)]) (rows1 := [(ro 0 3 1 eI s0)]) (rows1' := [(ro 0 3 1 eI s0)]) (v' := (i64 q52)) [0] (go1 rfl rfl b50) hb61 (hrec_impl_signatures_typeOf gq52) rfl (by decide) rfl rfl (.pure (pure_map fun _ => rfl) .nil) rfl rfl (.pure (pure_map fun _ => rfl) .nil) rfl rfl ?_
      refine yg tb b50 rfl ?_
      refine yf b50 rfl ?_
      exact d_done (M42 (!decide (q52 = 0)) (Sh.some_eq h1).symm _ (Wk.tr rfl))
   ·intro b38 h0
    refine zr tb rfl rfl ?_
    refine ci h0 rfl ?_ ?_ <;> clear h0
    ·intro b54 h0
     refine sr rfl fun K55 hK55 => ?_
     refine zm tb 4 rfl ?_
     obtain ⟨q56, gq56, h0⟩ := Sh.bind_some h0
     refine ao_call (v' := (ow 3 0 q56)) (st' := [(ro 0 3 1 eI s0), ⟨0, 97, 2, [(eRSignatures p0)]⟩, ⟨0, 50, 3, [[(i64 p2.op), (i64 p2.num), (ls eRExpr p2.kids)]]⟩, (ro 0 3 1 eI q56)]) go0 hb93 (impl_consOf_ok gq56) rfl rfl ⟨(pure_map' fun _ => rfl), trivial⟩ rfl rfl ?_
     refine zq tb rfl ?_
     refine dn hK55 rfl ?_
     refine AW.seq fun K57 hK57 => ?_
     refine AW.seq fun K58 hK58 => ?_
     obtain ⟨o60, h1, h0⟩ := Sh.bind_some h0
     have M60 : ∀ (t59 : Bool), o60 = t59 → ∀ s, Wk 1 s ⟨194, envL [(1, (ow 0 0 s0)), (3, (.ptr 1 0 0 0)), (5, (.ptr 2 0 0 0)), (8, (ow 3 0 q56)), (130, (.bool t59))], [(ro 0 3 1 eI s0), ⟨0, 97, 2, [(eRSignatures p0)]⟩, ⟨0, 50, 3, [[(i64 p2.op), (i64 p2.num), (ls eRExpr p2.kids)]]⟩, (ro 0 3 1 eI q56)]⟩ → K58 s := by
      intro t59 hq s hw
      subst o60
      try dsimp only at h0
      refine hK58 _ (AW.weaken hw ?_)
      refine ci h0 rfl ?_ ?_ <;> clear h0
      ·intro b61 h0
       refine zr tb rfl rfl ?_
       replace h0 := Sh.some_eq h0
       subst r
       exact AW.ret (xr (Wk.permk (L := [(6, (i64 (-1)))]) (st' := [(ro 0 3 1 eI s0)]) (st1 := [(ro 0 3 1 eI s0)]) [0] rfl (.pure (pure_map fun _ => rfl) .nil) (by decide) rfl rfl (.pure (pure_map fun _ => rfl) .nil) ⟨.rfl, trivial⟩))
      ·intro b61 h0
       refine AW.skip (hK57 _ ?_)
       refine sr rfl fun K63 hK63 => ?_
       refine zq tb rfl ?_
       refine zz (i64 (Sh.len q56)) (aq_leno sl40 rfl rfl rfl) rfl ?_
       obtain ⟨l64, gl64, h0⟩ := Sh.bind_some h0
       refine ao_make (m := 4) (st' := [(ro 0 3 1 eI s0), ⟨0, 97, 2, [(eRSignatures p0)]⟩, ⟨0, 50, 3, [[(i64 p2.op), (i64 p2.num), (ls eRExpr p2.kids)]]⟩, (ro 0 3 1 eI q56), (ro 0 40 1 (eS eI) l64)]) (enc := (eS eI)) (u := []) go0 ei123 rfl rfl rfl gl64 rfl rfl ?_
       refine zq tb rfl ?_
       refine dn hK63 rfl ?_
       refine AW.seq fun K65 hK65 => ?_
       refine sr rfl fun K66 hK66 => ?_
       refine zq tb rfl ?_
       refine zz (i64 (Sh.len q56)) (aq_leno sl40 rfl rfl rfl) rfl ?_
       refine zq tb rfl ?_
       refine dn hK66 rfl ?_
       obtain ⟨o70, h1, h0⟩ := Sh.bind_some h0
       have M70 : ∀ (l69 : (List (List Int))), o70 = l69 → ∀ s, Wk 1 s ⟨194, envL [(1, (ow 0 0 s0)), (3, (.ptr 1 0 0 0)), (5, (.ptr 2 0 0 0)), (9, (ow 3 0 l69))], [(ro 0 3 1 eI s0), ⟨0, 97, 2, [(eRSignatures p0)]⟩, ⟨0, 50, 3, [[(i64 p2.op), (i64 p2.num), (ls eRExpr p2.kids)]]⟩, (ro 0 40 1 (eS eI) l69)]⟩ → K65 s := by
        intro l69 hq s hw
        subst o70
        try dsimp only at h0
        refine hK65 _ (AW.weaken hw ?_)
        refine AW.seq fun K71 hK71 => ?_
        refine AW.drawTailO 7 (by kernel_rfl) (by kernel_rfl) (by rfl) ?_
        iterate 4 refine yq tb rfl ?_
        obtain ⟨l72, gl72, h0⟩ := Sh.bind_some h0
        refine d_sls (i := 1) (j := Sh.len p2.kids) go0 ei48 rfl rfl rfl eRExpr_len gl72 ?_
        refine yq tb rfl ?_
        obtain ⟨q73, gq73, h0⟩ := Sh.bind_some h0
        refine d_callb (v' := (i64 q73)) go0 hb92 (impl_signatures_oneType_ok hrec_impl_signatures_typeOf gq73) rfl (.val rfl (.own rfl rfl (fun _ => rfl) (.val rfl (.own rfl rfl (fun _ => rfl) .nil)))) rfl rfl ?_
        refine d_done ?_
        refine zq tb rfl ?_
        refine dn hK71 rfl ?_
        replace h0 := Sh.some_eq h0
        subst r
        exact AW.ret (xr (Wk.permk (L := [(6, (i64 q73))]) (st' := [(ro 0 3 1 eI s0)]) (st1 := [(ro 0 3 1 eI s0)]) [0] rfl (.pure (pure_map fun _ => rfl) .nil) (by decide) rfl rfl (.pure (pure_map fun _ => rfl) .nil) ⟨.rfl, trivial⟩))
       refine AW.block (AW.loopF (σ := Int × (List (List Int))) (fun n v => impl_signatures_typeOf_B_L1 N p0 q56 n v.1 v.2 = some o70) (fun (t67, l68) => ⟨194, envL [(1, (ow 0 0 s0)), (3, (.ptr 1 0 0 0)), (5, (.ptr 2 0 0 0)), (9, (ow 4 0 l68)), (134, (ow 3 0 q56)), (135, (i64 (Sh.len q56))), (136, (i64 t67))], [(ro 0 3 1 eI s0), ⟨0, 97, 2, [(eRSignatures p0)]⟩, ⟨0, 50, 3, [[(i64 p2.op), (i64 p2.num), (ls eRExpr p2.kids)]]⟩, (ro 0 3 1 eI q56), (ro 0 40 1 (eS eI) l68)]⟩) N (0, l64) h1 (Wk.tr rfl) (fun _ hv => by rw [impl_signatures_typeOf_B_L1] at hv; cases hv) ?_)
       rintro n ⟨t67, l68⟩ h1
       try dsimp only at h1 ⊢
       rw [impl_signatures_typeOf_B_L1] at h1
       refine zr tb rfl rfl ?_
       refine AW.seq fun K75 hK75 => ?_
       refine ci h1 rfl ?_ ?_ <;> clear h1
       ·intro b76 h1
        refine AW.skip (hK75 _ ?_)
        refine AW.seq fun K77 hK77 => ?_
        refine AW.block ?_
        refine sr rfl fun K78 hK78 => ?_
        refine zq tb rfl ?_
        obtain ⟨c79, gc79, h1⟩ := Sh.bind_some h1
        refine zz (.ptr 3 0 (Int.toNat t67) 0) (aq_ixo ei40 rfl rfl rfl rfl gc79) rfl ?_
        refine zz (i64 c79) (aq_ldp ti3 rfl rfl (map_get gc79) rfl) rfl ?_
        refine zm tb 2 rfl ?_
        refine dn hK78 rfl ?_
        refine AW.regionO (by rfl) ?_
        refine zm tb 5 rfl ?_
        obtain ⟨q80, gq80, h1⟩ := Sh.bind_some h1
        refine zc hb94 (impl_fieldsOf_ok gq80) rfl rfl rfl ?_
        obtain ⟨c81, gc81, h1⟩ := Sh.bind_some h1
        refine zz (.ptr 4 0 (Int.toNat t67) 0) (aq_ixo ei123 rfl rfl rfl rfl gc81) rfl ?_
        refine ao_stl (st' := [(ro 0 3 1 eI s0), ⟨0, 97, 2, [(eRSignatures p0)]⟩, ⟨0, 50, 3, [[(i64 p2.op), (i64 p2.num), (ls eRExpr p2.kids)]]⟩, (ro 0 3 1 eI q56), (ro 0 40 1 (eS eI) (Sh.put l68 t67 q80))]) (u' := q80) go0 ti40 rfl rfl gc81 rfl rfl rfl (show 0 + 1 ≤ 1 by decide) rfl rfl ?_
        refine dn hK77 rfl ?_
        refine AW.regionO (by rfl) ?_
        refine zm tb 2 rfl ?_
        exact AO.done (xi (Sh.w (t67 + 1), Sh.put l68 t67 q80) h1 (Wk.to (L := [(1, (.own 0 0 (List.length s0))), (3, (.ptr 1 0 0 0)), (5, (.ptr 2 0 0 0)), (9, (.own 4 0 (List.length (Sh.put l68 t67 q80)))), (134, (.own 3 0 (List.length q56))), (135, (i64 (Sh.len q56))), (136, (i64 (Sh.w (t67 + 1))))]) ⟨.rfl, .rfl, .rfl, (.len (by simp only [Sh.put_len])), .rfl, .rfl, .rfl, trivial⟩))
       ·intro b76 h1
        exact AW.exit (M70 l68 (Sh.some_eq h1).symm _ (Wk.permk (L := [(1, (ow 0 0 s0)), (3, (.ptr 1 0 0 0)), (5, (.ptr 2 0 0 0)), (9, (ow 3 0 l68))]) (st' := [(ro 0 3 1 eI s0), ⟨0, 97, 2, [(eRSignatures p0)]⟩, ⟨0, 50, 3, [[(i64 p2.op), (i64 p2.num), (ls eRExpr p2.kids)]]⟩, (ro 0 40 1 (eS eI) l68)]) (st1 := [(ro 0 3 1 eI s0), ⟨0, 97, 2, [(eRSignatures p0)]⟩, ⟨0, 50, 3, [[(i64 p2.op), (i64 p2.num), (ls eRExpr p2.kids)]]⟩, (ro 0 40 1 (eS eI) l68)]) [0, 1, 2, 4] rfl (.pure (pure_map fun _ => rfl) .nil) (by decide) rfl rfl (.pure (pure_map fun _ => rfl) (.raw rfl rfl (.raw rfl rfl (.pure (pure_map fun _ => rfl) .nil)))) ⟨.rfl, .rfl, .rfl, .rfl, trivial⟩))
     refine AW.draw (by kernel_rfl) (by kernel_rfl) (by rfl) ?_
     refine yq tb rfl ?_
     refine yz (i64 (Sh.len q56)) (aq_leno sl40 rfl rfl rfl) rfl ?_
     iterate 2 refine yq tb rfl ?_
     rcases Sh.ite_some h1 with ⟨b82, h1⟩ | ⟨b82, h1⟩
     ·refine ys b82 rfl ?_
      iterate 6 refine ys b82 rfl ?_
      refine yt b82 rfl ?_
      refine yq tb rfl ?_
      iterate 10 refine ys rfl rfl ?_
      refine yt rfl rfl ?_
      exact d_done (M60 true (Sh.some_eq h1).symm _ (Wk.tr rfl))
     ·refine yg tb b82 rfl ?_
      refine yg tb b82 rfl ?_
      refine d_q (v := (i64 (Sh.len p2.kids))) (go1 rfl rfl b82) rfl (aq_lens sl48 rfl) ?_
      refine yg tb b82 rfl ?_
      refine d_q (v := (i64 (Sh.len q56))) (go1 rfl rfl b82) rfl (aq_leno sl40 rfl rfl rfl) ?_
      iterate 2 refine yg tb b82 rfl ?_
      refine yf b82 rfl ?_
      refine yq tb rfl ?_
      rcases Sh.ite_some h1 with ⟨b83, h1⟩ | ⟨b83, h1⟩
      ·refine ys b83 rfl ?_
       iterate 9 refine ys b83 rfl ?_
       refine yt b83 rfl ?_
       exact d_done (M60 true (Sh.some_eq h1).symm _ (Wk.tr rfl))
      ·refine yg tb b83 rfl ?_
       iterate 3 refine yg tb b83 rfl ?_
       obtain ⟨c84, gc84, h1⟩ := Sh.bind_some h1
       refine d_q (v := (.iptr [(i64 c84.op), (i64 c84.num), (ls eRExpr c84.kids)] 0)) (go1 rfl rfl b83) rfl (aq_ixsE ei48 rfl rfl gc84 (eRExpr_eq _) rfl) ?_
       refine yg tb b83 rfl ?_
       obtain ⟨q85, gq85, h1⟩ := Sh.bind_some h1
       refine d_calls (rowsP := [(ro 0 3 1 eI s0)]) (rows0 := [(ro 0 3 1 eI s0)]) (rows1 := [(ro 0 3 1 eI s0)]) (rows1' := [(ro 0 3 1 eI s0)]) (v' := (i64 q85)) [0] (go1 rfl rfl b83) hb61 (hrec_impl_signatures_typeOf gq85) rfl (by decide) rfl rfl (.pure (pure_map fun _ => rfl) .nil) rfl rfl (.pure (pure_map fun _ => rfl) .nil) rfl rfl ?_
       iterate 3 refine yg tb b83 rfl ?_
       refine yf b83 rfl ?_
       exact d_done (M60 (!decide (q85 = p2.num)) (Sh.some_eq h1).symm _ (Wk.tr rfl))
    ·intro b54 h0
     refine AW.skip (hK2 _ ?_)
     refine sr rfl fun K86 hK86 => ?_
     refine zm tb 2 rfl ?_
     refine zl tb rfl rfl ?_
     obtain ⟨l87, gl87, h0⟩ := Sh.bind_some h0
     refine ao_make (m := 3) (st' := [(ro 0 3 1 eI s0), ⟨0, 97, 2, [(eRSignatures p0)]⟩, ⟨0, 50, 3, [[(i64 p2.op), (i64 p2.num), (ls eRExpr p2.kids)]]⟩, (ro 0 3 1 eI l87)]) (enc := eI) (u := 0) go0 ei40 rfl rfl rfl gl87 rfl rfl ?_
     refine zq tb rfl ?_
     refine dn hK86 rfl ?_
     refine AW.seq fun K88 hK88 => ?_
     refine sr rfl fun K89 hK89 => ?_
     refine zm tb 2 rfl ?_
     refine zl tb rfl rfl ?_
     refine zq tb rfl ?_
     refine dn hK89 rfl ?_
     obtain ⟨o93, h1, h0⟩ := Sh.cont_some h0
     have M93 : ∀ (l92 : (List Int)), o93 = Sum.inr l92 → ∀ s, Wk 1 s ⟨194, envL [(3, (.ptr 1 0 0 0)), (5, (.ptr 2 0 0 0)), (12, (ow 3 0 l92))], [(ro 0 3 1 eI s0), ⟨0, 97, 2, [(eRSignatures p0)]⟩, ⟨0, 50, 3, [[(i64 p2.op), (i64 p2.num), (ls eRExpr p2.kids)]]⟩, (ro 0 3 1 eI l92)]⟩ → K88 s := by
      intro l92 hq s hw
      subst o93
      try dsimp only at h0
      refine hK88 _ (AW.weaken hw ?_)
      refine sr rfl fun K94 hK94 => ?_
      refine zm tb 6 rfl ?_
      refine AO.weaken (Wk.frz (L := [(182, (.agg (eRSignatures p0))), (184, (i64 p2.op)), (186, (i64 p2.num)), (187, (ls eI l92))]) (st' := [(ro 0 3 1 eI s0), ⟨0, 97, 2, [(eRSignatures p0)]⟩, ⟨0, 50, 3, [[(i64 p2.op), (i64 p2.num), (ls eRExpr p2.kids)]]⟩, ⟨1, 3, 1, []⟩]) (id := 3) rfl (show 1 ≤ 3 by decide) (pure_map fun _ => rfl) ⟨.rfl, .rfl, .rfl, (.frz rfl), trivial⟩ rfl) ?_
      obtain ⟨q95, gq95, h0⟩ := Sh.bind_some h0
      refine zc (v' := (.tup [(i64 q95.1), (.bool q95.2)])) hb95 (impl_signatures_simpleType_ok gq95) rfl rfl rfl ?_
      refine zm tb 5 rfl ?_
      refine dn hK94 rfl ?_
      refine AW.seq fun K96 hK96 => ?_
      refine zr tb rfl rfl ?_
      refine ci h0 rfl ?_ ?_ <;> clear h0
      ·intro b98 h0
       have b99 : q95.2 = false := by simpa using b98
       refine zr tb rfl rfl ?_
       replace h0 := Sh.some_eq h0
       subst r
       exact AW.ret (xr (Wk.permk (L := [(6, (i64 (-1)))]) (st' := [(ro 0 3 1 eI s0)]) (st1 := [(ro 0 3 1 eI s0)]) [0] rfl (.pure (pure_map fun _ => rfl) .nil) (by decide) rfl rfl (.pure (pure_map fun _ => rfl) .nil) ⟨.rfl, trivial⟩))
      ·intro b98 h0
       have b101 : q95.2 = true := by simpa using b98
       refine AW.skip (hK96 _ ?_)
       refine zr tb rfl rfl ?_
       replace h0 := Sh.some_eq h0
       subst r
       exact AW.ret (xr (Wk.permk (L := [(6, (i64 q95.1))]) (st' := [(ro 0 3 1 eI s0)]) (st1 := [(ro 0 3 1 eI s0)]) [0] rfl (.pure (pure_map fun _ => rfl) .nil) (by decide) rfl rfl (.pure (pure_map fun _ => rfl) .nil) ⟨.rfl, trivial⟩))
     refine AW.block (AW.loopF (σ := Int × (List Int)) (fun n v => impl_signatures_typeOf_B_L2 s0 p0 p2 rec_impl_signatures_typeOf n v.1 v.2 = some o93) (fun (t90, l91) => ⟨194, envL [(1, (ow 0 0 s0)), (3, (.ptr 1 0 0 0)), (5, (.ptr 2 0 0 0)), (12, (ow 3 0 l91)), (161, (ls eRExpr p2.kids)), (162, (i64 (Sh.len p2.kids))), (163, (i64 t90))], [(ro 0 3 1 eI s0), ⟨0, 97, 2, [(eRSignatures p0)]⟩, ⟨0, 50, 3, [[(i64 p2.op), (i64 p2.num), (ls eRExpr p2.kids)]]⟩, (ro 0 3 1 eI l91)]⟩) N (0, l87) h1 (Wk.tr rfl) (fun _ hv => by rw [impl_signatures_typeOf_B_L2] at hv; cases hv) ?_)
     rintro n ⟨t90, l91⟩ h1
     try dsimp only at h1 ⊢
     rw [impl_signatures_typeOf_B_L2] at h1
     refine zr tb rfl rfl ?_
     refine AW.seq fun K104 hK104 => ?_
     refine ci h1 rfl ?_ ?_ <;> clear h1
     ·intro b105 h1
      refine AW.skip (hK104 _ ?_)
      refine AW.seq fun K106 hK106 => ?_
      refine AW.block ?_
      refine sr rfl fun K107 hK107 => ?_
      refine zq tb rfl ?_
      obtain ⟨c108, gc108, h1⟩ := Sh.bind_some h1
      refine zz (.iptr [(i64 c108.op), (i64 c108.num), (ls eRExpr c108.kids)] 0) (aq_ixsE ei48 rfl rfl gc108 (eRExpr_eq _) rfl) rfl ?_
      refine zq tb rfl ?_
      refine ao_alloc (m := 4) (st' := [(ro 0 3 1 eI s0), ⟨0, 97, 2, [(eRSignatures p0)]⟩, ⟨0, 50, 3, [[(i64 p2.op), (i64 p2.num), (ls eRExpr p2.kids)]]⟩, (ro 0 3 1 eI l91), ⟨0, 50, 3, [[(i64 0), (i64 0), .zc]]⟩]) go0 zi50 rfl rfl ?_
      refine zq tb rfl ?_
      refine ao_str (st' := [(ro 0 3 1 eI s0), ⟨0, 97, 2, [(eRSignatures p0)]⟩, ⟨0, 50, 3, [[(i64 p2.op), (i64 p2.num), (ls eRExpr p2.kids)]]⟩, (ro 0 3 1 eI l91), ⟨0, 50, 3, [[(i64 c108.op), (i64 c108.num), (ls eRExpr c108.kids)]]⟩]) go0 ti50 rfl rfl rfl rfl rfl rfl (show 0 + 3 ≤ 3 by decide) rfl ?_
      refine dn hK107 rfl ?_
      refine sr rfl fun K109 hK109 => ?_
      refine zm tb 5 rfl ?_
      obtain ⟨q110, gq110, h1⟩ := Sh.bind_some h1
      refine ao_calls (rowsP := [(ro 0 3 1 eI s0)]) (rows0 := [(ro 0 3 1 eI s0)]) (rows1 := [(ro 0 3 1 eI s0)]) (rows2 := []) (rows1' := [(ro 0 3 1 eI s0)]) (rows2' := []) (st' := [(ro 0 3 1 eI s0), ⟨0, 97, 2, [(eRSignatures p0)]⟩, ⟨0, 50, 3, [[(i64 p2.op), (i64 p2.num), (ls eRExpr p2.kids)]]⟩, (ro 0 3 1 eI l91), ⟨0, 50, 3, [[(i64 c108.op), (i64 c108.num), (ls eRExpr c108.kids)]]⟩]) (v' := (i64 q110)) [0] go0 hb61 (hrec_impl_signatures_typeOf gq110) rfl (by decide) rfl rfl (.pure (pure_map fun _ => rfl) .nil) rfl rfl (.pure (pure_map fun _ => rfl) .nil) .nil rfl rfl ?_
      obtain ⟨c111, gc111, h1⟩ := Sh.bind_some h1
      refine zz (.ptr 3 0 (Int.toNat t90) 0) (aq_ixo ei40 rfl rfl rfl rfl gc111) rfl ?_
      refine ao_stl (st' := [(ro 0 3 1 eI s0), ⟨0, 97, 2, [(eRSignatures p0)]⟩, ⟨0, 50, 3, [[(i64 p2.op), (i64 p2.num), (ls eRExpr p2.kids)]]⟩, (ro 0 3 1 eI (Sh.put l91 t90 q110)), ⟨0, 50, 3, [[(i64 c108.op), (i64 c108.num), (ls eRExpr c108.kids)]]⟩]) (u' := q110) go0 ti3 rfl rfl gc111 rfl rfl rfl (show 0 + 1 ≤ 1 by decide) rfl rfl ?_
      refine dn hK109 rfl ?_
      refine sr rfl fun K112 hK112 => ?_
      refine zm tb 2 rfl ?_
      obtain ⟨c113, gc113, h1⟩ := Sh.bind_some h1
      refine zz (.ptr 3 0 (Int.toNat t90) 0) (aq_ixo ei40 rfl rfl rfl (by simp only [Sh.put_len]) gc113) rfl ?_
      refine zz (i64 c113) (aq_ldp ti3 rfl rfl (map_get gc113) rfl) rfl ?_
      refine zq tb rfl ?_
      refine dn hK112 rfl ?_
      refine ci h1 rfl ?_ ?_ <;> clear h1
      ·intro b114 h1
       refine zr tb rfl rfl ?_
       replace h1 := Sh.some_eq h1
       subst o93
       try dsimp only [id] at h0
       replace h0 := Sh.some_eq h0
       subst r
       exact AW.ret (xr (Wk.permk (L := [(6, (i64 (-1)))]) (st' := [(ro 0 3 1 eI s0)]) (st1 := [(ro 0 3 1 eI s0)]) [0] rfl (.pure (pure_map fun _ => rfl) .nil) (by decide) rfl rfl (.pure (pure_map fun _ => rfl) .nil) ⟨.rfl, trivial⟩))
      ·intro b114 h1
       refine AW.skip (hK106 _ ?_)
       refine AW.regionO (by rfl) ?_
       refine zm tb 2 rfl ?_
       exact AO.done (xi (Sh.w (t90 + 1), Sh.put l91 t90 q110) h1 (by refine Wk.trans (Wk.permk (L := [(1, (.own 0 0 (List.length s0))), (3, (.ptr 1 0 0 0)), (5, (.ptr 2 0 0 0)), (12, (.own 3 0 (List.length l91))), (161, (.sl (List.map eRExpr p2.kids))), (162, (i64 (Sh.len p2.kids))), (163, (i64 (Sh.w (t90 + 1))))]) (st' := [⟨0, 3, 1, List.map eI s0⟩, ⟨0, 97, 2, [(eRSignatures p0)]⟩, ⟨0, 50, 3, [[(i64 p2.op), (i64 p2.num), (.sl (List.map eRExpr p2.kids))]]⟩, ⟨0, 3, 1, List.map eI (Sh.put l91 t90 q110)⟩]) (st1 := [⟨0, 3, 1, List.map eI s0⟩, ⟨0, 97, 2, [(eRSignatures p0)]⟩, ⟨0, 50, 3, [[(i64 p2.op), (i64 p2.num), (.sl (List.map eRExpr p2.kids))]]⟩, ⟨0, 3, 1, List.map eI (Sh.put l91 t90 q110)⟩]) [0, 1, 2, 3] rfl (.pure (pure_map fun _ => rfl) .nil) (by decide) rfl rfl (.pure (pure_map fun _ => rfl) (.raw rfl rfl (.raw rfl rfl (.pure (pure_map fun _ => rfl) .nil)))) ⟨.rfl, .rfl, .rfl, .rfl, .rfl, .rfl, .rfl, trivial⟩) ?_; exact Wk.to (L := [(1, (.own 0 0 (List.length s0))), (3, (.ptr 1 0 0 0)), (5, (.ptr 2 0 0 0)), (12, (.own 3 0 (List.length (Sh.put l91 t90 q110)))), (161, (.sl (List.map eRExpr p2.kids))), (162, (i64 (Sh.len p2.kids))), (163, (i64 (Sh.w (t90 + 1))))]) ⟨.rfl, .rfl, .rfl, (.len (by simp only [Sh.put_len])), .rfl, .rfl, .rfl, trivial⟩))
     ·intro b105 h1
      exact AW.exit (M93 l91 (Sh.some_eq h1).symm _ (Wk.tr rfl))

theorem impl_signatures_typeOf_F_ok {N : Nat} : ∀ (n : Nat), ∀ {s0 : (List Int)} {p0 : RSignatures} {p2 : RExpr} {r : Int}, impl_signatures_typeOf_F N n s0 p0 p2 = some r → ACalls Try.prog 61 [(.agg (eRSignatures p0)), (ow 0 0 s0), (.agg [(i64 p2.op), (i64 p2.num), (ls eRExpr p2.kids)])] [(ro 0 3 1 eI s0)] (fun v st => v = (i64 r) ∧ st = [(ro 0 3 1 eI s0)]) := by
 intro n
 induction n with
 | zero => intro s0 p0 p2 r h0; cases h0
 | succ n ih =>
  intro s0 p0 p2 r h0
  rw [impl_signatures_typeOf_F] at h0
  exact impl_signatures_typeOf_B_ok (fun h => ih h) h0
theorem impl_signatures_typeOf_ok {N : Nat} : ∀ {s0 : (List Int)} {p0 : RSignatures} {p2 : RExpr} {r : Int}, impl_signatures_typeOf N s0 p0 p2 = some r → ACalls Try.prog 61 [(.agg (eRSignatures p0)), (ow 0 0 s0), (.agg [(i64 p2.op), (i64 p2.num), (ls eRExpr p2.kids)])] [(ro 0 3 1 eI s0)] (fun v st => v = (i64 r) ∧ st = [(ro 0 3 1 eI s0)]) := by
 intro s0 p0 p2 r h0
 exact impl_signatures_typeOf_F_ok N h0
theorem impl_TypeOf_ok {N : Nat} {p0 : RProgram} {p1 : (List Int)} {p2 : RExpr} {r : Int} (h0 : impl_TypeOf N p0 p1 p2 = some r) : ACalls Try.prog 39 [(.agg [(ls eRDecl p0.decls), (ls eRFunc p0.funcs)]), (ls eI p1), (.agg [(i64 p2.op), (i64 p2.num), (ls eRExpr p2.kids)])] [] (fun v st => v = (i64 r) ∧ st = []) := by
 unfold impl_TypeOf at h0
 refine ai Try.func39 rfl rfl rfl rfl ?_
 refine sr rfl fun K1 hK1 => ?_
 refine ao_box (m := 0) (st' := [⟨0, 31, 2, [[(ls eRDecl p0.decls), (ls eRFunc p0.funcs)]]⟩]) go0 rfl rfl rfl rfl rfl ?_
 refine ao_box (m := 1) (st' := [⟨0, 31, 2, [[(ls eRDecl p0.decls), (ls eRFunc p0.funcs)]]⟩, ⟨0, 50, 3, [[(i64 p2.op), (i64 p2.num), (ls eRExpr p2.kids)]]⟩]) go0 rfl rfl rfl rfl rfl ?_
 refine zq tb rfl ?_
 refine dn hK1 rfl ?_
 refine AW.seq fun K2 hK2 => ?_
 refine AW.seq fun K3 hK3 => ?_
 obtain ⟨o5, h1, h0⟩ := Sh.bind_some h0
 have M5 : ∀ (t4 : Bool), o5 = t4 → ∀ s, Wk 0 s ⟨28, envL [(1, (ls eI p1)), (3, (.ptr 0 0 0 0)), (5, (.ptr 1 0 0 0)), (21, (.bool t4))], [⟨0, 31, 2, [[(ls eRDecl p0.decls), (ls eRFunc p0.funcs)]]⟩, ⟨0, 50, 3, [[(i64 p2.op), (i64 p2.num), (ls eRExpr p2.kids)]]⟩]⟩ → K3 s := by
  intro t4 hq s hw
  subst o5
  try dsimp only at h0
  refine hK3 _ (AW.weaken hw ?_)
  refine ci h0 rfl ?_ ?_ <;> clear h0
  ·intro b6 h0
   refine zr tb rfl rfl ?_
   replace h0 := Sh.some_eq h0
   subst r
   exact AW.ret (xr (Wk.d0 [(6, (i64 (-1)))] rfl))
  ·intro b6 h0
   refine AW.skip (hK2 _ ?_)
   refine AW.seq fun K8 hK8 => ?_
   refine AW.drawX (by kernel_rfl) ?_
   obtain ⟨q9, gq9, h0⟩ := Sh.bind_some h0
   obtain ⟨q10, gq10, h0⟩ := Sh.bind_some h0
   obtain ⟨q11, gq11, h0⟩ := Sh.bind_some h0
   refine AX.one fun A12 hA12 => ?_
   have A12_0123456 : A12 0 #[true, true, true, true, true, true, true] ⟨28, envL [(6, (i64 q11))], []⟩ := (hA12 _ _ _).2 (by
    refine AX.done rfl (by kernel_rfl) ?_
    refine hK8 _ ?_
    replace h0 := Sh.some_eq h0
    subst r
    exact AW.ret (Exists.intro _ (And.intro (Wk.to (L := [(6, (i64 q11))]) ⟨.rfl, trivial⟩) (And.intro rfl rfl))))
   have A12_012345 : A12 1 #[true, true, true, true, true, true, false] ⟨28, envL [(27, (i64 q11))], []⟩ := (hA12 _ _ _).2 (by
    refine AX.hoist 6 (v := (i64 q11)) rfl rfl (by kernel_rfl) (by kernel_rfl) (by kernel_rfl) rfl (hoist_as rfl) ?_
    exact AX.weaken (Wk.to (L := [(6, (i64 q11))]) ⟨.rfl, trivial⟩) (AX.lst (by kernel_rfl) ((hA12 _ _ _).1 A12_0123456)) rfl)
   have A12_01234 : A12 2 #[true, true, true, true, true, false, false] ⟨28, envL [(23, (.agg (eRSignatures q9))), (25, (ow 0 0 q10)), (26, (.agg [(i64 p2.op), (i64 p2.num), (ls eRExpr p2.kids)]))], [(ro 0 3 1 eI q10)]⟩ := (hA12 _ _ _).2 (by
    refine AX.all [5] rfl (by kernel_rfl) (by decide) ⟨?_, trivial⟩
    ·refine AXs.of (i := 5) rfl rfl (by rfl) ?_
     refine ao_calls (rowsP := [(ro 0 3 1 eI q10)]) (rows0 := [(ro 0 3 1 eI q10)]) (rows1 := [(ro 0 3 1 eI q10)]) (rows2 := []) (rows1' := [(ro 0 3 1 eI q10)]) (rows2' := []) (st' := [(ro 0 3 1 eI q10)]) (v' := (i64 q11)) [0] go0 hb61 (impl_signatures_typeOf_ok gq11) rfl (by decide) rfl rfl (.pure (pure_map fun _ => rfl) .nil) rfl rfl (.pure (pure_map fun _ => rfl) .nil) .nil rfl rfl ?_
     refine AO.done ⟨rfl, ?_⟩
     exact AX.weaken (by refine Wk.trans (Wk.permk (L := [(27, (i64 q11))]) (st' := []) (st1 := []) [] rfl .nil (by decide) rfl rfl .nil ⟨.rfl, trivial⟩) ?_; exact Wk.to (L := [(27, (i64 q11))]) ⟨.rfl, trivial⟩) (AX.lst (by kernel_rfl) ((hA12 _ _ _).1 A12_012345)) rfl)
   have A12_0123 : A12 3 #[true, true, true, true, false, false, false] ⟨28, envL [(5, (.ptr 0 0 0 0)), (23, (.agg (eRSignatures q9))), (25, (ow 1 0 q10))], [⟨0, 50, 3, [[(i64 p2.op), (i64 p2.num), (ls eRExpr p2.kids)]]⟩, (ro 0 3 1 eI q10)]⟩ := (hA12 _ _ _).2 (by
    refine AX.all [4] rfl (by kernel_rfl) (by decide) ⟨?_, trivial⟩
    ·refine AXs.of (i := 4) rfl rfl (by rfl) ?_
     refine zq tb rfl ?_
     refine AO.done ⟨rfl, ?_⟩
     exact AX.weaken (by refine Wk.trans (Wk.permk (L := [(23, (.agg (eRSignatures q9))), (25, (ow 0 0 q10)), (26, (.agg [(i64 p2.op), (i64 p2.num), (ls eRExpr p2.kids)]))]) (st' := [(ro 0 3 1 eI q10)]) (st1 := [(ro 0 3 1 eI q10)]) [1] rfl .nil (by decide) rfl rfl (.pure (pure_map fun _ => rfl) .nil) ⟨.rfl, .rfl, .rfl, trivial⟩) ?_; exact Wk.to (L := [(23, (.agg (eRSignatures q9))), (25, (ow 0 0 q10)), (26, (.agg [(i64 p2.op), (i64 p2.num), (ls eRExpr p2.kids)]))]) ⟨.rfl, .rfl, .rfl, trivial⟩) (AX.lst (by kernel_rfl) ((hA12 _ _ _).1 A12_01234)) rfl)
   have A12_0124 : A12 3 #[true, true, true, false, true, false, false] ⟨28, envL [(23, (.agg (eRSignatures q9))), (24, (ls eI p1)), (26, (.agg [(i64 p2.op), (i64 p2.num), (ls eRExpr p2.kids)]))], []⟩ := (hA12 _ _ _).2 (by
    refine AX.all [3] rfl (by kernel_rfl) (by decide) ⟨?_, trivial⟩
    ·refine AXs.of (i := 3) rfl rfl (by rfl) ?_
     refine ao_call (v' := (ow 0 0 q10)) (st' := [(ro 0 3 1 eI q10)]) go0 hb62 (slices_Clone_int_int_ok gq10) rfl rfl ⟨(pure_map' fun _ => rfl), trivial⟩ rfl rfl ?_
     refine AO.done ⟨rfl, ?_⟩
     exact AX.weaken (Wk.to (L := [(23, (.agg (eRSignatures q9))), (25, (ow 0 0 q10)), (26, (.agg [(i64 p2.op), (i64 p2.num), (ls eRExpr p2.kids)]))]) ⟨.rfl, .rfl, .rfl, trivial⟩) (AX.lst (by kernel_rfl) ((hA12 _ _ _).1 A12_01234)) rfl)
   have A12_012 : A12 4 #[true, true, true, false, false, false, false] ⟨28, envL [(5, (.ptr 0 0 0 0)), (23, (.agg (eRSignatures q9))), (24, (ls eI p1))], [⟨0, 50, 3, [[(i64 p2.op), (i64 p2.num), (ls eRExpr p2.kids)]]⟩]⟩ := (hA12 _ _ _).2 (by
    refine AX.all [3, 4] rfl (by kernel_rfl) (by decide) ⟨?_, ?_, trivial⟩
    ·refine AXs.of (i := 3) rfl rfl (by rfl) ?_
     refine ao_call (v' := (ow 1 0 q10)) (st' := [⟨0, 50, 3, [[(i64 p2.op), (i64 p2.num), (ls eRExpr p2.kids)]]⟩, (ro 0 3 1 eI q10)]) go0 hb62 (slices_Clone_int_int_ok gq10) rfl rfl ⟨(pure_map' fun _ => rfl), trivial⟩ rfl rfl ?_
     refine AO.done ⟨rfl, ?_⟩
     exact AX.weaken (Wk.to (L := [(5, (.ptr 0 0 0 0)), (23, (.agg (eRSignatures q9))), (25, (ow 1 0 q10))]) ⟨.rfl, .rfl, .rfl, trivial⟩) (AX.lst (by kernel_rfl) ((hA12 _ _ _).1 A12_0123)) rfl
    ·refine AXs.of (i := 4) rfl rfl (by rfl) ?_
     refine zq tb rfl ?_
     refine AO.done ⟨rfl, ?_⟩
     exact AX.weaken (by refine Wk.trans (Wk.permk (L := [(23, (.agg (eRSignatures q9))), (24, (ls eI p1)), (26, (.agg [(i64 p2.op), (i64 p2.num), (ls eRExpr p2.kids)]))]) (st' := []) (st1 := []) [] rfl .nil (by decide) rfl rfl .nil ⟨.rfl, .rfl, .rfl, trivial⟩) ?_; exact Wk.to (L := [(23, (.agg (eRSignatures q9))), (24, (ls eI p1)), (26, (.agg [(i64 p2.op), (i64 p2.num), (ls eRExpr p2.kids)]))]) ⟨.rfl, .rfl, .rfl, trivial⟩) (AX.lst (by kernel_rfl) ((hA12 _ _ _).1 A12_0124)) rfl)
   have A12_024 : A12 4 #[true, false, true, false, true, false, false] ⟨28, envL [(22, (.agg [(ls eRDecl p0.decls), (ls eRFunc p0.funcs)])), (24, (ls eI p1)), (26, (.agg [(i64 p2.op), (i64 p2.num), (ls eRExpr p2.kids)]))], []⟩ := (hA12 _ _ _).2 (by
    refine AX.all [1] rfl (by kernel_rfl) (by decide) ⟨?_, trivial⟩
    ·refine AXs.of (i := 1) rfl rfl (by rfl) ?_
     refine zc (v' := (.agg (eRSignatures q9))) hb60 (impl_sigsOf_ok gq9) rfl rfl rfl ?_
     refine AO.done ⟨rfl, ?_⟩
     exact AX.weaken (Wk.to (L := [(23, (.agg (eRSignatures q9))), (24, (ls eI p1)), (26, (.agg [(i64 p2.op), (i64 p2.num), (ls eRExpr p2.kids)]))]) ⟨.rfl, .rfl, .rfl, trivial⟩) (AX.lst (by kernel_rfl) ((hA12 _ _ _).1 A12_0124)) rfl)
   have A12_02 : A12 5 #[true, false, true, false, false, false, false] ⟨28, envL [(5, (.ptr 0 0 0 0)), (22, (.agg [(ls eRDecl p0.decls), (ls eRFunc p0.funcs)])), (24, (ls eI p1))], [⟨0, 50, 3, [[(i64 p2.op), (i64 p2.num), (ls eRExpr p2.kids)]]⟩]⟩ := (hA12 _ _ _).2 (by
    refine AX.all [1, 4] rfl (by kernel_rfl) (by decide) ⟨?_, ?_, trivial⟩
    ·refine AXs.of (i := 1) rfl rfl (by rfl) ?_
     refine zc (v' := (.agg (eRSignatures q9))) hb60 (impl_sigsOf_ok gq9) rfl rfl rfl ?_
     refine AO.done ⟨rfl, ?_⟩
     exact AX.weaken (Wk.to (L := [(5, (.ptr 0 0 0 0)), (23, (.agg (eRSignatures q9))), (24, (ls eI p1))]) ⟨.rfl, .rfl, .rfl, trivial⟩) (AX.lst (by kernel_rfl) ((hA12 _ _ _).1 A12_012)) rfl
    ·refine AXs.of (i := 4) rfl rfl (by rfl) ?_
     refine zq tb rfl ?_
     refine AO.done ⟨rfl, ?_⟩
     exact AX.weaken (by refine Wk.trans (Wk.permk (L := [(22, (.agg [(ls eRDecl p0.decls), (ls eRFunc p0.funcs)])), (24, (ls eI p1)), (26, (.agg [(i64 p2.op), (i64 p2.num), (ls eRExpr p2.kids)]))]) (st' := []) (st1 := []) [] rfl .nil (by decide) rfl rfl .nil ⟨.rfl, .rfl, .rfl, trivial⟩) ?_; exact Wk.to (L := [(22, (.agg [(ls eRDecl p0.decls), (ls eRFunc p0.funcs)])), (24, (ls eI p1)), (26, (.agg [(i64 p2.op), (i64 p2.num), (ls eRExpr p2.kids)]))]) ⟨.rfl, .rfl, .rfl, trivial⟩) (AX.lst (by kernel_rfl) ((hA12 _ _ _).1 A12_024)) rfl)
   have A12_24 : A12 5 #[false, false, true, false, true, false, false] ⟨28, envL [(3, (.ptr 0 0 0 0)), (24, (ls eI p1)), (26, (.agg [(i64 p2.op), (i64 p2.num), (ls eRExpr p2.kids)]))], [⟨0, 31, 2, [[(ls eRDecl p0.decls), (ls eRFunc p0.funcs)]]⟩]⟩ := (hA12 _ _ _).2 (by
    refine AX.all [0] rfl (by kernel_rfl) (by decide) ⟨?_, trivial⟩
    ·refine AXs.of (i := 0) rfl rfl (by rfl) ?_
     refine zq tb rfl ?_
     refine AO.done ⟨rfl, ?_⟩
     exact AX.weaken (by refine Wk.trans (Wk.permk (L := [(22, (.agg [(ls eRDecl p0.decls), (ls eRFunc p0.funcs)])), (24, (ls eI p1)), (26, (.agg [(i64 p2.op), (i64 p2.num), (ls eRExpr p2.kids)]))]) (st' := []) (st1 := []) [] rfl .nil (by decide) rfl rfl .nil ⟨.rfl, .rfl, .rfl, trivial⟩) ?_; exact Wk.to (L := [(22, (.agg [(ls eRDecl p0.decls), (ls eRFunc p0.funcs)])), (24, (ls eI p1)), (26, (.agg [(i64 p2.op), (i64 p2.num), (ls eRExpr p2.kids)]))]) ⟨.rfl, .rfl, .rfl, trivial⟩) (AX.lst (by kernel_rfl) ((hA12 _ _ _).1 A12_024)) rfl)
   have A12_2 : A12 6 #[false, false, true, false, false, false, false] ⟨28, envL [(3, (.ptr 0 0 0 0)), (5, (.ptr 1 0 0 0)), (24, (ls eI p1))], [⟨0, 31, 2, [[(ls eRDecl p0.decls), (ls eRFunc p0.funcs)]]⟩, ⟨0, 50, 3, [[(i64 p2.op), (i64 p2.num), (ls eRExpr p2.kids)]]⟩]⟩ := (hA12 _ _ _).2 (by
    refine AX.all [0, 4] rfl (by kernel_rfl) (by decide) ⟨?_, ?_, trivial⟩
    ·refine AXs.of (i := 0) rfl rfl (by rfl) ?_
     refine zq tb rfl ?_
     refine AO.done ⟨rfl, ?_⟩
     exact AX.weaken (by refine Wk.trans (Wk.permk (L := [(5, (.ptr 0 0 0 0)), (22, (.agg [(ls eRDecl p0.decls), (ls eRFunc p0.funcs)])), (24, (ls eI p1))]) (st' := [⟨0, 50, 3, [[(i64 p2.op), (i64 p2.num), (ls eRExpr p2.kids)]]⟩]) (st1 := [⟨0, 50, 3, [[(i64 p2.op), (i64 p2.num), (ls eRExpr p2.kids)]]⟩]) [1] rfl .nil (by decide) rfl rfl (.raw rfl rfl .nil) ⟨.rfl, .rfl, .rfl, trivial⟩) ?_; exact Wk.to (L := [(5, (.ptr 0 0 0 0)), (22, (.agg [(ls eRDecl p0.decls), (ls eRFunc p0.funcs)])), (24, (ls eI p1))]) ⟨.rfl, .rfl, .rfl, trivial⟩) (AX.lst (by kernel_rfl) ((hA12 _ _ _).1 A12_02)) rfl
    ·refine AXs.of (i := 4) rfl rfl (by rfl) ?_
     refine zq tb rfl ?_
     refine AO.done ⟨rfl, ?_⟩
     exact AX.weaken (by refine Wk.trans (Wk.permk (L := [(3, (.ptr 0 0 0 0)), (24, (ls eI p1)), (26, (.agg [(i64 p2.op), (i64 p2.num), (ls eRExpr p2.kids)]))]) (st' := [⟨0, 31, 2, [[(ls eRDecl p0.decls), (ls eRFunc p0.funcs)]]⟩]) (st1 := [⟨0, 31, 2, [[(ls eRDecl p0.decls), (ls eRFunc p0.funcs)]]⟩]) [0] rfl .nil (by decide) rfl rfl (.raw rfl rfl .nil) ⟨.rfl, .rfl, .rfl, trivial⟩) ?_; exact Wk.to (L := [(3, (.ptr 0 0 0 0)), (24, (ls eI p1)), (26, (.agg [(i64 p2.op), (i64 p2.num), (ls eRExpr p2.kids)]))]) ⟨.rfl, .rfl, .rfl, trivial⟩) (AX.lst (by kernel_rfl) ((hA12 _ _ _).1 A12_24)) rfl)
   have A12_e : A12 7 #[false, false, false, false, false, false, false] ⟨28, envL [(1, (ls eI p1)), (3, (.ptr 0 0 0 0)), (5, (.ptr 1 0 0 0))], [⟨0, 31, 2, [[(ls eRDecl p0.decls), (ls eRFunc p0.funcs)]]⟩, ⟨0, 50, 3, [[(i64 p2.op), (i64 p2.num), (ls eRExpr p2.kids)]]⟩]⟩ := (hA12 _ _ _).2 (by
    refine AX.hoist 2 (v := (ls eI p1)) rfl rfl (by kernel_rfl) (by kernel_rfl) (by kernel_rfl) rfl (hoist_mv rfl) ?_
    exact AX.weaken (Wk.to (L := [(3, (.ptr 0 0 0 0)), (5, (.ptr 1 0 0 0)), (24, (ls eI p1))]) ⟨.rfl, .rfl, .rfl, trivial⟩) (AX.lst (by kernel_rfl) ((hA12 _ _ _).1 A12_2)) rfl)
   refine (hA12 _ _ _).2 ?_
   exact AX.weaken (Wk.to (L := [(1, (ls eI p1)), (3, (.ptr 0 0 0 0)), (5, (.ptr 1 0 0 0))]) ⟨.rfl, .rfl, .rfl, trivial⟩) (AX.lst (by kernel_rfl) ((hA12 _ _ _).1 A12_e)) rfl
 refine AW.regionO (by rfl) ?_
 refine zq tb rfl ?_
 obtain ⟨q13, gq13, h1⟩ := Sh.bind_some h1
 refine zc hb38 (impl_ValidSigs_ok gq13) rfl rfl rfl ?_
 refine zm tb 2 rfl ?_
 rcases Sh.ite_some h1 with ⟨b14, h1⟩ | ⟨b14, h1⟩
 ·refine zs b14 rfl ?_
  iterate 2 refine zs b14 rfl ?_
  refine zt b14 rfl ?_
  refine zq tb rfl ?_
  iterate 5 refine zs rfl rfl ?_
  refine zt rfl rfl ?_
  exact AO.done (M5 true (Sh.some_eq h1).symm _ (Wk.tr rfl))
 ·refine zg tb b14 rfl ?_
  obtain ⟨q15, gq15, h1⟩ := Sh.bind_some h1
  refine zd b14 hb58 (impl_NodesOf_ok gq15) rfl rfl rfl rfl ?_
  refine zg tb b14 rfl ?_
  refine zf b14 rfl ?_
  refine zq tb rfl ?_
  rcases Sh.ite_some h1 with ⟨b16, h1⟩ | ⟨b16, h1⟩
  ·refine zs b16 rfl ?_
   iterate 4 refine zs b16 rfl ?_
   refine zt b16 rfl ?_
   exact AO.done (M5 true (Sh.some_eq h1).symm _ (Wk.tr rfl))
  ·refine zg tb b16 rfl ?_
   iterate 2 refine zg tb b16 rfl ?_
   obtain ⟨q17, gq17, h1⟩ := Sh.bind_some h1
   refine zd b16 hb59 (impl_allTypes_ok gq17) rfl rfl rfl rfl ?_
   refine zg tb b16 rfl ?_
   refine zf b16 rfl ?_
   exact AO.done (M5 (!q17) (Sh.some_eq h1).symm _ (Wk.tr rfl))
theorem impl_ValidProgram_ok {N : Nat} {p0 : RProgram} {r : Bool} (h0 : impl_ValidProgram N p0 = some r) : ACalls Try.prog 18 [(.agg [(ls eRDecl p0.decls), (ls eRFunc p0.funcs)])] [] (fun v st => v = (.bool r) ∧ st = []) := by
 unfold impl_ValidProgram at h0
 refine ai Try.func18 rfl rfl rfl rfl ?_
 refine sr rfl fun K1 hK1 => ?_
 refine ao_box (m := 0) (st' := [⟨0, 31, 2, [[(ls eRDecl p0.decls), (ls eRFunc p0.funcs)]]⟩]) go0 rfl rfl rfl rfl rfl ?_
 refine zq tb rfl ?_
 refine dn hK1 rfl ?_
 refine AW.seq fun K2 hK2 => ?_
 refine sr rfl fun K3 hK3 => ?_
 refine zq tb rfl ?_
 obtain ⟨q4, gq4, h0⟩ := Sh.bind_some h0
 refine zc hb38 (impl_ValidSigs_ok gq4) rfl rfl rfl ?_
 refine zq tb rfl ?_
 refine dn hK3 rfl ?_
 refine ci h0 rfl ?_ ?_ <;> clear h0
 ·intro b5 h0
  have b6 : q4 = false := by simpa using b5
  refine zr tb rfl rfl ?_
  replace h0 := Sh.some_eq h0
  subst r
  exact AW.ret (xr (Wk.d0 [(2, (.bool false))] rfl))
 ·intro b5 h0
  have b8 : q4 = true := by simpa using b5
  refine AW.skip (hK2 _ ?_)
  refine AW.seq fun K9 hK9 => ?_
  refine sr rfl fun K10 hK10 => ?_
  refine zm tb 2 rfl ?_
  refine zl tb rfl rfl ?_
  refine zq tb rfl ?_
  refine dn hK10 rfl ?_
  obtain ⟨o12, h1, h0⟩ := Sh.cont_some h0
  have M12 : ∀ (_ : Unit), o12 = Sum.inr () → ∀ s, Wk 0 s ⟨25, envL [], []⟩ → K9 s := by
   intro _ hq s hw
   subst o12
   try dsimp only at h0
   refine hK9 _ (AW.weaken hw ?_)
   refine zr tb rfl rfl ?_
   replace h0 := Sh.some_eq h0
   subst r
   exact AW.ret (xr (Wk.to (L := [(2, (.bool true))]) ⟨.rfl, trivial⟩))
  refine AW.block (AW.loopF (σ := Int) (fun n v => impl_ValidProgram_L1 N p0 n v = some o12) (fun t11 => ⟨25, envL [(1, (.ptr 0 0 0 0)), (9, (ls eRFunc p0.funcs)), (10, (i64 (Sh.len p0.funcs))), (11, (i64 t11))], [⟨0, 31, 2, [[(ls eRDecl p0.decls), (ls eRFunc p0.funcs)]]⟩]⟩) N 0 h1 (Wk.tr rfl) (fun _ hv => by rw [impl_ValidProgram_L1] at hv; cases hv) ?_)
  rintro n t11 h1
  try dsimp only at h1 ⊢
  rw [impl_ValidProgram_L1] at h1
  refine zr tb rfl rfl ?_
  refine AW.seq fun K15 hK15 => ?_
  refine ci h1 rfl ?_ ?_ <;> clear h1
  ·intro b16 h1
   refine AW.skip (hK15 _ ?_)
   refine AW.seq fun K17 hK17 => ?_
   refine AW.block ?_
   refine sr rfl fun K18 hK18 => ?_
   obtain ⟨c19, gc19, h1⟩ := Sh.bind_some h1
   refine zx ei29 gc19 rfl rfl rfl ?_
   refine zq tb rfl ?_
   refine ao_alloc (m := 1) (st' := [⟨0, 31, 2, [[(ls eRDecl p0.decls), (ls eRFunc p0.funcs)]]⟩, ⟨0, 52, 5, [[.zc, (i64 0), (i64 0), (i64 0), .zc]]⟩]) go0 zi52 rfl rfl ?_
   refine ao_str (st' := [⟨0, 31, 2, [[(ls eRDecl p0.decls), (ls eRFunc p0.funcs)]]⟩, ⟨0, 52, 5, [[(ls eI c19.params), (i64 c19.result), (i64 c19.body.op), (i64 c19.body.num), (ls eRExpr c19.body.kids)]]⟩]) go0 ti52 rfl rfl rfl rfl rfl rfl (show 0 + 5 ≤ 5 by decide) rfl ?_
   refine dn hK18 rfl ?_
   refine AW.seq fun K20 hK20 => ?_
   refine AW.draw (by kernel_rfl) (by kernel_rfl) (by rfl) ?_
   iterate 5 refine yq tb rfl ?_
   obtain ⟨q21, gq21, h1⟩ := Sh.bind_some h1
   refine d_call (v := (i64 q21)) go0 hb39 (impl_TypeOf_ok gq21) rfl rfl rfl ?_
   iterate 3 refine yq tb rfl ?_
   refine d_done (hK20 _ ?_)
   refine ci h1 rfl ?_ ?_ <;> clear h1
   ·intro b22 h1
    have b23 : decide (q21 = c19.result) = false := by simpa using b22
    refine zr tb rfl rfl ?_
    replace h1 := Sh.some_eq h1
    subst o12
    try dsimp only [id] at h0
    replace h0 := Sh.some_eq h0
    subst r
    exact AW.ret (xr (Wk.d0 [(2, (.bool false))] rfl))
   ·intro b22 h1
    have b25 : decide (q21 = c19.result) = true := by simpa using b22
    refine AW.skip (hK17 _ ?_)
    refine AW.regionO (by rfl) ?_
    refine zm tb 2 rfl ?_
    exact AO.done (xi (Sh.w (t11 + 1)) h1 (Wk.permk (L := [(1, (.ptr 0 0 0 0)), (9, (ls eRFunc p0.funcs)), (10, (i64 (Sh.len p0.funcs))), (11, (i64 (Sh.w (t11 + 1))))]) (st' := [⟨0, 31, 2, [[(ls eRDecl p0.decls), (ls eRFunc p0.funcs)]]⟩]) (st1 := [⟨0, 31, 2, [[(ls eRDecl p0.decls), (ls eRFunc p0.funcs)]]⟩]) [0] rfl .nil (by decide) rfl rfl (.raw rfl rfl .nil) ⟨.rfl, .rfl, .rfl, .rfl, trivial⟩))
  ·intro b16 h1
   exact AW.exit (M12 () (Sh.some_eq h1).symm _ (Wk.d0 _ rfl))
theorem impl_calleesOf_1_ok {s1 : (List Bool)} {p0 : RExpr} {r : (List Bool)} (h0 : impl_calleesOf_1 s1 p0 = some r) : ACalls Try.prog 53 [(.agg [(i64 p0.op), (i64 p0.num), (ls eRExpr p0.kids)]), (.ptr 0 0 0 0)] [⟨0, 60, 1, [[(ow 1 0 s1)]]⟩, (ro 0 4 1 eB s1)] (fun v st => v = (.tup []) ∧ st = [⟨0, 60, 1, [[(ow 1 0 r)]]⟩, (ro 0 4 1 eB r)]) := by
 unfold impl_calleesOf_1 at h0
 refine ai Try.func53 rfl rfl rfl rfl ?_
 refine sr rfl fun K1 hK1 => ?_
 refine ao_box (m := 2) (st' := [⟨0, 60, 1, [[(ow 1 0 s1)]]⟩, (ro 0 4 1 eB s1), ⟨0, 50, 3, [[(i64 p0.op), (i64 p0.num), (ls eRExpr p0.kids)]]⟩]) go0 rfl rfl rfl rfl rfl ?_
 refine dn hK1 rfl ?_
 refine AW.seq fun K2 hK2 => ?_
 obtain ⟨o4, h1, h0⟩ := Sh.bind_some h0
 have M4 : ∀ (t3 : Bool), o4 = t3 → ∀ s, Wk 2 s ⟨15, envL [(1, (.ptr 0 0 0 0)), (2, (.ptr 2 0 0 0)), (10, (.bool t3))], [⟨0, 60, 1, [[(ow 1 0 s1)]]⟩, (ro 0 4 1 eB s1), ⟨0, 50, 3, [[(i64 p0.op), (i64 p0.num), (ls eRExpr p0.kids)]]⟩]⟩ → K2 s := by
  intro t3 hq s hw
  subst o4
  try dsimp only at h0
  refine hK2 _ (AW.weaken hw ?_)
  refine ci h0 rfl ?_ ?_ <;> clear h0
  ·intro b5 h0
   refine AW.regionO (by rfl) ?_
   refine zm tb 3 rfl ?_
   obtain ⟨c6, gc6, h0⟩ := Sh.bind_some h0
   refine zz (.ptr 1 0 (Int.toNat p0.num) 0) (aq_ixo ei60 rfl rfl rfl rfl gc6) rfl ?_
   refine ao_stl (st' := [⟨0, 60, 1, [[(ow 1 0 s1)]]⟩, (ro 0 4 1 eB (Sh.put s1 p0.num true)), ⟨0, 50, 3, [[(i64 p0.op), (i64 p0.num), (ls eRExpr p0.kids)]]⟩]) (u' := true) go0 ti4 rfl rfl gc6 rfl rfl rfl (show 0 + 1 ≤ 1 by decide) rfl rfl ?_
   replace h0 := Sh.some_eq h0
   subst r
   exact AO.done (Exists.intro _ (And.intro (((Wk.steq (st := [⟨0, 60, 1, [[(.own 1 0 (List.length s1))]]⟩, ⟨0, 4, 1, List.map eB (Sh.put s1 p0.num true)⟩, ⟨0, 50, 3, [[(i64 p0.op), (i64 p0.num), (.sl (List.map eRExpr p0.kids))]]⟩]) (st' := [⟨0, 60, 1, [[(.own 1 0 (List.length (Sh.put s1 p0.num true)))]]⟩, ⟨0, 4, 1, List.map eB (Sh.put s1 p0.num true)⟩, ⟨0, 50, 3, [[(i64 p0.op), (i64 p0.num), (.sl (List.map eRExpr p0.kids))]]⟩]) (by simp only [Sh.put_len])).trans (Wk.permk (L := []) (st' := [⟨0, 60, 1, [[(.own 1 0 (List.length (Sh.put s1 p0.num true)))]]⟩, ⟨0, 4, 1, List.map eB (Sh.put s1 p0.num true)⟩]) (st1 := [⟨0, 60, 1, [[(.own 1 0 (List.length (Sh.put s1 p0.num true)))]]⟩, ⟨0, 4, 1, List.map eB (Sh.put s1 p0.num true)⟩]) [0, 1] rfl (.raw rfl rfl (.pure (pure_map fun _ => rfl) .nil)) (by decide) rfl rfl (.raw rfl rfl (.pure (pure_map fun _ => rfl) .nil)) trivial)).trans (Wk.to (L := []) trivial)) (And.intro rfl rfl)))
  ·intro b5 h0
   replace h0 := Sh.some_eq h0
   subst r
   exact AW.skip (xi _ ((Wk.permk (L := []) (st' := [⟨0, 60, 1, [[(ow 1 0 s1)]]⟩, (ro 0 4 1 eB s1)]) (st1 := [⟨0, 60, 1, [[(ow 1 0 s1)]]⟩, (ro 0 4 1 eB s1)]) [0, 1] rfl (.raw rfl rfl (.pure (pure_map fun _ => rfl) .nil)) (by decide) rfl rfl (.raw rfl rfl (.pure (pure_map fun _ => rfl) .nil)) trivial).trans (Wk.to (L := []) trivial)) (And.intro rfl rfl))
 refine AW.regionO (by rfl) ?_
 refine zm tb 4 rfl ?_
 rcases Sh.ite_some h1 with ⟨b7, h1⟩ | ⟨b7, h1⟩
 ·refine zs b7 rfl ?_
  iterate 2 refine zs b7 rfl ?_
  refine zt b7 rfl ?_
  exact AO.done (M4 true (Sh.some_eq h1).symm _ (Wk.tr rfl))
 ·refine zg tb b7 rfl ?_
  iterate 2 refine zg tb b7 rfl ?_
  refine zf b7 rfl ?_
  exact AO.done (M4 (decide (p0.op = 10)) (Sh.some_eq h1).symm _ (Wk.tr rfl))
theorem impl_walk_3_B_ok {N : Nat} {rec_impl_walk_3 : (List Bool) → RExpr → Option ((List Bool))} (hrec_impl_walk_3 : ∀ {s1 : (List Bool)} {p0 : RExpr} {r : (List Bool)}, rec_impl_walk_3 s1 p0 = some r → ACalls Try.prog 27 [(.agg [(i64 p0.op), (i64 p0.num), (ls eRExpr p0.kids)]), (.fn 53 [(.ptr 0 0 0 0)])] [⟨0, 60, 1, [[(ow 1 0 s1)]]⟩, (ro 0 4 1 eB s1)] (fun v st => v = (.tup []) ∧ st = [⟨0, 60, 1, [[(ow 1 0 r)]]⟩, (ro 0 4 1 eB r)])) {s1 : (List Bool)} {p0 : RExpr} {r : (List Bool)} (h0 : impl_walk_3_B N rec_impl_walk_3 s1 p0 = some r) : ACalls Try.prog 27 [(.agg [(i64 p0.op), (i64 p0.num), (ls eRExpr p0.kids)]), (.fn 53 [(.ptr 0 0 0 0)])] [⟨0, 60, 1, [[(ow 1 0 s1)]]⟩, (ro 0 4 1 eB s1)] (fun v st => v = (.tup []) ∧ st = [⟨0, 60, 1, [[(ow 1 0 r)]]⟩, (ro 0 4 1 eB r)]) := by
 unfold impl_walk_3_B at h0
 refine ai Try.func27 rfl rfl rfl rfl ?_
 refine sr rfl fun K1 hK1 => ?_
 refine ao_box (m := 2) (st' := [⟨0, 60, 1, [[(ow 1 0 s1)]]⟩, (ro 0 4 1 eB s1), ⟨0, 50, 3, [[(i64 p0.op), (i64 p0.num), (ls eRExpr p0.kids)]]⟩]) go0 rfl rfl rfl rfl rfl ?_
 refine dn hK1 rfl ?_
 refine sr rfl fun K2 hK2 => ?_
 refine zm tb 2 rfl ?_
 obtain ⟨q3, gq3, h0⟩ := Sh.bind_some h0
 refine ao_callst (rowsP := [⟨0, 60, 1, [[(ow 1 0 s1)]]⟩, (ro 0 4 1 eB s1)]) (rows0 := [⟨0, 60, 1, [[(ow 1 0 s1)]]⟩, (ro 0 4 1 eB s1)]) (rows1 := [⟨0, 60, 1, [[(ow 1 0 q3)]]⟩, (ro 0 4 1 eB q3)]) (rows2 := []) (rows1' := [⟨0, 60, 1, [[(ow 1 0 q3)]]⟩, (ro 0 4 1 eB q3)]) (rows2' := []) (st' := [⟨0, 60, 1, [[(ow 1 0 q3)]]⟩, (ro 0 4 1 eB q3), ⟨0, 50, 3, [[(i64 p0.op), (i64 p0.num), (ls eRExpr p0.kids)]]⟩]) (v' := (.tup [])) [0, 1] go0 rfl hb53 (impl_calleesOf_1_ok gq3) rfl (by decide) rfl rfl (.raw rfl rfl (.pure (pure_map fun _ => rfl) .nil)) rfl rfl (.raw rfl rfl (.pure (pure_map fun _ => rfl) .nil)) .nil rfl rfl ?_
 refine dn hK2 rfl ?_
 refine sr rfl fun K4 hK4 => ?_
 refine zm tb 2 rfl ?_
 refine zl tb rfl rfl ?_
 refine zq tb rfl ?_
 refine dn hK4 rfl ?_
 refine AW.fin fun K5 hK5 => ?_
 obtain ⟨o9, h1, h0⟩ := Sh.bind_some h0
 have M9 : ∀ (l8 : (List Bool)), o9 = l8 → ∀ s, Wk 2 s ⟨20, envL [], [⟨0, 60, 1, [[(ow 1 0 l8)]]⟩, (ro 0 4 1 eB l8)]⟩ → K5 s := by
  intro l8 hq s hw
  subst o9
  try dsimp only at h0
  refine hK5 _ ?_
  replace h0 := Sh.some_eq h0
  subst r
  exact Exists.intro _ (And.intro (hw.trans (Wk.to (L := []) trivial)) (And.intro rfl rfl))
 refine AW.block (AW.loopF (σ := Int × (List Bool)) (fun n v => impl_walk_3_B_L1 p0 rec_impl_walk_3 n v.1 v.2 = some o9) (fun (t6, l7) => ⟨20, envL [(1, (.fn 53 [(.ptr 0 0 0 0)])), (10, (ls eRExpr p0.kids)), (11, (i64 (Sh.len p0.kids))), (12, (i64 t6))], [⟨0, 60, 1, [[(ow 1 0 l7)]]⟩, (ro 0 4 1 eB l7)]⟩) N (0, q3) h1 (Wk.permk (L := [(1, (.fn 53 [(.ptr 0 0 0 0)])), (10, (ls eRExpr p0.kids)), (11, (i64 (Sh.len p0.kids))), (12, (i64 0))]) (st' := [⟨0, 60, 1, [[(ow 1 0 q3)]]⟩, (ro 0 4 1 eB q3)]) (st1 := [⟨0, 60, 1, [[(ow 1 0 q3)]]⟩, (ro 0 4 1 eB q3)]) [0, 1] rfl (.raw rfl rfl (.pure (pure_map fun _ => rfl) .nil)) (by decide) rfl rfl (.raw rfl rfl (.pure (pure_map fun _ => rfl) .nil)) ⟨.rfl, .rfl, .rfl, .rfl, trivial⟩) (fun _ hv => by rw [impl_walk_3_B_L1] at hv; cases hv) ?_)
 rintro n ⟨t6, l7⟩ h1
 try dsimp only at h1 ⊢
 rw [impl_walk_3_B_L1] at h1
 refine zr tb rfl rfl ?_
 refine AW.seq fun K11 hK11 => ?_
 refine ci h1 rfl ?_ ?_ <;> clear h1
 ·intro b12 h1
  refine AW.skip (hK11 _ ?_)
  refine AW.seq fun K13 hK13 => ?_
  refine AW.block ?_
  refine sr rfl fun K14 hK14 => ?_
  obtain ⟨c15, gc15, h1⟩ := Sh.bind_some h1
  refine zz (.iptr [(i64 c15.op), (i64 c15.num), (ls eRExpr c15.kids)] 0) (aq_ixsE ei48 rfl rfl gc15 (eRExpr_eq _) rfl) rfl ?_
  refine zq tb rfl ?_
  refine ao_alloc (m := 2) (st' := [⟨0, 60, 1, [[(ow 1 0 l7)]]⟩, (ro 0 4 1 eB l7), ⟨0, 50, 3, [[(i64 0), (i64 0), .zc]]⟩]) go0 zi50 rfl rfl ?_
  refine ao_str (st' := [⟨0, 60, 1, [[(ow 1 0 l7)]]⟩, (ro 0 4 1 eB l7), ⟨0, 50, 3, [[(i64 c15.op), (i64 c15.num), (ls eRExpr c15.kids)]]⟩]) go0 ti50 rfl rfl rfl rfl rfl rfl (show 0 + 3 ≤ 3 by decide) rfl ?_
  refine dn hK14 rfl ?_
  refine AW.regionO (by rfl) ?_
  refine zm tb 2 rfl ?_
  obtain ⟨q16, gq16, h1⟩ := Sh.bind_some h1
  refine ao_callsL (rowsP := [⟨0, 60, 1, [[(.own 1 0 (List.length l7))]]⟩, ⟨0, 4, 1, List.map eB l7⟩]) (rows0 := [⟨0, 60, 1, [[(.own 1 0 (List.length l7))]]⟩, ⟨0, 4, 1, List.map eB l7⟩]) (rows1 := [⟨0, 60, 1, [[(.own 1 0 (List.length q16))]]⟩, ⟨0, 4, 1, List.map eB q16⟩]) (rows2 := []) (rows1' := [⟨0, 60, 1, [[(.own 1 0 (List.length q16))]]⟩, ⟨0, 4, 1, List.map eB q16⟩]) (rows2' := []) (st' := [⟨0, 60, 1, [[(.own 1 0 (List.length q16))]]⟩, ⟨0, 4, 1, List.map eB q16⟩, ⟨0, 50, 3, [[(i64 c15.op), (i64 c15.num), (.sl (List.map eRExpr c15.kids))]]⟩]) (v' := (.tup [])) [0, 1] go0 hb27 (hrec_impl_walk_3 gq16) rfl (by decide) rfl rfl (.raw rfl rfl (.pure (pure_map fun _ => rfl) .nil)) rfl rfl (.raw rfl rfl (.pure (pure_map fun _ => rfl) .nil)) .nil rfl rfl (fun hln => ?_)
  have ln17 : List.length q16 = List.length l7 := by simpa only [List.length_map] using hln 1 _ _ rfl rfl rfl
  refine dn hK13 rfl ?_
  refine AW.regionO (by rfl) ?_
  refine zm tb 2 rfl ?_
  exact AO.done (xi (Sh.w (t6 + 1), q16) h1 (Wk.permk (L := [(1, (.fn 53 [(.ptr 0 0 0 0)])), (10, (ls eRExpr p0.kids)), (11, (i64 (Sh.len p0.kids))), (12, (i64 (Sh.w (t6 + 1))))]) (st' := [⟨0, 60, 1, [[(ow 1 0 q16)]]⟩, (ro 0 4 1 eB q16)]) (st1 := [⟨0, 60, 1, [[(ow 1 0 q16)]]⟩, (ro 0 4 1 eB q16)]) [0, 1] rfl (.raw rfl rfl (.pure (pure_map fun _ => rfl) .nil)) (by decide) rfl rfl (.raw rfl rfl (.pure (pure_map fun _ => rfl) .nil)) ⟨.rfl, .rfl, .rfl, .rfl, trivial⟩))
 ·intro b12 h1
  exact AW.exit (M9 l7 (Sh.some_eq h1).symm _ (Wk.tr rfl))

theorem impl_walk_3_F_ok {N : Nat} : ∀ (n : Nat), ∀ {s1 : (List Bool)} {p0 : RExpr} {r : (List Bool)}, impl_walk_3_F N n s1 p0 = some r → ACalls Try.prog 27 [(.agg [(i64 p0.op), (i64 p0.num), (ls eRExpr p0.kids)]), (.fn 53 [(.ptr 0 0 0 0)])] [⟨0, 60, 1, [[(ow 1 0 s1)]]⟩, (ro 0 4 1 eB s1)] (fun v st => v = (.tup []) ∧ st = [⟨0, 60, 1, [[(ow 1 0 r)]]⟩, (ro 0 4 1 eB r)]) := by
 intro n
 induction n with
 | zero => intro s1 p0 r h0; cases h0
 | succ n ih =>
  intro s1 p0 r h0
  rw [impl_walk_3_F] at h0
  exact impl_walk_3_B_ok (fun h => ih h) h0
theorem impl_walk_3_ok {N : Nat} : ∀ {s1 : (List Bool)} {p0 : RExpr} {r : (List Bool)}, impl_walk_3 N s1 p0 = some r → ACalls Try.prog 27 [(.agg [(i64 p0.op), (i64 p0.num), (ls eRExpr p0.kids)]), (.fn 53 [(.ptr 0 0 0 0)])] [⟨0, 60, 1, [[(ow 1 0 s1)]]⟩, (ro 0 4 1 eB s1)] (fun v st => v = (.tup []) ∧ st = [⟨0, 60, 1, [[(ow 1 0 r)]]⟩, (ro 0 4 1 eB r)]) := by
 intro s1 p0 r h0
 exact impl_walk_3_F_ok N h0
theorem impl_calleesOf_ok {N : Nat} {p0 : RProgram} {p1 : Int} {r : (List Bool)} (h0 : impl_calleesOf N p0 p1 = some r) : ACalls Try.prog 34 [(.agg [(ls eRDecl p0.decls), (ls eRFunc p0.funcs)]), (i64 p1)] [] (fun v st => v = (ow 0 0 r) ∧ st = [(ro 0 4 1 eB r)]) := by
 unfold impl_calleesOf at h0
 refine ai Try.func34 rfl rfl rfl rfl ?_
 refine sr rfl fun K1 hK1 => ?_
 refine ao_box (m := 0) (st' := [⟨0, 31, 2, [[(ls eRDecl p0.decls), (ls eRFunc p0.funcs)]]⟩]) go0 rfl rfl rfl rfl rfl ?_
 refine zq tb rfl ?_
 refine dn hK1 rfl ?_
 refine sr rfl fun K2 hK2 => ?_
 refine zm tb 2 rfl ?_
 refine zl tb rfl rfl ?_
 obtain ⟨l3, gl3, h0⟩ := Sh.bind_some h0
 refine ao_make (m := 1) (st' := [⟨0, 31, 2, [[(ls eRDecl p0.decls), (ls eRFunc p0.funcs)]]⟩, (ro 0 4 1 eB l3)]) (enc := eB) (u := false) go0 ei60 rfl rfl rfl gl3 rfl rfl ?_
 refine ao_alloc (m := 2) (st' := [⟨0, 31, 2, [[(ls eRDecl p0.decls), (ls eRFunc p0.funcs)]]⟩, (ro 0 4 1 eB l3), ⟨0, 60, 1, [[.zc]]⟩]) go0 zi60 rfl rfl ?_
 refine ao_str (st' := [⟨0, 31, 2, [[(ls eRDecl p0.decls), (ls eRFunc p0.funcs)]]⟩, (ro 0 4 1 eB l3), ⟨0, 60, 1, [[(ow 1 0 l3)]]⟩]) go0 ti60 rfl rfl rfl rfl rfl rfl (show 0 + 1 ≤ 1 by decide) rfl ?_
 refine dn hK2 rfl ?_
 refine sr rfl fun K4 hK4 => ?_
 refine zm tb 3 rfl ?_
 obtain ⟨c5, gc5, h0⟩ := Sh.bind_some h0
 refine zx ei29 gc5 rfl rfl rfl ?_
 refine zm tb 2 rfl ?_
 refine zz (.fn 53 [(.ptr 2 0 0 0)]) (aq_fn rfl) rfl ?_
 obtain ⟨q6, gq6, h0⟩ := Sh.bind_some h0
 refine ao_callsL (rowsP := [⟨0, 60, 1, [[(.own 1 0 (List.length l3))]]⟩, ⟨0, 4, 1, List.map eB l3⟩]) (rows0 := [⟨0, 60, 1, [[(.own 1 0 (List.length l3))]]⟩, ⟨0, 4, 1, List.map eB l3⟩]) (rows1 := [⟨0, 60, 1, [[(.own 1 0 (List.length q6))]]⟩, ⟨0, 4, 1, List.map eB q6⟩]) (rows2 := []) (rows1' := [⟨0, 60, 1, [[(.own 1 0 (List.length q6))]]⟩, ⟨0, 4, 1, List.map eB q6⟩]) (rows2' := []) (st' := [⟨0, 31, 2, [[(.sl (List.map eRDecl p0.decls)), (.sl (List.map eRFunc p0.funcs))]]⟩, ⟨0, 4, 1, List.map eB q6⟩, ⟨0, 60, 1, [[(.own 1 0 (List.length q6))]]⟩]) (v' := (.tup [])) [2, 1] go0 hb27 (impl_walk_3_ok gq6) rfl (by decide) rfl rfl (.raw rfl rfl (.pure (pure_map fun _ => rfl) .nil)) rfl rfl (.raw rfl rfl (.pure (pure_map fun _ => rfl) .nil)) .nil rfl rfl (fun hln => ?_)
 have ln7 : List.length q6 = List.length l3 := by simpa only [List.length_map] using hln 1 _ _ rfl rfl rfl
 refine dn hK4 rfl ?_
 refine zr tb rfl rfl ?_
 replace h0 := Sh.some_eq h0
 subst r
 exact AW.ret (xr (Wk.permk (L := [(4, (ow 0 0 q6))]) (st' := [(ro 0 4 1 eB q6)]) (st1 := [(ro 0 4 1 eB q6)]) [1] rfl .nil (by decide) rfl rfl (.pure (pure_map fun _ => rfl) .nil) ⟨.rfl, trivial⟩))
theorem impl_indicesOf_ok {N : Nat} {p0 : (List Bool)} {r : (List Int)} (h0 : impl_indicesOf N p0 = some r) : ACalls Try.prog 33 [(ls eB p0)] [] (fun v st => v = (ow 0 0 r) ∧ st = [(ro 0 3 1 eI r)]) := by
 unfold impl_indicesOf at h0
 refine ai Try.func33 rfl rfl rfl rfl ?_
 iterate 2 refine zr tb rfl rfl ?_
 refine AW.seq fun K3 hK3 => ?_
 refine sr rfl fun K4 hK4 => ?_
 refine zq tb rfl ?_
 refine zl tb rfl rfl ?_
 refine zq tb rfl ?_
 refine dn hK4 rfl ?_
 obtain ⟨o8, h1, h0⟩ := Sh.bind_some h0
 have M8 : ∀ (l7 : (List Int)), o8 = l7 → ∀ s, Wk 0 s ⟨20, envL [(3, (ow 0 0 l7))], [(ro 0 3 1 eI l7)]⟩ → K3 s := by
  intro l7 hq s hw
  subst o8
  try dsimp only at h0
  refine hK3 _ (AW.weaken hw ?_)
  refine zr tb rfl rfl ?_
  replace h0 := Sh.some_eq h0
  subst r
  exact AW.ret (xr (Wk.to (L := [(2, (ow 0 0 l7))]) ⟨.rfl, trivial⟩))
 refine AW.block (AW.loopF (σ := Int × (List Int)) (fun n v => impl_indicesOf_L1 p0 n v.1 v.2 = some o8) (fun (t5, l6) => ⟨20, envL [(3, (ow 0 0 l6)), (6, (ls eB p0)), (7, (i64 (Sh.len p0))), (8, (i64 t5))], [(ro 0 3 1 eI l6)]⟩) N (0, []) h1 ((Wk.adopt (t := 3) rfl 3 (size := 1) (by decide)).trans (Wk.to (L := [(3, (.own 0 0 (List.length ([] : List Int)))), (6, (ls eB p0)), (7, (i64 (Sh.len p0))), (8, (i64 0))]) ⟨.rfl, .rfl, .rfl, .rfl, trivial⟩)) (fun _ hv => by rw [impl_indicesOf_L1] at hv; cases hv) ?_)
 rintro n ⟨t5, l6⟩ h1
 try dsimp only at h1 ⊢
 rw [impl_indicesOf_L1] at h1
 refine zr tb rfl rfl ?_
 refine AW.seq fun K11 hK11 => ?_
 refine ci h1 rfl ?_ ?_ <;> clear h1
 ·intro b12 h1
  refine AW.skip (hK11 _ ?_)
  refine AW.seq fun K13 hK13 => ?_
  obtain ⟨o15, h2, h1⟩ := Sh.bind_some h1
  have M15 : ∀ (l14 : (List Int)), o15 = l14 → ∀ s, Wk 0 s ⟨20, envL [(3, (ow 0 0 l14)), (6, (ls eB p0)), (7, (i64 (Sh.len p0))), (8, (i64 t5))], [(ro 0 3 1 eI l14)]⟩ → K13 s := by
   intro l14 hq s hw
   subst o15
   try dsimp only at h1
   refine hK13 _ (AW.weaken hw ?_)
   refine AW.regionO (by rfl) ?_
   refine zm tb 2 rfl ?_
   exact AO.done (xi (Sh.w (t5 + 1), l14) h1 (Wk.tr rfl))
  refine AW.block ?_
  refine sr rfl fun K16 hK16 => ?_
  refine zq tb rfl ?_
  obtain ⟨c17, gc17, h2⟩ := Sh.bind_some h2
  refine zx ei60 gc17 rfl rfl rfl ?_
  refine zm tb 3 rfl ?_
  refine dn hK16 rfl ?_
  refine zr tb rfl rfl ?_
  refine ci h2 rfl ?_ ?_ <;> clear h2
  ·intro b19 h2
   refine AW.regionO (by rfl) ?_
   refine zm tb 2 rfl ?_
   refine ao_bs (m := 1) (st' := [(ro 0 3 1 eI l6), (ro 0 3 1 eI [t5])]) (l := [t5]) (enc := eI) go0 ei40 (by decide) rfl rfl rfl rfl rfl rfl ?_
   obtain ⟨l20, gl20, h2⟩ := Sh.bind_some h2
   refine ao_apo (st' := [(ro 1 3 1 eI l20), (ro 0 3 1 eI [t5])]) (l2 := [t5]) go0 ei40 rfl rfl rfl rfl (el_o rfl rfl) (fun _ => rfl) gl20 rfl ?_
   refine zq tb rfl ?_
   exact AO.done (M15 l20 (Sh.some_eq h2).symm _ (by refine Wk.trans (Wk.rg (L := [(3, (ow 0 0 l20)), (6, (ls eB p0)), (7, (i64 (Sh.len p0))), (8, (i64 t5))]) (st' := [(ro 0 3 1 eI l20), (ro 0 3 1 eI [t5])]) (.pure (pure_map fun _ => rfl) (.pure (pure_map fun _ => rfl) .nil)) ⟨.rfl, .rfl, .rfl, .rfl, trivial⟩) ?_; exact Wk.permk (L := [(3, (ow 0 0 l20)), (6, (ls eB p0)), (7, (i64 (Sh.len p0))), (8, (i64 t5))]) (st' := [(ro 0 3 1 eI l20)]) (st1 := [(ro 0 3 1 eI l20)]) [0] rfl .nil (by decide) rfl rfl (.pure (pure_map fun _ => rfl) .nil) ⟨.rfl, .rfl, .rfl, .rfl, trivial⟩))
  ·intro b19 h2
   exact AW.skip (M15 l6 (Sh.some_eq h2).symm _ (Wk.tr rfl))
 ·intro b12 h1
  exact AW.exit (M8 l6 (Sh.some_eq h1).symm _ (Wk.tr rfl))
theorem impl_CalleesOf_ok {N : Nat} {p0 : RProgram} {p1 : Int} {r : (List Int)} (h0 : impl_CalleesOf N p0 p1 = some r) : ACalls Try.prog 16 [(.agg [(ls eRDecl p0.decls), (ls eRFunc p0.funcs)]), (i64 p1)] [] (fun v st => v = (ow 0 0 r) ∧ st = [(ro 0 3 1 eI r)]) := by
 unfold impl_CalleesOf at h0
 refine ai Try.func16 rfl rfl rfl rfl ?_
 refine sr rfl fun K1 hK1 => ?_
 refine ao_box (m := 0) (st' := [⟨0, 31, 2, [[(ls eRDecl p0.decls), (ls eRFunc p0.funcs)]]⟩]) go0 rfl rfl rfl rfl rfl ?_
 refine zq tb rfl ?_
 refine dn hK1 rfl ?_
 refine AW.seq fun K2 hK2 => ?_
 refine AW.seq fun K3 hK3 => ?_
 obtain ⟨o5, h1, h0⟩ := Sh.bind_some h0
 have M5 : ∀ (t4 : Bool), o5 = t4 → ∀ s, Wk 0 s ⟨23, envL [(1, (i64 p1)), (2, (.ptr 0 0 0 0)), (18, (.bool t4))], [⟨0, 31, 2, [[(ls eRDecl p0.decls), (ls eRFunc p0.funcs)]]⟩]⟩ → K3 s := by
  intro t4 hq s hw
  subst o5
  try dsimp only at h0
  refine hK3 _ (AW.weaken hw ?_)
  refine ci h0 rfl ?_ ?_ <;> clear h0
  ·intro b6 h0
   refine zr tb rfl rfl ?_
   replace h0 := Sh.some_eq h0
   subst r
   exact AW.ret (Exists.intro _ (And.intro ((((Wk.adopt (t := 4) rfl 3 (size := 1) (by decide)).trans (Wk.to (L := [(4, (.own 1 0 (List.length ([] : List Int))))]) ⟨.rfl, trivial⟩)).trans (Wk.permk (L := [(4, (.own 0 0 (List.length ([] : List Int))))]) (st' := [(ro 0 3 1 eI ([] : List Int))]) (st1 := [(ro 0 3 1 eI ([] : List Int))]) [1] rfl .nil (by decide) rfl rfl (.pure (pure_map fun _ => rfl) .nil) ⟨.rfl, trivial⟩)).trans (Wk.to (L := [(4, (.own 0 0 (List.length ([] : List Int))))]) ⟨.rfl, trivial⟩)) (And.intro rfl rfl)))
  ·intro b6 h0
   refine AW.skip (hK2 _ ?_)
   refine sr rfl fun K8 hK8 => ?_
   refine zm tb 2 rfl ?_
   obtain ⟨q9, gq9, h0⟩ := Sh.bind_some h0
   refine ao_call (v' := (ow 1 0 q9)) (st' := [⟨0, 31, 2, [[(ls eRDecl p0.decls), (ls eRFunc p0.funcs)]]⟩, (ro 0 4 1 eB q9)]) go0 hb34 (impl_calleesOf_ok gq9) rfl rfl ⟨(pure_map' fun _ => rfl), trivial⟩ rfl rfl ?_
   refine AO.weaken (Wk.frz (L := [(21, (ls eB q9))]) (st' := [⟨0, 31, 2, [[(ls eRDecl p0.decls), (ls eRFunc p0.funcs)]]⟩, ⟨1, 4, 1, []⟩]) (id := 1) rfl (show 0 ≤ 1 by decide) (pure_map fun _ => rfl) ⟨(.frz rfl), trivial⟩ rfl) ?_
   obtain ⟨q10, gq10, h0⟩ := Sh.bind_some h0
   refine ao_call (v' := (ow 2 0 q10)) (st' := [⟨0, 31, 2, [[(ls eRDecl p0.decls), (ls eRFunc p0.funcs)]]⟩, ⟨1, 4, 1, []⟩, (ro 0 3 1 eI q10)]) go0 hb33 (impl_indicesOf_ok gq10) rfl rfl ⟨(pure_map' fun _ => rfl), trivial⟩ rfl rfl ?_
   refine zq tb rfl ?_
   refine dn hK8 rfl ?_
   replace h0 := Sh.some_eq h0
   subst r
   exact AW.ret (xr (Wk.permk (L := [(4, (ow 0 0 q10))]) (st' := [(ro 0 3 1 eI q10)]) (st1 := [(ro 0 3 1 eI q10)]) [2] rfl .nil (by decide) rfl rfl (.pure (pure_map fun _ => rfl) .nil) ⟨.rfl, trivial⟩))
 refine AW.regionO (by rfl) ?_
 refine zq tb rfl ?_
 obtain ⟨q11, gq11, h1⟩ := Sh.bind_some h1
 refine zc hb18 (impl_ValidProgram_ok gq11) rfl rfl rfl ?_
 refine zm tb 2 rfl ?_
 rcases Sh.ite_some h1 with ⟨b12, h1⟩ | ⟨b12, h1⟩
 ·refine zs b12 rfl ?_
  refine zs b12 rfl ?_
  refine zt b12 rfl ?_
  refine zq tb rfl ?_
  iterate 5 refine zs rfl rfl ?_
  refine zt rfl rfl ?_
  exact AO.done (M5 true (Sh.some_eq h1).symm _ (Wk.tr rfl))
 ·refine zg tb b12 rfl ?_
  refine zg tb b12 rfl ?_
  refine zf b12 rfl ?_
  refine zq tb rfl ?_
  rcases Sh.ite_some h1 with ⟨b13, h1⟩ | ⟨b13, h1⟩
  ·refine zs b13 rfl ?_
   iterate 4 refine zs b13 rfl ?_
   refine zt b13 rfl ?_
   exact AO.done (M5 true (Sh.some_eq h1).symm _ (Wk.tr rfl))
  ·refine zg tb b13 rfl ?_
   iterate 2 refine zg tb b13 rfl ?_
   refine ao_q (v := (i64 (Sh.len p0.funcs))) (go1 rfl rfl b13) rfl (aq_lens sl29 rfl) ?_
   refine zg tb b13 rfl ?_
   refine zf b13 rfl ?_
   exact AO.done (M5 (decide ((Sh.len p0.funcs) ≤ p1)) (Sh.some_eq h1).symm _ (Wk.tr rfl))
theorem impl_ReachedFrom_ok {N : Nat} {p0 : RProgram} {p1 : Int} {r : (List Int)} (h0 : impl_ReachedFrom N p0 p1 = some r) : ACalls Try.prog 19 [(.agg [(ls eRDecl p0.decls), (ls eRFunc p0.funcs)]), (i64 p1)] [] (fun v st => v = (ow 0 0 r) ∧ st = [(ro 0 3 1 eI r)]) := by
 unfold impl_ReachedFrom at h0
 refine ai Try.func19 rfl rfl rfl rfl ?_
 refine sr rfl fun K1 hK1 => ?_
 refine ao_box (m := 0) (st' := [⟨0, 31, 2, [[(ls eRDecl p0.decls), (ls eRFunc p0.funcs)]]⟩]) go0 rfl rfl rfl rfl rfl ?_
 refine zq tb rfl ?_
 refine dn hK1 rfl ?_
 refine AW.seq fun K2 hK2 => ?_
 refine AW.seq fun K3 hK3 => ?_
 obtain ⟨o5, h1, h0⟩ := Sh.bind_some h0
 have M5 : ∀ (t4 : Bool), o5 = t4 → ∀ s, Wk 0 s ⟨63, envL [(1, (i64 p1)), (2, (.ptr 0 0 0 0)), (22, (.bool t4))], [⟨0, 31, 2, [[(ls eRDecl p0.decls), (ls eRFunc p0.funcs)]]⟩]⟩ → K3 s := by
  intro t4 hq s hw
  subst o5
  try dsimp only at h0
  refine hK3 _ (AW.weaken hw ?_)
  refine ci h0 rfl ?_ ?_ <;> clear h0
  ·intro b6 h0
   refine zr tb rfl rfl ?_
   replace h0 := Sh.some_eq h0
   subst r
   exact AW.ret (Exists.intro _ (And.intro ((((Wk.adopt (t := 4) rfl 3 (size := 1) (by decide)).trans (Wk.to (L := [(4, (.own 1 0 (List.length ([] : List Int))))]) ⟨.rfl, trivial⟩)).trans (Wk.permk (L := [(4, (.own 0 0 (List.length ([] : List Int))))]) (st' := [(ro 0 3 1 eI ([] : List Int))]) (st1 := [(ro 0 3 1 eI ([] : List Int))]) [1] rfl .nil (by decide) rfl rfl (.pure (pure_map fun _ => rfl) .nil) ⟨.rfl, trivial⟩)).trans (Wk.to (L := [(4, (.own 0 0 (List.length ([] : List Int))))]) ⟨.rfl, trivial⟩)) (And.intro rfl rfl)))
  ·intro b6 h0
   refine AW.skip (hK2 _ ?_)
   refine sr rfl fun K8 hK8 => ?_
   refine zm tb 2 rfl ?_
   refine zl tb rfl rfl ?_
   obtain ⟨l9, gl9, h0⟩ := Sh.bind_some h0
   refine ao_make (m := 1) (st' := [⟨0, 31, 2, [[(ls eRDecl p0.decls), (ls eRFunc p0.funcs)]]⟩, (ro 0 4 1 eB l9)]) (enc := eB) (u := false) go0 ei60 rfl rfl rfl gl9 rfl rfl ?_
   refine zq tb rfl ?_
   refine dn hK8 rfl ?_
   refine sr rfl fun K10 hK10 => ?_
   refine zm tb 2 rfl ?_
   obtain ⟨c11, gc11, h0⟩ := Sh.bind_some h0
   refine zz (.ptr 1 0 (Int.toNat p1) 0) (aq_ixo ei60 rfl rfl rfl rfl gc11) rfl ?_
   refine ao_stl (st' := [⟨0, 31, 2, [[(ls eRDecl p0.decls), (ls eRFunc p0.funcs)]]⟩, (ro 0 4 1 eB (Sh.put l9 p1 true))]) (u' := true) go0 ti4 rfl rfl gc11 rfl rfl rfl (show 0 + 1 ≤ 1 by decide) rfl rfl ?_
   refine dn hK10 rfl ?_
   refine AW.seq fun K12 hK12 => ?_
   refine sr rfl fun K13 hK13 => ?_
   refine zq tb rfl ?_
   refine ao_bs (m := 2) (st' := [⟨0, 31, 2, [[(ls eRDecl p0.decls), (ls eRFunc p0.funcs)]]⟩, (ro 0 4 1 eB (Sh.put l9 p1 true)), (ro 0 3 1 eI (([] : List Int) ++ [p1]))]) (l := [p1]) (enc := eI) go0 ei40 (by decide) rfl rfl rfl rfl rfl rfl ?_
   refine zq tb rfl ?_
   refine dn hK13 rfl ?_
   obtain ⟨o17, h1, h0⟩ := Sh.bind_some h0
   have M17 : ∀ (l16 : (List Bool)), o17 = l16 → ∀ s, Wk 0 s ⟨63, envL [(5, (ow 0 0 l16))], [(ro 0 4 1 eB l16)]⟩ → K12 s := by
    intro l16 hq s hw
    subst o17
    try dsimp only at h0
    refine hK12 _ (AW.weaken hw ?_)
    refine sr rfl fun K18 hK18 => ?_
    refine zq tb rfl ?_
    refine AO.weaken (Wk.frz (L := [(61, (ls eB l16))]) (st' := [⟨1, 4, 1, []⟩]) (id := 0) rfl (show 0 ≤ 0 by decide) (pure_map fun _ => rfl) ⟨(.frz rfl), trivial⟩ rfl) ?_
    obtain ⟨q19, gq19, h0⟩ := Sh.bind_some h0
    refine ao_call (v' := (ow 1 0 q19)) (st' := [⟨1, 4, 1, []⟩, (ro 0 3 1 eI q19)]) go0 hb33 (impl_indicesOf_ok gq19) rfl rfl ⟨(pure_map' fun _ => rfl), trivial⟩ rfl rfl ?_
    refine zq tb rfl ?_
    refine dn hK18 rfl ?_
    replace h0 := Sh.some_eq h0
    subst r
    exact AW.ret (xr (Wk.permk (L := [(4, (ow 0 0 q19))]) (st' := [(ro 0 3 1 eI q19)]) (st1 := [(ro 0 3 1 eI q19)]) [1] rfl .nil (by decide) rfl rfl (.pure (pure_map fun _ => rfl) .nil) ⟨.rfl, trivial⟩))
   refine AW.block (AW.loopF (σ := (List Int) × (List Bool) × (List Int)) (fun n v => impl_ReachedFrom_L1 N p0 n v.2.1 v.2.2 = some o17) (fun (Gh2344_0, l14, l15) => ⟨63, envL [(2, (.ptr 0 0 0 0)), (5, (.own 1 0 (List.length l14))), (6, (.own 2 0 (List.length l15)))], [⟨0, 31, 2, [[(.sl (List.map eRDecl p0.decls)), (.sl (List.map eRFunc p0.funcs))]]⟩, ⟨0, 4, 1, List.map eB l14⟩, ⟨0, 3, 1, List.map eI (Gh2344_0 ++ l15)⟩]⟩) N (([] : List Int), Sh.put l9 p1 true, [p1]) h1 (Wk.to (L := [(2, (.ptr 0 0 0 0)), (5, (.own 1 0 (List.length (Sh.put l9 p1 true)))), (6, (.own 2 0 (List.length [p1])))]) ⟨.rfl, (.len (by simp only [Sh.put_len])), .rfl, trivial⟩) (fun _ hv => by rw [impl_ReachedFrom_L1] at hv; cases hv) ?_)
   rintro n ⟨Gh2344_0, l14, l15⟩ h1
   try dsimp only at h1 ⊢
   rw [impl_ReachedFrom_L1] at h1
   refine AW.seq fun K20 hK20 => ?_
   refine sr rfl fun K21 hK21 => ?_
   refine zq tb rfl ?_
   refine zz (i64 (Sh.len l15)) (aq_lenf sl40 rfl rfl) rfl ?_
   refine zq tb rfl ?_
   refine dn hK21 rfl ?_
   refine ci h1 rfl ?_ ?_ <;> clear h1
   ·intro b22 h1
    refine AW.skip (hK20 _ ?_)
    refine AW.seq fun K23 hK23 => ?_
    refine AW.block ?_
    refine AW.seq fun K24 hK24 => ?_
    refine AW.draw (by kernel_rfl) (by kernel_rfl) (by rfl) ?_
    iterate 2 refine yq tb rfl ?_
    obtain ⟨c25, gc25, h1⟩ := Sh.bind_some h1
    refine yz (.ptr 2 0 (List.length Gh2344_0 + Int.toNat 0) 0) (aq_ixf ei40 rfl rfl rfl gc25) rfl ?_
    refine yz (i64 c25) (aq_ldp ti3 rfl rfl (suf_get gc25) rfl) rfl ?_
    obtain ⟨q26, gq26, h1⟩ := Sh.bind_some h1
    refine d_call (v := (ls eB q26)) go0 hb34 (ACalls.wk (impl_calleesOf_ok gq26) (by refine Wk.trans (Wk.frz (L := [(0, (ls eB q26))]) (st' := [⟨1, 4, 1, []⟩]) (id := 0) rfl (show 0 ≤ 0 by decide) (pure_map fun _ => rfl) ⟨(.frz rfl), trivial⟩ rfl) ?_; refine Wk.trans (Wk.permk (L := [(0, (ls eB q26))]) (st' := []) (st1 := []) [] rfl .nil (by decide) rfl rfl .nil ⟨.rfl, trivial⟩) ?_; exact Wk.to (L := [(0, (ls eB q26))]) ⟨.rfl, trivial⟩)) rfl rfl rfl ?_
    obtain ⟨q27, gq27, h1⟩ := Sh.bind_some h1
    refine d_call (v := (ls eI q27)) go0 hb33 (ACalls.wk (impl_indicesOf_ok gq27) (by refine Wk.trans (Wk.frz (L := [(0, (ls eI q27))]) (st' := [⟨1, 3, 1, []⟩]) (id := 0) rfl (show 0 ≤ 0 by decide) (pure_map fun _ => rfl) ⟨(.frz rfl), trivial⟩ rfl) ?_; refine Wk.trans (Wk.permk (L := [(0, (ls eI q27))]) (st' := []) (st1 := []) [] rfl .nil (by decide) rfl rfl .nil ⟨.rfl, trivial⟩) ?_; exact Wk.to (L := [(0, (ls eI q27))]) ⟨.rfl, trivial⟩)) rfl rfl rfl ?_
    refine yl tb rfl rfl ?_
    refine yq tb rfl ?_
    refine d_done (hK24 _ ?_)
    obtain ⟨o33, h2, h1⟩ := Sh.bind_some h1
    have M33 : ∀ (Gx2374_0 : List Int) (l31 : (List Bool)) (l32 : (List Int)), o33 = (l31, l32) → ∀ s, Wk 0 s ⟨63, envL [(2, (.ptr 0 0 0 0)), (5, (ow 1 0 l31)), (6, (ow 2 0 l32))], [⟨0, 31, 2, [[(ls eRDecl p0.decls), (ls eRFunc p0.funcs)]]⟩, (ro 0 4 1 eB l31), (ro 0 3 1 eI (Gx2374_0 ++ l32))]⟩ → K23 s := by
     intro Gx2374_0 l31 l32 hq s hw
     subst o33
     try dsimp only at h1
     refine hK23 _ (AW.weaken hw ?_)
     refine AW.regionO (by rfl) ?_
     refine zq tb rfl ?_
     obtain ⟨l34, gl34, h1⟩ := Sh.bind_some h1
     refine ao_slc' (stf := fun G154 => [⟨0, 31, 2, [[(ls eRDecl p0.decls), (ls eRFunc p0.funcs)]]⟩, (ro 0 4 1 eB l31), (ro 1 3 1 eI (G154 ++ l34))]) ei40 gl34 rfl rfl rfl (fun _ => rfl) fun G154 => ?_
     refine zq tb rfl ?_
     exact AO.done (xi (G154, l31, l34) h1 (Wk.rg (L := [(2, (.ptr 0 0 0 0)), (5, (ow 1 0 l31)), (6, (ow 2 0 l34))]) (st' := [⟨0, 31, 2, [[(ls eRDecl p0.decls), (ls eRFunc p0.funcs)]]⟩, (ro 0 4 1 eB l31), (ro 0 3 1 eI (G154 ++ l34))]) (.raw rfl rfl (.pure (pure_map fun _ => rfl) (.pure (pure_map fun _ => rfl) .nil))) ⟨.rfl, .rfl, .rfl, trivial⟩))
    refine AW.block (AW.loopF (σ := (List Int) × Int × (List Bool) × (List Int)) (fun n v => impl_ReachedFrom_L2 q27 n v.2.1 v.2.2.1 v.2.2.2 = some o33) (fun (Gh2371_0, t28, l29, l30) => ⟨63, envL [(2, (.ptr 0 0 0 0)), (5, (ow 1 0 l29)), (6, (ow 2 0 l30)), (42, (ls eI q27)), (43, (i64 (Sh.len q27))), (44, (i64 t28))], [⟨0, 31, 2, [[(ls eRDecl p0.decls), (ls eRFunc p0.funcs)]]⟩, (ro 0 4 1 eB l29), (ro 0 3 1 eI (Gh2371_0 ++ l30))]⟩) N (Gh2344_0, 0, l14, l15) h2 (Wk.tr rfl) (fun _ hv => by rw [impl_ReachedFrom_L2] at hv; cases hv) ?_)
    rintro n ⟨Gh2371_0, t28, l29, l30⟩ h2
    try dsimp only at h2 ⊢
    rw [impl_ReachedFrom_L2] at h2
    refine zr tb rfl rfl ?_
    refine AW.seq fun K36 hK36 => ?_
    refine ci h2 rfl ?_ ?_ <;> clear h2
    ·intro b37 h2
     refine AW.skip (hK36 _ ?_)
     refine AW.seq fun K38 hK38 => ?_
     obtain ⟨o41, h3, h2⟩ := Sh.bind_some h2
     have M41 : ∀ (Gj2375_0 : List Int) (l39 : (List Bool)) (l40 : (List Int)), o41 = (l39, l40) → ∀ s, Wk 0 s ⟨63, envL [(2, (.ptr 0 0 0 0)), (5, (ow 1 0 l39)), (6, (ow 2 0 l40)), (42, (ls eI q27)), (43, (i64 (Sh.len q27))), (44, (i64 t28))], [⟨0, 31, 2, [[(ls eRDecl p0.decls), (ls eRFunc p0.funcs)]]⟩, (ro 0 4 1 eB l39), (ro 0 3 1 eI (Gj2375_0 ++ l40))]⟩ → K38 s := by
      intro Gj2375_0 l39 l40 hq s hw
      subst o41
      try dsimp only at h2
      refine hK38 _ (AW.weaken hw ?_)
      refine AW.regionO (by rfl) ?_
      refine zm tb 2 rfl ?_
      exact AO.done (xi (Gj2375_0, Sh.w (t28 + 1), l39, l40) h2 (Wk.tr rfl))
     refine AW.block ?_
     refine sr rfl fun K42 hK42 => ?_
     obtain ⟨c43, gc43, h3⟩ := Sh.bind_some h3
     refine zx ei40 gc43 rfl rfl rfl ?_
     refine zm tb 2 rfl ?_
     refine dn hK42 rfl ?_
     refine sr rfl fun K44 hK44 => ?_
     refine zm tb 2 rfl ?_
     obtain ⟨c45, gc45, h3⟩ := Sh.bind_some h3
     refine zz (.ptr 1 0 (Int.toNat c43) 0) (aq_ixo ei60 rfl rfl rfl rfl gc45) rfl ?_
     refine zz (.bool c45) (aq_ldp ti4 rfl rfl (map_get gc45) rfl) rfl ?_
     refine zq tb rfl ?_
     refine dn hK44 rfl ?_
     refine ci h3 rfl ?_ ?_ <;> clear h3
     ·intro b46 h3
      have b47 : c45 = false := by simpa using b46
      refine sr rfl fun K48 hK48 => ?_
      refine zm tb 2 rfl ?_
      refine zz (.ptr 1 0 (Int.toNat c43) 0) (aq_ixo ei60 rfl rfl rfl rfl gc45) rfl ?_
      refine ao_stl (st' := [⟨0, 31, 2, [[(ls eRDecl p0.decls), (ls eRFunc p0.funcs)]]⟩, (ro 0 4 1 eB (Sh.put l29 c43 true)), (ro 0 3 1 eI (Gh2371_0 ++ l30))]) (u' := true) go0 ti4 rfl rfl gc45 rfl rfl rfl (show 0 + 1 ≤ 1 by decide) rfl rfl ?_
      refine dn hK48 rfl ?_
      refine AW.regionO (by rfl) ?_
      refine zm tb 2 rfl ?_
      refine ao_bs (m := 3) (st' := [⟨0, 31, 2, [[(ls eRDecl p0.decls), (ls eRFunc p0.funcs)]]⟩, (ro 0 4 1 eB (Sh.put l29 c43 true)), (ro 0 3 1 eI (Gh2371_0 ++ l30)), (ro 0 3 1 eI [c43])]) (l := [c43]) (enc := eI) go0 ei40 (by decide) rfl rfl rfl rfl rfl rfl ?_
      obtain ⟨l49, gl49, h3⟩ := Sh.bind_some h3
      refine ao_aps' (stf := fun G156 => [⟨0, 31, 2, [[(ls eRDecl p0.decls), (ls eRFunc p0.funcs)]]⟩, (ro 0 4 1 eB (Sh.put l29 c43 true)), (ro 1 3 1 eI (G156 ++ l49)), (ro 0 3 1 eI [c43])]) ei40 rfl rfl rfl rfl gl49 (fun _ => rfl) fun G156 => ?_
      refine zq tb rfl ?_
      exact AO.done (M41 G156 (Sh.put l29 c43 true) l49 (Sh.some_eq h3).symm _ (by refine Wk.trans (Wk.rg (L := [(2, (.ptr 0 0 0 0)), (5, (.own 1 0 (List.length l29))), (6, (.own 2 0 (List.length l49))), (42, (.sl (List.map eI q27))), (43, (i64 (Sh.len q27))), (44, (i64 t28))]) (st' := [⟨0, 31, 2, [[(.sl (List.map eRDecl p0.decls)), (.sl (List.map eRFunc p0.funcs))]]⟩, ⟨0, 4, 1, List.map eB (Sh.put l29 c43 true)⟩, ⟨0, 3, 1, List.map eI (G156 ++ l49)⟩, ⟨0, 3, 1, List.map eI [c43]⟩]) (.raw rfl rfl (.pure (pure_map fun _ => rfl) (.pure (pure_map fun _ => rfl) (.pure (pure_map fun _ => rfl) .nil)))) ⟨.rfl, .rfl, .rfl, .rfl, .rfl, .rfl, trivial⟩) ?_; refine Wk.trans (Wk.permk (L := [(2, (.ptr 0 0 0 0)), (5, (.own 1 0 (List.length l29))), (6, (.own 2 0 (List.length l49))), (42, (.sl (List.map eI q27))), (43, (i64 (Sh.len q27))), (44, (i64 t28))]) (st' := [⟨0, 31, 2, [[(.sl (List.map eRDecl p0.decls)), (.sl (List.map eRFunc p0.funcs))]]⟩, ⟨0, 4, 1, List.map eB (Sh.put l29 c43 true)⟩, ⟨0, 3, 1, List.map eI (G156 ++ l49)⟩]) (st1 := [⟨0, 31, 2, [[(.sl (List.map eRDecl p0.decls)), (.sl (List.map eRFunc p0.funcs))]]⟩, ⟨0, 4, 1, List.map eB (Sh.put l29 c43 true)⟩, ⟨0, 3, 1, List.map eI (G156 ++ l49)⟩]) [0, 1, 2] rfl .nil (by decide) rfl rfl (.raw rfl rfl (.pure (pure_map fun _ => rfl) (.pure (pure_map fun _ => rfl) .nil))) ⟨.rfl, .rfl, .rfl, .rfl, .rfl, .rfl, trivial⟩) ?_; exact Wk.to (L := [(2, (.ptr 0 0 0 0)), (5, (.own 1 0 (List.length (Sh.put l29 c43 true)))), (6, (.own 2 0 (List.length l49))), (42, (.sl (List.map eI q27))), (43, (i64 (Sh.len q27))), (44, (i64 t28))]) ⟨.rfl, (.len (by simp only [Sh.put_len])), .rfl, .rfl, .rfl, .rfl, trivial⟩))
     ·intro b46 h3
      have b50 : c45 = true := by simpa using b46
      exact AW.skip (M41 Gh2371_0 l29 l30 (Sh.some_eq h3).symm _ (Wk.tr rfl))
    ·intro b37 h2
     exact AW.exit (M33 Gh2371_0 l29 l30 (Sh.some_eq h2).symm _ (Wk.tr rfl))
   ·intro b22 h1
    exact AW.exit (M17 l14 (Sh.some_eq h1).symm _ (Wk.permk (L := [(5, (ow 0 0 l14))]) (st' := [(ro 0 4 1 eB l14)]) (st1 := [(ro 0 4 1 eB l14)]) [1] rfl .nil (by decide) rfl rfl (.pure (pure_map fun _ => rfl) .nil) ⟨.rfl, trivial⟩))
 refine AW.regionO (by rfl) ?_
 refine zq tb rfl ?_
 obtain ⟨q51, gq51, h1⟩ := Sh.bind_some h1
 refine zc hb18 (impl_ValidProgram_ok gq51) rfl rfl rfl ?_
 refine zm tb 2 rfl ?_
 rcases Sh.ite_some h1 with ⟨b52, h1⟩ | ⟨b52, h1⟩
 ·refine zs b52 rfl ?_
  refine zs b52 rfl ?_
  refine zt b52 rfl ?_
  refine zq tb rfl ?_
  iterate 5 refine zs rfl rfl ?_
  refine zt rfl rfl ?_
  exact AO.done (M5 true (Sh.some_eq h1).symm _ (Wk.tr rfl))
 ·refine zg tb b52 rfl ?_
  refine zg tb b52 rfl ?_
  refine zf b52 rfl ?_
  refine zq tb rfl ?_
  rcases Sh.ite_some h1 with ⟨b53, h1⟩ | ⟨b53, h1⟩
  ·refine zs b53 rfl ?_
   iterate 4 refine zs b53 rfl ?_
   refine zt b53 rfl ?_
   exact AO.done (M5 true (Sh.some_eq h1).symm _ (Wk.tr rfl))
  ·refine zg tb b53 rfl ?_
   iterate 2 refine zg tb b53 rfl ?_
   refine ao_q (v := (i64 (Sh.len p0.funcs))) (go1 rfl rfl b53) rfl (aq_lens sl29 rfl) ?_
   refine zg tb b53 rfl ?_
   refine zf b53 rfl ?_
   exact AO.done (M5 (decide ((Sh.len p0.funcs) ≤ p1)) (Sh.some_eq h1).symm _ (Wk.tr rfl))
theorem slices_Index_int_int_ok {N : Nat} {p0 : (List Int)} {p1 : Int} {r : Int} (h0 : slices_Index_int_int N p0 p1 = some r) : ACalls Try.prog 52 [(ls eI p0), (i64 p1)] [] (fun v st => v = (i64 r) ∧ st = []) := by
 unfold slices_Index_int_int at h0
 refine ai Try.func52 rfl rfl rfl rfl ?_
 refine zr tb rfl rfl ?_
 refine AW.seq fun K2 hK2 => ?_
 refine sr rfl fun K3 hK3 => ?_
 refine zq tb rfl ?_
 refine zl tb rfl rfl ?_
 refine zq tb rfl ?_
 refine dn hK3 rfl ?_
 obtain ⟨o5, h1, h0⟩ := Sh.cont_some h0
 have M5 : ∀ (_ : Unit), o5 = Sum.inr () → ∀ s, Wk 0 s ⟨19, envL [], []⟩ → K2 s := by
  intro _ hq s hw
  subst o5
  try dsimp only at h0
  refine hK2 _ (AW.weaken hw ?_)
  refine zr tb rfl rfl ?_
  replace h0 := Sh.some_eq h0
  subst r
  exact AW.ret (xr (Wk.to (L := [(4, (i64 (-1)))]) ⟨.rfl, trivial⟩))
 refine AW.block (AW.loopF (σ := Int) (fun n v => slices_Index_int_int_L1 p0 p1 n v = some o5) (fun t4 => ⟨19, envL [(0, (ls eI p0)), (1, (i64 p1)), (7, (i64 (Sh.len p0))), (8, (i64 t4))], []⟩) N 0 h1 (Wk.tr rfl) (fun _ hv => by rw [slices_Index_int_int_L1] at hv; cases hv) ?_)
 rintro n t4 h1
 try dsimp only at h1 ⊢
 rw [slices_Index_int_int_L1] at h1
 refine zr tb rfl rfl ?_
 refine AW.seq fun K8 hK8 => ?_
 refine ci h1 rfl ?_ ?_ <;> clear h1
 ·intro b9 h1
  refine AW.skip (hK8 _ ?_)
  refine AW.seq fun K10 hK10 => ?_
  refine AW.block ?_
  refine zr tb rfl rfl ?_
  refine sr rfl fun K12 hK12 => ?_
  refine zm tb 3 rfl ?_
  obtain ⟨c13, gc13, h1⟩ := Sh.bind_some h1
  refine zx ei40 gc13 rfl rfl rfl ?_
  refine zm tb 2 rfl ?_
  refine dn hK12 rfl ?_
  refine ci h1 rfl ?_ ?_ <;> clear h1
  ·intro b14 h1
   refine zr tb rfl rfl ?_
   replace h1 := Sh.some_eq h1
   subst o5
   try dsimp only [id] at h0
   replace h0 := Sh.some_eq h0
   subst r
   exact AW.ret (xr (Wk.to (L := [(4, (i64 t4))]) ⟨.rfl, trivial⟩))
  ·intro b14 h1
   refine AW.skip (hK10 _ ?_)
   refine AW.regionO (by rfl) ?_
   refine zm tb 2 rfl ?_
   exact AO.done (xi (Sh.w (t4 + 1)) h1 (Wk.tr rfl))
 ·intro b9 h1
  exact AW.exit (M5 () (Sh.some_eq h1).symm _ (Wk.tr rfl))
theorem slices_Contains_int_int_ok {N : Nat} {p0 : (List Int)} {p1 : Int} {r : Bool} (h0 : slices_Contains_int_int N p0 p1 = some r) : ACalls Try.prog 32 [(ls eI p0), (i64 p1)] [] (fun v st => v = (.bool r) ∧ st = []) := by
 unfold slices_Contains_int_int at h0
 refine ai Try.func32 rfl rfl rfl rfl ?_
 refine zr tb rfl rfl ?_
 refine sr rfl fun K2 hK2 => ?_
 refine zm tb 2 rfl ?_
 obtain ⟨q3, gq3, h0⟩ := Sh.bind_some h0
 refine zc hb52 (slices_Index_int_int_ok gq3) rfl rfl rfl ?_
 refine zm tb 2 rfl ?_
 refine dn hK2 rfl ?_
 replace h0 := Sh.some_eq h0
 subst r
 exact AW.ret (xr (Wk.to (L := [(4, (.bool (decide (0 ≤ q3))))]) ⟨.rfl, trivial⟩))
theorem impl_MayInline_ok {N : Nat} {p0 : RProgram} {p1 : Int} {r : Bool} (h0 : impl_MayInline N p0 p1 = some r) : ACalls Try.prog 13 [(.agg [(ls eRDecl p0.decls), (ls eRFunc p0.funcs)]), (i64 p1)] [] (fun v st => v = (.bool r) ∧ st = []) := by
 unfold impl_MayInline at h0
 refine ai Try.func13 rfl rfl rfl rfl ?_
 refine sr rfl fun K1 hK1 => ?_
 refine ao_box (m := 0) (st' := [⟨0, 31, 2, [[(ls eRDecl p0.decls), (ls eRFunc p0.funcs)]]⟩]) go0 rfl rfl rfl rfl rfl ?_
 refine zq tb rfl ?_
 refine dn hK1 rfl ?_
 refine AW.seq fun K2 hK2 => ?_
 refine AW.seq fun K3 hK3 => ?_
 obtain ⟨o5, h1, h0⟩ := Sh.bind_some h0
 have M5 : ∀ (t4 : Bool), o5 = t4 → ∀ s, Wk 0 s ⟨35, envL [(1, (i64 p1)), (2, (.ptr 0 0 0 0)), (20, (.bool t4))], [⟨0, 31, 2, [[(ls eRDecl p0.decls), (ls eRFunc p0.funcs)]]⟩]⟩ → K3 s := by
  intro t4 hq s hw
  subst o5
  try dsimp only at h0
  refine hK3 _ (AW.weaken hw ?_)
  refine ci h0 rfl ?_ ?_ <;> clear h0
  ·intro b6 h0
   refine zr tb rfl rfl ?_
   replace h0 := Sh.some_eq h0
   subst r
   exact AW.ret (xr (Wk.d0 [(4, (.bool false))] rfl))
  ·intro b6 h0
   refine AW.skip (hK2 _ ?_)
   refine AW.seq fun K8 hK8 => ?_
   refine sr rfl fun K9 hK9 => ?_
   refine zm tb 2 rfl ?_
   obtain ⟨q10, gq10, h0⟩ := Sh.bind_some h0
   refine ao_call (v' := (ow 1 0 q10)) (st' := [⟨0, 31, 2, [[(ls eRDecl p0.decls), (ls eRFunc p0.funcs)]]⟩, (ro 0 3 1 eI q10)]) go0 hb16 (impl_CalleesOf_ok gq10) rfl rfl ⟨(pure_map' fun _ => rfl), trivial⟩ rfl rfl ?_
   refine zz (i64 (Sh.len q10)) (aq_leno sl40 rfl rfl rfl) rfl ?_
   refine zq tb rfl ?_
   refine dn hK9 rfl ?_
   obtain ⟨o12, h1, h0⟩ := Sh.cont_some h0
   have M12 : ∀ (_ : Unit), o12 = Sum.inr () → ∀ s, Wk 0 s ⟨35, envL [], []⟩ → K8 s := by
    intro _ hq s hw
    subst o12
    try dsimp only at h0
    refine hK8 _ (AW.weaken hw ?_)
    refine zr tb rfl rfl ?_
    replace h0 := Sh.some_eq h0
    subst r
    exact AW.ret (xr (Wk.to (L := [(4, (.bool true))]) ⟨.rfl, trivial⟩))
   refine AW.block (AW.loopF (σ := Int) (fun n v => impl_MayInline_L1 N p0 p1 q10 n v = some o12) (fun t11 => ⟨35, envL [(1, (i64 p1)), (2, (.ptr 0 0 0 0)), (23, (ow 1 0 q10)), (24, (i64 (Sh.len q10))), (25, (i64 t11))], [⟨0, 31, 2, [[(ls eRDecl p0.decls), (ls eRFunc p0.funcs)]]⟩, (ro 0 3 1 eI q10)]⟩) N 0 h1 (Wk.tr rfl) (fun _ hv => by rw [impl_MayInline_L1] at hv; cases hv) ?_)
   rintro n t11 h1
   try dsimp only at h1 ⊢
   rw [impl_MayInline_L1] at h1
   refine zr tb rfl rfl ?_
   refine AW.seq fun K15 hK15 => ?_
   refine ci h1 rfl ?_ ?_ <;> clear h1
   ·intro b16 h1
    refine AW.skip (hK15 _ ?_)
    refine AW.seq fun K17 hK17 => ?_
    refine AW.block ?_
    refine sr rfl fun K18 hK18 => ?_
    obtain ⟨c19, gc19, h1⟩ := Sh.bind_some h1
    refine zz (.ptr 1 0 (Int.toNat t11) 0) (aq_ixo ei40 rfl rfl rfl rfl gc19) rfl ?_
    refine zz (i64 c19) (aq_ldp ti3 rfl rfl (map_get gc19) rfl) rfl ?_
    refine zq tb rfl ?_
    refine dn hK18 rfl ?_
    refine sr rfl fun K20 hK20 => ?_
    refine zm tb 2 rfl ?_
    obtain ⟨q21, gq21, h1⟩ := Sh.bind_some h1
    refine ao_call (v' := (ow 2 0 q21)) (st' := [⟨0, 31, 2, [[(ls eRDecl p0.decls), (ls eRFunc p0.funcs)]]⟩, (ro 0 3 1 eI q10), (ro 0 3 1 eI q21)]) go0 hb19 (impl_ReachedFrom_ok gq21) rfl rfl ⟨(pure_map' fun _ => rfl), trivial⟩ rfl rfl ?_
    refine zq tb rfl ?_
    refine AO.weaken (Wk.frz (L := [(1, (i64 p1)), (2, (.ptr 0 0 0 0)), (23, (ow 1 0 q10)), (24, (i64 (Sh.len q10))), (25, (i64 t11)), (31, (ls eI q21)), (32, (i64 p1))]) (st' := [⟨0, 31, 2, [[(ls eRDecl p0.decls), (ls eRFunc p0.funcs)]]⟩, (ro 0 3 1 eI q10), ⟨1, 3, 1, []⟩]) (id := 2) rfl (show 0 ≤ 2 by decide) (pure_map fun _ => rfl) ⟨.rfl, .rfl, .rfl, .rfl, .rfl, (.frz rfl), .rfl, trivial⟩ rfl) ?_
    obtain ⟨q22, gq22, h1⟩ := Sh.bind_some h1
    refine zc hb32 (slices_Contains_int_int_ok gq22) rfl rfl rfl ?_
    refine dn hK20 rfl ?_
    refine ci h1 rfl ?_ ?_ <;> clear h1
    ·intro b23 h1
     refine zr tb rfl rfl ?_
     replace h1 := Sh.some_eq h1
     subst o12
     try dsimp only [id] at h0
     replace h0 := Sh.some_eq h0
     subst r
     exact AW.ret (xr (Wk.d0 [(4, (.bool false))] rfl))
    ·intro b23 h1
     refine AW.skip (hK17 _ ?_)
     refine AW.regionO (by rfl) ?_
     refine zm tb 2 rfl ?_
     exact AO.done (xi (Sh.w (t11 + 1)) h1 (Wk.permk (L := [(1, (i64 p1)), (2, (.ptr 0 0 0 0)), (23, (ow 1 0 q10)), (24, (i64 (Sh.len q10))), (25, (i64 (Sh.w (t11 + 1))))]) (st' := [⟨0, 31, 2, [[(ls eRDecl p0.decls), (ls eRFunc p0.funcs)]]⟩, (ro 0 3 1 eI q10)]) (st1 := [⟨0, 31, 2, [[(ls eRDecl p0.decls), (ls eRFunc p0.funcs)]]⟩, (ro 0 3 1 eI q10)]) [0, 1] rfl .nil (by decide) rfl rfl (.raw rfl rfl (.pure (pure_map fun _ => rfl) .nil)) ⟨.rfl, .rfl, .rfl, .rfl, .rfl, trivial⟩))
   ·intro b16 h1
    exact AW.exit (M12 () (Sh.some_eq h1).symm _ (Wk.d0 _ rfl))
 refine AW.regionO (by rfl) ?_
 refine zq tb rfl ?_
 obtain ⟨q25, gq25, h1⟩ := Sh.bind_some h1
 refine zc hb18 (impl_ValidProgram_ok gq25) rfl rfl rfl ?_
 refine zm tb 2 rfl ?_
 rcases Sh.ite_some h1 with ⟨b26, h1⟩ | ⟨b26, h1⟩
 ·refine zs b26 rfl ?_
  refine zs b26 rfl ?_
  refine zt b26 rfl ?_
  refine zq tb rfl ?_
  iterate 5 refine zs rfl rfl ?_
  refine zt rfl rfl ?_
  exact AO.done (M5 true (Sh.some_eq h1).symm _ (Wk.tr rfl))
 ·refine zg tb b26 rfl ?_
  refine zg tb b26 rfl ?_
  refine zf b26 rfl ?_
  refine zq tb rfl ?_
  rcases Sh.ite_some h1 with ⟨b27, h1⟩ | ⟨b27, h1⟩
  ·refine zs b27 rfl ?_
   iterate 4 refine zs b27 rfl ?_
   refine zt b27 rfl ?_
   exact AO.done (M5 true (Sh.some_eq h1).symm _ (Wk.tr rfl))
  ·refine zg tb b27 rfl ?_
   iterate 2 refine zg tb b27 rfl ?_
   refine ao_q (v := (i64 (Sh.len p0.funcs))) (go1 rfl rfl b27) rfl (aq_lens sl29 rfl) ?_
   refine zg tb b27 rfl ?_
   refine zf b27 rfl ?_
   exact AO.done (M5 (decide ((Sh.len p0.funcs) ≤ p1)) (Sh.some_eq h1).symm _ (Wk.tr rfl))
theorem laws_eqIntS_ok {N : Nat} {p0 : (List Int)} {p1 : (List Int)} {r : Bool} (h0 : laws_eqIntS N p0 p1 = some r) : ACalls Try.prog 81 [(ls eI p0), (ls eI p1)] [] (fun v st => v = (.bool r) ∧ st = []) := by
 unfold laws_eqIntS at h0
 refine ai Try.func81 rfl rfl rfl rfl ?_
 refine zr tb rfl rfl ?_
 refine AW.seq fun K2 hK2 => ?_
 refine sr rfl fun K3 hK3 => ?_
 refine zq tb rfl ?_
 refine zl tb rfl rfl ?_
 refine zq tb rfl ?_
 refine zl tb rfl rfl ?_
 refine zq tb rfl ?_
 refine dn hK3 rfl ?_
 refine ci h0 rfl ?_ ?_ <;> clear h0
 ·intro b4 h0
  have b5 : decide ((Sh.len p0) = (Sh.len p1)) = false := by simpa using b4
  refine zr tb rfl rfl ?_
  replace h0 := Sh.some_eq h0
  subst r
  exact AW.ret (xr (Wk.to (L := [(4, (.bool false))]) ⟨.rfl, trivial⟩))
 ·intro b4 h0
  have b7 : decide ((Sh.len p0) = (Sh.len p1)) = true := by simpa using b4
  refine AW.skip (hK2 _ ?_)
  refine AW.seq fun K8 hK8 => ?_
  refine zr tb rfl rfl ?_
  obtain ⟨o11, h1, h0⟩ := Sh.cont_some h0
  have M11 : ∀ (_ : Unit), o11 = Sum.inr () → ∀ s, Wk 0 s ⟨26, envL [], []⟩ → K8 s := by
   intro _ hq s hw
   subst o11
   try dsimp only at h0
   refine hK8 _ (AW.weaken hw ?_)
   refine zr tb rfl rfl ?_
   replace h0 := Sh.some_eq h0
   subst r
   exact AW.ret (xr (Wk.to (L := [(4, (.bool true))]) ⟨.rfl, trivial⟩))
  refine AW.block (AW.loopF (σ := Int) (fun n v => laws_eqIntS_L1 p0 p1 n v = some o11) (fun i10 => ⟨26, envL [(0, (ls eI p0)), (1, (ls eI p1)), (5, (i64 i10))], []⟩) N 0 h1 (Wk.tr rfl) (fun _ hv => by rw [laws_eqIntS_L1] at hv; cases hv) ?_)
  rintro n i10 h1
  try dsimp only at h1 ⊢
  rw [laws_eqIntS_L1] at h1
  refine AW.seq fun K13 hK13 => ?_
  refine sr rfl fun K14 hK14 => ?_
  refine zm tb 2 rfl ?_
  refine zl tb rfl rfl ?_
  refine zq tb rfl ?_
  refine dn hK14 rfl ?_
  refine ci h1 rfl ?_ ?_ <;> clear h1
  ·intro b15 h1
   refine AW.skip (hK13 _ ?_)
   refine AW.seq fun K16 hK16 => ?_
   refine AW.block ?_
   refine AW.seq fun K17 hK17 => ?_
   refine AW.draw (by kernel_rfl) (by kernel_rfl) (by rfl) ?_
   iterate 2 refine yq tb rfl ?_
   obtain ⟨c18, gc18, h1⟩ := Sh.bind_some h1
   refine yx ei40 gc18 rfl rfl rfl ?_
   iterate 3 refine yq tb rfl ?_
   obtain ⟨c19, gc19, h1⟩ := Sh.bind_some h1
   refine yx ei40 gc19 rfl rfl rfl ?_
   iterate 2 refine yq tb rfl ?_
   refine d_done (hK17 _ ?_)
   refine ci h1 rfl ?_ ?_ <;> clear h1
   ·intro b20 h1
    have b21 : decide (c18 = c19) = false := by simpa using b20
    refine zr tb rfl rfl ?_
    replace h1 := Sh.some_eq h1
    subst o11
    try dsimp only [id] at h0
    replace h0 := Sh.some_eq h0
    subst r
    exact AW.ret (xr (Wk.to (L := [(4, (.bool false))]) ⟨.rfl, trivial⟩))
   ·intro b20 h1
    have b23 : decide (c18 = c19) = true := by simpa using b20
    refine AW.skip (hK16 _ ?_)
    refine AW.regionO (by rfl) ?_
    refine zm tb 3 rfl ?_
    exact AO.done (xi (Sh.w (i10 + 1)) h1 (Wk.tr rfl))
  ·intro b15 h1
   exact AW.exit (M11 () (Sh.some_eq h1).symm _ (Wk.tr rfl))
theorem laws_eqCon_ok {N : Nat} {p0 : RCon} {p1 : RCon} {r : Bool} (h0 : laws_eqCon N p0 p1 = some r) : ACalls Try.prog 105 [(.agg (eRCon p0)), (.agg (eRCon p1))] [] (fun v st => v = (.bool r) ∧ st = []) := by
 unfold laws_eqCon at h0
 refine ai Try.func105 rfl rfl rfl rfl ?_
 refine sr rfl fun K1 hK1 => ?_
 refine ao_box (m := 0) (st' := [⟨0, 130, 1, [(eRCon p0)]⟩]) go0 rfl rfl rfl rfl rfl ?_
 refine ao_box (m := 1) (st' := [⟨0, 130, 1, [(eRCon p0)]⟩, ⟨0, 130, 1, [(eRCon p1)]⟩]) go0 rfl rfl rfl rfl rfl ?_
 refine zq tb rfl ?_
 refine dn hK1 rfl ?_
 refine AW.seq fun K2 hK2 => ?_
 refine sr rfl fun K3 hK3 => ?_
 refine zm tb 4 rfl ?_
 obtain ⟨q4, gq4, h0⟩ := Sh.bind_some h0
 refine zc hb81 (laws_eqIntS_ok gq4) rfl rfl rfl ?_
 refine zq tb rfl ?_
 refine dn hK3 rfl ?_
 refine ci h0 rfl ?_ ?_ <;> clear h0
 ·intro b5 h0
  have b6 : q4 = false := by simpa using b5
  refine zr tb rfl rfl ?_
  replace h0 := Sh.some_eq h0
  subst r
  exact AW.ret (xr (Wk.d0 [(4, (.bool false))] rfl))
 ·intro b5 h0
  have b8 : q4 = true := by simpa using b5
  refine AW.skip (hK2 _ ?_)
  refine zr tb rfl rfl ?_
  replace h0 := Sh.some_eq h0
  subst r
  exact AW.ret (xr (Wk.d0 [(4, (.bool true))] rfl))
theorem laws_eqConS_ok {N : Nat} {p0 : (List RCon)} {p1 : (List RCon)} {r : Bool} (h0 : laws_eqConS N p0 p1 = some r) : ACalls Try.prog 80 [(ls eRCon p0), (ls eRCon p1)] [] (fun v st => v = (.bool r) ∧ st = []) := by
 unfold laws_eqConS at h0
 refine ai Try.func80 rfl rfl rfl rfl ?_
 refine zr tb rfl rfl ?_
 refine AW.seq fun K2 hK2 => ?_
 refine sr rfl fun K3 hK3 => ?_
 refine zq tb rfl ?_
 refine zl tb rfl rfl ?_
 refine zq tb rfl ?_
 refine zl tb rfl rfl ?_
 refine zq tb rfl ?_
 refine dn hK3 rfl ?_
 refine ci h0 rfl ?_ ?_ <;> clear h0
 ·intro b4 h0
  have b5 : decide ((Sh.len p0) = (Sh.len p1)) = false := by simpa using b4
  refine zr tb rfl rfl ?_
  replace h0 := Sh.some_eq h0
  subst r
  exact AW.ret (xr (Wk.to (L := [(4, (.bool false))]) ⟨.rfl, trivial⟩))
 ·intro b4 h0
  have b7 : decide ((Sh.len p0) = (Sh.len p1)) = true := by simpa using b4
  refine AW.skip (hK2 _ ?_)
  refine AW.seq fun K8 hK8 => ?_
  refine zr tb rfl rfl ?_
  obtain ⟨o11, h1, h0⟩ := Sh.cont_some h0
  have M11 : ∀ (_ : Unit), o11 = Sum.inr () → ∀ s, Wk 0 s ⟨27, envL [], []⟩ → K8 s := by
   intro _ hq s hw
   subst o11
   try dsimp only at h0
   refine hK8 _ (AW.weaken hw ?_)
   refine zr tb rfl rfl ?_
   replace h0 := Sh.some_eq h0
   subst r
   exact AW.ret (xr (Wk.to (L := [(4, (.bool true))]) ⟨.rfl, trivial⟩))
  refine AW.block (AW.loopF (σ := Int) (fun n v => laws_eqConS_L1 N p0 p1 n v = some o11) (fun i10 => ⟨27, envL [(0, (ls eRCon p0)), (1, (ls eRCon p1)), (5, (i64 i10))], []⟩) N 0 h1 (Wk.tr rfl) (fun _ hv => by rw [laws_eqConS_L1] at hv; cases hv) ?_)
  rintro n i10 h1
  try dsimp only at h1 ⊢
  rw [laws_eqConS_L1] at h1
  refine AW.seq fun K13 hK13 => ?_
  refine sr rfl fun K14 hK14 => ?_
  refine zm tb 2 rfl ?_
  refine zl tb rfl rfl ?_
  refine zq tb rfl ?_
  refine dn hK14 rfl ?_
  refine ci h1 rfl ?_ ?_ <;> clear h1
  ·intro b15 h1
   refine AW.skip (hK13 _ ?_)
   refine AW.seq fun K16 hK16 => ?_
   refine AW.block ?_
   refine AW.seq fun K17 hK17 => ?_
   refine AW.draw (by kernel_rfl) (by kernel_rfl) (by rfl) ?_
   iterate 2 refine yq tb rfl ?_
   obtain ⟨c18, gc18, h1⟩ := Sh.bind_some h1
   refine yx ei78 gc18 rfl rfl rfl ?_
   iterate 3 refine yq tb rfl ?_
   obtain ⟨c19, gc19, h1⟩ := Sh.bind_some h1
   refine yx ei78 gc19 rfl rfl rfl ?_
   refine yq tb rfl ?_
   obtain ⟨q20, gq20, h1⟩ := Sh.bind_some h1
   refine d_call (v := (.bool q20)) go0 hb105 (laws_eqCon_ok gq20) rfl rfl rfl ?_
   refine yq tb rfl ?_
   refine d_done (hK17 _ ?_)
   refine ci h1 rfl ?_ ?_ <;> clear h1
   ·intro b21 h1
    have b22 : q20 = false := by simpa using b21
    refine zr tb rfl rfl ?_
    replace h1 := Sh.some_eq h1
    subst o11
    try dsimp only [id] at h0
    replace h0 := Sh.some_eq h0
    subst r
    exact AW.ret (xr (Wk.to (L := [(4, (.bool false))]) ⟨.rfl, trivial⟩))
   ·intro b21 h1
    have b24 : q20 = true := by simpa using b21
    refine AW.skip (hK16 _ ?_)
    refine AW.regionO (by rfl) ?_
    refine zm tb 3 rfl ?_
    exact AO.done (xi (Sh.w (i10 + 1)) h1 (Wk.tr rfl))
  ·intro b15 h1
   exact AW.exit (M11 () (Sh.some_eq h1).symm _ (Wk.tr rfl))
theorem laws_eqDecl_ok {N : Nat} {p0 : RDecl} {p1 : RDecl} {r : Bool} (h0 : laws_eqDecl N p0 p1 = some r) : ACalls Try.prog 47 [(.agg (eRDecl p0)), (.agg (eRDecl p1))] [] (fun v st => v = (.bool r) ∧ st = []) := by
 unfold laws_eqDecl at h0
 refine ai Try.func47 rfl rfl rfl rfl ?_
 refine sr rfl fun K1 hK1 => ?_
 refine ao_box (m := 0) (st' := [⟨0, 80, 3, [(eRDecl p0)]⟩]) go0 rfl rfl rfl rfl rfl ?_
 refine ao_box (m := 1) (st' := [⟨0, 80, 3, [(eRDecl p0)]⟩, ⟨0, 80, 3, [(eRDecl p1)]⟩]) go0 rfl rfl rfl rfl rfl ?_
 refine zq tb rfl ?_
 refine dn hK1 rfl ?_
 refine AW.seq fun K2 hK2 => ?_
 refine zr tb rfl rfl ?_
 refine ci h0 rfl ?_ ?_ <;> clear h0
 ·intro b4 h0
  have b5 : decide (p0.from_ = p1.from_) = false := by simpa using b4
  refine zr tb rfl rfl ?_
  replace h0 := Sh.some_eq h0
  subst r
  exact AW.ret (xr (Wk.d0 [(4, (.bool false))] rfl))
 ·intro b4 h0
  have b7 : decide (p0.from_ = p1.from_) = true := by simpa using b4
  refine AW.skip (hK2 _ ?_)
  refine AW.seq fun K8 hK8 => ?_
  refine zr tb rfl rfl ?_
  refine ci h0 rfl ?_ ?_ <;> clear h0
  ·intro b10 h0
   have b11 : decide (p0.to = p1.to) = false := by simpa using b10
   refine zr tb rfl rfl ?_
   replace h0 := Sh.some_eq h0
   subst r
   exact AW.ret (xr (Wk.d0 [(4, (.bool false))] rfl))
  ·intro b10 h0
   have b13 : decide (p0.to = p1.to) = true := by simpa using b10
   refine AW.skip (hK8 _ ?_)
   refine AW.seq fun K14 hK14 => ?_
   refine sr rfl fun K15 hK15 => ?_
   refine zm tb 4 rfl ?_
   obtain ⟨q16, gq16, h0⟩ := Sh.bind_some h0
   refine zc hb80 (laws_eqConS_ok gq16) rfl rfl rfl ?_
   refine zq tb rfl ?_
   refine dn hK15 rfl ?_
   refine ci h0 rfl ?_ ?_ <;> clear h0
   ·intro b17 h0
    have b18 : q16 = false := by simpa using b17
    refine zr tb rfl rfl ?_
    replace h0 := Sh.some_eq h0
    subst r
    exact AW.ret (xr (Wk.d0 [(4, (.bool false))] rfl))
   ·intro b17 h0
    have b20 : q16 = true := by simpa using b17
    refine AW.skip (hK14 _ ?_)
    refine zr tb rfl rfl ?_
    replace h0 := Sh.some_eq h0
    subst r
    exact AW.ret (xr (Wk.d0 [(4, (.bool true))] rfl))
theorem laws_eqDeclS_ok {N : Nat} {p0 : (List RDecl)} {p1 : (List RDecl)} {r : Bool} (h0 : laws_eqDeclS N p0 p1 = some r) : ACalls Try.prog 29 [(ls eRDecl p0), (ls eRDecl p1)] [] (fun v st => v = (.bool r) ∧ st = []) := by
 unfold laws_eqDeclS at h0
 refine ai Try.func29 rfl rfl rfl rfl ?_
 refine zr tb rfl rfl ?_
 refine AW.seq fun K2 hK2 => ?_
 refine sr rfl fun K3 hK3 => ?_
 refine zq tb rfl ?_
 refine zl tb rfl rfl ?_
 refine zq tb rfl ?_
 refine zl tb rfl rfl ?_
 refine zq tb rfl ?_
 refine dn hK3 rfl ?_
 refine ci h0 rfl ?_ ?_ <;> clear h0
 ·intro b4 h0
  have b5 : decide ((Sh.len p0) = (Sh.len p1)) = false := by simpa using b4
  refine zr tb rfl rfl ?_
  replace h0 := Sh.some_eq h0
  subst r
  exact AW.ret (xr (Wk.to (L := [(4, (.bool false))]) ⟨.rfl, trivial⟩))
 ·intro b4 h0
  have b7 : decide ((Sh.len p0) = (Sh.len p1)) = true := by simpa using b4
  refine AW.skip (hK2 _ ?_)
  refine AW.seq fun K8 hK8 => ?_
  refine zr tb rfl rfl ?_
  obtain ⟨o11, h1, h0⟩ := Sh.cont_some h0
  have M11 : ∀ (_ : Unit), o11 = Sum.inr () → ∀ s, Wk 0 s ⟨27, envL [], []⟩ → K8 s := by
   intro _ hq s hw
   subst o11
   try dsimp only at h0
   refine hK8 _ (AW.weaken hw ?_)
   refine zr tb rfl rfl ?_
   replace h0 := Sh.some_eq h0
   subst r
   exact AW.ret (xr (Wk.to (L := [(4, (.bool true))]) ⟨.rfl, trivial⟩))
  refine AW.block (AW.loopF (σ := Int) (fun n v => laws_eqDeclS_L1 N p0 p1 n v = some o11) (fun i10 => ⟨27, envL [(0, (ls eRDecl p0)), (1, (ls eRDecl p1)), (5, (i64 i10))], []⟩) N 0 h1 (Wk.tr rfl) (fun _ hv => by rw [laws_eqDeclS_L1] at hv; cases hv) ?_)
  rintro n i10 h1
  try dsimp only at h1 ⊢
  rw [laws_eqDeclS_L1] at h1
  refine AW.seq fun K13 hK13 => ?_
  refine sr rfl fun K14 hK14 => ?_
  refine zm tb 2 rfl ?_
  refine zl tb rfl rfl ?_
  refine zq tb rfl ?_
  refine dn hK14 rfl ?_
  refine ci h1 rfl ?_ ?_ <;> clear h1
  ·intro b15 h1
   refine AW.skip (hK13 _ ?_)
   refine AW.seq fun K16 hK16 => ?_
   refine AW.block ?_
   refine AW.seq fun K17 hK17 => ?_
   refine AW.draw (by kernel_rfl) (by kernel_rfl) (by rfl) ?_
   iterate 2 refine yq tb rfl ?_
   obtain ⟨c18, gc18, h1⟩ := Sh.bind_some h1
   refine yx ei28 gc18 rfl rfl rfl ?_
   iterate 3 refine yq tb rfl ?_
   obtain ⟨c19, gc19, h1⟩ := Sh.bind_some h1
   refine yx ei28 gc19 rfl rfl rfl ?_
   refine yq tb rfl ?_
   obtain ⟨q20, gq20, h1⟩ := Sh.bind_some h1
   refine d_call (v := (.bool q20)) go0 hb47 (laws_eqDecl_ok gq20) rfl rfl rfl ?_
   refine yq tb rfl ?_
   refine d_done (hK17 _ ?_)
   refine ci h1 rfl ?_ ?_ <;> clear h1
   ·intro b21 h1
    have b22 : q20 = false := by simpa using b21
    refine zr tb rfl rfl ?_
    replace h1 := Sh.some_eq h1
    subst o11
    try dsimp only [id] at h0
    replace h0 := Sh.some_eq h0
    subst r
    exact AW.ret (xr (Wk.to (L := [(4, (.bool false))]) ⟨.rfl, trivial⟩))
   ·intro b21 h1
    have b24 : q20 = true := by simpa using b21
    refine AW.skip (hK16 _ ?_)
    refine AW.regionO (by rfl) ?_
    refine zm tb 3 rfl ?_
    exact AO.done (xi (Sh.w (i10 + 1)) h1 (Wk.tr rfl))
  ·intro b15 h1
   exact AW.exit (M11 () (Sh.some_eq h1).symm _ (Wk.tr rfl))
theorem laws_eqExprS_ok {N : Nat} {rec_laws_eqExpr : RExpr → RExpr → Option (Bool)} (hrec_laws_eqExpr : ∀ {p0 : RExpr} {p1 : RExpr} {r : Bool}, rec_laws_eqExpr p0 p1 = some r → ACalls Try.prog 82 [(.agg [(i64 p0.op), (i64 p0.num), (ls eRExpr p0.kids)]), (.agg [(i64 p1.op), (i64 p1.num), (ls eRExpr p1.kids)])] [] (fun v st => v = (.bool r) ∧ st = [])) {p0 : (List RExpr)} {p1 : (List RExpr)} {r : Bool} (h0 : laws_eqExprS N rec_laws_eqExpr p0 p1 = some r) : ACalls Try.prog 106 [(ls eRExpr p0), (ls eRExpr p1)] [] (fun v st => v = (.bool r) ∧ st = []) := by
 unfold laws_eqExprS at h0
 refine ai Try.func106 rfl rfl rfl rfl ?_
 refine zr tb rfl rfl ?_
 refine AW.seq fun K2 hK2 => ?_
 refine sr rfl fun K3 hK3 => ?_
 refine zq tb rfl ?_
 refine zl tb rfl rfl ?_
 refine zq tb rfl ?_
 refine zl tb rfl rfl ?_
 refine zq tb rfl ?_
 refine dn hK3 rfl ?_
 refine ci h0 rfl ?_ ?_ <;> clear h0
 ·intro b4 h0
  have b5 : decide ((Sh.len p0) = (Sh.len p1)) = false := by simpa using b4
  refine zr tb rfl rfl ?_
  replace h0 := Sh.some_eq h0
  subst r
  exact AW.ret (xr (Wk.to (L := [(4, (.bool false))]) ⟨.rfl, trivial⟩))
 ·intro b4 h0
  have b7 : decide ((Sh.len p0) = (Sh.len p1)) = true := by simpa using b4
  refine AW.skip (hK2 _ ?_)
  refine AW.seq fun K8 hK8 => ?_
  refine zr tb rfl rfl ?_
  obtain ⟨o11, h1, h0⟩ := Sh.cont_some h0
  have M11 : ∀ (_ : Unit), o11 = Sum.inr () → ∀ s, Wk 0 s ⟨27, envL [], []⟩ → K8 s := by
   intro _ hq s hw
   subst o11
   try dsimp only at h0
   refine hK8 _ (AW.weaken hw ?_)
   refine zr tb rfl rfl ?_
   replace h0 := Sh.some_eq h0
   subst r
   exact AW.ret (xr (Wk.to (L := [(4, (.bool true))]) ⟨.rfl, trivial⟩))
  refine AW.block (AW.loopF (σ := Int) (fun n v => laws_eqExprS_L1 p0 p1 rec_laws_eqExpr n v = some o11) (fun i10 => ⟨27, envL [(0, (ls eRExpr p0)), (1, (ls eRExpr p1)), (5, (i64 i10))], []⟩) N 0 h1 (Wk.tr rfl) (fun _ hv => by rw [laws_eqExprS_L1] at hv; cases hv) ?_)
  rintro n i10 h1
  try dsimp only at h1 ⊢
  rw [laws_eqExprS_L1] at h1
  refine AW.seq fun K13 hK13 => ?_
  refine sr rfl fun K14 hK14 => ?_
  refine zm tb 2 rfl ?_
  refine zl tb rfl rfl ?_
  refine zq tb rfl ?_
  refine dn hK14 rfl ?_
  refine ci h1 rfl ?_ ?_ <;> clear h1
  ·intro b15 h1
   refine AW.skip (hK13 _ ?_)
   refine AW.seq fun K16 hK16 => ?_
   refine AW.block ?_
   refine AW.seq fun K17 hK17 => ?_
   refine AW.draw (by kernel_rfl) (by kernel_rfl) (by rfl) ?_
   iterate 2 refine yq tb rfl ?_
   obtain ⟨c18, gc18, h1⟩ := Sh.bind_some h1
   refine yz (.iptr [(i64 c18.op), (i64 c18.num), (ls eRExpr c18.kids)] 0) (aq_ixsE ei48 rfl rfl gc18 (eRExpr_eq _) rfl) rfl ?_
   iterate 3 refine yq tb rfl ?_
   obtain ⟨c19, gc19, h1⟩ := Sh.bind_some h1
   refine yz (.iptr [(i64 c19.op), (i64 c19.num), (ls eRExpr c19.kids)] 0) (aq_ixsE ei48 rfl rfl gc19 (eRExpr_eq _) rfl) rfl ?_
   refine yq tb rfl ?_
   obtain ⟨q20, gq20, h1⟩ := Sh.bind_some h1
   refine d_call (v := (.bool q20)) go0 hb82 (hrec_laws_eqExpr gq20) rfl rfl rfl ?_
   refine yq tb rfl ?_
   refine d_done (hK17 _ ?_)
   refine ci h1 rfl ?_ ?_ <;> clear h1
   ·intro b21 h1
    have b22 : q20 = false := by simpa using b21
    refine zr tb rfl rfl ?_
    replace h1 := Sh.some_eq h1
    subst o11
    try dsimp only [id] at h0
    replace h0 := Sh.some_eq h0
    subst r
    exact AW.ret (xr (Wk.to (L := [(4, (.bool false))]) ⟨.rfl, trivial⟩))
   ·intro b21 h1
    have b24 : q20 = true := by simpa using b21
    refine AW.skip (hK16 _ ?_)
    refine AW.regionO (by rfl) ?_
    refine zm tb 3 rfl ?_
    exact AO.done (xi (Sh.w (i10 + 1)) h1 (Wk.tr rfl))
  ·intro b15 h1
   exact AW.exit (M11 () (Sh.some_eq h1).symm _ (Wk.tr rfl))
theorem laws_eqExpr_B_ok {N : Nat} {rec_laws_eqExpr : RExpr → RExpr → Option (Bool)} (hrec_laws_eqExpr : ∀ {p0 : RExpr} {p1 : RExpr} {r : Bool}, rec_laws_eqExpr p0 p1 = some r → ACalls Try.prog 82 [(.agg [(i64 p0.op), (i64 p0.num), (ls eRExpr p0.kids)]), (.agg [(i64 p1.op), (i64 p1.num), (ls eRExpr p1.kids)])] [] (fun v st => v = (.bool r) ∧ st = [])) {p0 : RExpr} {p1 : RExpr} {r : Bool} (h0 : laws_eqExpr_B N rec_laws_eqExpr p0 p1 = some r) : ACalls Try.prog 82 [(.agg [(i64 p0.op), (i64 p0.num), (ls eRExpr p0.kids)]), (.agg [(i64 p1.op), (i64 p1.num), (ls eRExpr p1.kids)])] [] (fun v st => v = (.bool r) ∧ st = []) := by
 unfold laws_eqExpr_B at h0
 refine ai Try.func82 rfl rfl rfl rfl ?_
 refine sr rfl fun K1 hK1 => ?_
 refine ao_box (m := 0) (st' := [⟨0, 50, 3, [[(i64 p0.op), (i64 p0.num), (ls eRExpr p0.kids)]]⟩]) go0 rfl rfl rfl rfl rfl ?_
 refine ao_box (m := 1) (st' := [⟨0, 50, 3, [[(i64 p0.op), (i64 p0.num), (ls eRExpr p0.kids)]]⟩, ⟨0, 50, 3, [[(i64 p1.op), (i64 p1.num), (ls eRExpr p1.kids)]]⟩]) go0 rfl rfl rfl rfl rfl ?_
 refine zq tb rfl ?_
 refine dn hK1 rfl ?_
 refine AW.seq fun K2 hK2 => ?_
 refine zr tb rfl rfl ?_
 refine ci h0 rfl ?_ ?_ <;> clear h0
 ·intro b4 h0
  have b5 : decide (p0.op = p1.op) = false := by simpa using b4
  refine zr tb rfl rfl ?_
  replace h0 := Sh.some_eq h0
  subst r
  exact AW.ret (xr (Wk.d0 [(4, (.bool false))] rfl))
 ·intro b4 h0
  have b7 : decide (p0.op = p1.op) = true := by simpa using b4
  refine AW.skip (hK2 _ ?_)
  refine AW.seq fun K8 hK8 => ?_
  refine zr tb rfl rfl ?_
  refine ci h0 rfl ?_ ?_ <;> clear h0
  ·intro b10 h0
   have b11 : decide (p0.num = p1.num) = false := by simpa using b10
   refine zr tb rfl rfl ?_
   replace h0 := Sh.some_eq h0
   subst r
   exact AW.ret (xr (Wk.d0 [(4, (.bool false))] rfl))
  ·intro b10 h0
   have b13 : decide (p0.num = p1.num) = true := by simpa using b10
   refine AW.skip (hK8 _ ?_)
   refine AW.seq fun K14 hK14 => ?_
   refine sr rfl fun K15 hK15 => ?_
   refine zm tb 4 rfl ?_
   obtain ⟨q16, gq16, h0⟩ := Sh.bind_some h0
   refine zc hb106 (laws_eqExprS_ok hrec_laws_eqExpr gq16) rfl rfl rfl ?_
   refine zq tb rfl ?_
   refine dn hK15 rfl ?_
   refine ci h0 rfl ?_ ?_ <;> clear h0
   ·intro b17 h0
    have b18 : q16 = false := by simpa using b17
    refine zr tb rfl rfl ?_
    replace h0 := Sh.some_eq h0
    subst r
    exact AW.ret (xr (Wk.d0 [(4, (.bool false))] rfl))
   ·intro b17 h0
    have b20 : q16 = true := by simpa using b17
    refine AW.skip (hK14 _ ?_)
    refine zr tb rfl rfl ?_
    replace h0 := Sh.some_eq h0
    subst r
    exact AW.ret (xr (Wk.d0 [(4, (.bool true))] rfl))

theorem laws_eqExpr_F_ok {N : Nat} : ∀ (n : Nat), ∀ {p0 : RExpr} {p1 : RExpr} {r : Bool}, laws_eqExpr_F N n p0 p1 = some r → ACalls Try.prog 82 [(.agg [(i64 p0.op), (i64 p0.num), (ls eRExpr p0.kids)]), (.agg [(i64 p1.op), (i64 p1.num), (ls eRExpr p1.kids)])] [] (fun v st => v = (.bool r) ∧ st = []) := by
 intro n
 induction n with
 | zero => intro p0 p1 r h0; cases h0
 | succ n ih =>
  intro p0 p1 r h0
  rw [laws_eqExpr_F] at h0
  exact laws_eqExpr_B_ok (fun h => ih h) h0
theorem laws_eqExpr_ok {N : Nat} : ∀ {p0 : RExpr} {p1 : RExpr} {r : Bool}, laws_eqExpr N p0 p1 = some r → ACalls Try.prog 82 [(.agg [(i64 p0.op), (i64 p0.num), (ls eRExpr p0.kids)]), (.agg [(i64 p1.op), (i64 p1.num), (ls eRExpr p1.kids)])] [] (fun v st => v = (.bool r) ∧ st = []) := by
 intro p0 p1 r h0
 exact laws_eqExpr_F_ok N h0
theorem laws_eqFunc_ok {N : Nat} {p0 : RFunc} {p1 : RFunc} {r : Bool} (h0 : laws_eqFunc N p0 p1 = some r) : ACalls Try.prog 48 [(.agg [(ls eI p0.params), (i64 p0.result), (i64 p0.body.op), (i64 p0.body.num), (ls eRExpr p0.body.kids)]), (.agg [(ls eI p1.params), (i64 p1.result), (i64 p1.body.op), (i64 p1.body.num), (ls eRExpr p1.body.kids)])] [] (fun v st => v = (.bool r) ∧ st = []) := by
 unfold laws_eqFunc at h0
 refine ai Try.func48 rfl rfl rfl rfl ?_
 refine sr rfl fun K1 hK1 => ?_
 refine ao_box (m := 0) (st' := [⟨0, 52, 5, [[(ls eI p0.params), (i64 p0.result), (i64 p0.body.op), (i64 p0.body.num), (ls eRExpr p0.body.kids)]]⟩]) go0 rfl rfl rfl rfl rfl ?_
 refine ao_box (m := 1) (st' := [⟨0, 52, 5, [[(ls eI p0.params), (i64 p0.result), (i64 p0.body.op), (i64 p0.body.num), (ls eRExpr p0.body.kids)]]⟩, ⟨0, 52, 5, [[(ls eI p1.params), (i64 p1.result), (i64 p1.body.op), (i64 p1.body.num), (ls eRExpr p1.body.kids)]]⟩]) go0 rfl rfl rfl rfl rfl ?_
 refine zq tb rfl ?_
 refine dn hK1 rfl ?_
 refine AW.seq fun K2 hK2 => ?_
 refine sr rfl fun K3 hK3 => ?_
 refine zm tb 4 rfl ?_
 obtain ⟨q4, gq4, h0⟩ := Sh.bind_some h0
 refine zc hb81 (laws_eqIntS_ok gq4) rfl rfl rfl ?_
 refine zq tb rfl ?_
 refine dn hK3 rfl ?_
 refine ci h0 rfl ?_ ?_ <;> clear h0
 ·intro b5 h0
  have b6 : q4 = false := by simpa using b5
  refine zr tb rfl rfl ?_
  replace h0 := Sh.some_eq h0
  subst r
  exact AW.ret (xr (Wk.d0 [(4, (.bool false))] rfl))
 ·intro b5 h0
  have b8 : q4 = true := by simpa using b5
  refine AW.skip (hK2 _ ?_)
  refine AW.seq fun K9 hK9 => ?_
  refine zr tb rfl rfl ?_
  refine ci h0 rfl ?_ ?_ <;> clear h0
  ·intro b11 h0
   have b12 : decide (p0.result = p1.result) = false := by simpa using b11
   refine zr tb rfl rfl ?_
   replace h0 := Sh.some_eq h0
   subst r
   exact AW.ret (xr (Wk.d0 [(4, (.bool false))] rfl))
  ·intro b11 h0
   have b14 : decide (p0.result = p1.result) = true := by simpa using b11
   refine AW.skip (hK9 _ ?_)
   refine AW.seq fun K15 hK15 => ?_
   refine sr rfl fun K16 hK16 => ?_
   refine zm tb 4 rfl ?_
   obtain ⟨q17, gq17, h0⟩ := Sh.bind_some h0
   refine zc hb82 (laws_eqExpr_ok gq17) rfl rfl rfl ?_
   refine zq tb rfl ?_
   refine dn hK16 rfl ?_
   refine ci h0 rfl ?_ ?_ <;> clear h0
   ·intro b18 h0
    have b19 : q17 = false := by simpa using b18
    refine zr tb rfl rfl ?_
    replace h0 := Sh.some_eq h0
    subst r
    exact AW.ret (xr (Wk.d0 [(4, (.bool false))] rfl))
   ·intro b18 h0
    have b21 : q17 = true := by simpa using b18
    refine AW.skip (hK15 _ ?_)
    refine zr tb rfl rfl ?_
    replace h0 := Sh.some_eq h0
    subst r
    exact AW.ret (xr (Wk.d0 [(4, (.bool true))] rfl))
theorem laws_eqFuncS_ok {N : Nat} {p0 : (List RFunc)} {p1 : (List RFunc)} {r : Bool} (h0 : laws_eqFuncS N p0 p1 = some r) : ACalls Try.prog 30 [(ls eRFunc p0), (ls eRFunc p1)] [] (fun v st => v = (.bool r) ∧ st = []) := by
 unfold laws_eqFuncS at h0
 refine ai Try.func30 rfl rfl rfl rfl ?_
 refine zr tb rfl rfl ?_
 refine AW.seq fun K2 hK2 => ?_
 refine sr rfl fun K3 hK3 => ?_
 refine zq tb rfl ?_
 refine zl tb rfl rfl ?_
 refine zq tb rfl ?_
 refine zl tb rfl rfl ?_
 refine zq tb rfl ?_
 refine dn hK3 rfl ?_
 refine ci h0 rfl ?_ ?_ <;> clear h0
 ·intro b4 h0
  have b5 : decide ((Sh.len p0) = (Sh.len p1)) = false := by simpa using b4
  refine zr tb rfl rfl ?_
  replace h0 := Sh.some_eq h0
  subst r
  exact AW.ret (xr (Wk.to (L := [(4, (.bool false))]) ⟨.rfl, trivial⟩))
 ·intro b4 h0
  have b7 : decide ((Sh.len p0) = (Sh.len p1)) = true := by simpa using b4
  refine AW.skip (hK2 _ ?_)
  refine AW.seq fun K8 hK8 => ?_
  refine zr tb rfl rfl ?_
  obtain ⟨o11, h1, h0⟩ := Sh.cont_some h0
  have M11 : ∀ (_ : Unit), o11 = Sum.inr () → ∀ s, Wk 0 s ⟨27, envL [], []⟩ → K8 s := by
   intro _ hq s hw
   subst o11
   try dsimp only at h0
   refine hK8 _ (AW.weaken hw ?_)
   refine zr tb rfl rfl ?_
   replace h0 := Sh.some_eq h0
   subst r
   exact AW.ret (xr (Wk.to (L := [(4, (.bool true))]) ⟨.rfl, trivial⟩))
  refine AW.block (AW.loopF (σ := Int) (fun n v => laws_eqFuncS_L1 N p0 p1 n v = some o11) (fun i10 => ⟨27, envL [(0, (ls eRFunc p0)), (1, (ls eRFunc p1)), (5, (i64 i10))], []⟩) N 0 h1 (Wk.tr rfl) (fun _ hv => by rw [laws_eqFuncS_L1] at hv; cases hv) ?_)
  rintro n i10 h1
  try dsimp only at h1 ⊢
  rw [laws_eqFuncS_L1] at h1
  refine AW.seq fun K13 hK13 => ?_
  refine sr rfl fun K14 hK14 => ?_
  refine zm tb 2 rfl ?_
  refine zl tb rfl rfl ?_
  refine zq tb rfl ?_
  refine dn hK14 rfl ?_
  refine ci h1 rfl ?_ ?_ <;> clear h1
  ·intro b15 h1
   refine AW.skip (hK13 _ ?_)
   refine AW.seq fun K16 hK16 => ?_
   refine AW.block ?_
   refine AW.seq fun K17 hK17 => ?_
   refine AW.draw (by kernel_rfl) (by kernel_rfl) (by rfl) ?_
   iterate 2 refine yq tb rfl ?_
   obtain ⟨c18, gc18, h1⟩ := Sh.bind_some h1
   refine yx ei29 gc18 rfl rfl rfl ?_
   iterate 3 refine yq tb rfl ?_
   obtain ⟨c19, gc19, h1⟩ := Sh.bind_some h1
   refine yx ei29 gc19 rfl rfl rfl ?_
   refine yq tb rfl ?_
   obtain ⟨q20, gq20, h1⟩ := Sh.bind_some h1
   refine d_call (v := (.bool q20)) go0 hb48 (laws_eqFunc_ok gq20) rfl rfl rfl ?_
   refine yq tb rfl ?_
   refine d_done (hK17 _ ?_)
   refine ci h1 rfl ?_ ?_ <;> clear h1
   ·intro b21 h1
    have b22 : q20 = false := by simpa using b21
    refine zr tb rfl rfl ?_
    replace h1 := Sh.some_eq h1
    subst o11
    try dsimp only [id] at h0
    replace h0 := Sh.some_eq h0
    subst r
    exact AW.ret (xr (Wk.to (L := [(4, (.bool false))]) ⟨.rfl, trivial⟩))
   ·intro b21 h1
    have b24 : q20 = true := by simpa using b21
    refine AW.skip (hK16 _ ?_)
    refine AW.regionO (by rfl) ?_
    refine zm tb 3 rfl ?_
    exact AO.done (xi (Sh.w (i10 + 1)) h1 (Wk.tr rfl))
  ·intro b15 h1
   exact AW.exit (M11 () (Sh.some_eq h1).symm _ (Wk.tr rfl))
theorem laws_eqProgram_ok {N : Nat} {p0 : RProgram} {p1 : RProgram} {r : Bool} (h0 : laws_eqProgram N p0 p1 = some r) : ACalls Try.prog 11 [(.agg [(ls eRDecl p0.decls), (ls eRFunc p0.funcs)]), (.agg [(ls eRDecl p1.decls), (ls eRFunc p1.funcs)])] [] (fun v st => v = (.bool r) ∧ st = []) := by
 unfold laws_eqProgram at h0
 refine ai Try.func11 rfl rfl rfl rfl ?_
 refine sr rfl fun K1 hK1 => ?_
 refine ao_box (m := 0) (st' := [⟨0, 31, 2, [[(ls eRDecl p0.decls), (ls eRFunc p0.funcs)]]⟩]) go0 rfl rfl rfl rfl rfl ?_
 refine ao_box (m := 1) (st' := [⟨0, 31, 2, [[(ls eRDecl p0.decls), (ls eRFunc p0.funcs)]]⟩, ⟨0, 31, 2, [[(ls eRDecl p1.decls), (ls eRFunc p1.funcs)]]⟩]) go0 rfl rfl rfl rfl rfl ?_
 refine zq tb rfl ?_
 refine dn hK1 rfl ?_
 refine AW.seq fun K2 hK2 => ?_
 refine sr rfl fun K3 hK3 => ?_
 refine zm tb 4 rfl ?_
 obtain ⟨q4, gq4, h0⟩ := Sh.bind_some h0
 refine zc hb29 (laws_eqDeclS_ok gq4) rfl rfl rfl ?_
 refine zq tb rfl ?_
 refine dn hK3 rfl ?_
 refine ci h0 rfl ?_ ?_ <;> clear h0
 ·intro b5 h0
  have b6 : q4 = false := by simpa using b5
  refine zr tb rfl rfl ?_
  replace h0 := Sh.some_eq h0
  subst r
  exact AW.ret (xr (Wk.d0 [(4, (.bool false))] rfl))
 ·intro b5 h0
  have b8 : q4 = true := by simpa using b5
  refine AW.skip (hK2 _ ?_)
  refine AW.seq fun K9 hK9 => ?_
  refine sr rfl fun K10 hK10 => ?_
  refine zm tb 4 rfl ?_
  obtain ⟨q11, gq11, h0⟩ := Sh.bind_some h0
  refine zc hb30 (laws_eqFuncS_ok gq11) rfl rfl rfl ?_
  refine zq tb rfl ?_
  refine dn hK10 rfl ?_
  refine ci h0 rfl ?_ ?_ <;> clear h0
  ·intro b12 h0
   have b13 : q11 = false := by simpa using b12
   refine zr tb rfl rfl ?_
   replace h0 := Sh.some_eq h0
   subst r
   exact AW.ret (xr (Wk.d0 [(4, (.bool false))] rfl))
  ·intro b12 h0
   have b15 : q11 = true := by simpa using b12
   refine AW.skip (hK9 _ ?_)
   refine zr tb rfl rfl ?_
   replace h0 := Sh.some_eq h0
   subst r
   exact AW.ret (xr (Wk.d0 [(4, (.bool true))] rfl))
theorem laws_FnExactMayInline_ok {N : Nat} {p0 : RProgram} {p1 : Int} {r : Bool} (h0 : laws_FnExactMayInline N p0 p1 = some r) : ACalls Try.prog 4 [(.agg [(ls eRDecl p0.decls), (ls eRFunc p0.funcs)]), (i64 p1)] [] (fun v st => v = (.bool r) ∧ st = []) := by
 unfold laws_FnExactMayInline at h0
 refine ai Try.func4 rfl rfl rfl rfl ?_
 refine sr rfl fun K1 hK1 => ?_
 refine ao_box (m := 0) (st' := [⟨0, 25, 2, [[(ls eRDecl p0.decls), (ls eRFunc p0.funcs)]]⟩]) go0 rfl rfl rfl rfl rfl ?_
 refine zq tb rfl ?_
 refine dn hK1 rfl ?_
 refine zr tb rfl rfl ?_
 refine sr rfl fun K3 hK3 => ?_
 refine zm tb 2 rfl ?_
 obtain ⟨q4, gq4, h0⟩ := Sh.bind_some h0
 refine zc hb7 (laws_szProgram_ok gq4) rfl rfl rfl ?_
 refine zq tb rfl ?_
 refine dn hK3 rfl ?_
 refine AW.seq fun K5 hK5 => ?_
 refine zr tb rfl rfl ?_
 refine ci h0 rfl ?_ ?_ <;> clear h0
 ·intro b7 h0
  refine zr tb rfl rfl ?_
  replace h0 := Sh.some_eq h0
  subst r
  exact AW.ret (xr (Wk.d0 [(4, (.bool true))] rfl))
 ·intro b7 h0
  refine AW.skip (hK5 _ ?_)
  refine sr rfl fun K9 hK9 => ?_
  refine zq tb rfl ?_
  obtain ⟨q10, gq10, h0⟩ := Sh.bind_some h0
  refine zc (v' := (.agg [(ls eRDecl q10.decls), (ls eRFunc q10.funcs)])) hb9 (laws_toProgram_ok gq10) rfl rfl rfl ?_
  refine zq tb rfl ?_
  obtain ⟨q11, gq11, h0⟩ := Sh.bind_some h0
  refine zc hb12 (spec_MayInline_ok gq11) rfl rfl rfl ?_
  refine zq tb rfl ?_
  refine dn hK9 rfl ?_
  refine sr rfl fun K12 hK12 => ?_
  refine zq tb rfl ?_
  obtain ⟨q13, gq13, h0⟩ := Sh.bind_some h0
  refine zc (v' := (.agg [(ls eRDecl q13.decls), (ls eRFunc q13.funcs)])) hb9 (laws_toProgram_ok gq13) rfl rfl rfl ?_
  refine ao_alloc (m := 1) (st' := [⟨0, 25, 2, [[(ls eRDecl p0.decls), (ls eRFunc p0.funcs)]]⟩, ⟨0, 31, 2, [[.zc, .zc]]⟩]) go0 zi31 rfl rfl ?_
  refine ao_str (st' := [⟨0, 25, 2, [[(ls eRDecl p0.decls), (ls eRFunc p0.funcs)]]⟩, ⟨0, 31, 2, [[(ls eRDecl q13.decls), (ls eRFunc q13.funcs)]]⟩]) go0 ti31 rfl rfl rfl rfl rfl rfl (show 0 + 2 ≤ 2 by decide) rfl ?_
  refine dn hK12 rfl ?_
  refine sr rfl fun K14 hK14 => ?_
  refine zm tb 2 rfl ?_
  obtain ⟨q15, gq15, h0⟩ := Sh.bind_some h0
  refine zc hb13 (impl_MayInline_ok gq15) rfl rfl rfl ?_
  refine zq tb rfl ?_
  refine dn hK14 rfl ?_
  refine AW.seq fun K16 hK16 => ?_
  refine zr tb rfl rfl ?_
  refine ci h0 rfl ?_ ?_ <;> clear h0
  ·intro b18 h0
   refine zr tb rfl rfl ?_
   replace h0 := Sh.some_eq h0
   subst r
   exact AW.ret (xr (Wk.d0 [(4, (.bool false))] rfl))
  ·intro b18 h0
   refine AW.skip (hK16 _ ?_)
   refine AW.seq fun K20 hK20 => ?_
   refine AW.seq fun K21 hK21 => ?_
   refine AW.draw (by kernel_rfl) (by kernel_rfl) (by rfl) ?_
   iterate 2 refine yq tb rfl ?_
   obtain ⟨q22, gq22, h0⟩ := Sh.bind_some h0
   refine d_call (v := (.agg [(ls eRDecl q22.decls), (ls eRFunc q22.funcs)])) go0 hb9 (laws_toProgram_ok gq22) rfl rfl rfl ?_
   obtain ⟨q23, gq23, h0⟩ := Sh.bind_some h0
   refine d_call (v := (.bool q23)) go0 hb11 (laws_eqProgram_ok gq23) rfl rfl rfl ?_
   refine yq tb rfl ?_
   refine d_done (hK21 _ ?_)
   refine ci h0 rfl ?_ ?_ <;> clear h0
   ·intro b24 h0
    have b25 : q23 = false := by simpa using b24
    refine zr tb rfl rfl ?_
    replace h0 := Sh.some_eq h0
    subst r
    exact AW.ret (xr (Wk.d0 [(4, (.bool false))] rfl))
   ·intro b24 h0
    have b27 : q23 = true := by simpa using b24
    refine AW.skip (hK20 _ ?_)
    refine zr tb rfl rfl ?_
    replace h0 := Sh.some_eq h0
    subst r
    exact AW.ret (xr (Wk.d0 [(4, (.bool true))] rfl))
end Go.Proofs.Ytpahalfiiahddaa

