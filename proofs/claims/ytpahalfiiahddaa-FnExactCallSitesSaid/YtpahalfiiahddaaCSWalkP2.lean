import Derived.Test.YtpahalfiiahddaaProg
import Derived.Test.YtpahalfiiahddaaCSDefs
import Derived.Test.YtpahalfiiahddaaCSWalkP1
namespace Go.Proofs.Ytpahalfiiahddaa
open Go Go.Abs RC
attribute [local irreducible] Go.Abs.dops
set_option maxRecDepth 100000
set_option maxHeartbeats 4000000

theorem hb121 : hasBody Try.prog 121 = true := by kernel_rfl
theorem hb122 : hasBody Try.prog 122 = true := by kernel_rfl
theorem hb123 : hasBody Try.prog 123 = true := by kernel_rfl

theorem impl_signatures_simpleType_ok {N : Nat} {p0 : RSignatures} {p1 : Int} {p2 : Int} {p3 : (List Int)} {r : Int × Bool} (h0 : impl_signatures_simpleType N p0 p1 p2 p3 = some r) : ACalls Try.prog 95 [(.agg (eRSignatures p0)), (i64 p1), (i64 p2), (ls eI p3)] [] (fun v st => v = (.tup [(i64 r.1), (.bool r.2)]) ∧ st = []) := by
 unfold impl_signatures_simpleType at h0
 refine ai Try.func95 rfl rfl rfl rfl (sr rfl fun K1 hK1 => ao_box (m := 0) (st' := [⟨0, 97, 2, [(eRSignatures p0)]⟩]) go0 rfl rfl rfl rfl rfl (zm tb 2 rfl (dn hK1 rfl (zr tb rfl rfl (AW.seq fun K3 hK3 => ?_)))))
 obtain ⟨o5, h1, h0⟩ := Sh.cont_some h0
 have M5 : ∀ (l4 : (List Int)), o5 = Sum.inr l4 → ∀ s, Wk 0 s ⟨149, envL [(2, (i64 p2)), (3, (ls eI p3)), (10, (ow 0 0 l4)), (11, (i64 0))], [(ro 0 3 1 eI l4)]⟩ → K3 s := by
  intro l4 hq s hw
  subst o5
  try dsimp only at h0
  refine hK3 _ (AW.weaken hw (AW.seq fun K6 hK6 => bs h0 fun o8 h1 h0 => ?_))
  have M8 : ∀ (t7 : Bool), o8 = t7 → ∀ s, Wk 0 s ⟨149, envL [(8, (i64 0)), (9, (.bool t7))], []⟩ → K6 s := by
   intro t7 hq s hw
   subst o8
   try dsimp only at h0
   refine hK6 _ (AW.weaken hw ?_)
   replace h0 := Sh.some_eq h0
   subst r
   exact AW.ret (xr (Wk.to (L := [(8, (i64 0)), (9, (.bool t7))]) ⟨.rfl, .rfl, trivial⟩))
  refine AW.regionO rfl (zm tb 4 rfl ?_)
  rcases Sh.ite_some h1 with ⟨b9, h1⟩ | ⟨b9, h1⟩
  ·exact zg tb b9 rfl (zg tb b9 rfl (AO.weaken (Wk.frz (L := [(141, (i64 0)), (144, (.bool (decide (p2 = 0)))), (145, (ls eI p3)), (146, (ls eI l4))]) (st' := [⟨1, 3, 1, []⟩]) (id := 0) rfl (show 0 ≤ 0 by decide) (pure_map fun _ => rfl) ⟨.rfl, .rfl, .rfl, (.frz rfl), trivial⟩ rfl) (bs h1 fun q10 gq10 h1 => zd b9 hb122 (slices_Equal_int_int_ok gq10) rfl rfl rfl rfl (zt b9 rfl (zm tb 2 rfl (AO.done (M8 q10 (Sh.some_eq h1).symm _ (Wk.d0 _ rfl))))))))
  ·exact zs b9 rfl (zs b9 rfl (zs b9 rfl (zf b9 rfl (zm tb 2 rfl (AO.done (M8 false (Sh.some_eq h1).symm _ (Wk.d0 _ rfl)))))))
 refine zr tb rfl rfl (AW.block (zr tb rfl rfl ?_))
 refine ci h1 rfl ?_ ?_ <;> clear h1
 ·intro b13 h1
  refine AW.seq fun K14 hK14 => bs h1 fun o16 h2 h1 => ?_
  have M16 : ∀ (t15 : Bool), o16 = t15 → ∀ s, Wk 0 s ⟨149, envL [(8, (i64 0)), (9, (.bool t15))], []⟩ → K14 s := by
   intro t15 hq s hw
   subst o16
   try dsimp only at h1
   refine hK14 _ (AW.weaken hw ?_)
   replace h1 := Sh.some_eq h1
   subst o5
   try dsimp only [id] at h0
   replace h0 := Sh.some_eq h0
   subst r
   exact AW.ret (xr (Wk.to (L := [(8, (i64 0)), (9, (.bool t15))]) ⟨.rfl, .rfl, trivial⟩))
  refine AW.regionO rfl (zm tb 3 rfl ?_)
  rcases Sh.ite_some h2 with ⟨b17, h2⟩ | ⟨b17, h2⟩
  ·refine zg tb b17 rfl (zg tb b17 rfl (zt b17 rfl (zq tb rfl ?_)))
   rcases Sh.ite_some h2 with ⟨b18, h2⟩ | ⟨b18, h2⟩
   ·exact zg tb b18 rfl (ao_q (v := (i64 (Sh.len p3))) (go1 rfl rfl b18) rfl (aq_lens sl40 rfl) (zg tb b18 rfl (zt b18 rfl (zm tb 2 rfl (AO.done (M16 (decide ((Sh.len p3) = 0)) (Sh.some_eq h2).symm _ (Wk.d0 _ rfl)))))))
   ·exact zs b18 rfl (zs b18 rfl (zs b18 rfl (zf b18 rfl (zm tb 2 rfl (AO.done (M16 false (Sh.some_eq h2).symm _ (Wk.d0 _ rfl)))))))
  ·refine zs b17 rfl (zs b17 rfl (zf b17 rfl (zq tb rfl ?_)))
   iterate 3 refine zs rfl rfl ?_
   exact zf rfl rfl (zm tb 2 rfl (AO.done (M16 false (Sh.some_eq h2).symm _ (Wk.d0 _ rfl))))
 ·intro b13 h1
  refine AW.seq fun K19 hK19 => bs h1 fun o21 h2 h1 => ?_
  have M21 : ∀ (t20 : Bool), o21 = t20 → ∀ s, Wk 0 s ⟨149, envL [(1, (i64 p1)), (2, (i64 p2)), (3, (ls eI p3)), (4, (.ptr 0 0 0 0)), (11, (i64 0)), (18, (i64 p1)), (32, (.bool t20))], [⟨0, 97, 2, [(eRSignatures p0)]⟩]⟩ → K19 s := by
   intro t20 hq s hw
   subst o21
   try dsimp only at h1
   refine hK19 _ (AW.weaken hw ?_)
   refine ci h1 rfl ?_ ?_ <;> clear h1
   ·intro b22 h1
    refine AW.regionO rfl ?_
    refine ao_bs (m := 1) (st' := [⟨0, 97, 2, [(eRSignatures p0)]⟩, (ro 0 3 1 eI [(0 : Int), 0])]) (l := [(0 : Int), 0]) (enc := eI) go0 ei40 (by decide) rfl rfl rfl rfl rfl rfl ?_
    refine zq tb rfl ?_
    exact AO.done (M5 [(0 : Int), 0] (Sh.some_eq h1).symm _ (Wk.permk (L := [(2, (i64 p2)), (3, (ls eI p3)), (10, (ow 0 0 [(0 : Int), 0])), (11, (i64 0))]) (st' := [(ro 0 3 1 eI [(0 : Int), 0])]) (st1 := [(ro 0 3 1 eI [(0 : Int), 0])]) [1] rfl .nil (by decide) rfl rfl (.pure (pure_map fun _ => rfl) .nil) ⟨.rfl, .rfl, .rfl, .rfl, trivial⟩))
   ·intro b22 h1
    refine zr tb rfl rfl ?_
    refine ci h1 rfl ?_ ?_ <;> clear h1
    ·intro b24 h1
     refine AW.regionO rfl ?_
     refine ao_bs (m := 1) (st' := [⟨0, 97, 2, [(eRSignatures p0)]⟩, (ro 0 3 1 eI [(0 : Int)])]) (l := [(0 : Int)]) (enc := eI) go0 ei40 (by decide) rfl rfl rfl rfl rfl rfl ?_
     refine zq tb rfl ?_
     exact AO.done (M5 [(0 : Int)] (Sh.some_eq h1).symm _ (Wk.permk (L := [(2, (i64 p2)), (3, (ls eI p3)), (10, (ow 0 0 [(0 : Int)])), (11, (i64 0))]) (st' := [(ro 0 3 1 eI [(0 : Int)])]) (st1 := [(ro 0 3 1 eI [(0 : Int)])]) [1] rfl .nil (by decide) rfl rfl (.pure (pure_map fun _ => rfl) .nil) ⟨.rfl, .rfl, .rfl, .rfl, trivial⟩))
    ·intro b24 h1
     refine zr tb rfl rfl ?_
     refine ci h1 rfl ?_ ?_ <;> clear h1
     ·intro b26 h1
      refine AW.seq fun K27 hK27 => sr rfl fun K28 hK28 => zq tb rfl (zl tb rfl rfl (zq tb rfl (dn hK28 rfl ?_)))
      refine ci h1 rfl ?_ ?_ <;> clear h1
      ·intro b29 h1
       have b30 : decide ((Sh.len p3) = 2) = false := by simpa using b29
       refine zr tb rfl rfl ?_
       replace h1 := Sh.some_eq h1
       subst o5
       try dsimp only [id] at h0
       replace h0 := Sh.some_eq h0
       subst r
       exact AW.ret (xr (Wk.d0 [(8, (i64 (-1))), (9, (.bool false))] rfl))
      ·intro b29 h1
       have b32 : decide ((Sh.len p3) = 2) = true := by simpa using b29
       refine AW.skip (hK27 _ (AW.seq fun K33 hK33 => bs h1 fun o38 h2 h1 => ?_))
       have M38 : ∀ (ok34 : Bool) (f35 : Int) (f36 : Int) (f37 : (List RCon)), o38 = (ok34, f35, f36, f37) → ∀ s, Wk 0 s ⟨149, envL [(2, (i64 p2)), (3, (ls eI p3)), (12, (.ptr 0 0 0 0)), (13, (.bool ok34))], [⟨0, 80, 3, [[(i64 f35), (i64 f36), (ls eRCon f37)]]⟩]⟩ → K33 s := by
        intro ok34 f35 f36 f37 hq s hw
        subst o38
        try dsimp only at h1
        refine hK33 _ (AW.weaken hw (AW.seq fun K39 hK39 => bs h1 fun o41 h2 h1 => ?_))
        have M41 : ∀ (t40 : Bool), o41 = t40 → ∀ s, Wk 0 s ⟨149, envL [(8, (i64 f36)), (9, (.bool t40))], []⟩ → K39 s := by
         intro t40 hq s hw
         subst o41
         try dsimp only at h1
         refine hK39 _ (AW.weaken hw ?_)
         replace h1 := Sh.some_eq h1
         subst o5
         try dsimp only [id] at h0
         replace h0 := Sh.some_eq h0
         subst r
         exact AW.ret (xr (Wk.to (L := [(8, (i64 f36)), (9, (.bool t40))]) ⟨.rfl, .rfl, trivial⟩))
        refine AW.draw (by kernel_rfl) (by kernel_rfl) (by rfl) ?_
        iterate 4 refine yq tb rfl ?_
        rcases Sh.ite_some h2 with ⟨b42, h2⟩ | ⟨b42, h2⟩
        ·refine yg tb b42 rfl (bs h2 fun c43 gc43 h2 => d_q (v := (.iptr (eI c43) 0)) (go1 rfl rfl b42) rfl (aq_ixs ei40 rfl rfl gc43 rfl) ?_)
         iterate 4 refine yg tb b42 rfl ?_
         refine yt b42 rfl (yq tb rfl ?_)
         rcases Sh.ite_some h2 with ⟨b44, h2⟩ | ⟨b44, h2⟩
         ·refine yg tb b44 rfl (yg tb b44 rfl (yt b44 rfl ?_))
          iterate 2 refine yq tb rfl ?_
          exact d_done (M41 (decide (p2 = 0)) (Sh.some_eq h2).symm _ (Wk.d0 _ rfl))
         ·refine ys b44 rfl (ys b44 rfl (yf b44 rfl ?_))
          iterate 2 refine yq tb rfl ?_
          exact d_done (M41 false (Sh.some_eq h2).symm _ (Wk.d0 _ rfl))
        ·refine ys b42 rfl ?_
         iterate 5 refine ys b42 rfl ?_
         refine yf b42 rfl (yq tb rfl ?_)
         iterate 2 refine ys rfl rfl ?_
         refine yf rfl rfl ?_
         iterate 2 refine yq tb rfl ?_
         exact d_done (M41 false (Sh.some_eq h2).symm _ (Wk.d0 _ rfl))
       refine AW.drawX (by kernel_rfl) ?_
       refine AX.hoist 2 (v := (ls eI p3)) rfl rfl (by kernel_rfl) (by kernel_rfl) (by kernel_rfl) rfl (hoist_mv rfl) ?_
       refine AX.all [0, 3, 9] rfl (by kernel_rfl) (by decide) ⟨?_, ?_, ?_, trivial⟩
       ·refine AXs.of (i := 0) rfl rfl (by rfl) ?_
        refine zq tb rfl (AO.done ⟨rfl, ?_⟩)
        refine AX.all [1, 3, 9] rfl (by kernel_rfl) (by decide) ⟨?_, ?_, ?_, trivial⟩
        ·refine AXs.of (i := 1) rfl rfl (by rfl) ?_
         refine zq tb rfl (AO.done ⟨rfl, ?_⟩)
         refine AX.all [3, 9] rfl (by kernel_rfl) (by decide) ⟨?_, ?_, trivial⟩
         ·refine AXs.of (i := 3) rfl rfl (by rfl) ?_
          refine bs h2 fun c45 gc45 h2 => zx ei40 gc45 rfl rfl rfl (AO.done ⟨rfl, ?_⟩)
          refine AX.all [4, 9] rfl (by kernel_rfl) (by decide) ⟨?_, ?_, trivial⟩
          ·refine AXs.of (i := 4) rfl rfl (by rfl) ?_
           refine zq tb rfl (AO.done ⟨rfl, ?_⟩)
           refine AX.all [5, 9] rfl (by kernel_rfl) (by decide) ⟨?_, ?_, trivial⟩
           ·refine AXs.of (i := 5) rfl rfl (by rfl) ?_
            refine bs h2 fun q46 gq46 h2 => zc (v' := (.tup [(.agg (eRDecl q46.1)), (.bool q46.2)])) hb121 (impl_arrowAt_ok gq46) rfl rfl rfl (AO.done ⟨rfl, ?_⟩)
            refine AX.hoist 6 (v := (.tup [(.agg (eRDecl q46.1)), (.bool q46.2)])) rfl rfl (by kernel_rfl) (by kernel_rfl) (by kernel_rfl) rfl (hoist_mv rfl) ?_
            refine AX.all [7, 8, 9] rfl (by kernel_rfl) (by decide) ⟨?_, ?_, ?_, trivial⟩
            ·refine AXs.of (i := 7) rfl rfl (by rfl) ?_
             refine zq tb rfl (AO.done ⟨rfl, ?_⟩)
             refine AX.all [8, 9] rfl (by kernel_rfl) (by decide) ⟨?_, ?_, trivial⟩
             ·refine AXs.of (i := 8) rfl rfl (by rfl) ?_
              refine zq tb rfl (AO.done ⟨rfl, ?_⟩)
              refine AX.all [9] rfl (by kernel_rfl) (by decide) ⟨?_, trivial⟩
              ·refine AXs.of (i := 9) rfl rfl (by rfl) ?_
               refine ao_alloc (m := 1) (st' := [⟨0, 97, 2, [(eRSignatures p0)]⟩, ⟨0, 80, 3, [[(i64 0), (i64 0), .zc]]⟩]) go0 zi80 rfl rfl (AO.done ⟨rfl, ?_⟩)
               refine AX.all [10] rfl (by kernel_rfl) (by decide) ⟨?_, trivial⟩
               ·refine AXs.of (i := 10) rfl rfl (by rfl) ?_
                refine ao_str (st' := [⟨0, 97, 2, [(eRSignatures p0)]⟩, ⟨0, 80, 3, [(eRDecl q46.1)]⟩]) go0 ti80 rfl rfl rfl rfl rfl rfl (show 0 + 3 ≤ 3 by decide) rfl (AO.done ⟨rfl, ?_⟩)
                refine AX.hoist 11 (v := (.bool q46.2)) rfl rfl (by kernel_rfl) (by kernel_rfl) (by kernel_rfl) rfl (hoist_as rfl) ?_
                exact AX.done rfl (by kernel_rfl) (M38 q46.2 q46.1.from_ q46.1.to q46.1.cons (Sh.some_eq h2).symm _ (by refine Wk.trans (Wk.permk (L := [(2, (i64 p2)), (3, (ls eI p3)), (12, (.ptr 0 0 0 0)), (13, (.bool q46.2))]) (st' := [⟨0, 80, 3, [(eRDecl q46.1)]⟩]) (st1 := [⟨0, 80, 3, [(eRDecl q46.1)]⟩]) [1] rfl .nil (by decide) rfl rfl (.raw rfl rfl .nil) ⟨.rfl, .rfl, .rfl, .rfl, trivial⟩) ?_; exact Wk.to (L := [(2, (i64 p2)), (3, (ls eI p3)), (12, (.ptr 0 0 0 0)), (13, (.bool q46.2))]) ⟨.rfl, .rfl, .rfl, .rfl, trivial⟩))
             ·refine AXs.of (i := 9) rfl rfl (by rfl) ?_
              refine ao_alloc (m := 1) (st' := [⟨0, 97, 2, [(eRSignatures p0)]⟩, ⟨0, 80, 3, [[(i64 0), (i64 0), .zc]]⟩]) go0 zi80 rfl rfl (AO.done ⟨rfl, ?_⟩)
              refine AX.all [8, 10] rfl (by kernel_rfl) (by decide) ⟨?_, ?_, trivial⟩
              ·refine AXs.of (i := 8) rfl rfl (by rfl) ?_
               refine zq tb rfl (AO.done ⟨rfl, ?_⟩)
               refine AX.all [10] rfl (by kernel_rfl) (by decide) ⟨?_, trivial⟩
               ·refine AXs.of (i := 10) rfl rfl (by rfl) ?_
                refine ao_str (st' := [⟨0, 97, 2, [(eRSignatures p0)]⟩, ⟨0, 80, 3, [(eRDecl q46.1)]⟩]) go0 ti80 rfl rfl rfl rfl rfl rfl (show 0 + 3 ≤ 3 by decide) rfl (AO.done ⟨rfl, ?_⟩)
                refine AX.hoist 11 (v := (.bool q46.2)) rfl rfl (by kernel_rfl) (by kernel_rfl) (by kernel_rfl) rfl (hoist_as rfl) ?_
                exact AX.done rfl (by kernel_rfl) (M38 q46.2 q46.1.from_ q46.1.to q46.1.cons (Sh.some_eq h2).symm _ (by refine Wk.trans (Wk.permk (L := [(2, (i64 p2)), (3, (ls eI p3)), (12, (.ptr 0 0 0 0)), (13, (.bool q46.2))]) (st' := [⟨0, 80, 3, [(eRDecl q46.1)]⟩]) (st1 := [⟨0, 80, 3, [(eRDecl q46.1)]⟩]) [1] rfl .nil (by decide) rfl rfl (.raw rfl rfl .nil) ⟨.rfl, .rfl, .rfl, .rfl, trivial⟩) ?_; exact Wk.to (L := [(2, (i64 p2)), (3, (ls eI p3)), (12, (.ptr 0 0 0 0)), (13, (.bool q46.2))]) ⟨.rfl, .rfl, .rfl, .rfl, trivial⟩))
              ·refine AXs.of (i := 10) rfl rfl (by rfl) ?_
               refine ao_str (st' := [⟨0, 97, 2, [(eRSignatures p0)]⟩, ⟨0, 80, 3, [(eRDecl q46.1)]⟩]) go0 ti80 rfl rfl rfl rfl rfl rfl (show 0 + 3 ≤ 3 by decide) rfl (AO.done ⟨rfl, ?_⟩)
               refine AX.all [8] rfl (by kernel_rfl) (by decide) ⟨?_, trivial⟩
               ·refine AXs.of (i := 8) rfl rfl (by rfl) ?_
                refine zq tb rfl (AO.done ⟨rfl, ?_⟩)
                refine AX.hoist 11 (v := (.bool q46.2)) rfl rfl (by kernel_rfl) (by kernel_rfl) (by kernel_rfl) rfl (hoist_as rfl) ?_
                exact AX.done rfl (by kernel_rfl) (M38 q46.2 q46.1.from_ q46.1.to q46.1.cons (Sh.some_eq h2).symm _ (by refine Wk.trans (Wk.permk (L := [(2, (i64 p2)), (3, (ls eI p3)), (12, (.ptr 0 0 0 0)), (13, (.bool q46.2))]) (st' := [⟨0, 80, 3, [(eRDecl q46.1)]⟩]) (st1 := [⟨0, 80, 3, [(eRDecl q46.1)]⟩]) [1] rfl .nil (by decide) rfl rfl (.raw rfl rfl .nil) ⟨.rfl, .rfl, .rfl, .rfl, trivial⟩) ?_; exact Wk.to (L := [(2, (i64 p2)), (3, (ls eI p3)), (12, (.ptr 0 0 0 0)), (13, (.bool q46.2))]) ⟨.rfl, .rfl, .rfl, .rfl, trivial⟩))
            ·refine AXs.of (i := 8) rfl rfl (by rfl) ?_
             refine zq tb rfl (AO.done ⟨rfl, ?_⟩)
             refine AX.all [7, 9] rfl (by kernel_rfl) (by decide) ⟨?_, ?_, trivial⟩
             ·refine AXs.of (i := 7) rfl rfl (by rfl) ?_
              refine zq tb rfl (AO.done ⟨rfl, ?_⟩)
              refine AX.all [9] rfl (by kernel_rfl) (by decide) ⟨?_, trivial⟩
              ·refine AXs.of (i := 9) rfl rfl (by rfl) ?_
               refine ao_alloc (m := 1) (st' := [⟨0, 97, 2, [(eRSignatures p0)]⟩, ⟨0, 80, 3, [[(i64 0), (i64 0), .zc]]⟩]) go0 zi80 rfl rfl (AO.done ⟨rfl, ?_⟩)
               refine AX.all [10] rfl (by kernel_rfl) (by decide) ⟨?_, trivial⟩
               ·refine AXs.of (i := 10) rfl rfl (by rfl) ?_
                refine ao_str (st' := [⟨0, 97, 2, [(eRSignatures p0)]⟩, ⟨0, 80, 3, [(eRDecl q46.1)]⟩]) go0 ti80 rfl rfl rfl rfl rfl rfl (show 0 + 3 ≤ 3 by decide) rfl (AO.done ⟨rfl, ?_⟩)
                refine AX.hoist 11 (v := (.bool q46.2)) rfl rfl (by kernel_rfl) (by kernel_rfl) (by kernel_rfl) rfl (hoist_as rfl) ?_
                exact AX.done rfl (by kernel_rfl) (M38 q46.2 q46.1.from_ q46.1.to q46.1.cons (Sh.some_eq h2).symm _ (by refine Wk.trans (Wk.permk (L := [(2, (i64 p2)), (3, (ls eI p3)), (12, (.ptr 0 0 0 0)), (13, (.bool q46.2))]) (st' := [⟨0, 80, 3, [(eRDecl q46.1)]⟩]) (st1 := [⟨0, 80, 3, [(eRDecl q46.1)]⟩]) [1] rfl .nil (by decide) rfl rfl (.raw rfl rfl .nil) ⟨.rfl, .rfl, .rfl, .rfl, trivial⟩) ?_; exact Wk.to (L := [(2, (i64 p2)), (3, (ls eI p3)), (12, (.ptr 0 0 0 0)), (13, (.bool q46.2))]) ⟨.rfl, .rfl, .rfl, .rfl, trivial⟩))
             ·refine AXs.of (i := 9) rfl rfl (by rfl) ?_
              refine ao_alloc (m := 1) (st' := [⟨0, 97, 2, [(eRSignatures p0)]⟩, ⟨0, 80, 3, [[(i64 0), (i64 0), .zc]]⟩]) go0 zi80 rfl rfl (AO.done ⟨rfl, ?_⟩)
              refine AX.all [7] rfl (by kernel_rfl) (by decide) ⟨?_, trivial⟩
              ·refine AXs.of (i := 7) rfl rfl (by rfl) ?_
               refine zq tb rfl (AO.done ⟨rfl, ?_⟩)
               refine AX.all [10] rfl (by kernel_rfl) (by decide) ⟨?_, trivial⟩
               ·refine AXs.of (i := 10) rfl rfl (by rfl) ?_
                refine ao_str (st' := [⟨0, 97, 2, [(eRSignatures p0)]⟩, ⟨0, 80, 3, [(eRDecl q46.1)]⟩]) go0 ti80 rfl rfl rfl rfl rfl rfl (show 0 + 3 ≤ 3 by decide) rfl (AO.done ⟨rfl, ?_⟩)
                refine AX.hoist 11 (v := (.bool q46.2)) rfl rfl (by kernel_rfl) (by kernel_rfl) (by kernel_rfl) rfl (hoist_as rfl) ?_
                exact AX.done rfl (by kernel_rfl) (M38 q46.2 q46.1.from_ q46.1.to q46.1.cons (Sh.some_eq h2).symm _ (by refine Wk.trans (Wk.permk (L := [(2, (i64 p2)), (3, (ls eI p3)), (12, (.ptr 0 0 0 0)), (13, (.bool q46.2))]) (st' := [⟨0, 80, 3, [(eRDecl q46.1)]⟩]) (st1 := [⟨0, 80, 3, [(eRDecl q46.1)]⟩]) [1] rfl .nil (by decide) rfl rfl (.raw rfl rfl .nil) ⟨.rfl, .rfl, .rfl, .rfl, trivial⟩) ?_; exact Wk.to (L := [(2, (i64 p2)), (3, (ls eI p3)), (12, (.ptr 0 0 0 0)), (13, (.bool q46.2))]) ⟨.rfl, .rfl, .rfl, .rfl, trivial⟩))
            ·refine AXs.of (i := 9) rfl rfl (by rfl) ?_
             refine ao_alloc (m := 1) (st' := [⟨0, 97, 2, [(eRSignatures p0)]⟩, ⟨0, 80, 3, [[(i64 0), (i64 0), .zc]]⟩]) go0 zi80 rfl rfl (AO.done ⟨rfl, ?_⟩)
             refine AX.all [7, 8] rfl (by kernel_rfl) (by decide) ⟨?_, ?_, trivial⟩
             ·refine AXs.of (i := 7) rfl rfl (by rfl) ?_
              refine zq tb rfl (AO.done ⟨rfl, ?_⟩)
              refine AX.all [8, 10] rfl (by kernel_rfl) (by decide) ⟨?_, ?_, trivial⟩
              ·refine AXs.of (i := 8) rfl rfl (by rfl) ?_
               refine zq tb rfl (AO.done ⟨rfl, ?_⟩)
               refine AX.all [10] rfl (by kernel_rfl) (by decide) ⟨?_, trivial⟩
               ·refine AXs.of (i := 10) rfl rfl (by rfl) ?_
                refine ao_str (st' := [⟨0, 97, 2, [(eRSignatures p0)]⟩, ⟨0, 80, 3, [(eRDecl q46.1)]⟩]) go0 ti80 rfl rfl rfl rfl rfl rfl (show 0 + 3 ≤ 3 by decide) rfl (AO.done ⟨rfl, ?_⟩)
                refine AX.hoist 11 (v := (.bool q46.2)) rfl rfl (by kernel_rfl) (by kernel_rfl) (by kernel_rfl) rfl (hoist_as rfl) ?_
                exact AX.done rfl (by kernel_rfl) (M38 q46.2 q46.1.from_ q46.1.to q46.1.cons (Sh.some_eq h2).symm _ (by refine Wk.trans (Wk.permk (L := [(2, (i64 p2)), (3, (ls eI p3)), (12, (.ptr 0 0 0 0)), (13, (.bool q46.2))]) (st' := [⟨0, 80, 3, [(eRDecl q46.1)]⟩]) (st1 := [⟨0, 80, 3, [(eRDecl q46.1)]⟩]) [1] rfl .nil (by decide) rfl rfl (.raw rfl rfl .nil) ⟨.rfl, .rfl, .rfl, .rfl, trivial⟩) ?_; exact Wk.to (L := [(2, (i64 p2)), (3, (ls eI p3)), (12, (.ptr 0 0 0 0)), (13, (.bool q46.2))]) ⟨.rfl, .rfl, .rfl, .rfl, trivial⟩))
              ·refine AXs.of (i := 10) rfl rfl (by rfl) ?_
               refine ao_str (st' := [⟨0, 97, 2, [(eRSignatures p0)]⟩, ⟨0, 80, 3, [(eRDecl q46.1)]⟩]) go0 ti80 rfl rfl rfl rfl rfl rfl (show 0 + 3 ≤ 3 by decide) rfl (AO.done ⟨rfl, ?_⟩)
               refine AX.all [8] rfl (by kernel_rfl) (by decide) ⟨?_, trivial⟩
               ·refine AXs.of (i := 8) rfl rfl (by rfl) ?_
                refine zq tb rfl (AO.done ⟨rfl, ?_⟩)
                refine AX.hoist 11 (v := (.bool q46.2)) rfl rfl (by kernel_rfl) (by kernel_rfl) (by kernel_rfl) rfl (hoist_as rfl) ?_
                exact AX.done rfl (by kernel_rfl) (M38 q46.2 q46.1.from_ q46.1.to q46.1.cons (Sh.some_eq h2).symm _ (by refine Wk.trans (Wk.permk (L := [(2, (i64 p2)), (3, (ls eI p3)), (12, (.ptr 0 0 0 0)), (13, (.bool q46.2))]) (st' := [⟨0, 80, 3, [(eRDecl q46.1)]⟩]) (st1 := [⟨0, 80, 3, [(eRDecl q46.1)]⟩]) [1] rfl .nil (by decide) rfl rfl (.raw rfl rfl .nil) ⟨.rfl, .rfl, .rfl, .rfl, trivial⟩) ?_; exact Wk.to (L := [(2, (i64 p2)), (3, (ls eI p3)), (12, (.ptr 0 0 0 0)), (13, (.bool q46.2))]) ⟨.rfl, .rfl, .rfl, .rfl, trivial⟩))
             ·refine AXs.of (i := 8) rfl rfl (by rfl) ?_
              refine zq tb rfl (AO.done ⟨rfl, ?_⟩)
              refine AX.all [7] rfl (by kernel_rfl) (by decide) ⟨?_, trivial⟩
              ·refine AXs.of (i := 7) rfl rfl (by rfl) ?_
               refine zq tb rfl (AO.done ⟨rfl, ?_⟩)
               refine AX.all [10] rfl (by kernel_rfl) (by decide) ⟨?_, trivial⟩
               ·refine AXs.of (i := 10) rfl rfl (by rfl) ?_
                refine ao_str (st' := [⟨0, 97, 2, [(eRSignatures p0)]⟩, ⟨0, 80, 3, [(eRDecl q46.1)]⟩]) go0 ti80 rfl rfl rfl rfl rfl rfl (show 0 + 3 ≤ 3 by decide) rfl (AO.done ⟨rfl, ?_⟩)
                refine AX.hoist 11 (v := (.bool q46.2)) rfl rfl (by kernel_rfl) (by kernel_rfl) (by kernel_rfl) rfl (hoist_as rfl) ?_
                exact AX.done rfl (by kernel_rfl) (M38 q46.2 q46.1.from_ q46.1.to q46.1.cons (Sh.some_eq h2).symm _ (by refine Wk.trans (Wk.permk (L := [(2, (i64 p2)), (3, (ls eI p3)), (12, (.ptr 0 0 0 0)), (13, (.bool q46.2))]) (st' := [⟨0, 80, 3, [(eRDecl q46.1)]⟩]) (st1 := [⟨0, 80, 3, [(eRDecl q46.1)]⟩]) [1] rfl .nil (by decide) rfl rfl (.raw rfl rfl .nil) ⟨.rfl, .rfl, .rfl, .rfl, trivial⟩) ?_; exact Wk.to (L := [(2, (i64 p2)), (3, (ls eI p3)), (12, (.ptr 0 0 0 0)), (13, (.bool q46.2))]) ⟨.rfl, .rfl, .rfl, .rfl, trivial⟩))
           ·refine AXs.of (i := 9) rfl rfl (by rfl) ?_
            refine ao_alloc (m := 1) (st' := [⟨0, 97, 2, [(eRSignatures p0)]⟩, ⟨0, 80, 3, [[(i64 0), (i64 0), .zc]]⟩]) go0 zi80 rfl rfl (AO.done ⟨rfl, ?_⟩)
            refine AX.all [5] rfl (by kernel_rfl) (by decide) ⟨?_, trivial⟩
            ·refine AXs.of (i := 5) rfl rfl (by rfl) ?_
             refine bs h2 fun q47 gq47 h2 => zc (v' := (.tup [(.agg (eRDecl q47.1)), (.bool q47.2)])) hb121 (impl_arrowAt_ok gq47) rfl rfl rfl (AO.done ⟨rfl, ?_⟩)
             refine AX.hoist 6 (v := (.tup [(.agg (eRDecl q47.1)), (.bool q47.2)])) rfl rfl (by kernel_rfl) (by kernel_rfl) (by kernel_rfl) rfl (hoist_mv rfl) ?_
             refine AX.all [7, 8] rfl (by kernel_rfl) (by decide) ⟨?_, ?_, trivial⟩
             ·refine AXs.of (i := 7) rfl rfl (by rfl) ?_
              refine zq tb rfl (AO.done ⟨rfl, ?_⟩)
              refine AX.all [8, 10] rfl (by kernel_rfl) (by decide) ⟨?_, ?_, trivial⟩
              ·refine AXs.of (i := 8) rfl rfl (by rfl) ?_
               refine zq tb rfl (AO.done ⟨rfl, ?_⟩)
               refine AX.all [10] rfl (by kernel_rfl) (by decide) ⟨?_, trivial⟩
               ·refine AXs.of (i := 10) rfl rfl (by rfl) ?_
                refine ao_str (st' := [⟨0, 97, 2, [(eRSignatures p0)]⟩, ⟨0, 80, 3, [(eRDecl q47.1)]⟩]) go0 ti80 rfl rfl rfl rfl rfl rfl (show 0 + 3 ≤ 3 by decide) rfl (AO.done ⟨rfl, ?_⟩)
                refine AX.hoist 11 (v := (.bool q47.2)) rfl rfl (by kernel_rfl) (by kernel_rfl) (by kernel_rfl) rfl (hoist_as rfl) ?_
                exact AX.done rfl (by kernel_rfl) (M38 q47.2 q47.1.from_ q47.1.to q47.1.cons (Sh.some_eq h2).symm _ (by refine Wk.trans (Wk.permk (L := [(2, (i64 p2)), (3, (ls eI p3)), (12, (.ptr 0 0 0 0)), (13, (.bool q47.2))]) (st' := [⟨0, 80, 3, [(eRDecl q47.1)]⟩]) (st1 := [⟨0, 80, 3, [(eRDecl q47.1)]⟩]) [1] rfl .nil (by decide) rfl rfl (.raw rfl rfl .nil) ⟨.rfl, .rfl, .rfl, .rfl, trivial⟩) ?_; exact Wk.to (L := [(2, (i64 p2)), (3, (ls eI p3)), (12, (.ptr 0 0 0 0)), (13, (.bool q47.2))]) ⟨.rfl, .rfl, .rfl, .rfl, trivial⟩))
              ·refine AXs.of (i := 10) rfl rfl (by rfl) ?_
               refine ao_str (st' := [⟨0, 97, 2, [(eRSignatures p0)]⟩, ⟨0, 80, 3, [(eRDecl q47.1)]⟩]) go0 ti80 rfl rfl rfl rfl rfl rfl (show 0 + 3 ≤ 3 by decide) rfl (AO.done ⟨rfl, ?_⟩)
               refine AX.all [8] rfl (by kernel_rfl) (by decide) ⟨?_, trivial⟩
               ·refine AXs.of (i := 8) rfl rfl (by rfl) ?_
                refine zq tb rfl (AO.done ⟨rfl, ?_⟩)
                refine AX.hoist 11 (v := (.bool q47.2)) rfl rfl (by kernel_rfl) (by kernel_rfl) (by kernel_rfl) rfl (hoist_as rfl) ?_
                exact AX.done rfl (by kernel_rfl) (M38 q47.2 q47.1.from_ q47.1.to q47.1.cons (Sh.some_eq h2).symm _ (by refine Wk.trans (Wk.permk (L := [(2, (i64 p2)), (3, (ls eI p3)), (12, (.ptr 0 0 0 0)), (13, (.bool q47.2))]) (st' := [⟨0, 80, 3, [(eRDecl q47.1)]⟩]) (st1 := [⟨0, 80, 3, [(eRDecl q47.1)]⟩]) [1] rfl .nil (by decide) rfl rfl (.raw rfl rfl .nil) ⟨.rfl, .rfl, .rfl, .rfl, trivial⟩) ?_; exact Wk.to (L := [(2, (i64 p2)), (3, (ls eI p3)), (12, (.ptr 0 0 0 0)), (13, (.bool q47.2))]) ⟨.rfl, .rfl, .rfl, .rfl, trivial⟩))
             ·refine AXs.of (i := 8) rfl rfl (by rfl) ?_
              refine zq tb rfl (AO.done ⟨rfl, ?_⟩)
              refine AX.all [7] rfl (by kernel_rfl) (by decide) ⟨?_, trivial⟩
              ·refine AXs.of (i := 7) rfl rfl (by rfl) ?_
               refine zq tb rfl (AO.done ⟨rfl, ?_⟩)
               refine AX.all [10] rfl (by kernel_rfl) (by decide) ⟨?_, trivial⟩
               ·refine AXs.of (i := 10) rfl rfl (by rfl) ?_
                refine ao_str (st' := [⟨0, 97, 2, [(eRSignatures p0)]⟩, ⟨0, 80, 3, [(eRDecl q47.1)]⟩]) go0 ti80 rfl rfl rfl rfl rfl rfl (show 0 + 3 ≤ 3 by decide) rfl (AO.done ⟨rfl, ?_⟩)
                refine AX.hoist 11 (v := (.bool q47.2)) rfl rfl (by kernel_rfl) (by kernel_rfl) (by kernel_rfl) rfl (hoist_as rfl) ?_
                exact AX.done rfl (by kernel_rfl) (M38 q47.2 q47.1.from_ q47.1.to q47.1.cons (Sh.some_eq h2).symm _ (by refine Wk.trans (Wk.permk (L := [(2, (i64 p2)), (3, (ls eI p3)), (12, (.ptr 0 0 0 0)), (13, (.bool q47.2))]) (st' := [⟨0, 80, 3, [(eRDecl q47.1)]⟩]) (st1 := [⟨0, 80, 3, [(eRDecl q47.1)]⟩]) [1] rfl .nil (by decide) rfl rfl (.raw rfl rfl .nil) ⟨.rfl, .rfl, .rfl, .rfl, trivial⟩) ?_; exact Wk.to (L := [(2, (i64 p2)), (3, (ls eI p3)), (12, (.ptr 0 0 0 0)), (13, (.bool q47.2))]) ⟨.rfl, .rfl, .rfl, .rfl, trivial⟩))
          ·refine AXs.of (i := 9) rfl rfl (by rfl) ?_
           refine ao_alloc (m := 1) (st' := [⟨0, 97, 2, [(eRSignatures p0)]⟩, ⟨0, 80, 3, [[(i64 0), (i64 0), .zc]]⟩]) go0 zi80 rfl rfl (AO.done ⟨rfl, ?_⟩)
           refine AX.all [4] rfl (by kernel_rfl) (by decide) ⟨?_, trivial⟩
           ·refine AXs.of (i := 4) rfl rfl (by rfl) ?_
            refine zq tb rfl (AO.done ⟨rfl, ?_⟩)
            refine AX.all [5] rfl (by kernel_rfl) (by decide) ⟨?_, trivial⟩
            ·refine AXs.of (i := 5) rfl rfl (by rfl) ?_
             refine bs h2 fun q48 gq48 h2 => zc (v' := (.tup [(.agg (eRDecl q48.1)), (.bool q48.2)])) hb121 (impl_arrowAt_ok gq48) rfl rfl rfl (AO.done ⟨rfl, ?_⟩)
             refine AX.hoist 6 (v := (.tup [(.agg (eRDecl q48.1)), (.bool q48.2)])) rfl rfl (by kernel_rfl) (by kernel_rfl) (by kernel_rfl) rfl (hoist_mv rfl) ?_
             refine AX.all [7, 8] rfl (by kernel_rfl) (by decide) ⟨?_, ?_, trivial⟩
             ·refine AXs.of (i := 7) rfl rfl (by rfl) ?_
              refine zq tb rfl (AO.done ⟨rfl, ?_⟩)
              refine AX.all [8, 10] rfl (by kernel_rfl) (by decide) ⟨?_, ?_, trivial⟩
              ·refine AXs.of (i := 8) rfl rfl (by rfl) ?_
               refine zq tb rfl (AO.done ⟨rfl, ?_⟩)
               refine AX.all [10] rfl (by kernel_rfl) (by decide) ⟨?_, trivial⟩
               ·refine AXs.of (i := 10) rfl rfl (by rfl) ?_
                refine ao_str (st' := [⟨0, 97, 2, [(eRSignatures p0)]⟩, ⟨0, 80, 3, [(eRDecl q48.1)]⟩]) go0 ti80 rfl rfl rfl rfl rfl rfl (show 0 + 3 ≤ 3 by decide) rfl (AO.done ⟨rfl, ?_⟩)
                refine AX.hoist 11 (v := (.bool q48.2)) rfl rfl (by kernel_rfl) (by kernel_rfl) (by kernel_rfl) rfl (hoist_as rfl) ?_
                exact AX.done rfl (by kernel_rfl) (M38 q48.2 q48.1.from_ q48.1.to q48.1.cons (Sh.some_eq h2).symm _ (by refine Wk.trans (Wk.permk (L := [(2, (i64 p2)), (3, (ls eI p3)), (12, (.ptr 0 0 0 0)), (13, (.bool q48.2))]) (st' := [⟨0, 80, 3, [(eRDecl q48.1)]⟩]) (st1 := [⟨0, 80, 3, [(eRDecl q48.1)]⟩]) [1] rfl .nil (by decide) rfl rfl (.raw rfl rfl .nil) ⟨.rfl, .rfl, .rfl, .rfl, trivial⟩) ?_; exact Wk.to (L := [(2, (i64 p2)), (3, (ls eI p3)), (12, (.ptr 0 0 0 0)), (13, (.bool q48.2))]) ⟨.rfl, .rfl, .rfl, .rfl, trivial⟩))
              ·refine AXs.of (i := 10) rfl rfl (by rfl) ?_
               refine ao_str (st' := [⟨0, 97, 2, [(eRSignatures p0)]⟩, ⟨0, 80, 3, [(eRDecl q48.1)]⟩]) go0 ti80 rfl rfl rfl rfl rfl rfl (show 0 + 3 ≤ 3 by decide) rfl (AO.done ⟨rfl, ?_⟩)
               refine AX.all [8] rfl (by kernel_rfl) (by decide) ⟨?_, trivial⟩
               ·refine AXs.of (i := 8) rfl rfl (by rfl) ?_
                refine zq tb rfl (AO.done ⟨rfl, ?_⟩)
                refine AX.hoist 11 (v := (.bool q48.2)) rfl rfl (by kernel_rfl) (by kernel_rfl) (by kernel_rfl) rfl (hoist_as rfl) ?_
                exact AX.done rfl (by kernel_rfl) (M38 q48.2 q48.1.from_ q48.1.to q48.1.cons (Sh.some_eq h2).symm _ (by refine Wk.trans (Wk.permk (L := [(2, (i64 p2)), (3, (ls eI p3)), (12, (.ptr 0 0 0 0)), (13, (.bool q48.2))]) (st' := [⟨0, 80, 3, [(eRDecl q48.1)]⟩]) (st1 := [⟨0, 80, 3, [(eRDecl q48.1)]⟩]) [1] rfl .nil (by decide) rfl rfl (.raw rfl rfl .nil) ⟨.rfl, .rfl, .rfl, .rfl, trivial⟩) ?_; exact Wk.to (L := [(2, (i64 p2)), (3, (ls eI p3)), (12, (.ptr 0 0 0 0)), (13, (.bool q48.2))]) ⟨.rfl, .rfl, .rfl, .rfl, trivial⟩))
             ·refine AXs.of (i := 8) rfl rfl (by rfl) ?_
              refine zq tb rfl (AO.done ⟨rfl, ?_⟩)
              refine AX.all [7] rfl (by kernel_rfl) (by decide) ⟨?_, trivial⟩
              ·refine AXs.of (i := 7) rfl rfl (by rfl) ?_
               refine zq tb rfl (AO.done ⟨rfl, ?_⟩)
               refine AX.all [10] rfl (by kernel_rfl) (by decide) ⟨?_, trivial⟩
               ·refine AXs.of (i := 10) rfl rfl (by rfl) ?_
                refine ao_str (st' := [⟨0, 97, 2, [(eRSignatures p0)]⟩, ⟨0, 80, 3, [(eRDecl q48.1)]⟩]) go0 ti80 rfl rfl rfl rfl rfl rfl (show 0 + 3 ≤ 3 by decide) rfl (AO.done ⟨rfl, ?_⟩)
                refine AX.hoist 11 (v := (.bool q48.2)) rfl rfl (by kernel_rfl) (by kernel_rfl) (by kernel_rfl) rfl (hoist_as rfl) ?_
                exact AX.done rfl (by kernel_rfl) (M38 q48.2 q48.1.from_ q48.1.to q48.1.cons (Sh.some_eq h2).symm _ (by refine Wk.trans (Wk.permk (L := [(2, (i64 p2)), (3, (ls eI p3)), (12, (.ptr 0 0 0 0)), (13, (.bool q48.2))]) (st' := [⟨0, 80, 3, [(eRDecl q48.1)]⟩]) (st1 := [⟨0, 80, 3, [(eRDecl q48.1)]⟩]) [1] rfl .nil (by decide) rfl rfl (.raw rfl rfl .nil) ⟨.rfl, .rfl, .rfl, .rfl, trivial⟩) ?_; exact Wk.to (L := [(2, (i64 p2)), (3, (ls eI p3)), (12, (.ptr 0 0 0 0)), (13, (.bool q48.2))]) ⟨.rfl, .rfl, .rfl, .rfl, trivial⟩))
         ·refine AXs.of (i := 9) rfl rfl (by rfl) ?_
          refine ao_alloc (m := 1) (st' := [⟨0, 97, 2, [(eRSignatures p0)]⟩, ⟨0, 80, 3, [[(i64 0), (i64 0), .zc]]⟩]) go0 zi80 rfl rfl (AO.done ⟨rfl, ?_⟩)
          refine AX.all [3] rfl (by kernel_rfl) (by decide) ⟨?_, trivial⟩
          ·refine AXs.of (i := 3) rfl rfl (by rfl) ?_
           refine bs h2 fun c49 gc49 h2 => zx ei40 gc49 rfl rfl rfl (AO.done ⟨rfl, ?_⟩)
           refine AX.all [4] rfl (by kernel_rfl) (by decide) ⟨?_, trivial⟩
           ·refine AXs.of (i := 4) rfl rfl (by rfl) ?_
            refine zq tb rfl (AO.done ⟨rfl, ?_⟩)
            refine AX.all [5] rfl (by kernel_rfl) (by decide) ⟨?_, trivial⟩
            ·refine AXs.of (i := 5) rfl rfl (by rfl) ?_
             refine bs h2 fun q50 gq50 h2 => zc (v' := (.tup [(.agg (eRDecl q50.1)), (.bool q50.2)])) hb121 (impl_arrowAt_ok gq50) rfl rfl rfl (AO.done ⟨rfl, ?_⟩)
             refine AX.hoist 6 (v := (.tup [(.agg (eRDecl q50.1)), (.bool q50.2)])) rfl rfl (by kernel_rfl) (by kernel_rfl) (by kernel_rfl) rfl (hoist_mv rfl) ?_
             refine AX.all [7, 8] rfl (by kernel_rfl) (by decide) ⟨?_, ?_, trivial⟩
             ·refine AXs.of (i := 7) rfl rfl (by rfl) ?_
              refine zq tb rfl (AO.done ⟨rfl, ?_⟩)
              refine AX.all [8, 10] rfl (by kernel_rfl) (by decide) ⟨?_, ?_, trivial⟩
              ·refine AXs.of (i := 8) rfl rfl (by rfl) ?_
               refine zq tb rfl (AO.done ⟨rfl, ?_⟩)
               refine AX.all [10] rfl (by kernel_rfl) (by decide) ⟨?_, trivial⟩
               ·refine AXs.of (i := 10) rfl rfl (by rfl) ?_
                refine ao_str (st' := [⟨0, 97, 2, [(eRSignatures p0)]⟩, ⟨0, 80, 3, [(eRDecl q50.1)]⟩]) go0 ti80 rfl rfl rfl rfl rfl rfl (show 0 + 3 ≤ 3 by decide) rfl (AO.done ⟨rfl, ?_⟩)
                refine AX.hoist 11 (v := (.bool q50.2)) rfl rfl (by kernel_rfl) (by kernel_rfl) (by kernel_rfl) rfl (hoist_as rfl) ?_
                exact AX.done rfl (by kernel_rfl) (M38 q50.2 q50.1.from_ q50.1.to q50.1.cons (Sh.some_eq h2).symm _ (by refine Wk.trans (Wk.permk (L := [(2, (i64 p2)), (3, (ls eI p3)), (12, (.ptr 0 0 0 0)), (13, (.bool q50.2))]) (st' := [⟨0, 80, 3, [(eRDecl q50.1)]⟩]) (st1 := [⟨0, 80, 3, [(eRDecl q50.1)]⟩]) [1] rfl .nil (by decide) rfl rfl (.raw rfl rfl .nil) ⟨.rfl, .rfl, .rfl, .rfl, trivial⟩) ?_; exact Wk.to (L := [(2, (i64 p2)), (3, (ls eI p3)), (12, (.ptr 0 0 0 0)), (13, (.bool q50.2))]) ⟨.rfl, .rfl, .rfl, .rfl, trivial⟩))
              ·refine AXs.of (i := 10) rfl rfl (by rfl) ?_
               refine ao_str (st' := [⟨0, 97, 2, [(eRSignatures p0)]⟩, ⟨0, 80, 3, [(eRDecl q50.1)]⟩]) go0 ti80 rfl rfl rfl rfl rfl rfl (show 0 + 3 ≤ 3 by decide) rfl (AO.done ⟨rfl, ?_⟩)
               refine AX.all [8] rfl (by kernel_rfl) (by decide) ⟨?_, trivial⟩
               ·refine AXs.of (i := 8) rfl rfl (by rfl) ?_
                refine zq tb rfl (AO.done ⟨rfl, ?_⟩)
                refine AX.hoist 11 (v := (.bool q50.2)) rfl rfl (by kernel_rfl) (by kernel_rfl) (by kernel_rfl) rfl (hoist_as rfl) ?_
                exact AX.done rfl (by kernel_rfl) (M38 q50.2 q50.1.from_ q50.1.to q50.1.cons (Sh.some_eq h2).symm _ (by refine Wk.trans (Wk.permk (L := [(2, (i64 p2)), (3, (ls eI p3)), (12, (.ptr 0 0 0 0)), (13, (.bool q50.2))]) (st' := [⟨0, 80, 3, [(eRDecl q50.1)]⟩]) (st1 := [⟨0, 80, 3, [(eRDecl q50.1)]⟩]) [1] rfl .nil (by decide) rfl rfl (.raw rfl rfl .nil) ⟨.rfl, .rfl, .rfl, .rfl, trivial⟩) ?_; exact Wk.to (L := [(2, (i64 p2)), (3, (ls eI p3)), (12, (.ptr 0 0 0 0)), (13, (.bool q50.2))]) ⟨.rfl, .rfl, .rfl, .rfl, trivial⟩))
             ·refine AXs.of (i := 8) rfl rfl (by rfl) ?_
              refine zq tb rfl (AO.done ⟨rfl, ?_⟩)
              refine AX.all [7] rfl (by kernel_rfl) (by decide) ⟨?_, trivial⟩
              ·refine AXs.of (i := 7) rfl rfl (by rfl) ?_
               refine zq tb rfl (AO.done ⟨rfl, ?_⟩)
               refine AX.all [10] rfl (by kernel_rfl) (by decide) ⟨?_, trivial⟩
               ·refine AXs.of (i := 10) rfl rfl (by rfl) ?_
                refine ao_str (st' := [⟨0, 97, 2, [(eRSignatures p0)]⟩, ⟨0, 80, 3, [(eRDecl q50.1)]⟩]) go0 ti80 rfl rfl rfl rfl rfl rfl (show 0 + 3 ≤ 3 by decide) rfl (AO.done ⟨rfl, ?_⟩)
                refine AX.hoist 11 (v := (.bool q50.2)) rfl rfl (by kernel_rfl) (by kernel_rfl) (by kernel_rfl) rfl (hoist_as rfl) ?_
                exact AX.done rfl (by kernel_rfl) (M38 q50.2 q50.1.from_ q50.1.to q50.1.cons (Sh.some_eq h2).symm _ (by refine Wk.trans (Wk.permk (L := [(2, (i64 p2)), (3, (ls eI p3)), (12, (.ptr 0 0 0 0)), (13, (.bool q50.2))]) (st' := [⟨0, 80, 3, [(eRDecl q50.1)]⟩]) (st1 := [⟨0, 80, 3, [(eRDecl q50.1)]⟩]) [1] rfl .nil (by decide) rfl rfl (.raw rfl rfl .nil) ⟨.rfl, .rfl, .rfl, .rfl, trivial⟩) ?_; exact Wk.to (L := [(2, (i64 p2)), (3, (ls eI p3)), (12, (.ptr 0 0 0 0)), (13, (.bool q50.2))]) ⟨.rfl, .rfl, .rfl, .rfl, trivial⟩))
        ·refine AXs.of (i := 3) rfl rfl (by rfl) ?_
         refine bs h2 fun c51 gc51 h2 => zx ei40 gc51 rfl rfl rfl (AO.done ⟨rfl, ?_⟩)
         refine AX.all [1, 4, 9] rfl (by kernel_rfl) (by decide) ⟨?_, ?_, ?_, trivial⟩
         ·refine AXs.of (i := 1) rfl rfl (by rfl) ?_
          refine zq tb rfl (AO.done ⟨rfl, ?_⟩)
          refine AX.all [4, 9] rfl (by kernel_rfl) (by decide) ⟨?_, ?_, trivial⟩
          ·refine AXs.of (i := 4) rfl rfl (by rfl) ?_
           refine zq tb rfl (AO.done ⟨rfl, ?_⟩)
           refine AX.all [5, 9] rfl (by kernel_rfl) (by decide) ⟨?_, ?_, trivial⟩
           ·refine AXs.of (i := 5) rfl rfl (by rfl) ?_
            refine bs h2 fun q52 gq52 h2 => zc (v' := (.tup [(.agg (eRDecl q52.1)), (.bool q52.2)])) hb121 (impl_arrowAt_ok gq52) rfl rfl rfl (AO.done ⟨rfl, ?_⟩)
            refine AX.hoist 6 (v := (.tup [(.agg (eRDecl q52.1)), (.bool q52.2)])) rfl rfl (by kernel_rfl) (by kernel_rfl) (by kernel_rfl) rfl (hoist_mv rfl) ?_
            refine AX.all [7, 8, 9] rfl (by kernel_rfl) (by decide) ⟨?_, ?_, ?_, trivial⟩
            ·refine AXs.of (i := 7) rfl rfl (by rfl) ?_
             refine zq tb rfl (AO.done ⟨rfl, ?_⟩)
             refine AX.all [8, 9] rfl (by kernel_rfl) (by decide) ⟨?_, ?_, trivial⟩
             ·refine AXs.of (i := 8) rfl rfl (by rfl) ?_
              refine zq tb rfl (AO.done ⟨rfl, ?_⟩)
              refine AX.all [9] rfl (by kernel_rfl) (by decide) ⟨?_, trivial⟩
              ·refine AXs.of (i := 9) rfl rfl (by rfl) ?_
               refine ao_alloc (m := 1) (st' := [⟨0, 97, 2, [(eRSignatures p0)]⟩, ⟨0, 80, 3, [[(i64 0), (i64 0), .zc]]⟩]) go0 zi80 rfl rfl (AO.done ⟨rfl, ?_⟩)
               refine AX.all [10] rfl (by kernel_rfl) (by decide) ⟨?_, trivial⟩
               ·refine AXs.of (i := 10) rfl rfl (by rfl) ?_
                refine ao_str (st' := [⟨0, 97, 2, [(eRSignatures p0)]⟩, ⟨0, 80, 3, [(eRDecl q52.1)]⟩]) go0 ti80 rfl rfl rfl rfl rfl rfl (show 0 + 3 ≤ 3 by decide) rfl (AO.done ⟨rfl, ?_⟩)
                refine AX.hoist 11 (v := (.bool q52.2)) rfl rfl (by kernel_rfl) (by kernel_rfl) (by kernel_rfl) rfl (hoist_as rfl) ?_
                exact AX.done rfl (by kernel_rfl) (M38 q52.2 q52.1.from_ q52.1.to q52.1.cons (Sh.some_eq h2).symm _ (by refine Wk.trans (Wk.permk (L := [(2, (i64 p2)), (3, (ls eI p3)), (12, (.ptr 0 0 0 0)), (13, (.bool q52.2))]) (st' := [⟨0, 80, 3, [(eRDecl q52.1)]⟩]) (st1 := [⟨0, 80, 3, [(eRDecl q52.1)]⟩]) [1] rfl .nil (by decide) rfl rfl (.raw rfl rfl .nil) ⟨.rfl, .rfl, .rfl, .rfl, trivial⟩) ?_; exact Wk.to (L := [(2, (i64 p2)), (3, (ls eI p3)), (12, (.ptr 0 0 0 0)), (13, (.bool q52.2))]) ⟨.rfl, .rfl, .rfl, .rfl, trivial⟩))
             ·refine AXs.of (i := 9) rfl rfl (by rfl) ?_
              refine ao_alloc (m := 1) (st' := [⟨0, 97, 2, [(eRSignatures p0)]⟩, ⟨0, 80, 3, [[(i64 0), (i64 0), .zc]]⟩]) go0 zi80 rfl rfl (AO.done ⟨rfl, ?_⟩)
              refine AX.all [8, 10] rfl (by kernel_rfl) (by decide) ⟨?_, ?_, trivial⟩
              ·refine AXs.of (i := 8) rfl rfl (by rfl) ?_
               refine zq tb rfl (AO.done ⟨rfl, ?_⟩)
               refine AX.all [10] rfl (by kernel_rfl) (by decide) ⟨?_, trivial⟩
               ·refine AXs.of (i := 10) rfl rfl (by rfl) ?_
                refine ao_str (st' := [⟨0, 97, 2, [(eRSignatures p0)]⟩, ⟨0, 80, 3, [(eRDecl q52.1)]⟩]) go0 ti80 rfl rfl rfl rfl rfl rfl (show 0 + 3 ≤ 3 by decide) rfl (AO.done ⟨rfl, ?_⟩)
                refine AX.hoist 11 (v := (.bool q52.2)) rfl rfl (by kernel_rfl) (by kernel_rfl) (by kernel_rfl) rfl (hoist_as rfl) ?_
                exact AX.done rfl (by kernel_rfl) (M38 q52.2 q52.1.from_ q52.1.to q52.1.cons (Sh.some_eq h2).symm _ (by refine Wk.trans (Wk.permk (L := [(2, (i64 p2)), (3, (ls eI p3)), (12, (.ptr 0 0 0 0)), (13, (.bool q52.2))]) (st' := [⟨0, 80, 3, [(eRDecl q52.1)]⟩]) (st1 := [⟨0, 80, 3, [(eRDecl q52.1)]⟩]) [1] rfl .nil (by decide) rfl rfl (.raw rfl rfl .nil) ⟨.rfl, .rfl, .rfl, .rfl, trivial⟩) ?_; exact Wk.to (L := [(2, (i64 p2)), (3, (ls eI p3)), (12, (.ptr 0 0 0 0)), (13, (.bool q52.2))]) ⟨.rfl, .rfl, .rfl, .rfl, trivial⟩))
              ·refine AXs.of (i := 10) rfl rfl (by rfl) ?_
               refine ao_str (st' := [⟨0, 97, 2, [(eRSignatures p0)]⟩, ⟨0, 80, 3, [(eRDecl q52.1)]⟩]) go0 ti80 rfl rfl rfl rfl rfl rfl (show 0 + 3 ≤ 3 by decide) rfl (AO.done ⟨rfl, ?_⟩)
               refine AX.all [8] rfl (by kernel_rfl) (by decide) ⟨?_, trivial⟩
               ·refine AXs.of (i := 8) rfl rfl (by rfl) ?_
                refine zq tb rfl (AO.done ⟨rfl, ?_⟩)
                refine AX.hoist 11 (v := (.bool q52.2)) rfl rfl (by kernel_rfl) (by kernel_rfl) (by kernel_rfl) rfl (hoist_as rfl) ?_
                exact AX.done rfl (by kernel_rfl) (M38 q52.2 q52.1.from_ q52.1.to q52.1.cons (Sh.some_eq h2).symm _ (by refine Wk.trans (Wk.permk (L := [(2, (i64 p2)), (3, (ls eI p3)), (12, (.ptr 0 0 0 0)), (13, (.bool q52.2))]) (st' := [⟨0, 80, 3, [(eRDecl q52.1)]⟩]) (st1 := [⟨0, 80, 3, [(eRDecl q52.1)]⟩]) [1] rfl .nil (by decide) rfl rfl (.raw rfl rfl .nil) ⟨.rfl, .rfl, .rfl, .rfl, trivial⟩) ?_; exact Wk.to (L := [(2, (i64 p2)), (3, (ls eI p3)), (12, (.ptr 0 0 0 0)), (13, (.bool q52.2))]) ⟨.rfl, .rfl, .rfl, .rfl, trivial⟩))
            ·refine AXs.of (i := 8) rfl rfl (by rfl) ?_
             refine zq tb rfl (AO.done ⟨rfl, ?_⟩)
             refine AX.all [7, 9] rfl (by kernel_rfl) (by decide) ⟨?_, ?_, trivial⟩
             ·refine AXs.of (i := 7) rfl rfl (by rfl) ?_
              refine zq tb rfl (AO.done ⟨rfl, ?_⟩)
              refine AX.all [9] rfl (by kernel_rfl) (by decide) ⟨?_, trivial⟩
              ·refine AXs.of (i := 9) rfl rfl (by rfl) ?_
               refine ao_alloc (m := 1) (st' := [⟨0, 97, 2, [(eRSignatures p0)]⟩, ⟨0, 80, 3, [[(i64 0), (i64 0), .zc]]⟩]) go0 zi80 rfl rfl (AO.done ⟨rfl, ?_⟩)
               refine AX.all [10] rfl (by kernel_rfl) (by decide) ⟨?_, trivial⟩
               ·refine AXs.of (i := 10) rfl rfl (by rfl) ?_
                refine ao_str (st' := [⟨0, 97, 2, [(eRSignatures p0)]⟩, ⟨0, 80, 3, [(eRDecl q52.1)]⟩]) go0 ti80 rfl rfl rfl rfl rfl rfl (show 0 + 3 ≤ 3 by decide) rfl (AO.done ⟨rfl, ?_⟩)
                refine AX.hoist 11 (v := (.bool q52.2)) rfl rfl (by kernel_rfl) (by kernel_rfl) (by kernel_rfl) rfl (hoist_as rfl) ?_
                exact AX.done rfl (by kernel_rfl) (M38 q52.2 q52.1.from_ q52.1.to q52.1.cons (Sh.some_eq h2).symm _ (by refine Wk.trans (Wk.permk (L := [(2, (i64 p2)), (3, (ls eI p3)), (12, (.ptr 0 0 0 0)), (13, (.bool q52.2))]) (st' := [⟨0, 80, 3, [(eRDecl q52.1)]⟩]) (st1 := [⟨0, 80, 3, [(eRDecl q52.1)]⟩]) [1] rfl .nil (by decide) rfl rfl (.raw rfl rfl .nil) ⟨.rfl, .rfl, .rfl, .rfl, trivial⟩) ?_; exact Wk.to (L := [(2, (i64 p2)), (3, (ls eI p3)), (12, (.ptr 0 0 0 0)), (13, (.bool q52.2))]) ⟨.rfl, .rfl, .rfl, .rfl, trivial⟩))
             ·refine AXs.of (i := 9) rfl rfl (by rfl) ?_
              refine ao_alloc (m := 1) (st' := [⟨0, 97, 2, [(eRSignatures p0)]⟩, ⟨0, 80, 3, [[(i64 0), (i64 0), .zc]]⟩]) go0 zi80 rfl rfl (AO.done ⟨rfl, ?_⟩)
              refine AX.all [7] rfl (by kernel_rfl) (by decide) ⟨?_, trivial⟩
              ·refine AXs.of (i := 7) rfl rfl (by rfl) ?_
               refine zq tb rfl (AO.done ⟨rfl, ?_⟩)
               refine AX.all [10] rfl (by kernel_rfl) (by decide) ⟨?_, trivial⟩
               ·refine AXs.of (i := 10) rfl rfl (by rfl) ?_
                refine ao_str (st' := [⟨0, 97, 2, [(eRSignatures p0)]⟩, ⟨0, 80, 3, [(eRDecl q52.1)]⟩]) go0 ti80 rfl rfl rfl rfl rfl rfl (show 0 + 3 ≤ 3 by decide) rfl (AO.done ⟨rfl, ?_⟩)
                refine AX.hoist 11 (v := (.bool q52.2)) rfl rfl (by kernel_rfl) (by kernel_rfl) (by kernel_rfl) rfl (hoist_as rfl) ?_
                exact AX.done rfl (by kernel_rfl) (M38 q52.2 q52.1.from_ q52.1.to q52.1.cons (Sh.some_eq h2).symm _ (by refine Wk.trans (Wk.permk (L := [(2, (i64 p2)), (3, (ls eI p3)), (12, (.ptr 0 0 0 0)), (13, (.bool q52.2))]) (st' := [⟨0, 80, 3, [(eRDecl q52.1)]⟩]) (st1 := [⟨0, 80, 3, [(eRDecl q52.1)]⟩]) [1] rfl .nil (by decide) rfl rfl (.raw rfl rfl .nil) ⟨.rfl, .rfl, .rfl, .rfl, trivial⟩) ?_; exact Wk.to (L := [(2, (i64 p2)), (3, (ls eI p3)), (12, (.ptr 0 0 0 0)), (13, (.bool q52.2))]) ⟨.rfl, .rfl, .rfl, .rfl, trivial⟩))
            ·refine AXs.of (i := 9) rfl rfl (by rfl) ?_
             refine ao_alloc (m := 1) (st' := [⟨0, 97, 2, [(eRSignatures p0)]⟩, ⟨0, 80, 3, [[(i64 0), (i64 0), .zc]]⟩]) go0 zi80 rfl rfl (AO.done ⟨rfl, ?_⟩)
             refine AX.all [7, 8] rfl (by kernel_rfl) (by decide) ⟨?_, ?_, trivial⟩
             ·refine AXs.of (i := 7) rfl rfl (by rfl) ?_
              refine zq tb rfl (AO.done ⟨rfl, ?_⟩)
              refine AX.all [8, 10] rfl (by kernel_rfl) (by decide) ⟨?_, ?_, trivial⟩
              ·refine AXs.of (i := 8) rfl rfl (by rfl) ?_
               refine zq tb rfl (AO.done ⟨rfl, ?_⟩)
               refine AX.all [10] rfl (by kernel_rfl) (by decide) ⟨?_, trivial⟩
               ·refine AXs.of (i := 10) rfl rfl (by rfl) ?_
                refine ao_str (st' := [⟨0, 97, 2, [(eRSignatures p0)]⟩, ⟨0, 80, 3, [(eRDecl q52.1)]⟩]) go0 ti80 rfl rfl rfl rfl rfl rfl (show 0 + 3 ≤ 3 by decide) rfl (AO.done ⟨rfl, ?_⟩)
                refine AX.hoist 11 (v := (.bool q52.2)) rfl rfl (by kernel_rfl) (by kernel_rfl) (by kernel_rfl) rfl (hoist_as rfl) ?_
                exact AX.done rfl (by kernel_rfl) (M38 q52.2 q52.1.from_ q52.1.to q52.1.cons (Sh.some_eq h2).symm _ (by refine Wk.trans (Wk.permk (L := [(2, (i64 p2)), (3, (ls eI p3)), (12, (.ptr 0 0 0 0)), (13, (.bool q52.2))]) (st' := [⟨0, 80, 3, [(eRDecl q52.1)]⟩]) (st1 := [⟨0, 80, 3, [(eRDecl q52.1)]⟩]) [1] rfl .nil (by decide) rfl rfl (.raw rfl rfl .nil) ⟨.rfl, .rfl, .rfl, .rfl, trivial⟩) ?_; exact Wk.to (L := [(2, (i64 p2)), (3, (ls eI p3)), (12, (.ptr 0 0 0 0)), (13, (.bool q52.2))]) ⟨.rfl, .rfl, .rfl, .rfl, trivial⟩))
              ·refine AXs.of (i := 10) rfl rfl (by rfl) ?_
               refine ao_str (st' := [⟨0, 97, 2, [(eRSignatures p0)]⟩, ⟨0, 80, 3, [(eRDecl q52.1)]⟩]) go0 ti80 rfl rfl rfl rfl rfl rfl (show 0 + 3 ≤ 3 by decide) rfl (AO.done ⟨rfl, ?_⟩)
               refine AX.all [8] rfl (by kernel_rfl) (by decide) ⟨?_, trivial⟩
               ·refine AXs.of (i := 8) rfl rfl (by rfl) ?_
                refine zq tb rfl (AO.done ⟨rfl, ?_⟩)
                refine AX.hoist 11 (v := (.bool q52.2)) rfl rfl (by kernel_rfl) (by kernel_rfl) (by kernel_rfl) rfl (hoist_as rfl) ?_
                exact AX.done rfl (by kernel_rfl) (M38 q52.2 q52.1.from_ q52.1.to q52.1.cons (Sh.some_eq h2).symm _ (by refine Wk.trans (Wk.permk (L := [(2, (i64 p2)), (3, (ls eI p3)), (12, (.ptr 0 0 0 0)), (13, (.bool q52.2))]) (st' := [⟨0, 80, 3, [(eRDecl q52.1)]⟩]) (st1 := [⟨0, 80, 3, [(eRDecl q52.1)]⟩]) [1] rfl .nil (by decide) rfl rfl (.raw rfl rfl .nil) ⟨.rfl, .rfl, .rfl, .rfl, trivial⟩) ?_; exact Wk.to (L := [(2, (i64 p2)), (3, (ls eI p3)), (12, (.ptr 0 0 0 0)), (13, (.bool q52.2))]) ⟨.rfl, .rfl, .rfl, .rfl, trivial⟩))
             ·refine AXs.of (i := 8) rfl rfl (by rfl) ?_
              refine zq tb rfl (AO.done ⟨rfl, ?_⟩)
              refine AX.all [7] rfl (by kernel_rfl) (by decide) ⟨?_, trivial⟩
              ·refine AXs.of (i := 7) rfl rfl (by rfl) ?_
               refine zq tb rfl (AO.done ⟨rfl, ?_⟩)
               refine AX.all [10] rfl (by kernel_rfl) (by decide) ⟨?_, trivial⟩
               ·refine AXs.of (i := 10) rfl rfl (by rfl) ?_
                refine ao_str (st' := [⟨0, 97, 2, [(eRSignatures p0)]⟩, ⟨0, 80, 3, [(eRDecl q52.1)]⟩]) go0 ti80 rfl rfl rfl rfl rfl rfl (show 0 + 3 ≤ 3 by decide) rfl (AO.done ⟨rfl, ?_⟩)
                refine AX.hoist 11 (v := (.bool q52.2)) rfl rfl (by kernel_rfl) (by kernel_rfl) (by kernel_rfl) rfl (hoist_as rfl) ?_
                exact AX.done rfl (by kernel_rfl) (M38 q52.2 q52.1.from_ q52.1.to q52.1.cons (Sh.some_eq h2).symm _ (by refine Wk.trans (Wk.permk (L := [(2, (i64 p2)), (3, (ls eI p3)), (12, (.ptr 0 0 0 0)), (13, (.bool q52.2))]) (st' := [⟨0, 80, 3, [(eRDecl q52.1)]⟩]) (st1 := [⟨0, 80, 3, [(eRDecl q52.1)]⟩]) [1] rfl .nil (by decide) rfl rfl (.raw rfl rfl .nil) ⟨.rfl, .rfl, .rfl, .rfl, trivial⟩) ?_; exact Wk.to (L := [(2, (i64 p2)), (3, (ls eI p3)), (12, (.ptr 0 0 0 0)), (13, (.bool q52.2))]) ⟨.rfl, .rfl, .rfl, .rfl, trivial⟩))
           ·refine AXs.of (i := 9) rfl rfl (by rfl) ?_
            refine ao_alloc (m := 1) (st' := [⟨0, 97, 2, [(eRSignatures p0)]⟩, ⟨0, 80, 3, [[(i64 0), (i64 0), .zc]]⟩]) go0 zi80 rfl rfl (AO.done ⟨rfl, ?_⟩)
            refine AX.all [5] rfl (by kernel_rfl) (by decide) ⟨?_, trivial⟩
            ·refine AXs.of (i := 5) rfl rfl (by rfl) ?_
             refine bs h2 fun q53 gq53 h2 => zc (v' := (.tup [(.agg (eRDecl q53.1)), (.bool q53.2)])) hb121 (impl_arrowAt_ok gq53) rfl rfl rfl (AO.done ⟨rfl, ?_⟩)
             refine AX.hoist 6 (v := (.tup [(.agg (eRDecl q53.1)), (.bool q53.2)])) rfl rfl (by kernel_rfl) (by kernel_rfl) (by kernel_rfl) rfl (hoist_mv rfl) ?_
             refine AX.all [7, 8] rfl (by kernel_rfl) (by decide) ⟨?_, ?_, trivial⟩
             ·refine AXs.of (i := 7) rfl rfl (by rfl) ?_
              refine zq tb rfl (AO.done ⟨rfl, ?_⟩)
              refine AX.all [8, 10] rfl (by kernel_rfl) (by decide) ⟨?_, ?_, trivial⟩
              ·refine AXs.of (i := 8) rfl rfl (by rfl) ?_
               refine zq tb rfl (AO.done ⟨rfl, ?_⟩)
               refine AX.all [10] rfl (by kernel_rfl) (by decide) ⟨?_, trivial⟩
               ·refine AXs.of (i := 10) rfl rfl (by rfl) ?_
                refine ao_str (st' := [⟨0, 97, 2, [(eRSignatures p0)]⟩, ⟨0, 80, 3, [(eRDecl q53.1)]⟩]) go0 ti80 rfl rfl rfl rfl rfl rfl (show 0 + 3 ≤ 3 by decide) rfl (AO.done ⟨rfl, ?_⟩)
                refine AX.hoist 11 (v := (.bool q53.2)) rfl rfl (by kernel_rfl) (by kernel_rfl) (by kernel_rfl) rfl (hoist_as rfl) ?_
                exact AX.done rfl (by kernel_rfl) (M38 q53.2 q53.1.from_ q53.1.to q53.1.cons (Sh.some_eq h2).symm _ (by refine Wk.trans (Wk.permk (L := [(2, (i64 p2)), (3, (ls eI p3)), (12, (.ptr 0 0 0 0)), (13, (.bool q53.2))]) (st' := [⟨0, 80, 3, [(eRDecl q53.1)]⟩]) (st1 := [⟨0, 80, 3, [(eRDecl q53.1)]⟩]) [1] rfl .nil (by decide) rfl rfl (.raw rfl rfl .nil) ⟨.rfl, .rfl, .rfl, .rfl, trivial⟩) ?_; exact Wk.to (L := [(2, (i64 p2)), (3, (ls eI p3)), (12, (.ptr 0 0 0 0)), (13, (.bool q53.2))]) ⟨.rfl, .rfl, .rfl, .rfl, trivial⟩))
              ·refine AXs.of (i := 10) rfl rfl (by rfl) ?_
               refine ao_str (st' := [⟨0, 97, 2, [(eRSignatures p0)]⟩, ⟨0, 80, 3, [(eRDecl q53.1)]⟩]) go0 ti80 rfl rfl rfl rfl rfl rfl (show 0 + 3 ≤ 3 by decide) rfl (AO.done ⟨rfl, ?_⟩)
               refine AX.all [8] rfl (by kernel_rfl) (by decide) ⟨?_, trivial⟩
               ·refine AXs.of (i := 8) rfl rfl (by rfl) ?_
                refine zq tb rfl (AO.done ⟨rfl, ?_⟩)
                refine AX.hoist 11 (v := (.bool q53.2)) rfl rfl (by kernel_rfl) (by kernel_rfl) (by kernel_rfl) rfl (hoist_as rfl) ?_
                exact AX.done rfl (by kernel_rfl) (M38 q53.2 q53.1.from_ q53.1.to q53.1.cons (Sh.some_eq h2).symm _ (by refine Wk.trans (Wk.permk (L := [(2, (i64 p2)), (3, (ls eI p3)), (12, (.ptr 0 0 0 0)), (13, (.bool q53.2))]) (st' := [⟨0, 80, 3, [(eRDecl q53.1)]⟩]) (st1 := [⟨0, 80, 3, [(eRDecl q53.1)]⟩]) [1] rfl .nil (by decide) rfl rfl (.raw rfl rfl .nil) ⟨.rfl, .rfl, .rfl, .rfl, trivial⟩) ?_; exact Wk.to (L := [(2, (i64 p2)), (3, (ls eI p3)), (12, (.ptr 0 0 0 0)), (13, (.bool q53.2))]) ⟨.rfl, .rfl, .rfl, .rfl, trivial⟩))
             ·refine AXs.of (i := 8) rfl rfl (by rfl) ?_
              refine zq tb rfl (AO.done ⟨rfl, ?_⟩)
              refine AX.all [7] rfl (by kernel_rfl) (by decide) ⟨?_, trivial⟩
              ·refine AXs.of (i := 7) rfl rfl (by rfl) ?_
               refine zq tb rfl (AO.done ⟨rfl, ?_⟩)
               refine AX.all [10] rfl (by kernel_rfl) (by decide) ⟨?_, trivial⟩
               ·refine AXs.of (i := 10) rfl rfl (by rfl) ?_
                refine ao_str (st' := [⟨0, 97, 2, [(eRSignatures p0)]⟩, ⟨0, 80, 3, [(eRDecl q53.1)]⟩]) go0 ti80 rfl rfl rfl rfl rfl rfl (show 0 + 3 ≤ 3 by decide) rfl (AO.done ⟨rfl, ?_⟩)
                refine AX.hoist 11 (v := (.bool q53.2)) rfl rfl (by kernel_rfl) (by kernel_rfl) (by kernel_rfl) rfl (hoist_as rfl) ?_
                exact AX.done rfl (by kernel_rfl) (M38 q53.2 q53.1.from_ q53.1.to q53.1.cons (Sh.some_eq h2).symm _ (by refine Wk.trans (Wk.permk (L := [(2, (i64 p2)), (3, (ls eI p3)), (12, (.ptr 0 0 0 0)), (13, (.bool q53.2))]) (st' := [⟨0, 80, 3, [(eRDecl q53.1)]⟩]) (st1 := [⟨0, 80, 3, [(eRDecl q53.1)]⟩]) [1] rfl .nil (by decide) rfl rfl (.raw rfl rfl .nil) ⟨.rfl, .rfl, .rfl, .rfl, trivial⟩) ?_; exact Wk.to (L := [(2, (i64 p2)), (3, (ls eI p3)), (12, (.ptr 0 0 0 0)), (13, (.bool q53.2))]) ⟨.rfl, .rfl, .rfl, .rfl, trivial⟩))
          ·refine AXs.of (i := 9) rfl rfl (by rfl) ?_
           refine ao_alloc (m := 1) (st' := [⟨0, 97, 2, [(eRSignatures p0)]⟩, ⟨0, 80, 3, [[(i64 0), (i64 0), .zc]]⟩]) go0 zi80 rfl rfl (AO.done ⟨rfl, ?_⟩)
           refine AX.all [4] rfl (by kernel_rfl) (by decide) ⟨?_, trivial⟩
           ·refine AXs.of (i := 4) rfl rfl (by rfl) ?_
            refine zq tb rfl (AO.done ⟨rfl, ?_⟩)
            refine AX.all [5] rfl (by kernel_rfl) (by decide) ⟨?_, trivial⟩
            ·refine AXs.of (i := 5) rfl rfl (by rfl) ?_
             refine bs h2 fun q54 gq54 h2 => zc (v' := (.tup [(.agg (eRDecl q54.1)), (.bool q54.2)])) hb121 (impl_arrowAt_ok gq54) rfl rfl rfl (AO.done ⟨rfl, ?_⟩)
             refine AX.hoist 6 (v := (.tup [(.agg (eRDecl q54.1)), (.bool q54.2)])) rfl rfl (by kernel_rfl) (by kernel_rfl) (by kernel_rfl) rfl (hoist_mv rfl) ?_
             refine AX.all [7, 8] rfl (by kernel_rfl) (by decide) ⟨?_, ?_, trivial⟩
             ·refine AXs.of (i := 7) rfl rfl (by rfl) ?_
              refine zq tb rfl (AO.done ⟨rfl, ?_⟩)
              refine AX.all [8, 10] rfl (by kernel_rfl) (by decide) ⟨?_, ?_, trivial⟩
              ·refine AXs.of (i := 8) rfl rfl (by rfl) ?_
               refine zq tb rfl (AO.done ⟨rfl, ?_⟩)
               refine AX.all [10] rfl (by kernel_rfl) (by decide) ⟨?_, trivial⟩
               ·refine AXs.of (i := 10) rfl rfl (by rfl) ?_
                refine ao_str (st' := [⟨0, 97, 2, [(eRSignatures p0)]⟩, ⟨0, 80, 3, [(eRDecl q54.1)]⟩]) go0 ti80 rfl rfl rfl rfl rfl rfl (show 0 + 3 ≤ 3 by decide) rfl (AO.done ⟨rfl, ?_⟩)
                refine AX.hoist 11 (v := (.bool q54.2)) rfl rfl (by kernel_rfl) (by kernel_rfl) (by kernel_rfl) rfl (hoist_as rfl) ?_
                exact AX.done rfl (by kernel_rfl) (M38 q54.2 q54.1.from_ q54.1.to q54.1.cons (Sh.some_eq h2).symm _ (by refine Wk.trans (Wk.permk (L := [(2, (i64 p2)), (3, (ls eI p3)), (12, (.ptr 0 0 0 0)), (13, (.bool q54.2))]) (st' := [⟨0, 80, 3, [(eRDecl q54.1)]⟩]) (st1 := [⟨0, 80, 3, [(eRDecl q54.1)]⟩]) [1] rfl .nil (by decide) rfl rfl (.raw rfl rfl .nil) ⟨.rfl, .rfl, .rfl, .rfl, trivial⟩) ?_; exact Wk.to (L := [(2, (i64 p2)), (3, (ls eI p3)), (12, (.ptr 0 0 0 0)), (13, (.bool q54.2))]) ⟨.rfl, .rfl, .rfl, .rfl, trivial⟩))
              ·refine AXs.of (i := 10) rfl rfl (by rfl) ?_
               refine ao_str (st' := [⟨0, 97, 2, [(eRSignatures p0)]⟩, ⟨0, 80, 3, [(eRDecl q54.1)]⟩]) go0 ti80 rfl rfl rfl rfl rfl rfl (show 0 + 3 ≤ 3 by decide) rfl (AO.done ⟨rfl, ?_⟩)
               refine AX.all [8] rfl (by kernel_rfl) (by decide) ⟨?_, trivial⟩
               ·refine AXs.of (i := 8) rfl rfl (by rfl) ?_
                refine zq tb rfl (AO.done ⟨rfl, ?_⟩)
                refine AX.hoist 11 (v := (.bool q54.2)) rfl rfl (by kernel_rfl) (by kernel_rfl) (by kernel_rfl) rfl (hoist_as rfl) ?_
                exact AX.done rfl (by kernel_rfl) (M38 q54.2 q54.1.from_ q54.1.to q54.1.cons (Sh.some_eq h2).symm _ (by refine Wk.trans (Wk.permk (L := [(2, (i64 p2)), (3, (ls eI p3)), (12, (.ptr 0 0 0 0)), (13, (.bool q54.2))]) (st' := [⟨0, 80, 3, [(eRDecl q54.1)]⟩]) (st1 := [⟨0, 80, 3, [(eRDecl q54.1)]⟩]) [1] rfl .nil (by decide) rfl rfl (.raw rfl rfl .nil) ⟨.rfl, .rfl, .rfl, .rfl, trivial⟩) ?_; exact Wk.to (L := [(2, (i64 p2)), (3, (ls eI p3)), (12, (.ptr 0 0 0 0)), (13, (.bool q54.2))]) ⟨.rfl, .rfl, .rfl, .rfl, trivial⟩))
             ·refine AXs.of (i := 8) rfl rfl (by rfl) ?_
              refine zq tb rfl (AO.done ⟨rfl, ?_⟩)
              refine AX.all [7] rfl (by kernel_rfl) (by decide) ⟨?_, trivial⟩
              ·refine AXs.of (i := 7) rfl rfl (by rfl) ?_
               refine zq tb rfl (AO.done ⟨rfl, ?_⟩)
               refine AX.all [10] rfl (by kernel_rfl) (by decide) ⟨?_, trivial⟩
               ·refine AXs.of (i := 10) rfl rfl (by rfl) ?_
                refine ao_str (st' := [⟨0, 97, 2, [(eRSignatures p0)]⟩, ⟨0, 80, 3, [(eRDecl q54.1)]⟩]) go0 ti80 rfl rfl rfl rfl rfl rfl (show 0 + 3 ≤ 3 by decide) rfl (AO.done ⟨rfl, ?_⟩)
                refine AX.hoist 11 (v := (.bool q54.2)) rfl rfl (by kernel_rfl) (by kernel_rfl) (by kernel_rfl) rfl (hoist_as rfl) ?_
                exact AX.done rfl (by kernel_rfl) (M38 q54.2 q54.1.from_ q54.1.to q54.1.cons (Sh.some_eq h2).symm _ (by refine Wk.trans (Wk.permk (L := [(2, (i64 p2)), (3, (ls eI p3)), (12, (.ptr 0 0 0 0)), (13, (.bool q54.2))]) (st' := [⟨0, 80, 3, [(eRDecl q54.1)]⟩]) (st1 := [⟨0, 80, 3, [(eRDecl q54.1)]⟩]) [1] rfl .nil (by decide) rfl rfl (.raw rfl rfl .nil) ⟨.rfl, .rfl, .rfl, .rfl, trivial⟩) ?_; exact Wk.to (L := [(2, (i64 p2)), (3, (ls eI p3)), (12, (.ptr 0 0 0 0)), (13, (.bool q54.2))]) ⟨.rfl, .rfl, .rfl, .rfl, trivial⟩))
         ·refine AXs.of (i := 4) rfl rfl (by rfl) ?_
          refine zq tb rfl (AO.done ⟨rfl, ?_⟩)
          refine AX.all [1, 9] rfl (by kernel_rfl) (by decide) ⟨?_, ?_, trivial⟩
          ·refine AXs.of (i := 1) rfl rfl (by rfl) ?_
           refine zq tb rfl (AO.done ⟨rfl, ?_⟩)
           refine AX.all [5, 9] rfl (by kernel_rfl) (by decide) ⟨?_, ?_, trivial⟩
           ·refine AXs.of (i := 5) rfl rfl (by rfl) ?_
            refine bs h2 fun q55 gq55 h2 => zc (v' := (.tup [(.agg (eRDecl q55.1)), (.bool q55.2)])) hb121 (impl_arrowAt_ok gq55) rfl rfl rfl (AO.done ⟨rfl, ?_⟩)
            refine AX.hoist 6 (v := (.tup [(.agg (eRDecl q55.1)), (.bool q55.2)])) rfl rfl (by kernel_rfl) (by kernel_rfl) (by kernel_rfl) rfl (hoist_mv rfl) ?_
            refine AX.all [7, 8, 9] rfl (by kernel_rfl) (by decide) ⟨?_, ?_, ?_, trivial⟩
            ·refine AXs.of (i := 7) rfl rfl (by rfl) ?_
             refine zq tb rfl (AO.done ⟨rfl, ?_⟩)
             refine AX.all [8, 9] rfl (by kernel_rfl) (by decide) ⟨?_, ?_, trivial⟩
             ·refine AXs.of (i := 8) rfl rfl (by rfl) ?_
              refine zq tb rfl (AO.done ⟨rfl, ?_⟩)
              refine AX.all [9] rfl (by kernel_rfl) (by decide) ⟨?_, trivial⟩
              ·refine AXs.of (i := 9) rfl rfl (by rfl) ?_
               refine ao_alloc (m := 1) (st' := [⟨0, 97, 2, [(eRSignatures p0)]⟩, ⟨0, 80, 3, [[(i64 0), (i64 0), .zc]]⟩]) go0 zi80 rfl rfl (AO.done ⟨rfl, ?_⟩)
               refine AX.all [10] rfl (by kernel_rfl) (by decide) ⟨?_, trivial⟩
               ·refine AXs.of (i := 10) rfl rfl (by rfl) ?_
                refine ao_str (st' := [⟨0, 97, 2, [(eRSignatures p0)]⟩, ⟨0, 80, 3, [(eRDecl q55.1)]⟩]) go0 ti80 rfl rfl rfl rfl rfl rfl (show 0 + 3 ≤ 3 by decide) rfl (AO.done ⟨rfl, ?_⟩)
                refine AX.hoist 11 (v := (.bool q55.2)) rfl rfl (by kernel_rfl) (by kernel_rfl) (by kernel_rfl) rfl (hoist_as rfl) ?_
                exact AX.done rfl (by kernel_rfl) (M38 q55.2 q55.1.from_ q55.1.to q55.1.cons (Sh.some_eq h2).symm _ (by refine Wk.trans (Wk.permk (L := [(2, (i64 p2)), (3, (ls eI p3)), (12, (.ptr 0 0 0 0)), (13, (.bool q55.2))]) (st' := [⟨0, 80, 3, [(eRDecl q55.1)]⟩]) (st1 := [⟨0, 80, 3, [(eRDecl q55.1)]⟩]) [1] rfl .nil (by decide) rfl rfl (.raw rfl rfl .nil) ⟨.rfl, .rfl, .rfl, .rfl, trivial⟩) ?_; exact Wk.to (L := [(2, (i64 p2)), (3, (ls eI p3)), (12, (.ptr 0 0 0 0)), (13, (.bool q55.2))]) ⟨.rfl, .rfl, .rfl, .rfl, trivial⟩))
             ·refine AXs.of (i := 9) rfl rfl (by rfl) ?_
              refine ao_alloc (m := 1) (st' := [⟨0, 97, 2, [(eRSignatures p0)]⟩, ⟨0, 80, 3, [[(i64 0), (i64 0), .zc]]⟩]) go0 zi80 rfl rfl (AO.done ⟨rfl, ?_⟩)
              refine AX.all [8, 10] rfl (by kernel_rfl) (by decide) ⟨?_, ?_, trivial⟩
              ·refine AXs.of (i := 8) rfl rfl (by rfl) ?_
               refine zq tb rfl (AO.done ⟨rfl, ?_⟩)
               refine AX.all [10] rfl (by kernel_rfl) (by decide) ⟨?_, trivial⟩
               ·refine AXs.of (i := 10) rfl rfl (by rfl) ?_
                refine ao_str (st' := [⟨0, 97, 2, [(eRSignatures p0)]⟩, ⟨0, 80, 3, [(eRDecl q55.1)]⟩]) go0 ti80 rfl rfl rfl rfl rfl rfl (show 0 + 3 ≤ 3 by decide) rfl (AO.done ⟨rfl, ?_⟩)
                refine AX.hoist 11 (v := (.bool q55.2)) rfl rfl (by kernel_rfl) (by kernel_rfl) (by kernel_rfl) rfl (hoist_as rfl) ?_
                exact AX.done rfl (by kernel_rfl) (M38 q55.2 q55.1.from_ q55.1.to q55.1.cons (Sh.some_eq h2).symm _ (by refine Wk.trans (Wk.permk (L := [(2, (i64 p2)), (3, (ls eI p3)), (12, (.ptr 0 0 0 0)), (13, (.bool q55.2))]) (st' := [⟨0, 80, 3, [(eRDecl q55.1)]⟩]) (st1 := [⟨0, 80, 3, [(eRDecl q55.1)]⟩]) [1] rfl .nil (by decide) rfl rfl (.raw rfl rfl .nil) ⟨.rfl, .rfl, .rfl, .rfl, trivial⟩) ?_; exact Wk.to (L := [(2, (i64 p2)), (3, (ls eI p3)), (12, (.ptr 0 0 0 0)), (13, (.bool q55.2))]) ⟨.rfl, .rfl, .rfl, .rfl, trivial⟩))
              ·refine AXs.of (i := 10) rfl rfl (by rfl) ?_
               refine ao_str (st' := [⟨0, 97, 2, [(eRSignatures p0)]⟩, ⟨0, 80, 3, [(eRDecl q55.1)]⟩]) go0 ti80 rfl rfl rfl rfl rfl rfl (show 0 + 3 ≤ 3 by decide) rfl (AO.done ⟨rfl, ?_⟩)
               refine AX.all [8] rfl (by kernel_rfl) (by decide) ⟨?_, trivial⟩
               ·refine AXs.of (i := 8) rfl rfl (by rfl) ?_
                refine zq tb rfl (AO.done ⟨rfl, ?_⟩)
                refine AX.hoist 11 (v := (.bool q55.2)) rfl rfl (by kernel_rfl) (by kernel_rfl) (by kernel_rfl) rfl (hoist_as rfl) ?_
                exact AX.done rfl (by kernel_rfl) (M38 q55.2 q55.1.from_ q55.1.to q55.1.cons (Sh.some_eq h2).symm _ (by refine Wk.trans (Wk.permk (L := [(2, (i64 p2)), (3, (ls eI p3)), (12, (.ptr 0 0 0 0)), (13, (.bool q55.2))]) (st' := [⟨0, 80, 3, [(eRDecl q55.1)]⟩]) (st1 := [⟨0, 80, 3, [(eRDecl q55.1)]⟩]) [1] rfl .nil (by decide) rfl rfl (.raw rfl rfl .nil) ⟨.rfl, .rfl, .rfl, .rfl, trivial⟩) ?_; exact Wk.to (L := [(2, (i64 p2)), (3, (ls eI p3)), (12, (.ptr 0 0 0 0)), (13, (.bool q55.2))]) ⟨.rfl, .rfl, .rfl, .rfl, trivial⟩))
            ·refine AXs.of (i := 8) rfl rfl (by rfl) ?_
             refine zq tb rfl (AO.done ⟨rfl, ?_⟩)
             refine AX.all [7, 9] rfl (by kernel_rfl) (by decide) ⟨?_, ?_, trivial⟩
             ·refine AXs.of (i := 7) rfl rfl (by rfl) ?_
              refine zq tb rfl (AO.done ⟨rfl, ?_⟩)
              refine AX.all [9] rfl (by kernel_rfl) (by decide) ⟨?_, trivial⟩
              ·refine AXs.of (i := 9) rfl rfl (by rfl) ?_
               refine ao_alloc (m := 1) (st' := [⟨0, 97, 2, [(eRSignatures p0)]⟩, ⟨0, 80, 3, [[(i64 0), (i64 0), .zc]]⟩]) go0 zi80 rfl rfl (AO.done ⟨rfl, ?_⟩)
               refine AX.all [10] rfl (by kernel_rfl) (by decide) ⟨?_, trivial⟩
               ·refine AXs.of (i := 10) rfl rfl (by rfl) ?_
                refine ao_str (st' := [⟨0, 97, 2, [(eRSignatures p0)]⟩, ⟨0, 80, 3, [(eRDecl q55.1)]⟩]) go0 ti80 rfl rfl rfl rfl rfl rfl (show 0 + 3 ≤ 3 by decide) rfl (AO.done ⟨rfl, ?_⟩)
                refine AX.hoist 11 (v := (.bool q55.2)) rfl rfl (by kernel_rfl) (by kernel_rfl) (by kernel_rfl) rfl (hoist_as rfl) ?_
                exact AX.done rfl (by kernel_rfl) (M38 q55.2 q55.1.from_ q55.1.to q55.1.cons (Sh.some_eq h2).symm _ (by refine Wk.trans (Wk.permk (L := [(2, (i64 p2)), (3, (ls eI p3)), (12, (.ptr 0 0 0 0)), (13, (.bool q55.2))]) (st' := [⟨0, 80, 3, [(eRDecl q55.1)]⟩]) (st1 := [⟨0, 80, 3, [(eRDecl q55.1)]⟩]) [1] rfl .nil (by decide) rfl rfl (.raw rfl rfl .nil) ⟨.rfl, .rfl, .rfl, .rfl, trivial⟩) ?_; exact Wk.to (L := [(2, (i64 p2)), (3, (ls eI p3)), (12, (.ptr 0 0 0 0)), (13, (.bool q55.2))]) ⟨.rfl, .rfl, .rfl, .rfl, trivial⟩))
             ·refine AXs.of (i := 9) rfl rfl (by rfl) ?_
              refine ao_alloc (m := 1) (st' := [⟨0, 97, 2, [(eRSignatures p0)]⟩, ⟨0, 80, 3, [[(i64 0), (i64 0), .zc]]⟩]) go0 zi80 rfl rfl (AO.done ⟨rfl, ?_⟩)
              refine AX.all [7] rfl (by kernel_rfl) (by decide) ⟨?_, trivial⟩
              ·refine AXs.of (i := 7) rfl rfl (by rfl) ?_
               refine zq tb rfl (AO.done ⟨rfl, ?_⟩)
               refine AX.all [10] rfl (by kernel_rfl) (by decide) ⟨?_, trivial⟩
               ·refine AXs.of (i := 10) rfl rfl (by rfl) ?_
                refine ao_str (st' := [⟨0, 97, 2, [(eRSignatures p0)]⟩, ⟨0, 80, 3, [(eRDecl q55.1)]⟩]) go0 ti80 rfl rfl rfl rfl rfl rfl (show 0 + 3 ≤ 3 by decide) rfl (AO.done ⟨rfl, ?_⟩)
                refine AX.hoist 11 (v := (.bool q55.2)) rfl rfl (by kernel_rfl) (by kernel_rfl) (by kernel_rfl) rfl (hoist_as rfl) ?_
                exact AX.done rfl (by kernel_rfl) (M38 q55.2 q55.1.from_ q55.1.to q55.1.cons (Sh.some_eq h2).symm _ (by refine Wk.trans (Wk.permk (L := [(2, (i64 p2)), (3, (ls eI p3)), (12, (.ptr 0 0 0 0)), (13, (.bool q55.2))]) (st' := [⟨0, 80, 3, [(eRDecl q55.1)]⟩]) (st1 := [⟨0, 80, 3, [(eRDecl q55.1)]⟩]) [1] rfl .nil (by decide) rfl rfl (.raw rfl rfl .nil) ⟨.rfl, .rfl, .rfl, .rfl, trivial⟩) ?_; exact Wk.to (L := [(2, (i64 p2)), (3, (ls eI p3)), (12, (.ptr 0 0 0 0)), (13, (.bool q55.2))]) ⟨.rfl, .rfl, .rfl, .rfl, trivial⟩))
            ·refine AXs.of (i := 9) rfl rfl (by rfl) ?_
             refine ao_alloc (m := 1) (st' := [⟨0, 97, 2, [(eRSignatures p0)]⟩, ⟨0, 80, 3, [[(i64 0), (i64 0), .zc]]⟩]) go0 zi80 rfl rfl (AO.done ⟨rfl, ?_⟩)
             refine AX.all [7, 8] rfl (by kernel_rfl) (by decide) ⟨?_, ?_, trivial⟩
             ·refine AXs.of (i := 7) rfl rfl (by rfl) ?_
              refine zq tb rfl (AO.done ⟨rfl, ?_⟩)
              refine AX.all [8, 10] rfl (by kernel_rfl) (by decide) ⟨?_, ?_, trivial⟩
              ·refine AXs.of (i := 8) rfl rfl (by rfl) ?_
               refine zq tb rfl (AO.done ⟨rfl, ?_⟩)
               refine AX.all [10] rfl (by kernel_rfl) (by decide) ⟨?_, trivial⟩
               ·refine AXs.of (i := 10) rfl rfl (by rfl) ?_
                refine ao_str (st' := [⟨0, 97, 2, [(eRSignatures p0)]⟩, ⟨0, 80, 3, [(eRDecl q55.1)]⟩]) go0 ti80 rfl rfl rfl rfl rfl rfl (show 0 + 3 ≤ 3 by decide) rfl (AO.done ⟨rfl, ?_⟩)
                refine AX.hoist 11 (v := (.bool q55.2)) rfl rfl (by kernel_rfl) (by kernel_rfl) (by kernel_rfl) rfl (hoist_as rfl) ?_
                exact AX.done rfl (by kernel_rfl) (M38 q55.2 q55.1.from_ q55.1.to q55.1.cons (Sh.some_eq h2).symm _ (by refine Wk.trans (Wk.permk (L := [(2, (i64 p2)), (3, (ls eI p3)), (12, (.ptr 0 0 0 0)), (13, (.bool q55.2))]) (st' := [⟨0, 80, 3, [(eRDecl q55.1)]⟩]) (st1 := [⟨0, 80, 3, [(eRDecl q55.1)]⟩]) [1] rfl .nil (by decide) rfl rfl (.raw rfl rfl .nil) ⟨.rfl, .rfl, .rfl, .rfl, trivial⟩) ?_; exact Wk.to (L := [(2, (i64 p2)), (3, (ls eI p3)), (12, (.ptr 0 0 0 0)), (13, (.bool q55.2))]) ⟨.rfl, .rfl, .rfl, .rfl, trivial⟩))
              ·refine AXs.of (i := 10) rfl rfl (by rfl) ?_
               refine ao_str (st' := [⟨0, 97, 2, [(eRSignatures p0)]⟩, ⟨0, 80, 3, [(eRDecl q55.1)]⟩]) go0 ti80 rfl rfl rfl rfl rfl rfl (show 0 + 3 ≤ 3 by decide) rfl (AO.done ⟨rfl, ?_⟩)
               refine AX.all [8] rfl (by kernel_rfl) (by decide) ⟨?_, trivial⟩
               ·refine AXs.of (i := 8) rfl rfl (by rfl) ?_
                refine zq tb rfl (AO.done ⟨rfl, ?_⟩)
                refine AX.hoist 11 (v := (.bool q55.2)) rfl rfl (by kernel_rfl) (by kernel_rfl) (by kernel_rfl) rfl (hoist_as rfl) ?_
                exact AX.done rfl (by kernel_rfl) (M38 q55.2 q55.1.from_ q55.1.to q55.1.cons (Sh.some_eq h2).symm _ (by refine Wk.trans (Wk.permk (L := [(2, (i64 p2)), (3, (ls eI p3)), (12, (.ptr 0 0 0 0)), (13, (.bool q55.2))]) (st' := [⟨0, 80, 3, [(eRDecl q55.1)]⟩]) (st1 := [⟨0, 80, 3, [(eRDecl q55.1)]⟩]) [1] rfl .nil (by decide) rfl rfl (.raw rfl rfl .nil) ⟨.rfl, .rfl, .rfl, .rfl, trivial⟩) ?_; exact Wk.to (L := [(2, (i64 p2)), (3, (ls eI p3)), (12, (.ptr 0 0 0 0)), (13, (.bool q55.2))]) ⟨.rfl, .rfl, .rfl, .rfl, trivial⟩))
             ·refine AXs.of (i := 8) rfl rfl (by rfl) ?_
              refine zq tb rfl (AO.done ⟨rfl, ?_⟩)
              refine AX.all [7] rfl (by kernel_rfl) (by decide) ⟨?_, trivial⟩
              ·refine AXs.of (i := 7) rfl rfl (by rfl) ?_
               refine zq tb rfl (AO.done ⟨rfl, ?_⟩)
               refine AX.all [10] rfl (by kernel_rfl) (by decide) ⟨?_, trivial⟩
               ·refine AXs.of (i := 10) rfl rfl (by rfl) ?_
                refine ao_str (st' := [⟨0, 97, 2, [(eRSignatures p0)]⟩, ⟨0, 80, 3, [(eRDecl q55.1)]⟩]) go0 ti80 rfl rfl rfl rfl rfl rfl (show 0 + 3 ≤ 3 by decide) rfl (AO.done ⟨rfl, ?_⟩)
                refine AX.hoist 11 (v := (.bool q55.2)) rfl rfl (by kernel_rfl) (by kernel_rfl) (by kernel_rfl) rfl (hoist_as rfl) ?_
                exact AX.done rfl (by kernel_rfl) (M38 q55.2 q55.1.from_ q55.1.to q55.1.cons (Sh.some_eq h2).symm _ (by refine Wk.trans (Wk.permk (L := [(2, (i64 p2)), (3, (ls eI p3)), (12, (.ptr 0 0 0 0)), (13, (.bool q55.2))]) (st' := [⟨0, 80, 3, [(eRDecl q55.1)]⟩]) (st1 := [⟨0, 80, 3, [(eRDecl q55.1)]⟩]) [1] rfl .nil (by decide) rfl rfl (.raw rfl rfl .nil) ⟨.rfl, .rfl, .rfl, .rfl, trivial⟩) ?_; exact Wk.to (L := [(2, (i64 p2)), (3, (ls eI p3)), (12, (.ptr 0 0 0 0)), (13, (.bool q55.2))]) ⟨.rfl, .rfl, .rfl, .rfl, trivial⟩))
           ·refine AXs.of (i := 9) rfl rfl (by rfl) ?_
            refine ao_alloc (m := 1) (st' := [⟨0, 97, 2, [(eRSignatures p0)]⟩, ⟨0, 80, 3, [[(i64 0), (i64 0), .zc]]⟩]) go0 zi80 rfl rfl (AO.done ⟨rfl, ?_⟩)
            refine AX.all [5] rfl (by kernel_rfl) (by decide) ⟨?_, trivial⟩
            ·refine AXs.of (i := 5) rfl rfl (by rfl) ?_
             refine bs h2 fun q56 gq56 h2 => zc (v' := (.tup [(.agg (eRDecl q56.1)), (.bool q56.2)])) hb121 (impl_arrowAt_ok gq56) rfl rfl rfl (AO.done ⟨rfl, ?_⟩)
             refine AX.hoist 6 (v := (.tup [(.agg (eRDecl q56.1)), (.bool q56.2)])) rfl rfl (by kernel_rfl) (by kernel_rfl) (by kernel_rfl) rfl (hoist_mv rfl) ?_
             refine AX.all [7, 8] rfl (by kernel_rfl) (by decide) ⟨?_, ?_, trivial⟩
             ·refine AXs.of (i := 7) rfl rfl (by rfl) ?_
              refine zq tb rfl (AO.done ⟨rfl, ?_⟩)
              refine AX.all [8, 10] rfl (by kernel_rfl) (by decide) ⟨?_, ?_, trivial⟩
              ·refine AXs.of (i := 8) rfl rfl (by rfl) ?_
               refine zq tb rfl (AO.done ⟨rfl, ?_⟩)
               refine AX.all [10] rfl (by kernel_rfl) (by decide) ⟨?_, trivial⟩
               ·refine AXs.of (i := 10) rfl rfl (by rfl) ?_
                refine ao_str (st' := [⟨0, 97, 2, [(eRSignatures p0)]⟩, ⟨0, 80, 3, [(eRDecl q56.1)]⟩]) go0 ti80 rfl rfl rfl rfl rfl rfl (show 0 + 3 ≤ 3 by decide) rfl (AO.done ⟨rfl, ?_⟩)
                refine AX.hoist 11 (v := (.bool q56.2)) rfl rfl (by kernel_rfl) (by kernel_rfl) (by kernel_rfl) rfl (hoist_as rfl) ?_
                exact AX.done rfl (by kernel_rfl) (M38 q56.2 q56.1.from_ q56.1.to q56.1.cons (Sh.some_eq h2).symm _ (by refine Wk.trans (Wk.permk (L := [(2, (i64 p2)), (3, (ls eI p3)), (12, (.ptr 0 0 0 0)), (13, (.bool q56.2))]) (st' := [⟨0, 80, 3, [(eRDecl q56.1)]⟩]) (st1 := [⟨0, 80, 3, [(eRDecl q56.1)]⟩]) [1] rfl .nil (by decide) rfl rfl (.raw rfl rfl .nil) ⟨.rfl, .rfl, .rfl, .rfl, trivial⟩) ?_; exact Wk.to (L := [(2, (i64 p2)), (3, (ls eI p3)), (12, (.ptr 0 0 0 0)), (13, (.bool q56.2))]) ⟨.rfl, .rfl, .rfl, .rfl, trivial⟩))
              ·refine AXs.of (i := 10) rfl rfl (by rfl) ?_
               refine ao_str (st' := [⟨0, 97, 2, [(eRSignatures p0)]⟩, ⟨0, 80, 3, [(eRDecl q56.1)]⟩]) go0 ti80 rfl rfl rfl rfl rfl rfl (show 0 + 3 ≤ 3 by decide) rfl (AO.done ⟨rfl, ?_⟩)
               refine AX.all [8] rfl (by kernel_rfl) (by decide) ⟨?_, trivial⟩
               ·refine AXs.of (i := 8) rfl rfl (by rfl) ?_
                refine zq tb rfl (AO.done ⟨rfl, ?_⟩)
                refine AX.hoist 11 (v := (.bool q56.2)) rfl rfl (by kernel_rfl) (by kernel_rfl) (by kernel_rfl) rfl (hoist_as rfl) ?_
                exact AX.done rfl (by kernel_rfl) (M38 q56.2 q56.1.from_ q56.1.to q56.1.cons (Sh.some_eq h2).symm _ (by refine Wk.trans (Wk.permk (L := [(2, (i64 p2)), (3, (ls eI p3)), (12, (.ptr 0 0 0 0)), (13, (.bool q56.2))]) (st' := [⟨0, 80, 3, [(eRDecl q56.1)]⟩]) (st1 := [⟨0, 80, 3, [(eRDecl q56.1)]⟩]) [1] rfl .nil (by decide) rfl rfl (.raw rfl rfl .nil) ⟨.rfl, .rfl, .rfl, .rfl, trivial⟩) ?_; exact Wk.to (L := [(2, (i64 p2)), (3, (ls eI p3)), (12, (.ptr 0 0 0 0)), (13, (.bool q56.2))]) ⟨.rfl, .rfl, .rfl, .rfl, trivial⟩))
             ·refine AXs.of (i := 8) rfl rfl (by rfl) ?_
              refine zq tb rfl (AO.done ⟨rfl, ?_⟩)
              refine AX.all [7] rfl (by kernel_rfl) (by decide) ⟨?_, trivial⟩
              ·refine AXs.of (i := 7) rfl rfl (by rfl) ?_
               refine zq tb rfl (AO.done ⟨rfl, ?_⟩)
               refine AX.all [10] rfl (by kernel_rfl) (by decide) ⟨?_, trivial⟩
               ·refine AXs.of (i := 10) rfl rfl (by rfl) ?_
                refine ao_str (st' := [⟨0, 97, 2, [(eRSignatures p0)]⟩, ⟨0, 80, 3, [(eRDecl q56.1)]⟩]) go0 ti80 rfl rfl rfl rfl rfl rfl (show 0 + 3 ≤ 3 by decide) rfl (AO.done ⟨rfl, ?_⟩)
                refine AX.hoist 11 (v := (.bool q56.2)) rfl rfl (by kernel_rfl) (by kernel_rfl) (by kernel_rfl) rfl (hoist_as rfl) ?_
                exact AX.done rfl (by kernel_rfl) (M38 q56.2 q56.1.from_ q56.1.to q56.1.cons (Sh.some_eq h2).symm _ (by refine Wk.trans (Wk.permk (L := [(2, (i64 p2)), (3, (ls eI p3)), (12, (.ptr 0 0 0 0)), (13, (.bool q56.2))]) (st' := [⟨0, 80, 3, [(eRDecl q56.1)]⟩]) (st1 := [⟨0, 80, 3, [(eRDecl q56.1)]⟩]) [1] rfl .nil (by decide) rfl rfl (.raw rfl rfl .nil) ⟨.rfl, .rfl, .rfl, .rfl, trivial⟩) ?_; exact Wk.to (L := [(2, (i64 p2)), (3, (ls eI p3)), (12, (.ptr 0 0 0 0)), (13, (.bool q56.2))]) ⟨.rfl, .rfl, .rfl, .rfl, trivial⟩))
          ·refine AXs.of (i := 9) rfl rfl (by rfl) ?_
           refine ao_alloc (m := 1) (st' := [⟨0, 97, 2, [(eRSignatures p0)]⟩, ⟨0, 80, 3, [[(i64 0), (i64 0), .zc]]⟩]) go0 zi80 rfl rfl (AO.done ⟨rfl, ?_⟩)
           refine AX.all [1] rfl (by kernel_rfl) (by decide) ⟨?_, trivial⟩
           ·refine AXs.of (i := 1) rfl rfl (by rfl) ?_
            refine zq tb rfl (AO.done ⟨rfl, ?_⟩)
            refine AX.all [5] rfl (by kernel_rfl) (by decide) ⟨?_, trivial⟩
            ·refine AXs.of (i := 5) rfl rfl (by rfl) ?_
             refine bs h2 fun q57 gq57 h2 => zc (v' := (.tup [(.agg (eRDecl q57.1)), (.bool q57.2)])) hb121 (impl_arrowAt_ok gq57) rfl rfl rfl (AO.done ⟨rfl, ?_⟩)
             refine AX.hoist 6 (v := (.tup [(.agg (eRDecl q57.1)), (.bool q57.2)])) rfl rfl (by kernel_rfl) (by kernel_rfl) (by kernel_rfl) rfl (hoist_mv rfl) ?_
             refine AX.all [7, 8] rfl (by kernel_rfl) (by decide) ⟨?_, ?_, trivial⟩
             ·refine AXs.of (i := 7) rfl rfl (by rfl) ?_
              refine zq tb rfl (AO.done ⟨rfl, ?_⟩)
              refine AX.all [8, 10] rfl (by kernel_rfl) (by decide) ⟨?_, ?_, trivial⟩
              ·refine AXs.of (i := 8) rfl rfl (by rfl) ?_
               refine zq tb rfl (AO.done ⟨rfl, ?_⟩)
               refine AX.all [10] rfl (by kernel_rfl) (by decide) ⟨?_, trivial⟩
               ·refine AXs.of (i := 10) rfl rfl (by rfl) ?_
                refine ao_str (st' := [⟨0, 97, 2, [(eRSignatures p0)]⟩, ⟨0, 80, 3, [(eRDecl q57.1)]⟩]) go0 ti80 rfl rfl rfl rfl rfl rfl (show 0 + 3 ≤ 3 by decide) rfl (AO.done ⟨rfl, ?_⟩)
                refine AX.hoist 11 (v := (.bool q57.2)) rfl rfl (by kernel_rfl) (by kernel_rfl) (by kernel_rfl) rfl (hoist_as rfl) ?_
                exact AX.done rfl (by kernel_rfl) (M38 q57.2 q57.1.from_ q57.1.to q57.1.cons (Sh.some_eq h2).symm _ (by refine Wk.trans (Wk.permk (L := [(2, (i64 p2)), (3, (ls eI p3)), (12, (.ptr 0 0 0 0)), (13, (.bool q57.2))]) (st' := [⟨0, 80, 3, [(eRDecl q57.1)]⟩]) (st1 := [⟨0, 80, 3, [(eRDecl q57.1)]⟩]) [1] rfl .nil (by decide) rfl rfl (.raw rfl rfl .nil) ⟨.rfl, .rfl, .rfl, .rfl, trivial⟩) ?_; exact Wk.to (L := [(2, (i64 p2)), (3, (ls eI p3)), (12, (.ptr 0 0 0 0)), (13, (.bool q57.2))]) ⟨.rfl, .rfl, .rfl, .rfl, trivial⟩))
              ·refine AXs.of (i := 10) rfl rfl (by rfl) ?_
               refine ao_str (st' := [⟨0, 97, 2, [(eRSignatures p0)]⟩, ⟨0, 80, 3, [(eRDecl q57.1)]⟩]) go0 ti80 rfl rfl rfl rfl rfl rfl (show 0 + 3 ≤ 3 by decide) rfl (AO.done ⟨rfl, ?_⟩)
               refine AX.all [8] rfl (by kernel_rfl) (by decide) ⟨?_, trivial⟩
               ·refine AXs.of (i := 8) rfl rfl (by rfl) ?_
                refine zq tb rfl (AO.done ⟨rfl, ?_⟩)
                refine AX.hoist 11 (v := (.bool q57.2)) rfl rfl (by kernel_rfl) (by kernel_rfl) (by kernel_rfl) rfl (hoist_as rfl) ?_
                exact AX.done rfl (by kernel_rfl) (M38 q57.2 q57.1.from_ q57.1.to q57.1.cons (Sh.some_eq h2).symm _ (by refine Wk.trans (Wk.permk (L := [(2, (i64 p2)), (3, (ls eI p3)), (12, (.ptr 0 0 0 0)), (13, (.bool q57.2))]) (st' := [⟨0, 80, 3, [(eRDecl q57.1)]⟩]) (st1 := [⟨0, 80, 3, [(eRDecl q57.1)]⟩]) [1] rfl .nil (by decide) rfl rfl (.raw rfl rfl .nil) ⟨.rfl, .rfl, .rfl, .rfl, trivial⟩) ?_; exact Wk.to (L := [(2, (i64 p2)), (3, (ls eI p3)), (12, (.ptr 0 0 0 0)), (13, (.bool q57.2))]) ⟨.rfl, .rfl, .rfl, .rfl, trivial⟩))
             ·refine AXs.of (i := 8) rfl rfl (by rfl) ?_
              refine zq tb rfl (AO.done ⟨rfl, ?_⟩)
              refine AX.all [7] rfl (by kernel_rfl) (by decide) ⟨?_, trivial⟩
              ·refine AXs.of (i := 7) rfl rfl (by rfl) ?_
               refine zq tb rfl (AO.done ⟨rfl, ?_⟩)
               refine AX.all [10] rfl (by kernel_rfl) (by decide) ⟨?_, trivial⟩
               ·refine AXs.of (i := 10) rfl rfl (by rfl) ?_
                refine ao_str (st' := [⟨0, 97, 2, [(eRSignatures p0)]⟩, ⟨0, 80, 3, [(eRDecl q57.1)]⟩]) go0 ti80 rfl rfl rfl rfl rfl rfl (show 0 + 3 ≤ 3 by decide) rfl (AO.done ⟨rfl, ?_⟩)
                refine AX.hoist 11 (v := (.bool q57.2)) rfl rfl (by kernel_rfl) (by kernel_rfl) (by kernel_rfl) rfl (hoist_as rfl) ?_
                exact AX.done rfl (by kernel_rfl) (M38 q57.2 q57.1.from_ q57.1.to q57.1.cons (Sh.some_eq h2).symm _ (by refine Wk.trans (Wk.permk (L := [(2, (i64 p2)), (3, (ls eI p3)), (12, (.ptr 0 0 0 0)), (13, (.bool q57.2))]) (st' := [⟨0, 80, 3, [(eRDecl q57.1)]⟩]) (st1 := [⟨0, 80, 3, [(eRDecl q57.1)]⟩]) [1] rfl .nil (by decide) rfl rfl (.raw rfl rfl .nil) ⟨.rfl, .rfl, .rfl, .rfl, trivial⟩) ?_; exact Wk.to (L := [(2, (i64 p2)), (3, (ls eI p3)), (12, (.ptr 0 0 0 0)), (13, (.bool q57.2))]) ⟨.rfl, .rfl, .rfl, .rfl, trivial⟩))
         ·refine AXs.of (i := 9) rfl rfl (by rfl) ?_
          refine ao_alloc (m := 1) (st' := [⟨0, 97, 2, [(eRSignatures p0)]⟩, ⟨0, 80, 3, [[(i64 0), (i64 0), .zc]]⟩]) go0 zi80 rfl rfl (AO.done ⟨rfl, ?_⟩)
          refine AX.all [1, 4] rfl (by kernel_rfl) (by decide) ⟨?_, ?_, trivial⟩
          ·refine AXs.of (i := 1) rfl rfl (by rfl) ?_
           refine zq tb rfl (AO.done ⟨rfl, ?_⟩)
           refine AX.all [4] rfl (by kernel_rfl) (by decide) ⟨?_, trivial⟩
           ·refine AXs.of (i := 4) rfl rfl (by rfl) ?_
            refine zq tb rfl (AO.done ⟨rfl, ?_⟩)
            refine AX.all [5] rfl (by kernel_rfl) (by decide) ⟨?_, trivial⟩
            ·refine AXs.of (i := 5) rfl rfl (by rfl) ?_
             refine bs h2 fun q58 gq58 h2 => zc (v' := (.tup [(.agg (eRDecl q58.1)), (.bool q58.2)])) hb121 (impl_arrowAt_ok gq58) rfl rfl rfl (AO.done ⟨rfl, ?_⟩)
             refine AX.hoist 6 (v := (.tup [(.agg (eRDecl q58.1)), (.bool q58.2)])) rfl rfl (by kernel_rfl) (by kernel_rfl) (by kernel_rfl) rfl (hoist_mv rfl) ?_
             refine AX.all [7, 8] rfl (by kernel_rfl) (by decide) ⟨?_, ?_, trivial⟩
             ·refine AXs.of (i := 7) rfl rfl (by rfl) ?_
              refine zq tb rfl (AO.done ⟨rfl, ?_⟩)
              refine AX.all [8, 10] rfl (by kernel_rfl) (by decide) ⟨?_, ?_, trivial⟩
              ·refine AXs.of (i := 8) rfl rfl (by rfl) ?_
               refine zq tb rfl (AO.done ⟨rfl, ?_⟩)
               refine AX.all [10] rfl (by kernel_rfl) (by decide) ⟨?_, trivial⟩
               ·refine AXs.of (i := 10) rfl rfl (by rfl) ?_
                refine ao_str (st' := [⟨0, 97, 2, [(eRSignatures p0)]⟩, ⟨0, 80, 3, [(eRDecl q58.1)]⟩]) go0 ti80 rfl rfl rfl rfl rfl rfl (show 0 + 3 ≤ 3 by decide) rfl (AO.done ⟨rfl, ?_⟩)
                refine AX.hoist 11 (v := (.bool q58.2)) rfl rfl (by kernel_rfl) (by kernel_rfl) (by kernel_rfl) rfl (hoist_as rfl) ?_
                exact AX.done rfl (by kernel_rfl) (M38 q58.2 q58.1.from_ q58.1.to q58.1.cons (Sh.some_eq h2).symm _ (by refine Wk.trans (Wk.permk (L := [(2, (i64 p2)), (3, (ls eI p3)), (12, (.ptr 0 0 0 0)), (13, (.bool q58.2))]) (st' := [⟨0, 80, 3, [(eRDecl q58.1)]⟩]) (st1 := [⟨0, 80, 3, [(eRDecl q58.1)]⟩]) [1] rfl .nil (by decide) rfl rfl (.raw rfl rfl .nil) ⟨.rfl, .rfl, .rfl, .rfl, trivial⟩) ?_; exact Wk.to (L := [(2, (i64 p2)), (3, (ls eI p3)), (12, (.ptr 0 0 0 0)), (13, (.bool q58.2))]) ⟨.rfl, .rfl, .rfl, .rfl, trivial⟩))
              ·refine AXs.of (i := 10) rfl rfl (by rfl) ?_
               refine ao_str (st' := [⟨0, 97, 2, [(eRSignatures p0)]⟩, ⟨0, 80, 3, [(eRDecl q58.1)]⟩]) go0 ti80 rfl rfl rfl rfl rfl rfl (show 0 + 3 ≤ 3 by decide) rfl (AO.done ⟨rfl, ?_⟩)
               refine AX.all [8] rfl (by kernel_rfl) (by decide) ⟨?_, trivial⟩
               ·refine AXs.of (i := 8) rfl rfl (by rfl) ?_
                refine zq tb rfl (AO.done ⟨rfl, ?_⟩)
                refine AX.hoist 11 (v := (.bool q58.2)) rfl rfl (by kernel_rfl) (by kernel_rfl) (by kernel_rfl) rfl (hoist_as rfl) ?_
                exact AX.done rfl (by kernel_rfl) (M38 q58.2 q58.1.from_ q58.1.to q58.1.cons (Sh.some_eq h2).symm _ (by refine Wk.trans (Wk.permk (L := [(2, (i64 p2)), (3, (ls eI p3)), (12, (.ptr 0 0 0 0)), (13, (.bool q58.2))]) (st' := [⟨0, 80, 3, [(eRDecl q58.1)]⟩]) (st1 := [⟨0, 80, 3, [(eRDecl q58.1)]⟩]) [1] rfl .nil (by decide) rfl rfl (.raw rfl rfl .nil) ⟨.rfl, .rfl, .rfl, .rfl, trivial⟩) ?_; exact Wk.to (L := [(2, (i64 p2)), (3, (ls eI p3)), (12, (.ptr 0 0 0 0)), (13, (.bool q58.2))]) ⟨.rfl, .rfl, .rfl, .rfl, trivial⟩))
             ·refine AXs.of (i := 8) rfl rfl (by rfl) ?_
              refine zq tb rfl (AO.done ⟨rfl, ?_⟩)
              refine AX.all [7] rfl (by kernel_rfl) (by decide) ⟨?_, trivial⟩
              ·refine AXs.of (i := 7) rfl rfl (by rfl) ?_
               refine zq tb rfl (AO.done ⟨rfl, ?_⟩)
               refine AX.all [10] rfl (by kernel_rfl) (by decide) ⟨?_, trivial⟩
               ·refine AXs.of (i := 10) rfl rfl (by rfl) ?_
                refine ao_str (st' := [⟨0, 97, 2, [(eRSignatures p0)]⟩, ⟨0, 80, 3, [(eRDecl q58.1)]⟩]) go0 ti80 rfl rfl rfl rfl rfl rfl (show 0 + 3 ≤ 3 by decide) rfl (AO.done ⟨rfl, ?_⟩)
                refine AX.hoist 11 (v := (.bool q58.2)) rfl rfl (by kernel_rfl) (by kernel_rfl) (by kernel_rfl) rfl (hoist_as rfl) ?_
                exact AX.done rfl (by kernel_rfl) (M38 q58.2 q58.1.from_ q58.1.to q58.1.cons (Sh.some_eq h2).symm _ (by refine Wk.trans (Wk.permk (L := [(2, (i64 p2)), (3, (ls eI p3)), (12, (.ptr 0 0 0 0)), (13, (.bool q58.2))]) (st' := [⟨0, 80, 3, [(eRDecl q58.1)]⟩]) (st1 := [⟨0, 80, 3, [(eRDecl q58.1)]⟩]) [1] rfl .nil (by decide) rfl rfl (.raw rfl rfl .nil) ⟨.rfl, .rfl, .rfl, .rfl, trivial⟩) ?_; exact Wk.to (L := [(2, (i64 p2)), (3, (ls eI p3)), (12, (.ptr 0 0 0 0)), (13, (.bool q58.2))]) ⟨.rfl, .rfl, .rfl, .rfl, trivial⟩))
          ·refine AXs.of (i := 4) rfl rfl (by rfl) ?_
           refine zq tb rfl (AO.done ⟨rfl, ?_⟩)
           refine AX.all [1] rfl (by kernel_rfl) (by decide) ⟨?_, trivial⟩
           ·refine AXs.of (i := 1) rfl rfl (by rfl) ?_
            refine zq tb rfl (AO.done ⟨rfl, ?_⟩)
            refine AX.all [5] rfl (by kernel_rfl) (by decide) ⟨?_, trivial⟩
            ·refine AXs.of (i := 5) rfl rfl (by rfl) ?_
             refine bs h2 fun q59 gq59 h2 => zc (v' := (.tup [(.agg (eRDecl q59.1)), (.bool q59.2)])) hb121 (impl_arrowAt_ok gq59) rfl rfl rfl (AO.done ⟨rfl, ?_⟩)
             refine AX.hoist 6 (v := (.tup [(.agg (eRDecl q59.1)), (.bool q59.2)])) rfl rfl (by kernel_rfl) (by kernel_rfl) (by kernel_rfl) rfl (hoist_mv rfl) ?_
             refine AX.all [7, 8] rfl (by kernel_rfl) (by decide) ⟨?_, ?_, trivial⟩
             ·refine AXs.of (i := 7) rfl rfl (by rfl) ?_
              refine zq tb rfl (AO.done ⟨rfl, ?_⟩)
              refine AX.all [8, 10] rfl (by kernel_rfl) (by decide) ⟨?_, ?_, trivial⟩
              ·refine AXs.of (i := 8) rfl rfl (by rfl) ?_
               refine zq tb rfl (AO.done ⟨rfl, ?_⟩)
               refine AX.all [10] rfl (by kernel_rfl) (by decide) ⟨?_, trivial⟩
               ·refine AXs.of (i := 10) rfl rfl (by rfl) ?_
                refine ao_str (st' := [⟨0, 97, 2, [(eRSignatures p0)]⟩, ⟨0, 80, 3, [(eRDecl q59.1)]⟩]) go0 ti80 rfl rfl rfl rfl rfl rfl (show 0 + 3 ≤ 3 by decide) rfl (AO.done ⟨rfl, ?_⟩)
                refine AX.hoist 11 (v := (.bool q59.2)) rfl rfl (by kernel_rfl) (by kernel_rfl) (by kernel_rfl) rfl (hoist_as rfl) ?_
                exact AX.done rfl (by kernel_rfl) (M38 q59.2 q59.1.from_ q59.1.to q59.1.cons (Sh.some_eq h2).symm _ (by refine Wk.trans (Wk.permk (L := [(2, (i64 p2)), (3, (ls eI p3)), (12, (.ptr 0 0 0 0)), (13, (.bool q59.2))]) (st' := [⟨0, 80, 3, [(eRDecl q59.1)]⟩]) (st1 := [⟨0, 80, 3, [(eRDecl q59.1)]⟩]) [1] rfl .nil (by decide) rfl rfl (.raw rfl rfl .nil) ⟨.rfl, .rfl, .rfl, .rfl, trivial⟩) ?_; exact Wk.to (L := [(2, (i64 p2)), (3, (ls eI p3)), (12, (.ptr 0 0 0 0)), (13, (.bool q59.2))]) ⟨.rfl, .rfl, .rfl, .rfl, trivial⟩))
              ·refine AXs.of (i := 10) rfl rfl (by rfl) ?_
               refine ao_str (st' := [⟨0, 97, 2, [(eRSignatures p0)]⟩, ⟨0, 80, 3, [(eRDecl q59.1)]⟩]) go0 ti80 rfl rfl rfl rfl rfl rfl (show 0 + 3 ≤ 3 by decide) rfl (AO.done ⟨rfl, ?_⟩)
               refine AX.all [8] rfl (by kernel_rfl) (by decide) ⟨?_, trivial⟩
               ·refine AXs.of (i := 8) rfl rfl (by rfl) ?_
                refine zq tb rfl (AO.done ⟨rfl, ?_⟩)
                refine AX.hoist 11 (v := (.bool q59.2)) rfl rfl (by kernel_rfl) (by kernel_rfl) (by kernel_rfl) rfl (hoist_as rfl) ?_
                exact AX.done rfl (by kernel_rfl) (M38 q59.2 q59.1.from_ q59.1.to q59.1.cons (Sh.some_eq h2).symm _ (by refine Wk.trans (Wk.permk (L := [(2, (i64 p2)), (3, (ls eI p3)), (12, (.ptr 0 0 0 0)), (13, (.bool q59.2))]) (st' := [⟨0, 80, 3, [(eRDecl q59.1)]⟩]) (st1 := [⟨0, 80, 3, [(eRDecl q59.1)]⟩]) [1] rfl .nil (by decide) rfl rfl (.raw rfl rfl .nil) ⟨.rfl, .rfl, .rfl, .rfl, trivial⟩) ?_; exact Wk.to (L := [(2, (i64 p2)), (3, (ls eI p3)), (12, (.ptr 0 0 0 0)), (13, (.bool q59.2))]) ⟨.rfl, .rfl, .rfl, .rfl, trivial⟩))
             ·refine AXs.of (i := 8) rfl rfl (by rfl) ?_
              refine zq tb rfl (AO.done ⟨rfl, ?_⟩)
              refine AX.all [7] rfl (by kernel_rfl) (by decide) ⟨?_, trivial⟩
              ·refine AXs.of (i := 7) rfl rfl (by rfl) ?_
               refine zq tb rfl (AO.done ⟨rfl, ?_⟩)
               refine AX.all [10] rfl (by kernel_rfl) (by decide) ⟨?_, trivial⟩
               ·refine AXs.of (i := 10) rfl rfl (by rfl) ?_
                refine ao_str (st' := [⟨0, 97, 2, [(eRSignatures p0)]⟩, ⟨0, 80, 3, [(eRDecl q59.1)]⟩]) go0 ti80 rfl rfl rfl rfl rfl rfl (show 0 + 3 ≤ 3 by decide) rfl (AO.done ⟨rfl, ?_⟩)
                refine AX.hoist 11 (v := (.bool q59.2)) rfl rfl (by kernel_rfl) (by kernel_rfl) (by kernel_rfl) rfl (hoist_as rfl) ?_
                exact AX.done rfl (by kernel_rfl) (M38 q59.2 q59.1.from_ q59.1.to q59.1.cons (Sh.some_eq h2).symm _ (by refine Wk.trans (Wk.permk (L := [(2, (i64 p2)), (3, (ls eI p3)), (12, (.ptr 0 0 0 0)), (13, (.bool q59.2))]) (st' := [⟨0, 80, 3, [(eRDecl q59.1)]⟩]) (st1 := [⟨0, 80, 3, [(eRDecl q59.1)]⟩]) [1] rfl .nil (by decide) rfl rfl (.raw rfl rfl .nil) ⟨.rfl, .rfl, .rfl, .rfl, trivial⟩) ?_; exact Wk.to (L := [(2, (i64 p2)), (3, (ls eI p3)), (12, (.ptr 0 0 0 0)), (13, (.bool q59.2))]) ⟨.rfl, .rfl, .rfl, .rfl, trivial⟩))
        ·refine AXs.of (i := 9) rfl rfl (by rfl) ?_
         refine ao_alloc (m := 1) (st' := [⟨0, 97, 2, [(eRSignatures p0)]⟩, ⟨0, 80, 3, [[(i64 0), (i64 0), .zc]]⟩]) go0 zi80 rfl rfl (AO.done ⟨rfl, ?_⟩)
         refine AX.all [1, 3] rfl (by kernel_rfl) (by decide) ⟨?_, ?_, trivial⟩
         ·refine AXs.of (i := 1) rfl rfl (by rfl) ?_
          refine zq tb rfl (AO.done ⟨rfl, ?_⟩)
          refine AX.all [3] rfl (by kernel_rfl) (by decide) ⟨?_, trivial⟩
          ·refine AXs.of (i := 3) rfl rfl (by rfl) ?_
           refine bs h2 fun c60 gc60 h2 => zx ei40 gc60 rfl rfl rfl (AO.done ⟨rfl, ?_⟩)
           refine AX.all [4] rfl (by kernel_rfl) (by decide) ⟨?_, trivial⟩
           ·refine AXs.of (i := 4) rfl rfl (by rfl) ?_
            refine zq tb rfl (AO.done ⟨rfl, ?_⟩)
            refine AX.all [5] rfl (by kernel_rfl) (by decide) ⟨?_, trivial⟩
            ·refine AXs.of (i := 5) rfl rfl (by rfl) ?_
             refine bs h2 fun q61 gq61 h2 => zc (v' := (.tup [(.agg (eRDecl q61.1)), (.bool q61.2)])) hb121 (impl_arrowAt_ok gq61) rfl rfl rfl (AO.done ⟨rfl, ?_⟩)
             refine AX.hoist 6 (v := (.tup [(.agg (eRDecl q61.1)), (.bool q61.2)])) rfl rfl (by kernel_rfl) (by kernel_rfl) (by kernel_rfl) rfl (hoist_mv rfl) ?_
             refine AX.all [7, 8] rfl (by kernel_rfl) (by decide) ⟨?_, ?_, trivial⟩
             ·refine AXs.of (i := 7) rfl rfl (by rfl) ?_
              refine zq tb rfl (AO.done ⟨rfl, ?_⟩)
              refine AX.all [8, 10] rfl (by kernel_rfl) (by decide) ⟨?_, ?_, trivial⟩
              ·refine AXs.of (i := 8) rfl rfl (by rfl) ?_
               refine zq tb rfl (AO.done ⟨rfl, ?_⟩)
               refine AX.all [10] rfl (by kernel_rfl) (by decide) ⟨?_, trivial⟩
               ·refine AXs.of (i := 10) rfl rfl (by rfl) ?_
                refine ao_str (st' := [⟨0, 97, 2, [(eRSignatures p0)]⟩, ⟨0, 80, 3, [(eRDecl q61.1)]⟩]) go0 ti80 rfl rfl rfl rfl rfl rfl (show 0 + 3 ≤ 3 by decide) rfl (AO.done ⟨rfl, ?_⟩)
                refine AX.hoist 11 (v := (.bool q61.2)) rfl rfl (by kernel_rfl) (by kernel_rfl) (by kernel_rfl) rfl (hoist_as rfl) ?_
                exact AX.done rfl (by kernel_rfl) (M38 q61.2 q61.1.from_ q61.1.to q61.1.cons (Sh.some_eq h2).symm _ (by refine Wk.trans (Wk.permk (L := [(2, (i64 p2)), (3, (ls eI p3)), (12, (.ptr 0 0 0 0)), (13, (.bool q61.2))]) (st' := [⟨0, 80, 3, [(eRDecl q61.1)]⟩]) (st1 := [⟨0, 80, 3, [(eRDecl q61.1)]⟩]) [1] rfl .nil (by decide) rfl rfl (.raw rfl rfl .nil) ⟨.rfl, .rfl, .rfl, .rfl, trivial⟩) ?_; exact Wk.to (L := [(2, (i64 p2)), (3, (ls eI p3)), (12, (.ptr 0 0 0 0)), (13, (.bool q61.2))]) ⟨.rfl, .rfl, .rfl, .rfl, trivial⟩))
              ·refine AXs.of (i := 10) rfl rfl (by rfl) ?_
               refine ao_str (st' := [⟨0, 97, 2, [(eRSignatures p0)]⟩, ⟨0, 80, 3, [(eRDecl q61.1)]⟩]) go0 ti80 rfl rfl rfl rfl rfl rfl (show 0 + 3 ≤ 3 by decide) rfl (AO.done ⟨rfl, ?_⟩)
               refine AX.all [8] rfl (by kernel_rfl) (by decide) ⟨?_, trivial⟩
               ·refine AXs.of (i := 8) rfl rfl (by rfl) ?_
                refine zq tb rfl (AO.done ⟨rfl, ?_⟩)
                refine AX.hoist 11 (v := (.bool q61.2)) rfl rfl (by kernel_rfl) (by kernel_rfl) (by kernel_rfl) rfl (hoist_as rfl) ?_
                exact AX.done rfl (by kernel_rfl) (M38 q61.2 q61.1.from_ q61.1.to q61.1.cons (Sh.some_eq h2).symm _ (by refine Wk.trans (Wk.permk (L := [(2, (i64 p2)), (3, (ls eI p3)), (12, (.ptr 0 0 0 0)), (13, (.bool q61.2))]) (st' := [⟨0, 80, 3, [(eRDecl q61.1)]⟩]) (st1 := [⟨0, 80, 3, [(eRDecl q61.1)]⟩]) [1] rfl .nil (by decide) rfl rfl (.raw rfl rfl .nil) ⟨.rfl, .rfl, .rfl, .rfl, trivial⟩) ?_; exact Wk.to (L := [(2, (i64 p2)), (3, (ls eI p3)), (12, (.ptr 0 0 0 0)), (13, (.bool q61.2))]) ⟨.rfl, .rfl, .rfl, .rfl, trivial⟩))
             ·refine AXs.of (i := 8) rfl rfl (by rfl) ?_
              refine zq tb rfl (AO.done ⟨rfl, ?_⟩)
              refine AX.all [7] rfl (by kernel_rfl) (by decide) ⟨?_, trivial⟩
              ·refine AXs.of (i := 7) rfl rfl (by rfl) ?_
               refine zq tb rfl (AO.done ⟨rfl, ?_⟩)
               refine AX.all [10] rfl (by kernel_rfl) (by decide) ⟨?_, trivial⟩
               ·refine AXs.of (i := 10) rfl rfl (by rfl) ?_
                refine ao_str (st' := [⟨0, 97, 2, [(eRSignatures p0)]⟩, ⟨0, 80, 3, [(eRDecl q61.1)]⟩]) go0 ti80 rfl rfl rfl rfl rfl rfl (show 0 + 3 ≤ 3 by decide) rfl (AO.done ⟨rfl, ?_⟩)
                refine AX.hoist 11 (v := (.bool q61.2)) rfl rfl (by kernel_rfl) (by kernel_rfl) (by kernel_rfl) rfl (hoist_as rfl) ?_
                exact AX.done rfl (by kernel_rfl) (M38 q61.2 q61.1.from_ q61.1.to q61.1.cons (Sh.some_eq h2).symm _ (by refine Wk.trans (Wk.permk (L := [(2, (i64 p2)), (3, (ls eI p3)), (12, (.ptr 0 0 0 0)), (13, (.bool q61.2))]) (st' := [⟨0, 80, 3, [(eRDecl q61.1)]⟩]) (st1 := [⟨0, 80, 3, [(eRDecl q61.1)]⟩]) [1] rfl .nil (by decide) rfl rfl (.raw rfl rfl .nil) ⟨.rfl, .rfl, .rfl, .rfl, trivial⟩) ?_; exact Wk.to (L := [(2, (i64 p2)), (3, (ls eI p3)), (12, (.ptr 0 0 0 0)), (13, (.bool q61.2))]) ⟨.rfl, .rfl, .rfl, .rfl, trivial⟩))
         ·refine AXs.of (i := 3) rfl rfl (by rfl) ?_
          refine bs h2 fun c62 gc62 h2 => zx ei40 gc62 rfl rfl rfl (AO.done ⟨rfl, ?_⟩)
          refine AX.all [1, 4] rfl (by kernel_rfl) (by decide) ⟨?_, ?_, trivial⟩
          ·refine AXs.of (i := 1) rfl rfl (by rfl) ?_
           refine zq tb rfl (AO.done ⟨rfl, ?_⟩)
           refine AX.all [4] rfl (by kernel_rfl) (by decide) ⟨?_, trivial⟩
           ·refine AXs.of (i := 4) rfl rfl (by rfl) ?_
            refine zq tb rfl (AO.done ⟨rfl, ?_⟩)
            refine AX.all [5] rfl (by kernel_rfl) (by decide) ⟨?_, trivial⟩
            ·refine AXs.of (i := 5) rfl rfl (by rfl) ?_
             refine bs h2 fun q63 gq63 h2 => zc (v' := (.tup [(.agg (eRDecl q63.1)), (.bool q63.2)])) hb121 (impl_arrowAt_ok gq63) rfl rfl rfl (AO.done ⟨rfl, ?_⟩)
             refine AX.hoist 6 (v := (.tup [(.agg (eRDecl q63.1)), (.bool q63.2)])) rfl rfl (by kernel_rfl) (by kernel_rfl) (by kernel_rfl) rfl (hoist_mv rfl) ?_
             refine AX.all [7, 8] rfl (by kernel_rfl) (by decide) ⟨?_, ?_, trivial⟩
             ·refine AXs.of (i := 7) rfl rfl (by rfl) ?_
              refine zq tb rfl (AO.done ⟨rfl, ?_⟩)
              refine AX.all [8, 10] rfl (by kernel_rfl) (by decide) ⟨?_, ?_, trivial⟩
              ·refine AXs.of (i := 8) rfl rfl (by rfl) ?_
               refine zq tb rfl (AO.done ⟨rfl, ?_⟩)
               refine AX.all [10] rfl (by kernel_rfl) (by decide) ⟨?_, trivial⟩
               ·refine AXs.of (i := 10) rfl rfl (by rfl) ?_
                refine ao_str (st' := [⟨0, 97, 2, [(eRSignatures p0)]⟩, ⟨0, 80, 3, [(eRDecl q63.1)]⟩]) go0 ti80 rfl rfl rfl rfl rfl rfl (show 0 + 3 ≤ 3 by decide) rfl (AO.done ⟨rfl, ?_⟩)
                refine AX.hoist 11 (v := (.bool q63.2)) rfl rfl (by kernel_rfl) (by kernel_rfl) (by kernel_rfl) rfl (hoist_as rfl) ?_
                exact AX.done rfl (by kernel_rfl) (M38 q63.2 q63.1.from_ q63.1.to q63.1.cons (Sh.some_eq h2).symm _ (by refine Wk.trans (Wk.permk (L := [(2, (i64 p2)), (3, (ls eI p3)), (12, (.ptr 0 0 0 0)), (13, (.bool q63.2))]) (st' := [⟨0, 80, 3, [(eRDecl q63.1)]⟩]) (st1 := [⟨0, 80, 3, [(eRDecl q63.1)]⟩]) [1] rfl .nil (by decide) rfl rfl (.raw rfl rfl .nil) ⟨.rfl, .rfl, .rfl, .rfl, trivial⟩) ?_; exact Wk.to (L := [(2, (i64 p2)), (3, (ls eI p3)), (12, (.ptr 0 0 0 0)), (13, (.bool q63.2))]) ⟨.rfl, .rfl, .rfl, .rfl, trivial⟩))
              ·refine AXs.of (i := 10) rfl rfl (by rfl) ?_
               refine ao_str (st' := [⟨0, 97, 2, [(eRSignatures p0)]⟩, ⟨0, 80, 3, [(eRDecl q63.1)]⟩]) go0 ti80 rfl rfl rfl rfl rfl rfl (show 0 + 3 ≤ 3 by decide) rfl (AO.done ⟨rfl, ?_⟩)
               refine AX.all [8] rfl (by kernel_rfl) (by decide) ⟨?_, trivial⟩
               ·refine AXs.of (i := 8) rfl rfl (by rfl) ?_
                refine zq tb rfl (AO.done ⟨rfl, ?_⟩)
                refine AX.hoist 11 (v := (.bool q63.2)) rfl rfl (by kernel_rfl) (by kernel_rfl) (by kernel_rfl) rfl (hoist_as rfl) ?_
                exact AX.done rfl (by kernel_rfl) (M38 q63.2 q63.1.from_ q63.1.to q63.1.cons (Sh.some_eq h2).symm _ (by refine Wk.trans (Wk.permk (L := [(2, (i64 p2)), (3, (ls eI p3)), (12, (.ptr 0 0 0 0)), (13, (.bool q63.2))]) (st' := [⟨0, 80, 3, [(eRDecl q63.1)]⟩]) (st1 := [⟨0, 80, 3, [(eRDecl q63.1)]⟩]) [1] rfl .nil (by decide) rfl rfl (.raw rfl rfl .nil) ⟨.rfl, .rfl, .rfl, .rfl, trivial⟩) ?_; exact Wk.to (L := [(2, (i64 p2)), (3, (ls eI p3)), (12, (.ptr 0 0 0 0)), (13, (.bool q63.2))]) ⟨.rfl, .rfl, .rfl, .rfl, trivial⟩))
             ·refine AXs.of (i := 8) rfl rfl (by rfl) ?_
              refine zq tb rfl (AO.done ⟨rfl, ?_⟩)
              refine AX.all [7] rfl (by kernel_rfl) (by decide) ⟨?_, trivial⟩
              ·refine AXs.of (i := 7) rfl rfl (by rfl) ?_
               refine zq tb rfl (AO.done ⟨rfl, ?_⟩)
               refine AX.all [10] rfl (by kernel_rfl) (by decide) ⟨?_, trivial⟩
               ·refine AXs.of (i := 10) rfl rfl (by rfl) ?_
                refine ao_str (st' := [⟨0, 97, 2, [(eRSignatures p0)]⟩, ⟨0, 80, 3, [(eRDecl q63.1)]⟩]) go0 ti80 rfl rfl rfl rfl rfl rfl (show 0 + 3 ≤ 3 by decide) rfl (AO.done ⟨rfl, ?_⟩)
                refine AX.hoist 11 (v := (.bool q63.2)) rfl rfl (by kernel_rfl) (by kernel_rfl) (by kernel_rfl) rfl (hoist_as rfl) ?_
                exact AX.done rfl (by kernel_rfl) (M38 q63.2 q63.1.from_ q63.1.to q63.1.cons (Sh.some_eq h2).symm _ (by refine Wk.trans (Wk.permk (L := [(2, (i64 p2)), (3, (ls eI p3)), (12, (.ptr 0 0 0 0)), (13, (.bool q63.2))]) (st' := [⟨0, 80, 3, [(eRDecl q63.1)]⟩]) (st1 := [⟨0, 80, 3, [(eRDecl q63.1)]⟩]) [1] rfl .nil (by decide) rfl rfl (.raw rfl rfl .nil) ⟨.rfl, .rfl, .rfl, .rfl, trivial⟩) ?_; exact Wk.to (L := [(2, (i64 p2)), (3, (ls eI p3)), (12, (.ptr 0 0 0 0)), (13, (.bool q63.2))]) ⟨.rfl, .rfl, .rfl, .rfl, trivial⟩))
          ·refine AXs.of (i := 4) rfl rfl (by rfl) ?_
           refine zq tb rfl (AO.done ⟨rfl, ?_⟩)
           refine AX.all [1] rfl (by kernel_rfl) (by decide) ⟨?_, trivial⟩
           ·refine AXs.of (i := 1) rfl rfl (by rfl) ?_
            refine zq tb rfl (AO.done ⟨rfl, ?_⟩)
            refine AX.all [5] rfl (by kernel_rfl) (by decide) ⟨?_, trivial⟩
            ·refine AXs.of (i := 5) rfl rfl (by rfl) ?_
             refine bs h2 fun q64 gq64 h2 => zc (v' := (.tup [(.agg (eRDecl q64.1)), (.bool q64.2)])) hb121 (impl_arrowAt_ok gq64) rfl rfl rfl (AO.done ⟨rfl, ?_⟩)
             refine AX.hoist 6 (v := (.tup [(.agg (eRDecl q64.1)), (.bool q64.2)])) rfl rfl (by kernel_rfl) (by kernel_rfl) (by kernel_rfl) rfl (hoist_mv rfl) ?_
             refine AX.all [7, 8] rfl (by kernel_rfl) (by decide) ⟨?_, ?_, trivial⟩
             ·refine AXs.of (i := 7) rfl rfl (by rfl) ?_
              refine zq tb rfl (AO.done ⟨rfl, ?_⟩)
              refine AX.all [8, 10] rfl (by kernel_rfl) (by decide) ⟨?_, ?_, trivial⟩
              ·refine AXs.of (i := 8) rfl rfl (by rfl) ?_
               refine zq tb rfl (AO.done ⟨rfl, ?_⟩)
               refine AX.all [10] rfl (by kernel_rfl) (by decide) ⟨?_, trivial⟩
               ·refine AXs.of (i := 10) rfl rfl (by rfl) ?_
                refine ao_str (st' := [⟨0, 97, 2, [(eRSignatures p0)]⟩, ⟨0, 80, 3, [(eRDecl q64.1)]⟩]) go0 ti80 rfl rfl rfl rfl rfl rfl (show 0 + 3 ≤ 3 by decide) rfl (AO.done ⟨rfl, ?_⟩)
                refine AX.hoist 11 (v := (.bool q64.2)) rfl rfl (by kernel_rfl) (by kernel_rfl) (by kernel_rfl) rfl (hoist_as rfl) ?_
                exact AX.done rfl (by kernel_rfl) (M38 q64.2 q64.1.from_ q64.1.to q64.1.cons (Sh.some_eq h2).symm _ (by refine Wk.trans (Wk.permk (L := [(2, (i64 p2)), (3, (ls eI p3)), (12, (.ptr 0 0 0 0)), (13, (.bool q64.2))]) (st' := [⟨0, 80, 3, [(eRDecl q64.1)]⟩]) (st1 := [⟨0, 80, 3, [(eRDecl q64.1)]⟩]) [1] rfl .nil (by decide) rfl rfl (.raw rfl rfl .nil) ⟨.rfl, .rfl, .rfl, .rfl, trivial⟩) ?_; exact Wk.to (L := [(2, (i64 p2)), (3, (ls eI p3)), (12, (.ptr 0 0 0 0)), (13, (.bool q64.2))]) ⟨.rfl, .rfl, .rfl, .rfl, trivial⟩))
              ·refine AXs.of (i := 10) rfl rfl (by rfl) ?_
               refine ao_str (st' := [⟨0, 97, 2, [(eRSignatures p0)]⟩, ⟨0, 80, 3, [(eRDecl q64.1)]⟩]) go0 ti80 rfl rfl rfl rfl rfl rfl (show 0 + 3 ≤ 3 by decide) rfl (AO.done ⟨rfl, ?_⟩)
               refine AX.all [8] rfl (by kernel_rfl) (by decide) ⟨?_, trivial⟩
               ·refine AXs.of (i := 8) rfl rfl (by rfl) ?_
                refine zq tb rfl (AO.done ⟨rfl, ?_⟩)
                refine AX.hoist 11 (v := (.bool q64.2)) rfl rfl (by kernel_rfl) (by kernel_rfl) (by kernel_rfl) rfl (hoist_as rfl) ?_
                exact AX.done rfl (by kernel_rfl) (M38 q64.2 q64.1.from_ q64.1.to q64.1.cons (Sh.some_eq h2).symm _ (by refine Wk.trans (Wk.permk (L := [(2, (i64 p2)), (3, (ls eI p3)), (12, (.ptr 0 0 0 0)), (13, (.bool q64.2))]) (st' := [⟨0, 80, 3, [(eRDecl q64.1)]⟩]) (st1 := [⟨0, 80, 3, [(eRDecl q64.1)]⟩]) [1] rfl .nil (by decide) rfl rfl (.raw rfl rfl .nil) ⟨.rfl, .rfl, .rfl, .rfl, trivial⟩) ?_; exact Wk.to (L := [(2, (i64 p2)), (3, (ls eI p3)), (12, (.ptr 0 0 0 0)), (13, (.bool q64.2))]) ⟨.rfl, .rfl, .rfl, .rfl, trivial⟩))
             ·refine AXs.of (i := 8) rfl rfl (by rfl) ?_
              refine zq tb rfl (AO.done ⟨rfl, ?_⟩)
              refine AX.all [7] rfl (by kernel_rfl) (by decide) ⟨?_, trivial⟩
              ·refine AXs.of (i := 7) rfl rfl (by rfl) ?_
               refine zq tb rfl (AO.done ⟨rfl, ?_⟩)
               refine AX.all [10] rfl (by kernel_rfl) (by decide) ⟨?_, trivial⟩
               ·refine AXs.of (i := 10) rfl rfl (by rfl) ?_
                refine ao_str (st' := [⟨0, 97, 2, [(eRSignatures p0)]⟩, ⟨0, 80, 3, [(eRDecl q64.1)]⟩]) go0 ti80 rfl rfl rfl rfl rfl rfl (show 0 + 3 ≤ 3 by decide) rfl (AO.done ⟨rfl, ?_⟩)
                refine AX.hoist 11 (v := (.bool q64.2)) rfl rfl (by kernel_rfl) (by kernel_rfl) (by kernel_rfl) rfl (hoist_as rfl) ?_
                exact AX.done rfl (by kernel_rfl) (M38 q64.2 q64.1.from_ q64.1.to q64.1.cons (Sh.some_eq h2).symm _ (by refine Wk.trans (Wk.permk (L := [(2, (i64 p2)), (3, (ls eI p3)), (12, (.ptr 0 0 0 0)), (13, (.bool q64.2))]) (st' := [⟨0, 80, 3, [(eRDecl q64.1)]⟩]) (st1 := [⟨0, 80, 3, [(eRDecl q64.1)]⟩]) [1] rfl .nil (by decide) rfl rfl (.raw rfl rfl .nil) ⟨.rfl, .rfl, .rfl, .rfl, trivial⟩) ?_; exact Wk.to (L := [(2, (i64 p2)), (3, (ls eI p3)), (12, (.ptr 0 0 0 0)), (13, (.bool q64.2))]) ⟨.rfl, .rfl, .rfl, .rfl, trivial⟩))
       ·refine AXs.of (i := 3) rfl rfl (by rfl) ?_
        refine bs h2 fun c65 gc65 h2 => zx ei40 gc65 rfl rfl rfl (AO.done ⟨rfl, ?_⟩)
        refine AX.all [0, 4, 9] rfl (by kernel_rfl) (by decide) ⟨?_, ?_, ?_, trivial⟩
        ·refine AXs.of (i := 0) rfl rfl (by rfl) ?_
         refine zq tb rfl (AO.done ⟨rfl, ?_⟩)
         refine AX.all [1, 4, 9] rfl (by kernel_rfl) (by decide) ⟨?_, ?_, ?_, trivial⟩
         ·refine AXs.of (i := 1) rfl rfl (by rfl) ?_
          refine zq tb rfl (AO.done ⟨rfl, ?_⟩)
          refine AX.all [4, 9] rfl (by kernel_rfl) (by decide) ⟨?_, ?_, trivial⟩
          ·refine AXs.of (i := 4) rfl rfl (by rfl) ?_
           refine zq tb rfl (AO.done ⟨rfl, ?_⟩)
           refine AX.all [5, 9] rfl (by kernel_rfl) (by decide) ⟨?_, ?_, trivial⟩
           ·refine AXs.of (i := 5) rfl rfl (by rfl) ?_
            refine bs h2 fun q66 gq66 h2 => zc (v' := (.tup [(.agg (eRDecl q66.1)), (.bool q66.2)])) hb121 (impl_arrowAt_ok gq66) rfl rfl rfl (AO.done ⟨rfl, ?_⟩)
            refine AX.hoist 6 (v := (.tup [(.agg (eRDecl q66.1)), (.bool q66.2)])) rfl rfl (by kernel_rfl) (by kernel_rfl) (by kernel_rfl) rfl (hoist_mv rfl) ?_
            refine AX.all [7, 8, 9] rfl (by kernel_rfl) (by decide) ⟨?_, ?_, ?_, trivial⟩
            ·refine AXs.of (i := 7) rfl rfl (by rfl) ?_
             refine zq tb rfl (AO.done ⟨rfl, ?_⟩)
             refine AX.all [8, 9] rfl (by kernel_rfl) (by decide) ⟨?_, ?_, trivial⟩
             ·refine AXs.of (i := 8) rfl rfl (by rfl) ?_
              refine zq tb rfl (AO.done ⟨rfl, ?_⟩)
              refine AX.all [9] rfl (by kernel_rfl) (by decide) ⟨?_, trivial⟩
              ·refine AXs.of (i := 9) rfl rfl (by rfl) ?_
               refine ao_alloc (m := 1) (st' := [⟨0, 97, 2, [(eRSignatures p0)]⟩, ⟨0, 80, 3, [[(i64 0), (i64 0), .zc]]⟩]) go0 zi80 rfl rfl (AO.done ⟨rfl, ?_⟩)
               refine AX.all [10] rfl (by kernel_rfl) (by decide) ⟨?_, trivial⟩
               ·refine AXs.of (i := 10) rfl rfl (by rfl) ?_
                refine ao_str (st' := [⟨0, 97, 2, [(eRSignatures p0)]⟩, ⟨0, 80, 3, [(eRDecl q66.1)]⟩]) go0 ti80 rfl rfl rfl rfl rfl rfl (show 0 + 3 ≤ 3 by decide) rfl (AO.done ⟨rfl, ?_⟩)
                refine AX.hoist 11 (v := (.bool q66.2)) rfl rfl (by kernel_rfl) (by kernel_rfl) (by kernel_rfl) rfl (hoist_as rfl) ?_
                exact AX.done rfl (by kernel_rfl) (M38 q66.2 q66.1.from_ q66.1.to q66.1.cons (Sh.some_eq h2).symm _ (by refine Wk.trans (Wk.permk (L := [(2, (i64 p2)), (3, (ls eI p3)), (12, (.ptr 0 0 0 0)), (13, (.bool q66.2))]) (st' := [⟨0, 80, 3, [(eRDecl q66.1)]⟩]) (st1 := [⟨0, 80, 3, [(eRDecl q66.1)]⟩]) [1] rfl .nil (by decide) rfl rfl (.raw rfl rfl .nil) ⟨.rfl, .rfl, .rfl, .rfl, trivial⟩) ?_; exact Wk.to (L := [(2, (i64 p2)), (3, (ls eI p3)), (12, (.ptr 0 0 0 0)), (13, (.bool q66.2))]) ⟨.rfl, .rfl, .rfl, .rfl, trivial⟩))
             ·refine AXs.of (i := 9) rfl rfl (by rfl) ?_
              refine ao_alloc (m := 1) (st' := [⟨0, 97, 2, [(eRSignatures p0)]⟩, ⟨0, 80, 3, [[(i64 0), (i64 0), .zc]]⟩]) go0 zi80 rfl rfl (AO.done ⟨rfl, ?_⟩)
              refine AX.all [8, 10] rfl (by kernel_rfl) (by decide) ⟨?_, ?_, trivial⟩
              ·refine AXs.of (i := 8) rfl rfl (by rfl) ?_
               refine zq tb rfl (AO.done ⟨rfl, ?_⟩)
               refine AX.all [10] rfl (by kernel_rfl) (by decide) ⟨?_, trivial⟩
               ·refine AXs.of (i := 10) rfl rfl (by rfl) ?_
                refine ao_str (st' := [⟨0, 97, 2, [(eRSignatures p0)]⟩, ⟨0, 80, 3, [(eRDecl q66.1)]⟩]) go0 ti80 rfl rfl rfl rfl rfl rfl (show 0 + 3 ≤ 3 by decide) rfl (AO.done ⟨rfl, ?_⟩)
                refine AX.hoist 11 (v := (.bool q66.2)) rfl rfl (by kernel_rfl) (by kernel_rfl) (by kernel_rfl) rfl (hoist_as rfl) ?_
                exact AX.done rfl (by kernel_rfl) (M38 q66.2 q66.1.from_ q66.1.to q66.1.cons (Sh.some_eq h2).symm _ (by refine Wk.trans (Wk.permk (L := [(2, (i64 p2)), (3, (ls eI p3)), (12, (.ptr 0 0 0 0)), (13, (.bool q66.2))]) (st' := [⟨0, 80, 3, [(eRDecl q66.1)]⟩]) (st1 := [⟨0, 80, 3, [(eRDecl q66.1)]⟩]) [1] rfl .nil (by decide) rfl rfl (.raw rfl rfl .nil) ⟨.rfl, .rfl, .rfl, .rfl, trivial⟩) ?_; exact Wk.to (L := [(2, (i64 p2)), (3, (ls eI p3)), (12, (.ptr 0 0 0 0)), (13, (.bool q66.2))]) ⟨.rfl, .rfl, .rfl, .rfl, trivial⟩))
              ·refine AXs.of (i := 10) rfl rfl (by rfl) ?_
               refine ao_str (st' := [⟨0, 97, 2, [(eRSignatures p0)]⟩, ⟨0, 80, 3, [(eRDecl q66.1)]⟩]) go0 ti80 rfl rfl rfl rfl rfl rfl (show 0 + 3 ≤ 3 by decide) rfl (AO.done ⟨rfl, ?_⟩)
               refine AX.all [8] rfl (by kernel_rfl) (by decide) ⟨?_, trivial⟩
               ·refine AXs.of (i := 8) rfl rfl (by rfl) ?_
                refine zq tb rfl (AO.done ⟨rfl, ?_⟩)
                refine AX.hoist 11 (v := (.bool q66.2)) rfl rfl (by kernel_rfl) (by kernel_rfl) (by kernel_rfl) rfl (hoist_as rfl) ?_
                exact AX.done rfl (by kernel_rfl) (M38 q66.2 q66.1.from_ q66.1.to q66.1.cons (Sh.some_eq h2).symm _ (by refine Wk.trans (Wk.permk (L := [(2, (i64 p2)), (3, (ls eI p3)), (12, (.ptr 0 0 0 0)), (13, (.bool q66.2))]) (st' := [⟨0, 80, 3, [(eRDecl q66.1)]⟩]) (st1 := [⟨0, 80, 3, [(eRDecl q66.1)]⟩]) [1] rfl .nil (by decide) rfl rfl (.raw rfl rfl .nil) ⟨.rfl, .rfl, .rfl, .rfl, trivial⟩) ?_; exact Wk.to (L := [(2, (i64 p2)), (3, (ls eI p3)), (12, (.ptr 0 0 0 0)), (13, (.bool q66.2))]) ⟨.rfl, .rfl, .rfl, .rfl, trivial⟩))
            ·refine AXs.of (i := 8) rfl rfl (by rfl) ?_
             refine zq tb rfl (AO.done ⟨rfl, ?_⟩)
             refine AX.all [7, 9] rfl (by kernel_rfl) (by decide) ⟨?_, ?_, trivial⟩
             ·refine AXs.of (i := 7) rfl rfl (by rfl) ?_
              refine zq tb rfl (AO.done ⟨rfl, ?_⟩)
              refine AX.all [9] rfl (by kernel_rfl) (by decide) ⟨?_, trivial⟩
              ·refine AXs.of (i := 9) rfl rfl (by rfl) ?_
               refine ao_alloc (m := 1) (st' := [⟨0, 97, 2, [(eRSignatures p0)]⟩, ⟨0, 80, 3, [[(i64 0), (i64 0), .zc]]⟩]) go0 zi80 rfl rfl (AO.done ⟨rfl, ?_⟩)
               refine AX.all [10] rfl (by kernel_rfl) (by decide) ⟨?_, trivial⟩
               ·refine AXs.of (i := 10) rfl rfl (by rfl) ?_
                refine ao_str (st' := [⟨0, 97, 2, [(eRSignatures p0)]⟩, ⟨0, 80, 3, [(eRDecl q66.1)]⟩]) go0 ti80 rfl rfl rfl rfl rfl rfl (show 0 + 3 ≤ 3 by decide) rfl (AO.done ⟨rfl, ?_⟩)
                refine AX.hoist 11 (v := (.bool q66.2)) rfl rfl (by kernel_rfl) (by kernel_rfl) (by kernel_rfl) rfl (hoist_as rfl) ?_
                exact AX.done rfl (by kernel_rfl) (M38 q66.2 q66.1.from_ q66.1.to q66.1.cons (Sh.some_eq h2).symm _ (by refine Wk.trans (Wk.permk (L := [(2, (i64 p2)), (3, (ls eI p3)), (12, (.ptr 0 0 0 0)), (13, (.bool q66.2))]) (st' := [⟨0, 80, 3, [(eRDecl q66.1)]⟩]) (st1 := [⟨0, 80, 3, [(eRDecl q66.1)]⟩]) [1] rfl .nil (by decide) rfl rfl (.raw rfl rfl .nil) ⟨.rfl, .rfl, .rfl, .rfl, trivial⟩) ?_; exact Wk.to (L := [(2, (i64 p2)), (3, (ls eI p3)), (12, (.ptr 0 0 0 0)), (13, (.bool q66.2))]) ⟨.rfl, .rfl, .rfl, .rfl, trivial⟩))
             ·refine AXs.of (i := 9) rfl rfl (by rfl) ?_
              refine ao_alloc (m := 1) (st' := [⟨0, 97, 2, [(eRSignatures p0)]⟩, ⟨0, 80, 3, [[(i64 0), (i64 0), .zc]]⟩]) go0 zi80 rfl rfl (AO.done ⟨rfl, ?_⟩)
              refine AX.all [7] rfl (by kernel_rfl) (by decide) ⟨?_, trivial⟩
              ·refine AXs.of (i := 7) rfl rfl (by rfl) ?_
               refine zq tb rfl (AO.done ⟨rfl, ?_⟩)
               refine AX.all [10] rfl (by kernel_rfl) (by decide) ⟨?_, trivial⟩
               ·refine AXs.of (i := 10) rfl rfl (by rfl) ?_
                refine ao_str (st' := [⟨0, 97, 2, [(eRSignatures p0)]⟩, ⟨0, 80, 3, [(eRDecl q66.1)]⟩]) go0 ti80 rfl rfl rfl rfl rfl rfl (show 0 + 3 ≤ 3 by decide) rfl (AO.done ⟨rfl, ?_⟩)
                refine AX.hoist 11 (v := (.bool q66.2)) rfl rfl (by kernel_rfl) (by kernel_rfl) (by kernel_rfl) rfl (hoist_as rfl) ?_
                exact AX.done rfl (by kernel_rfl) (M38 q66.2 q66.1.from_ q66.1.to q66.1.cons (Sh.some_eq h2).symm _ (by refine Wk.trans (Wk.permk (L := [(2, (i64 p2)), (3, (ls eI p3)), (12, (.ptr 0 0 0 0)), (13, (.bool q66.2))]) (st' := [⟨0, 80, 3, [(eRDecl q66.1)]⟩]) (st1 := [⟨0, 80, 3, [(eRDecl q66.1)]⟩]) [1] rfl .nil (by decide) rfl rfl (.raw rfl rfl .nil) ⟨.rfl, .rfl, .rfl, .rfl, trivial⟩) ?_; exact Wk.to (L := [(2, (i64 p2)), (3, (ls eI p3)), (12, (.ptr 0 0 0 0)), (13, (.bool q66.2))]) ⟨.rfl, .rfl, .rfl, .rfl, trivial⟩))
            ·refine AXs.of (i := 9) rfl rfl (by rfl) ?_
             refine ao_alloc (m := 1) (st' := [⟨0, 97, 2, [(eRSignatures p0)]⟩, ⟨0, 80, 3, [[(i64 0), (i64 0), .zc]]⟩]) go0 zi80 rfl rfl (AO.done ⟨rfl, ?_⟩)
             refine AX.all [7, 8] rfl (by kernel_rfl) (by decide) ⟨?_, ?_, trivial⟩
             ·refine AXs.of (i := 7) rfl rfl (by rfl) ?_
              refine zq tb rfl (AO.done ⟨rfl, ?_⟩)
              refine AX.all [8, 10] rfl (by kernel_rfl) (by decide) ⟨?_, ?_, trivial⟩
              ·refine AXs.of (i := 8) rfl rfl (by rfl) ?_
               refine zq tb rfl (AO.done ⟨rfl, ?_⟩)
               refine AX.all [10] rfl (by kernel_rfl) (by decide) ⟨?_, trivial⟩
               ·refine AXs.of (i := 10) rfl rfl (by rfl) ?_
                refine ao_str (st' := [⟨0, 97, 2, [(eRSignatures p0)]⟩, ⟨0, 80, 3, [(eRDecl q66.1)]⟩]) go0 ti80 rfl rfl rfl rfl rfl rfl (show 0 + 3 ≤ 3 by decide) rfl (AO.done ⟨rfl, ?_⟩)
                refine AX.hoist 11 (v := (.bool q66.2)) rfl rfl (by kernel_rfl) (by kernel_rfl) (by kernel_rfl) rfl (hoist_as rfl) ?_
                exact AX.done rfl (by kernel_rfl) (M38 q66.2 q66.1.from_ q66.1.to q66.1.cons (Sh.some_eq h2).symm _ (by refine Wk.trans (Wk.permk (L := [(2, (i64 p2)), (3, (ls eI p3)), (12, (.ptr 0 0 0 0)), (13, (.bool q66.2))]) (st' := [⟨0, 80, 3, [(eRDecl q66.1)]⟩]) (st1 := [⟨0, 80, 3, [(eRDecl q66.1)]⟩]) [1] rfl .nil (by decide) rfl rfl (.raw rfl rfl .nil) ⟨.rfl, .rfl, .rfl, .rfl, trivial⟩) ?_; exact Wk.to (L := [(2, (i64 p2)), (3, (ls eI p3)), (12, (.ptr 0 0 0 0)), (13, (.bool q66.2))]) ⟨.rfl, .rfl, .rfl, .rfl, trivial⟩))
              ·refine AXs.of (i := 10) rfl rfl (by rfl) ?_
               refine ao_str (st' := [⟨0, 97, 2, [(eRSignatures p0)]⟩, ⟨0, 80, 3, [(eRDecl q66.1)]⟩]) go0 ti80 rfl rfl rfl rfl rfl rfl (show 0 + 3 ≤ 3 by decide) rfl (AO.done ⟨rfl, ?_⟩)
               refine AX.all [8] rfl (by kernel_rfl) (by decide) ⟨?_, trivial⟩
               ·refine AXs.of (i := 8) rfl rfl (by rfl) ?_
                refine zq tb rfl (AO.done ⟨rfl, ?_⟩)
                refine AX.hoist 11 (v := (.bool q66.2)) rfl rfl (by kernel_rfl) (by kernel_rfl) (by kernel_rfl) rfl (hoist_as rfl) ?_
                exact AX.done rfl (by kernel_rfl) (M38 q66.2 q66.1.from_ q66.1.to q66.1.cons (Sh.some_eq h2).symm _ (by refine Wk.trans (Wk.permk (L := [(2, (i64 p2)), (3, (ls eI p3)), (12, (.ptr 0 0 0 0)), (13, (.bool q66.2))]) (st' := [⟨0, 80, 3, [(eRDecl q66.1)]⟩]) (st1 := [⟨0, 80, 3, [(eRDecl q66.1)]⟩]) [1] rfl .nil (by decide) rfl rfl (.raw rfl rfl .nil) ⟨.rfl, .rfl, .rfl, .rfl, trivial⟩) ?_; exact Wk.to (L := [(2, (i64 p2)), (3, (ls eI p3)), (12, (.ptr 0 0 0 0)), (13, (.bool q66.2))]) ⟨.rfl, .rfl, .rfl, .rfl, trivial⟩))
             ·refine AXs.of (i := 8) rfl rfl (by rfl) ?_
              refine zq tb rfl (AO.done ⟨rfl, ?_⟩)
              refine AX.all [7] rfl (by kernel_rfl) (by decide) ⟨?_, trivial⟩
              ·refine AXs.of (i := 7) rfl rfl (by rfl) ?_
               refine zq tb rfl (AO.done ⟨rfl, ?_⟩)
               refine AX.all [10] rfl (by kernel_rfl) (by decide) ⟨?_, trivial⟩
               ·refine AXs.of (i := 10) rfl rfl (by rfl) ?_
                refine ao_str (st' := [⟨0, 97, 2, [(eRSignatures p0)]⟩, ⟨0, 80, 3, [(eRDecl q66.1)]⟩]) go0 ti80 rfl rfl rfl rfl rfl rfl (show 0 + 3 ≤ 3 by decide) rfl (AO.done ⟨rfl, ?_⟩)
                refine AX.hoist 11 (v := (.bool q66.2)) rfl rfl (by kernel_rfl) (by kernel_rfl) (by kernel_rfl) rfl (hoist_as rfl) ?_
                exact AX.done rfl (by kernel_rfl) (M38 q66.2 q66.1.from_ q66.1.to q66.1.cons (Sh.some_eq h2).symm _ (by refine Wk.trans (Wk.permk (L := [(2, (i64 p2)), (3, (ls eI p3)), (12, (.ptr 0 0 0 0)), (13, (.bool q66.2))]) (st' := [⟨0, 80, 3, [(eRDecl q66.1)]⟩]) (st1 := [⟨0, 80, 3, [(eRDecl q66.1)]⟩]) [1] rfl .nil (by decide) rfl rfl (.raw rfl rfl .nil) ⟨.rfl, .rfl, .rfl, .rfl, trivial⟩) ?_; exact Wk.to (L := [(2, (i64 p2)), (3, (ls eI p3)), (12, (.ptr 0 0 0 0)), (13, (.bool q66.2))]) ⟨.rfl, .rfl, .rfl, .rfl, trivial⟩))
           ·refine AXs.of (i := 9) rfl rfl (by rfl) ?_
            refine ao_alloc (m := 1) (st' := [⟨0, 97, 2, [(eRSignatures p0)]⟩, ⟨0, 80, 3, [[(i64 0), (i64 0), .zc]]⟩]) go0 zi80 rfl rfl (AO.done ⟨rfl, ?_⟩)
            refine AX.all [5] rfl (by kernel_rfl) (by decide) ⟨?_, trivial⟩
            ·refine AXs.of (i := 5) rfl rfl (by rfl) ?_
             refine bs h2 fun q67 gq67 h2 => zc (v' := (.tup [(.agg (eRDecl q67.1)), (.bool q67.2)])) hb121 (impl_arrowAt_ok gq67) rfl rfl rfl (AO.done ⟨rfl, ?_⟩)
             refine AX.hoist 6 (v := (.tup [(.agg (eRDecl q67.1)), (.bool q67.2)])) rfl rfl (by kernel_rfl) (by kernel_rfl) (by kernel_rfl) rfl (hoist_mv rfl) ?_
             refine AX.all [7, 8] rfl (by kernel_rfl) (by decide) ⟨?_, ?_, trivial⟩
             ·refine AXs.of (i := 7) rfl rfl (by rfl) ?_
              refine zq tb rfl (AO.done ⟨rfl, ?_⟩)
              refine AX.all [8, 10] rfl (by kernel_rfl) (by decide) ⟨?_, ?_, trivial⟩
              ·refine AXs.of (i := 8) rfl rfl (by rfl) ?_
               refine zq tb rfl (AO.done ⟨rfl, ?_⟩)
               refine AX.all [10] rfl (by kernel_rfl) (by decide) ⟨?_, trivial⟩
               ·refine AXs.of (i := 10) rfl rfl (by rfl) ?_
                refine ao_str (st' := [⟨0, 97, 2, [(eRSignatures p0)]⟩, ⟨0, 80, 3, [(eRDecl q67.1)]⟩]) go0 ti80 rfl rfl rfl rfl rfl rfl (show 0 + 3 ≤ 3 by decide) rfl (AO.done ⟨rfl, ?_⟩)
                refine AX.hoist 11 (v := (.bool q67.2)) rfl rfl (by kernel_rfl) (by kernel_rfl) (by kernel_rfl) rfl (hoist_as rfl) ?_
                exact AX.done rfl (by kernel_rfl) (M38 q67.2 q67.1.from_ q67.1.to q67.1.cons (Sh.some_eq h2).symm _ (by refine Wk.trans (Wk.permk (L := [(2, (i64 p2)), (3, (ls eI p3)), (12, (.ptr 0 0 0 0)), (13, (.bool q67.2))]) (st' := [⟨0, 80, 3, [(eRDecl q67.1)]⟩]) (st1 := [⟨0, 80, 3, [(eRDecl q67.1)]⟩]) [1] rfl .nil (by decide) rfl rfl (.raw rfl rfl .nil) ⟨.rfl, .rfl, .rfl, .rfl, trivial⟩) ?_; exact Wk.to (L := [(2, (i64 p2)), (3, (ls eI p3)), (12, (.ptr 0 0 0 0)), (13, (.bool q67.2))]) ⟨.rfl, .rfl, .rfl, .rfl, trivial⟩))
              ·refine AXs.of (i := 10) rfl rfl (by rfl) ?_
               refine ao_str (st' := [⟨0, 97, 2, [(eRSignatures p0)]⟩, ⟨0, 80, 3, [(eRDecl q67.1)]⟩]) go0 ti80 rfl rfl rfl rfl rfl rfl (show 0 + 3 ≤ 3 by decide) rfl (AO.done ⟨rfl, ?_⟩)
               refine AX.all [8] rfl (by kernel_rfl) (by decide) ⟨?_, trivial⟩
               ·refine AXs.of (i := 8) rfl rfl (by rfl) ?_
                refine zq tb rfl (AO.done ⟨rfl, ?_⟩)
                refine AX.hoist 11 (v := (.bool q67.2)) rfl rfl (by kernel_rfl) (by kernel_rfl) (by kernel_rfl) rfl (hoist_as rfl) ?_
                exact AX.done rfl (by kernel_rfl) (M38 q67.2 q67.1.from_ q67.1.to q67.1.cons (Sh.some_eq h2).symm _ (by refine Wk.trans (Wk.permk (L := [(2, (i64 p2)), (3, (ls eI p3)), (12, (.ptr 0 0 0 0)), (13, (.bool q67.2))]) (st' := [⟨0, 80, 3, [(eRDecl q67.1)]⟩]) (st1 := [⟨0, 80, 3, [(eRDecl q67.1)]⟩]) [1] rfl .nil (by decide) rfl rfl (.raw rfl rfl .nil) ⟨.rfl, .rfl, .rfl, .rfl, trivial⟩) ?_; exact Wk.to (L := [(2, (i64 p2)), (3, (ls eI p3)), (12, (.ptr 0 0 0 0)), (13, (.bool q67.2))]) ⟨.rfl, .rfl, .rfl, .rfl, trivial⟩))
             ·refine AXs.of (i := 8) rfl rfl (by rfl) ?_
              refine zq tb rfl (AO.done ⟨rfl, ?_⟩)
              refine AX.all [7] rfl (by kernel_rfl) (by decide) ⟨?_, trivial⟩
              ·refine AXs.of (i := 7) rfl rfl (by rfl) ?_
               refine zq tb rfl (AO.done ⟨rfl, ?_⟩)
               refine AX.all [10] rfl (by kernel_rfl) (by decide) ⟨?_, trivial⟩
               ·refine AXs.of (i := 10) rfl rfl (by rfl) ?_
                refine ao_str (st' := [⟨0, 97, 2, [(eRSignatures p0)]⟩, ⟨0, 80, 3, [(eRDecl q67.1)]⟩]) go0 ti80 rfl rfl rfl rfl rfl rfl (show 0 + 3 ≤ 3 by decide) rfl (AO.done ⟨rfl, ?_⟩)
                refine AX.hoist 11 (v := (.bool q67.2)) rfl rfl (by kernel_rfl) (by kernel_rfl) (by kernel_rfl) rfl (hoist_as rfl) ?_
                exact AX.done rfl (by kernel_rfl) (M38 q67.2 q67.1.from_ q67.1.to q67.1.cons (Sh.some_eq h2).symm _ (by refine Wk.trans (Wk.permk (L := [(2, (i64 p2)), (3, (ls eI p3)), (12, (.ptr 0 0 0 0)), (13, (.bool q67.2))]) (st' := [⟨0, 80, 3, [(eRDecl q67.1)]⟩]) (st1 := [⟨0, 80, 3, [(eRDecl q67.1)]⟩]) [1] rfl .nil (by decide) rfl rfl (.raw rfl rfl .nil) ⟨.rfl, .rfl, .rfl, .rfl, trivial⟩) ?_; exact Wk.to (L := [(2, (i64 p2)), (3, (ls eI p3)), (12, (.ptr 0 0 0 0)), (13, (.bool q67.2))]) ⟨.rfl, .rfl, .rfl, .rfl, trivial⟩))
          ·refine AXs.of (i := 9) rfl rfl (by rfl) ?_
           refine ao_alloc (m := 1) (st' := [⟨0, 97, 2, [(eRSignatures p0)]⟩, ⟨0, 80, 3, [[(i64 0), (i64 0), .zc]]⟩]) go0 zi80 rfl rfl (AO.done ⟨rfl, ?_⟩)
           refine AX.all [4] rfl (by kernel_rfl) (by decide) ⟨?_, trivial⟩
           ·refine AXs.of (i := 4) rfl rfl (by rfl) ?_
            refine zq tb rfl (AO.done ⟨rfl, ?_⟩)
            refine AX.all [5] rfl (by kernel_rfl) (by decide) ⟨?_, trivial⟩
            ·refine AXs.of (i := 5) rfl rfl (by rfl) ?_
             refine bs h2 fun q68 gq68 h2 => zc (v' := (.tup [(.agg (eRDecl q68.1)), (.bool q68.2)])) hb121 (impl_arrowAt_ok gq68) rfl rfl rfl (AO.done ⟨rfl, ?_⟩)
             refine AX.hoist 6 (v := (.tup [(.agg (eRDecl q68.1)), (.bool q68.2)])) rfl rfl (by kernel_rfl) (by kernel_rfl) (by kernel_rfl) rfl (hoist_mv rfl) ?_
             refine AX.all [7, 8] rfl (by kernel_rfl) (by decide) ⟨?_, ?_, trivial⟩
             ·refine AXs.of (i := 7) rfl rfl (by rfl) ?_
              refine zq tb rfl (AO.done ⟨rfl, ?_⟩)
              refine AX.all [8, 10] rfl (by kernel_rfl) (by decide) ⟨?_, ?_, trivial⟩
              ·refine AXs.of (i := 8) rfl rfl (by rfl) ?_
               refine zq tb rfl (AO.done ⟨rfl, ?_⟩)
               refine AX.all [10] rfl (by kernel_rfl) (by decide) ⟨?_, trivial⟩
               ·refine AXs.of (i := 10) rfl rfl (by rfl) ?_
                refine ao_str (st' := [⟨0, 97, 2, [(eRSignatures p0)]⟩, ⟨0, 80, 3, [(eRDecl q68.1)]⟩]) go0 ti80 rfl rfl rfl rfl rfl rfl (show 0 + 3 ≤ 3 by decide) rfl (AO.done ⟨rfl, ?_⟩)
                refine AX.hoist 11 (v := (.bool q68.2)) rfl rfl (by kernel_rfl) (by kernel_rfl) (by kernel_rfl) rfl (hoist_as rfl) ?_
                exact AX.done rfl (by kernel_rfl) (M38 q68.2 q68.1.from_ q68.1.to q68.1.cons (Sh.some_eq h2).symm _ (by refine Wk.trans (Wk.permk (L := [(2, (i64 p2)), (3, (ls eI p3)), (12, (.ptr 0 0 0 0)), (13, (.bool q68.2))]) (st' := [⟨0, 80, 3, [(eRDecl q68.1)]⟩]) (st1 := [⟨0, 80, 3, [(eRDecl q68.1)]⟩]) [1] rfl .nil (by decide) rfl rfl (.raw rfl rfl .nil) ⟨.rfl, .rfl, .rfl, .rfl, trivial⟩) ?_; exact Wk.to (L := [(2, (i64 p2)), (3, (ls eI p3)), (12, (.ptr 0 0 0 0)), (13, (.bool q68.2))]) ⟨.rfl, .rfl, .rfl, .rfl, trivial⟩))
              ·refine AXs.of (i := 10) rfl rfl (by rfl) ?_
               refine ao_str (st' := [⟨0, 97, 2, [(eRSignatures p0)]⟩, ⟨0, 80, 3, [(eRDecl q68.1)]⟩]) go0 ti80 rfl rfl rfl rfl rfl rfl (show 0 + 3 ≤ 3 by decide) rfl (AO.done ⟨rfl, ?_⟩)
               refine AX.all [8] rfl (by kernel_rfl) (by decide) ⟨?_, trivial⟩
               ·refine AXs.of (i := 8) rfl rfl (by rfl) ?_
                refine zq tb rfl (AO.done ⟨rfl, ?_⟩)
                refine AX.hoist 11 (v := (.bool q68.2)) rfl rfl (by kernel_rfl) (by kernel_rfl) (by kernel_rfl) rfl (hoist_as rfl) ?_
                exact AX.done rfl (by kernel_rfl) (M38 q68.2 q68.1.from_ q68.1.to q68.1.cons (Sh.some_eq h2).symm _ (by refine Wk.trans (Wk.permk (L := [(2, (i64 p2)), (3, (ls eI p3)), (12, (.ptr 0 0 0 0)), (13, (.bool q68.2))]) (st' := [⟨0, 80, 3, [(eRDecl q68.1)]⟩]) (st1 := [⟨0, 80, 3, [(eRDecl q68.1)]⟩]) [1] rfl .nil (by decide) rfl rfl (.raw rfl rfl .nil) ⟨.rfl, .rfl, .rfl, .rfl, trivial⟩) ?_; exact Wk.to (L := [(2, (i64 p2)), (3, (ls eI p3)), (12, (.ptr 0 0 0 0)), (13, (.bool q68.2))]) ⟨.rfl, .rfl, .rfl, .rfl, trivial⟩))
             ·refine AXs.of (i := 8) rfl rfl (by rfl) ?_
              refine zq tb rfl (AO.done ⟨rfl, ?_⟩)
              refine AX.all [7] rfl (by kernel_rfl) (by decide) ⟨?_, trivial⟩
              ·refine AXs.of (i := 7) rfl rfl (by rfl) ?_
               refine zq tb rfl (AO.done ⟨rfl, ?_⟩)
               refine AX.all [10] rfl (by kernel_rfl) (by decide) ⟨?_, trivial⟩
               ·refine AXs.of (i := 10) rfl rfl (by rfl) ?_
                refine ao_str (st' := [⟨0, 97, 2, [(eRSignatures p0)]⟩, ⟨0, 80, 3, [(eRDecl q68.1)]⟩]) go0 ti80 rfl rfl rfl rfl rfl rfl (show 0 + 3 ≤ 3 by decide) rfl (AO.done ⟨rfl, ?_⟩)
                refine AX.hoist 11 (v := (.bool q68.2)) rfl rfl (by kernel_rfl) (by kernel_rfl) (by kernel_rfl) rfl (hoist_as rfl) ?_
                exact AX.done rfl (by kernel_rfl) (M38 q68.2 q68.1.from_ q68.1.to q68.1.cons (Sh.some_eq h2).symm _ (by refine Wk.trans (Wk.permk (L := [(2, (i64 p2)), (3, (ls eI p3)), (12, (.ptr 0 0 0 0)), (13, (.bool q68.2))]) (st' := [⟨0, 80, 3, [(eRDecl q68.1)]⟩]) (st1 := [⟨0, 80, 3, [(eRDecl q68.1)]⟩]) [1] rfl .nil (by decide) rfl rfl (.raw rfl rfl .nil) ⟨.rfl, .rfl, .rfl, .rfl, trivial⟩) ?_; exact Wk.to (L := [(2, (i64 p2)), (3, (ls eI p3)), (12, (.ptr 0 0 0 0)), (13, (.bool q68.2))]) ⟨.rfl, .rfl, .rfl, .rfl, trivial⟩))
         ·refine AXs.of (i := 4) rfl rfl (by rfl) ?_
          refine zq tb rfl (AO.done ⟨rfl, ?_⟩)
          refine AX.all [1, 9] rfl (by kernel_rfl) (by decide) ⟨?_, ?_, trivial⟩
          ·refine AXs.of (i := 1) rfl rfl (by rfl) ?_
           refine zq tb rfl (AO.done ⟨rfl, ?_⟩)
           refine AX.all [5, 9] rfl (by kernel_rfl) (by decide) ⟨?_, ?_, trivial⟩
           ·refine AXs.of (i := 5) rfl rfl (by rfl) ?_
            refine bs h2 fun q69 gq69 h2 => zc (v' := (.tup [(.agg (eRDecl q69.1)), (.bool q69.2)])) hb121 (impl_arrowAt_ok gq69) rfl rfl rfl (AO.done ⟨rfl, ?_⟩)
            refine AX.hoist 6 (v := (.tup [(.agg (eRDecl q69.1)), (.bool q69.2)])) rfl rfl (by kernel_rfl) (by kernel_rfl) (by kernel_rfl) rfl (hoist_mv rfl) ?_
            refine AX.all [7, 8, 9] rfl (by kernel_rfl) (by decide) ⟨?_, ?_, ?_, trivial⟩
            ·refine AXs.of (i := 7) rfl rfl (by rfl) ?_
             refine zq tb rfl (AO.done ⟨rfl, ?_⟩)
             refine AX.all [8, 9] rfl (by kernel_rfl) (by decide) ⟨?_, ?_, trivial⟩
             ·refine AXs.of (i := 8) rfl rfl (by rfl) ?_
              refine zq tb rfl (AO.done ⟨rfl, ?_⟩)
              refine AX.all [9] rfl (by kernel_rfl) (by decide) ⟨?_, trivial⟩
              ·refine AXs.of (i := 9) rfl rfl (by rfl) ?_
               refine ao_alloc (m := 1) (st' := [⟨0, 97, 2, [(eRSignatures p0)]⟩, ⟨0, 80, 3, [[(i64 0), (i64 0), .zc]]⟩]) go0 zi80 rfl rfl (AO.done ⟨rfl, ?_⟩)
               refine AX.all [10] rfl (by kernel_rfl) (by decide) ⟨?_, trivial⟩
               ·refine AXs.of (i := 10) rfl rfl (by rfl) ?_
                refine ao_str (st' := [⟨0, 97, 2, [(eRSignatures p0)]⟩, ⟨0, 80, 3, [(eRDecl q69.1)]⟩]) go0 ti80 rfl rfl rfl rfl rfl rfl (show 0 + 3 ≤ 3 by decide) rfl (AO.done ⟨rfl, ?_⟩)
                refine AX.hoist 11 (v := (.bool q69.2)) rfl rfl (by kernel_rfl) (by kernel_rfl) (by kernel_rfl) rfl (hoist_as rfl) ?_
                exact AX.done rfl (by kernel_rfl) (M38 q69.2 q69.1.from_ q69.1.to q69.1.cons (Sh.some_eq h2).symm _ (by refine Wk.trans (Wk.permk (L := [(2, (i64 p2)), (3, (ls eI p3)), (12, (.ptr 0 0 0 0)), (13, (.bool q69.2))]) (st' := [⟨0, 80, 3, [(eRDecl q69.1)]⟩]) (st1 := [⟨0, 80, 3, [(eRDecl q69.1)]⟩]) [1] rfl .nil (by decide) rfl rfl (.raw rfl rfl .nil) ⟨.rfl, .rfl, .rfl, .rfl, trivial⟩) ?_; exact Wk.to (L := [(2, (i64 p2)), (3, (ls eI p3)), (12, (.ptr 0 0 0 0)), (13, (.bool q69.2))]) ⟨.rfl, .rfl, .rfl, .rfl, trivial⟩))
             ·refine AXs.of (i := 9) rfl rfl (by rfl) ?_
              refine ao_alloc (m := 1) (st' := [⟨0, 97, 2, [(eRSignatures p0)]⟩, ⟨0, 80, 3, [[(i64 0), (i64 0), .zc]]⟩]) go0 zi80 rfl rfl (AO.done ⟨rfl, ?_⟩)
              refine AX.all [8, 10] rfl (by kernel_rfl) (by decide) ⟨?_, ?_, trivial⟩
              ·refine AXs.of (i := 8) rfl rfl (by rfl) ?_
               refine zq tb rfl (AO.done ⟨rfl, ?_⟩)
               refine AX.all [10] rfl (by kernel_rfl) (by decide) ⟨?_, trivial⟩
               ·refine AXs.of (i := 10) rfl rfl (by rfl) ?_
                refine ao_str (st' := [⟨0, 97, 2, [(eRSignatures p0)]⟩, ⟨0, 80, 3, [(eRDecl q69.1)]⟩]) go0 ti80 rfl rfl rfl rfl rfl rfl (show 0 + 3 ≤ 3 by decide) rfl (AO.done ⟨rfl, ?_⟩)
                refine AX.hoist 11 (v := (.bool q69.2)) rfl rfl (by kernel_rfl) (by kernel_rfl) (by kernel_rfl) rfl (hoist_as rfl) ?_
                exact AX.done rfl (by kernel_rfl) (M38 q69.2 q69.1.from_ q69.1.to q69.1.cons (Sh.some_eq h2).symm _ (by refine Wk.trans (Wk.permk (L := [(2, (i64 p2)), (3, (ls eI p3)), (12, (.ptr 0 0 0 0)), (13, (.bool q69.2))]) (st' := [⟨0, 80, 3, [(eRDecl q69.1)]⟩]) (st1 := [⟨0, 80, 3, [(eRDecl q69.1)]⟩]) [1] rfl .nil (by decide) rfl rfl (.raw rfl rfl .nil) ⟨.rfl, .rfl, .rfl, .rfl, trivial⟩) ?_; exact Wk.to (L := [(2, (i64 p2)), (3, (ls eI p3)), (12, (.ptr 0 0 0 0)), (13, (.bool q69.2))]) ⟨.rfl, .rfl, .rfl, .rfl, trivial⟩))
              ·refine AXs.of (i := 10) rfl rfl (by rfl) ?_
               refine ao_str (st' := [⟨0, 97, 2, [(eRSignatures p0)]⟩, ⟨0, 80, 3, [(eRDecl q69.1)]⟩]) go0 ti80 rfl rfl rfl rfl rfl rfl (show 0 + 3 ≤ 3 by decide) rfl (AO.done ⟨rfl, ?_⟩)
               refine AX.all [8] rfl (by kernel_rfl) (by decide) ⟨?_, trivial⟩
               ·refine AXs.of (i := 8) rfl rfl (by rfl) ?_
                refine zq tb rfl (AO.done ⟨rfl, ?_⟩)
                refine AX.hoist 11 (v := (.bool q69.2)) rfl rfl (by kernel_rfl) (by kernel_rfl) (by kernel_rfl) rfl (hoist_as rfl) ?_
                exact AX.done rfl (by kernel_rfl) (M38 q69.2 q69.1.from_ q69.1.to q69.1.cons (Sh.some_eq h2).symm _ (by refine Wk.trans (Wk.permk (L := [(2, (i64 p2)), (3, (ls eI p3)), (12, (.ptr 0 0 0 0)), (13, (.bool q69.2))]) (st' := [⟨0, 80, 3, [(eRDecl q69.1)]⟩]) (st1 := [⟨0, 80, 3, [(eRDecl q69.1)]⟩]) [1] rfl .nil (by decide) rfl rfl (.raw rfl rfl .nil) ⟨.rfl, .rfl, .rfl, .rfl, trivial⟩) ?_; exact Wk.to (L := [(2, (i64 p2)), (3, (ls eI p3)), (12, (.ptr 0 0 0 0)), (13, (.bool q69.2))]) ⟨.rfl, .rfl, .rfl, .rfl, trivial⟩))
            ·refine AXs.of (i := 8) rfl rfl (by rfl) ?_
             refine zq tb rfl (AO.done ⟨rfl, ?_⟩)
             refine AX.all [7, 9] rfl (by kernel_rfl) (by decide) ⟨?_, ?_, trivial⟩
             ·refine AXs.of (i := 7) rfl rfl (by rfl) ?_
              refine zq tb rfl (AO.done ⟨rfl, ?_⟩)
              refine AX.all [9] rfl (by kernel_rfl) (by decide) ⟨?_, trivial⟩
              ·refine AXs.of (i := 9) rfl rfl (by rfl) ?_
               refine ao_alloc (m := 1) (st' := [⟨0, 97, 2, [(eRSignatures p0)]⟩, ⟨0, 80, 3, [[(i64 0), (i64 0), .zc]]⟩]) go0 zi80 rfl rfl (AO.done ⟨rfl, ?_⟩)
               refine AX.all [10] rfl (by kernel_rfl) (by decide) ⟨?_, trivial⟩
               ·refine AXs.of (i := 10) rfl rfl (by rfl) ?_
                refine ao_str (st' := [⟨0, 97, 2, [(eRSignatures p0)]⟩, ⟨0, 80, 3, [(eRDecl q69.1)]⟩]) go0 ti80 rfl rfl rfl rfl rfl rfl (show 0 + 3 ≤ 3 by decide) rfl (AO.done ⟨rfl, ?_⟩)
                refine AX.hoist 11 (v := (.bool q69.2)) rfl rfl (by kernel_rfl) (by kernel_rfl) (by kernel_rfl) rfl (hoist_as rfl) ?_
                exact AX.done rfl (by kernel_rfl) (M38 q69.2 q69.1.from_ q69.1.to q69.1.cons (Sh.some_eq h2).symm _ (by refine Wk.trans (Wk.permk (L := [(2, (i64 p2)), (3, (ls eI p3)), (12, (.ptr 0 0 0 0)), (13, (.bool q69.2))]) (st' := [⟨0, 80, 3, [(eRDecl q69.1)]⟩]) (st1 := [⟨0, 80, 3, [(eRDecl q69.1)]⟩]) [1] rfl .nil (by decide) rfl rfl (.raw rfl rfl .nil) ⟨.rfl, .rfl, .rfl, .rfl, trivial⟩) ?_; exact Wk.to (L := [(2, (i64 p2)), (3, (ls eI p3)), (12, (.ptr 0 0 0 0)), (13, (.bool q69.2))]) ⟨.rfl, .rfl, .rfl, .rfl, trivial⟩))
             ·refine AXs.of (i := 9) rfl rfl (by rfl) ?_
              refine ao_alloc (m := 1) (st' := [⟨0, 97, 2, [(eRSignatures p0)]⟩, ⟨0, 80, 3, [[(i64 0), (i64 0), .zc]]⟩]) go0 zi80 rfl rfl (AO.done ⟨rfl, ?_⟩)
              refine AX.all [7] rfl (by kernel_rfl) (by decide) ⟨?_, trivial⟩
              ·refine AXs.of (i := 7) rfl rfl (by rfl) ?_
               refine zq tb rfl (AO.done ⟨rfl, ?_⟩)
               refine AX.all [10] rfl (by kernel_rfl) (by decide) ⟨?_, trivial⟩
               ·refine AXs.of (i := 10) rfl rfl (by rfl) ?_
                refine ao_str (st' := [⟨0, 97, 2, [(eRSignatures p0)]⟩, ⟨0, 80, 3, [(eRDecl q69.1)]⟩]) go0 ti80 rfl rfl rfl rfl rfl rfl (show 0 + 3 ≤ 3 by decide) rfl (AO.done ⟨rfl, ?_⟩)
                refine AX.hoist 11 (v := (.bool q69.2)) rfl rfl (by kernel_rfl) (by kernel_rfl) (by kernel_rfl) rfl (hoist_as rfl) ?_
                exact AX.done rfl (by kernel_rfl) (M38 q69.2 q69.1.from_ q69.1.to q69.1.cons (Sh.some_eq h2).symm _ (by refine Wk.trans (Wk.permk (L := [(2, (i64 p2)), (3, (ls eI p3)), (12, (.ptr 0 0 0 0)), (13, (.bool q69.2))]) (st' := [⟨0, 80, 3, [(eRDecl q69.1)]⟩]) (st1 := [⟨0, 80, 3, [(eRDecl q69.1)]⟩]) [1] rfl .nil (by decide) rfl rfl (.raw rfl rfl .nil) ⟨.rfl, .rfl, .rfl, .rfl, trivial⟩) ?_; exact Wk.to (L := [(2, (i64 p2)), (3, (ls eI p3)), (12, (.ptr 0 0 0 0)), (13, (.bool q69.2))]) ⟨.rfl, .rfl, .rfl, .rfl, trivial⟩))
            ·refine AXs.of (i := 9) rfl rfl (by rfl) ?_
             refine ao_alloc (m := 1) (st' := [⟨0, 97, 2, [(eRSignatures p0)]⟩, ⟨0, 80, 3, [[(i64 0), (i64 0), .zc]]⟩]) go0 zi80 rfl rfl (AO.done ⟨rfl, ?_⟩)
             refine AX.all [7, 8] rfl (by kernel_rfl) (by decide) ⟨?_, ?_, trivial⟩
             ·refine AXs.of (i := 7) rfl rfl (by rfl) ?_
              refine zq tb rfl (AO.done ⟨rfl, ?_⟩)
              refine AX.all [8, 10] rfl (by kernel_rfl) (by decide) ⟨?_, ?_, trivial⟩
              ·refine AXs.of (i := 8) rfl rfl (by rfl) ?_
               refine zq tb rfl (AO.done ⟨rfl, ?_⟩)
               refine AX.all [10] rfl (by kernel_rfl) (by decide) ⟨?_, trivial⟩
               ·refine AXs.of (i := 10) rfl rfl (by rfl) ?_
                refine ao_str (st' := [⟨0, 97, 2, [(eRSignatures p0)]⟩, ⟨0, 80, 3, [(eRDecl q69.1)]⟩]) go0 ti80 rfl rfl rfl rfl rfl rfl (show 0 + 3 ≤ 3 by decide) rfl (AO.done ⟨rfl, ?_⟩)
                refine AX.hoist 11 (v := (.bool q69.2)) rfl rfl (by kernel_rfl) (by kernel_rfl) (by kernel_rfl) rfl (hoist_as rfl) ?_
                exact AX.done rfl (by kernel_rfl) (M38 q69.2 q69.1.from_ q69.1.to q69.1.cons (Sh.some_eq h2).symm _ (by refine Wk.trans (Wk.permk (L := [(2, (i64 p2)), (3, (ls eI p3)), (12, (.ptr 0 0 0 0)), (13, (.bool q69.2))]) (st' := [⟨0, 80, 3, [(eRDecl q69.1)]⟩]) (st1 := [⟨0, 80, 3, [(eRDecl q69.1)]⟩]) [1] rfl .nil (by decide) rfl rfl (.raw rfl rfl .nil) ⟨.rfl, .rfl, .rfl, .rfl, trivial⟩) ?_; exact Wk.to (L := [(2, (i64 p2)), (3, (ls eI p3)), (12, (.ptr 0 0 0 0)), (13, (.bool q69.2))]) ⟨.rfl, .rfl, .rfl, .rfl, trivial⟩))
              ·refine AXs.of (i := 10) rfl rfl (by rfl) ?_
               refine ao_str (st' := [⟨0, 97, 2, [(eRSignatures p0)]⟩, ⟨0, 80, 3, [(eRDecl q69.1)]⟩]) go0 ti80 rfl rfl rfl rfl rfl rfl (show 0 + 3 ≤ 3 by decide) rfl (AO.done ⟨rfl, ?_⟩)
               refine AX.all [8] rfl (by kernel_rfl) (by decide) ⟨?_, trivial⟩
               ·refine AXs.of (i := 8) rfl rfl (by rfl) ?_
                refine zq tb rfl (AO.done ⟨rfl, ?_⟩)
                refine AX.hoist 11 (v := (.bool q69.2)) rfl rfl (by kernel_rfl) (by kernel_rfl) (by kernel_rfl) rfl (hoist_as rfl) ?_
                exact AX.done rfl (by kernel_rfl) (M38 q69.2 q69.1.from_ q69.1.to q69.1.cons (Sh.some_eq h2).symm _ (by refine Wk.trans (Wk.permk (L := [(2, (i64 p2)), (3, (ls eI p3)), (12, (.ptr 0 0 0 0)), (13, (.bool q69.2))]) (st' := [⟨0, 80, 3, [(eRDecl q69.1)]⟩]) (st1 := [⟨0, 80, 3, [(eRDecl q69.1)]⟩]) [1] rfl .nil (by decide) rfl rfl (.raw rfl rfl .nil) ⟨.rfl, .rfl, .rfl, .rfl, trivial⟩) ?_; exact Wk.to (L := [(2, (i64 p2)), (3, (ls eI p3)), (12, (.ptr 0 0 0 0)), (13, (.bool q69.2))]) ⟨.rfl, .rfl, .rfl, .rfl, trivial⟩))
             ·refine AXs.of (i := 8) rfl rfl (by rfl) ?_
              refine zq tb rfl (AO.done ⟨rfl, ?_⟩)
              refine AX.all [7] rfl (by kernel_rfl) (by decide) ⟨?_, trivial⟩
              ·refine AXs.of (i := 7) rfl rfl (by rfl) ?_
               refine zq tb rfl (AO.done ⟨rfl, ?_⟩)
               refine AX.all [10] rfl (by kernel_rfl) (by decide) ⟨?_, trivial⟩
               ·refine AXs.of (i := 10) rfl rfl (by rfl) ?_
                refine ao_str (st' := [⟨0, 97, 2, [(eRSignatures p0)]⟩, ⟨0, 80, 3, [(eRDecl q69.1)]⟩]) go0 ti80 rfl rfl rfl rfl rfl rfl (show 0 + 3 ≤ 3 by decide) rfl (AO.done ⟨rfl, ?_⟩)
                refine AX.hoist 11 (v := (.bool q69.2)) rfl rfl (by kernel_rfl) (by kernel_rfl) (by kernel_rfl) rfl (hoist_as rfl) ?_
                exact AX.done rfl (by kernel_rfl) (M38 q69.2 q69.1.from_ q69.1.to q69.1.cons (Sh.some_eq h2).symm _ (by refine Wk.trans (Wk.permk (L := [(2, (i64 p2)), (3, (ls eI p3)), (12, (.ptr 0 0 0 0)), (13, (.bool q69.2))]) (st' := [⟨0, 80, 3, [(eRDecl q69.1)]⟩]) (st1 := [⟨0, 80, 3, [(eRDecl q69.1)]⟩]) [1] rfl .nil (by decide) rfl rfl (.raw rfl rfl .nil) ⟨.rfl, .rfl, .rfl, .rfl, trivial⟩) ?_; exact Wk.to (L := [(2, (i64 p2)), (3, (ls eI p3)), (12, (.ptr 0 0 0 0)), (13, (.bool q69.2))]) ⟨.rfl, .rfl, .rfl, .rfl, trivial⟩))
           ·refine AXs.of (i := 9) rfl rfl (by rfl) ?_
            refine ao_alloc (m := 1) (st' := [⟨0, 97, 2, [(eRSignatures p0)]⟩, ⟨0, 80, 3, [[(i64 0), (i64 0), .zc]]⟩]) go0 zi80 rfl rfl (AO.done ⟨rfl, ?_⟩)
            refine AX.all [5] rfl (by kernel_rfl) (by decide) ⟨?_, trivial⟩
            ·refine AXs.of (i := 5) rfl rfl (by rfl) ?_
             refine bs h2 fun q70 gq70 h2 => zc (v' := (.tup [(.agg (eRDecl q70.1)), (.bool q70.2)])) hb121 (impl_arrowAt_ok gq70) rfl rfl rfl (AO.done ⟨rfl, ?_⟩)
             refine AX.hoist 6 (v := (.tup [(.agg (eRDecl q70.1)), (.bool q70.2)])) rfl rfl (by kernel_rfl) (by kernel_rfl) (by kernel_rfl) rfl (hoist_mv rfl) ?_
             refine AX.all [7, 8] rfl (by kernel_rfl) (by decide) ⟨?_, ?_, trivial⟩
             ·refine AXs.of (i := 7) rfl rfl (by rfl) ?_
              refine zq tb rfl (AO.done ⟨rfl, ?_⟩)
              refine AX.all [8, 10] rfl (by kernel_rfl) (by decide) ⟨?_, ?_, trivial⟩
              ·refine AXs.of (i := 8) rfl rfl (by rfl) ?_
               refine zq tb rfl (AO.done ⟨rfl, ?_⟩)
               refine AX.all [10] rfl (by kernel_rfl) (by decide) ⟨?_, trivial⟩
               ·refine AXs.of (i := 10) rfl rfl (by rfl) ?_
                refine ao_str (st' := [⟨0, 97, 2, [(eRSignatures p0)]⟩, ⟨0, 80, 3, [(eRDecl q70.1)]⟩]) go0 ti80 rfl rfl rfl rfl rfl rfl (show 0 + 3 ≤ 3 by decide) rfl (AO.done ⟨rfl, ?_⟩)
                refine AX.hoist 11 (v := (.bool q70.2)) rfl rfl (by kernel_rfl) (by kernel_rfl) (by kernel_rfl) rfl (hoist_as rfl) ?_
                exact AX.done rfl (by kernel_rfl) (M38 q70.2 q70.1.from_ q70.1.to q70.1.cons (Sh.some_eq h2).symm _ (by refine Wk.trans (Wk.permk (L := [(2, (i64 p2)), (3, (ls eI p3)), (12, (.ptr 0 0 0 0)), (13, (.bool q70.2))]) (st' := [⟨0, 80, 3, [(eRDecl q70.1)]⟩]) (st1 := [⟨0, 80, 3, [(eRDecl q70.1)]⟩]) [1] rfl .nil (by decide) rfl rfl (.raw rfl rfl .nil) ⟨.rfl, .rfl, .rfl, .rfl, trivial⟩) ?_; exact Wk.to (L := [(2, (i64 p2)), (3, (ls eI p3)), (12, (.ptr 0 0 0 0)), (13, (.bool q70.2))]) ⟨.rfl, .rfl, .rfl, .rfl, trivial⟩))
              ·refine AXs.of (i := 10) rfl rfl (by rfl) ?_
               refine ao_str (st' := [⟨0, 97, 2, [(eRSignatures p0)]⟩, ⟨0, 80, 3, [(eRDecl q70.1)]⟩]) go0 ti80 rfl rfl rfl rfl rfl rfl (show 0 + 3 ≤ 3 by decide) rfl (AO.done ⟨rfl, ?_⟩)
               refine AX.all [8] rfl (by kernel_rfl) (by decide) ⟨?_, trivial⟩
               ·refine AXs.of (i := 8) rfl rfl (by rfl) ?_
                refine zq tb rfl (AO.done ⟨rfl, ?_⟩)
                refine AX.hoist 11 (v := (.bool q70.2)) rfl rfl (by kernel_rfl) (by kernel_rfl) (by kernel_rfl) rfl (hoist_as rfl) ?_
                exact AX.done rfl (by kernel_rfl) (M38 q70.2 q70.1.from_ q70.1.to q70.1.cons (Sh.some_eq h2).symm _ (by refine Wk.trans (Wk.permk (L := [(2, (i64 p2)), (3, (ls eI p3)), (12, (.ptr 0 0 0 0)), (13, (.bool q70.2))]) (st' := [⟨0, 80, 3, [(eRDecl q70.1)]⟩]) (st1 := [⟨0, 80, 3, [(eRDecl q70.1)]⟩]) [1] rfl .nil (by decide) rfl rfl (.raw rfl rfl .nil) ⟨.rfl, .rfl, .rfl, .rfl, trivial⟩) ?_; exact Wk.to (L := [(2, (i64 p2)), (3, (ls eI p3)), (12, (.ptr 0 0 0 0)), (13, (.bool q70.2))]) ⟨.rfl, .rfl, .rfl, .rfl, trivial⟩))
             ·refine AXs.of (i := 8) rfl rfl (by rfl) ?_
              refine zq tb rfl (AO.done ⟨rfl, ?_⟩)
              refine AX.all [7] rfl (by kernel_rfl) (by decide) ⟨?_, trivial⟩
              ·refine AXs.of (i := 7) rfl rfl (by rfl) ?_
               refine zq tb rfl (AO.done ⟨rfl, ?_⟩)
               refine AX.all [10] rfl (by kernel_rfl) (by decide) ⟨?_, trivial⟩
               ·refine AXs.of (i := 10) rfl rfl (by rfl) ?_
                refine ao_str (st' := [⟨0, 97, 2, [(eRSignatures p0)]⟩, ⟨0, 80, 3, [(eRDecl q70.1)]⟩]) go0 ti80 rfl rfl rfl rfl rfl rfl (show 0 + 3 ≤ 3 by decide) rfl (AO.done ⟨rfl, ?_⟩)
                refine AX.hoist 11 (v := (.bool q70.2)) rfl rfl (by kernel_rfl) (by kernel_rfl) (by kernel_rfl) rfl (hoist_as rfl) ?_
                exact AX.done rfl (by kernel_rfl) (M38 q70.2 q70.1.from_ q70.1.to q70.1.cons (Sh.some_eq h2).symm _ (by refine Wk.trans (Wk.permk (L := [(2, (i64 p2)), (3, (ls eI p3)), (12, (.ptr 0 0 0 0)), (13, (.bool q70.2))]) (st' := [⟨0, 80, 3, [(eRDecl q70.1)]⟩]) (st1 := [⟨0, 80, 3, [(eRDecl q70.1)]⟩]) [1] rfl .nil (by decide) rfl rfl (.raw rfl rfl .nil) ⟨.rfl, .rfl, .rfl, .rfl, trivial⟩) ?_; exact Wk.to (L := [(2, (i64 p2)), (3, (ls eI p3)), (12, (.ptr 0 0 0 0)), (13, (.bool q70.2))]) ⟨.rfl, .rfl, .rfl, .rfl, trivial⟩))
          ·refine AXs.of (i := 9) rfl rfl (by rfl) ?_
           refine ao_alloc (m := 1) (st' := [⟨0, 97, 2, [(eRSignatures p0)]⟩, ⟨0, 80, 3, [[(i64 0), (i64 0), .zc]]⟩]) go0 zi80 rfl rfl (AO.done ⟨rfl, ?_⟩)
           refine AX.all [1] rfl (by kernel_rfl) (by decide) ⟨?_, trivial⟩
           ·refine AXs.of (i := 1) rfl rfl (by rfl) ?_
            refine zq tb rfl (AO.done ⟨rfl, ?_⟩)
            refine AX.all [5] rfl (by kernel_rfl) (by decide) ⟨?_, trivial⟩
            ·refine AXs.of (i := 5) rfl rfl (by rfl) ?_
             refine bs h2 fun q71 gq71 h2 => zc (v' := (.tup [(.agg (eRDecl q71.1)), (.bool q71.2)])) hb121 (impl_arrowAt_ok gq71) rfl rfl rfl (AO.done ⟨rfl, ?_⟩)
             refine AX.hoist 6 (v := (.tup [(.agg (eRDecl q71.1)), (.bool q71.2)])) rfl rfl (by kernel_rfl) (by kernel_rfl) (by kernel_rfl) rfl (hoist_mv rfl) ?_
             refine AX.all [7, 8] rfl (by kernel_rfl) (by decide) ⟨?_, ?_, trivial⟩
             ·refine AXs.of (i := 7) rfl rfl (by rfl) ?_
              refine zq tb rfl (AO.done ⟨rfl, ?_⟩)
              refine AX.all [8, 10] rfl (by kernel_rfl) (by decide) ⟨?_, ?_, trivial⟩
              ·refine AXs.of (i := 8) rfl rfl (by rfl) ?_
               refine zq tb rfl (AO.done ⟨rfl, ?_⟩)
               refine AX.all [10] rfl (by kernel_rfl) (by decide) ⟨?_, trivial⟩
               ·refine AXs.of (i := 10) rfl rfl (by rfl) ?_
                refine ao_str (st' := [⟨0, 97, 2, [(eRSignatures p0)]⟩, ⟨0, 80, 3, [(eRDecl q71.1)]⟩]) go0 ti80 rfl rfl rfl rfl rfl rfl (show 0 + 3 ≤ 3 by decide) rfl (AO.done ⟨rfl, ?_⟩)
                refine AX.hoist 11 (v := (.bool q71.2)) rfl rfl (by kernel_rfl) (by kernel_rfl) (by kernel_rfl) rfl (hoist_as rfl) ?_
                exact AX.done rfl (by kernel_rfl) (M38 q71.2 q71.1.from_ q71.1.to q71.1.cons (Sh.some_eq h2).symm _ (by refine Wk.trans (Wk.permk (L := [(2, (i64 p2)), (3, (ls eI p3)), (12, (.ptr 0 0 0 0)), (13, (.bool q71.2))]) (st' := [⟨0, 80, 3, [(eRDecl q71.1)]⟩]) (st1 := [⟨0, 80, 3, [(eRDecl q71.1)]⟩]) [1] rfl .nil (by decide) rfl rfl (.raw rfl rfl .nil) ⟨.rfl, .rfl, .rfl, .rfl, trivial⟩) ?_; exact Wk.to (L := [(2, (i64 p2)), (3, (ls eI p3)), (12, (.ptr 0 0 0 0)), (13, (.bool q71.2))]) ⟨.rfl, .rfl, .rfl, .rfl, trivial⟩))
              ·refine AXs.of (i := 10) rfl rfl (by rfl) ?_
               refine ao_str (st' := [⟨0, 97, 2, [(eRSignatures p0)]⟩, ⟨0, 80, 3, [(eRDecl q71.1)]⟩]) go0 ti80 rfl rfl rfl rfl rfl rfl (show 0 + 3 ≤ 3 by decide) rfl (AO.done ⟨rfl, ?_⟩)
               refine AX.all [8] rfl (by kernel_rfl) (by decide) ⟨?_, trivial⟩
               ·refine AXs.of (i := 8) rfl rfl (by rfl) ?_
                refine zq tb rfl (AO.done ⟨rfl, ?_⟩)
                refine AX.hoist 11 (v := (.bool q71.2)) rfl rfl (by kernel_rfl) (by kernel_rfl) (by kernel_rfl) rfl (hoist_as rfl) ?_
                exact AX.done rfl (by kernel_rfl) (M38 q71.2 q71.1.from_ q71.1.to q71.1.cons (Sh.some_eq h2).symm _ (by refine Wk.trans (Wk.permk (L := [(2, (i64 p2)), (3, (ls eI p3)), (12, (.ptr 0 0 0 0)), (13, (.bool q71.2))]) (st' := [⟨0, 80, 3, [(eRDecl q71.1)]⟩]) (st1 := [⟨0, 80, 3, [(eRDecl q71.1)]⟩]) [1] rfl .nil (by decide) rfl rfl (.raw rfl rfl .nil) ⟨.rfl, .rfl, .rfl, .rfl, trivial⟩) ?_; exact Wk.to (L := [(2, (i64 p2)), (3, (ls eI p3)), (12, (.ptr 0 0 0 0)), (13, (.bool q71.2))]) ⟨.rfl, .rfl, .rfl, .rfl, trivial⟩))
             ·refine AXs.of (i := 8) rfl rfl (by rfl) ?_
              refine zq tb rfl (AO.done ⟨rfl, ?_⟩)
              refine AX.all [7] rfl (by kernel_rfl) (by decide) ⟨?_, trivial⟩
              ·refine AXs.of (i := 7) rfl rfl (by rfl) ?_
               refine zq tb rfl (AO.done ⟨rfl, ?_⟩)
               refine AX.all [10] rfl (by kernel_rfl) (by decide) ⟨?_, trivial⟩
               ·refine AXs.of (i := 10) rfl rfl (by rfl) ?_
                refine ao_str (st' := [⟨0, 97, 2, [(eRSignatures p0)]⟩, ⟨0, 80, 3, [(eRDecl q71.1)]⟩]) go0 ti80 rfl rfl rfl rfl rfl rfl (show 0 + 3 ≤ 3 by decide) rfl (AO.done ⟨rfl, ?_⟩)
                refine AX.hoist 11 (v := (.bool q71.2)) rfl rfl (by kernel_rfl) (by kernel_rfl) (by kernel_rfl) rfl (hoist_as rfl) ?_
                exact AX.done rfl (by kernel_rfl) (M38 q71.2 q71.1.from_ q71.1.to q71.1.cons (Sh.some_eq h2).symm _ (by refine Wk.trans (Wk.permk (L := [(2, (i64 p2)), (3, (ls eI p3)), (12, (.ptr 0 0 0 0)), (13, (.bool q71.2))]) (st' := [⟨0, 80, 3, [(eRDecl q71.1)]⟩]) (st1 := [⟨0, 80, 3, [(eRDecl q71.1)]⟩]) [1] rfl .nil (by decide) rfl rfl (.raw rfl rfl .nil) ⟨.rfl, .rfl, .rfl, .rfl, trivial⟩) ?_; exact Wk.to (L := [(2, (i64 p2)), (3, (ls eI p3)), (12, (.ptr 0 0 0 0)), (13, (.bool q71.2))]) ⟨.rfl, .rfl, .rfl, .rfl, trivial⟩))
         ·refine AXs.of (i := 9) rfl rfl (by rfl) ?_
          refine ao_alloc (m := 1) (st' := [⟨0, 97, 2, [(eRSignatures p0)]⟩, ⟨0, 80, 3, [[(i64 0), (i64 0), .zc]]⟩]) go0 zi80 rfl rfl (AO.done ⟨rfl, ?_⟩)
          refine AX.all [1, 4] rfl (by kernel_rfl) (by decide) ⟨?_, ?_, trivial⟩
          ·refine AXs.of (i := 1) rfl rfl (by rfl) ?_
           refine zq tb rfl (AO.done ⟨rfl, ?_⟩)
           refine AX.all [4] rfl (by kernel_rfl) (by decide) ⟨?_, trivial⟩
           ·refine AXs.of (i := 4) rfl rfl (by rfl) ?_
            refine zq tb rfl (AO.done ⟨rfl, ?_⟩)
            refine AX.all [5] rfl (by kernel_rfl) (by decide) ⟨?_, trivial⟩
            ·refine AXs.of (i := 5) rfl rfl (by rfl) ?_
             refine bs h2 fun q72 gq72 h2 => zc (v' := (.tup [(.agg (eRDecl q72.1)), (.bool q72.2)])) hb121 (impl_arrowAt_ok gq72) rfl rfl rfl (AO.done ⟨rfl, ?_⟩)
             refine AX.hoist 6 (v := (.tup [(.agg (eRDecl q72.1)), (.bool q72.2)])) rfl rfl (by kernel_rfl) (by kernel_rfl) (by kernel_rfl) rfl (hoist_mv rfl) ?_
             refine AX.all [7, 8] rfl (by kernel_rfl) (by decide) ⟨?_, ?_, trivial⟩
             ·refine AXs.of (i := 7) rfl rfl (by rfl) ?_
              refine zq tb rfl (AO.done ⟨rfl, ?_⟩)
              refine AX.all [8, 10] rfl (by kernel_rfl) (by decide) ⟨?_, ?_, trivial⟩
              ·refine AXs.of (i := 8) rfl rfl (by rfl) ?_
               refine zq tb rfl (AO.done ⟨rfl, ?_⟩)
               refine AX.all [10] rfl (by kernel_rfl) (by decide) ⟨?_, trivial⟩
               ·refine AXs.of (i := 10) rfl rfl (by rfl) ?_
                refine ao_str (st' := [⟨0, 97, 2, [(eRSignatures p0)]⟩, ⟨0, 80, 3, [(eRDecl q72.1)]⟩]) go0 ti80 rfl rfl rfl rfl rfl rfl (show 0 + 3 ≤ 3 by decide) rfl (AO.done ⟨rfl, ?_⟩)
                refine AX.hoist 11 (v := (.bool q72.2)) rfl rfl (by kernel_rfl) (by kernel_rfl) (by kernel_rfl) rfl (hoist_as rfl) ?_
                exact AX.done rfl (by kernel_rfl) (M38 q72.2 q72.1.from_ q72.1.to q72.1.cons (Sh.some_eq h2).symm _ (by refine Wk.trans (Wk.permk (L := [(2, (i64 p2)), (3, (ls eI p3)), (12, (.ptr 0 0 0 0)), (13, (.bool q72.2))]) (st' := [⟨0, 80, 3, [(eRDecl q72.1)]⟩]) (st1 := [⟨0, 80, 3, [(eRDecl q72.1)]⟩]) [1] rfl .nil (by decide) rfl rfl (.raw rfl rfl .nil) ⟨.rfl, .rfl, .rfl, .rfl, trivial⟩) ?_; exact Wk.to (L := [(2, (i64 p2)), (3, (ls eI p3)), (12, (.ptr 0 0 0 0)), (13, (.bool q72.2))]) ⟨.rfl, .rfl, .rfl, .rfl, trivial⟩))
              ·refine AXs.of (i := 10) rfl rfl (by rfl) ?_
               refine ao_str (st' := [⟨0, 97, 2, [(eRSignatures p0)]⟩, ⟨0, 80, 3, [(eRDecl q72.1)]⟩]) go0 ti80 rfl rfl rfl rfl rfl rfl (show 0 + 3 ≤ 3 by decide) rfl (AO.done ⟨rfl, ?_⟩)
               refine AX.all [8] rfl (by kernel_rfl) (by decide) ⟨?_, trivial⟩
               ·refine AXs.of (i := 8) rfl rfl (by rfl) ?_
                refine zq tb rfl (AO.done ⟨rfl, ?_⟩)
                refine AX.hoist 11 (v := (.bool q72.2)) rfl rfl (by kernel_rfl) (by kernel_rfl) (by kernel_rfl) rfl (hoist_as rfl) ?_
                exact AX.done rfl (by kernel_rfl) (M38 q72.2 q72.1.from_ q72.1.to q72.1.cons (Sh.some_eq h2).symm _ (by refine Wk.trans (Wk.permk (L := [(2, (i64 p2)), (3, (ls eI p3)), (12, (.ptr 0 0 0 0)), (13, (.bool q72.2))]) (st' := [⟨0, 80, 3, [(eRDecl q72.1)]⟩]) (st1 := [⟨0, 80, 3, [(eRDecl q72.1)]⟩]) [1] rfl .nil (by decide) rfl rfl (.raw rfl rfl .nil) ⟨.rfl, .rfl, .rfl, .rfl, trivial⟩) ?_; exact Wk.to (L := [(2, (i64 p2)), (3, (ls eI p3)), (12, (.ptr 0 0 0 0)), (13, (.bool q72.2))]) ⟨.rfl, .rfl, .rfl, .rfl, trivial⟩))
             ·refine AXs.of (i := 8) rfl rfl (by rfl) ?_
              refine zq tb rfl (AO.done ⟨rfl, ?_⟩)
              refine AX.all [7] rfl (by kernel_rfl) (by decide) ⟨?_, trivial⟩
              ·refine AXs.of (i := 7) rfl rfl (by rfl) ?_
               refine zq tb rfl (AO.done ⟨rfl, ?_⟩)
               refine AX.all [10] rfl (by kernel_rfl) (by decide) ⟨?_, trivial⟩
               ·refine AXs.of (i := 10) rfl rfl (by rfl) ?_
                refine ao_str (st' := [⟨0, 97, 2, [(eRSignatures p0)]⟩, ⟨0, 80, 3, [(eRDecl q72.1)]⟩]) go0 ti80 rfl rfl rfl rfl rfl rfl (show 0 + 3 ≤ 3 by decide) rfl (AO.done ⟨rfl, ?_⟩)
                refine AX.hoist 11 (v := (.bool q72.2)) rfl rfl (by kernel_rfl) (by kernel_rfl) (by kernel_rfl) rfl (hoist_as rfl) ?_
                exact AX.done rfl (by kernel_rfl) (M38 q72.2 q72.1.from_ q72.1.to q72.1.cons (Sh.some_eq h2).symm _ (by refine Wk.trans (Wk.permk (L := [(2, (i64 p2)), (3, (ls eI p3)), (12, (.ptr 0 0 0 0)), (13, (.bool q72.2))]) (st' := [⟨0, 80, 3, [(eRDecl q72.1)]⟩]) (st1 := [⟨0, 80, 3, [(eRDecl q72.1)]⟩]) [1] rfl .nil (by decide) rfl rfl (.raw rfl rfl .nil) ⟨.rfl, .rfl, .rfl, .rfl, trivial⟩) ?_; exact Wk.to (L := [(2, (i64 p2)), (3, (ls eI p3)), (12, (.ptr 0 0 0 0)), (13, (.bool q72.2))]) ⟨.rfl, .rfl, .rfl, .rfl, trivial⟩))
          ·refine AXs.of (i := 4) rfl rfl (by rfl) ?_
           refine zq tb rfl (AO.done ⟨rfl, ?_⟩)
           refine AX.all [1] rfl (by kernel_rfl) (by decide) ⟨?_, trivial⟩
           ·refine AXs.of (i := 1) rfl rfl (by rfl) ?_
            refine zq tb rfl (AO.done ⟨rfl, ?_⟩)
            refine AX.all [5] rfl (by kernel_rfl) (by decide) ⟨?_, trivial⟩
            ·refine AXs.of (i := 5) rfl rfl (by rfl) ?_
             refine bs h2 fun q73 gq73 h2 => zc (v' := (.tup [(.agg (eRDecl q73.1)), (.bool q73.2)])) hb121 (impl_arrowAt_ok gq73) rfl rfl rfl (AO.done ⟨rfl, ?_⟩)
             refine AX.hoist 6 (v := (.tup [(.agg (eRDecl q73.1)), (.bool q73.2)])) rfl rfl (by kernel_rfl) (by kernel_rfl) (by kernel_rfl) rfl (hoist_mv rfl) ?_
             refine AX.all [7, 8] rfl (by kernel_rfl) (by decide) ⟨?_, ?_, trivial⟩
             ·refine AXs.of (i := 7) rfl rfl (by rfl) ?_
              refine zq tb rfl (AO.done ⟨rfl, ?_⟩)
              refine AX.all [8, 10] rfl (by kernel_rfl) (by decide) ⟨?_, ?_, trivial⟩
              ·refine AXs.of (i := 8) rfl rfl (by rfl) ?_
               refine zq tb rfl (AO.done ⟨rfl, ?_⟩)
               refine AX.all [10] rfl (by kernel_rfl) (by decide) ⟨?_, trivial⟩
               ·refine AXs.of (i := 10) rfl rfl (by rfl) ?_
                refine ao_str (st' := [⟨0, 97, 2, [(eRSignatures p0)]⟩, ⟨0, 80, 3, [(eRDecl q73.1)]⟩]) go0 ti80 rfl rfl rfl rfl rfl rfl (show 0 + 3 ≤ 3 by decide) rfl (AO.done ⟨rfl, ?_⟩)
                refine AX.hoist 11 (v := (.bool q73.2)) rfl rfl (by kernel_rfl) (by kernel_rfl) (by kernel_rfl) rfl (hoist_as rfl) ?_
                exact AX.done rfl (by kernel_rfl) (M38 q73.2 q73.1.from_ q73.1.to q73.1.cons (Sh.some_eq h2).symm _ (by refine Wk.trans (Wk.permk (L := [(2, (i64 p2)), (3, (ls eI p3)), (12, (.ptr 0 0 0 0)), (13, (.bool q73.2))]) (st' := [⟨0, 80, 3, [(eRDecl q73.1)]⟩]) (st1 := [⟨0, 80, 3, [(eRDecl q73.1)]⟩]) [1] rfl .nil (by decide) rfl rfl (.raw rfl rfl .nil) ⟨.rfl, .rfl, .rfl, .rfl, trivial⟩) ?_; exact Wk.to (L := [(2, (i64 p2)), (3, (ls eI p3)), (12, (.ptr 0 0 0 0)), (13, (.bool q73.2))]) ⟨.rfl, .rfl, .rfl, .rfl, trivial⟩))
              ·refine AXs.of (i := 10) rfl rfl (by rfl) ?_
               refine ao_str (st' := [⟨0, 97, 2, [(eRSignatures p0)]⟩, ⟨0, 80, 3, [(eRDecl q73.1)]⟩]) go0 ti80 rfl rfl rfl rfl rfl rfl (show 0 + 3 ≤ 3 by decide) rfl (AO.done ⟨rfl, ?_⟩)
               refine AX.all [8] rfl (by kernel_rfl) (by decide) ⟨?_, trivial⟩
               ·refine AXs.of (i := 8) rfl rfl (by rfl) ?_
                refine zq tb rfl (AO.done ⟨rfl, ?_⟩)
                refine AX.hoist 11 (v := (.bool q73.2)) rfl rfl (by kernel_rfl) (by kernel_rfl) (by kernel_rfl) rfl (hoist_as rfl) ?_
                exact AX.done rfl (by kernel_rfl) (M38 q73.2 q73.1.from_ q73.1.to q73.1.cons (Sh.some_eq h2).symm _ (by refine Wk.trans (Wk.permk (L := [(2, (i64 p2)), (3, (ls eI p3)), (12, (.ptr 0 0 0 0)), (13, (.bool q73.2))]) (st' := [⟨0, 80, 3, [(eRDecl q73.1)]⟩]) (st1 := [⟨0, 80, 3, [(eRDecl q73.1)]⟩]) [1] rfl .nil (by decide) rfl rfl (.raw rfl rfl .nil) ⟨.rfl, .rfl, .rfl, .rfl, trivial⟩) ?_; exact Wk.to (L := [(2, (i64 p2)), (3, (ls eI p3)), (12, (.ptr 0 0 0 0)), (13, (.bool q73.2))]) ⟨.rfl, .rfl, .rfl, .rfl, trivial⟩))
             ·refine AXs.of (i := 8) rfl rfl (by rfl) ?_
              refine zq tb rfl (AO.done ⟨rfl, ?_⟩)
              refine AX.all [7] rfl (by kernel_rfl) (by decide) ⟨?_, trivial⟩
              ·refine AXs.of (i := 7) rfl rfl (by rfl) ?_
               refine zq tb rfl (AO.done ⟨rfl, ?_⟩)
               refine AX.all [10] rfl (by kernel_rfl) (by decide) ⟨?_, trivial⟩
               ·refine AXs.of (i := 10) rfl rfl (by rfl) ?_
                refine ao_str (st' := [⟨0, 97, 2, [(eRSignatures p0)]⟩, ⟨0, 80, 3, [(eRDecl q73.1)]⟩]) go0 ti80 rfl rfl rfl rfl rfl rfl (show 0 + 3 ≤ 3 by decide) rfl (AO.done ⟨rfl, ?_⟩)
                refine AX.hoist 11 (v := (.bool q73.2)) rfl rfl (by kernel_rfl) (by kernel_rfl) (by kernel_rfl) rfl (hoist_as rfl) ?_
                exact AX.done rfl (by kernel_rfl) (M38 q73.2 q73.1.from_ q73.1.to q73.1.cons (Sh.some_eq h2).symm _ (by refine Wk.trans (Wk.permk (L := [(2, (i64 p2)), (3, (ls eI p3)), (12, (.ptr 0 0 0 0)), (13, (.bool q73.2))]) (st' := [⟨0, 80, 3, [(eRDecl q73.1)]⟩]) (st1 := [⟨0, 80, 3, [(eRDecl q73.1)]⟩]) [1] rfl .nil (by decide) rfl rfl (.raw rfl rfl .nil) ⟨.rfl, .rfl, .rfl, .rfl, trivial⟩) ?_; exact Wk.to (L := [(2, (i64 p2)), (3, (ls eI p3)), (12, (.ptr 0 0 0 0)), (13, (.bool q73.2))]) ⟨.rfl, .rfl, .rfl, .rfl, trivial⟩))
        ·refine AXs.of (i := 4) rfl rfl (by rfl) ?_
         refine zq tb rfl (AO.done ⟨rfl, ?_⟩)
         refine AX.all [0, 9] rfl (by kernel_rfl) (by decide) ⟨?_, ?_, trivial⟩
         ·refine AXs.of (i := 0) rfl rfl (by rfl) ?_
          refine zq tb rfl (AO.done ⟨rfl, ?_⟩)
          refine AX.all [1, 9] rfl (by kernel_rfl) (by decide) ⟨?_, ?_, trivial⟩
          ·refine AXs.of (i := 1) rfl rfl (by rfl) ?_
           refine zq tb rfl (AO.done ⟨rfl, ?_⟩)
           refine AX.all [5, 9] rfl (by kernel_rfl) (by decide) ⟨?_, ?_, trivial⟩
           ·refine AXs.of (i := 5) rfl rfl (by rfl) ?_
            refine bs h2 fun q74 gq74 h2 => zc (v' := (.tup [(.agg (eRDecl q74.1)), (.bool q74.2)])) hb121 (impl_arrowAt_ok gq74) rfl rfl rfl (AO.done ⟨rfl, ?_⟩)
            refine AX.hoist 6 (v := (.tup [(.agg (eRDecl q74.1)), (.bool q74.2)])) rfl rfl (by kernel_rfl) (by kernel_rfl) (by kernel_rfl) rfl (hoist_mv rfl) ?_
            refine AX.all [7, 8, 9] rfl (by kernel_rfl) (by decide) ⟨?_, ?_, ?_, trivial⟩
            ·refine AXs.of (i := 7) rfl rfl (by rfl) ?_
             refine zq tb rfl (AO.done ⟨rfl, ?_⟩)
             refine AX.all [8, 9] rfl (by kernel_rfl) (by decide) ⟨?_, ?_, trivial⟩
             ·refine AXs.of (i := 8) rfl rfl (by rfl) ?_
              refine zq tb rfl (AO.done ⟨rfl, ?_⟩)
              refine AX.all [9] rfl (by kernel_rfl) (by decide) ⟨?_, trivial⟩
              ·refine AXs.of (i := 9) rfl rfl (by rfl) ?_
               refine ao_alloc (m := 1) (st' := [⟨0, 97, 2, [(eRSignatures p0)]⟩, ⟨0, 80, 3, [[(i64 0), (i64 0), .zc]]⟩]) go0 zi80 rfl rfl (AO.done ⟨rfl, ?_⟩)
               refine AX.all [10] rfl (by kernel_rfl) (by decide) ⟨?_, trivial⟩
               ·refine AXs.of (i := 10) rfl rfl (by rfl) ?_
                refine ao_str (st' := [⟨0, 97, 2, [(eRSignatures p0)]⟩, ⟨0, 80, 3, [(eRDecl q74.1)]⟩]) go0 ti80 rfl rfl rfl rfl rfl rfl (show 0 + 3 ≤ 3 by decide) rfl (AO.done ⟨rfl, ?_⟩)
                refine AX.hoist 11 (v := (.bool q74.2)) rfl rfl (by kernel_rfl) (by kernel_rfl) (by kernel_rfl) rfl (hoist_as rfl) ?_
                exact AX.done rfl (by kernel_rfl) (M38 q74.2 q74.1.from_ q74.1.to q74.1.cons (Sh.some_eq h2).symm _ (by refine Wk.trans (Wk.permk (L := [(2, (i64 p2)), (3, (ls eI p3)), (12, (.ptr 0 0 0 0)), (13, (.bool q74.2))]) (st' := [⟨0, 80, 3, [(eRDecl q74.1)]⟩]) (st1 := [⟨0, 80, 3, [(eRDecl q74.1)]⟩]) [1] rfl .nil (by decide) rfl rfl (.raw rfl rfl .nil) ⟨.rfl, .rfl, .rfl, .rfl, trivial⟩) ?_; exact Wk.to (L := [(2, (i64 p2)), (3, (ls eI p3)), (12, (.ptr 0 0 0 0)), (13, (.bool q74.2))]) ⟨.rfl, .rfl, .rfl, .rfl, trivial⟩))
             ·refine AXs.of (i := 9) rfl rfl (by rfl) ?_
              refine ao_alloc (m := 1) (st' := [⟨0, 97, 2, [(eRSignatures p0)]⟩, ⟨0, 80, 3, [[(i64 0), (i64 0), .zc]]⟩]) go0 zi80 rfl rfl (AO.done ⟨rfl, ?_⟩)
              refine AX.all [8, 10] rfl (by kernel_rfl) (by decide) ⟨?_, ?_, trivial⟩
              ·refine AXs.of (i := 8) rfl rfl (by rfl) ?_
               refine zq tb rfl (AO.done ⟨rfl, ?_⟩)
               refine AX.all [10] rfl (by kernel_rfl) (by decide) ⟨?_, trivial⟩
               ·refine AXs.of (i := 10) rfl rfl (by rfl) ?_
                refine ao_str (st' := [⟨0, 97, 2, [(eRSignatures p0)]⟩, ⟨0, 80, 3, [(eRDecl q74.1)]⟩]) go0 ti80 rfl rfl rfl rfl rfl rfl (show 0 + 3 ≤ 3 by decide) rfl (AO.done ⟨rfl, ?_⟩)
                refine AX.hoist 11 (v := (.bool q74.2)) rfl rfl (by kernel_rfl) (by kernel_rfl) (by kernel_rfl) rfl (hoist_as rfl) ?_
                exact AX.done rfl (by kernel_rfl) (M38 q74.2 q74.1.from_ q74.1.to q74.1.cons (Sh.some_eq h2).symm _ (by refine Wk.trans (Wk.permk (L := [(2, (i64 p2)), (3, (ls eI p3)), (12, (.ptr 0 0 0 0)), (13, (.bool q74.2))]) (st' := [⟨0, 80, 3, [(eRDecl q74.1)]⟩]) (st1 := [⟨0, 80, 3, [(eRDecl q74.1)]⟩]) [1] rfl .nil (by decide) rfl rfl (.raw rfl rfl .nil) ⟨.rfl, .rfl, .rfl, .rfl, trivial⟩) ?_; exact Wk.to (L := [(2, (i64 p2)), (3, (ls eI p3)), (12, (.ptr 0 0 0 0)), (13, (.bool q74.2))]) ⟨.rfl, .rfl, .rfl, .rfl, trivial⟩))
              ·refine AXs.of (i := 10) rfl rfl (by rfl) ?_
               refine ao_str (st' := [⟨0, 97, 2, [(eRSignatures p0)]⟩, ⟨0, 80, 3, [(eRDecl q74.1)]⟩]) go0 ti80 rfl rfl rfl rfl rfl rfl (show 0 + 3 ≤ 3 by decide) rfl (AO.done ⟨rfl, ?_⟩)
               refine AX.all [8] rfl (by kernel_rfl) (by decide) ⟨?_, trivial⟩
               ·refine AXs.of (i := 8) rfl rfl (by rfl) ?_
                refine zq tb rfl (AO.done ⟨rfl, ?_⟩)
                refine AX.hoist 11 (v := (.bool q74.2)) rfl rfl (by kernel_rfl) (by kernel_rfl) (by kernel_rfl) rfl (hoist_as rfl) ?_
                exact AX.done rfl (by kernel_rfl) (M38 q74.2 q74.1.from_ q74.1.to q74.1.cons (Sh.some_eq h2).symm _ (by refine Wk.trans (Wk.permk (L := [(2, (i64 p2)), (3, (ls eI p3)), (12, (.ptr 0 0 0 0)), (13, (.bool q74.2))]) (st' := [⟨0, 80, 3, [(eRDecl q74.1)]⟩]) (st1 := [⟨0, 80, 3, [(eRDecl q74.1)]⟩]) [1] rfl .nil (by decide) rfl rfl (.raw rfl rfl .nil) ⟨.rfl, .rfl, .rfl, .rfl, trivial⟩) ?_; exact Wk.to (L := [(2, (i64 p2)), (3, (ls eI p3)), (12, (.ptr 0 0 0 0)), (13, (.bool q74.2))]) ⟨.rfl, .rfl, .rfl, .rfl, trivial⟩))
            ·refine AXs.of (i := 8) rfl rfl (by rfl) ?_
             refine zq tb rfl (AO.done ⟨rfl, ?_⟩)
             refine AX.all [7, 9] rfl (by kernel_rfl) (by decide) ⟨?_, ?_, trivial⟩
             ·refine AXs.of (i := 7) rfl rfl (by rfl) ?_
              refine zq tb rfl (AO.done ⟨rfl, ?_⟩)
              refine AX.all [9] rfl (by kernel_rfl) (by decide) ⟨?_, trivial⟩
              ·refine AXs.of (i := 9) rfl rfl (by rfl) ?_
               refine ao_alloc (m := 1) (st' := [⟨0, 97, 2, [(eRSignatures p0)]⟩, ⟨0, 80, 3, [[(i64 0), (i64 0), .zc]]⟩]) go0 zi80 rfl rfl (AO.done ⟨rfl, ?_⟩)
               refine AX.all [10] rfl (by kernel_rfl) (by decide) ⟨?_, trivial⟩
               ·refine AXs.of (i := 10) rfl rfl (by rfl) ?_
                refine ao_str (st' := [⟨0, 97, 2, [(eRSignatures p0)]⟩, ⟨0, 80, 3, [(eRDecl q74.1)]⟩]) go0 ti80 rfl rfl rfl rfl rfl rfl (show 0 + 3 ≤ 3 by decide) rfl (AO.done ⟨rfl, ?_⟩)
                refine AX.hoist 11 (v := (.bool q74.2)) rfl rfl (by kernel_rfl) (by kernel_rfl) (by kernel_rfl) rfl (hoist_as rfl) ?_
                exact AX.done rfl (by kernel_rfl) (M38 q74.2 q74.1.from_ q74.1.to q74.1.cons (Sh.some_eq h2).symm _ (by refine Wk.trans (Wk.permk (L := [(2, (i64 p2)), (3, (ls eI p3)), (12, (.ptr 0 0 0 0)), (13, (.bool q74.2))]) (st' := [⟨0, 80, 3, [(eRDecl q74.1)]⟩]) (st1 := [⟨0, 80, 3, [(eRDecl q74.1)]⟩]) [1] rfl .nil (by decide) rfl rfl (.raw rfl rfl .nil) ⟨.rfl, .rfl, .rfl, .rfl, trivial⟩) ?_; exact Wk.to (L := [(2, (i64 p2)), (3, (ls eI p3)), (12, (.ptr 0 0 0 0)), (13, (.bool q74.2))]) ⟨.rfl, .rfl, .rfl, .rfl, trivial⟩))
             ·refine AXs.of (i := 9) rfl rfl (by rfl) ?_
              refine ao_alloc (m := 1) (st' := [⟨0, 97, 2, [(eRSignatures p0)]⟩, ⟨0, 80, 3, [[(i64 0), (i64 0), .zc]]⟩]) go0 zi80 rfl rfl (AO.done ⟨rfl, ?_⟩)
              refine AX.all [7] rfl (by kernel_rfl) (by decide) ⟨?_, trivial⟩
              ·refine AXs.of (i := 7) rfl rfl (by rfl) ?_
               refine zq tb rfl (AO.done ⟨rfl, ?_⟩)
               refine AX.all [10] rfl (by kernel_rfl) (by decide) ⟨?_, trivial⟩
               ·refine AXs.of (i := 10) rfl rfl (by rfl) ?_
                refine ao_str (st' := [⟨0, 97, 2, [(eRSignatures p0)]⟩, ⟨0, 80, 3, [(eRDecl q74.1)]⟩]) go0 ti80 rfl rfl rfl rfl rfl rfl (show 0 + 3 ≤ 3 by decide) rfl (AO.done ⟨rfl, ?_⟩)
                refine AX.hoist 11 (v := (.bool q74.2)) rfl rfl (by kernel_rfl) (by kernel_rfl) (by kernel_rfl) rfl (hoist_as rfl) ?_
                exact AX.done rfl (by kernel_rfl) (M38 q74.2 q74.1.from_ q74.1.to q74.1.cons (Sh.some_eq h2).symm _ (by refine Wk.trans (Wk.permk (L := [(2, (i64 p2)), (3, (ls eI p3)), (12, (.ptr 0 0 0 0)), (13, (.bool q74.2))]) (st' := [⟨0, 80, 3, [(eRDecl q74.1)]⟩]) (st1 := [⟨0, 80, 3, [(eRDecl q74.1)]⟩]) [1] rfl .nil (by decide) rfl rfl (.raw rfl rfl .nil) ⟨.rfl, .rfl, .rfl, .rfl, trivial⟩) ?_; exact Wk.to (L := [(2, (i64 p2)), (3, (ls eI p3)), (12, (.ptr 0 0 0 0)), (13, (.bool q74.2))]) ⟨.rfl, .rfl, .rfl, .rfl, trivial⟩))
            ·refine AXs.of (i := 9) rfl rfl (by rfl) ?_
             refine ao_alloc (m := 1) (st' := [⟨0, 97, 2, [(eRSignatures p0)]⟩, ⟨0, 80, 3, [[(i64 0), (i64 0), .zc]]⟩]) go0 zi80 rfl rfl (AO.done ⟨rfl, ?_⟩)
             refine AX.all [7, 8] rfl (by kernel_rfl) (by decide) ⟨?_, ?_, trivial⟩
             ·refine AXs.of (i := 7) rfl rfl (by rfl) ?_
              refine zq tb rfl (AO.done ⟨rfl, ?_⟩)
              refine AX.all [8, 10] rfl (by kernel_rfl) (by decide) ⟨?_, ?_, trivial⟩
              ·refine AXs.of (i := 8) rfl rfl (by rfl) ?_
               refine zq tb rfl (AO.done ⟨rfl, ?_⟩)
               refine AX.all [10] rfl (by kernel_rfl) (by decide) ⟨?_, trivial⟩
               ·refine AXs.of (i := 10) rfl rfl (by rfl) ?_
                refine ao_str (st' := [⟨0, 97, 2, [(eRSignatures p0)]⟩, ⟨0, 80, 3, [(eRDecl q74.1)]⟩]) go0 ti80 rfl rfl rfl rfl rfl rfl (show 0 + 3 ≤ 3 by decide) rfl (AO.done ⟨rfl, ?_⟩)
                refine AX.hoist 11 (v := (.bool q74.2)) rfl rfl (by kernel_rfl) (by kernel_rfl) (by kernel_rfl) rfl (hoist_as rfl) ?_
                exact AX.done rfl (by kernel_rfl) (M38 q74.2 q74.1.from_ q74.1.to q74.1.cons (Sh.some_eq h2).symm _ (by refine Wk.trans (Wk.permk (L := [(2, (i64 p2)), (3, (ls eI p3)), (12, (.ptr 0 0 0 0)), (13, (.bool q74.2))]) (st' := [⟨0, 80, 3, [(eRDecl q74.1)]⟩]) (st1 := [⟨0, 80, 3, [(eRDecl q74.1)]⟩]) [1] rfl .nil (by decide) rfl rfl (.raw rfl rfl .nil) ⟨.rfl, .rfl, .rfl, .rfl, trivial⟩) ?_; exact Wk.to (L := [(2, (i64 p2)), (3, (ls eI p3)), (12, (.ptr 0 0 0 0)), (13, (.bool q74.2))]) ⟨.rfl, .rfl, .rfl, .rfl, trivial⟩))
              ·refine AXs.of (i := 10) rfl rfl (by rfl) ?_
               refine ao_str (st' := [⟨0, 97, 2, [(eRSignatures p0)]⟩, ⟨0, 80, 3, [(eRDecl q74.1)]⟩]) go0 ti80 rfl rfl rfl rfl rfl rfl (show 0 + 3 ≤ 3 by decide) rfl (AO.done ⟨rfl, ?_⟩)
               refine AX.all [8] rfl (by kernel_rfl) (by decide) ⟨?_, trivial⟩
               ·refine AXs.of (i := 8) rfl rfl (by rfl) ?_
                refine zq tb rfl (AO.done ⟨rfl, ?_⟩)
                refine AX.hoist 11 (v := (.bool q74.2)) rfl rfl (by kernel_rfl) (by kernel_rfl) (by kernel_rfl) rfl (hoist_as rfl) ?_
                exact AX.done rfl (by kernel_rfl) (M38 q74.2 q74.1.from_ q74.1.to q74.1.cons (Sh.some_eq h2).symm _ (by refine Wk.trans (Wk.permk (L := [(2, (i64 p2)), (3, (ls eI p3)), (12, (.ptr 0 0 0 0)), (13, (.bool q74.2))]) (st' := [⟨0, 80, 3, [(eRDecl q74.1)]⟩]) (st1 := [⟨0, 80, 3, [(eRDecl q74.1)]⟩]) [1] rfl .nil (by decide) rfl rfl (.raw rfl rfl .nil) ⟨.rfl, .rfl, .rfl, .rfl, trivial⟩) ?_; exact Wk.to (L := [(2, (i64 p2)), (3, (ls eI p3)), (12, (.ptr 0 0 0 0)), (13, (.bool q74.2))]) ⟨.rfl, .rfl, .rfl, .rfl, trivial⟩))
             ·refine AXs.of (i := 8) rfl rfl (by rfl) ?_
              refine zq tb rfl (AO.done ⟨rfl, ?_⟩)
              refine AX.all [7] rfl (by kernel_rfl) (by decide) ⟨?_, trivial⟩
              ·refine AXs.of (i := 7) rfl rfl (by rfl) ?_
               refine zq tb rfl (AO.done ⟨rfl, ?_⟩)
               refine AX.all [10] rfl (by kernel_rfl) (by decide) ⟨?_, trivial⟩
               ·refine AXs.of (i := 10) rfl rfl (by rfl) ?_
                refine ao_str (st' := [⟨0, 97, 2, [(eRSignatures p0)]⟩, ⟨0, 80, 3, [(eRDecl q74.1)]⟩]) go0 ti80 rfl rfl rfl rfl rfl rfl (show 0 + 3 ≤ 3 by decide) rfl (AO.done ⟨rfl, ?_⟩)
                refine AX.hoist 11 (v := (.bool q74.2)) rfl rfl (by kernel_rfl) (by kernel_rfl) (by kernel_rfl) rfl (hoist_as rfl) ?_
                exact AX.done rfl (by kernel_rfl) (M38 q74.2 q74.1.from_ q74.1.to q74.1.cons (Sh.some_eq h2).symm _ (by refine Wk.trans (Wk.permk (L := [(2, (i64 p2)), (3, (ls eI p3)), (12, (.ptr 0 0 0 0)), (13, (.bool q74.2))]) (st' := [⟨0, 80, 3, [(eRDecl q74.1)]⟩]) (st1 := [⟨0, 80, 3, [(eRDecl q74.1)]⟩]) [1] rfl .nil (by decide) rfl rfl (.raw rfl rfl .nil) ⟨.rfl, .rfl, .rfl, .rfl, trivial⟩) ?_; exact Wk.to (L := [(2, (i64 p2)), (3, (ls eI p3)), (12, (.ptr 0 0 0 0)), (13, (.bool q74.2))]) ⟨.rfl, .rfl, .rfl, .rfl, trivial⟩))
           ·refine AXs.of (i := 9) rfl rfl (by rfl) ?_
            refine ao_alloc (m := 1) (st' := [⟨0, 97, 2, [(eRSignatures p0)]⟩, ⟨0, 80, 3, [[(i64 0), (i64 0), .zc]]⟩]) go0 zi80 rfl rfl (AO.done ⟨rfl, ?_⟩)
            refine AX.all [5] rfl (by kernel_rfl) (by decide) ⟨?_, trivial⟩
            ·refine AXs.of (i := 5) rfl rfl (by rfl) ?_
             refine bs h2 fun q75 gq75 h2 => zc (v' := (.tup [(.agg (eRDecl q75.1)), (.bool q75.2)])) hb121 (impl_arrowAt_ok gq75) rfl rfl rfl (AO.done ⟨rfl, ?_⟩)
             refine AX.hoist 6 (v := (.tup [(.agg (eRDecl q75.1)), (.bool q75.2)])) rfl rfl (by kernel_rfl) (by kernel_rfl) (by kernel_rfl) rfl (hoist_mv rfl) ?_
             refine AX.all [7, 8] rfl (by kernel_rfl) (by decide) ⟨?_, ?_, trivial⟩
             ·refine AXs.of (i := 7) rfl rfl (by rfl) ?_
              refine zq tb rfl (AO.done ⟨rfl, ?_⟩)
              refine AX.all [8, 10] rfl (by kernel_rfl) (by decide) ⟨?_, ?_, trivial⟩
              ·refine AXs.of (i := 8) rfl rfl (by rfl) ?_
               refine zq tb rfl (AO.done ⟨rfl, ?_⟩)
               refine AX.all [10] rfl (by kernel_rfl) (by decide) ⟨?_, trivial⟩
               ·refine AXs.of (i := 10) rfl rfl (by rfl) ?_
                refine ao_str (st' := [⟨0, 97, 2, [(eRSignatures p0)]⟩, ⟨0, 80, 3, [(eRDecl q75.1)]⟩]) go0 ti80 rfl rfl rfl rfl rfl rfl (show 0 + 3 ≤ 3 by decide) rfl (AO.done ⟨rfl, ?_⟩)
                refine AX.hoist 11 (v := (.bool q75.2)) rfl rfl (by kernel_rfl) (by kernel_rfl) (by kernel_rfl) rfl (hoist_as rfl) ?_
                exact AX.done rfl (by kernel_rfl) (M38 q75.2 q75.1.from_ q75.1.to q75.1.cons (Sh.some_eq h2).symm _ (by refine Wk.trans (Wk.permk (L := [(2, (i64 p2)), (3, (ls eI p3)), (12, (.ptr 0 0 0 0)), (13, (.bool q75.2))]) (st' := [⟨0, 80, 3, [(eRDecl q75.1)]⟩]) (st1 := [⟨0, 80, 3, [(eRDecl q75.1)]⟩]) [1] rfl .nil (by decide) rfl rfl (.raw rfl rfl .nil) ⟨.rfl, .rfl, .rfl, .rfl, trivial⟩) ?_; exact Wk.to (L := [(2, (i64 p2)), (3, (ls eI p3)), (12, (.ptr 0 0 0 0)), (13, (.bool q75.2))]) ⟨.rfl, .rfl, .rfl, .rfl, trivial⟩))
              ·refine AXs.of (i := 10) rfl rfl (by rfl) ?_
               refine ao_str (st' := [⟨0, 97, 2, [(eRSignatures p0)]⟩, ⟨0, 80, 3, [(eRDecl q75.1)]⟩]) go0 ti80 rfl rfl rfl rfl rfl rfl (show 0 + 3 ≤ 3 by decide) rfl (AO.done ⟨rfl, ?_⟩)
               refine AX.all [8] rfl (by kernel_rfl) (by decide) ⟨?_, trivial⟩
               ·refine AXs.of (i := 8) rfl rfl (by rfl) ?_
                refine zq tb rfl (AO.done ⟨rfl, ?_⟩)
                refine AX.hoist 11 (v := (.bool q75.2)) rfl rfl (by kernel_rfl) (by kernel_rfl) (by kernel_rfl) rfl (hoist_as rfl) ?_
                exact AX.done rfl (by kernel_rfl) (M38 q75.2 q75.1.from_ q75.1.to q75.1.cons (Sh.some_eq h2).symm _ (by refine Wk.trans (Wk.permk (L := [(2, (i64 p2)), (3, (ls eI p3)), (12, (.ptr 0 0 0 0)), (13, (.bool q75.2))]) (st' := [⟨0, 80, 3, [(eRDecl q75.1)]⟩]) (st1 := [⟨0, 80, 3, [(eRDecl q75.1)]⟩]) [1] rfl .nil (by decide) rfl rfl (.raw rfl rfl .nil) ⟨.rfl, .rfl, .rfl, .rfl, trivial⟩) ?_; exact Wk.to (L := [(2, (i64 p2)), (3, (ls eI p3)), (12, (.ptr 0 0 0 0)), (13, (.bool q75.2))]) ⟨.rfl, .rfl, .rfl, .rfl, trivial⟩))
             ·refine AXs.of (i := 8) rfl rfl (by rfl) ?_
              refine zq tb rfl (AO.done ⟨rfl, ?_⟩)
              refine AX.all [7] rfl (by kernel_rfl) (by decide) ⟨?_, trivial⟩
              ·refine AXs.of (i := 7) rfl rfl (by rfl) ?_
               refine zq tb rfl (AO.done ⟨rfl, ?_⟩)
               refine AX.all [10] rfl (by kernel_rfl) (by decide) ⟨?_, trivial⟩
               ·refine AXs.of (i := 10) rfl rfl (by rfl) ?_
                refine ao_str (st' := [⟨0, 97, 2, [(eRSignatures p0)]⟩, ⟨0, 80, 3, [(eRDecl q75.1)]⟩]) go0 ti80 rfl rfl rfl rfl rfl rfl (show 0 + 3 ≤ 3 by decide) rfl (AO.done ⟨rfl, ?_⟩)
                refine AX.hoist 11 (v := (.bool q75.2)) rfl rfl (by kernel_rfl) (by kernel_rfl) (by kernel_rfl) rfl (hoist_as rfl) ?_
                exact AX.done rfl (by kernel_rfl) (M38 q75.2 q75.1.from_ q75.1.to q75.1.cons (Sh.some_eq h2).symm _ (by refine Wk.trans (Wk.permk (L := [(2, (i64 p2)), (3, (ls eI p3)), (12, (.ptr 0 0 0 0)), (13, (.bool q75.2))]) (st' := [⟨0, 80, 3, [(eRDecl q75.1)]⟩]) (st1 := [⟨0, 80, 3, [(eRDecl q75.1)]⟩]) [1] rfl .nil (by decide) rfl rfl (.raw rfl rfl .nil) ⟨.rfl, .rfl, .rfl, .rfl, trivial⟩) ?_; exact Wk.to (L := [(2, (i64 p2)), (3, (ls eI p3)), (12, (.ptr 0 0 0 0)), (13, (.bool q75.2))]) ⟨.rfl, .rfl, .rfl, .rfl, trivial⟩))
          ·refine AXs.of (i := 9) rfl rfl (by rfl) ?_
           refine ao_alloc (m := 1) (st' := [⟨0, 97, 2, [(eRSignatures p0)]⟩, ⟨0, 80, 3, [[(i64 0), (i64 0), .zc]]⟩]) go0 zi80 rfl rfl (AO.done ⟨rfl, ?_⟩)
           refine AX.all [1] rfl (by kernel_rfl) (by decide) ⟨?_, trivial⟩
           ·refine AXs.of (i := 1) rfl rfl (by rfl) ?_
            refine zq tb rfl (AO.done ⟨rfl, ?_⟩)
            refine AX.all [5] rfl (by kernel_rfl) (by decide) ⟨?_, trivial⟩
            ·refine AXs.of (i := 5) rfl rfl (by rfl) ?_
             refine bs h2 fun q76 gq76 h2 => zc (v' := (.tup [(.agg (eRDecl q76.1)), (.bool q76.2)])) hb121 (impl_arrowAt_ok gq76) rfl rfl rfl (AO.done ⟨rfl, ?_⟩)
             refine AX.hoist 6 (v := (.tup [(.agg (eRDecl q76.1)), (.bool q76.2)])) rfl rfl (by kernel_rfl) (by kernel_rfl) (by kernel_rfl) rfl (hoist_mv rfl) ?_
             refine AX.all [7, 8] rfl (by kernel_rfl) (by decide) ⟨?_, ?_, trivial⟩
             ·refine AXs.of (i := 7) rfl rfl (by rfl) ?_
              refine zq tb rfl (AO.done ⟨rfl, ?_⟩)
              refine AX.all [8, 10] rfl (by kernel_rfl) (by decide) ⟨?_, ?_, trivial⟩
              ·refine AXs.of (i := 8) rfl rfl (by rfl) ?_
               refine zq tb rfl (AO.done ⟨rfl, ?_⟩)
               refine AX.all [10] rfl (by kernel_rfl) (by decide) ⟨?_, trivial⟩
               ·refine AXs.of (i := 10) rfl rfl (by rfl) ?_
                refine ao_str (st' := [⟨0, 97, 2, [(eRSignatures p0)]⟩, ⟨0, 80, 3, [(eRDecl q76.1)]⟩]) go0 ti80 rfl rfl rfl rfl rfl rfl (show 0 + 3 ≤ 3 by decide) rfl (AO.done ⟨rfl, ?_⟩)
                refine AX.hoist 11 (v := (.bool q76.2)) rfl rfl (by kernel_rfl) (by kernel_rfl) (by kernel_rfl) rfl (hoist_as rfl) ?_
                exact AX.done rfl (by kernel_rfl) (M38 q76.2 q76.1.from_ q76.1.to q76.1.cons (Sh.some_eq h2).symm _ (by refine Wk.trans (Wk.permk (L := [(2, (i64 p2)), (3, (ls eI p3)), (12, (.ptr 0 0 0 0)), (13, (.bool q76.2))]) (st' := [⟨0, 80, 3, [(eRDecl q76.1)]⟩]) (st1 := [⟨0, 80, 3, [(eRDecl q76.1)]⟩]) [1] rfl .nil (by decide) rfl rfl (.raw rfl rfl .nil) ⟨.rfl, .rfl, .rfl, .rfl, trivial⟩) ?_; exact Wk.to (L := [(2, (i64 p2)), (3, (ls eI p3)), (12, (.ptr 0 0 0 0)), (13, (.bool q76.2))]) ⟨.rfl, .rfl, .rfl, .rfl, trivial⟩))
              ·refine AXs.of (i := 10) rfl rfl (by rfl) ?_
               refine ao_str (st' := [⟨0, 97, 2, [(eRSignatures p0)]⟩, ⟨0, 80, 3, [(eRDecl q76.1)]⟩]) go0 ti80 rfl rfl rfl rfl rfl rfl (show 0 + 3 ≤ 3 by decide) rfl (AO.done ⟨rfl, ?_⟩)
               refine AX.all [8] rfl (by kernel_rfl) (by decide) ⟨?_, trivial⟩
               ·refine AXs.of (i := 8) rfl rfl (by rfl) ?_
                refine zq tb rfl (AO.done ⟨rfl, ?_⟩)
                refine AX.hoist 11 (v := (.bool q76.2)) rfl rfl (by kernel_rfl) (by kernel_rfl) (by kernel_rfl) rfl (hoist_as rfl) ?_
                exact AX.done rfl (by kernel_rfl) (M38 q76.2 q76.1.from_ q76.1.to q76.1.cons (Sh.some_eq h2).symm _ (by refine Wk.trans (Wk.permk (L := [(2, (i64 p2)), (3, (ls eI p3)), (12, (.ptr 0 0 0 0)), (13, (.bool q76.2))]) (st' := [⟨0, 80, 3, [(eRDecl q76.1)]⟩]) (st1 := [⟨0, 80, 3, [(eRDecl q76.1)]⟩]) [1] rfl .nil (by decide) rfl rfl (.raw rfl rfl .nil) ⟨.rfl, .rfl, .rfl, .rfl, trivial⟩) ?_; exact Wk.to (L := [(2, (i64 p2)), (3, (ls eI p3)), (12, (.ptr 0 0 0 0)), (13, (.bool q76.2))]) ⟨.rfl, .rfl, .rfl, .rfl, trivial⟩))
             ·refine AXs.of (i := 8) rfl rfl (by rfl) ?_
              refine zq tb rfl (AO.done ⟨rfl, ?_⟩)
              refine AX.all [7] rfl (by kernel_rfl) (by decide) ⟨?_, trivial⟩
              ·refine AXs.of (i := 7) rfl rfl (by rfl) ?_
               refine zq tb rfl (AO.done ⟨rfl, ?_⟩)
               refine AX.all [10] rfl (by kernel_rfl) (by decide) ⟨?_, trivial⟩
               ·refine AXs.of (i := 10) rfl rfl (by rfl) ?_
                refine ao_str (st' := [⟨0, 97, 2, [(eRSignatures p0)]⟩, ⟨0, 80, 3, [(eRDecl q76.1)]⟩]) go0 ti80 rfl rfl rfl rfl rfl rfl (show 0 + 3 ≤ 3 by decide) rfl (AO.done ⟨rfl, ?_⟩)
                refine AX.hoist 11 (v := (.bool q76.2)) rfl rfl (by kernel_rfl) (by kernel_rfl) (by kernel_rfl) rfl (hoist_as rfl) ?_
                exact AX.done rfl (by kernel_rfl) (M38 q76.2 q76.1.from_ q76.1.to q76.1.cons (Sh.some_eq h2).symm _ (by refine Wk.trans (Wk.permk (L := [(2, (i64 p2)), (3, (ls eI p3)), (12, (.ptr 0 0 0 0)), (13, (.bool q76.2))]) (st' := [⟨0, 80, 3, [(eRDecl q76.1)]⟩]) (st1 := [⟨0, 80, 3, [(eRDecl q76.1)]⟩]) [1] rfl .nil (by decide) rfl rfl (.raw rfl rfl .nil) ⟨.rfl, .rfl, .rfl, .rfl, trivial⟩) ?_; exact Wk.to (L := [(2, (i64 p2)), (3, (ls eI p3)), (12, (.ptr 0 0 0 0)), (13, (.bool q76.2))]) ⟨.rfl, .rfl, .rfl, .rfl, trivial⟩))
         ·refine AXs.of (i := 9) rfl rfl (by rfl) ?_
          refine ao_alloc (m := 1) (st' := [⟨0, 97, 2, [(eRSignatures p0)]⟩, ⟨0, 80, 3, [[(i64 0), (i64 0), .zc]]⟩]) go0 zi80 rfl rfl (AO.done ⟨rfl, ?_⟩)
          refine AX.all [0] rfl (by kernel_rfl) (by decide) ⟨?_, trivial⟩
          ·refine AXs.of (i := 0) rfl rfl (by rfl) ?_
           refine zq tb rfl (AO.done ⟨rfl, ?_⟩)
           refine AX.all [1] rfl (by kernel_rfl) (by decide) ⟨?_, trivial⟩
           ·refine AXs.of (i := 1) rfl rfl (by rfl) ?_
            refine zq tb rfl (AO.done ⟨rfl, ?_⟩)
            refine AX.all [5] rfl (by kernel_rfl) (by decide) ⟨?_, trivial⟩
            ·refine AXs.of (i := 5) rfl rfl (by rfl) ?_
             refine bs h2 fun q77 gq77 h2 => zc (v' := (.tup [(.agg (eRDecl q77.1)), (.bool q77.2)])) hb121 (impl_arrowAt_ok gq77) rfl rfl rfl (AO.done ⟨rfl, ?_⟩)
             refine AX.hoist 6 (v := (.tup [(.agg (eRDecl q77.1)), (.bool q77.2)])) rfl rfl (by kernel_rfl) (by kernel_rfl) (by kernel_rfl) rfl (hoist_mv rfl) ?_
             refine AX.all [7, 8] rfl (by kernel_rfl) (by decide) ⟨?_, ?_, trivial⟩
             ·refine AXs.of (i := 7) rfl rfl (by rfl) ?_
              refine zq tb rfl (AO.done ⟨rfl, ?_⟩)
              refine AX.all [8, 10] rfl (by kernel_rfl) (by decide) ⟨?_, ?_, trivial⟩
              ·refine AXs.of (i := 8) rfl rfl (by rfl) ?_
               refine zq tb rfl (AO.done ⟨rfl, ?_⟩)
               refine AX.all [10] rfl (by kernel_rfl) (by decide) ⟨?_, trivial⟩
               ·refine AXs.of (i := 10) rfl rfl (by rfl) ?_
                refine ao_str (st' := [⟨0, 97, 2, [(eRSignatures p0)]⟩, ⟨0, 80, 3, [(eRDecl q77.1)]⟩]) go0 ti80 rfl rfl rfl rfl rfl rfl (show 0 + 3 ≤ 3 by decide) rfl (AO.done ⟨rfl, ?_⟩)
                refine AX.hoist 11 (v := (.bool q77.2)) rfl rfl (by kernel_rfl) (by kernel_rfl) (by kernel_rfl) rfl (hoist_as rfl) ?_
                exact AX.done rfl (by kernel_rfl) (M38 q77.2 q77.1.from_ q77.1.to q77.1.cons (Sh.some_eq h2).symm _ (by refine Wk.trans (Wk.permk (L := [(2, (i64 p2)), (3, (ls eI p3)), (12, (.ptr 0 0 0 0)), (13, (.bool q77.2))]) (st' := [⟨0, 80, 3, [(eRDecl q77.1)]⟩]) (st1 := [⟨0, 80, 3, [(eRDecl q77.1)]⟩]) [1] rfl .nil (by decide) rfl rfl (.raw rfl rfl .nil) ⟨.rfl, .rfl, .rfl, .rfl, trivial⟩) ?_; exact Wk.to (L := [(2, (i64 p2)), (3, (ls eI p3)), (12, (.ptr 0 0 0 0)), (13, (.bool q77.2))]) ⟨.rfl, .rfl, .rfl, .rfl, trivial⟩))
              ·refine AXs.of (i := 10) rfl rfl (by rfl) ?_
               refine ao_str (st' := [⟨0, 97, 2, [(eRSignatures p0)]⟩, ⟨0, 80, 3, [(eRDecl q77.1)]⟩]) go0 ti80 rfl rfl rfl rfl rfl rfl (show 0 + 3 ≤ 3 by decide) rfl (AO.done ⟨rfl, ?_⟩)
               refine AX.all [8] rfl (by kernel_rfl) (by decide) ⟨?_, trivial⟩
               ·refine AXs.of (i := 8) rfl rfl (by rfl) ?_
                refine zq tb rfl (AO.done ⟨rfl, ?_⟩)
                refine AX.hoist 11 (v := (.bool q77.2)) rfl rfl (by kernel_rfl) (by kernel_rfl) (by kernel_rfl) rfl (hoist_as rfl) ?_
                exact AX.done rfl (by kernel_rfl) (M38 q77.2 q77.1.from_ q77.1.to q77.1.cons (Sh.some_eq h2).symm _ (by refine Wk.trans (Wk.permk (L := [(2, (i64 p2)), (3, (ls eI p3)), (12, (.ptr 0 0 0 0)), (13, (.bool q77.2))]) (st' := [⟨0, 80, 3, [(eRDecl q77.1)]⟩]) (st1 := [⟨0, 80, 3, [(eRDecl q77.1)]⟩]) [1] rfl .nil (by decide) rfl rfl (.raw rfl rfl .nil) ⟨.rfl, .rfl, .rfl, .rfl, trivial⟩) ?_; exact Wk.to (L := [(2, (i64 p2)), (3, (ls eI p3)), (12, (.ptr 0 0 0 0)), (13, (.bool q77.2))]) ⟨.rfl, .rfl, .rfl, .rfl, trivial⟩))
             ·refine AXs.of (i := 8) rfl rfl (by rfl) ?_
              refine zq tb rfl (AO.done ⟨rfl, ?_⟩)
              refine AX.all [7] rfl (by kernel_rfl) (by decide) ⟨?_, trivial⟩
              ·refine AXs.of (i := 7) rfl rfl (by rfl) ?_
               refine zq tb rfl (AO.done ⟨rfl, ?_⟩)
               refine AX.all [10] rfl (by kernel_rfl) (by decide) ⟨?_, trivial⟩
               ·refine AXs.of (i := 10) rfl rfl (by rfl) ?_
                refine ao_str (st' := [⟨0, 97, 2, [(eRSignatures p0)]⟩, ⟨0, 80, 3, [(eRDecl q77.1)]⟩]) go0 ti80 rfl rfl rfl rfl rfl rfl (show 0 + 3 ≤ 3 by decide) rfl (AO.done ⟨rfl, ?_⟩)
                refine AX.hoist 11 (v := (.bool q77.2)) rfl rfl (by kernel_rfl) (by kernel_rfl) (by kernel_rfl) rfl (hoist_as rfl) ?_
                exact AX.done rfl (by kernel_rfl) (M38 q77.2 q77.1.from_ q77.1.to q77.1.cons (Sh.some_eq h2).symm _ (by refine Wk.trans (Wk.permk (L := [(2, (i64 p2)), (3, (ls eI p3)), (12, (.ptr 0 0 0 0)), (13, (.bool q77.2))]) (st' := [⟨0, 80, 3, [(eRDecl q77.1)]⟩]) (st1 := [⟨0, 80, 3, [(eRDecl q77.1)]⟩]) [1] rfl .nil (by decide) rfl rfl (.raw rfl rfl .nil) ⟨.rfl, .rfl, .rfl, .rfl, trivial⟩) ?_; exact Wk.to (L := [(2, (i64 p2)), (3, (ls eI p3)), (12, (.ptr 0 0 0 0)), (13, (.bool q77.2))]) ⟨.rfl, .rfl, .rfl, .rfl, trivial⟩))
        ·refine AXs.of (i := 9) rfl rfl (by rfl) ?_
         refine ao_alloc (m := 1) (st' := [⟨0, 97, 2, [(eRSignatures p0)]⟩, ⟨0, 80, 3, [[(i64 0), (i64 0), .zc]]⟩]) go0 zi80 rfl rfl (AO.done ⟨rfl, ?_⟩)
         refine AX.all [0, 4] rfl (by kernel_rfl) (by decide) ⟨?_, ?_, trivial⟩
         ·refine AXs.of (i := 0) rfl rfl (by rfl) ?_
          refine zq tb rfl (AO.done ⟨rfl, ?_⟩)
          refine AX.all [1, 4] rfl (by kernel_rfl) (by decide) ⟨?_, ?_, trivial⟩
          ·refine AXs.of (i := 1) rfl rfl (by rfl) ?_
           refine zq tb rfl (AO.done ⟨rfl, ?_⟩)
           refine AX.all [4] rfl (by kernel_rfl) (by decide) ⟨?_, trivial⟩
           ·refine AXs.of (i := 4) rfl rfl (by rfl) ?_
            refine zq tb rfl (AO.done ⟨rfl, ?_⟩)
            refine AX.all [5] rfl (by kernel_rfl) (by decide) ⟨?_, trivial⟩
            ·refine AXs.of (i := 5) rfl rfl (by rfl) ?_
             refine bs h2 fun q78 gq78 h2 => zc (v' := (.tup [(.agg (eRDecl q78.1)), (.bool q78.2)])) hb121 (impl_arrowAt_ok gq78) rfl rfl rfl (AO.done ⟨rfl, ?_⟩)
             refine AX.hoist 6 (v := (.tup [(.agg (eRDecl q78.1)), (.bool q78.2)])) rfl rfl (by kernel_rfl) (by kernel_rfl) (by kernel_rfl) rfl (hoist_mv rfl) ?_
             refine AX.all [7, 8] rfl (by kernel_rfl) (by decide) ⟨?_, ?_, trivial⟩
             ·refine AXs.of (i := 7) rfl rfl (by rfl) ?_
              refine zq tb rfl (AO.done ⟨rfl, ?_⟩)
              refine AX.all [8, 10] rfl (by kernel_rfl) (by decide) ⟨?_, ?_, trivial⟩
              ·refine AXs.of (i := 8) rfl rfl (by rfl) ?_
               refine zq tb rfl (AO.done ⟨rfl, ?_⟩)
               refine AX.all [10] rfl (by kernel_rfl) (by decide) ⟨?_, trivial⟩
               ·refine AXs.of (i := 10) rfl rfl (by rfl) ?_
                refine ao_str (st' := [⟨0, 97, 2, [(eRSignatures p0)]⟩, ⟨0, 80, 3, [(eRDecl q78.1)]⟩]) go0 ti80 rfl rfl rfl rfl rfl rfl (show 0 + 3 ≤ 3 by decide) rfl (AO.done ⟨rfl, ?_⟩)
                refine AX.hoist 11 (v := (.bool q78.2)) rfl rfl (by kernel_rfl) (by kernel_rfl) (by kernel_rfl) rfl (hoist_as rfl) ?_
                exact AX.done rfl (by kernel_rfl) (M38 q78.2 q78.1.from_ q78.1.to q78.1.cons (Sh.some_eq h2).symm _ (by refine Wk.trans (Wk.permk (L := [(2, (i64 p2)), (3, (ls eI p3)), (12, (.ptr 0 0 0 0)), (13, (.bool q78.2))]) (st' := [⟨0, 80, 3, [(eRDecl q78.1)]⟩]) (st1 := [⟨0, 80, 3, [(eRDecl q78.1)]⟩]) [1] rfl .nil (by decide) rfl rfl (.raw rfl rfl .nil) ⟨.rfl, .rfl, .rfl, .rfl, trivial⟩) ?_; exact Wk.to (L := [(2, (i64 p2)), (3, (ls eI p3)), (12, (.ptr 0 0 0 0)), (13, (.bool q78.2))]) ⟨.rfl, .rfl, .rfl, .rfl, trivial⟩))
              ·refine AXs.of (i := 10) rfl rfl (by rfl) ?_
               refine ao_str (st' := [⟨0, 97, 2, [(eRSignatures p0)]⟩, ⟨0, 80, 3, [(eRDecl q78.1)]⟩]) go0 ti80 rfl rfl rfl rfl rfl rfl (show 0 + 3 ≤ 3 by decide) rfl (AO.done ⟨rfl, ?_⟩)
               refine AX.all [8] rfl (by kernel_rfl) (by decide) ⟨?_, trivial⟩
               ·refine AXs.of (i := 8) rfl rfl (by rfl) ?_
                refine zq tb rfl (AO.done ⟨rfl, ?_⟩)
                refine AX.hoist 11 (v := (.bool q78.2)) rfl rfl (by kernel_rfl) (by kernel_rfl) (by kernel_rfl) rfl (hoist_as rfl) ?_
                exact AX.done rfl (by kernel_rfl) (M38 q78.2 q78.1.from_ q78.1.to q78.1.cons (Sh.some_eq h2).symm _ (by refine Wk.trans (Wk.permk (L := [(2, (i64 p2)), (3, (ls eI p3)), (12, (.ptr 0 0 0 0)), (13, (.bool q78.2))]) (st' := [⟨0, 80, 3, [(eRDecl q78.1)]⟩]) (st1 := [⟨0, 80, 3, [(eRDecl q78.1)]⟩]) [1] rfl .nil (by decide) rfl rfl (.raw rfl rfl .nil) ⟨.rfl, .rfl, .rfl, .rfl, trivial⟩) ?_; exact Wk.to (L := [(2, (i64 p2)), (3, (ls eI p3)), (12, (.ptr 0 0 0 0)), (13, (.bool q78.2))]) ⟨.rfl, .rfl, .rfl, .rfl, trivial⟩))
             ·refine AXs.of (i := 8) rfl rfl (by rfl) ?_
              refine zq tb rfl (AO.done ⟨rfl, ?_⟩)
              refine AX.all [7] rfl (by kernel_rfl) (by decide) ⟨?_, trivial⟩
              ·refine AXs.of (i := 7) rfl rfl (by rfl) ?_
               refine zq tb rfl (AO.done ⟨rfl, ?_⟩)
               refine AX.all [10] rfl (by kernel_rfl) (by decide) ⟨?_, trivial⟩
               ·refine AXs.of (i := 10) rfl rfl (by rfl) ?_
                refine ao_str (st' := [⟨0, 97, 2, [(eRSignatures p0)]⟩, ⟨0, 80, 3, [(eRDecl q78.1)]⟩]) go0 ti80 rfl rfl rfl rfl rfl rfl (show 0 + 3 ≤ 3 by decide) rfl (AO.done ⟨rfl, ?_⟩)
                refine AX.hoist 11 (v := (.bool q78.2)) rfl rfl (by kernel_rfl) (by kernel_rfl) (by kernel_rfl) rfl (hoist_as rfl) ?_
                exact AX.done rfl (by kernel_rfl) (M38 q78.2 q78.1.from_ q78.1.to q78.1.cons (Sh.some_eq h2).symm _ (by refine Wk.trans (Wk.permk (L := [(2, (i64 p2)), (3, (ls eI p3)), (12, (.ptr 0 0 0 0)), (13, (.bool q78.2))]) (st' := [⟨0, 80, 3, [(eRDecl q78.1)]⟩]) (st1 := [⟨0, 80, 3, [(eRDecl q78.1)]⟩]) [1] rfl .nil (by decide) rfl rfl (.raw rfl rfl .nil) ⟨.rfl, .rfl, .rfl, .rfl, trivial⟩) ?_; exact Wk.to (L := [(2, (i64 p2)), (3, (ls eI p3)), (12, (.ptr 0 0 0 0)), (13, (.bool q78.2))]) ⟨.rfl, .rfl, .rfl, .rfl, trivial⟩))
          ·refine AXs.of (i := 4) rfl rfl (by rfl) ?_
           refine zq tb rfl (AO.done ⟨rfl, ?_⟩)
           refine AX.all [1] rfl (by kernel_rfl) (by decide) ⟨?_, trivial⟩
           ·refine AXs.of (i := 1) rfl rfl (by rfl) ?_
            refine zq tb rfl (AO.done ⟨rfl, ?_⟩)
            refine AX.all [5] rfl (by kernel_rfl) (by decide) ⟨?_, trivial⟩
            ·refine AXs.of (i := 5) rfl rfl (by rfl) ?_
             refine bs h2 fun q79 gq79 h2 => zc (v' := (.tup [(.agg (eRDecl q79.1)), (.bool q79.2)])) hb121 (impl_arrowAt_ok gq79) rfl rfl rfl (AO.done ⟨rfl, ?_⟩)
             refine AX.hoist 6 (v := (.tup [(.agg (eRDecl q79.1)), (.bool q79.2)])) rfl rfl (by kernel_rfl) (by kernel_rfl) (by kernel_rfl) rfl (hoist_mv rfl) ?_
             refine AX.all [7, 8] rfl (by kernel_rfl) (by decide) ⟨?_, ?_, trivial⟩
             ·refine AXs.of (i := 7) rfl rfl (by rfl) ?_
              refine zq tb rfl (AO.done ⟨rfl, ?_⟩)
              refine AX.all [8, 10] rfl (by kernel_rfl) (by decide) ⟨?_, ?_, trivial⟩
              ·refine AXs.of (i := 8) rfl rfl (by rfl) ?_
               refine zq tb rfl (AO.done ⟨rfl, ?_⟩)
               refine AX.all [10] rfl (by kernel_rfl) (by decide) ⟨?_, trivial⟩
               ·refine AXs.of (i := 10) rfl rfl (by rfl) ?_
                refine ao_str (st' := [⟨0, 97, 2, [(eRSignatures p0)]⟩, ⟨0, 80, 3, [(eRDecl q79.1)]⟩]) go0 ti80 rfl rfl rfl rfl rfl rfl (show 0 + 3 ≤ 3 by decide) rfl (AO.done ⟨rfl, ?_⟩)
                refine AX.hoist 11 (v := (.bool q79.2)) rfl rfl (by kernel_rfl) (by kernel_rfl) (by kernel_rfl) rfl (hoist_as rfl) ?_
                exact AX.done rfl (by kernel_rfl) (M38 q79.2 q79.1.from_ q79.1.to q79.1.cons (Sh.some_eq h2).symm _ (by refine Wk.trans (Wk.permk (L := [(2, (i64 p2)), (3, (ls eI p3)), (12, (.ptr 0 0 0 0)), (13, (.bool q79.2))]) (st' := [⟨0, 80, 3, [(eRDecl q79.1)]⟩]) (st1 := [⟨0, 80, 3, [(eRDecl q79.1)]⟩]) [1] rfl .nil (by decide) rfl rfl (.raw rfl rfl .nil) ⟨.rfl, .rfl, .rfl, .rfl, trivial⟩) ?_; exact Wk.to (L := [(2, (i64 p2)), (3, (ls eI p3)), (12, (.ptr 0 0 0 0)), (13, (.bool q79.2))]) ⟨.rfl, .rfl, .rfl, .rfl, trivial⟩))
              ·refine AXs.of (i := 10) rfl rfl (by rfl) ?_
               refine ao_str (st' := [⟨0, 97, 2, [(eRSignatures p0)]⟩, ⟨0, 80, 3, [(eRDecl q79.1)]⟩]) go0 ti80 rfl rfl rfl rfl rfl rfl (show 0 + 3 ≤ 3 by decide) rfl (AO.done ⟨rfl, ?_⟩)
               refine AX.all [8] rfl (by kernel_rfl) (by decide) ⟨?_, trivial⟩
               ·refine AXs.of (i := 8) rfl rfl (by rfl) ?_
                refine zq tb rfl (AO.done ⟨rfl, ?_⟩)
                refine AX.hoist 11 (v := (.bool q79.2)) rfl rfl (by kernel_rfl) (by kernel_rfl) (by kernel_rfl) rfl (hoist_as rfl) ?_
                exact AX.done rfl (by kernel_rfl) (M38 q79.2 q79.1.from_ q79.1.to q79.1.cons (Sh.some_eq h2).symm _ (by refine Wk.trans (Wk.permk (L := [(2, (i64 p2)), (3, (ls eI p3)), (12, (.ptr 0 0 0 0)), (13, (.bool q79.2))]) (st' := [⟨0, 80, 3, [(eRDecl q79.1)]⟩]) (st1 := [⟨0, 80, 3, [(eRDecl q79.1)]⟩]) [1] rfl .nil (by decide) rfl rfl (.raw rfl rfl .nil) ⟨.rfl, .rfl, .rfl, .rfl, trivial⟩) ?_; exact Wk.to (L := [(2, (i64 p2)), (3, (ls eI p3)), (12, (.ptr 0 0 0 0)), (13, (.bool q79.2))]) ⟨.rfl, .rfl, .rfl, .rfl, trivial⟩))
             ·refine AXs.of (i := 8) rfl rfl (by rfl) ?_
              refine zq tb rfl (AO.done ⟨rfl, ?_⟩)
              refine AX.all [7] rfl (by kernel_rfl) (by decide) ⟨?_, trivial⟩
              ·refine AXs.of (i := 7) rfl rfl (by rfl) ?_
               refine zq tb rfl (AO.done ⟨rfl, ?_⟩)
               refine AX.all [10] rfl (by kernel_rfl) (by decide) ⟨?_, trivial⟩
               ·refine AXs.of (i := 10) rfl rfl (by rfl) ?_
                refine ao_str (st' := [⟨0, 97, 2, [(eRSignatures p0)]⟩, ⟨0, 80, 3, [(eRDecl q79.1)]⟩]) go0 ti80 rfl rfl rfl rfl rfl rfl (show 0 + 3 ≤ 3 by decide) rfl (AO.done ⟨rfl, ?_⟩)
                refine AX.hoist 11 (v := (.bool q79.2)) rfl rfl (by kernel_rfl) (by kernel_rfl) (by kernel_rfl) rfl (hoist_as rfl) ?_
                exact AX.done rfl (by kernel_rfl) (M38 q79.2 q79.1.from_ q79.1.to q79.1.cons (Sh.some_eq h2).symm _ (by refine Wk.trans (Wk.permk (L := [(2, (i64 p2)), (3, (ls eI p3)), (12, (.ptr 0 0 0 0)), (13, (.bool q79.2))]) (st' := [⟨0, 80, 3, [(eRDecl q79.1)]⟩]) (st1 := [⟨0, 80, 3, [(eRDecl q79.1)]⟩]) [1] rfl .nil (by decide) rfl rfl (.raw rfl rfl .nil) ⟨.rfl, .rfl, .rfl, .rfl, trivial⟩) ?_; exact Wk.to (L := [(2, (i64 p2)), (3, (ls eI p3)), (12, (.ptr 0 0 0 0)), (13, (.bool q79.2))]) ⟨.rfl, .rfl, .rfl, .rfl, trivial⟩))
         ·refine AXs.of (i := 4) rfl rfl (by rfl) ?_
          refine zq tb rfl (AO.done ⟨rfl, ?_⟩)
          refine AX.all [0] rfl (by kernel_rfl) (by decide) ⟨?_, trivial⟩
          ·refine AXs.of (i := 0) rfl rfl (by rfl) ?_
           refine zq tb rfl (AO.done ⟨rfl, ?_⟩)
           refine AX.all [1] rfl (by kernel_rfl) (by decide) ⟨?_, trivial⟩
           ·refine AXs.of (i := 1) rfl rfl (by rfl) ?_
            refine zq tb rfl (AO.done ⟨rfl, ?_⟩)
            refine AX.all [5] rfl (by kernel_rfl) (by decide) ⟨?_, trivial⟩
            ·refine AXs.of (i := 5) rfl rfl (by rfl) ?_
             refine bs h2 fun q80 gq80 h2 => zc (v' := (.tup [(.agg (eRDecl q80.1)), (.bool q80.2)])) hb121 (impl_arrowAt_ok gq80) rfl rfl rfl (AO.done ⟨rfl, ?_⟩)
             refine AX.hoist 6 (v := (.tup [(.agg (eRDecl q80.1)), (.bool q80.2)])) rfl rfl (by kernel_rfl) (by kernel_rfl) (by kernel_rfl) rfl (hoist_mv rfl) ?_
             refine AX.all [7, 8] rfl (by kernel_rfl) (by decide) ⟨?_, ?_, trivial⟩
             ·refine AXs.of (i := 7) rfl rfl (by rfl) ?_
              refine zq tb rfl (AO.done ⟨rfl, ?_⟩)
              refine AX.all [8, 10] rfl (by kernel_rfl) (by decide) ⟨?_, ?_, trivial⟩
              ·refine AXs.of (i := 8) rfl rfl (by rfl) ?_
               refine zq tb rfl (AO.done ⟨rfl, ?_⟩)
               refine AX.all [10] rfl (by kernel_rfl) (by decide) ⟨?_, trivial⟩
               ·refine AXs.of (i := 10) rfl rfl (by rfl) ?_
                refine ao_str (st' := [⟨0, 97, 2, [(eRSignatures p0)]⟩, ⟨0, 80, 3, [(eRDecl q80.1)]⟩]) go0 ti80 rfl rfl rfl rfl rfl rfl (show 0 + 3 ≤ 3 by decide) rfl (AO.done ⟨rfl, ?_⟩)
                refine AX.hoist 11 (v := (.bool q80.2)) rfl rfl (by kernel_rfl) (by kernel_rfl) (by kernel_rfl) rfl (hoist_as rfl) ?_
                exact AX.done rfl (by kernel_rfl) (M38 q80.2 q80.1.from_ q80.1.to q80.1.cons (Sh.some_eq h2).symm _ (by refine Wk.trans (Wk.permk (L := [(2, (i64 p2)), (3, (ls eI p3)), (12, (.ptr 0 0 0 0)), (13, (.bool q80.2))]) (st' := [⟨0, 80, 3, [(eRDecl q80.1)]⟩]) (st1 := [⟨0, 80, 3, [(eRDecl q80.1)]⟩]) [1] rfl .nil (by decide) rfl rfl (.raw rfl rfl .nil) ⟨.rfl, .rfl, .rfl, .rfl, trivial⟩) ?_; exact Wk.to (L := [(2, (i64 p2)), (3, (ls eI p3)), (12, (.ptr 0 0 0 0)), (13, (.bool q80.2))]) ⟨.rfl, .rfl, .rfl, .rfl, trivial⟩))
              ·refine AXs.of (i := 10) rfl rfl (by rfl) ?_
               refine ao_str (st' := [⟨0, 97, 2, [(eRSignatures p0)]⟩, ⟨0, 80, 3, [(eRDecl q80.1)]⟩]) go0 ti80 rfl rfl rfl rfl rfl rfl (show 0 + 3 ≤ 3 by decide) rfl (AO.done ⟨rfl, ?_⟩)
               refine AX.all [8] rfl (by kernel_rfl) (by decide) ⟨?_, trivial⟩
               ·refine AXs.of (i := 8) rfl rfl (by rfl) ?_
                refine zq tb rfl (AO.done ⟨rfl, ?_⟩)
                refine AX.hoist 11 (v := (.bool q80.2)) rfl rfl (by kernel_rfl) (by kernel_rfl) (by kernel_rfl) rfl (hoist_as rfl) ?_
                exact AX.done rfl (by kernel_rfl) (M38 q80.2 q80.1.from_ q80.1.to q80.1.cons (Sh.some_eq h2).symm _ (by refine Wk.trans (Wk.permk (L := [(2, (i64 p2)), (3, (ls eI p3)), (12, (.ptr 0 0 0 0)), (13, (.bool q80.2))]) (st' := [⟨0, 80, 3, [(eRDecl q80.1)]⟩]) (st1 := [⟨0, 80, 3, [(eRDecl q80.1)]⟩]) [1] rfl .nil (by decide) rfl rfl (.raw rfl rfl .nil) ⟨.rfl, .rfl, .rfl, .rfl, trivial⟩) ?_; exact Wk.to (L := [(2, (i64 p2)), (3, (ls eI p3)), (12, (.ptr 0 0 0 0)), (13, (.bool q80.2))]) ⟨.rfl, .rfl, .rfl, .rfl, trivial⟩))
             ·refine AXs.of (i := 8) rfl rfl (by rfl) ?_
              refine zq tb rfl (AO.done ⟨rfl, ?_⟩)
              refine AX.all [7] rfl (by kernel_rfl) (by decide) ⟨?_, trivial⟩
              ·refine AXs.of (i := 7) rfl rfl (by rfl) ?_
               refine zq tb rfl (AO.done ⟨rfl, ?_⟩)
               refine AX.all [10] rfl (by kernel_rfl) (by decide) ⟨?_, trivial⟩
               ·refine AXs.of (i := 10) rfl rfl (by rfl) ?_
                refine ao_str (st' := [⟨0, 97, 2, [(eRSignatures p0)]⟩, ⟨0, 80, 3, [(eRDecl q80.1)]⟩]) go0 ti80 rfl rfl rfl rfl rfl rfl (show 0 + 3 ≤ 3 by decide) rfl (AO.done ⟨rfl, ?_⟩)
                refine AX.hoist 11 (v := (.bool q80.2)) rfl rfl (by kernel_rfl) (by kernel_rfl) (by kernel_rfl) rfl (hoist_as rfl) ?_
                exact AX.done rfl (by kernel_rfl) (M38 q80.2 q80.1.from_ q80.1.to q80.1.cons (Sh.some_eq h2).symm _ (by refine Wk.trans (Wk.permk (L := [(2, (i64 p2)), (3, (ls eI p3)), (12, (.ptr 0 0 0 0)), (13, (.bool q80.2))]) (st' := [⟨0, 80, 3, [(eRDecl q80.1)]⟩]) (st1 := [⟨0, 80, 3, [(eRDecl q80.1)]⟩]) [1] rfl .nil (by decide) rfl rfl (.raw rfl rfl .nil) ⟨.rfl, .rfl, .rfl, .rfl, trivial⟩) ?_; exact Wk.to (L := [(2, (i64 p2)), (3, (ls eI p3)), (12, (.ptr 0 0 0 0)), (13, (.bool q80.2))]) ⟨.rfl, .rfl, .rfl, .rfl, trivial⟩))
       ·refine AXs.of (i := 9) rfl rfl (by rfl) ?_
        refine ao_alloc (m := 1) (st' := [⟨0, 97, 2, [(eRSignatures p0)]⟩, ⟨0, 80, 3, [[(i64 0), (i64 0), .zc]]⟩]) go0 zi80 rfl rfl (AO.done ⟨rfl, ?_⟩)
        refine AX.all [0, 3] rfl (by kernel_rfl) (by decide) ⟨?_, ?_, trivial⟩
        ·refine AXs.of (i := 0) rfl rfl (by rfl) ?_
         refine zq tb rfl (AO.done ⟨rfl, ?_⟩)
         refine AX.all [1, 3] rfl (by kernel_rfl) (by decide) ⟨?_, ?_, trivial⟩
         ·refine AXs.of (i := 1) rfl rfl (by rfl) ?_
          refine zq tb rfl (AO.done ⟨rfl, ?_⟩)
          refine AX.all [3] rfl (by kernel_rfl) (by decide) ⟨?_, trivial⟩
          ·refine AXs.of (i := 3) rfl rfl (by rfl) ?_
           refine bs h2 fun c81 gc81 h2 => zx ei40 gc81 rfl rfl rfl (AO.done ⟨rfl, ?_⟩)
           refine AX.all [4] rfl (by kernel_rfl) (by decide) ⟨?_, trivial⟩
           ·refine AXs.of (i := 4) rfl rfl (by rfl) ?_
            refine zq tb rfl (AO.done ⟨rfl, ?_⟩)
            refine AX.all [5] rfl (by kernel_rfl) (by decide) ⟨?_, trivial⟩
            ·refine AXs.of (i := 5) rfl rfl (by rfl) ?_
             refine bs h2 fun q82 gq82 h2 => zc (v' := (.tup [(.agg (eRDecl q82.1)), (.bool q82.2)])) hb121 (impl_arrowAt_ok gq82) rfl rfl rfl (AO.done ⟨rfl, ?_⟩)
             refine AX.hoist 6 (v := (.tup [(.agg (eRDecl q82.1)), (.bool q82.2)])) rfl rfl (by kernel_rfl) (by kernel_rfl) (by kernel_rfl) rfl (hoist_mv rfl) ?_
             refine AX.all [7, 8] rfl (by kernel_rfl) (by decide) ⟨?_, ?_, trivial⟩
             ·refine AXs.of (i := 7) rfl rfl (by rfl) ?_
              refine zq tb rfl (AO.done ⟨rfl, ?_⟩)
              refine AX.all [8, 10] rfl (by kernel_rfl) (by decide) ⟨?_, ?_, trivial⟩
              ·refine AXs.of (i := 8) rfl rfl (by rfl) ?_
               refine zq tb rfl (AO.done ⟨rfl, ?_⟩)
               refine AX.all [10] rfl (by kernel_rfl) (by decide) ⟨?_, trivial⟩
               ·refine AXs.of (i := 10) rfl rfl (by rfl) ?_
                refine ao_str (st' := [⟨0, 97, 2, [(eRSignatures p0)]⟩, ⟨0, 80, 3, [(eRDecl q82.1)]⟩]) go0 ti80 rfl rfl rfl rfl rfl rfl (show 0 + 3 ≤ 3 by decide) rfl (AO.done ⟨rfl, ?_⟩)
                refine AX.hoist 11 (v := (.bool q82.2)) rfl rfl (by kernel_rfl) (by kernel_rfl) (by kernel_rfl) rfl (hoist_as rfl) ?_
                exact AX.done rfl (by kernel_rfl) (M38 q82.2 q82.1.from_ q82.1.to q82.1.cons (Sh.some_eq h2).symm _ (by refine Wk.trans (Wk.permk (L := [(2, (i64 p2)), (3, (ls eI p3)), (12, (.ptr 0 0 0 0)), (13, (.bool q82.2))]) (st' := [⟨0, 80, 3, [(eRDecl q82.1)]⟩]) (st1 := [⟨0, 80, 3, [(eRDecl q82.1)]⟩]) [1] rfl .nil (by decide) rfl rfl (.raw rfl rfl .nil) ⟨.rfl, .rfl, .rfl, .rfl, trivial⟩) ?_; exact Wk.to (L := [(2, (i64 p2)), (3, (ls eI p3)), (12, (.ptr 0 0 0 0)), (13, (.bool q82.2))]) ⟨.rfl, .rfl, .rfl, .rfl, trivial⟩))
              ·refine AXs.of (i := 10) rfl rfl (by rfl) ?_
               refine ao_str (st' := [⟨0, 97, 2, [(eRSignatures p0)]⟩, ⟨0, 80, 3, [(eRDecl q82.1)]⟩]) go0 ti80 rfl rfl rfl rfl rfl rfl (show 0 + 3 ≤ 3 by decide) rfl (AO.done ⟨rfl, ?_⟩)
               refine AX.all [8] rfl (by kernel_rfl) (by decide) ⟨?_, trivial⟩
               ·refine AXs.of (i := 8) rfl rfl (by rfl) ?_
                refine zq tb rfl (AO.done ⟨rfl, ?_⟩)
                refine AX.hoist 11 (v := (.bool q82.2)) rfl rfl (by kernel_rfl) (by kernel_rfl) (by kernel_rfl) rfl (hoist_as rfl) ?_
                exact AX.done rfl (by kernel_rfl) (M38 q82.2 q82.1.from_ q82.1.to q82.1.cons (Sh.some_eq h2).symm _ (by refine Wk.trans (Wk.permk (L := [(2, (i64 p2)), (3, (ls eI p3)), (12, (.ptr 0 0 0 0)), (13, (.bool q82.2))]) (st' := [⟨0, 80, 3, [(eRDecl q82.1)]⟩]) (st1 := [⟨0, 80, 3, [(eRDecl q82.1)]⟩]) [1] rfl .nil (by decide) rfl rfl (.raw rfl rfl .nil) ⟨.rfl, .rfl, .rfl, .rfl, trivial⟩) ?_; exact Wk.to (L := [(2, (i64 p2)), (3, (ls eI p3)), (12, (.ptr 0 0 0 0)), (13, (.bool q82.2))]) ⟨.rfl, .rfl, .rfl, .rfl, trivial⟩))
             ·refine AXs.of (i := 8) rfl rfl (by rfl) ?_
              refine zq tb rfl (AO.done ⟨rfl, ?_⟩)
              refine AX.all [7] rfl (by kernel_rfl) (by decide) ⟨?_, trivial⟩
              ·refine AXs.of (i := 7) rfl rfl (by rfl) ?_
               refine zq tb rfl (AO.done ⟨rfl, ?_⟩)
               refine AX.all [10] rfl (by kernel_rfl) (by decide) ⟨?_, trivial⟩
               ·refine AXs.of (i := 10) rfl rfl (by rfl) ?_
                refine ao_str (st' := [⟨0, 97, 2, [(eRSignatures p0)]⟩, ⟨0, 80, 3, [(eRDecl q82.1)]⟩]) go0 ti80 rfl rfl rfl rfl rfl rfl (show 0 + 3 ≤ 3 by decide) rfl (AO.done ⟨rfl, ?_⟩)
                refine AX.hoist 11 (v := (.bool q82.2)) rfl rfl (by kernel_rfl) (by kernel_rfl) (by kernel_rfl) rfl (hoist_as rfl) ?_
                exact AX.done rfl (by kernel_rfl) (M38 q82.2 q82.1.from_ q82.1.to q82.1.cons (Sh.some_eq h2).symm _ (by refine Wk.trans (Wk.permk (L := [(2, (i64 p2)), (3, (ls eI p3)), (12, (.ptr 0 0 0 0)), (13, (.bool q82.2))]) (st' := [⟨0, 80, 3, [(eRDecl q82.1)]⟩]) (st1 := [⟨0, 80, 3, [(eRDecl q82.1)]⟩]) [1] rfl .nil (by decide) rfl rfl (.raw rfl rfl .nil) ⟨.rfl, .rfl, .rfl, .rfl, trivial⟩) ?_; exact Wk.to (L := [(2, (i64 p2)), (3, (ls eI p3)), (12, (.ptr 0 0 0 0)), (13, (.bool q82.2))]) ⟨.rfl, .rfl, .rfl, .rfl, trivial⟩))
         ·refine AXs.of (i := 3) rfl rfl (by rfl) ?_
          refine bs h2 fun c83 gc83 h2 => zx ei40 gc83 rfl rfl rfl (AO.done ⟨rfl, ?_⟩)
          refine AX.all [1, 4] rfl (by kernel_rfl) (by decide) ⟨?_, ?_, trivial⟩
          ·refine AXs.of (i := 1) rfl rfl (by rfl) ?_
           refine zq tb rfl (AO.done ⟨rfl, ?_⟩)
           refine AX.all [4] rfl (by kernel_rfl) (by decide) ⟨?_, trivial⟩
           ·refine AXs.of (i := 4) rfl rfl (by rfl) ?_
            refine zq tb rfl (AO.done ⟨rfl, ?_⟩)
            refine AX.all [5] rfl (by kernel_rfl) (by decide) ⟨?_, trivial⟩
            ·refine AXs.of (i := 5) rfl rfl (by rfl) ?_
             refine bs h2 fun q84 gq84 h2 => zc (v' := (.tup [(.agg (eRDecl q84.1)), (.bool q84.2)])) hb121 (impl_arrowAt_ok gq84) rfl rfl rfl (AO.done ⟨rfl, ?_⟩)
             refine AX.hoist 6 (v := (.tup [(.agg (eRDecl q84.1)), (.bool q84.2)])) rfl rfl (by kernel_rfl) (by kernel_rfl) (by kernel_rfl) rfl (hoist_mv rfl) ?_
             refine AX.all [7, 8] rfl (by kernel_rfl) (by decide) ⟨?_, ?_, trivial⟩
             ·refine AXs.of (i := 7) rfl rfl (by rfl) ?_
              refine zq tb rfl (AO.done ⟨rfl, ?_⟩)
              refine AX.all [8, 10] rfl (by kernel_rfl) (by decide) ⟨?_, ?_, trivial⟩
              ·refine AXs.of (i := 8) rfl rfl (by rfl) ?_
               refine zq tb rfl (AO.done ⟨rfl, ?_⟩)
               refine AX.all [10] rfl (by kernel_rfl) (by decide) ⟨?_, trivial⟩
               ·refine AXs.of (i := 10) rfl rfl (by rfl) ?_
                refine ao_str (st' := [⟨0, 97, 2, [(eRSignatures p0)]⟩, ⟨0, 80, 3, [(eRDecl q84.1)]⟩]) go0 ti80 rfl rfl rfl rfl rfl rfl (show 0 + 3 ≤ 3 by decide) rfl (AO.done ⟨rfl, ?_⟩)
                refine AX.hoist 11 (v := (.bool q84.2)) rfl rfl (by kernel_rfl) (by kernel_rfl) (by kernel_rfl) rfl (hoist_as rfl) ?_
                exact AX.done rfl (by kernel_rfl) (M38 q84.2 q84.1.from_ q84.1.to q84.1.cons (Sh.some_eq h2).symm _ (by refine Wk.trans (Wk.permk (L := [(2, (i64 p2)), (3, (ls eI p3)), (12, (.ptr 0 0 0 0)), (13, (.bool q84.2))]) (st' := [⟨0, 80, 3, [(eRDecl q84.1)]⟩]) (st1 := [⟨0, 80, 3, [(eRDecl q84.1)]⟩]) [1] rfl .nil (by decide) rfl rfl (.raw rfl rfl .nil) ⟨.rfl, .rfl, .rfl, .rfl, trivial⟩) ?_; exact Wk.to (L := [(2, (i64 p2)), (3, (ls eI p3)), (12, (.ptr 0 0 0 0)), (13, (.bool q84.2))]) ⟨.rfl, .rfl, .rfl, .rfl, trivial⟩))
              ·refine AXs.of (i := 10) rfl rfl (by rfl) ?_
               refine ao_str (st' := [⟨0, 97, 2, [(eRSignatures p0)]⟩, ⟨0, 80, 3, [(eRDecl q84.1)]⟩]) go0 ti80 rfl rfl rfl rfl rfl rfl (show 0 + 3 ≤ 3 by decide) rfl (AO.done ⟨rfl, ?_⟩)
               refine AX.all [8] rfl (by kernel_rfl) (by decide) ⟨?_, trivial⟩
               ·refine AXs.of (i := 8) rfl rfl (by rfl) ?_
                refine zq tb rfl (AO.done ⟨rfl, ?_⟩)
                refine AX.hoist 11 (v := (.bool q84.2)) rfl rfl (by kernel_rfl) (by kernel_rfl) (by kernel_rfl) rfl (hoist_as rfl) ?_
                exact AX.done rfl (by kernel_rfl) (M38 q84.2 q84.1.from_ q84.1.to q84.1.cons (Sh.some_eq h2).symm _ (by refine Wk.trans (Wk.permk (L := [(2, (i64 p2)), (3, (ls eI p3)), (12, (.ptr 0 0 0 0)), (13, (.bool q84.2))]) (st' := [⟨0, 80, 3, [(eRDecl q84.1)]⟩]) (st1 := [⟨0, 80, 3, [(eRDecl q84.1)]⟩]) [1] rfl .nil (by decide) rfl rfl (.raw rfl rfl .nil) ⟨.rfl, .rfl, .rfl, .rfl, trivial⟩) ?_; exact Wk.to (L := [(2, (i64 p2)), (3, (ls eI p3)), (12, (.ptr 0 0 0 0)), (13, (.bool q84.2))]) ⟨.rfl, .rfl, .rfl, .rfl, trivial⟩))
             ·refine AXs.of (i := 8) rfl rfl (by rfl) ?_
              refine zq tb rfl (AO.done ⟨rfl, ?_⟩)
              refine AX.all [7] rfl (by kernel_rfl) (by decide) ⟨?_, trivial⟩
              ·refine AXs.of (i := 7) rfl rfl (by rfl) ?_
               refine zq tb rfl (AO.done ⟨rfl, ?_⟩)
               refine AX.all [10] rfl (by kernel_rfl) (by decide) ⟨?_, trivial⟩
               ·refine AXs.of (i := 10) rfl rfl (by rfl) ?_
                refine ao_str (st' := [⟨0, 97, 2, [(eRSignatures p0)]⟩, ⟨0, 80, 3, [(eRDecl q84.1)]⟩]) go0 ti80 rfl rfl rfl rfl rfl rfl (show 0 + 3 ≤ 3 by decide) rfl (AO.done ⟨rfl, ?_⟩)
                refine AX.hoist 11 (v := (.bool q84.2)) rfl rfl (by kernel_rfl) (by kernel_rfl) (by kernel_rfl) rfl (hoist_as rfl) ?_
                exact AX.done rfl (by kernel_rfl) (M38 q84.2 q84.1.from_ q84.1.to q84.1.cons (Sh.some_eq h2).symm _ (by refine Wk.trans (Wk.permk (L := [(2, (i64 p2)), (3, (ls eI p3)), (12, (.ptr 0 0 0 0)), (13, (.bool q84.2))]) (st' := [⟨0, 80, 3, [(eRDecl q84.1)]⟩]) (st1 := [⟨0, 80, 3, [(eRDecl q84.1)]⟩]) [1] rfl .nil (by decide) rfl rfl (.raw rfl rfl .nil) ⟨.rfl, .rfl, .rfl, .rfl, trivial⟩) ?_; exact Wk.to (L := [(2, (i64 p2)), (3, (ls eI p3)), (12, (.ptr 0 0 0 0)), (13, (.bool q84.2))]) ⟨.rfl, .rfl, .rfl, .rfl, trivial⟩))
          ·refine AXs.of (i := 4) rfl rfl (by rfl) ?_
           refine zq tb rfl (AO.done ⟨rfl, ?_⟩)
           refine AX.all [1] rfl (by kernel_rfl) (by decide) ⟨?_, trivial⟩
           ·refine AXs.of (i := 1) rfl rfl (by rfl) ?_
            refine zq tb rfl (AO.done ⟨rfl, ?_⟩)
            refine AX.all [5] rfl (by kernel_rfl) (by decide) ⟨?_, trivial⟩
            ·refine AXs.of (i := 5) rfl rfl (by rfl) ?_
             refine bs h2 fun q85 gq85 h2 => zc (v' := (.tup [(.agg (eRDecl q85.1)), (.bool q85.2)])) hb121 (impl_arrowAt_ok gq85) rfl rfl rfl (AO.done ⟨rfl, ?_⟩)
             refine AX.hoist 6 (v := (.tup [(.agg (eRDecl q85.1)), (.bool q85.2)])) rfl rfl (by kernel_rfl) (by kernel_rfl) (by kernel_rfl) rfl (hoist_mv rfl) ?_
             refine AX.all [7, 8] rfl (by kernel_rfl) (by decide) ⟨?_, ?_, trivial⟩
             ·refine AXs.of (i := 7) rfl rfl (by rfl) ?_
              refine zq tb rfl (AO.done ⟨rfl, ?_⟩)
              refine AX.all [8, 10] rfl (by kernel_rfl) (by decide) ⟨?_, ?_, trivial⟩
              ·refine AXs.of (i := 8) rfl rfl (by rfl) ?_
               refine zq tb rfl (AO.done ⟨rfl, ?_⟩)
               refine AX.all [10] rfl (by kernel_rfl) (by decide) ⟨?_, trivial⟩
               ·refine AXs.of (i := 10) rfl rfl (by rfl) ?_
                refine ao_str (st' := [⟨0, 97, 2, [(eRSignatures p0)]⟩, ⟨0, 80, 3, [(eRDecl q85.1)]⟩]) go0 ti80 rfl rfl rfl rfl rfl rfl (show 0 + 3 ≤ 3 by decide) rfl (AO.done ⟨rfl, ?_⟩)
                refine AX.hoist 11 (v := (.bool q85.2)) rfl rfl (by kernel_rfl) (by kernel_rfl) (by kernel_rfl) rfl (hoist_as rfl) ?_
                exact AX.done rfl (by kernel_rfl) (M38 q85.2 q85.1.from_ q85.1.to q85.1.cons (Sh.some_eq h2).symm _ (by refine Wk.trans (Wk.permk (L := [(2, (i64 p2)), (3, (ls eI p3)), (12, (.ptr 0 0 0 0)), (13, (.bool q85.2))]) (st' := [⟨0, 80, 3, [(eRDecl q85.1)]⟩]) (st1 := [⟨0, 80, 3, [(eRDecl q85.1)]⟩]) [1] rfl .nil (by decide) rfl rfl (.raw rfl rfl .nil) ⟨.rfl, .rfl, .rfl, .rfl, trivial⟩) ?_; exact Wk.to (L := [(2, (i64 p2)), (3, (ls eI p3)), (12, (.ptr 0 0 0 0)), (13, (.bool q85.2))]) ⟨.rfl, .rfl, .rfl, .rfl, trivial⟩))
              ·refine AXs.of (i := 10) rfl rfl (by rfl) ?_
               refine ao_str (st' := [⟨0, 97, 2, [(eRSignatures p0)]⟩, ⟨0, 80, 3, [(eRDecl q85.1)]⟩]) go0 ti80 rfl rfl rfl rfl rfl rfl (show 0 + 3 ≤ 3 by decide) rfl (AO.done ⟨rfl, ?_⟩)
               refine AX.all [8] rfl (by kernel_rfl) (by decide) ⟨?_, trivial⟩
               ·refine AXs.of (i := 8) rfl rfl (by rfl) ?_
                refine zq tb rfl (AO.done ⟨rfl, ?_⟩)
                refine AX.hoist 11 (v := (.bool q85.2)) rfl rfl (by kernel_rfl) (by kernel_rfl) (by kernel_rfl) rfl (hoist_as rfl) ?_
                exact AX.done rfl (by kernel_rfl) (M38 q85.2 q85.1.from_ q85.1.to q85.1.cons (Sh.some_eq h2).symm _ (by refine Wk.trans (Wk.permk (L := [(2, (i64 p2)), (3, (ls eI p3)), (12, (.ptr 0 0 0 0)), (13, (.bool q85.2))]) (st' := [⟨0, 80, 3, [(eRDecl q85.1)]⟩]) (st1 := [⟨0, 80, 3, [(eRDecl q85.1)]⟩]) [1] rfl .nil (by decide) rfl rfl (.raw rfl rfl .nil) ⟨.rfl, .rfl, .rfl, .rfl, trivial⟩) ?_; exact Wk.to (L := [(2, (i64 p2)), (3, (ls eI p3)), (12, (.ptr 0 0 0 0)), (13, (.bool q85.2))]) ⟨.rfl, .rfl, .rfl, .rfl, trivial⟩))
             ·refine AXs.of (i := 8) rfl rfl (by rfl) ?_
              refine zq tb rfl (AO.done ⟨rfl, ?_⟩)
              refine AX.all [7] rfl (by kernel_rfl) (by decide) ⟨?_, trivial⟩
              ·refine AXs.of (i := 7) rfl rfl (by rfl) ?_
               refine zq tb rfl (AO.done ⟨rfl, ?_⟩)
               refine AX.all [10] rfl (by kernel_rfl) (by decide) ⟨?_, trivial⟩
               ·refine AXs.of (i := 10) rfl rfl (by rfl) ?_
                refine ao_str (st' := [⟨0, 97, 2, [(eRSignatures p0)]⟩, ⟨0, 80, 3, [(eRDecl q85.1)]⟩]) go0 ti80 rfl rfl rfl rfl rfl rfl (show 0 + 3 ≤ 3 by decide) rfl (AO.done ⟨rfl, ?_⟩)
                refine AX.hoist 11 (v := (.bool q85.2)) rfl rfl (by kernel_rfl) (by kernel_rfl) (by kernel_rfl) rfl (hoist_as rfl) ?_
                exact AX.done rfl (by kernel_rfl) (M38 q85.2 q85.1.from_ q85.1.to q85.1.cons (Sh.some_eq h2).symm _ (by refine Wk.trans (Wk.permk (L := [(2, (i64 p2)), (3, (ls eI p3)), (12, (.ptr 0 0 0 0)), (13, (.bool q85.2))]) (st' := [⟨0, 80, 3, [(eRDecl q85.1)]⟩]) (st1 := [⟨0, 80, 3, [(eRDecl q85.1)]⟩]) [1] rfl .nil (by decide) rfl rfl (.raw rfl rfl .nil) ⟨.rfl, .rfl, .rfl, .rfl, trivial⟩) ?_; exact Wk.to (L := [(2, (i64 p2)), (3, (ls eI p3)), (12, (.ptr 0 0 0 0)), (13, (.bool q85.2))]) ⟨.rfl, .rfl, .rfl, .rfl, trivial⟩))
        ·refine AXs.of (i := 3) rfl rfl (by rfl) ?_
         refine bs h2 fun c86 gc86 h2 => zx ei40 gc86 rfl rfl rfl (AO.done ⟨rfl, ?_⟩)
         refine AX.all [0, 4] rfl (by kernel_rfl) (by decide) ⟨?_, ?_, trivial⟩
         ·refine AXs.of (i := 0) rfl rfl (by rfl) ?_
          refine zq tb rfl (AO.done ⟨rfl, ?_⟩)
          refine AX.all [1, 4] rfl (by kernel_rfl) (by decide) ⟨?_, ?_, trivial⟩
          ·refine AXs.of (i := 1) rfl rfl (by rfl) ?_
           refine zq tb rfl (AO.done ⟨rfl, ?_⟩)
           refine AX.all [4] rfl (by kernel_rfl) (by decide) ⟨?_, trivial⟩
           ·refine AXs.of (i := 4) rfl rfl (by rfl) ?_
            refine zq tb rfl (AO.done ⟨rfl, ?_⟩)
            refine AX.all [5] rfl (by kernel_rfl) (by decide) ⟨?_, trivial⟩
            ·refine AXs.of (i := 5) rfl rfl (by rfl) ?_
             refine bs h2 fun q87 gq87 h2 => zc (v' := (.tup [(.agg (eRDecl q87.1)), (.bool q87.2)])) hb121 (impl_arrowAt_ok gq87) rfl rfl rfl (AO.done ⟨rfl, ?_⟩)
             refine AX.hoist 6 (v := (.tup [(.agg (eRDecl q87.1)), (.bool q87.2)])) rfl rfl (by kernel_rfl) (by kernel_rfl) (by kernel_rfl) rfl (hoist_mv rfl) ?_
             refine AX.all [7, 8] rfl (by kernel_rfl) (by decide) ⟨?_, ?_, trivial⟩
             ·refine AXs.of (i := 7) rfl rfl (by rfl) ?_
              refine zq tb rfl (AO.done ⟨rfl, ?_⟩)
              refine AX.all [8, 10] rfl (by kernel_rfl) (by decide) ⟨?_, ?_, trivial⟩
              ·refine AXs.of (i := 8) rfl rfl (by rfl) ?_
               refine zq tb rfl (AO.done ⟨rfl, ?_⟩)
               refine AX.all [10] rfl (by kernel_rfl) (by decide) ⟨?_, trivial⟩
               ·refine AXs.of (i := 10) rfl rfl (by rfl) ?_
                refine ao_str (st' := [⟨0, 97, 2, [(eRSignatures p0)]⟩, ⟨0, 80, 3, [(eRDecl q87.1)]⟩]) go0 ti80 rfl rfl rfl rfl rfl rfl (show 0 + 3 ≤ 3 by decide) rfl (AO.done ⟨rfl, ?_⟩)
                refine AX.hoist 11 (v := (.bool q87.2)) rfl rfl (by kernel_rfl) (by kernel_rfl) (by kernel_rfl) rfl (hoist_as rfl) ?_
                exact AX.done rfl (by kernel_rfl) (M38 q87.2 q87.1.from_ q87.1.to q87.1.cons (Sh.some_eq h2).symm _ (by refine Wk.trans (Wk.permk (L := [(2, (i64 p2)), (3, (ls eI p3)), (12, (.ptr 0 0 0 0)), (13, (.bool q87.2))]) (st' := [⟨0, 80, 3, [(eRDecl q87.1)]⟩]) (st1 := [⟨0, 80, 3, [(eRDecl q87.1)]⟩]) [1] rfl .nil (by decide) rfl rfl (.raw rfl rfl .nil) ⟨.rfl, .rfl, .rfl, .rfl, trivial⟩) ?_; exact Wk.to (L := [(2, (i64 p2)), (3, (ls eI p3)), (12, (.ptr 0 0 0 0)), (13, (.bool q87.2))]) ⟨.rfl, .rfl, .rfl, .rfl, trivial⟩))
              ·refine AXs.of (i := 10) rfl rfl (by rfl) ?_
               refine ao_str (st' := [⟨0, 97, 2, [(eRSignatures p0)]⟩, ⟨0, 80, 3, [(eRDecl q87.1)]⟩]) go0 ti80 rfl rfl rfl rfl rfl rfl (show 0 + 3 ≤ 3 by decide) rfl (AO.done ⟨rfl, ?_⟩)
               refine AX.all [8] rfl (by kernel_rfl) (by decide) ⟨?_, trivial⟩
               ·refine AXs.of (i := 8) rfl rfl (by rfl) ?_
                refine zq tb rfl (AO.done ⟨rfl, ?_⟩)
                refine AX.hoist 11 (v := (.bool q87.2)) rfl rfl (by kernel_rfl) (by kernel_rfl) (by kernel_rfl) rfl (hoist_as rfl) ?_
                exact AX.done rfl (by kernel_rfl) (M38 q87.2 q87.1.from_ q87.1.to q87.1.cons (Sh.some_eq h2).symm _ (by refine Wk.trans (Wk.permk (L := [(2, (i64 p2)), (3, (ls eI p3)), (12, (.ptr 0 0 0 0)), (13, (.bool q87.2))]) (st' := [⟨0, 80, 3, [(eRDecl q87.1)]⟩]) (st1 := [⟨0, 80, 3, [(eRDecl q87.1)]⟩]) [1] rfl .nil (by decide) rfl rfl (.raw rfl rfl .nil) ⟨.rfl, .rfl, .rfl, .rfl, trivial⟩) ?_; exact Wk.to (L := [(2, (i64 p2)), (3, (ls eI p3)), (12, (.ptr 0 0 0 0)), (13, (.bool q87.2))]) ⟨.rfl, .rfl, .rfl, .rfl, trivial⟩))
             ·refine AXs.of (i := 8) rfl rfl (by rfl) ?_
              refine zq tb rfl (AO.done ⟨rfl, ?_⟩)
              refine AX.all [7] rfl (by kernel_rfl) (by decide) ⟨?_, trivial⟩
              ·refine AXs.of (i := 7) rfl rfl (by rfl) ?_
               refine zq tb rfl (AO.done ⟨rfl, ?_⟩)
               refine AX.all [10] rfl (by kernel_rfl) (by decide) ⟨?_, trivial⟩
               ·refine AXs.of (i := 10) rfl rfl (by rfl) ?_
                refine ao_str (st' := [⟨0, 97, 2, [(eRSignatures p0)]⟩, ⟨0, 80, 3, [(eRDecl q87.1)]⟩]) go0 ti80 rfl rfl rfl rfl rfl rfl (show 0 + 3 ≤ 3 by decide) rfl (AO.done ⟨rfl, ?_⟩)
                refine AX.hoist 11 (v := (.bool q87.2)) rfl rfl (by kernel_rfl) (by kernel_rfl) (by kernel_rfl) rfl (hoist_as rfl) ?_
                exact AX.done rfl (by kernel_rfl) (M38 q87.2 q87.1.from_ q87.1.to q87.1.cons (Sh.some_eq h2).symm _ (by refine Wk.trans (Wk.permk (L := [(2, (i64 p2)), (3, (ls eI p3)), (12, (.ptr 0 0 0 0)), (13, (.bool q87.2))]) (st' := [⟨0, 80, 3, [(eRDecl q87.1)]⟩]) (st1 := [⟨0, 80, 3, [(eRDecl q87.1)]⟩]) [1] rfl .nil (by decide) rfl rfl (.raw rfl rfl .nil) ⟨.rfl, .rfl, .rfl, .rfl, trivial⟩) ?_; exact Wk.to (L := [(2, (i64 p2)), (3, (ls eI p3)), (12, (.ptr 0 0 0 0)), (13, (.bool q87.2))]) ⟨.rfl, .rfl, .rfl, .rfl, trivial⟩))
          ·refine AXs.of (i := 4) rfl rfl (by rfl) ?_
           refine zq tb rfl (AO.done ⟨rfl, ?_⟩)
           refine AX.all [1] rfl (by kernel_rfl) (by decide) ⟨?_, trivial⟩
           ·refine AXs.of (i := 1) rfl rfl (by rfl) ?_
            refine zq tb rfl (AO.done ⟨rfl, ?_⟩)
            refine AX.all [5] rfl (by kernel_rfl) (by decide) ⟨?_, trivial⟩
            ·refine AXs.of (i := 5) rfl rfl (by rfl) ?_
             refine bs h2 fun q88 gq88 h2 => zc (v' := (.tup [(.agg (eRDecl q88.1)), (.bool q88.2)])) hb121 (impl_arrowAt_ok gq88) rfl rfl rfl (AO.done ⟨rfl, ?_⟩)
             refine AX.hoist 6 (v := (.tup [(.agg (eRDecl q88.1)), (.bool q88.2)])) rfl rfl (by kernel_rfl) (by kernel_rfl) (by kernel_rfl) rfl (hoist_mv rfl) ?_
             refine AX.all [7, 8] rfl (by kernel_rfl) (by decide) ⟨?_, ?_, trivial⟩
             ·refine AXs.of (i := 7) rfl rfl (by rfl) ?_
              refine zq tb rfl (AO.done ⟨rfl, ?_⟩)
              refine AX.all [8, 10] rfl (by kernel_rfl) (by decide) ⟨?_, ?_, trivial⟩
              ·refine AXs.of (i := 8) rfl rfl (by rfl) ?_
               refine zq tb rfl (AO.done ⟨rfl, ?_⟩)
               refine AX.all [10] rfl (by kernel_rfl) (by decide) ⟨?_, trivial⟩
               ·refine AXs.of (i := 10) rfl rfl (by rfl) ?_
                refine ao_str (st' := [⟨0, 97, 2, [(eRSignatures p0)]⟩, ⟨0, 80, 3, [(eRDecl q88.1)]⟩]) go0 ti80 rfl rfl rfl rfl rfl rfl (show 0 + 3 ≤ 3 by decide) rfl (AO.done ⟨rfl, ?_⟩)
                refine AX.hoist 11 (v := (.bool q88.2)) rfl rfl (by kernel_rfl) (by kernel_rfl) (by kernel_rfl) rfl (hoist_as rfl) ?_
                exact AX.done rfl (by kernel_rfl) (M38 q88.2 q88.1.from_ q88.1.to q88.1.cons (Sh.some_eq h2).symm _ (by refine Wk.trans (Wk.permk (L := [(2, (i64 p2)), (3, (ls eI p3)), (12, (.ptr 0 0 0 0)), (13, (.bool q88.2))]) (st' := [⟨0, 80, 3, [(eRDecl q88.1)]⟩]) (st1 := [⟨0, 80, 3, [(eRDecl q88.1)]⟩]) [1] rfl .nil (by decide) rfl rfl (.raw rfl rfl .nil) ⟨.rfl, .rfl, .rfl, .rfl, trivial⟩) ?_; exact Wk.to (L := [(2, (i64 p2)), (3, (ls eI p3)), (12, (.ptr 0 0 0 0)), (13, (.bool q88.2))]) ⟨.rfl, .rfl, .rfl, .rfl, trivial⟩))
              ·refine AXs.of (i := 10) rfl rfl (by rfl) ?_
               refine ao_str (st' := [⟨0, 97, 2, [(eRSignatures p0)]⟩, ⟨0, 80, 3, [(eRDecl q88.1)]⟩]) go0 ti80 rfl rfl rfl rfl rfl rfl (show 0 + 3 ≤ 3 by decide) rfl (AO.done ⟨rfl, ?_⟩)
               refine AX.all [8] rfl (by kernel_rfl) (by decide) ⟨?_, trivial⟩
               ·refine AXs.of (i := 8) rfl rfl (by rfl) ?_
                refine zq tb rfl (AO.done ⟨rfl, ?_⟩)
                refine AX.hoist 11 (v := (.bool q88.2)) rfl rfl (by kernel_rfl) (by kernel_rfl) (by kernel_rfl) rfl (hoist_as rfl) ?_
                exact AX.done rfl (by kernel_rfl) (M38 q88.2 q88.1.from_ q88.1.to q88.1.cons (Sh.some_eq h2).symm _ (by refine Wk.trans (Wk.permk (L := [(2, (i64 p2)), (3, (ls eI p3)), (12, (.ptr 0 0 0 0)), (13, (.bool q88.2))]) (st' := [⟨0, 80, 3, [(eRDecl q88.1)]⟩]) (st1 := [⟨0, 80, 3, [(eRDecl q88.1)]⟩]) [1] rfl .nil (by decide) rfl rfl (.raw rfl rfl .nil) ⟨.rfl, .rfl, .rfl, .rfl, trivial⟩) ?_; exact Wk.to (L := [(2, (i64 p2)), (3, (ls eI p3)), (12, (.ptr 0 0 0 0)), (13, (.bool q88.2))]) ⟨.rfl, .rfl, .rfl, .rfl, trivial⟩))
             ·refine AXs.of (i := 8) rfl rfl (by rfl) ?_
              refine zq tb rfl (AO.done ⟨rfl, ?_⟩)
              refine AX.all [7] rfl (by kernel_rfl) (by decide) ⟨?_, trivial⟩
              ·refine AXs.of (i := 7) rfl rfl (by rfl) ?_
               refine zq tb rfl (AO.done ⟨rfl, ?_⟩)
               refine AX.all [10] rfl (by kernel_rfl) (by decide) ⟨?_, trivial⟩
               ·refine AXs.of (i := 10) rfl rfl (by rfl) ?_
                refine ao_str (st' := [⟨0, 97, 2, [(eRSignatures p0)]⟩, ⟨0, 80, 3, [(eRDecl q88.1)]⟩]) go0 ti80 rfl rfl rfl rfl rfl rfl (show 0 + 3 ≤ 3 by decide) rfl (AO.done ⟨rfl, ?_⟩)
                refine AX.hoist 11 (v := (.bool q88.2)) rfl rfl (by kernel_rfl) (by kernel_rfl) (by kernel_rfl) rfl (hoist_as rfl) ?_
                exact AX.done rfl (by kernel_rfl) (M38 q88.2 q88.1.from_ q88.1.to q88.1.cons (Sh.some_eq h2).symm _ (by refine Wk.trans (Wk.permk (L := [(2, (i64 p2)), (3, (ls eI p3)), (12, (.ptr 0 0 0 0)), (13, (.bool q88.2))]) (st' := [⟨0, 80, 3, [(eRDecl q88.1)]⟩]) (st1 := [⟨0, 80, 3, [(eRDecl q88.1)]⟩]) [1] rfl .nil (by decide) rfl rfl (.raw rfl rfl .nil) ⟨.rfl, .rfl, .rfl, .rfl, trivial⟩) ?_; exact Wk.to (L := [(2, (i64 p2)), (3, (ls eI p3)), (12, (.ptr 0 0 0 0)), (13, (.bool q88.2))]) ⟨.rfl, .rfl, .rfl, .rfl, trivial⟩))
         ·refine AXs.of (i := 4) rfl rfl (by rfl) ?_
          refine zq tb rfl (AO.done ⟨rfl, ?_⟩)
          refine AX.all [0] rfl (by kernel_rfl) (by decide) ⟨?_, trivial⟩
          ·refine AXs.of (i := 0) rfl rfl (by rfl) ?_
           refine zq tb rfl (AO.done ⟨rfl, ?_⟩)
           refine AX.all [1] rfl (by kernel_rfl) (by decide) ⟨?_, trivial⟩
           ·refine AXs.of (i := 1) rfl rfl (by rfl) ?_
            refine zq tb rfl (AO.done ⟨rfl, ?_⟩)
            refine AX.all [5] rfl (by kernel_rfl) (by decide) ⟨?_, trivial⟩
            ·refine AXs.of (i := 5) rfl rfl (by rfl) ?_
             refine bs h2 fun q89 gq89 h2 => zc (v' := (.tup [(.agg (eRDecl q89.1)), (.bool q89.2)])) hb121 (impl_arrowAt_ok gq89) rfl rfl rfl (AO.done ⟨rfl, ?_⟩)
             refine AX.hoist 6 (v := (.tup [(.agg (eRDecl q89.1)), (.bool q89.2)])) rfl rfl (by kernel_rfl) (by kernel_rfl) (by kernel_rfl) rfl (hoist_mv rfl) ?_
             refine AX.all [7, 8] rfl (by kernel_rfl) (by decide) ⟨?_, ?_, trivial⟩
             ·refine AXs.of (i := 7) rfl rfl (by rfl) ?_
              refine zq tb rfl (AO.done ⟨rfl, ?_⟩)
              refine AX.all [8, 10] rfl (by kernel_rfl) (by decide) ⟨?_, ?_, trivial⟩
              ·refine AXs.of (i := 8) rfl rfl (by rfl) ?_
               refine zq tb rfl (AO.done ⟨rfl, ?_⟩)
               refine AX.all [10] rfl (by kernel_rfl) (by decide) ⟨?_, trivial⟩
               ·refine AXs.of (i := 10) rfl rfl (by rfl) ?_
                refine ao_str (st' := [⟨0, 97, 2, [(eRSignatures p0)]⟩, ⟨0, 80, 3, [(eRDecl q89.1)]⟩]) go0 ti80 rfl rfl rfl rfl rfl rfl (show 0 + 3 ≤ 3 by decide) rfl (AO.done ⟨rfl, ?_⟩)
                refine AX.hoist 11 (v := (.bool q89.2)) rfl rfl (by kernel_rfl) (by kernel_rfl) (by kernel_rfl) rfl (hoist_as rfl) ?_
                exact AX.done rfl (by kernel_rfl) (M38 q89.2 q89.1.from_ q89.1.to q89.1.cons (Sh.some_eq h2).symm _ (by refine Wk.trans (Wk.permk (L := [(2, (i64 p2)), (3, (ls eI p3)), (12, (.ptr 0 0 0 0)), (13, (.bool q89.2))]) (st' := [⟨0, 80, 3, [(eRDecl q89.1)]⟩]) (st1 := [⟨0, 80, 3, [(eRDecl q89.1)]⟩]) [1] rfl .nil (by decide) rfl rfl (.raw rfl rfl .nil) ⟨.rfl, .rfl, .rfl, .rfl, trivial⟩) ?_; exact Wk.to (L := [(2, (i64 p2)), (3, (ls eI p3)), (12, (.ptr 0 0 0 0)), (13, (.bool q89.2))]) ⟨.rfl, .rfl, .rfl, .rfl, trivial⟩))
              ·refine AXs.of (i := 10) rfl rfl (by rfl) ?_
               refine ao_str (st' := [⟨0, 97, 2, [(eRSignatures p0)]⟩, ⟨0, 80, 3, [(eRDecl q89.1)]⟩]) go0 ti80 rfl rfl rfl rfl rfl rfl (show 0 + 3 ≤ 3 by decide) rfl (AO.done ⟨rfl, ?_⟩)
               refine AX.all [8] rfl (by kernel_rfl) (by decide) ⟨?_, trivial⟩
               ·refine AXs.of (i := 8) rfl rfl (by rfl) ?_
                refine zq tb rfl (AO.done ⟨rfl, ?_⟩)
                refine AX.hoist 11 (v := (.bool q89.2)) rfl rfl (by kernel_rfl) (by kernel_rfl) (by kernel_rfl) rfl (hoist_as rfl) ?_
                exact AX.done rfl (by kernel_rfl) (M38 q89.2 q89.1.from_ q89.1.to q89.1.cons (Sh.some_eq h2).symm _ (by refine Wk.trans (Wk.permk (L := [(2, (i64 p2)), (3, (ls eI p3)), (12, (.ptr 0 0 0 0)), (13, (.bool q89.2))]) (st' := [⟨0, 80, 3, [(eRDecl q89.1)]⟩]) (st1 := [⟨0, 80, 3, [(eRDecl q89.1)]⟩]) [1] rfl .nil (by decide) rfl rfl (.raw rfl rfl .nil) ⟨.rfl, .rfl, .rfl, .rfl, trivial⟩) ?_; exact Wk.to (L := [(2, (i64 p2)), (3, (ls eI p3)), (12, (.ptr 0 0 0 0)), (13, (.bool q89.2))]) ⟨.rfl, .rfl, .rfl, .rfl, trivial⟩))
             ·refine AXs.of (i := 8) rfl rfl (by rfl) ?_
              refine zq tb rfl (AO.done ⟨rfl, ?_⟩)
              refine AX.all [7] rfl (by kernel_rfl) (by decide) ⟨?_, trivial⟩
              ·refine AXs.of (i := 7) rfl rfl (by rfl) ?_
               refine zq tb rfl (AO.done ⟨rfl, ?_⟩)
               refine AX.all [10] rfl (by kernel_rfl) (by decide) ⟨?_, trivial⟩
               ·refine AXs.of (i := 10) rfl rfl (by rfl) ?_
                refine ao_str (st' := [⟨0, 97, 2, [(eRSignatures p0)]⟩, ⟨0, 80, 3, [(eRDecl q89.1)]⟩]) go0 ti80 rfl rfl rfl rfl rfl rfl (show 0 + 3 ≤ 3 by decide) rfl (AO.done ⟨rfl, ?_⟩)
                refine AX.hoist 11 (v := (.bool q89.2)) rfl rfl (by kernel_rfl) (by kernel_rfl) (by kernel_rfl) rfl (hoist_as rfl) ?_
                exact AX.done rfl (by kernel_rfl) (M38 q89.2 q89.1.from_ q89.1.to q89.1.cons (Sh.some_eq h2).symm _ (by refine Wk.trans (Wk.permk (L := [(2, (i64 p2)), (3, (ls eI p3)), (12, (.ptr 0 0 0 0)), (13, (.bool q89.2))]) (st' := [⟨0, 80, 3, [(eRDecl q89.1)]⟩]) (st1 := [⟨0, 80, 3, [(eRDecl q89.1)]⟩]) [1] rfl .nil (by decide) rfl rfl (.raw rfl rfl .nil) ⟨.rfl, .rfl, .rfl, .rfl, trivial⟩) ?_; exact Wk.to (L := [(2, (i64 p2)), (3, (ls eI p3)), (12, (.ptr 0 0 0 0)), (13, (.bool q89.2))]) ⟨.rfl, .rfl, .rfl, .rfl, trivial⟩))
     ·intro b26 h1
      refine zr tb rfl rfl ?_
      refine ci h1 rfl ?_ ?_ <;> clear h1
      ·intro b91 h1
       refine sr rfl fun K92 hK92 => zm tb 3 rfl (bs h1 fun q93 gq93 h1 => zc (v' := (.tup [(i64 q93.1), (.agg (eRCon q93.2))])) hb120 (impl_conAt_ok gq93) rfl rfl rfl (zm tb 3 rfl (ao_alloc (m := 1) (st' := [⟨0, 97, 2, [(eRSignatures p0)]⟩, ⟨0, 130, 1, [[.zc]]⟩]) go0 zi130 rfl rfl (zq tb rfl (ao_str (st' := [⟨0, 97, 2, [(eRSignatures p0)]⟩, ⟨0, 130, 1, [(eRCon q93.2)]⟩]) go0 ti130 rfl rfl rfl rfl rfl rfl (show 0 + 1 ≤ 1 by decide) rfl (dn hK92 rfl (AW.seq fun K94 hK94 => bs h1 fun o96 h2 h1 => ?_)))))))
       have M96 : ∀ (t95 : Bool), o96 = t95 → ∀ s, Wk 0 s ⟨149, envL [(8, (i64 q93.1)), (9, (.bool t95))], []⟩ → K94 s := by
        intro t95 hq s hw
        subst o96
        try dsimp only at h1
        refine hK94 _ (AW.weaken hw ?_)
        replace h1 := Sh.some_eq h1
        subst o5
        try dsimp only [id] at h0
        replace h0 := Sh.some_eq h0
        subst r
        exact AW.ret (xr (Wk.to (L := [(8, (i64 q93.1)), (9, (.bool t95))]) ⟨.rfl, .rfl, trivial⟩))
       refine AW.regionO rfl (zm tb 4 rfl ?_)
       rcases Sh.ite_some h2 with ⟨b97, h2⟩ | ⟨b97, h2⟩
       ·exact zg tb b97 rfl (zg tb b97 rfl (zg tb b97 rfl (bs h2 fun q98 gq98 h2 => zd b97 hb122 (slices_Equal_int_int_ok gq98) rfl rfl rfl rfl (zt b97 rfl (zm tb 2 rfl (AO.done (M96 q98 (Sh.some_eq h2).symm _ (Wk.d0 _ rfl))))))))
       ·refine zs b97 rfl ?_
        iterate 3 refine zs b97 rfl ?_
        exact zf b97 rfl (zm tb 2 rfl (AO.done (M96 false (Sh.some_eq h2).symm _ (Wk.d0 _ rfl))))
      ·intro b91 h1
       refine AW.seq fun K99 hK99 => bs h1 fun o101 h2 h1 => ?_
       have M101 : ∀ (t100 : Bool), o101 = t100 → ∀ s, Wk 0 s ⟨149, envL [(1, (i64 p1)), (2, (i64 p2)), (3, (ls eI p3)), (4, (.ptr 0 0 0 0)), (88, (.bool t100))], [⟨0, 97, 2, [(eRSignatures p0)]⟩]⟩ → K99 s := by
        intro t100 hq s hw
        subst o101
        try dsimp only at h1
        refine hK99 _ (AW.weaken hw ?_)
        refine ci h1 rfl ?_ ?_ <;> clear h1
        ·intro b102 h1
         refine AW.seq fun K103 hK103 => AW.seq fun K104 hK104 => bs h1 fun o106 h2 h1 => ?_
         have M106 : ∀ (t105 : Bool), o106 = t105 → ∀ s, Wk 0 s ⟨149, envL [(1, (i64 p1)), (2, (i64 p2)), (3, (ls eI p3)), (4, (.ptr 0 0 0 0)), (99, (.bool t105))], [⟨0, 97, 2, [(eRSignatures p0)]⟩]⟩ → K104 s := by
          intro t105 hq s hw
          subst o106
          try dsimp only at h1
          refine hK104 _ (AW.weaken hw ?_)
          refine ci h1 rfl ?_ ?_ <;> clear h1
          ·intro b107 h1
           refine zr tb rfl rfl ?_
           replace h1 := Sh.some_eq h1
           subst o5
           try dsimp only [id] at h0
           replace h0 := Sh.some_eq h0
           subst r
           exact AW.ret (xr (Wk.d0 [(8, (i64 (-1))), (9, (.bool false))] rfl))
          ·intro b107 h1
           refine AW.skip (hK103 _ (AW.seq fun K109 hK109 => ?_))
           refine AW.draw (by kernel_rfl) (by kernel_rfl) (by rfl) ?_
           iterate 3 refine yq tb rfl ?_
           refine bs h1 fun c110 gc110 h1 => yx ei91 gc110 rfl rfl rfl ?_
           iterate 5 refine yq tb rfl ?_
           refine yx ei91 gc110 rfl rfl rfl ?_
           iterate 4 refine yq tb rfl ?_
           refine d_done (hK109 _ (AW.seq fun K111 hK111 => zr tb rfl rfl ?_))
           refine ci h1 rfl ?_ ?_ <;> clear h1
           ·intro b113 h1
            refine sr rfl fun K114 hK114 => zm tb 3 rfl (bs h1 fun q115 gq115 h1 => zc hb122 (slices_Equal_int_int_ok gq115) rfl rfl rfl (zm tb 2 rfl (dn hK114 rfl ?_)))
            replace h1 := Sh.some_eq h1
            subst o5
            try dsimp only [id] at h0
            replace h0 := Sh.some_eq h0
            subst r
            exact AW.ret (xr (Wk.d0 [(8, (i64 c110.result)), (9, (.bool q115))] rfl))
           ·intro b113 h1
            refine AW.skip (hK111 _ (sr rfl fun K116 hK116 => zq tb rfl (zl tb rfl rfl (zm tb 2 rfl (dn hK116 rfl (AW.seq fun K117 hK117 => zr tb rfl rfl ?_))))))
            refine ci h1 rfl ?_ ?_ <;> clear h1
            ·intro b119 h1
             refine zr tb rfl rfl ?_
             replace h1 := Sh.some_eq h1
             subst o5
             try dsimp only [id] at h0
             replace h0 := Sh.some_eq h0
             subst r
             exact AW.ret (xr (Wk.d0 [(8, (i64 (-1))), (9, (.bool false))] rfl))
            ·intro b119 h1
             refine AW.skip (hK117 _ (AW.seq fun K121 hK121 => ?_))
             refine AW.draw (by kernel_rfl) (by kernel_rfl) (by rfl) ?_
             iterate 4 refine yq tb rfl ?_
             refine bs h1 fun c122 gc122 h1 => yx ei40 gc122 rfl rfl rfl ?_
             iterate 2 refine yq tb rfl ?_
             refine bs h1 fun q123 gq123 h1 => d_call (v := (i64 q123)) go0 hb123 (impl_arrowOf_ok gq123) rfl rfl rfl (yq tb rfl (d_done (hK121 _ (AW.seq fun K124 hK124 => bs h1 fun o126 h2 h1 => ?_))))
             have M126 : ∀ (t125 : Bool), o126 = t125 → ∀ s, Wk 0 s ⟨149, envL [(8, (i64 q123)), (9, (.bool t125))], []⟩ → K124 s := by
              intro t125 hq s hw
              subst o126
              try dsimp only at h1
              refine hK124 _ (AW.weaken hw ?_)
              replace h1 := Sh.some_eq h1
              subst o5
              try dsimp only [id] at h0
              replace h0 := Sh.some_eq h0
              subst r
              exact AW.ret (xr (Wk.to (L := [(8, (i64 q123)), (9, (.bool t125))]) ⟨.rfl, .rfl, trivial⟩))
             refine AW.regionO rfl (zm tb 4 rfl ?_)
             rcases Sh.ite_some h2 with ⟨b127, h2⟩ | ⟨b127, h2⟩
             ·exact zg tb b127 rfl (zg tb b127 rfl (zg tb b127 rfl (bs h2 fun l128 gl128 h2 => ao_sls (i := 0) (j := Sh.w ((Sh.len c110.params) - 1)) (go1 rfl rfl b127) ei40 rfl rfl rfl (fun _ => rfl) gl128 (bs h2 fun q129 gq129 h2 => zd b127 hb122 (slices_Equal_int_int_ok gq129) rfl rfl rfl rfl (zt b127 rfl (zm tb 2 rfl (AO.done (M126 q129 (Sh.some_eq h2).symm _ (Wk.d0 _ rfl)))))))))
             ·refine zs b127 rfl ?_
              iterate 4 refine zs b127 rfl ?_
              exact zf b127 rfl (zm tb 2 rfl (AO.done (M126 false (Sh.some_eq h2).symm _ (Wk.d0 _ rfl))))
         refine AW.regionO rfl (zm tb 3 rfl ?_)
         rcases Sh.ite_some h2 with ⟨b130, h2⟩ | ⟨b130, h2⟩
         ·refine zs b130 rfl ?_
          iterate 4 refine zs b130 rfl ?_
          exact zt b130 rfl (AO.done (M106 true (Sh.some_eq h2).symm _ (Wk.tr rfl)))
         ·exact zg tb b130 rfl (zg tb b130 rfl (zg tb b130 rfl (ao_q (v := (i64 (Sh.len p0.funcs))) (go1 rfl rfl b130) rfl (aq_lens sl91 rfl) (zg tb b130 rfl (zf b130 rfl (AO.done (M106 (decide ((Sh.len p0.funcs) ≤ p2)) (Sh.some_eq h2).symm _ (Wk.tr rfl))))))))
        ·intro b102 h1
         refine zr tb rfl rfl ?_
         replace h1 := Sh.some_eq h1
         subst o5
         try dsimp only [id] at h0
         replace h0 := Sh.some_eq h0
         subst r
         exact AW.ret (xr (Wk.d0 [(8, (i64 (-1))), (9, (.bool false))] rfl))
       refine zr tb rfl rfl ?_
       refine ci h2 rfl ?_ ?_ <;> clear h2
       ·intro b133 h2
        exact AW.skip (M101 true (Sh.some_eq h2).symm _ (Wk.to (L := [(1, (i64 p1)), (2, (i64 p2)), (3, (ls eI p3)), (4, (.ptr 0 0 0 0)), (88, (.bool true))]) ⟨.rfl, .rfl, .rfl, .rfl, (.of (congrArg AV.bool b133)), trivial⟩))
       ·intro b133 h2
        exact AW.regionO rfl (zm tb 2 rfl (AO.done (M101 (decide (p1 = 10)) (Sh.some_eq h2).symm _ (Wk.tr rfl))))
  refine zr tb rfl rfl ?_
  refine ci h2 rfl ?_ ?_ <;> clear h2
  ·intro b135 h2
   exact AW.skip (M21 true (Sh.some_eq h2).symm _ (Wk.to (L := [(1, (i64 p1)), (2, (i64 p2)), (3, (ls eI p3)), (4, (.ptr 0 0 0 0)), (11, (i64 0)), (18, (i64 p1)), (32, (.bool true))]) ⟨.rfl, .rfl, .rfl, .rfl, .rfl, .rfl, (.of (congrArg AV.bool b135)), trivial⟩))
  ·intro b135 h2
   refine zr tb rfl rfl ?_
   refine ci h2 rfl ?_ ?_ <;> clear h2
   ·intro b137 h2
    exact AW.skip (M21 true (Sh.some_eq h2).symm _ (Wk.to (L := [(1, (i64 p1)), (2, (i64 p2)), (3, (ls eI p3)), (4, (.ptr 0 0 0 0)), (11, (i64 0)), (18, (i64 p1)), (32, (.bool true))]) ⟨.rfl, .rfl, .rfl, .rfl, .rfl, .rfl, (.of (congrArg AV.bool b137)), trivial⟩))
   ·intro b137 h2
    refine zr tb rfl rfl ?_
    refine ci h2 rfl ?_ ?_ <;> clear h2
    ·intro b139 h2
     exact AW.skip (M21 true (Sh.some_eq h2).symm _ (Wk.to (L := [(1, (i64 p1)), (2, (i64 p2)), (3, (ls eI p3)), (4, (.ptr 0 0 0 0)), (11, (i64 0)), (18, (i64 p1)), (32, (.bool true))]) ⟨.rfl, .rfl, .rfl, .rfl, .rfl, .rfl, (.of (congrArg AV.bool b139)), trivial⟩))
    ·intro b139 h2
     exact AW.regionO rfl (zm tb 2 rfl (AO.done (M21 (decide (p1 = 4)) (Sh.some_eq h2).symm _ (Wk.tr rfl))))
end Go.Proofs.Ytpahalfiiahddaa

