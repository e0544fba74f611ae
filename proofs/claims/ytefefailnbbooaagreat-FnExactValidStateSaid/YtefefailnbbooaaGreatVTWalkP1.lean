import Derived.Test.YtefefailnbbooaaGreatProg
import Derived.Test.YtefefailnbbooaaGreatVSDefs
import Derived.Test.YtefefailnbbooaaGreatVTWalkP0
namespace Go.Proofs.YtefefailnbbooaaGreat
open Go Go.Abs RC
attribute [local irreducible] Go.Abs.dops
set_option maxRecDepth 100000
set_option maxHeartbeats 4000000

theorem ai127 : allInfo Tryz.prog 127 = true := by kernel_rfl
theorem ai96 : allInfo Tryz.prog 96 = true := by kernel_rfl
theorem bi127 : finfos Tryz.prog 127 = some [(0, 1), (1, 1), (2, 1)] := by kernel_rfl
theorem bi96 : finfos Tryz.prog 96 = some [(0, 1), (1, 1)] := by kernel_rfl
theorem ei151 : einfo Tryz.prog 151 = some ⟨4, 1, 1, [.bool false]⟩ := by kernel_rfl
theorem ei94 : einfo Tryz.prog 94 = some ⟨127, 3, 56, [.sl [], .sl [], .int .i64 0]⟩ := by kernel_rfl
theorem hb104 : hasBody Tryz.prog 104 = true := by kernel_rfl
theorem hb106 : hasBody Tryz.prog 106 = true := by kernel_rfl
theorem hb107 : hasBody Tryz.prog 107 = true := by kernel_rfl
theorem hb108 : hasBody Tryz.prog 108 = true := by kernel_rfl
theorem hb109 : hasBody Tryz.prog 109 = true := by kernel_rfl
theorem hb17 : hasBody Tryz.prog 17 = true := by kernel_rfl
theorem hb34 : hasBody Tryz.prog 34 = true := by kernel_rfl
theorem hb36 : hasBody Tryz.prog 36 = true := by kernel_rfl
theorem hb37 : hasBody Tryz.prog 37 = true := by kernel_rfl
theorem hb38 : hasBody Tryz.prog 38 = true := by kernel_rfl
theorem hb39 : hasBody Tryz.prog 39 = true := by kernel_rfl
theorem hb40 : hasBody Tryz.prog 40 = true := by kernel_rfl
theorem hb59 : hasBody Tryz.prog 59 = true := by kernel_rfl
theorem hb60 : hasBody Tryz.prog 60 = true := by kernel_rfl
theorem hb61 : hasBody Tryz.prog 61 = true := by kernel_rfl
theorem hb62 : hasBody Tryz.prog 62 = true := by kernel_rfl
theorem hb63 : hasBody Tryz.prog 63 = true := by kernel_rfl
theorem hb64 : hasBody Tryz.prog 64 = true := by kernel_rfl
theorem hb65 : hasBody Tryz.prog 65 = true := by kernel_rfl
theorem hb66 : hasBody Tryz.prog 66 = true := by kernel_rfl
theorem hb67 : hasBody Tryz.prog 67 = true := by kernel_rfl
theorem hb70 : hasBody Tryz.prog 70 = true := by kernel_rfl
theorem hb86 : hasBody Tryz.prog 86 = true := by kernel_rfl
theorem hb87 : hasBody Tryz.prog 87 = true := by kernel_rfl
theorem hb88 : hasBody Tryz.prog 88 = true := by kernel_rfl
theorem hb89 : hasBody Tryz.prog 89 = true := by kernel_rfl
theorem hb90 : hasBody Tryz.prog 90 = true := by kernel_rfl
theorem hb91 : hasBody Tryz.prog 91 = true := by kernel_rfl
theorem hb94 : hasBody Tryz.prog 94 = true := by kernel_rfl
theorem hb95 : hasBody Tryz.prog 95 = true := by kernel_rfl
theorem hb96 : hasBody Tryz.prog 96 = true := by kernel_rfl
theorem sl39 : isSliceT Tryz.prog 39 = true := by kernel_rfl
theorem sl40 : isSliceT Tryz.prog 40 = true := by kernel_rfl
theorem sl82 : isSliceT Tryz.prog 82 = true := by kernel_rfl
theorem sl86 : isSliceT Tryz.prog 86 = true := by kernel_rfl
theorem sl94 : isSliceT Tryz.prog 94 = true := by kernel_rfl
theorem ti127 : tinfo Tryz.prog 127 = some (true, 3) := by kernel_rfl
theorem ti4 : tinfo Tryz.prog 4 = some (false, 1) := by kernel_rfl
theorem ti94 : tinfo Tryz.prog 94 = some (false, 1) := by kernel_rfl
theorem ti96 : tinfo Tryz.prog 96 = some (true, 2) := by kernel_rfl
theorem zi127 : zinfo Tryz.prog 127 = some [.zc, .zc, .int .i64 0] := by kernel_rfl
theorem zi96 : zinfo Tryz.prog 96 = some [.zc, .zc] := by kernel_rfl

theorem spec_validInstr_ok {N : Nat} {p0 : RImage} {p1 : RProc} {p2 : Int} {r : Bool} (h0 : spec_validInstr N p0 p1 p2 = some r) : ACalls Tryz.prog 87 [(.agg (eRImage p0)), (.agg (eRProc p1)), (i64 p2)] [] (fun v st => v = (.bool r) ∧ st = []) := by
 unfold spec_validInstr at h0
 refine ACalls.intro Tryz.func87 rfl (by show 3 ≤ 234; decide) ?_
 show AW _ 0 _ (aret _ 0 Tryz.f87 _) ⟨234, _, _⟩
 refine AW.weaken (Wk.to (L := [(0, (.agg (eRImage p0))), (1, (.agg (eRProc p1))), (2, (i64 p2))]) ⟨.rfl, .rfl, .rfl, trivial⟩) ?_
 refine sr rfl fun K1 hK1 => ?_
 refine ao_box (m := 0) (st' := [⟨0, 37, 2, [(eRImage p0)]⟩]) go0 rfl rfl rfl rfl rfl ?_
 refine ao_box (m := 1) (st' := [⟨0, 37, 2, [(eRImage p0)]⟩, ⟨0, 88, 5, [(eRProc p1)]⟩]) go0 rfl rfl rfl rfl rfl ?_
 refine zq tb rfl ?_
 refine dn hK1 rfl ?_
 refine sr rfl fun K2 hK2 => ?_
 iterate 3 refine zq tb rfl ?_
 obtain ⟨c3, gc3, h0⟩ := Sh.bind_some h0
 refine zx ei86 gc3 rfl rfl rfl ?_
 refine zq tb rfl ?_
 refine ao_alloc (m := 2) (st' := [⟨0, 37, 2, [(eRImage p0)]⟩, ⟨0, 88, 5, [(eRProc p1)]⟩, ⟨0, 100, 6, [[(i64 0), (i64 0), (i64 0), (i64 0), .zc, .zc]]⟩]) go0 zi100 rfl rfl ?_
 refine ao_str (st' := [⟨0, 37, 2, [(eRImage p0)]⟩, ⟨0, 88, 5, [(eRProc p1)]⟩, ⟨0, 100, 6, [(eRInstr c3)]⟩]) go0 ti100 rfl rfl rfl rfl rfl rfl (show 0 + 6 ≤ 6 by decide) rfl ?_
 refine dn hK2 rfl ?_
 refine sr rfl fun K4 hK4 => ?_
 iterate 2 refine zq tb rfl ?_
 refine zl tb rfl rfl ?_
 refine zq tb rfl ?_
 refine dn hK4 rfl ?_
 refine AW.seq fun K5 hK5 => ?_
 refine sr rfl fun K6 hK6 => ?_
 refine zq tb rfl ?_
 refine dn hK6 rfl ?_
 obtain ⟨o8, h1, h0⟩ := Sh.cont_some h0
 have M8 : ∀ (_ : Unit), o8 = Sum.inr () → ∀ s, Wk 0 s ⟨234, envL [(2, (i64 p2)), (3, (.ptr 0 0 0 0)), (4, (.ptr 1 0 0 0)), (7, (.ptr 2 0 0 0)), (8, (i64 (Sh.len c3.args)))], [⟨0, 37, 2, [(eRImage p0)]⟩, ⟨0, 88, 5, [(eRProc p1)]⟩, ⟨0, 100, 6, [(eRInstr c3)]⟩]⟩ → K5 s := by
  intro _ hq s hw
  subst o8
  try dsimp only at h0
  refine hK5 _ (AW.weaken hw ?_)
  refine AW.seq fun K9 hK9 => ?_
  refine AW.seq fun K10 hK10 => ?_
  obtain ⟨o12, h1, h0⟩ := Sh.bind_some h0
  have M12 : ∀ (t11 : Bool), o12 = t11 → ∀ s, Wk 0 s ⟨234, envL [(2, (i64 p2)), (3, (.ptr 0 0 0 0)), (4, (.ptr 1 0 0 0)), (7, (.ptr 2 0 0 0)), (8, (i64 (Sh.len c3.args))), (72, (.bool t11))], [⟨0, 37, 2, [(eRImage p0)]⟩, ⟨0, 88, 5, [(eRProc p1)]⟩, ⟨0, 100, 6, [(eRInstr c3)]⟩]⟩ → K10 s := by
   intro t11 hq s hw
   subst o12
   try dsimp only at h0
   refine hK10 _ (AW.weaken hw ?_)
   refine ci h0 rfl ?_ ?_ <;> clear h0
   ·intro b13 h0
    refine sr rfl fun K14 hK14 => ?_
    refine zq tb rfl ?_
    refine dn hK14 rfl ?_
    replace h0 := Sh.some_eq h0
    subst r
    exact AW.ret (xr (Wk.d0 [(6, (.bool false))] rfl))
   ·intro b13 h0
    refine AW.skip (hK9 _ ?_)
    refine AW.seq fun K15 hK15 => ?_
    refine sr rfl fun K16 hK16 => ?_
    iterate 2 refine zq tb rfl ?_
    refine dn hK16 rfl ?_
    refine AW.block ?_
    refine sr rfl fun K17 hK17 => ?_
    iterate 2 refine zq tb rfl ?_
    refine dn hK17 rfl ?_
    refine ci h0 rfl ?_ ?_ <;> clear h0
    ·intro b18 h0
     refine AW.seq fun K19 hK19 => ?_
     obtain ⟨o21, h1, h0⟩ := Sh.bind_some h0
     have M21 : ∀ (t20 : Bool), o21 = t20 → ∀ s, Wk 0 s ⟨234, envL [(6, (.bool t20))], []⟩ → K19 s := by
      intro t20 hq s hw
      subst o21
      try dsimp only at h0
      refine hK19 _ (AW.weaken hw ?_)
      replace h0 := Sh.some_eq h0
      subst r
      exact AW.ret (xr (Wk.to (L := [(6, (.bool t20))]) ⟨.rfl, trivial⟩))
     refine AW.regionO (by rfl) ?_
     iterate 3 refine zq tb rfl ?_
     rcases Sh.ite_some h1 with ⟨b22, h1⟩ | ⟨b22, h1⟩
     ·refine zg tb b22 rfl ?_
      refine zg tb b22 rfl ?_
      obtain ⟨q23, gq23, h1⟩ := Sh.bind_some h1
      refine zd b22 hb35 (spec_inRange_ok gq23) rfl rfl rfl rfl ?_
      refine zt b22 rfl ?_
      refine zq tb rfl ?_
      exact AO.done (M21 q23 (Sh.some_eq h1).symm _ (Wk.d0 _ rfl))
     ·refine zs b22 rfl ?_
      iterate 2 refine zs b22 rfl ?_
      refine zf b22 rfl ?_
      refine zq tb rfl ?_
      exact AO.done (M21 false (Sh.some_eq h1).symm _ (Wk.d0 _ rfl))
    ·intro b18 h0
     refine AW.seq fun K24 hK24 => ?_
     obtain ⟨o26, h1, h0⟩ := Sh.bind_some h0
     have M26 : ∀ (t25 : Bool), o26 = t25 → ∀ s, Wk 0 s ⟨234, envL [(2, (i64 p2)), (3, (.ptr 0 0 0 0)), (4, (.ptr 1 0 0 0)), (7, (.ptr 2 0 0 0)), (8, (i64 (Sh.len c3.args))), (74, (i64 c3.op)), (84, (.bool t25))], [⟨0, 37, 2, [(eRImage p0)]⟩, ⟨0, 88, 5, [(eRProc p1)]⟩, ⟨0, 100, 6, [(eRInstr c3)]⟩]⟩ → K24 s := by
      intro t25 hq s hw
      subst o26
      try dsimp only at h0
      refine hK24 _ (AW.weaken hw ?_)
      refine ci h0 rfl ?_ ?_ <;> clear h0
      ·intro b27 h0
       refine AW.seq fun K28 hK28 => ?_
       obtain ⟨o30, h1, h0⟩ := Sh.bind_some h0
       have M30 : ∀ (t29 : Bool), o30 = t29 → ∀ s, Wk 0 s ⟨234, envL [(6, (.bool t29))], []⟩ → K28 s := by
        intro t29 hq s hw
        subst o30
        try dsimp only at h0
        refine hK28 _ (AW.weaken hw ?_)
        replace h0 := Sh.some_eq h0
        subst r
        exact AW.ret (xr (Wk.to (L := [(6, (.bool t29))]) ⟨.rfl, trivial⟩))
       refine AW.regionO (by rfl) ?_
       iterate 3 refine zq tb rfl ?_
       rcases Sh.ite_some h1 with ⟨b31, h1⟩ | ⟨b31, h1⟩
       ·refine zg tb b31 rfl ?_
        iterate 2 refine zg tb b31 rfl ?_
        refine zt b31 rfl ?_
        refine zq tb rfl ?_
        exact AO.done (M30 (decide (c3.num = 0)) (Sh.some_eq h1).symm _ (Wk.d0 _ rfl))
       ·refine zs b31 rfl ?_
        iterate 2 refine zs b31 rfl ?_
        refine zf b31 rfl ?_
        refine zq tb rfl ?_
        exact AO.done (M30 false (Sh.some_eq h1).symm _ (Wk.d0 _ rfl))
      ·intro b27 h0
       refine AW.seq fun K32 hK32 => ?_
       obtain ⟨o34, h1, h0⟩ := Sh.bind_some h0
       have M34 : ∀ (t33 : Bool), o34 = t33 → ∀ s, Wk 0 s ⟨234, envL [(2, (i64 p2)), (3, (.ptr 0 0 0 0)), (4, (.ptr 1 0 0 0)), (7, (.ptr 2 0 0 0)), (8, (i64 (Sh.len c3.args))), (74, (i64 c3.op)), (97, (.bool t33))], [⟨0, 37, 2, [(eRImage p0)]⟩, ⟨0, 88, 5, [(eRProc p1)]⟩, ⟨0, 100, 6, [(eRInstr c3)]⟩]⟩ → K32 s := by
        intro t33 hq s hw
        subst o34
        try dsimp only at h0
        refine hK32 _ (AW.weaken hw ?_)
        refine ci h0 rfl ?_ ?_ <;> clear h0
        ·intro b35 h0
         refine AW.seq fun K36 hK36 => ?_
         obtain ⟨o38, h1, h0⟩ := Sh.bind_some h0
         have M38 : ∀ (t37 : Bool), o38 = t37 → ∀ s, Wk 0 s ⟨234, envL [(6, (.bool t37))], []⟩ → K36 s := by
          intro t37 hq s hw
          subst o38
          try dsimp only at h0
          refine hK36 _ (AW.weaken hw ?_)
          replace h0 := Sh.some_eq h0
          subst r
          exact AW.ret (xr (Wk.to (L := [(6, (.bool t37))]) ⟨.rfl, trivial⟩))
         refine AW.regionO (by rfl) ?_
         iterate 3 refine zq tb rfl ?_
         rcases Sh.ite_some h1 with ⟨b39, h1⟩ | ⟨b39, h1⟩
         ·refine zg tb b39 rfl ?_
          iterate 2 refine zg tb b39 rfl ?_
          refine zt b39 rfl ?_
          refine zq tb rfl ?_
          exact AO.done (M38 (decide (c3.num = 0)) (Sh.some_eq h1).symm _ (Wk.d0 _ rfl))
         ·refine zs b39 rfl ?_
          iterate 2 refine zs b39 rfl ?_
          refine zf b39 rfl ?_
          refine zq tb rfl ?_
          exact AO.done (M38 false (Sh.some_eq h1).symm _ (Wk.d0 _ rfl))
        ·intro b35 h0
         refine sr rfl fun K40 hK40 => ?_
         iterate 2 refine zq tb rfl ?_
         refine dn hK40 rfl ?_
         refine ci h0 rfl ?_ ?_ <;> clear h0
         ·intro b41 h0
          refine AW.seq fun K42 hK42 => ?_
          obtain ⟨o44, h1, h0⟩ := Sh.bind_some h0
          have M44 : ∀ (t43 : Bool), o44 = t43 → ∀ s, Wk 0 s ⟨234, envL [(6, (.bool t43))], []⟩ → K42 s := by
           intro t43 hq s hw
           subst o44
           try dsimp only at h0
           refine hK42 _ (AW.weaken hw ?_)
           replace h0 := Sh.some_eq h0
           subst r
           exact AW.ret (xr (Wk.to (L := [(6, (.bool t43))]) ⟨.rfl, trivial⟩))
          refine AW.regionO (by rfl) ?_
          iterate 4 refine zq tb rfl ?_
          obtain ⟨q45, gq45, h1⟩ := Sh.bind_some h1
          refine zc hb105 (spec_conType_ok gq45) rfl rfl rfl ?_
          iterate 2 refine zq tb rfl ?_
          rcases Sh.ite_some h1 with ⟨b46, h1⟩ | ⟨b46, h1⟩
          ·refine zg tb b46 rfl ?_
           iterate 4 refine zg tb b46 rfl ?_
           obtain ⟨q47, gq47, h1⟩ := Sh.bind_some h1
           refine zd b46 hb106 (spec_conFields_ok gq47) rfl rfl rfl rfl ?_
           refine ao_q (v := (i64 (Sh.len q47))) (go1 rfl rfl b46) rfl (aq_lens sl26 rfl) ?_
           refine zg tb b46 rfl ?_
           refine zt b46 rfl ?_
           refine zq tb rfl ?_
           rcases Sh.ite_some h1 with ⟨b48, h1⟩ | ⟨b48, h1⟩
           ·refine zg tb b48 rfl ?_
            iterate 3 refine zg tb b48 rfl ?_
            obtain ⟨q49, gq49, h1⟩ := Sh.bind_some h1
            refine zd b48 hb35 (spec_inRange_ok gq49) rfl rfl rfl rfl ?_
            refine zt b48 rfl ?_
            refine zq tb rfl ?_
            exact AO.done (M44 q49 (Sh.some_eq h1).symm _ (Wk.d0 _ rfl))
           ·refine zs b48 rfl ?_
            iterate 4 refine zs b48 rfl ?_
            refine zf b48 rfl ?_
            refine zq tb rfl ?_
            exact AO.done (M44 false (Sh.some_eq h1).symm _ (Wk.d0 _ rfl))
          ·refine zs b46 rfl ?_
           iterate 7 refine zs b46 rfl ?_
           refine zf b46 rfl ?_
           refine zq tb rfl ?_
           iterate 5 refine zs rfl rfl ?_
           refine zf rfl rfl ?_
           refine zq tb rfl ?_
           exact AO.done (M44 false (Sh.some_eq h1).symm _ (Wk.d0 _ rfl))
         ·intro b41 h0
          refine AW.seq fun K50 hK50 => ?_
          obtain ⟨o52, h1, h0⟩ := Sh.bind_some h0
          have M52 : ∀ (t51 : Bool), o52 = t51 → ∀ s, Wk 0 s ⟨234, envL [(2, (i64 p2)), (3, (.ptr 0 0 0 0)), (4, (.ptr 1 0 0 0)), (7, (.ptr 2 0 0 0)), (8, (i64 (Sh.len c3.args))), (74, (i64 c3.op)), (135, (.bool t51))], [⟨0, 37, 2, [(eRImage p0)]⟩, ⟨0, 88, 5, [(eRProc p1)]⟩, ⟨0, 100, 6, [(eRInstr c3)]⟩]⟩ → K50 s := by
           intro t51 hq s hw
           subst o52
           try dsimp only at h0
           refine hK50 _ (AW.weaken hw ?_)
           refine ci h0 rfl ?_ ?_ <;> clear h0
           ·intro b53 h0
            refine sr rfl fun K54 hK54 => ?_
            iterate 4 refine zq tb rfl ?_
            obtain ⟨q55, gq55, h0⟩ := Sh.bind_some h0
            refine zc hb107 (spec_procWith_ok gq55) rfl rfl rfl ?_
            refine zq tb rfl ?_
            refine dn hK54 rfl ?_
            replace h0 := Sh.some_eq h0
            subst r
            exact AW.ret (xr (Wk.d0 [(6, (.bool q55))] rfl))
           ·intro b53 h0
            refine sr rfl fun K56 hK56 => ?_
            iterate 2 refine zq tb rfl ?_
            refine dn hK56 rfl ?_
            refine ci h0 rfl ?_ ?_ <;> clear h0
            ·intro b57 h0
             refine AW.seq fun K58 hK58 => ?_
             obtain ⟨o60, h1, h0⟩ := Sh.bind_some h0
             have M60 : ∀ (t59 : Bool), o60 = t59 → ∀ s, Wk 0 s ⟨234, envL [(6, (.bool t59))], []⟩ → K58 s := by
              intro t59 hq s hw
              subst o60
              try dsimp only at h0
              refine hK58 _ (AW.weaken hw ?_)
              replace h0 := Sh.some_eq h0
              subst r
              exact AW.ret (xr (Wk.to (L := [(6, (.bool t59))]) ⟨.rfl, trivial⟩))
             refine AW.regionO (by rfl) ?_
             iterate 4 refine zq tb rfl ?_
             obtain ⟨q61, gq61, h1⟩ := Sh.bind_some h1
             refine zc hb107 (spec_procWith_ok gq61) rfl rfl rfl ?_
             refine zq tb rfl ?_
             rcases Sh.ite_some h1 with ⟨b62, h1⟩ | ⟨b62, h1⟩
             ·refine zg tb b62 rfl ?_
              iterate 3 refine zg tb b62 rfl ?_
              obtain ⟨c63, gc63, h1⟩ := Sh.bind_some h1
              refine ao_q (v := (.iptr (eRProc c63) 0)) (go1 rfl rfl b62) rfl (aq_ixs ei35 rfl rfl gc63 rfl) ?_
              iterate 2 refine zg tb b62 rfl ?_
              refine ao_q (v := (i64 (Sh.len c63.lent))) (go1 rfl rfl b62) rfl (aq_lens sl26 rfl) ?_
              refine zg tb b62 rfl ?_
              refine zt b62 rfl ?_
              refine zq tb rfl ?_
              exact AO.done (M60 (decide ((Sh.len c63.lent) = 0)) (Sh.some_eq h1).symm _ (Wk.d0 _ rfl))
             ·refine zs b62 rfl ?_
              iterate 8 refine zs b62 rfl ?_
              refine zf b62 rfl ?_
              refine zq tb rfl ?_
              exact AO.done (M60 false (Sh.some_eq h1).symm _ (Wk.d0 _ rfl))
            ·intro b57 h0
             refine AW.seq fun K64 hK64 => ?_
             obtain ⟨o66, h1, h0⟩ := Sh.bind_some h0
             have M66 : ∀ (t65 : Bool), o66 = t65 → ∀ s, Wk 0 s ⟨234, envL [(2, (i64 p2)), (3, (.ptr 0 0 0 0)), (4, (.ptr 1 0 0 0)), (7, (.ptr 2 0 0 0)), (8, (i64 (Sh.len c3.args))), (74, (i64 c3.op)), (161, (.bool t65))], [⟨0, 37, 2, [(eRImage p0)]⟩, ⟨0, 88, 5, [(eRProc p1)]⟩, ⟨0, 100, 6, [(eRInstr c3)]⟩]⟩ → K64 s := by
              intro t65 hq s hw
              subst o66
              try dsimp only at h0
              refine hK64 _ (AW.weaken hw ?_)
              refine ci h0 rfl ?_ ?_ <;> clear h0
              ·intro b67 h0
               refine AW.seq fun K68 hK68 => ?_
               obtain ⟨o70, h1, h0⟩ := Sh.bind_some h0
               have M70 : ∀ (t69 : Bool), o70 = t69 → ∀ s, Wk 0 s ⟨234, envL [(6, (.bool t69))], []⟩ → K68 s := by
                intro t69 hq s hw
                subst o70
                try dsimp only at h0
                refine hK68 _ (AW.weaken hw ?_)
                replace h0 := Sh.some_eq h0
                subst r
                exact AW.ret (xr (Wk.to (L := [(6, (.bool t69))]) ⟨.rfl, trivial⟩))
               refine AW.regionO (by rfl) ?_
               refine zq tb rfl ?_
               obtain ⟨q71, gq71, h1⟩ := Sh.bind_some h1
               refine zc hb35 (spec_inRange_ok gq71) rfl rfl rfl ?_
               refine zq tb rfl ?_
               rcases Sh.ite_some h1 with ⟨b72, h1⟩ | ⟨b72, h1⟩
               ·refine zg tb b72 rfl ?_
                iterate 2 refine zg tb b72 rfl ?_
                refine zt b72 rfl ?_
                refine zq tb rfl ?_
                exact AO.done (M70 (decide (c3.num = 0)) (Sh.some_eq h1).symm _ (Wk.d0 _ rfl))
               ·refine zs b72 rfl ?_
                iterate 2 refine zs b72 rfl ?_
                refine zf b72 rfl ?_
                refine zq tb rfl ?_
                exact AO.done (M70 false (Sh.some_eq h1).symm _ (Wk.d0 _ rfl))
              ·intro b67 h0
               refine sr rfl fun K73 hK73 => ?_
               iterate 2 refine zq tb rfl ?_
               refine dn hK73 rfl ?_
               refine ci h0 rfl ?_ ?_ <;> clear h0
               ·intro b74 h0
                refine AW.seq fun K75 hK75 => ?_
                obtain ⟨o77, h1, h0⟩ := Sh.bind_some h0
                have M77 : ∀ (t76 : Bool), o77 = t76 → ∀ s, Wk 0 s ⟨234, envL [(6, (.bool t76))], []⟩ → K75 s := by
                 intro t76 hq s hw
                 subst o77
                 try dsimp only at h0
                 refine hK75 _ (AW.weaken hw ?_)
                 replace h0 := Sh.some_eq h0
                 subst r
                 exact AW.ret (xr (Wk.to (L := [(6, (.bool t76))]) ⟨.rfl, trivial⟩))
                refine AW.regionO (by rfl) ?_
                iterate 3 refine zq tb rfl ?_
                rcases Sh.ite_some h1 with ⟨b78, h1⟩ | ⟨b78, h1⟩
                ·refine zg tb b78 rfl ?_
                 refine zg tb b78 rfl ?_
                 obtain ⟨q79, gq79, h1⟩ := Sh.bind_some h1
                 refine zd b78 hb35 (spec_inRange_ok gq79) rfl rfl rfl rfl ?_
                 refine zt b78 rfl ?_
                 refine zq tb rfl ?_
                 exact AO.done (M77 q79 (Sh.some_eq h1).symm _ (Wk.d0 _ rfl))
                ·refine zs b78 rfl ?_
                 iterate 2 refine zs b78 rfl ?_
                 refine zf b78 rfl ?_
                 refine zq tb rfl ?_
                 exact AO.done (M77 false (Sh.some_eq h1).symm _ (Wk.d0 _ rfl))
               ·intro b74 h0
                refine sr rfl fun K80 hK80 => ?_
                iterate 2 refine zq tb rfl ?_
                refine dn hK80 rfl ?_
                refine ci h0 rfl ?_ ?_ <;> clear h0
                ·intro b81 h0
                 refine AW.seq fun K82 hK82 => ?_
                 obtain ⟨o84, h1, h0⟩ := Sh.bind_some h0
                 have M84 : ∀ (t83 : Bool), o84 = t83 → ∀ s, Wk 0 s ⟨234, envL [(6, (.bool t83))], []⟩ → K82 s := by
                  intro t83 hq s hw
                  subst o84
                  try dsimp only at h0
                  refine hK82 _ (AW.weaken hw ?_)
                  replace h0 := Sh.some_eq h0
                  subst r
                  exact AW.ret (xr (Wk.to (L := [(6, (.bool t83))]) ⟨.rfl, trivial⟩))
                 refine AW.regionO (by rfl) ?_
                 iterate 3 refine zq tb rfl ?_
                 rcases Sh.ite_some h1 with ⟨b85, h1⟩ | ⟨b85, h1⟩
                 ·refine zg tb b85 rfl ?_
                  iterate 5 refine zg tb b85 rfl ?_
                  refine ao_q (v := (i64 (Sh.len p1.code))) (go1 rfl rfl b85) rfl (aq_lens sl86 rfl) ?_
                  refine zg tb b85 rfl ?_
                  obtain ⟨q86, gq86, h1⟩ := Sh.bind_some h1
                  refine zd b85 hb35 (spec_inRange_ok gq86) rfl rfl rfl rfl ?_
                  refine zt b85 rfl ?_
                  refine zq tb rfl ?_
                  exact AO.done (M84 q86 (Sh.some_eq h1).symm _ (Wk.d0 _ rfl))
                 ·refine zs b85 rfl ?_
                  iterate 8 refine zs b85 rfl ?_
                  refine zf b85 rfl ?_
                  refine zq tb rfl ?_
                  exact AO.done (M84 false (Sh.some_eq h1).symm _ (Wk.d0 _ rfl))
                ·intro b81 h0
                 refine sr rfl fun K87 hK87 => ?_
                 iterate 2 refine zq tb rfl ?_
                 refine dn hK87 rfl ?_
                 refine ci h0 rfl ?_ ?_ <;> clear h0
                 ·intro b88 h0
                  refine AW.seq fun K89 hK89 => ?_
                  obtain ⟨o91, h1, h0⟩ := Sh.bind_some h0
                  have M91 : ∀ (t90 : Bool), o91 = t90 → ∀ s, Wk 0 s ⟨234, envL [(6, (.bool t90))], []⟩ → K89 s := by
                   intro t90 hq s hw
                   subst o91
                   try dsimp only at h0
                   refine hK89 _ (AW.weaken hw ?_)
                   replace h0 := Sh.some_eq h0
                   subst r
                   exact AW.ret (xr (Wk.to (L := [(6, (.bool t90))]) ⟨.rfl, trivial⟩))
                  refine AW.regionO (by rfl) ?_
                  iterate 3 refine zq tb rfl ?_
                  rcases Sh.ite_some h1 with ⟨b92, h1⟩ | ⟨b92, h1⟩
                  ·refine zg tb b92 rfl ?_
                   iterate 5 refine zg tb b92 rfl ?_
                   refine ao_q (v := (i64 (Sh.len p1.code))) (go1 rfl rfl b92) rfl (aq_lens sl86 rfl) ?_
                   refine zg tb b92 rfl ?_
                   obtain ⟨q93, gq93, h1⟩ := Sh.bind_some h1
                   refine zd b92 hb35 (spec_inRange_ok gq93) rfl rfl rfl rfl ?_
                   refine zt b92 rfl ?_
                   refine zq tb rfl ?_
                   exact AO.done (M91 q93 (Sh.some_eq h1).symm _ (Wk.d0 _ rfl))
                  ·refine zs b92 rfl ?_
                   iterate 8 refine zs b92 rfl ?_
                   refine zf b92 rfl ?_
                   refine zq tb rfl ?_
                   exact AO.done (M91 false (Sh.some_eq h1).symm _ (Wk.d0 _ rfl))
                 ·intro b88 h0
                  refine sr rfl fun K94 hK94 => ?_
                  iterate 2 refine zq tb rfl ?_
                  refine dn hK94 rfl ?_
                  refine ci h0 rfl ?_ ?_ <;> clear h0
                  ·intro b95 h0
                   refine sr rfl fun K96 hK96 => ?_
                   iterate 4 refine zq tb rfl ?_
                   obtain ⟨q97, gq97, h0⟩ := Sh.bind_some h0
                   refine ao_call (v' := (.own 3 0 (List.length q97))) (st' := [⟨0, 37, 2, [(eRImage p0)]⟩, ⟨0, 88, 5, [(eRProc p1)]⟩, ⟨0, 100, 6, [(eRInstr c3)]⟩, ⟨0, 3, 1, List.map eI q97⟩]) go0 hb108 (spec_consOf_ok gq97) rfl rfl ⟨(pure_map' fun _ => rfl), trivial⟩ rfl rfl ?_
                   refine zz (i64 (Sh.len q97)) (aq_leno sl26 rfl rfl rfl) rfl ?_
                   refine zq tb rfl ?_
                   refine dn hK96 rfl ?_
                   refine AW.seq fun K98 hK98 => ?_
                   obtain ⟨o100, h1, h0⟩ := Sh.bind_some h0
                   have M100 : ∀ (t99 : Bool), o100 = t99 → ∀ s, Wk 0 s ⟨234, envL [(6, (.bool t99))], []⟩ → K98 s := by
                    intro t99 hq s hw
                    subst o100
                    try dsimp only at h0
                    refine hK98 _ (AW.weaken hw ?_)
                    replace h0 := Sh.some_eq h0
                    subst r
                    exact AW.ret (xr (Wk.to (L := [(6, (.bool t99))]) ⟨.rfl, trivial⟩))
                   refine AW.regionO (by rfl) ?_
                   iterate 3 refine zq tb rfl ?_
                   rcases Sh.ite_some h1 with ⟨b101, h1⟩ | ⟨b101, h1⟩
                   ·refine zg tb b101 rfl ?_
                    refine zg tb b101 rfl ?_
                    refine zt b101 rfl ?_
                    refine zq tb rfl ?_
                    rcases Sh.ite_some h1 with ⟨b102, h1⟩ | ⟨b102, h1⟩
                    ·refine zg tb b102 rfl ?_
                     iterate 5 refine zg tb b102 rfl ?_
                     refine ao_q (v := (i64 (Sh.len p1.code))) (go1 rfl rfl b102) rfl (aq_lens sl86 rfl) ?_
                     obtain ⟨q103, gq103, h1⟩ := Sh.bind_some h1
                     refine zd b102 hb109 (spec_validJumps_ok gq103) rfl rfl rfl rfl ?_
                     refine zt b102 rfl ?_
                     refine zq tb rfl ?_
                     exact AO.done (M100 q103 (Sh.some_eq h1).symm _ (Wk.d0 _ rfl))
                    ·refine zs b102 rfl ?_
                     iterate 7 refine zs b102 rfl ?_
                     refine zf b102 rfl ?_
                     refine zq tb rfl ?_
                     exact AO.done (M100 false (Sh.some_eq h1).symm _ (Wk.d0 _ rfl))
                   ·refine zs b101 rfl ?_
                    refine zs b101 rfl ?_
                    refine zf b101 rfl ?_
                    refine zq tb rfl ?_
                    iterate 8 refine zs rfl rfl ?_
                    refine zf rfl rfl ?_
                    refine zq tb rfl ?_
                    exact AO.done (M100 false (Sh.some_eq h1).symm _ (Wk.d0 _ rfl))
                  ·intro b95 h0
                   refine AW.skip (hK15 _ ?_)
                   refine sr rfl fun K104 hK104 => ?_
                   refine zq tb rfl ?_
                   refine dn hK104 rfl ?_
                   replace h0 := Sh.some_eq h0
                   subst r
                   exact AW.ret (xr (Wk.d0 [(6, (.bool false))] rfl))
             refine sr rfl fun K105 hK105 => ?_
             iterate 2 refine zq tb rfl ?_
             refine dn hK105 rfl ?_
             refine ci h1 rfl ?_ ?_ <;> clear h1
             ·intro b106 h1
              exact AW.skip (M66 true (Sh.some_eq h1).symm _ (Wk.to (L := [(2, (i64 p2)), (3, (.ptr 0 0 0 0)), (4, (.ptr 1 0 0 0)), (7, (.ptr 2 0 0 0)), (8, (i64 (Sh.len c3.args))), (74, (i64 c3.op)), (161, (.bool true))]) ⟨.rfl, .rfl, .rfl, .rfl, .rfl, .rfl, (.of (congrArg AV.bool b106)), trivial⟩))
             ·intro b106 h1
              refine AW.regionO (by rfl) ?_
              iterate 2 refine zq tb rfl ?_
              exact AO.done (M66 (decide (c3.op = 17)) (Sh.some_eq h1).symm _ (Wk.tr rfl))
          refine sr rfl fun K107 hK107 => ?_
          iterate 2 refine zq tb rfl ?_
          refine dn hK107 rfl ?_
          refine ci h1 rfl ?_ ?_ <;> clear h1
          ·intro b108 h1
           exact AW.skip (M52 true (Sh.some_eq h1).symm _ (Wk.to (L := [(2, (i64 p2)), (3, (.ptr 0 0 0 0)), (4, (.ptr 1 0 0 0)), (7, (.ptr 2 0 0 0)), (8, (i64 (Sh.len c3.args))), (74, (i64 c3.op)), (135, (.bool true))]) ⟨.rfl, .rfl, .rfl, .rfl, .rfl, .rfl, (.of (congrArg AV.bool b108)), trivial⟩))
          ·intro b108 h1
           refine AW.regionO (by rfl) ?_
           iterate 2 refine zq tb rfl ?_
           exact AO.done (M52 (decide (c3.op = 24)) (Sh.some_eq h1).symm _ (Wk.tr rfl))
       refine sr rfl fun K109 hK109 => ?_
       iterate 2 refine zq tb rfl ?_
       refine dn hK109 rfl ?_
       refine ci h1 rfl ?_ ?_ <;> clear h1
       ·intro b110 h1
        exact AW.skip (M34 true (Sh.some_eq h1).symm _ (Wk.to (L := [(2, (i64 p2)), (3, (.ptr 0 0 0 0)), (4, (.ptr 1 0 0 0)), (7, (.ptr 2 0 0 0)), (8, (i64 (Sh.len c3.args))), (74, (i64 c3.op)), (97, (.bool true))]) ⟨.rfl, .rfl, .rfl, .rfl, .rfl, .rfl, (.of (congrArg AV.bool b110)), trivial⟩))
       ·intro b110 h1
        refine sr rfl fun K111 hK111 => ?_
        iterate 2 refine zq tb rfl ?_
        refine dn hK111 rfl ?_
        refine ci h1 rfl ?_ ?_ <;> clear h1
        ·intro b112 h1
         exact AW.skip (M34 true (Sh.some_eq h1).symm _ (Wk.to (L := [(2, (i64 p2)), (3, (.ptr 0 0 0 0)), (4, (.ptr 1 0 0 0)), (7, (.ptr 2 0 0 0)), (8, (i64 (Sh.len c3.args))), (74, (i64 c3.op)), (97, (.bool true))]) ⟨.rfl, .rfl, .rfl, .rfl, .rfl, .rfl, (.of (congrArg AV.bool b112)), trivial⟩))
        ·intro b112 h1
         refine sr rfl fun K113 hK113 => ?_
         iterate 2 refine zq tb rfl ?_
         refine dn hK113 rfl ?_
         refine ci h1 rfl ?_ ?_ <;> clear h1
         ·intro b114 h1
          exact AW.skip (M34 true (Sh.some_eq h1).symm _ (Wk.to (L := [(2, (i64 p2)), (3, (.ptr 0 0 0 0)), (4, (.ptr 1 0 0 0)), (7, (.ptr 2 0 0 0)), (8, (i64 (Sh.len c3.args))), (74, (i64 c3.op)), (97, (.bool true))]) ⟨.rfl, .rfl, .rfl, .rfl, .rfl, .rfl, (.of (congrArg AV.bool b114)), trivial⟩))
         ·intro b114 h1
          refine sr rfl fun K115 hK115 => ?_
          iterate 2 refine zq tb rfl ?_
          refine dn hK115 rfl ?_
          refine ci h1 rfl ?_ ?_ <;> clear h1
          ·intro b116 h1
           exact AW.skip (M34 true (Sh.some_eq h1).symm _ (Wk.to (L := [(2, (i64 p2)), (3, (.ptr 0 0 0 0)), (4, (.ptr 1 0 0 0)), (7, (.ptr 2 0 0 0)), (8, (i64 (Sh.len c3.args))), (74, (i64 c3.op)), (97, (.bool true))]) ⟨.rfl, .rfl, .rfl, .rfl, .rfl, .rfl, (.of (congrArg AV.bool b116)), trivial⟩))
          ·intro b116 h1
           refine AW.regionO (by rfl) ?_
           iterate 2 refine zq tb rfl ?_
           exact AO.done (M34 (decide (c3.op = 23)) (Sh.some_eq h1).symm _ (Wk.tr rfl))
     refine sr rfl fun K117 hK117 => ?_
     iterate 2 refine zq tb rfl ?_
     refine dn hK117 rfl ?_
     refine ci h1 rfl ?_ ?_ <;> clear h1
     ·intro b118 h1
      exact AW.skip (M26 true (Sh.some_eq h1).symm _ (Wk.to (L := [(2, (i64 p2)), (3, (.ptr 0 0 0 0)), (4, (.ptr 1 0 0 0)), (7, (.ptr 2 0 0 0)), (8, (i64 (Sh.len c3.args))), (74, (i64 c3.op)), (84, (.bool true))]) ⟨.rfl, .rfl, .rfl, .rfl, .rfl, .rfl, (.of (congrArg AV.bool b118)), trivial⟩))
     ·intro b118 h1
      refine sr rfl fun K119 hK119 => ?_
      iterate 2 refine zq tb rfl ?_
      refine dn hK119 rfl ?_
      refine ci h1 rfl ?_ ?_ <;> clear h1
      ·intro b120 h1
       exact AW.skip (M26 true (Sh.some_eq h1).symm _ (Wk.to (L := [(2, (i64 p2)), (3, (.ptr 0 0 0 0)), (4, (.ptr 1 0 0 0)), (7, (.ptr 2 0 0 0)), (8, (i64 (Sh.len c3.args))), (74, (i64 c3.op)), (84, (.bool true))]) ⟨.rfl, .rfl, .rfl, .rfl, .rfl, .rfl, (.of (congrArg AV.bool b120)), trivial⟩))
      ·intro b120 h1
       refine sr rfl fun K121 hK121 => ?_
       iterate 2 refine zq tb rfl ?_
       refine dn hK121 rfl ?_
       refine ci h1 rfl ?_ ?_ <;> clear h1
       ·intro b122 h1
        exact AW.skip (M26 true (Sh.some_eq h1).symm _ (Wk.to (L := [(2, (i64 p2)), (3, (.ptr 0 0 0 0)), (4, (.ptr 1 0 0 0)), (7, (.ptr 2 0 0 0)), (8, (i64 (Sh.len c3.args))), (74, (i64 c3.op)), (84, (.bool true))]) ⟨.rfl, .rfl, .rfl, .rfl, .rfl, .rfl, (.of (congrArg AV.bool b122)), trivial⟩))
       ·intro b122 h1
        refine sr rfl fun K123 hK123 => ?_
        iterate 2 refine zq tb rfl ?_
        refine dn hK123 rfl ?_
        refine ci h1 rfl ?_ ?_ <;> clear h1
        ·intro b124 h1
         exact AW.skip (M26 true (Sh.some_eq h1).symm _ (Wk.to (L := [(2, (i64 p2)), (3, (.ptr 0 0 0 0)), (4, (.ptr 1 0 0 0)), (7, (.ptr 2 0 0 0)), (8, (i64 (Sh.len c3.args))), (74, (i64 c3.op)), (84, (.bool true))]) ⟨.rfl, .rfl, .rfl, .rfl, .rfl, .rfl, (.of (congrArg AV.bool b124)), trivial⟩))
        ·intro b124 h1
         refine AW.regionO (by rfl) ?_
         iterate 2 refine zq tb rfl ?_
         exact AO.done (M26 (decide (c3.op = 11)) (Sh.some_eq h1).symm _ (Wk.tr rfl))
  refine AW.regionO (by rfl) ?_
  iterate 5 refine zq tb rfl ?_
  obtain ⟨q125, gq125, h1⟩ := Sh.bind_some h1
  refine zc hb35 (spec_inRange_ok gq125) rfl rfl rfl ?_
  iterate 2 refine zq tb rfl ?_
  rcases Sh.ite_some h1 with ⟨b126, h1⟩ | ⟨b126, h1⟩
  ·refine zs b126 rfl ?_
   iterate 3 refine zs b126 rfl ?_
   iterate 4 refine zn rfl ?_
   refine zs b126 rfl ?_
   refine zt b126 rfl ?_
   refine zq tb rfl ?_
   iterate 4 refine zs rfl rfl ?_
   iterate 3 refine zn rfl ?_
   refine zs rfl rfl ?_
   refine zt rfl rfl ?_
   refine zq tb rfl ?_
   iterate 4 refine zs rfl rfl ?_
   iterate 4 refine zn rfl ?_
   refine zs rfl rfl ?_
   refine zt rfl rfl ?_
   exact AO.done (M12 true (Sh.some_eq h1).symm _ (Wk.tr rfl))
  ·refine zg tb b126 rfl ?_
   iterate 3 refine zg tb b126 rfl ?_
   rcases Sh.ite_some h1 with ⟨b127, h1⟩ | ⟨b127, h1⟩
   ·refine zg tb b127 rfl ?_
    refine zg tb b127 rfl ?_
    obtain ⟨q128, gq128, h1⟩ := Sh.bind_some h1
    refine zd b127 hb104 (spec_sets_ok gq128) rfl rfl rfl rfl ?_
    refine zg tb b127 rfl ?_
    refine ao_q (v := (.bool (!q128))) (go1 rfl rfl b126) rfl (aq_pkt rfl b127 rfl) ?_
    refine zf b126 rfl ?_
    refine zq tb rfl ?_
    rcases Sh.ite_some h1 with ⟨b129, h1⟩ | ⟨b129, h1⟩
    ·refine zs b129 rfl ?_
     iterate 3 refine zs b129 rfl ?_
     iterate 3 refine zn rfl ?_
     refine zs b129 rfl ?_
     refine zt b129 rfl ?_
     refine zq tb rfl ?_
     iterate 4 refine zs rfl rfl ?_
     iterate 4 refine zn rfl ?_
     refine zs rfl rfl ?_
     refine zt rfl rfl ?_
     exact AO.done (M12 true (Sh.some_eq h1).symm _ (Wk.tr rfl))
    ·refine zg tb b129 rfl ?_
     iterate 3 refine zg tb b129 rfl ?_
     rcases Sh.ite_some h1 with ⟨b130, h1⟩ | ⟨b130, h1⟩
     ·refine zg tb b130 rfl ?_
      iterate 2 refine zg tb b130 rfl ?_
      refine ao_q (v := (.bool (!decide (c3.op = 6)))) (go1 rfl rfl b129) rfl (aq_pkt rfl b130 rfl) ?_
      refine zf b129 rfl ?_
      refine zq tb rfl ?_
      rcases Sh.ite_some h1 with ⟨b131, h1⟩ | ⟨b131, h1⟩
      ·refine zs b131 rfl ?_
       iterate 3 refine zs b131 rfl ?_
       iterate 4 refine zn rfl ?_
       refine zs b131 rfl ?_
       refine zt b131 rfl ?_
       exact AO.done (M12 true (Sh.some_eq h1).symm _ (Wk.tr rfl))
      ·refine zg tb b131 rfl ?_
       iterate 3 refine zg tb b131 rfl ?_
       rcases Sh.ite_some h1 with ⟨b132, h1⟩ | ⟨b132, h1⟩
       ·refine zg tb b132 rfl ?_
        refine zg tb b132 rfl ?_
        refine ao_q (v := (i64 (Sh.len c3.jumps))) (go1 rfl rfl b132) rfl (aq_lens sl26 rfl) ?_
        refine zg tb b132 rfl ?_
        refine ao_q (v := (.bool (decide (0 < (Sh.len c3.jumps))))) (go1 rfl rfl b131) rfl (aq_pkt rfl b132 rfl) ?_
        refine zf b131 rfl ?_
        exact AO.done (M12 (decide (0 < (Sh.len c3.jumps))) (Sh.some_eq h1).symm _ (Wk.tr rfl))
       ·refine zs b132 rfl ?_
        iterate 3 refine zs b132 rfl ?_
        refine ao_q (v := (.bool false)) (go1 rfl rfl b131) rfl (aq_pkf rfl b132 rfl) ?_
        refine zf b131 rfl ?_
        exact AO.done (M12 false (Sh.some_eq h1).symm _ (Wk.tr rfl))
     ·refine zs b130 rfl ?_
      iterate 2 refine zs b130 rfl ?_
      refine ao_q (v := (.bool false)) (go1 rfl rfl b129) rfl (aq_pkf rfl b130 rfl) ?_
      refine zf b129 rfl ?_
      refine zq tb rfl ?_
      iterate 4 refine zg tb rfl rfl ?_
      rcases Sh.ite_some h1 with ⟨b133, h1⟩ | ⟨b133, h1⟩
      ·refine zg tb b133 rfl ?_
       refine zg tb b133 rfl ?_
       refine ao_q (v := (i64 (Sh.len c3.jumps))) (go1 rfl rfl b133) rfl (aq_lens sl26 rfl) ?_
       refine zg tb b133 rfl ?_
       refine ao_q (v := (.bool (decide (0 < (Sh.len c3.jumps))))) (go1 rfl rfl rfl) rfl (aq_pkt rfl b133 rfl) ?_
       refine zf rfl rfl ?_
       exact AO.done (M12 (decide (0 < (Sh.len c3.jumps))) (Sh.some_eq h1).symm _ (Wk.tr rfl))
      ·refine zs b133 rfl ?_
       iterate 3 refine zs b133 rfl ?_
       refine ao_q (v := (.bool false)) (go1 rfl rfl rfl) rfl (aq_pkf rfl b133 rfl) ?_
       refine zf rfl rfl ?_
       exact AO.done (M12 false (Sh.some_eq h1).symm _ (Wk.tr rfl))
   ·refine zs b127 rfl ?_
    iterate 3 refine zs b127 rfl ?_
    refine ao_q (v := (.bool false)) (go1 rfl rfl b126) rfl (aq_pkf rfl b127 rfl) ?_
    refine zf b126 rfl ?_
    refine zq tb rfl ?_
    iterate 4 refine zg tb rfl rfl ?_
    rcases Sh.ite_some h1 with ⟨b134, h1⟩ | ⟨b134, h1⟩
    ·refine zg tb b134 rfl ?_
     iterate 2 refine zg tb b134 rfl ?_
     refine ao_q (v := (.bool (!decide (c3.op = 6)))) (go1 rfl rfl rfl) rfl (aq_pkt rfl b134 rfl) ?_
     refine zf rfl rfl ?_
     refine zq tb rfl ?_
     rcases Sh.ite_some h1 with ⟨b135, h1⟩ | ⟨b135, h1⟩
     ·refine zs b135 rfl ?_
      iterate 3 refine zs b135 rfl ?_
      iterate 4 refine zn rfl ?_
      refine zs b135 rfl ?_
      refine zt b135 rfl ?_
      exact AO.done (M12 true (Sh.some_eq h1).symm _ (Wk.tr rfl))
     ·refine zg tb b135 rfl ?_
      iterate 3 refine zg tb b135 rfl ?_
      rcases Sh.ite_some h1 with ⟨b136, h1⟩ | ⟨b136, h1⟩
      ·refine zg tb b136 rfl ?_
       refine zg tb b136 rfl ?_
       refine ao_q (v := (i64 (Sh.len c3.jumps))) (go1 rfl rfl b136) rfl (aq_lens sl26 rfl) ?_
       refine zg tb b136 rfl ?_
       refine ao_q (v := (.bool (decide (0 < (Sh.len c3.jumps))))) (go1 rfl rfl b135) rfl (aq_pkt rfl b136 rfl) ?_
       refine zf b135 rfl ?_
       exact AO.done (M12 (decide (0 < (Sh.len c3.jumps))) (Sh.some_eq h1).symm _ (Wk.tr rfl))
      ·refine zs b136 rfl ?_
       iterate 3 refine zs b136 rfl ?_
       refine ao_q (v := (.bool false)) (go1 rfl rfl b135) rfl (aq_pkf rfl b136 rfl) ?_
       refine zf b135 rfl ?_
       exact AO.done (M12 false (Sh.some_eq h1).symm _ (Wk.tr rfl))
    ·refine zs b134 rfl ?_
     iterate 2 refine zs b134 rfl ?_
     refine ao_q (v := (.bool false)) (go1 rfl rfl rfl) rfl (aq_pkf rfl b134 rfl) ?_
     refine zf rfl rfl ?_
     refine zq tb rfl ?_
     iterate 4 refine zg tb rfl rfl ?_
     rcases Sh.ite_some h1 with ⟨b137, h1⟩ | ⟨b137, h1⟩
     ·refine zg tb b137 rfl ?_
      refine zg tb b137 rfl ?_
      refine ao_q (v := (i64 (Sh.len c3.jumps))) (go1 rfl rfl b137) rfl (aq_lens sl26 rfl) ?_
      refine zg tb b137 rfl ?_
      refine ao_q (v := (.bool (decide (0 < (Sh.len c3.jumps))))) (go1 rfl rfl rfl) rfl (aq_pkt rfl b137 rfl) ?_
      refine zf rfl rfl ?_
      exact AO.done (M12 (decide (0 < (Sh.len c3.jumps))) (Sh.some_eq h1).symm _ (Wk.tr rfl))
     ·refine zs b137 rfl ?_
      iterate 3 refine zs b137 rfl ?_
      refine ao_q (v := (.bool false)) (go1 rfl rfl rfl) rfl (aq_pkf rfl b137 rfl) ?_
      refine zf rfl rfl ?_
      exact AO.done (M12 false (Sh.some_eq h1).symm _ (Wk.tr rfl))
 refine AW.block (AW.loopF (σ := Int) (fun n v => spec_validInstr_L1 c3 p1 n v = some o8) (fun k7 => ⟨234, envL [(2, (i64 p2)), (3, (.ptr 0 0 0 0)), (4, (.ptr 1 0 0 0)), (7, (.ptr 2 0 0 0)), (8, (i64 (Sh.len c3.args))), (9, (i64 k7))], [⟨0, 37, 2, [(eRImage p0)]⟩, ⟨0, 88, 5, [(eRProc p1)]⟩, ⟨0, 100, 6, [(eRInstr c3)]⟩]⟩) N 0 h1 (Wk.tr rfl) (fun _ hv => by rw [spec_validInstr_L1] at hv; cases hv) ?_)
 rintro n k7 h1
 try dsimp only at h1 ⊢
 rw [spec_validInstr_L1] at h1
 refine AW.seq fun K138 hK138 => ?_
 refine sr rfl fun K139 hK139 => ?_
 iterate 3 refine zq tb rfl ?_
 refine dn hK139 rfl ?_
 refine ci h1 rfl ?_ ?_ <;> clear h1
 ·intro b140 h1
  refine AW.skip (hK138 _ ?_)
  refine AW.seq fun K141 hK141 => ?_
  refine AW.block ?_
  refine AW.seq fun K142 hK142 => ?_
  refine AW.draw (by kernel_rfl) (by kernel_rfl) (by rfl) ?_
  iterate 3 refine yq tb rfl ?_
  obtain ⟨c143, gc143, h1⟩ := Sh.bind_some h1
  refine yx ei26 gc143 rfl rfl rfl ?_
  iterate 4 refine yq tb rfl ?_
  obtain ⟨q144, gq144, h1⟩ := Sh.bind_some h1
  refine d_call (v := (.bool q144)) go0 hb35 (spec_inRange_ok gq144) rfl rfl rfl ?_
  refine yq tb rfl ?_
  refine d_done (hK142 _ ?_)
  refine ci h1 rfl ?_ ?_ <;> clear h1
  ·intro b145 h1
   have b146 : q144 = false := by simpa using b145
   refine sr rfl fun K147 hK147 => ?_
   refine zq tb rfl ?_
   refine dn hK147 rfl ?_
   replace h1 := Sh.some_eq h1
   subst o8
   try dsimp only [id] at h0
   replace h0 := Sh.some_eq h0
   subst r
   exact AW.ret (xr (Wk.d0 [(6, (.bool false))] rfl))
  ·intro b145 h1
   have b148 : q144 = true := by simpa using b145
   refine AW.skip (hK141 _ ?_)
   refine AW.regionO (by rfl) ?_
   iterate 3 refine zq tb rfl ?_
   exact AO.done (xi (Sh.w (k7 + 1)) h1 (Wk.tr rfl))
 ·intro b140 h1
  exact AW.exit (M8 () (Sh.some_eq h1).symm _ (Wk.tr rfl))
theorem spec_validProc_ok {N : Nat} {p0 : RImage} {p1 : RProc} {r : Bool} (h0 : spec_validProc N p0 p1 = some r) : ACalls Tryz.prog 61 [(.agg (eRImage p0)), (.agg (eRProc p1))] [] (fun v st => v = (.bool r) ∧ st = []) := by
 unfold spec_validProc at h0
 refine ACalls.intro Tryz.func61 rfl (by show 2 ≤ 59; decide) ?_
 show AW _ 0 _ (aret _ 0 Tryz.f61 _) ⟨59, _, _⟩
 refine AW.weaken (Wk.to (L := [(0, (.agg (eRImage p0))), (1, (.agg (eRProc p1)))]) ⟨.rfl, .rfl, trivial⟩) ?_
 refine sr rfl fun K1 hK1 => ?_
 refine ao_box (m := 0) (st' := [⟨0, 37, 2, [(eRImage p0)]⟩]) go0 rfl rfl rfl rfl rfl ?_
 refine ao_box (m := 1) (st' := [⟨0, 37, 2, [(eRImage p0)]⟩, ⟨0, 88, 5, [(eRProc p1)]⟩]) go0 rfl rfl rfl rfl rfl ?_
 refine zq tb rfl ?_
 refine dn hK1 rfl ?_
 refine sr rfl fun K2 hK2 => ?_
 iterate 2 refine zq tb rfl ?_
 refine zl tb rfl rfl ?_
 refine zq tb rfl ?_
 refine dn hK2 rfl ?_
 refine AW.seq fun K3 hK3 => ?_
 refine AW.seq fun K4 hK4 => ?_
 obtain ⟨o6, h1, h0⟩ := Sh.bind_some h0
 have M6 : ∀ (t5 : Bool), o6 = t5 → ∀ s, Wk 0 s ⟨59, envL [(2, (.ptr 0 0 0 0)), (3, (.ptr 1 0 0 0)), (5, (i64 (Sh.len p1.code))), (30, (.bool t5))], [⟨0, 37, 2, [(eRImage p0)]⟩, ⟨0, 88, 5, [(eRProc p1)]⟩]⟩ → K4 s := by
  intro t5 hq s hw
  subst o6
  try dsimp only at h0
  refine hK4 _ (AW.weaken hw ?_)
  refine ci h0 rfl ?_ ?_ <;> clear h0
  ·intro b7 h0
   refine sr rfl fun K8 hK8 => ?_
   refine zq tb rfl ?_
   refine dn hK8 rfl ?_
   replace h0 := Sh.some_eq h0
   subst r
   exact AW.ret (xr (Wk.d0 [(4, (.bool false))] rfl))
  ·intro b7 h0
   refine AW.skip (hK3 _ ?_)
   refine AW.seq fun K9 hK9 => ?_
   refine sr rfl fun K10 hK10 => ?_
   refine zq tb rfl ?_
   refine dn hK10 rfl ?_
   obtain ⟨o12, h1, h0⟩ := Sh.cont_some h0
   have M12 : ∀ (_ : Unit), o12 = Sum.inr () → ∀ s, Wk 0 s ⟨59, envL [(3, (.ptr 0 0 0 0)), (5, (i64 (Sh.len p1.code)))], [⟨0, 88, 5, [(eRProc p1)]⟩]⟩ → K9 s := by
    intro _ hq s hw
    subst o12
    try dsimp only at h0
    refine hK9 _ (AW.weaken hw ?_)
    refine AW.seq fun K13 hK13 => ?_
    obtain ⟨o15, h1, h0⟩ := Sh.bind_some h0
    have M15 : ∀ (t14 : Bool), o15 = t14 → ∀ s, Wk 0 s ⟨59, envL [(4, (.bool t14))], []⟩ → K13 s := by
     intro t14 hq s hw
     subst o15
     try dsimp only at h0
     refine hK13 _ (AW.weaken hw ?_)
     replace h0 := Sh.some_eq h0
     subst r
     exact AW.ret (xr (Wk.to (L := [(4, (.bool t14))]) ⟨.rfl, trivial⟩))
    refine AW.regionO (by rfl) ?_
    iterate 4 refine zq tb rfl ?_
    obtain ⟨c16, gc16, h1⟩ := Sh.bind_some h1
    refine zx ei86 gc16 rfl rfl rfl ?_
    iterate 4 refine zq tb rfl ?_
    rcases Sh.ite_some h1 with ⟨b17, h1⟩ | ⟨b17, h1⟩
    ·refine zs b17 rfl ?_
     iterate 7 refine zs b17 rfl ?_
     refine zt b17 rfl ?_
     refine zq tb rfl ?_
     exact AO.done (M15 true (Sh.some_eq h1).symm _ (Wk.d0 _ rfl))
    ·refine zg tb b17 rfl ?_
     iterate 3 refine zg tb b17 rfl ?_
     refine ao_q (v := (.iptr (eRInstr c16) 0)) (go1 rfl rfl b17) rfl (aq_ixs ei86 rfl rfl gc16 rfl) ?_
     iterate 3 refine zg tb b17 rfl ?_
     refine zf b17 rfl ?_
     refine zq tb rfl ?_
     exact AO.done (M15 (decide (c16.op = 24)) (Sh.some_eq h1).symm _ (Wk.d0 _ rfl))
   refine AW.block (AW.loopF (σ := Int) (fun n v => spec_validProc_L1 N p0 p1 n v = some o12) (fun at11 => ⟨59, envL [(2, (.ptr 0 0 0 0)), (3, (.ptr 1 0 0 0)), (5, (i64 (Sh.len p1.code))), (6, (i64 at11))], [⟨0, 37, 2, [(eRImage p0)]⟩, ⟨0, 88, 5, [(eRProc p1)]⟩]⟩) N 0 h1 (Wk.tr rfl) (fun _ hv => by rw [spec_validProc_L1] at hv; cases hv) ?_)
   rintro n at11 h1
   try dsimp only at h1 ⊢
   rw [spec_validProc_L1] at h1
   refine AW.seq fun K18 hK18 => ?_
   refine sr rfl fun K19 hK19 => ?_
   iterate 3 refine zq tb rfl ?_
   refine dn hK19 rfl ?_
   refine ci h1 rfl ?_ ?_ <;> clear h1
   ·intro b20 h1
    refine AW.skip (hK18 _ ?_)
    refine AW.seq fun K21 hK21 => ?_
    refine AW.block ?_
    refine sr rfl fun K22 hK22 => ?_
    iterate 3 refine zq tb rfl ?_
    obtain ⟨q23, gq23, h1⟩ := Sh.bind_some h1
    refine zc hb87 (spec_validInstr_ok gq23) rfl rfl rfl ?_
    refine zq tb rfl ?_
    refine dn hK22 rfl ?_
    refine ci h1 rfl ?_ ?_ <;> clear h1
    ·intro b24 h1
     have b25 : q23 = false := by simpa using b24
     refine sr rfl fun K26 hK26 => ?_
     refine zq tb rfl ?_
     refine dn hK26 rfl ?_
     replace h1 := Sh.some_eq h1
     subst o12
     try dsimp only [id] at h0
     replace h0 := Sh.some_eq h0
     subst r
     exact AW.ret (xr (Wk.d0 [(4, (.bool false))] rfl))
    ·intro b24 h1
     have b27 : q23 = true := by simpa using b24
     refine AW.skip (hK21 _ ?_)
     refine AW.regionO (by rfl) ?_
     iterate 3 refine zq tb rfl ?_
     exact AO.done (xi (Sh.w (at11 + 1)) h1 (Wk.tr rfl))
   ·intro b20 h1
    exact AW.exit (M12 () (Sh.some_eq h1).symm _ (Wk.permk (L := [(3, (.ptr 0 0 0 0)), (5, (i64 (Sh.len p1.code)))]) (st' := [⟨0, 88, 5, [(eRProc p1)]⟩]) (st1 := [⟨0, 88, 5, [(eRProc p1)]⟩]) [1] rfl .nil (by decide) rfl rfl (.raw rfl rfl .nil) ⟨.rfl, .rfl, trivial⟩))
 refine AW.regionO (by rfl) ?_
 iterate 4 refine zq tb rfl ?_
 obtain ⟨q28, gq28, h1⟩ := Sh.bind_some h1
 refine zc hb86 (spec_validLent_ok gq28) rfl rfl rfl ?_
 iterate 2 refine zq tb rfl ?_
 rcases Sh.ite_some h1 with ⟨b29, h1⟩ | ⟨b29, h1⟩
 ·refine zs b29 rfl ?_
  iterate 7 refine zs b29 rfl ?_
  refine zt b29 rfl ?_
  refine zq tb rfl ?_
  iterate 3 refine zs rfl rfl ?_
  refine zt rfl rfl ?_
  exact AO.done (M6 true (Sh.some_eq h1).symm _ (Wk.tr rfl))
 ·refine zg tb b29 rfl ?_
  iterate 3 refine zg tb b29 rfl ?_
  refine ao_q (v := (i64 (Sh.len p1.params))) (go1 rfl rfl b29) rfl (aq_lens sl26 rfl) ?_
  refine ao_q (v := (i64 (if (Sh.len p1.params) > 1 then (Sh.len p1.params) else 1))) (go1 rfl rfl b29) rfl (aq_max rfl rfl) ?_
  obtain ⟨q30, gq30, h1⟩ := Sh.bind_some h1
  refine zd b29 hb35 (spec_inRange_ok gq30) rfl rfl rfl rfl ?_
  refine zg tb b29 rfl ?_
  refine zf b29 rfl ?_
  refine zq tb rfl ?_
  rcases Sh.ite_some h1 with ⟨b31, h1⟩ | ⟨b31, h1⟩
  ·refine zs b31 rfl ?_
   iterate 2 refine zs b31 rfl ?_
   refine zt b31 rfl ?_
   exact AO.done (M6 true (Sh.some_eq h1).symm _ (Wk.tr rfl))
  ·refine zg tb b31 rfl ?_
   obtain ⟨q32, gq32, h1⟩ := Sh.bind_some h1
   refine zd b31 hb35 (spec_inRange_ok gq32) rfl rfl rfl rfl ?_
   refine zg tb b31 rfl ?_
   refine zf b31 rfl ?_
   exact AO.done (M6 (!q32) (Sh.some_eq h1).symm _ (Wk.tr rfl))
theorem spec_validImage_ok {N : Nat} {p0 : RImage} {r : Bool} (h0 : spec_validImage N p0 = some r) : ACalls Tryz.prog 34 [(.agg (eRImage p0))] [] (fun v st => v = (.bool r) ∧ st = []) := by
 unfold spec_validImage at h0
 refine ACalls.intro Tryz.func34 rfl (by show 1 ≤ 29; decide) ?_
 show AW _ 0 _ (aret _ 0 Tryz.f34 _) ⟨29, _, _⟩
 refine AW.weaken (Wk.to (L := [(0, (.agg (eRImage p0)))]) ⟨.rfl, trivial⟩) ?_
 refine sr rfl fun K1 hK1 => ?_
 refine ao_box (m := 0) (st' := [⟨0, 37, 2, [(eRImage p0)]⟩]) go0 rfl rfl rfl rfl rfl ?_
 refine zq tb rfl ?_
 refine dn hK1 rfl ?_
 refine AW.seq fun K2 hK2 => ?_
 refine AW.seq fun K3 hK3 => ?_
 obtain ⟨o5, h1, h0⟩ := Sh.bind_some h0
 have M5 : ∀ (t4 : Bool), o5 = t4 → ∀ s, Wk 0 s ⟨29, envL [(1, (.ptr 0 0 0 0)), (13, (.bool t4))], [⟨0, 37, 2, [(eRImage p0)]⟩]⟩ → K3 s := by
  intro t4 hq s hw
  subst o5
  try dsimp only at h0
  refine hK3 _ (AW.weaken hw ?_)
  refine ci h0 rfl ?_ ?_ <;> clear h0
  ·intro b6 h0
   refine sr rfl fun K7 hK7 => ?_
   refine zq tb rfl ?_
   refine dn hK7 rfl ?_
   replace h0 := Sh.some_eq h0
   subst r
   exact AW.ret (xr (Wk.d0 [(2, (.bool false))] rfl))
  ·intro b6 h0
   refine AW.skip (hK2 _ ?_)
   refine AW.seq fun K8 hK8 => ?_
   refine sr rfl fun K9 hK9 => ?_
   refine zq tb rfl ?_
   refine dn hK9 rfl ?_
   obtain ⟨o11, h1, h0⟩ := Sh.cont_some h0
   have M11 : ∀ (_ : Unit), o11 = Sum.inr () → ∀ s, Wk 0 s ⟨29, envL [], []⟩ → K8 s := by
    intro _ hq s hw
    subst o11
    try dsimp only at h0
    refine hK8 _ (AW.weaken hw ?_)
    refine sr rfl fun K12 hK12 => ?_
    refine zq tb rfl ?_
    refine dn hK12 rfl ?_
    replace h0 := Sh.some_eq h0
    subst r
    exact AW.ret (xr (Wk.to (L := [(2, (.bool true))]) ⟨.rfl, trivial⟩))
   refine AW.block (AW.loopF (σ := Int) (fun n v => spec_validImage_L1 N p0 n v = some o11) (fun i10 => ⟨29, envL [(1, (.ptr 0 0 0 0)), (3, (i64 i10))], [⟨0, 37, 2, [(eRImage p0)]⟩]⟩) N 0 h1 (Wk.tr rfl) (fun _ hv => by rw [spec_validImage_L1] at hv; cases hv) ?_)
   rintro n i10 h1
   try dsimp only at h1 ⊢
   rw [spec_validImage_L1] at h1
   refine AW.seq fun K13 hK13 => ?_
   refine sr rfl fun K14 hK14 => ?_
   iterate 3 refine zq tb rfl ?_
   refine zl tb rfl rfl ?_
   refine zq tb rfl ?_
   refine dn hK14 rfl ?_
   refine ci h1 rfl ?_ ?_ <;> clear h1
   ·intro b15 h1
    refine AW.skip (hK13 _ ?_)
    refine AW.seq fun K16 hK16 => ?_
    refine AW.block ?_
    refine AW.seq fun K17 hK17 => ?_
    refine AW.draw (by kernel_rfl) (by kernel_rfl) (by rfl) ?_
    iterate 4 refine yq tb rfl ?_
    obtain ⟨c18, gc18, h1⟩ := Sh.bind_some h1
    refine yx ei35 gc18 rfl rfl rfl ?_
    refine yq tb rfl ?_
    obtain ⟨q19, gq19, h1⟩ := Sh.bind_some h1
    refine d_call (v := (.bool q19)) go0 hb61 (spec_validProc_ok gq19) rfl rfl rfl ?_
    refine yq tb rfl ?_
    refine d_done (hK17 _ ?_)
    refine ci h1 rfl ?_ ?_ <;> clear h1
    ·intro b20 h1
     have b21 : q19 = false := by simpa using b20
     refine sr rfl fun K22 hK22 => ?_
     refine zq tb rfl ?_
     refine dn hK22 rfl ?_
     replace h1 := Sh.some_eq h1
     subst o11
     try dsimp only [id] at h0
     replace h0 := Sh.some_eq h0
     subst r
     exact AW.ret (xr (Wk.d0 [(2, (.bool false))] rfl))
    ·intro b20 h1
     have b23 : q19 = true := by simpa using b20
     refine AW.skip (hK16 _ ?_)
     refine AW.regionO (by rfl) ?_
     iterate 3 refine zq tb rfl ?_
     exact AO.done (xi (Sh.w (i10 + 1)) h1 (Wk.tr rfl))
   ·intro b15 h1
    exact AW.exit (M11 () (Sh.some_eq h1).symm _ (Wk.d0 _ rfl))
 refine AW.regionO (by rfl) ?_
 iterate 2 refine zq tb rfl ?_
 refine zl tb rfl rfl ?_
 iterate 2 refine zq tb rfl ?_
 rcases Sh.ite_some h1 with ⟨b24, h1⟩ | ⟨b24, h1⟩
 ·refine zs b24 rfl ?_
  iterate 3 refine zs b24 rfl ?_
  refine zt b24 rfl ?_
  exact AO.done (M5 true (Sh.some_eq h1).symm _ (Wk.tr rfl))
 ·refine zg tb b24 rfl ?_
  obtain ⟨q25, gq25, h1⟩ := Sh.bind_some h1
  refine zd (v' := (.agg [(.sl (List.map eRDecl q25.decls)), (.sl (List.map eRFunc q25.funcs))])) b24 hb60 (spec_sigsOfImage_ok gq25) rfl rfl rfl rfl ?_
  obtain ⟨q26, gq26, h1⟩ := Sh.bind_some h1
  refine zd b24 hb59 (spec_validSigs_ok gq26) rfl rfl rfl rfl ?_
  refine zg tb b24 rfl ?_
  refine zf b24 rfl ?_
  exact AO.done (M5 (!q26) (Sh.some_eq h1).symm _ (Wk.tr rfl))
theorem spec_allInRange_ok {N : Nat} {p0 : (List Int)} {r : Bool} (h0 : spec_allInRange N p0 = some r) : ACalls Tryz.prog 36 [(.sl (List.map eI p0))] [] (fun v st => v = (.bool r) ∧ st = []) := by
 unfold spec_allInRange at h0
 refine ACalls.intro Tryz.func36 rfl (by show 1 ≤ 16; decide) ?_
 show AW _ 0 _ (aret _ 0 Tryz.f36 _) ⟨16, _, _⟩
 refine AW.weaken (Wk.to (L := [(0, (.sl (List.map eI p0)))]) ⟨.rfl, trivial⟩) ?_
 refine sr rfl fun K1 hK1 => ?_
 refine zq tb rfl ?_
 refine dn hK1 rfl ?_
 refine AW.seq fun K2 hK2 => ?_
 refine sr rfl fun K3 hK3 => ?_
 refine zq tb rfl ?_
 refine dn hK3 rfl ?_
 obtain ⟨o5, h1, h0⟩ := Sh.cont_some h0
 have M5 : ∀ (_ : Unit), o5 = Sum.inr () → ∀ s, Wk 0 s ⟨16, envL [], []⟩ → K2 s := by
  intro _ hq s hw
  subst o5
  try dsimp only at h0
  refine hK2 _ (AW.weaken hw ?_)
  refine sr rfl fun K6 hK6 => ?_
  refine zq tb rfl ?_
  refine dn hK6 rfl ?_
  replace h0 := Sh.some_eq h0
  subst r
  exact AW.ret (xr (Wk.to (L := [(2, (.bool true))]) ⟨.rfl, trivial⟩))
 refine AW.block (AW.loopF (σ := Int) (fun n v => spec_allInRange_L1 p0 n v = some o5) (fun i4 => ⟨16, envL [(0, (.sl (List.map eI p0))), (3, (i64 i4))], []⟩) N 0 h1 (Wk.tr rfl) (fun _ hv => by rw [spec_allInRange_L1] at hv; cases hv) ?_)
 rintro n i4 h1
 try dsimp only at h1 ⊢
 rw [spec_allInRange_L1] at h1
 refine AW.seq fun K7 hK7 => ?_
 refine sr rfl fun K8 hK8 => ?_
 iterate 2 refine zq tb rfl ?_
 refine zl tb rfl rfl ?_
 refine zq tb rfl ?_
 refine dn hK8 rfl ?_
 refine ci h1 rfl ?_ ?_ <;> clear h1
 ·intro b9 h1
  refine AW.skip (hK7 _ ?_)
  refine AW.seq fun K10 hK10 => ?_
  refine AW.block ?_
  refine sr rfl fun K11 hK11 => ?_
  iterate 2 refine zq tb rfl ?_
  obtain ⟨c12, gc12, h1⟩ := Sh.bind_some h1
  refine zx ei26 gc12 rfl rfl rfl ?_
  refine zq tb rfl ?_
  obtain ⟨q13, gq13, h1⟩ := Sh.bind_some h1
  refine zc hb35 (spec_inRange_ok gq13) rfl rfl rfl ?_
  refine zq tb rfl ?_
  refine dn hK11 rfl ?_
  refine ci h1 rfl ?_ ?_ <;> clear h1
  ·intro b14 h1
   have b15 : q13 = false := by simpa using b14
   refine sr rfl fun K16 hK16 => ?_
   refine zq tb rfl ?_
   refine dn hK16 rfl ?_
   replace h1 := Sh.some_eq h1
   subst o5
   try dsimp only [id] at h0
   replace h0 := Sh.some_eq h0
   subst r
   exact AW.ret (xr (Wk.to (L := [(2, (.bool false))]) ⟨.rfl, trivial⟩))
  ·intro b14 h1
   have b17 : q13 = true := by simpa using b14
   refine AW.skip (hK10 _ ?_)
   refine AW.regionO (by rfl) ?_
   iterate 3 refine zq tb rfl ?_
   exact AO.done (xi (Sh.w (i4 + 1)) h1 (Wk.tr rfl))
 ·intro b9 h1
  exact AW.exit (M5 () (Sh.some_eq h1).symm _ (Wk.tr rfl))
theorem spec_allZero_ok {N : Nat} {p0 : (List Int)} {r : Bool} (h0 : spec_allZero N p0 = some r) : ACalls Tryz.prog 88 [(.sl (List.map eI p0))] [] (fun v st => v = (.bool r) ∧ st = []) := by
 unfold spec_allZero at h0
 refine ACalls.intro Tryz.func88 rfl (by show 1 ≤ 15; decide) ?_
 show AW _ 0 _ (aret _ 0 Tryz.f88 _) ⟨15, _, _⟩
 refine AW.weaken (Wk.to (L := [(0, (.sl (List.map eI p0)))]) ⟨.rfl, trivial⟩) ?_
 refine sr rfl fun K1 hK1 => ?_
 refine zq tb rfl ?_
 refine dn hK1 rfl ?_
 refine AW.seq fun K2 hK2 => ?_
 refine sr rfl fun K3 hK3 => ?_
 refine zq tb rfl ?_
 refine dn hK3 rfl ?_
 obtain ⟨o5, h1, h0⟩ := Sh.cont_some h0
 have M5 : ∀ (_ : Unit), o5 = Sum.inr () → ∀ s, Wk 0 s ⟨15, envL [], []⟩ → K2 s := by
  intro _ hq s hw
  subst o5
  try dsimp only at h0
  refine hK2 _ (AW.weaken hw ?_)
  refine sr rfl fun K6 hK6 => ?_
  refine zq tb rfl ?_
  refine dn hK6 rfl ?_
  replace h0 := Sh.some_eq h0
  subst r
  exact AW.ret (xr (Wk.to (L := [(2, (.bool true))]) ⟨.rfl, trivial⟩))
 refine AW.block (AW.loopF (σ := Int) (fun n v => spec_allZero_L1 p0 n v = some o5) (fun i4 => ⟨15, envL [(0, (.sl (List.map eI p0))), (3, (i64 i4))], []⟩) N 0 h1 (Wk.tr rfl) (fun _ hv => by rw [spec_allZero_L1] at hv; cases hv) ?_)
 rintro n i4 h1
 try dsimp only at h1 ⊢
 rw [spec_allZero_L1] at h1
 refine AW.seq fun K7 hK7 => ?_
 refine sr rfl fun K8 hK8 => ?_
 iterate 2 refine zq tb rfl ?_
 refine zl tb rfl rfl ?_
 refine zq tb rfl ?_
 refine dn hK8 rfl ?_
 refine ci h1 rfl ?_ ?_ <;> clear h1
 ·intro b9 h1
  refine AW.skip (hK7 _ ?_)
  refine AW.seq fun K10 hK10 => ?_
  refine AW.block ?_
  refine sr rfl fun K11 hK11 => ?_
  iterate 2 refine zq tb rfl ?_
  obtain ⟨c12, gc12, h1⟩ := Sh.bind_some h1
  refine zx ei26 gc12 rfl rfl rfl ?_
  iterate 2 refine zq tb rfl ?_
  refine dn hK11 rfl ?_
  refine ci h1 rfl ?_ ?_ <;> clear h1
  ·intro b13 h1
   have b14 : decide (c12 = 0) = false := by simpa using b13
   refine sr rfl fun K15 hK15 => ?_
   refine zq tb rfl ?_
   refine dn hK15 rfl ?_
   replace h1 := Sh.some_eq h1
   subst o5
   try dsimp only [id] at h0
   replace h0 := Sh.some_eq h0
   subst r
   exact AW.ret (xr (Wk.to (L := [(2, (.bool false))]) ⟨.rfl, trivial⟩))
  ·intro b13 h1
   have b16 : decide (c12 = 0) = true := by simpa using b13
   refine AW.skip (hK10 _ ?_)
   refine AW.regionO (by rfl) ?_
   iterate 3 refine zq tb rfl ?_
   exact AO.done (xi (Sh.w (i4 + 1)) h1 (Wk.tr rfl))
 ·intro b9 h1
  exact AW.exit (M5 () (Sh.some_eq h1).symm _ (Wk.tr rfl))
theorem spec_isPointer_ok {p0 : Int} {r : Bool} (h0 : spec_isPointer p0 = some r) : ACalls Tryz.prog 66 [(i64 p0)] [] (fun v st => v = (.bool r) ∧ st = []) := by
 unfold spec_isPointer at h0
 refine ACalls.intro Tryz.func66 rfl (by show 1 ≤ 5; decide) ?_
 show AW _ 0 _ (aret _ 0 Tryz.f66 _) ⟨5, _, _⟩
 refine AW.weaken (Wk.to (L := [(0, (i64 p0))]) ⟨.rfl, trivial⟩) ?_
 refine sr rfl fun K1 hK1 => ?_
 refine zq tb rfl ?_
 refine dn hK1 rfl ?_
 refine sr rfl fun K2 hK2 => ?_
 iterate 3 refine zq tb rfl ?_
 refine dn hK2 rfl ?_
 replace h0 := Sh.some_eq h0
 subst r
 exact AW.ret (xr (Wk.to (L := [(2, (.bool (decide (1000 ≤ p0))))]) ⟨.rfl, trivial⟩))
theorem spec_isLive_ok {p0 : (List Cell)} {p1 : Int} {r : Bool} (h0 : spec_isLive p0 p1 = some r) : ACalls Tryz.prog 90 [(.sl (List.map eCell p0)), (i64 p1)] [] (fun v st => v = (.bool r) ∧ st = []) := by
 unfold spec_isLive at h0
 refine ACalls.intro Tryz.func90 rfl (by show 2 ≤ 24; decide) ?_
 show AW _ 0 _ (aret _ 0 Tryz.f90 _) ⟨24, _, _⟩
 refine AW.weaken (Wk.to (L := [(0, (.sl (List.map eCell p0))), (1, (i64 p1))]) ⟨.rfl, .rfl, trivial⟩) ?_
 refine sr rfl fun K1 hK1 => ?_
 refine zq tb rfl ?_
 refine dn hK1 rfl ?_
 refine AW.seq fun K2 hK2 => ?_
 obtain ⟨o4, h1, h0⟩ := Sh.bind_some h0
 have M4 : ∀ (t3 : Bool), o4 = t3 → ∀ s, Wk 0 s ⟨24, envL [(4, (.bool t3))], []⟩ → K2 s := by
  intro t3 hq s hw
  subst o4
  try dsimp only at h0
  refine hK2 _ (AW.weaken hw ?_)
  replace h0 := Sh.some_eq h0
  subst r
  exact AW.ret (xr (Wk.to (L := [(4, (.bool t3))]) ⟨.rfl, trivial⟩))
 refine AW.regionO (by rfl) ?_
 iterate 3 refine zq tb rfl ?_
 refine zl tb rfl rfl ?_
 refine zq tb rfl ?_
 obtain ⟨q5, gq5, h1⟩ := Sh.bind_some h1
 refine zc hb35 (spec_inRange_ok gq5) rfl rfl rfl ?_
 refine zq tb rfl ?_
 rcases Sh.ite_some h1 with ⟨b6, h1⟩ | ⟨b6, h1⟩
 ·refine zg tb b6 rfl ?_
  obtain ⟨q7, gq7, h1⟩ := Sh.bind_some h1
  refine zd b6 hb66 (spec_isPointer_ok gq7) rfl rfl rfl rfl ?_
  refine zt b6 rfl ?_
  refine zq tb rfl ?_
  rcases Sh.ite_some h1 with ⟨b8, h1⟩ | ⟨b8, h1⟩
  ·refine zg tb b8 rfl ?_
   iterate 2 refine zg tb b8 rfl ?_
   obtain ⟨c9, gc9, h1⟩ := Sh.bind_some h1
   refine ao_q (v := (.iptr (eCell c9) 0)) (go1 rfl rfl b8) rfl (aq_ixs ei39 rfl rfl gc9 rfl) ?_
   iterate 3 refine zg tb b8 rfl ?_
   refine zt b8 rfl ?_
   refine zq tb rfl ?_
   exact AO.done (M4 (decide (0 < c9.count)) (Sh.some_eq h1).symm _ (Wk.tr rfl))
  ·refine zs b8 rfl ?_
   iterate 6 refine zs b8 rfl ?_
   refine zf b8 rfl ?_
   refine zq tb rfl ?_
   exact AO.done (M4 false (Sh.some_eq h1).symm _ (Wk.tr rfl))
 ·refine zs b6 rfl ?_
  refine zs b6 rfl ?_
  refine zf b6 rfl ?_
  refine zq tb rfl ?_
  iterate 7 refine zs rfl rfl ?_
  refine zf rfl rfl ?_
  refine zq tb rfl ?_
  exact AO.done (M4 false (Sh.some_eq h1).symm _ (Wk.tr rfl))
theorem spec_isWord_ok {p0 : (List Cell)} {p1 : Int} {r : Bool} (h0 : spec_isWord p0 p1 = some r) : ACalls Tryz.prog 89 [(.sl (List.map eCell p0)), (i64 p1)] [] (fun v st => v = (.bool r) ∧ st = []) := by
 unfold spec_isWord at h0
 refine ACalls.intro Tryz.func89 rfl (by show 2 ≤ 12; decide) ?_
 show AW _ 0 _ (aret _ 0 Tryz.f89 _) ⟨12, _, _⟩
 refine AW.weaken (Wk.to (L := [(0, (.sl (List.map eCell p0))), (1, (i64 p1))]) ⟨.rfl, .rfl, trivial⟩) ?_
 refine sr rfl fun K1 hK1 => ?_
 refine zq tb rfl ?_
 refine dn hK1 rfl ?_
 refine AW.seq fun K2 hK2 => ?_
 obtain ⟨o4, h1, h0⟩ := Sh.bind_some h0
 have M4 : ∀ (t3 : Bool), o4 = t3 → ∀ s, Wk 0 s ⟨12, envL [(4, (.bool t3))], []⟩ → K2 s := by
  intro t3 hq s hw
  subst o4
  try dsimp only at h0
  refine hK2 _ (AW.weaken hw ?_)
  replace h0 := Sh.some_eq h0
  subst r
  exact AW.ret (xr (Wk.to (L := [(4, (.bool t3))]) ⟨.rfl, trivial⟩))
 refine AW.regionO (by rfl) ?_
 refine zq tb rfl ?_
 obtain ⟨q5, gq5, h1⟩ := Sh.bind_some h1
 refine zc hb35 (spec_inRange_ok gq5) rfl rfl rfl ?_
 refine zq tb rfl ?_
 rcases Sh.ite_some h1 with ⟨b6, h1⟩ | ⟨b6, h1⟩
 ·refine zs b6 rfl ?_
  iterate 2 refine zs b6 rfl ?_
  refine zt b6 rfl ?_
  refine zq tb rfl ?_
  exact AO.done (M4 true (Sh.some_eq h1).symm _ (Wk.tr rfl))
 ·refine zg tb b6 rfl ?_
  refine zg tb b6 rfl ?_
  obtain ⟨q7, gq7, h1⟩ := Sh.bind_some h1
  refine zd b6 hb90 (spec_isLive_ok gq7) rfl rfl rfl rfl ?_
  refine zf b6 rfl ?_
  refine zq tb rfl ?_
  exact AO.done (M4 q7 (Sh.some_eq h1).symm _ (Wk.tr rfl))
theorem spec_validCell_ok {N : Nat} {p0 : (List Cell)} {p1 : Cell} {r : Bool} (h0 : spec_validCell N p0 p1 = some r) : ACalls Tryz.prog 62 [(.sl (List.map eCell p0)), (.agg (eCell p1))] [] (fun v st => v = (.bool r) ∧ st = []) := by
 unfold spec_validCell at h0
 refine ACalls.intro Tryz.func62 rfl (by show 2 ≤ 56; decide) ?_
 show AW _ 0 _ (aret _ 0 Tryz.f62 _) ⟨56, _, _⟩
 refine AW.weaken (Wk.to (L := [(0, (.sl (List.map eCell p0))), (1, (.agg (eCell p1)))]) ⟨.rfl, .rfl, trivial⟩) ?_
 refine sr rfl fun K1 hK1 => ?_
 refine ao_box (m := 0) (st' := [⟨0, 90, 3, [(eCell p1)]⟩]) go0 rfl rfl rfl rfl rfl ?_
 refine zq tb rfl ?_
 refine dn hK1 rfl ?_
 refine AW.seq fun K2 hK2 => ?_
 refine AW.seq fun K3 hK3 => ?_
 obtain ⟨o5, h1, h0⟩ := Sh.bind_some h0
 have M5 : ∀ (t4 : Bool), o5 = t4 → ∀ s, Wk 0 s ⟨56, envL [(0, (.sl (List.map eCell p0))), (3, (.ptr 0 0 0 0)), (15, (.bool t4))], [⟨0, 90, 3, [(eCell p1)]⟩]⟩ → K3 s := by
  intro t4 hq s hw
  subst o5
  try dsimp only at h0
  refine hK3 _ (AW.weaken hw ?_)
  refine ci h0 rfl ?_ ?_ <;> clear h0
  ·intro b6 h0
   refine sr rfl fun K7 hK7 => ?_
   refine zq tb rfl ?_
   refine dn hK7 rfl ?_
   replace h0 := Sh.some_eq h0
   subst r
   exact AW.ret (xr (Wk.d0 [(4, (.bool false))] rfl))
  ·intro b6 h0
   refine AW.skip (hK2 _ ?_)
   refine AW.seq fun K8 hK8 => ?_
   refine sr rfl fun K9 hK9 => ?_
   iterate 3 refine zq tb rfl ?_
   refine dn hK9 rfl ?_
   refine ci h0 rfl ?_ ?_ <;> clear h0
   ·intro b10 h0
    refine AW.seq fun K11 hK11 => ?_
    obtain ⟨o13, h1, h0⟩ := Sh.bind_some h0
    have M13 : ∀ (t12 : Bool), o13 = t12 → ∀ s, Wk 0 s ⟨56, envL [(4, (.bool t12))], []⟩ → K11 s := by
     intro t12 hq s hw
     subst o13
     try dsimp only at h0
     refine hK11 _ (AW.weaken hw ?_)
     replace h0 := Sh.some_eq h0
     subst r
     exact AW.ret (xr (Wk.to (L := [(4, (.bool t12))]) ⟨.rfl, trivial⟩))
    refine AW.regionO (by rfl) ?_
    iterate 4 refine zq tb rfl ?_
    rcases Sh.ite_some h1 with ⟨b14, h1⟩ | ⟨b14, h1⟩
    ·refine zg tb b14 rfl ?_
     refine zg tb b14 rfl ?_
     obtain ⟨q15, gq15, h1⟩ := Sh.bind_some h1
     refine zd b14 hb88 (spec_allZero_ok gq15) rfl rfl rfl rfl ?_
     refine zt b14 rfl ?_
     refine zq tb rfl ?_
     rcases Sh.ite_some h1 with ⟨b16, h1⟩ | ⟨b16, h1⟩
     ·refine zg tb b16 rfl ?_
      iterate 3 refine zg tb b16 rfl ?_
      rcases Sh.ite_some h1 with ⟨b17, h1⟩ | ⟨b17, h1⟩
      ·refine zs b17 rfl ?_
       iterate 3 refine zs b17 rfl ?_
       refine ao_q (v := (.bool true)) (go1 rfl rfl b16) rfl (aq_pkt rfl b17 rfl) ?_
       refine zt b16 rfl ?_
       refine zq tb rfl ?_
       exact AO.done (M13 true (Sh.some_eq h1).symm _ (Wk.d0 _ rfl))
      ·refine zg tb b17 rfl ?_
       refine zg tb b17 rfl ?_
       refine ao_q (v := (i64 (Sh.len p1.fields))) (go1 rfl rfl b17) rfl (aq_lens sl26 rfl) ?_
       refine zg tb b17 rfl ?_
       refine ao_q (v := (.bool (decide ((Sh.len p1.fields) = 0)))) (go1 rfl rfl b16) rfl (aq_pkf rfl b17 rfl) ?_
       refine zt b16 rfl ?_
       refine zq tb rfl ?_
       exact AO.done (M13 (decide ((Sh.len p1.fields) = 0)) (Sh.some_eq h1).symm _ (Wk.d0 _ rfl))
     ·refine zs b16 rfl ?_
      iterate 3 refine zs b16 rfl ?_
      iterate 4 refine zn rfl ?_
      refine zs b16 rfl ?_
      refine zf b16 rfl ?_
      refine zq tb rfl ?_
      exact AO.done (M13 false (Sh.some_eq h1).symm _ (Wk.d0 _ rfl))
    ·refine zs b14 rfl ?_
     iterate 2 refine zs b14 rfl ?_
     refine zf b14 rfl ?_
     refine zq tb rfl ?_
     iterate 4 refine zs rfl rfl ?_
     iterate 4 refine zn rfl ?_
     refine zs rfl rfl ?_
     refine zf rfl rfl ?_
     refine zq tb rfl ?_
     exact AO.done (M13 false (Sh.some_eq h1).symm _ (Wk.d0 _ rfl))
   ·intro b10 h0
    refine AW.skip (hK8 _ ?_)
    refine AW.seq fun K18 hK18 => ?_
    refine sr rfl fun K19 hK19 => ?_
    refine zq tb rfl ?_
    refine dn hK19 rfl ?_
    obtain ⟨o21, h1, h0⟩ := Sh.cont_some h0
    have M21 : ∀ (_ : Unit), o21 = Sum.inr () → ∀ s, Wk 0 s ⟨56, envL [(3, (.ptr 0 0 0 0))], [⟨0, 90, 3, [(eCell p1)]⟩]⟩ → K18 s := by
     intro _ hq s hw
     subst o21
     try dsimp only at h0
     refine hK18 _ (AW.weaken hw ?_)
     refine sr rfl fun K22 hK22 => ?_
     iterate 2 refine zq tb rfl ?_
     obtain ⟨q23, gq23, h0⟩ := Sh.bind_some h0
     refine zc hb35 (spec_inRange_ok gq23) rfl rfl rfl ?_
     refine zq tb rfl ?_
     refine dn hK22 rfl ?_
     replace h0 := Sh.some_eq h0
     subst r
     exact AW.ret (xr (Wk.d0 [(4, (.bool q23))] rfl))
    refine AW.block (AW.loopF (σ := Int) (fun n v => spec_validCell_L1 p0 p1 n v = some o21) (fun i20 => ⟨56, envL [(0, (.sl (List.map eCell p0))), (3, (.ptr 0 0 0 0)), (5, (i64 i20))], [⟨0, 90, 3, [(eCell p1)]⟩]⟩) N 0 h1 (Wk.tr rfl) (fun _ hv => by rw [spec_validCell_L1] at hv; cases hv) ?_)
    rintro n i20 h1
    try dsimp only at h1 ⊢
    rw [spec_validCell_L1] at h1
    refine AW.seq fun K24 hK24 => ?_
    refine sr rfl fun K25 hK25 => ?_
    iterate 3 refine zq tb rfl ?_
    refine zl tb rfl rfl ?_
    refine zq tb rfl ?_
    refine dn hK25 rfl ?_
    refine ci h1 rfl ?_ ?_ <;> clear h1
    ·intro b26 h1
     refine AW.skip (hK24 _ ?_)
     refine AW.seq fun K27 hK27 => ?_
     refine AW.block ?_
     refine sr rfl fun K28 hK28 => ?_
     iterate 4 refine zq tb rfl ?_
     obtain ⟨c29, gc29, h1⟩ := Sh.bind_some h1
     refine zx ei26 gc29 rfl rfl rfl ?_
     refine zq tb rfl ?_
     obtain ⟨q30, gq30, h1⟩ := Sh.bind_some h1
     refine zc hb89 (spec_isWord_ok gq30) rfl rfl rfl ?_
     refine zq tb rfl ?_
     refine dn hK28 rfl ?_
     refine ci h1 rfl ?_ ?_ <;> clear h1
     ·intro b31 h1
      have b32 : q30 = false := by simpa using b31
      refine sr rfl fun K33 hK33 => ?_
      refine zq tb rfl ?_
      refine dn hK33 rfl ?_
      replace h1 := Sh.some_eq h1
      subst o21
      try dsimp only [id] at h0
      replace h0 := Sh.some_eq h0
      subst r
      exact AW.ret (xr (Wk.d0 [(4, (.bool false))] rfl))
     ·intro b31 h1
      have b34 : q30 = true := by simpa using b31
      refine AW.skip (hK27 _ ?_)
      refine AW.regionO (by rfl) ?_
      iterate 3 refine zq tb rfl ?_
      exact AO.done (xi (Sh.w (i20 + 1)) h1 (Wk.tr rfl))
    ·intro b26 h1
     exact AW.exit (M21 () (Sh.some_eq h1).symm _ (Wk.tr rfl))
 refine AW.regionO (by rfl) ?_
 iterate 2 refine zq tb rfl ?_
 refine zl tb rfl rfl ?_
 iterate 2 refine zq tb rfl ?_
 rcases Sh.ite_some h1 with ⟨b35, h1⟩ | ⟨b35, h1⟩
 ·refine zs b35 rfl ?_
  iterate 3 refine zs b35 rfl ?_
  refine zt b35 rfl ?_
  exact AO.done (M5 true (Sh.some_eq h1).symm _ (Wk.tr rfl))
 ·refine zg tb b35 rfl ?_
  refine zg tb b35 rfl ?_
  obtain ⟨q36, gq36, h1⟩ := Sh.bind_some h1
  refine zd b35 hb35 (spec_inRange_ok gq36) rfl rfl rfl rfl ?_
  refine zg tb b35 rfl ?_
  refine zf b35 rfl ?_
  exact AO.done (M5 (!q36) (Sh.some_eq h1).symm _ (Wk.tr rfl))
theorem spec_refsOf_ok {N : Nat} {p0 : (List Cell)} {r : (List Int)} (h0 : spec_refsOf N p0 = some r) : ACalls Tryz.prog 63 [(.sl (List.map eCell p0))] [] (fun v st => v = (.own 0 0 (List.length r)) ∧ st = [⟨0, 3, 1, List.map eI r⟩]) := by
 unfold spec_refsOf at h0
 refine ACalls.intro Tryz.func63 rfl (by show 1 ≤ 54; decide) ?_
 show AW _ 0 _ (aret _ 0 Tryz.f63 _) ⟨54, _, _⟩
 refine AW.weaken (Wk.to (L := [(0, (.sl (List.map eCell p0)))]) ⟨.rfl, trivial⟩) ?_
 refine sr rfl fun K1 hK1 => ?_
 refine zq tb rfl ?_
 refine dn hK1 rfl ?_
 refine sr rfl fun K2 hK2 => ?_
 refine zq tb rfl ?_
 refine zl tb rfl rfl ?_
 obtain ⟨l3, gl3, h0⟩ := Sh.bind_some h0
 refine ao_make (m := 0) (st' := [⟨0, 3, 1, List.map eI l3⟩]) (enc := eI) (u := 0) go0 ei26 rfl rfl rfl gl3 rfl rfl ?_
 refine zq tb rfl ?_
 refine dn hK2 rfl ?_
 refine AW.seq fun K4 hK4 => ?_
 refine sr rfl fun K5 hK5 => ?_
 refine zq tb rfl ?_
 refine dn hK5 rfl ?_
 obtain ⟨o9, h1, h0⟩ := Sh.bind_some h0
 have M9 : ∀ (l8 : (List Int)), o9 = l8 → ∀ s, Wk 0 s ⟨54, envL [(3, (.own 0 0 (List.length l8)))], [⟨0, 3, 1, List.map eI l8⟩]⟩ → K4 s := by
  intro l8 hq s hw
  subst o9
  try dsimp only at h0
  refine hK4 _ (AW.weaken hw ?_)
  refine sr rfl fun K10 hK10 => ?_
  iterate 2 refine zq tb rfl ?_
  refine dn hK10 rfl ?_
  replace h0 := Sh.some_eq h0
  subst r
  exact AW.ret (xr (Wk.to (L := [(2, (.own 0 0 (List.length l8)))]) ⟨.rfl, trivial⟩))
 refine AW.block (AW.loopF (σ := Int × (List Int)) (fun n v => spec_refsOf_L1 N p0 n v.1 v.2 = some o9) (fun (i6, l7) => ⟨54, envL [(0, (.sl (List.map eCell p0))), (3, (.own 0 0 (List.length l7))), (4, (i64 i6))], [⟨0, 3, 1, List.map eI l7⟩]⟩) N (0, l3) h1 (Wk.tr rfl) (fun _ hv => by rw [spec_refsOf_L1] at hv; cases hv) ?_)
 rintro n ⟨i6, l7⟩ h1
 try dsimp only at h1 ⊢
 rw [spec_refsOf_L1] at h1
 refine AW.seq fun K11 hK11 => ?_
 refine sr rfl fun K12 hK12 => ?_
 iterate 2 refine zq tb rfl ?_
 refine zl tb rfl rfl ?_
 refine zq tb rfl ?_
 refine dn hK12 rfl ?_
 refine ci h1 rfl ?_ ?_ <;> clear h1
 ·intro b13 h1
  refine AW.skip (hK11 _ ?_)
  refine AW.seq fun K14 hK14 => ?_
  refine AW.block ?_
  refine sr rfl fun K15 hK15 => ?_
  refine zq tb rfl ?_
  refine dn hK15 rfl ?_
  obtain ⟨o19, h2, h1⟩ := Sh.bind_some h1
  have M19 : ∀ (l18 : (List Int)), o19 = l18 → ∀ s, Wk 0 s ⟨54, envL [(0, (.sl (List.map eCell p0))), (3, (.own 0 0 (List.length l18))), (4, (i64 i6))], [⟨0, 3, 1, List.map eI l18⟩]⟩ → K14 s := by
   intro l18 hq s hw
   subst o19
   try dsimp only at h1
   refine hK14 _ (AW.weaken hw ?_)
   refine AW.regionO (by rfl) ?_
   iterate 3 refine zq tb rfl ?_
   exact AO.done (xi (Sh.w (i6 + 1), l18) h1 (Wk.tr rfl))
  refine AW.block (AW.loopF (σ := Int × (List Int)) (fun n v => spec_refsOf_L2 i6 p0 n v.1 v.2 = some o19) (fun (k16, l17) => ⟨54, envL [(0, (.sl (List.map eCell p0))), (3, (.own 0 0 (List.length l17))), (4, (i64 i6)), (5, (i64 k16))], [⟨0, 3, 1, List.map eI l17⟩]⟩) N (0, l7) h2 (Wk.tr rfl) (fun _ hv => by rw [spec_refsOf_L2] at hv; cases hv) ?_)
  rintro n ⟨k16, l17⟩ h2
  try dsimp only at h2 ⊢
  rw [spec_refsOf_L2] at h2
  refine AW.seq fun K20 hK20 => ?_
  refine sr rfl fun K21 hK21 => ?_
  iterate 3 refine zq tb rfl ?_
  obtain ⟨c22, gc22, h2⟩ := Sh.bind_some h2
  refine zx ei39 gc22 rfl rfl rfl ?_
  iterate 2 refine zq tb rfl ?_
  refine zl tb rfl rfl ?_
  refine zq tb rfl ?_
  refine dn hK21 rfl ?_
  refine ci h2 rfl ?_ ?_ <;> clear h2
  ·intro b23 h2
   refine AW.skip (hK20 _ ?_)
   refine AW.seq fun K24 hK24 => ?_
   obtain ⟨o26, h3, h2⟩ := Sh.bind_some h2
   have M26 : ∀ (l25 : (List Int)), o26 = l25 → ∀ s, Wk 0 s ⟨54, envL [(0, (.sl (List.map eCell p0))), (3, (.own 0 0 (List.length l25))), (4, (i64 i6)), (5, (i64 k16))], [⟨0, 3, 1, List.map eI l25⟩]⟩ → K24 s := by
    intro l25 hq s hw
    subst o26
    try dsimp only at h2
    refine hK24 _ (AW.weaken hw ?_)
    refine AW.regionO (by rfl) ?_
    iterate 3 refine zq tb rfl ?_
    exact AO.done (xi (Sh.w (k16 + 1), l25) h2 (Wk.tr rfl))
   refine AW.block ?_
   refine sr rfl fun K27 hK27 => ?_
   iterate 3 refine zq tb rfl ?_
   refine zx ei39 gc22 rfl rfl rfl ?_
   iterate 3 refine zq tb rfl ?_
   obtain ⟨c28, gc28, h3⟩ := Sh.bind_some h3
   refine zx ei26 gc28 rfl rfl rfl ?_
   refine zq tb rfl ?_
   obtain ⟨q29, gq29, h3⟩ := Sh.bind_some h3
   refine zc hb90 (spec_isLive_ok gq29) rfl rfl rfl ?_
   refine dn hK27 rfl ?_
   refine ci h3 rfl ?_ ?_ <;> clear h3
   ·intro b30 h3
    refine sr rfl fun K31 hK31 => ?_
    iterate 2 refine zq tb rfl ?_
    refine zx ei39 gc22 rfl rfl rfl ?_
    iterate 3 refine zq tb rfl ?_
    refine zx ei26 gc28 rfl rfl rfl ?_
    iterate 3 refine zq tb rfl ?_
    refine dn hK31 rfl ?_
    refine AW.regionO (by rfl) ?_
    iterate 4 refine zq tb rfl ?_
    obtain ⟨c32, gc32, h3⟩ := Sh.bind_some h3
    refine zz (.ptr 0 0 (Int.toNat (Sh.w (c28 - 1000))) 0) (aq_ixo ei26 rfl rfl rfl rfl gc32) rfl ?_
    refine zz (i64 c32) (aq_ldp ti3 rfl rfl (map_get gc32) rfl) rfl ?_
    refine zq tb rfl ?_
    refine zz (.ptr 0 0 (Int.toNat (Sh.w (c28 - 1000))) 0) (aq_ixo ei26 rfl rfl rfl rfl gc32) rfl ?_
    refine ao_stl (st' := [⟨0, 3, 1, List.map eI (Sh.put l17 (Sh.w (c28 - 1000)) (Sh.w (c32 + 1)))⟩]) (u' := Sh.w (c32 + 1)) go0 ti3 rfl rfl gc32 rfl rfl rfl (show 0 + 1 ≤ 1 by decide) rfl rfl ?_
    exact AO.done (M26 (Sh.put l17 (Sh.w (c28 - 1000)) (Sh.w (c32 + 1))) (Sh.some_eq h3).symm _ (Wk.to (L := [(0, (.sl (List.map eCell p0))), (3, (.own 0 0 (List.length (Sh.put l17 (Sh.w (c28 - 1000)) (Sh.w (c32 + 1)))))), (4, (i64 i6)), (5, (i64 k16))]) ⟨.rfl, (.len (by simp only [Sh.put_len])), .rfl, .rfl, trivial⟩))
   ·intro b30 h3
    exact AW.skip (M26 l17 (Sh.some_eq h3).symm _ (Wk.tr rfl))
  ·intro b23 h2
   exact AW.exit (M19 l17 (Sh.some_eq h2).symm _ (Wk.tr rfl))
 ·intro b13 h1
  exact AW.exit (M9 l7 (Sh.some_eq h1).symm _ (Wk.tr rfl))
theorem spec_allMarked_ok {N : Nat} {p0 : (List Bool)} {p1 : (List Int)} {r : Bool} (h0 : spec_allMarked N p0 p1 = some r) : ACalls Tryz.prog 91 [(.sl (List.map eB p0)), (.sl (List.map eI p1))] [] (fun v st => v = (.bool r) ∧ st = []) := by
 unfold spec_allMarked at h0
 refine ACalls.intro Tryz.func91 rfl (by show 2 ≤ 28; decide) ?_
 show AW _ 0 _ (aret _ 0 Tryz.f91 _) ⟨28, _, _⟩
 refine AW.weaken (Wk.to (L := [(0, (.sl (List.map eB p0))), (1, (.sl (List.map eI p1)))]) ⟨.rfl, .rfl, trivial⟩) ?_
 refine sr rfl fun K1 hK1 => ?_
 refine zq tb rfl ?_
 refine dn hK1 rfl ?_
 refine AW.seq fun K2 hK2 => ?_
 refine sr rfl fun K3 hK3 => ?_
 refine zq tb rfl ?_
 refine dn hK3 rfl ?_
 obtain ⟨o5, h1, h0⟩ := Sh.cont_some h0
 have M5 : ∀ (_ : Unit), o5 = Sum.inr () → ∀ s, Wk 0 s ⟨28, envL [], []⟩ → K2 s := by
  intro _ hq s hw
  subst o5
  try dsimp only at h0
  refine hK2 _ (AW.weaken hw ?_)
  refine sr rfl fun K6 hK6 => ?_
  refine zq tb rfl ?_
  refine dn hK6 rfl ?_
  replace h0 := Sh.some_eq h0
  subst r
  exact AW.ret (xr (Wk.to (L := [(4, (.bool true))]) ⟨.rfl, trivial⟩))
 refine AW.block (AW.loopF (σ := Int) (fun n v => spec_allMarked_L1 p0 p1 n v = some o5) (fun i4 => ⟨28, envL [(0, (.sl (List.map eB p0))), (1, (.sl (List.map eI p1))), (5, (i64 i4))], []⟩) N 0 h1 (Wk.tr rfl) (fun _ hv => by rw [spec_allMarked_L1] at hv; cases hv) ?_)
 rintro n i4 h1
 try dsimp only at h1 ⊢
 rw [spec_allMarked_L1] at h1
 refine AW.seq fun K7 hK7 => ?_
 refine sr rfl fun K8 hK8 => ?_
 iterate 2 refine zq tb rfl ?_
 refine zl tb rfl rfl ?_
 refine zq tb rfl ?_
 refine dn hK8 rfl ?_
 refine ci h1 rfl ?_ ?_ <;> clear h1
 ·intro b9 h1
  refine AW.skip (hK7 _ ?_)
  refine AW.seq fun K10 hK10 => ?_
  refine AW.block ?_
  refine AW.seq fun K11 hK11 => ?_
  obtain ⟨o13, h2, h1⟩ := Sh.bind_some h1
  have M13 : ∀ (t12 : Bool), o13 = t12 → ∀ s, Wk 0 s ⟨28, envL [(0, (.sl (List.map eB p0))), (1, (.sl (List.map eI p1))), (5, (i64 i4)), (27, (.bool t12))], []⟩ → K11 s := by
   intro t12 hq s hw
   subst o13
   try dsimp only at h1
   refine hK11 _ (AW.weaken hw ?_)
   refine ci h1 rfl ?_ ?_ <;> clear h1
   ·intro b14 h1
    refine sr rfl fun K15 hK15 => ?_
    refine zq tb rfl ?_
    refine dn hK15 rfl ?_
    replace h1 := Sh.some_eq h1
    subst o5
    try dsimp only [id] at h0
    replace h0 := Sh.some_eq h0
    subst r
    exact AW.ret (xr (Wk.to (L := [(4, (.bool false))]) ⟨.rfl, trivial⟩))
   ·intro b14 h1
    refine AW.skip (hK10 _ ?_)
    refine AW.regionO (by rfl) ?_
    iterate 3 refine zq tb rfl ?_
    exact AO.done (xi (Sh.w (i4 + 1)) h1 (Wk.tr rfl))
  refine AW.regionO (by rfl) ?_
  iterate 2 refine zq tb rfl ?_
  obtain ⟨c16, gc16, h2⟩ := Sh.bind_some h2
  refine zx ei26 gc16 rfl rfl rfl ?_
  refine zq tb rfl ?_
  obtain ⟨q17, gq17, h2⟩ := Sh.bind_some h2
  refine zc hb66 (spec_isPointer_ok gq17) rfl rfl rfl ?_
  refine zq tb rfl ?_
  rcases Sh.ite_some h2 with ⟨b18, h2⟩ | ⟨b18, h2⟩
  ·refine zg tb b18 rfl ?_
   iterate 2 refine zg tb b18 rfl ?_
   refine ao_q (v := (.iptr (eI c16) 0)) (go1 rfl rfl b18) rfl (aq_ixs ei26 rfl rfl gc16 rfl) ?_
   iterate 2 refine zg tb b18 rfl ?_
   obtain ⟨c19, gc19, h2⟩ := Sh.bind_some h2
   refine ao_q (v := (.iptr (eB c19) 0)) (go1 rfl rfl b18) rfl (aq_ixs ei151 rfl rfl gc19 rfl) ?_
   iterate 2 refine zg tb b18 rfl ?_
   refine zt b18 rfl ?_
   exact AO.done (M13 (!c19) (Sh.some_eq h2).symm _ (Wk.tr rfl))
  ·refine zs b18 rfl ?_
   iterate 8 refine zs b18 rfl ?_
   refine zf b18 rfl ?_
   exact AO.done (M13 false (Sh.some_eq h2).symm _ (Wk.tr rfl))
 ·intro b9 h1
  exact AW.exit (M5 () (Sh.some_eq h1).symm _ (Wk.tr rfl))
theorem spec_isAcyclic_ok {N : Nat} {p0 : (List Cell)} {r : Bool} (h0 : spec_isAcyclic N p0 = some r) : ACalls Tryz.prog 64 [(.sl (List.map eCell p0))] [] (fun v st => v = (.bool r) ∧ st = []) := by
 unfold spec_isAcyclic at h0
 refine ACalls.intro Tryz.func64 rfl (by show 1 ≤ 40; decide) ?_
 show AW _ 0 _ (aret _ 0 Tryz.f64 _) ⟨40, _, _⟩
 refine AW.weaken (Wk.to (L := [(0, (.sl (List.map eCell p0)))]) ⟨.rfl, trivial⟩) ?_
 refine sr rfl fun K1 hK1 => ?_
 refine zq tb rfl ?_
 refine dn hK1 rfl ?_
 refine sr rfl fun K2 hK2 => ?_
 refine zq tb rfl ?_
 refine zl tb rfl rfl ?_
 obtain ⟨l3, gl3, h0⟩ := Sh.bind_some h0
 refine ao_make (m := 0) (st' := [⟨0, 4, 1, List.map eB l3⟩]) (enc := eB) (u := false) go0 ei151 rfl rfl rfl gl3 rfl rfl ?_
 refine zq tb rfl ?_
 refine dn hK2 rfl ?_
 refine sr rfl fun K4 hK4 => ?_
 refine zq tb rfl ?_
 refine dn hK4 rfl ?_
 refine AW.seq fun K5 hK5 => ?_
 refine sr rfl fun K6 hK6 => ?_
 refine zq tb rfl ?_
 refine dn hK6 rfl ?_
 obtain ⟨o11, h1, h0⟩ := Sh.bind_some h0
 have M11 : ∀ (many10 : Int), o11 = many10 → ∀ s, Wk 0 s ⟨40, envL [(0, (.sl (List.map eCell p0))), (4, (i64 many10))], []⟩ → K5 s := by
  intro many10 hq s hw
  subst o11
  try dsimp only at h0
  refine hK5 _ (AW.weaken hw ?_)
  refine sr rfl fun K12 hK12 => ?_
  iterate 2 refine zq tb rfl ?_
  refine zl tb rfl rfl ?_
  iterate 2 refine zq tb rfl ?_
  refine dn hK12 rfl ?_
  replace h0 := Sh.some_eq h0
  subst r
  exact AW.ret (xr (Wk.to (L := [(2, (.bool (decide (many10 = (Sh.len p0)))))]) ⟨.rfl, trivial⟩))
 refine AW.block (AW.loopF (σ := Int × Bool × (List Bool)) (fun n v => spec_isAcyclic_L1 N p0 n v.1 v.2.1 v.2.2 = some o11) (fun (many7, more8, l9) => ⟨40, envL [(0, (.sl (List.map eCell p0))), (3, (.own 0 0 (List.length l9))), (4, (i64 many7)), (5, (.bool more8))], [⟨0, 4, 1, List.map eB l9⟩]⟩) N (0, true, l3) h1 (Wk.tr rfl) (fun _ hv => by rw [spec_isAcyclic_L1] at hv; cases hv) ?_)
 rintro n ⟨many7, more8, l9⟩ h1
 try dsimp only at h1 ⊢
 rw [spec_isAcyclic_L1] at h1
 refine AW.seq fun K13 hK13 => ?_
 refine sr rfl fun K14 hK14 => ?_
 refine zq tb rfl ?_
 refine dn hK14 rfl ?_
 refine ci h1 rfl ?_ ?_ <;> clear h1
 ·intro b15 h1
  refine AW.skip (hK13 _ ?_)
  refine AW.block ?_
  refine sr rfl fun K16 hK16 => ?_
  refine zq tb rfl ?_
  refine dn hK16 rfl ?_
  refine sr rfl fun K17 hK17 => ?_
  refine zq tb rfl ?_
  refine dn hK17 rfl ?_
  obtain ⟨o25, h2, h1⟩ := Sh.bind_some h1
  have M25 : ∀ (many22 : Int) (more23 : Bool) (l24 : (List Bool)), o25 = (many22, more23, l24) → ∀ s, Wk 0 s ⟨40, envL [(0, (.sl (List.map eCell p0))), (3, (.own 0 0 (List.length l24))), (4, (i64 many22)), (5, (.bool more23))], [⟨0, 4, 1, List.map eB l24⟩]⟩ → (∃ v, spec_isAcyclic_L1 N p0 n v.1 v.2.1 v.2.2 = some o11 ∧ Wk 0 s ((fun (many7, more8, l9) => ⟨40, envL [(0, (.sl (List.map eCell p0))), (3, (.own 0 0 (List.length l9))), (4, (i64 many7)), (5, (.bool more8))], [⟨0, 4, 1, List.map eB l9⟩]⟩) v)) := by
   intro many22 more23 l24 hq s hw
   subst o25
   try dsimp only at h1
   exact Exists.intro (many22, more23, l24) (And.intro h1 (hw.trans (Wk.to (L := [(0, (.sl (List.map eCell p0))), (3, (.own 0 0 (List.length l24))), (4, (i64 many22)), (5, (.bool more23))]) ⟨.rfl, .rfl, .rfl, .rfl, trivial⟩)))
  refine AW.block (AW.loopF (σ := Int × Bool × Int × (List Bool)) (fun n v => spec_isAcyclic_L2 N p0 n v.1 v.2.1 v.2.2.1 v.2.2.2 = some o25) (fun (many18, more19, i20, l21) => ⟨40, envL [(0, (.sl (List.map eCell p0))), (3, (.own 0 0 (List.length l21))), (4, (i64 many18)), (5, (.bool more19)), (6, (i64 i20))], [⟨0, 4, 1, List.map eB l21⟩]⟩) N (many7, false, 0, l9) h2 (Wk.tr rfl) (fun _ hv => by rw [spec_isAcyclic_L2] at hv; cases hv) ?_)
  rintro n ⟨many18, more19, i20, l21⟩ h2
  try dsimp only at h2 ⊢
  rw [spec_isAcyclic_L2] at h2
  refine AW.seq fun K26 hK26 => ?_
  refine sr rfl fun K27 hK27 => ?_
  iterate 2 refine zq tb rfl ?_
  refine zl tb rfl rfl ?_
  refine zq tb rfl ?_
  refine dn hK27 rfl ?_
  refine ci h2 rfl ?_ ?_ <;> clear h2
  ·intro b28 h2
   refine AW.skip (hK26 _ ?_)
   refine AW.seq fun K29 hK29 => ?_
   obtain ⟨o33, h3, h2⟩ := Sh.bind_some h2
   have M33 : ∀ (many30 : Int) (more31 : Bool) (l32 : (List Bool)), o33 = (many30, more31, l32) → ∀ s, Wk 0 s ⟨40, envL [(0, (.sl (List.map eCell p0))), (3, (.own 0 0 (List.length l32))), (4, (i64 many30)), (5, (.bool more31)), (6, (i64 i20))], [⟨0, 4, 1, List.map eB l32⟩]⟩ → K29 s := by
    intro many30 more31 l32 hq s hw
    subst o33
    try dsimp only at h2
    refine hK29 _ (AW.weaken hw ?_)
    refine AW.regionO (by rfl) ?_
    iterate 3 refine zq tb rfl ?_
    exact AO.done (xi (many30, more31, Sh.w (i20 + 1), l32) h2 (Wk.tr rfl))
   refine AW.block ?_
   refine AW.seq fun K34 hK34 => ?_
   obtain ⟨o36, h4, h3⟩ := Sh.bind_some h3
   have M36 : ∀ (t35 : Bool), o36 = t35 → ∀ s, Wk 0 s ⟨40, envL [(0, (.sl (List.map eCell p0))), (3, (.own 0 0 (List.length l21))), (4, (i64 many18)), (5, (.bool more19)), (6, (i64 i20)), (30, (.bool t35))], [⟨0, 4, 1, List.map eB l21⟩]⟩ → K34 s := by
    intro t35 hq s hw
    subst o36
    try dsimp only at h3
    refine hK34 _ (AW.weaken hw ?_)
    refine ci h3 rfl ?_ ?_ <;> clear h3
    ·intro b37 h3
     refine sr rfl fun K38 hK38 => ?_
     iterate 2 refine zq tb rfl ?_
     obtain ⟨c39, gc39, h3⟩ := Sh.bind_some h3
     refine zz (.ptr 0 0 (Int.toNat i20) 0) (aq_ixo ei151 rfl rfl rfl rfl gc39) rfl ?_
     refine ao_stl (st' := [⟨0, 4, 1, List.map eB (Sh.put l21 i20 true)⟩]) (u' := true) go0 ti4 rfl rfl gc39 rfl rfl rfl (show 0 + 1 ≤ 1 by decide) rfl rfl ?_
     refine dn hK38 rfl ?_
     refine sr rfl fun K40 hK40 => ?_
     iterate 3 refine zq tb rfl ?_
     refine dn hK40 rfl ?_
     refine AW.regionO (by rfl) ?_
     refine zq tb rfl ?_
     exact AO.done (M33 (Sh.w (many18 + 1)) true (Sh.put l21 i20 true) (Sh.some_eq h3).symm _ (Wk.to (L := [(0, (.sl (List.map eCell p0))), (3, (.own 0 0 (List.length (Sh.put l21 i20 true)))), (4, (i64 (Sh.w (many18 + 1)))), (5, (.bool true)), (6, (i64 i20))]) ⟨.rfl, (.len (by simp only [Sh.put_len])), .rfl, .rfl, .rfl, trivial⟩))
    ·intro b37 h3
     exact AW.skip (M33 many18 more19 l21 (Sh.some_eq h3).symm _ (Wk.tr rfl))
   refine AW.regionO (by rfl) ?_
   iterate 2 refine zq tb rfl ?_
   obtain ⟨c41, gc41, h4⟩ := Sh.bind_some h4
   refine zz (.ptr 0 0 (Int.toNat i20) 0) (aq_ixo ei151 rfl rfl rfl rfl gc41) rfl ?_
   refine zz (.bool c41) (aq_ldp ti4 rfl rfl (map_get gc41) rfl) rfl ?_
   iterate 2 refine zq tb rfl ?_
   rcases Sh.ite_some h4 with ⟨b42, h4⟩ | ⟨b42, h4⟩
   ·refine zg tb b42 rfl ?_
    iterate 2 refine zg tb b42 rfl ?_
    obtain ⟨c43, gc43, h4⟩ := Sh.bind_some h4
    refine ao_q (v := (.iptr (eCell c43) 0)) (go1 rfl rfl b42) rfl (aq_ixs ei39 rfl rfl gc43 rfl) ?_
    iterate 2 refine zg tb b42 rfl ?_
    obtain ⟨q44, gq44, h4⟩ := Sh.bind_some h4
    refine ao_callb (v' := (.bool q44)) (st' := [⟨0, 4, 1, List.map eB l21⟩]) (go1 rfl rfl b42) hb91 (spec_allMarked_ok gq44) rfl (.own rfl rfl (fun _ => rfl) (.val rfl .nil)) rfl trivial rfl rfl ?_
    refine zt b42 rfl ?_
    exact AO.done (M36 q44 (Sh.some_eq h4).symm _ (Wk.tr rfl))
   ·refine zs b42 rfl ?_
    iterate 6 refine zs b42 rfl ?_
    refine zf b42 rfl ?_
    exact AO.done (M36 false (Sh.some_eq h4).symm _ (Wk.tr rfl))
  ·intro b28 h2
   exact AW.exit (M25 many18 more19 l21 (Sh.some_eq h2).symm _ (Wk.tr rfl))
 ·intro b15 h1
  exact AW.exit (M11 many7 (Sh.some_eq h1).symm _ (Wk.d0 _ rfl))
theorem spec_validHeap_ok {N : Nat} {p0 : (List Cell)} {r : Bool} (h0 : spec_validHeap N p0 = some r) : ACalls Tryz.prog 37 [(.sl (List.map eCell p0))] [] (fun v st => v = (.bool r) ∧ st = []) := by
 unfold spec_validHeap at h0
 refine ACalls.intro Tryz.func37 rfl (by show 1 ≤ 60; decide) ?_
 show AW _ 0 _ (aret _ 0 Tryz.f37 _) ⟨60, _, _⟩
 refine AW.weaken (Wk.to (L := [(0, (.sl (List.map eCell p0)))]) ⟨.rfl, trivial⟩) ?_
 refine sr rfl fun K1 hK1 => ?_
 refine zq tb rfl ?_
 refine dn hK1 rfl ?_
 refine AW.seq fun K2 hK2 => ?_
 refine AW.seq fun K3 hK3 => ?_
 obtain ⟨o5, h1, h0⟩ := Sh.bind_some h0
 have M5 : ∀ (t4 : Bool), o5 = t4 → ∀ s, Wk 0 s ⟨60, envL [(0, (.sl (List.map eCell p0))), (18, (.bool t4))], []⟩ → K3 s := by
  intro t4 hq s hw
  subst o5
  try dsimp only at h0
  refine hK3 _ (AW.weaken hw ?_)
  refine ci h0 rfl ?_ ?_ <;> clear h0
  ·intro b6 h0
   refine sr rfl fun K7 hK7 => ?_
   refine zq tb rfl ?_
   refine dn hK7 rfl ?_
   replace h0 := Sh.some_eq h0
   subst r
   exact AW.ret (xr (Wk.to (L := [(2, (.bool false))]) ⟨.rfl, trivial⟩))
  ·intro b6 h0
   refine AW.skip (hK2 _ ?_)
   refine AW.seq fun K8 hK8 => ?_
   refine sr rfl fun K9 hK9 => ?_
   refine zq tb rfl ?_
   refine dn hK9 rfl ?_
   obtain ⟨o11, h1, h0⟩ := Sh.cont_some h0
   have M11 : ∀ (_ : Unit), o11 = Sum.inr () → ∀ s, Wk 0 s ⟨60, envL [(0, (.sl (List.map eCell p0)))], []⟩ → K8 s := by
    intro _ hq s hw
    subst o11
    try dsimp only at h0
    refine hK8 _ (AW.weaken hw ?_)
    refine sr rfl fun K12 hK12 => ?_
    refine zq tb rfl ?_
    obtain ⟨q13, gq13, h0⟩ := Sh.bind_some h0
    refine ao_call (v' := (.own 0 0 (List.length q13))) (st' := [⟨0, 3, 1, List.map eI q13⟩]) go0 hb63 (spec_refsOf_ok gq13) rfl rfl ⟨(pure_map' fun _ => rfl), trivial⟩ rfl rfl ?_
    refine zq tb rfl ?_
    refine dn hK12 rfl ?_
    refine AW.seq fun K14 hK14 => ?_
    refine sr rfl fun K15 hK15 => ?_
    refine zq tb rfl ?_
    refine dn hK15 rfl ?_
    obtain ⟨o17, h1, h0⟩ := Sh.cont_some h0
    have M17 : ∀ (_ : Unit), o17 = Sum.inr () → ∀ s, Wk 0 s ⟨60, envL [(0, (.sl (List.map eCell p0)))], []⟩ → K14 s := by
     intro _ hq s hw
     subst o17
     try dsimp only at h0
     refine hK14 _ (AW.weaken hw ?_)
     refine sr rfl fun K18 hK18 => ?_
     refine zq tb rfl ?_
     obtain ⟨q19, gq19, h0⟩ := Sh.bind_some h0
     refine zc hb64 (spec_isAcyclic_ok gq19) rfl rfl rfl ?_
     refine zq tb rfl ?_
     refine dn hK18 rfl ?_
     replace h0 := Sh.some_eq h0
     subst r
     exact AW.ret (xr (Wk.to (L := [(2, (.bool q19))]) ⟨.rfl, trivial⟩))
    refine AW.block (AW.loopF (σ := Int) (fun n v => spec_validHeap_L2 p0 q13 n v = some o17) (fun i16 => ⟨60, envL [(0, (.sl (List.map eCell p0))), (4, (.own 0 0 (List.length q13))), (5, (i64 i16))], [⟨0, 3, 1, List.map eI q13⟩]⟩) N 0 h1 (Wk.tr rfl) (fun _ hv => by rw [spec_validHeap_L2] at hv; cases hv) ?_)
    rintro n i16 h1
    try dsimp only at h1 ⊢
    rw [spec_validHeap_L2] at h1
    refine AW.seq fun K20 hK20 => ?_
    refine sr rfl fun K21 hK21 => ?_
    iterate 2 refine zq tb rfl ?_
    refine zl tb rfl rfl ?_
    refine zq tb rfl ?_
    refine dn hK21 rfl ?_
    refine ci h1 rfl ?_ ?_ <;> clear h1
    ·intro b22 h1
     refine AW.skip (hK20 _ ?_)
     refine AW.seq fun K23 hK23 => ?_
     refine AW.block ?_
     refine AW.seq fun K24 hK24 => ?_
     obtain ⟨o26, h2, h1⟩ := Sh.bind_some h1
     have M26 : ∀ (t25 : Bool), o26 = t25 → ∀ s, Wk 0 s ⟨60, envL [(0, (.sl (List.map eCell p0))), (4, (.own 0 0 (List.length q13))), (5, (i64 i16)), (57, (.bool t25))], [⟨0, 3, 1, List.map eI q13⟩]⟩ → K24 s := by
      intro t25 hq s hw
      subst o26
      try dsimp only at h1
      refine hK24 _ (AW.weaken hw ?_)
      refine ci h1 rfl ?_ ?_ <;> clear h1
      ·intro b27 h1
       refine sr rfl fun K28 hK28 => ?_
       refine zq tb rfl ?_
       refine dn hK28 rfl ?_
       replace h1 := Sh.some_eq h1
       subst o17
       try dsimp only [id] at h0
       replace h0 := Sh.some_eq h0
       subst r
       exact AW.ret (xr (Wk.d0 [(2, (.bool false))] rfl))
      ·intro b27 h1
       refine AW.skip (hK23 _ ?_)
       refine AW.regionO (by rfl) ?_
       iterate 3 refine zq tb rfl ?_
       exact AO.done (xi (Sh.w (i16 + 1)) h1 (Wk.tr rfl))
     refine AW.draw (by kernel_rfl) (by kernel_rfl) (by rfl) ?_
     iterate 2 refine yq tb rfl ?_
     obtain ⟨c29, gc29, h2⟩ := Sh.bind_some h2
     refine yx ei39 gc29 rfl rfl rfl ?_
     iterate 4 refine yq tb rfl ?_
     rcases Sh.ite_some h2 with ⟨b30, h2⟩ | ⟨b30, h2⟩
     ·refine yg tb b30 rfl ?_
      refine yg tb b30 rfl ?_
      refine d_q (v := (.iptr (eCell c29) 0)) (go1 rfl rfl b30) rfl (aq_ixs ei39 rfl rfl gc29 rfl) ?_
      iterate 4 refine yg tb b30 rfl ?_
      obtain ⟨c31, gc31, h2⟩ := Sh.bind_some h2
      refine d_q (v := (.ptr 0 0 (Int.toNat i16) 0)) (go1 rfl rfl b30) rfl (aq_ixo ei26 rfl rfl rfl rfl gc31) ?_
      refine d_q (v := (i64 c31)) (go1 rfl rfl b30) rfl (aq_ldp ti3 rfl rfl (map_get gc31) rfl) ?_
      refine yg tb b30 rfl ?_
      refine yt b30 rfl ?_
      exact d_done (M26 (decide (c29.count < c31)) (Sh.some_eq h2).symm _ (Wk.tr rfl))
     ·refine ys b30 rfl ?_
      iterate 9 refine ys b30 rfl ?_
      refine yf b30 rfl ?_
      exact d_done (M26 false (Sh.some_eq h2).symm _ (Wk.tr rfl))
    ·intro b22 h1
     exact AW.exit (M17 () (Sh.some_eq h1).symm _ (Wk.d0 _ rfl))
   refine AW.block (AW.loopF (σ := Int) (fun n v => spec_validHeap_L1 N p0 n v = some o11) (fun i10 => ⟨60, envL [(0, (.sl (List.map eCell p0))), (3, (i64 i10))], []⟩) N 0 h1 (Wk.tr rfl) (fun _ hv => by rw [spec_validHeap_L1] at hv; cases hv) ?_)
   rintro n i10 h1
   try dsimp only at h1 ⊢
   rw [spec_validHeap_L1] at h1
   refine AW.seq fun K32 hK32 => ?_
   refine sr rfl fun K33 hK33 => ?_
   iterate 2 refine zq tb rfl ?_
   refine zl tb rfl rfl ?_
   refine zq tb rfl ?_
   refine dn hK33 rfl ?_
   refine ci h1 rfl ?_ ?_ <;> clear h1
   ·intro b34 h1
    refine AW.skip (hK32 _ ?_)
    refine AW.seq fun K35 hK35 => ?_
    refine AW.block ?_
    refine sr rfl fun K36 hK36 => ?_
    iterate 3 refine zq tb rfl ?_
    obtain ⟨c37, gc37, h1⟩ := Sh.bind_some h1
    refine zx ei39 gc37 rfl rfl rfl ?_
    refine zq tb rfl ?_
    obtain ⟨q38, gq38, h1⟩ := Sh.bind_some h1
    refine zc hb62 (spec_validCell_ok gq38) rfl rfl rfl ?_
    refine zq tb rfl ?_
    refine dn hK36 rfl ?_
    refine ci h1 rfl ?_ ?_ <;> clear h1
    ·intro b39 h1
     have b40 : q38 = false := by simpa using b39
     refine sr rfl fun K41 hK41 => ?_
     refine zq tb rfl ?_
     refine dn hK41 rfl ?_
     replace h1 := Sh.some_eq h1
     subst o11
     try dsimp only [id] at h0
     replace h0 := Sh.some_eq h0
     subst r
     exact AW.ret (xr (Wk.to (L := [(2, (.bool false))]) ⟨.rfl, trivial⟩))
    ·intro b39 h1
     have b42 : q38 = true := by simpa using b39
     refine AW.skip (hK35 _ ?_)
     refine AW.regionO (by rfl) ?_
     iterate 3 refine zq tb rfl ?_
     exact AO.done (xi (Sh.w (i10 + 1)) h1 (Wk.tr rfl))
   ·intro b34 h1
    exact AW.exit (M11 () (Sh.some_eq h1).symm _ (Wk.tr rfl))
 refine AW.regionO (by rfl) ?_
 refine zq tb rfl ?_
 refine zl tb rfl rfl ?_
 iterate 2 refine zq tb rfl ?_
 rcases Sh.ite_some h1 with ⟨b43, h1⟩ | ⟨b43, h1⟩
 ·refine zg tb b43 rfl ?_
  refine zg tb b43 rfl ?_
  refine ao_q (v := (i64 (Sh.len p0))) (go1 rfl rfl b43) rfl (aq_lens sl39 rfl) ?_
  refine zg tb b43 rfl ?_
  obtain ⟨c44, gc44, h1⟩ := Sh.bind_some h1
  refine ao_q (v := (.iptr (eCell c44) 0)) (go1 rfl rfl b43) rfl (aq_ixs ei39 rfl rfl gc44 rfl) ?_
  iterate 3 refine zg tb b43 rfl ?_
  refine zt b43 rfl ?_
  exact AO.done (M5 (decide (c44.count = 0)) (Sh.some_eq h1).symm _ (Wk.tr rfl))
 ·refine zs b43 rfl ?_
  iterate 7 refine zs b43 rfl ?_
  refine zf b43 rfl ?_
  exact AO.done (M5 false (Sh.some_eq h1).symm _ (Wk.tr rfl))
theorem spec_validRegs_ok {N : Nat} {p0 : (List Cell)} {p1 : RFrame} {r : Bool} (h0 : spec_validRegs N p0 p1 = some r) : ACalls Tryz.prog 65 [(.sl (List.map eCell p0)), (.agg (eRFrame p1))] [] (fun v st => v = (.bool r) ∧ st = []) := by
 unfold spec_validRegs at h0
 refine ACalls.intro Tryz.func65 rfl (by show 2 ≤ 50; decide) ?_
 show AW _ 0 _ (aret _ 0 Tryz.f65 _) ⟨50, _, _⟩
 refine AW.weaken (Wk.to (L := [(0, (.sl (List.map eCell p0))), (1, (.agg (eRFrame p1)))]) ⟨.rfl, .rfl, trivial⟩) ?_
 refine sr rfl fun K1 hK1 => ?_
 refine ao_box (m := 0) (st' := [⟨0, 92, 6, [(eRFrame p1)]⟩]) go0 rfl rfl rfl rfl rfl ?_
 refine zq tb rfl ?_
 refine dn hK1 rfl ?_
 refine AW.seq fun K2 hK2 => ?_
 refine sr rfl fun K3 hK3 => ?_
 refine zq tb rfl ?_
 refine dn hK3 rfl ?_
 obtain ⟨o5, h1, h0⟩ := Sh.cont_some h0
 have M5 : ∀ (_ : Unit), o5 = Sum.inr () → ∀ s, Wk 0 s ⟨50, envL [], []⟩ → K2 s := by
  intro _ hq s hw
  subst o5
  try dsimp only at h0
  refine hK2 _ (AW.weaken hw ?_)
  refine sr rfl fun K6 hK6 => ?_
  refine zq tb rfl ?_
  refine dn hK6 rfl ?_
  replace h0 := Sh.some_eq h0
  subst r
  exact AW.ret (xr (Wk.to (L := [(4, (.bool true))]) ⟨.rfl, trivial⟩))
 refine AW.block (AW.loopF (σ := Int) (fun n v => spec_validRegs_L1 p0 p1 n v = some o5) (fun r4 => ⟨50, envL [(0, (.sl (List.map eCell p0))), (3, (.ptr 0 0 0 0)), (5, (i64 r4))], [⟨0, 92, 6, [(eRFrame p1)]⟩]⟩) N 0 h1 (Wk.tr rfl) (fun _ hv => by rw [spec_validRegs_L1] at hv; cases hv) ?_)
 rintro n r4 h1
 try dsimp only at h1 ⊢
 rw [spec_validRegs_L1] at h1
 refine AW.seq fun K7 hK7 => ?_
 refine sr rfl fun K8 hK8 => ?_
 iterate 3 refine zq tb rfl ?_
 refine zl tb rfl rfl ?_
 refine zq tb rfl ?_
 refine dn hK8 rfl ?_
 refine ci h1 rfl ?_ ?_ <;> clear h1
 ·intro b9 h1
  refine AW.skip (hK7 _ ?_)
  refine AW.seq fun K10 hK10 => ?_
  refine AW.block ?_
  refine sr rfl fun K11 hK11 => ?_
  iterate 3 refine zq tb rfl ?_
  obtain ⟨c12, gc12, h1⟩ := Sh.bind_some h1
  refine zx ei26 gc12 rfl rfl rfl ?_
  iterate 2 refine zq tb rfl ?_
  refine dn hK11 rfl ?_
  refine AW.seq fun K13 hK13 => ?_
  obtain ⟨o15, h2, h1⟩ := Sh.bind_some h1
  have M15 : ∀ (t14 : Bool), o15 = t14 → ∀ s, Wk 0 s ⟨50, envL [(0, (.sl (List.map eCell p0))), (3, (.ptr 0 0 0 0)), (5, (i64 r4)), (49, (.bool t14))], [⟨0, 92, 6, [(eRFrame p1)]⟩]⟩ → K13 s := by
   intro t14 hq s hw
   subst o15
   try dsimp only at h1
   refine hK13 _ (AW.weaken hw ?_)
   refine ci h1 rfl ?_ ?_ <;> clear h1
   ·intro b16 h1
    refine sr rfl fun K17 hK17 => ?_
    refine zq tb rfl ?_
    refine dn hK17 rfl ?_
    replace h1 := Sh.some_eq h1
    subst o5
    try dsimp only [id] at h0
    replace h0 := Sh.some_eq h0
    subst r
    exact AW.ret (xr (Wk.d0 [(4, (.bool false))] rfl))
   ·intro b16 h1
    refine AW.skip (hK10 _ ?_)
    refine AW.regionO (by rfl) ?_
    iterate 3 refine zq tb rfl ?_
    exact AO.done (xi (Sh.w (r4 + 1)) h1 (Wk.tr rfl))
  refine AW.regionO (by rfl) ?_
  refine zq tb rfl ?_
  obtain ⟨q18, gq18, h2⟩ := Sh.bind_some h2
  refine zc hb35 (spec_inRange_ok gq18) rfl rfl rfl ?_
  iterate 2 refine zq tb rfl ?_
  rcases Sh.ite_some h2 with ⟨b19, h2⟩ | ⟨b19, h2⟩
  ·refine zg tb b19 rfl ?_
   obtain ⟨q20, gq20, h2⟩ := Sh.bind_some h2
   refine zd b19 hb66 (spec_isPointer_ok gq20) rfl rfl rfl rfl ?_
   refine zg tb b19 rfl ?_
   refine zt b19 rfl ?_
   refine zq tb rfl ?_
   rcases Sh.ite_some h2 with ⟨b21, h2⟩ | ⟨b21, h2⟩
   ·refine zs b21 rfl ?_
    iterate 6 refine zs b21 rfl ?_
    refine zt b21 rfl ?_
    refine zq tb rfl ?_
    iterate 7 refine zs rfl rfl ?_
    iterate 4 refine zn rfl ?_
    refine zs rfl rfl ?_
    refine zt rfl rfl ?_
    exact AO.done (M15 true (Sh.some_eq h2).symm _ (Wk.tr rfl))
   ·refine zg tb b21 rfl ?_
    iterate 2 refine zg tb b21 rfl ?_
    obtain ⟨c22, gc22, h2⟩ := Sh.bind_some h2
    refine ao_q (v := (.iptr (eI c22) 0)) (go1 rfl rfl b21) rfl (aq_ixs ei26 rfl rfl gc22 rfl) ?_
    refine zg tb b21 rfl ?_
    obtain ⟨q23, gq23, h2⟩ := Sh.bind_some h2
    refine zd b21 hb35 (spec_inRange_ok gq23) rfl rfl rfl rfl ?_
    refine zg tb b21 rfl ?_
    refine zf b21 rfl ?_
    refine zq tb rfl ?_
    rcases Sh.ite_some h2 with ⟨b24, h2⟩ | ⟨b24, h2⟩
    ·refine zs b24 rfl ?_
     iterate 6 refine zs b24 rfl ?_
     iterate 4 refine zn rfl ?_
     refine zs b24 rfl ?_
     refine zt b24 rfl ?_
     exact AO.done (M15 true (Sh.some_eq h2).symm _ (Wk.tr rfl))
    ·refine zg tb b24 rfl ?_
     iterate 2 refine zg tb b24 rfl ?_
     refine ao_q (v := (.iptr (eI c22) 0)) (go1 rfl rfl b24) rfl (aq_ixs ei26 rfl rfl gc22 rfl) ?_
     iterate 3 refine zg tb b24 rfl ?_
     rcases Sh.ite_some h2 with ⟨b25, h2⟩ | ⟨b25, h2⟩
     ·refine zg tb b25 rfl ?_
      refine zg tb b25 rfl ?_
      obtain ⟨q26, gq26, h2⟩ := Sh.bind_some h2
      refine zd b25 hb90 (spec_isLive_ok gq26) rfl rfl rfl rfl ?_
      refine zg tb b25 rfl ?_
      refine ao_q (v := (.bool (!q26))) (go1 rfl rfl b24) rfl (aq_pkt rfl b25 rfl) ?_
      refine zf b24 rfl ?_
      exact AO.done (M15 (!q26) (Sh.some_eq h2).symm _ (Wk.tr rfl))
     ·refine zs b25 rfl ?_
      iterate 3 refine zs b25 rfl ?_
      refine ao_q (v := (.bool false)) (go1 rfl rfl b24) rfl (aq_pkf rfl b25 rfl) ?_
      refine zf b24 rfl ?_
      exact AO.done (M15 false (Sh.some_eq h2).symm _ (Wk.tr rfl))
  ·refine zs b19 rfl ?_
   iterate 2 refine zs b19 rfl ?_
   refine zf b19 rfl ?_
   refine zq tb rfl ?_
   iterate 3 refine zg tb rfl rfl ?_
   obtain ⟨c27, gc27, h2⟩ := Sh.bind_some h2
   refine ao_q (v := (.iptr (eI c27) 0)) (go1 rfl rfl rfl) rfl (aq_ixs ei26 rfl rfl gc27 rfl) ?_
   refine zg tb rfl rfl ?_
   obtain ⟨q28, gq28, h2⟩ := Sh.bind_some h2
   refine zd rfl hb35 (spec_inRange_ok gq28) rfl rfl rfl rfl ?_
   refine zg tb rfl rfl ?_
   refine zf rfl rfl ?_
   refine zq tb rfl ?_
   rcases Sh.ite_some h2 with ⟨b29, h2⟩ | ⟨b29, h2⟩
   ·refine zs b29 rfl ?_
    iterate 6 refine zs b29 rfl ?_
    iterate 4 refine zn rfl ?_
    refine zs b29 rfl ?_
    refine zt b29 rfl ?_
    exact AO.done (M15 true (Sh.some_eq h2).symm _ (Wk.tr rfl))
   ·refine zg tb b29 rfl ?_
    iterate 2 refine zg tb b29 rfl ?_
    refine ao_q (v := (.iptr (eI c27) 0)) (go1 rfl rfl b29) rfl (aq_ixs ei26 rfl rfl gc27 rfl) ?_
    iterate 3 refine zg tb b29 rfl ?_
    rcases Sh.ite_some h2 with ⟨b30, h2⟩ | ⟨b30, h2⟩
    ·refine zg tb b30 rfl ?_
     refine zg tb b30 rfl ?_
     obtain ⟨q31, gq31, h2⟩ := Sh.bind_some h2
     refine zd b30 hb90 (spec_isLive_ok gq31) rfl rfl rfl rfl ?_
     refine zg tb b30 rfl ?_
     refine ao_q (v := (.bool (!q31))) (go1 rfl rfl b29) rfl (aq_pkt rfl b30 rfl) ?_
     refine zf b29 rfl ?_
     exact AO.done (M15 (!q31) (Sh.some_eq h2).symm _ (Wk.tr rfl))
    ·refine zs b30 rfl ?_
     iterate 3 refine zs b30 rfl ?_
     refine ao_q (v := (.bool false)) (go1 rfl rfl b29) rfl (aq_pkf rfl b30 rfl) ?_
     refine zf b29 rfl ?_
     exact AO.done (M15 false (Sh.some_eq h2).symm _ (Wk.tr rfl))
 ·intro b9 h1
  exact AW.exit (M5 () (Sh.some_eq h1).symm _ (Wk.d0 _ rfl))
theorem spec_validFrame_ok {N : Nat} {p0 : RImage} {p1 : RState} {p2 : Int} {r : Bool} (h0 : spec_validFrame N p0 p1 p2 = some r) : ACalls Tryz.prog 38 [(.agg (eRImage p0)), (.agg (eRState p1)), (i64 p2)] [] (fun v st => v = (.bool r) ∧ st = []) := by
 unfold spec_validFrame at h0
 refine ACalls.intro Tryz.func38 rfl (by show 3 ≤ 98; decide) ?_
 show AW _ 0 _ (aret _ 0 Tryz.f38 _) ⟨98, _, _⟩
 refine AW.weaken (Wk.to (L := [(0, (.agg (eRImage p0))), (1, (.agg (eRState p1))), (2, (i64 p2))]) ⟨.rfl, .rfl, .rfl, trivial⟩) ?_
 refine sr rfl fun K1 hK1 => ?_
 refine ao_box (m := 0) (st' := [⟨0, 37, 2, [(eRImage p0)]⟩]) go0 rfl rfl rfl rfl rfl ?_
 refine ao_box (m := 1) (st' := [⟨0, 37, 2, [(eRImage p0)]⟩, ⟨0, 42, 7, [(eRState p1)]⟩]) go0 rfl rfl rfl rfl rfl ?_
 refine zq tb rfl ?_
 refine dn hK1 rfl ?_
 refine sr rfl fun K2 hK2 => ?_
 iterate 3 refine zq tb rfl ?_
 obtain ⟨c3, gc3, h0⟩ := Sh.bind_some h0
 refine zx ei40 gc3 rfl rfl rfl ?_
 refine zq tb rfl ?_
 refine ao_alloc (m := 2) (st' := [⟨0, 37, 2, [(eRImage p0)]⟩, ⟨0, 42, 7, [(eRState p1)]⟩, ⟨0, 92, 6, [[(i64 0), (i64 0), (i64 0), .zc, .zc, .zc]]⟩]) go0 zi92 rfl rfl ?_
 refine ao_str (st' := [⟨0, 37, 2, [(eRImage p0)]⟩, ⟨0, 42, 7, [(eRState p1)]⟩, ⟨0, 92, 6, [(eRFrame c3)]⟩]) go0 ti92 rfl rfl rfl rfl rfl rfl (show 0 + 6 ≤ 6 by decide) rfl ?_
 refine dn hK2 rfl ?_
 refine AW.seq fun K4 hK4 => ?_
 refine sr rfl fun K5 hK5 => ?_
 iterate 4 refine zq tb rfl ?_
 refine zl tb rfl rfl ?_
 refine zq tb rfl ?_
 obtain ⟨q6, gq6, h0⟩ := Sh.bind_some h0
 refine zc hb35 (spec_inRange_ok gq6) rfl rfl rfl ?_
 refine zq tb rfl ?_
 refine dn hK5 rfl ?_
 refine ci h0 rfl ?_ ?_ <;> clear h0
 ·intro b7 h0
  have b8 : q6 = false := by simpa using b7
  refine sr rfl fun K9 hK9 => ?_
  refine zq tb rfl ?_
  refine dn hK9 rfl ?_
  replace h0 := Sh.some_eq h0
  subst r
  exact AW.ret (xr (Wk.d0 [(6, (.bool false))] rfl))
 ·intro b7 h0
  have b10 : q6 = true := by simpa using b7
  refine AW.skip (hK4 _ ?_)
  refine sr rfl fun K11 hK11 => ?_
  iterate 4 refine zq tb rfl ?_
  obtain ⟨c12, gc12, h0⟩ := Sh.bind_some h0
  refine zx ei35 gc12 rfl rfl rfl ?_
  refine zq tb rfl ?_
  refine ao_alloc (m := 3) (st' := [⟨0, 37, 2, [(eRImage p0)]⟩, ⟨0, 42, 7, [(eRState p1)]⟩, ⟨0, 92, 6, [(eRFrame c3)]⟩, ⟨0, 88, 5, [[.zc, .zc, (i64 0), (i64 0), .zc]]⟩]) go0 zi88 rfl rfl ?_
  refine ao_str (st' := [⟨0, 37, 2, [(eRImage p0)]⟩, ⟨0, 42, 7, [(eRState p1)]⟩, ⟨0, 92, 6, [(eRFrame c3)]⟩, ⟨0, 88, 5, [(eRProc c12)]⟩]) go0 ti88 rfl rfl rfl rfl rfl rfl (show 0 + 5 ≤ 5 by decide) rfl ?_
  refine dn hK11 rfl ?_
  refine AW.seq fun K13 hK13 => ?_
  refine AW.seq fun K14 hK14 => ?_
  obtain ⟨o16, h1, h0⟩ := Sh.bind_some h0
  have M16 : ∀ (t15 : Bool), o16 = t15 → ∀ s, Wk 0 s ⟨98, envL [(2, (i64 p2)), (4, (.ptr 0 0 0 0)), (7, (.ptr 1 0 0 0)), (66, (.bool t15))], [⟨0, 42, 7, [(eRState p1)]⟩, ⟨0, 92, 6, [(eRFrame c3)]⟩]⟩ → K14 s := by
   intro t15 hq s hw
   subst o16
   try dsimp only at h0
   refine hK14 _ (AW.weaken hw ?_)
   refine ci h0 rfl ?_ ?_ <;> clear h0
   ·intro b17 h0
    refine sr rfl fun K18 hK18 => ?_
    refine zq tb rfl ?_
    refine dn hK18 rfl ?_
    replace h0 := Sh.some_eq h0
    subst r
    exact AW.ret (xr (Wk.d0 [(6, (.bool false))] rfl))
   ·intro b17 h0
    refine AW.skip (hK13 _ ?_)
    refine AW.seq fun K19 hK19 => ?_
    refine sr rfl fun K20 hK20 => ?_
    iterate 2 refine zq tb rfl ?_
    refine dn hK20 rfl ?_
    refine ci h0 rfl ?_ ?_ <;> clear h0
    ·intro b21 h0
     refine sr rfl fun K22 hK22 => ?_
     iterate 4 refine zq tb rfl ?_
     refine dn hK22 rfl ?_
     replace h0 := Sh.some_eq h0
     subst r
     exact AW.ret (xr (Wk.d0 [(6, (.bool (decide (c3.dst = 0))))] rfl))
    ·intro b21 h0
     refine AW.skip (hK19 _ ?_)
     refine AW.seq fun K23 hK23 => ?_
     obtain ⟨o25, h1, h0⟩ := Sh.bind_some h0
     have M25 : ∀ (t24 : Bool), o25 = t24 → ∀ s, Wk 0 s ⟨98, envL [(6, (.bool t24))], []⟩ → K23 s := by
      intro t24 hq s hw
      subst o25
      try dsimp only at h0
      refine hK23 _ (AW.weaken hw ?_)
      replace h0 := Sh.some_eq h0
      subst r
      exact AW.ret (xr (Wk.to (L := [(6, (.bool t24))]) ⟨.rfl, trivial⟩))
     refine AW.draw (by kernel_rfl) (by kernel_rfl) (by rfl) ?_
     iterate 6 refine yq tb rfl ?_
     obtain ⟨c26, gc26, h1⟩ := Sh.bind_some h1
     refine yx ei40 gc26 rfl rfl rfl ?_
     iterate 2 refine yq tb rfl ?_
     refine yl tb rfl rfl ?_
     refine yq tb rfl ?_
     obtain ⟨q27, gq27, h1⟩ := Sh.bind_some h1
     refine d_call (v := (.bool q27)) go0 hb35 (spec_inRange_ok gq27) rfl rfl rfl ?_
     refine yq tb rfl ?_
     rcases Sh.ite_some h1 with ⟨b28, h1⟩ | ⟨b28, h1⟩
     ·refine yg tb b28 rfl ?_
      iterate 3 refine yg tb b28 rfl ?_
      refine d_q (v := (.iptr (eRFrame c26) 0)) (go1 rfl rfl b28) rfl (aq_ixs ei40 rfl rfl gc26 rfl) ?_
      iterate 4 refine yg tb b28 rfl ?_
      obtain ⟨c29, gc29, h1⟩ := Sh.bind_some h1
      refine d_q (v := (.iptr (eI c29) 0)) (go1 rfl rfl b28) rfl (aq_ixs ei26 rfl rfl gc29 rfl) ?_
      iterate 2 refine yg tb b28 rfl ?_
      refine yt b28 rfl ?_
      refine yq tb rfl ?_
      exact d_done (M25 (decide (c29 = 0)) (Sh.some_eq h1).symm _ (Wk.d0 _ rfl))
     ·refine ys b28 rfl ?_
      iterate 11 refine ys b28 rfl ?_
      refine yf b28 rfl ?_
      refine yq tb rfl ?_
      exact d_done (M25 false (Sh.some_eq h1).symm _ (Wk.d0 _ rfl))
  refine AW.regionO (by rfl) ?_
  iterate 4 refine zq tb rfl ?_
  refine zl tb rfl rfl ?_
  refine zq tb rfl ?_
  obtain ⟨q30, gq30, h1⟩ := Sh.bind_some h1
  refine zc hb35 (spec_inRange_ok gq30) rfl rfl rfl ?_
  iterate 2 refine zq tb rfl ?_
  rcases Sh.ite_some h1 with ⟨b31, h1⟩ | ⟨b31, h1⟩
  ·refine zs b31 rfl ?_
   iterate 5 refine zs b31 rfl ?_
   refine zt b31 rfl ?_
   refine zq tb rfl ?_
   iterate 6 refine zs rfl rfl ?_
   refine zt rfl rfl ?_
   refine zq tb rfl ?_
   iterate 6 refine zs rfl rfl ?_
   refine zt rfl rfl ?_
   refine zq tb rfl ?_
   iterate 5 refine zs rfl rfl ?_
   refine zt rfl rfl ?_
   exact AO.done (M16 true (Sh.some_eq h1).symm _ (Wk.permk (L := [(2, (i64 p2)), (4, (.ptr 0 0 0 0)), (7, (.ptr 1 0 0 0)), (66, (.bool true))]) (st' := [⟨0, 42, 7, [(eRState p1)]⟩, ⟨0, 92, 6, [(eRFrame c3)]⟩]) (st1 := [⟨0, 42, 7, [(eRState p1)]⟩, ⟨0, 92, 6, [(eRFrame c3)]⟩]) [1, 2] rfl .nil (by decide) rfl rfl (.raw rfl rfl (.raw rfl rfl .nil)) ⟨.rfl, .rfl, .rfl, .rfl, trivial⟩))
  ·refine zg tb b31 rfl ?_
   refine zg tb b31 rfl ?_
   refine ao_q (v := (i64 (Sh.len c3.regs))) (go1 rfl rfl b31) rfl (aq_lens sl26 rfl) ?_
   iterate 3 refine zg tb b31 rfl ?_
   refine zf b31 rfl ?_
   refine zq tb rfl ?_
   rcases Sh.ite_some h1 with ⟨b32, h1⟩ | ⟨b32, h1⟩
   ·refine zs b32 rfl ?_
    iterate 5 refine zs b32 rfl ?_
    refine zt b32 rfl ?_
    refine zq tb rfl ?_
    iterate 6 refine zs rfl rfl ?_
    refine zt rfl rfl ?_
    refine zq tb rfl ?_
    iterate 5 refine zs rfl rfl ?_
    refine zt rfl rfl ?_
    exact AO.done (M16 true (Sh.some_eq h1).symm _ (Wk.permk (L := [(2, (i64 p2)), (4, (.ptr 0 0 0 0)), (7, (.ptr 1 0 0 0)), (66, (.bool true))]) (st' := [⟨0, 42, 7, [(eRState p1)]⟩, ⟨0, 92, 6, [(eRFrame c3)]⟩]) (st1 := [⟨0, 42, 7, [(eRState p1)]⟩, ⟨0, 92, 6, [(eRFrame c3)]⟩]) [1, 2] rfl .nil (by decide) rfl rfl (.raw rfl rfl (.raw rfl rfl .nil)) ⟨.rfl, .rfl, .rfl, .rfl, trivial⟩))
   ·refine zg tb b32 rfl ?_
    refine zg tb b32 rfl ?_
    refine ao_q (v := (i64 (Sh.len c3.own))) (go1 rfl rfl b32) rfl (aq_lens sl26 rfl) ?_
    iterate 3 refine zg tb b32 rfl ?_
    refine zf b32 rfl ?_
    refine zq tb rfl ?_
    rcases Sh.ite_some h1 with ⟨b33, h1⟩ | ⟨b33, h1⟩
    ·refine zs b33 rfl ?_
     iterate 5 refine zs b33 rfl ?_
     refine zt b33 rfl ?_
     refine zq tb rfl ?_
     iterate 5 refine zs rfl rfl ?_
     refine zt rfl rfl ?_
     exact AO.done (M16 true (Sh.some_eq h1).symm _ (Wk.permk (L := [(2, (i64 p2)), (4, (.ptr 0 0 0 0)), (7, (.ptr 1 0 0 0)), (66, (.bool true))]) (st' := [⟨0, 42, 7, [(eRState p1)]⟩, ⟨0, 92, 6, [(eRFrame c3)]⟩]) (st1 := [⟨0, 42, 7, [(eRState p1)]⟩, ⟨0, 92, 6, [(eRFrame c3)]⟩]) [1, 2] rfl .nil (by decide) rfl rfl (.raw rfl rfl (.raw rfl rfl .nil)) ⟨.rfl, .rfl, .rfl, .rfl, trivial⟩))
    ·refine zg tb b33 rfl ?_
     refine zg tb b33 rfl ?_
     refine ao_q (v := (i64 (Sh.len c3.held))) (go1 rfl rfl b33) rfl (aq_lens sl26 rfl) ?_
     iterate 3 refine zg tb b33 rfl ?_
     refine zf b33 rfl ?_
     refine zq tb rfl ?_
     rcases Sh.ite_some h1 with ⟨b34, h1⟩ | ⟨b34, h1⟩
     ·refine zs b34 rfl ?_
      iterate 4 refine zs b34 rfl ?_
      refine zt b34 rfl ?_
      exact AO.done (M16 true (Sh.some_eq h1).symm _ (Wk.permk (L := [(2, (i64 p2)), (4, (.ptr 0 0 0 0)), (7, (.ptr 1 0 0 0)), (66, (.bool true))]) (st' := [⟨0, 42, 7, [(eRState p1)]⟩, ⟨0, 92, 6, [(eRFrame c3)]⟩]) (st1 := [⟨0, 42, 7, [(eRState p1)]⟩, ⟨0, 92, 6, [(eRFrame c3)]⟩]) [1, 2] rfl .nil (by decide) rfl rfl (.raw rfl rfl (.raw rfl rfl .nil)) ⟨.rfl, .rfl, .rfl, .rfl, trivial⟩))
     ·refine zg tb b34 rfl ?_
      iterate 2 refine zg tb b34 rfl ?_
      obtain ⟨q35, gq35, h1⟩ := Sh.bind_some h1
      refine zd b34 hb65 (spec_validRegs_ok gq35) rfl rfl rfl rfl ?_
      refine zg tb b34 rfl ?_
      refine zf b34 rfl ?_
      exact AO.done (M16 (!q35) (Sh.some_eq h1).symm _ (Wk.permk (L := [(2, (i64 p2)), (4, (.ptr 0 0 0 0)), (7, (.ptr 1 0 0 0)), (66, (.bool (!q35)))]) (st' := [⟨0, 42, 7, [(eRState p1)]⟩, ⟨0, 92, 6, [(eRFrame c3)]⟩]) (st1 := [⟨0, 42, 7, [(eRState p1)]⟩, ⟨0, 92, 6, [(eRFrame c3)]⟩]) [1, 2] rfl .nil (by decide) rfl rfl (.raw rfl rfl (.raw rfl rfl .nil)) ⟨.rfl, .rfl, .rfl, .rfl, trivial⟩))
theorem spec_heldOnce_ok {N : Nat} {p0 : RState} {r : Bool} (h0 : spec_heldOnce N p0 = some r) : ACalls Tryz.prog 39 [(.agg (eRState p0))] [] (fun v st => v = (.bool r) ∧ st = []) := by
 unfold spec_heldOnce at h0
 refine ACalls.intro Tryz.func39 rfl (by show 1 ≤ 100; decide) ?_
 show AW _ 0 _ (aret _ 0 Tryz.f39 _) ⟨100, _, _⟩
 refine AW.weaken (Wk.to (L := [(0, (.agg (eRState p0)))]) ⟨.rfl, trivial⟩) ?_
 refine sr rfl fun K1 hK1 => ?_
 refine ao_box (m := 0) (st' := [⟨0, 42, 7, [(eRState p0)]⟩]) go0 rfl rfl rfl rfl rfl ?_
 refine zq tb rfl ?_
 refine dn hK1 rfl ?_
 refine sr rfl fun K2 hK2 => ?_
 iterate 2 refine zq tb rfl ?_
 refine zl tb rfl rfl ?_
 obtain ⟨l3, gl3, h0⟩ := Sh.bind_some h0
 refine ao_make (m := 1) (st' := [⟨0, 42, 7, [(eRState p0)]⟩, ⟨0, 3, 1, List.map eI l3⟩]) (enc := eI) (u := 0) go0 ei26 rfl rfl rfl gl3 rfl rfl ?_
 refine zq tb rfl ?_
 refine dn hK2 rfl ?_
 refine AW.seq fun K4 hK4 => ?_
 refine sr rfl fun K5 hK5 => ?_
 refine zq tb rfl ?_
 refine dn hK5 rfl ?_
 obtain ⟨o9, h1, h0⟩ := Sh.cont_some h0
 have M9 : ∀ (l8 : (List Int)), o9 = Sum.inr l8 → ∀ s, Wk 0 s ⟨100, envL [(1, (.ptr 0 0 0 0)), (3, (.own 1 0 (List.length l8)))], [⟨0, 42, 7, [(eRState p0)]⟩, ⟨0, 3, 1, List.map eI l8⟩]⟩ → K4 s := by
  intro l8 hq s hw
  subst o9
  try dsimp only at h0
  refine hK4 _ (AW.weaken hw ?_)
  refine AW.seq fun K10 hK10 => ?_
  refine sr rfl fun K11 hK11 => ?_
  refine zq tb rfl ?_
  refine dn hK11 rfl ?_
  obtain ⟨o13, h1, h0⟩ := Sh.cont_some h0
  have M13 : ∀ (_ : Unit), o13 = Sum.inr () → ∀ s, Wk 0 s ⟨100, envL [], []⟩ → K10 s := by
   intro _ hq s hw
   subst o13
   try dsimp only at h0
   refine hK10 _ (AW.weaken hw ?_)
   refine sr rfl fun K14 hK14 => ?_
   refine zq tb rfl ?_
   refine dn hK14 rfl ?_
   replace h0 := Sh.some_eq h0
   subst r
   exact AW.ret (xr (Wk.to (L := [(2, (.bool true))]) ⟨.rfl, trivial⟩))
  refine AW.block (AW.loopF (σ := Int) (fun n v => spec_heldOnce_L2 l8 p0 n v = some o13) (fun i12 => ⟨100, envL [(1, (.ptr 0 0 0 0)), (3, (.own 1 0 (List.length l8))), (7, (i64 i12))], [⟨0, 42, 7, [(eRState p0)]⟩, ⟨0, 3, 1, List.map eI l8⟩]⟩) N 0 h1 (Wk.tr rfl) (fun _ hv => by rw [spec_heldOnce_L2] at hv; cases hv) ?_)
  rintro n i12 h1
  try dsimp only at h1 ⊢
  rw [spec_heldOnce_L2] at h1
  refine AW.seq fun K15 hK15 => ?_
  refine sr rfl fun K16 hK16 => ?_
  iterate 2 refine zq tb rfl ?_
  refine zz (i64 (Sh.len l8)) (aq_leno sl26 rfl rfl rfl) rfl ?_
  refine zq tb rfl ?_
  refine dn hK16 rfl ?_
  refine ci h1 rfl ?_ ?_ <;> clear h1
  ·intro b17 h1
   refine AW.skip (hK15 _ ?_)
   refine AW.seq fun K18 hK18 => ?_
   refine AW.block ?_
   refine AW.seq fun K19 hK19 => ?_
   obtain ⟨o21, h2, h1⟩ := Sh.bind_some h1
   have M21 : ∀ (t20 : Bool), o21 = t20 → ∀ s, Wk 0 s ⟨100, envL [(1, (.ptr 0 0 0 0)), (3, (.own 1 0 (List.length l8))), (7, (i64 i12)), (99, (.bool t20))], [⟨0, 42, 7, [(eRState p0)]⟩, ⟨0, 3, 1, List.map eI l8⟩]⟩ → K19 s := by
    intro t20 hq s hw
    subst o21
    try dsimp only at h1
    refine hK19 _ (AW.weaken hw ?_)
    refine ci h1 rfl ?_ ?_ <;> clear h1
    ·intro b22 h1
     refine sr rfl fun K23 hK23 => ?_
     refine zq tb rfl ?_
     refine dn hK23 rfl ?_
     replace h1 := Sh.some_eq h1
     subst o13
     try dsimp only [id] at h0
     replace h0 := Sh.some_eq h0
     subst r
     exact AW.ret (xr (Wk.d0 [(2, (.bool false))] rfl))
    ·intro b22 h1
     refine AW.skip (hK18 _ ?_)
     refine AW.regionO (by rfl) ?_
     iterate 3 refine zq tb rfl ?_
     exact AO.done (xi (Sh.w (i12 + 1)) h1 (Wk.tr rfl))
   refine AW.regionO (by rfl) ?_
   iterate 3 refine zq tb rfl ?_
   obtain ⟨c24, gc24, h2⟩ := Sh.bind_some h2
   refine zx ei39 gc24 rfl rfl rfl ?_
   iterate 4 refine zq tb rfl ?_
   rcases Sh.ite_some h2 with ⟨b25, h2⟩ | ⟨b25, h2⟩
   ·refine zg tb b25 rfl ?_
    refine zg tb b25 rfl ?_
    obtain ⟨c26, gc26, h2⟩ := Sh.bind_some h2
    refine ao_q (v := (.ptr 1 0 (Int.toNat i12) 0)) (go1 rfl rfl b25) rfl (aq_ixo ei26 rfl rfl rfl rfl gc26) ?_
    refine ao_q (v := (i64 c26)) (go1 rfl rfl b25) rfl (aq_ldp ti3 rfl rfl (map_get gc26) rfl) ?_
    refine zg tb b25 rfl ?_
    refine zt b25 rfl ?_
    refine zq tb rfl ?_
    rcases Sh.ite_some h2 with ⟨b27, h2⟩ | ⟨b27, h2⟩
    ·refine zs b27 rfl ?_
     iterate 7 refine zs b27 rfl ?_
     iterate 5 refine zn rfl ?_
     refine zs b27 rfl ?_
     refine zt b27 rfl ?_
     exact AO.done (M21 true (Sh.some_eq h2).symm _ (Wk.tr rfl))
    ·refine zg tb b27 rfl ?_
     iterate 2 refine zg tb b27 rfl ?_
     refine ao_q (v := (.iptr (eCell c24) 0)) (go1 rfl rfl b27) rfl (aq_ixs ei39 rfl rfl gc24 rfl) ?_
     iterate 4 refine zg tb b27 rfl ?_
     rcases Sh.ite_some h2 with ⟨b28, h2⟩ | ⟨b28, h2⟩
     ·refine zg tb b28 rfl ?_
      refine zg tb b28 rfl ?_
      refine ao_q (v := (.ptr 1 0 (Int.toNat i12) 0)) (go1 rfl rfl b28) rfl (aq_ixo ei26 rfl rfl rfl rfl gc26) ?_
      refine ao_q (v := (i64 c26)) (go1 rfl rfl b28) rfl (aq_ldp ti3 rfl rfl (map_get gc26) rfl) ?_
      refine zg tb b28 rfl ?_
      refine ao_q (v := (.bool (!decide (c26 = 0)))) (go1 rfl rfl b27) rfl (aq_pkt rfl b28 rfl) ?_
      refine zf b27 rfl ?_
      exact AO.done (M21 (!decide (c26 = 0)) (Sh.some_eq h2).symm _ (Wk.tr rfl))
     ·refine zs b28 rfl ?_
      iterate 4 refine zs b28 rfl ?_
      refine ao_q (v := (.bool false)) (go1 rfl rfl b27) rfl (aq_pkf rfl b28 rfl) ?_
      refine zf b27 rfl ?_
      exact AO.done (M21 false (Sh.some_eq h2).symm _ (Wk.tr rfl))
   ·refine zs b25 rfl ?_
    iterate 4 refine zs b25 rfl ?_
    refine zf b25 rfl ?_
    refine zq tb rfl ?_
    iterate 3 refine zg tb rfl rfl ?_
    refine ao_q (v := (.iptr (eCell c24) 0)) (go1 rfl rfl rfl) rfl (aq_ixs ei39 rfl rfl gc24 rfl) ?_
    iterate 4 refine zg tb rfl rfl ?_
    rcases Sh.ite_some h2 with ⟨b29, h2⟩ | ⟨b29, h2⟩
    ·refine zg tb b29 rfl ?_
     refine zg tb b29 rfl ?_
     obtain ⟨c30, gc30, h2⟩ := Sh.bind_some h2
     refine ao_q (v := (.ptr 1 0 (Int.toNat i12) 0)) (go1 rfl rfl b29) rfl (aq_ixo ei26 rfl rfl rfl rfl gc30) ?_
     refine ao_q (v := (i64 c30)) (go1 rfl rfl b29) rfl (aq_ldp ti3 rfl rfl (map_get gc30) rfl) ?_
     refine zg tb b29 rfl ?_
     refine ao_q (v := (.bool (!decide (c30 = 0)))) (go1 rfl rfl rfl) rfl (aq_pkt rfl b29 rfl) ?_
     refine zf rfl rfl ?_
     exact AO.done (M21 (!decide (c30 = 0)) (Sh.some_eq h2).symm _ (Wk.tr rfl))
    ·refine zs b29 rfl ?_
     iterate 4 refine zs b29 rfl ?_
     refine ao_q (v := (.bool false)) (go1 rfl rfl rfl) rfl (aq_pkf rfl b29 rfl) ?_
     refine zf rfl rfl ?_
     exact AO.done (M21 false (Sh.some_eq h2).symm _ (Wk.tr rfl))
  ·intro b17 h1
   exact AW.exit (M13 () (Sh.some_eq h1).symm _ (Wk.d0 _ rfl))
 refine AW.block (AW.loopF (σ := Int × (List Int)) (fun n v => spec_heldOnce_L1 N p0 n v.1 v.2 = some o9) (fun (i6, l7) => ⟨100, envL [(1, (.ptr 0 0 0 0)), (3, (.own 1 0 (List.length l7))), (4, (i64 i6))], [⟨0, 42, 7, [(eRState p0)]⟩, ⟨0, 3, 1, List.map eI l7⟩]⟩) N (0, l3) h1 (Wk.tr rfl) (fun _ hv => by rw [spec_heldOnce_L1] at hv; cases hv) ?_)
 rintro n ⟨i6, l7⟩ h1
 try dsimp only at h1 ⊢
 rw [spec_heldOnce_L1] at h1
 refine AW.seq fun K31 hK31 => ?_
 refine sr rfl fun K32 hK32 => ?_
 iterate 3 refine zq tb rfl ?_
 refine zl tb rfl rfl ?_
 refine zq tb rfl ?_
 refine dn hK32 rfl ?_
 refine ci h1 rfl ?_ ?_ <;> clear h1
 ·intro b33 h1
  refine AW.skip (hK31 _ ?_)
  refine AW.seq fun K34 hK34 => ?_
  refine AW.block ?_
  refine sr rfl fun K35 hK35 => ?_
  refine zq tb rfl ?_
  refine dn hK35 rfl ?_
  obtain ⟨o39, h2, h1⟩ := Sh.cont_some h1
  have M39 : ∀ (l38 : (List Int)), o39 = Sum.inr l38 → ∀ s, Wk 0 s ⟨100, envL [(1, (.ptr 0 0 0 0)), (3, (.own 1 0 (List.length l38))), (4, (i64 i6))], [⟨0, 42, 7, [(eRState p0)]⟩, ⟨0, 3, 1, List.map eI l38⟩]⟩ → K34 s := by
   intro l38 hq s hw
   subst o39
   try dsimp only at h1
   refine hK34 _ (AW.weaken hw ?_)
   refine AW.regionO (by rfl) ?_
   iterate 3 refine zq tb rfl ?_
   exact AO.done (xi (Sh.w (i6 + 1), l38) h1 (Wk.tr rfl))
  refine AW.block (AW.loopF (σ := Int × (List Int)) (fun n v => spec_heldOnce_L3 i6 p0 n v.1 v.2 = some o39) (fun (r36, l37) => ⟨100, envL [(1, (.ptr 0 0 0 0)), (3, (.own 1 0 (List.length l37))), (4, (i64 i6)), (5, (i64 r36))], [⟨0, 42, 7, [(eRState p0)]⟩, ⟨0, 3, 1, List.map eI l37⟩]⟩) N (0, l7) h2 (Wk.tr rfl) (fun _ hv => by rw [spec_heldOnce_L3] at hv; cases hv) ?_)
  rintro n ⟨r36, l37⟩ h2
  try dsimp only at h2 ⊢
  rw [spec_heldOnce_L3] at h2
  refine AW.seq fun K40 hK40 => ?_
  refine sr rfl fun K41 hK41 => ?_
  iterate 4 refine zq tb rfl ?_
  obtain ⟨c42, gc42, h2⟩ := Sh.bind_some h2
  refine zx ei40 gc42 rfl rfl rfl ?_
  iterate 2 refine zq tb rfl ?_
  refine zl tb rfl rfl ?_
  refine zq tb rfl ?_
  refine dn hK41 rfl ?_
  refine ci h2 rfl ?_ ?_ <;> clear h2
  ·intro b43 h2
   refine AW.skip (hK40 _ ?_)
   refine AW.seq fun K44 hK44 => ?_
   obtain ⟨o46, h3, h2⟩ := Sh.cont_some h2
   have M46 : ∀ (l45 : (List Int)), o46 = Sum.inr l45 → ∀ s, Wk 0 s ⟨100, envL [(1, (.ptr 0 0 0 0)), (3, (.own 1 0 (List.length l45))), (4, (i64 i6)), (5, (i64 r36))], [⟨0, 42, 7, [(eRState p0)]⟩, ⟨0, 3, 1, List.map eI l45⟩]⟩ → K44 s := by
    intro l45 hq s hw
    subst o46
    try dsimp only at h2
    refine hK44 _ (AW.weaken hw ?_)
    refine AW.regionO (by rfl) ?_
    iterate 3 refine zq tb rfl ?_
    exact AO.done (xi (Sh.w (r36 + 1), l45) h2 (Wk.tr rfl))
   refine AW.block ?_
   refine sr rfl fun K47 hK47 => ?_
   iterate 3 refine zq tb rfl ?_
   refine zx ei40 gc42 rfl rfl rfl ?_
   iterate 3 refine zq tb rfl ?_
   obtain ⟨c48, gc48, h3⟩ := Sh.bind_some h3
   refine zx ei26 gc48 rfl rfl rfl ?_
   iterate 2 refine zq tb rfl ?_
   refine dn hK47 rfl ?_
   refine sr rfl fun K49 hK49 => ?_
   iterate 2 refine zq tb rfl ?_
   refine dn hK49 rfl ?_
   refine ci h3 rfl ?_ ?_ <;> clear h3
   ·intro b50 h3
    have b51 : decide (c48 = 0) = false := by simpa using b50
    refine AW.seq fun K52 hK52 => ?_
    refine AW.seq fun K53 hK53 => ?_
    obtain ⟨o55, h4, h3⟩ := Sh.bind_some h3
    have M55 : ∀ (t54 : Bool), o55 = t54 → ∀ s, Wk 0 s ⟨100, envL [(1, (.ptr 0 0 0 0)), (3, (.own 1 0 (List.length l37))), (4, (i64 i6)), (5, (i64 r36)), (6, (i64 c48)), (53, (.bool t54))], [⟨0, 42, 7, [(eRState p0)]⟩, ⟨0, 3, 1, List.map eI l37⟩]⟩ → K53 s := by
     intro t54 hq s hw
     subst o55
     try dsimp only at h3
     refine hK53 _ (AW.weaken hw ?_)
     refine ci h3 rfl ?_ ?_ <;> clear h3
     ·intro b56 h3
      refine sr rfl fun K57 hK57 => ?_
      refine zq tb rfl ?_
      refine dn hK57 rfl ?_
      replace h3 := Sh.some_eq h3
      subst o46
      try dsimp only [id] at h2
      replace h2 := Sh.some_eq h2
      subst o39
      try dsimp only [id] at h1
      replace h1 := Sh.some_eq h1
      subst o9
      try dsimp only [id] at h0
      replace h0 := Sh.some_eq h0
      subst r
      exact AW.ret (xr (Wk.d0 [(2, (.bool false))] rfl))
     ·intro b56 h3
      refine AW.skip (hK52 _ ?_)
      refine AW.regionO (by rfl) ?_
      iterate 6 refine zq tb rfl ?_
      obtain ⟨c58, gc58, h3⟩ := Sh.bind_some h3
      refine zz (.ptr 1 0 (Int.toNat (Sh.w (c48 - 1000))) 0) (aq_ixo ei26 rfl rfl rfl rfl gc58) rfl ?_
      refine zz (i64 c58) (aq_ldp ti3 rfl rfl (map_get gc58) rfl) rfl ?_
      refine zq tb rfl ?_
      refine zz (.ptr 1 0 (Int.toNat (Sh.w (c48 - 1000))) 0) (aq_ixo ei26 rfl rfl rfl rfl gc58) rfl ?_
      refine ao_stl (st' := [⟨0, 42, 7, [(eRState p0)]⟩, ⟨0, 3, 1, List.map eI (Sh.put l37 (Sh.w (c48 - 1000)) (Sh.w (c58 + 1)))⟩]) (u' := Sh.w (c58 + 1)) go0 ti3 rfl rfl gc58 rfl rfl rfl (show 0 + 1 ≤ 1 by decide) rfl rfl ?_
      exact AO.done (M46 (Sh.put l37 (Sh.w (c48 - 1000)) (Sh.w (c58 + 1))) (Sh.some_eq h3).symm _ (Wk.to (L := [(1, (.ptr 0 0 0 0)), (3, (.own 1 0 (List.length (Sh.put l37 (Sh.w (c48 - 1000)) (Sh.w (c58 + 1)))))), (4, (i64 i6)), (5, (i64 r36))]) ⟨.rfl, (.len (by simp only [Sh.put_len])), .rfl, .rfl, trivial⟩))
    refine AW.regionO (by rfl) ?_
    refine zq tb rfl ?_
    obtain ⟨q59, gq59, h4⟩ := Sh.bind_some h4
    refine zc hb66 (spec_isPointer_ok gq59) rfl rfl rfl ?_
    iterate 2 refine zq tb rfl ?_
    rcases Sh.ite_some h4 with ⟨b60, h4⟩ | ⟨b60, h4⟩
    ·refine zs b60 rfl ?_
     iterate 7 refine zs b60 rfl ?_
     refine zt b60 rfl ?_
     exact AO.done (M55 true (Sh.some_eq h4).symm _ (Wk.tr rfl))
    ·refine zg tb b60 rfl ?_
     iterate 3 refine zg tb b60 rfl ?_
     refine ao_q (v := (i64 (Sh.len p0.heap))) (go1 rfl rfl b60) rfl (aq_lens sl39 rfl) ?_
     refine zg tb b60 rfl ?_
     obtain ⟨q61, gq61, h4⟩ := Sh.bind_some h4
     refine zd b60 hb35 (spec_inRange_ok gq61) rfl rfl rfl rfl ?_
     refine zg tb b60 rfl ?_
     refine zf b60 rfl ?_
     exact AO.done (M55 (!q61) (Sh.some_eq h4).symm _ (Wk.tr rfl))
   ·intro b50 h3
    have b62 : decide (c48 = 0) = true := by simpa using b50
    exact AW.skip (M46 l37 (Sh.some_eq h3).symm _ (Wk.tr rfl))
  ·intro b43 h2
   exact AW.exit (M39 l37 (Sh.some_eq h2).symm _ (Wk.tr rfl))
 ·intro b33 h1
  exact AW.exit (M9 l7 (Sh.some_eq h1).symm _ (Wk.tr rfl))
theorem spec_ownersOf_ok {N : Nat} {p0 : RState} {r : (List Int)} (h0 : spec_ownersOf N p0 = some r) : ACalls Tryz.prog 67 [(.agg (eRState p0))] [] (fun v st => v = (.own 0 0 (List.length r)) ∧ st = [⟨0, 3, 1, List.map eI r⟩]) := by
 unfold spec_ownersOf at h0
 refine ACalls.intro Tryz.func67 rfl (by show 1 ≤ 60; decide) ?_
 show AW _ 0 _ (aret _ 0 Tryz.f67 _) ⟨60, _, _⟩
 refine AW.weaken (Wk.to (L := [(0, (.agg (eRState p0)))]) ⟨.rfl, trivial⟩) ?_
 refine sr rfl fun K1 hK1 => ?_
 refine ao_box (m := 0) (st' := [⟨0, 42, 7, [(eRState p0)]⟩]) go0 rfl rfl rfl rfl rfl ?_
 refine zq tb rfl ?_
 refine dn hK1 rfl ?_
 refine sr rfl fun K2 hK2 => ?_
 iterate 2 refine zq tb rfl ?_
 refine zl tb rfl rfl ?_
 obtain ⟨l3, gl3, h0⟩ := Sh.bind_some h0
 refine ao_make (m := 1) (st' := [⟨0, 42, 7, [(eRState p0)]⟩, ⟨0, 3, 1, List.map eI l3⟩]) (enc := eI) (u := 0) go0 ei26 rfl rfl rfl gl3 rfl rfl ?_
 refine zq tb rfl ?_
 refine dn hK2 rfl ?_
 refine AW.seq fun K4 hK4 => ?_
 refine sr rfl fun K5 hK5 => ?_
 refine zq tb rfl ?_
 refine dn hK5 rfl ?_
 obtain ⟨o9, h1, h0⟩ := Sh.bind_some h0
 have M9 : ∀ (l8 : (List Int)), o9 = l8 → ∀ s, Wk 0 s ⟨60, envL [(3, (.own 0 0 (List.length l8)))], [⟨0, 3, 1, List.map eI l8⟩]⟩ → K4 s := by
  intro l8 hq s hw
  subst o9
  try dsimp only at h0
  refine hK4 _ (AW.weaken hw ?_)
  refine sr rfl fun K10 hK10 => ?_
  iterate 2 refine zq tb rfl ?_
  refine dn hK10 rfl ?_
  replace h0 := Sh.some_eq h0
  subst r
  exact AW.ret (xr (Wk.to (L := [(2, (.own 0 0 (List.length l8)))]) ⟨.rfl, trivial⟩))
 refine AW.block (AW.loopF (σ := Int × (List Int)) (fun n v => spec_ownersOf_L1 N p0 n v.1 v.2 = some o9) (fun (i6, l7) => ⟨60, envL [(1, (.ptr 0 0 0 0)), (3, (.own 1 0 (List.length l7))), (4, (i64 i6))], [⟨0, 42, 7, [(eRState p0)]⟩, ⟨0, 3, 1, List.map eI l7⟩]⟩) N (0, l3) h1 (Wk.tr rfl) (fun _ hv => by rw [spec_ownersOf_L1] at hv; cases hv) ?_)
 rintro n ⟨i6, l7⟩ h1
 try dsimp only at h1 ⊢
 rw [spec_ownersOf_L1] at h1
 refine AW.seq fun K11 hK11 => ?_
 refine sr rfl fun K12 hK12 => ?_
 iterate 3 refine zq tb rfl ?_
 refine zl tb rfl rfl ?_
 refine zq tb rfl ?_
 refine dn hK12 rfl ?_
 refine ci h1 rfl ?_ ?_ <;> clear h1
 ·intro b13 h1
  refine AW.skip (hK11 _ ?_)
  refine AW.seq fun K14 hK14 => ?_
  refine AW.block ?_
  refine sr rfl fun K15 hK15 => ?_
  iterate 3 refine zq tb rfl ?_
  obtain ⟨c16, gc16, h1⟩ := Sh.bind_some h1
  refine zx ei40 gc16 rfl rfl rfl ?_
  refine zq tb rfl ?_
  refine ao_alloc (m := 2) (st' := [⟨0, 42, 7, [(eRState p0)]⟩, ⟨0, 3, 1, List.map eI l7⟩, ⟨0, 92, 6, [[(i64 0), (i64 0), (i64 0), .zc, .zc, .zc]]⟩]) go0 zi92 rfl rfl ?_
  refine ao_str (st' := [⟨0, 42, 7, [(eRState p0)]⟩, ⟨0, 3, 1, List.map eI l7⟩, ⟨0, 92, 6, [(eRFrame c16)]⟩]) go0 ti92 rfl rfl rfl rfl rfl rfl (show 0 + 6 ≤ 6 by decide) rfl ?_
  refine dn hK15 rfl ?_
  refine sr rfl fun K17 hK17 => ?_
  refine zq tb rfl ?_
  refine dn hK17 rfl ?_
  obtain ⟨o21, h2, h1⟩ := Sh.bind_some h1
  have M21 : ∀ (l20 : (List Int)), o21 = l20 → ∀ s, Wk 0 s ⟨60, envL [(1, (.ptr 0 0 0 0)), (3, (.own 1 0 (List.length l20))), (4, (i64 i6))], [⟨0, 42, 7, [(eRState p0)]⟩, ⟨0, 3, 1, List.map eI l20⟩]⟩ → K14 s := by
   intro l20 hq s hw
   subst o21
   try dsimp only at h1
   refine hK14 _ (AW.weaken hw ?_)
   refine AW.regionO (by rfl) ?_
   iterate 3 refine zq tb rfl ?_
   exact AO.done (xi (Sh.w (i6 + 1), l20) h1 (Wk.tr rfl))
  refine AW.block (AW.loopF (σ := Int × (List Int)) (fun n v => spec_ownersOf_L2 c16 n v.1 v.2 = some o21) (fun (r18, l19) => ⟨60, envL [(1, (.ptr 0 0 0 0)), (3, (.own 1 0 (List.length l19))), (4, (i64 i6)), (5, (.ptr 2 0 0 0)), (6, (i64 r18))], [⟨0, 42, 7, [(eRState p0)]⟩, ⟨0, 3, 1, List.map eI l19⟩, ⟨0, 92, 6, [(eRFrame c16)]⟩]⟩) N (0, l7) h2 (Wk.tr rfl) (fun _ hv => by rw [spec_ownersOf_L2] at hv; cases hv) ?_)
  rintro n ⟨r18, l19⟩ h2
  try dsimp only at h2 ⊢
  rw [spec_ownersOf_L2] at h2
  refine AW.seq fun K22 hK22 => ?_
  refine sr rfl fun K23 hK23 => ?_
  iterate 3 refine zq tb rfl ?_
  refine zl tb rfl rfl ?_
  refine zq tb rfl ?_
  refine dn hK23 rfl ?_
  refine ci h2 rfl ?_ ?_ <;> clear h2
  ·intro b24 h2
   refine AW.skip (hK22 _ ?_)
   refine AW.seq fun K25 hK25 => ?_
   obtain ⟨o27, h3, h2⟩ := Sh.bind_some h2
   have M27 : ∀ (l26 : (List Int)), o27 = l26 → ∀ s, Wk 0 s ⟨60, envL [(1, (.ptr 0 0 0 0)), (3, (.own 1 0 (List.length l26))), (4, (i64 i6)), (5, (.ptr 2 0 0 0)), (6, (i64 r18))], [⟨0, 42, 7, [(eRState p0)]⟩, ⟨0, 3, 1, List.map eI l26⟩, ⟨0, 92, 6, [(eRFrame c16)]⟩]⟩ → K25 s := by
    intro l26 hq s hw
    subst o27
    try dsimp only at h2
    refine hK25 _ (AW.weaken hw ?_)
    refine AW.regionO (by rfl) ?_
    iterate 3 refine zq tb rfl ?_
    exact AO.done (xi (Sh.w (r18 + 1), l26) h2 (Wk.tr rfl))
   refine AW.block ?_
   refine sr rfl fun K28 hK28 => ?_
   iterate 3 refine zq tb rfl ?_
   obtain ⟨c29, gc29, h3⟩ := Sh.bind_some h3
   refine zx ei26 gc29 rfl rfl rfl ?_
   iterate 2 refine zq tb rfl ?_
   refine dn hK28 rfl ?_
   refine ci h3 rfl ?_ ?_ <;> clear h3
   ·intro b30 h3
    refine AW.drawTailO 23 (by kernel_rfl) (by kernel_rfl) (by rfl) ?_
    iterate 4 refine yq tb rfl ?_
    obtain ⟨c31, gc31, h3⟩ := Sh.bind_some h3
    refine yx ei26 gc31 rfl rfl rfl ?_
    iterate 6 refine yq tb rfl ?_
    refine yx ei26 gc31 rfl rfl rfl ?_
    iterate 2 refine yq tb rfl ?_
    obtain ⟨c32, gc32, h3⟩ := Sh.bind_some h3
    refine yz (.ptr 1 0 (Int.toNat (Sh.w (c31 - 1000))) 0) (aq_ixo ei26 rfl rfl rfl rfl gc32) rfl ?_
    refine yz (i64 c32) (aq_ldp ti3 rfl rfl (map_get gc32) rfl) rfl ?_
    iterate 3 refine yq tb rfl ?_
    refine yx ei26 gc29 rfl rfl rfl ?_
    iterate 2 refine yq tb rfl ?_
    refine yz (.ptr 1 0 (Int.toNat (Sh.w (c31 - 1000))) 0) (aq_ixo ei26 rfl rfl rfl rfl gc32) rfl ?_
    refine d_done ?_
    refine ao_stl (st' := [⟨0, 42, 7, [(eRState p0)]⟩, ⟨0, 3, 1, List.map eI (Sh.put l19 (Sh.w (c31 - 1000)) (Sh.w (c32 + c29)))⟩, ⟨0, 92, 6, [(eRFrame c16)]⟩]) (u' := Sh.w (c32 + c29)) go0 ti3 rfl rfl gc32 rfl rfl rfl (show 0 + 1 ≤ 1 by decide) rfl rfl ?_
    exact AO.done (M27 (Sh.put l19 (Sh.w (c31 - 1000)) (Sh.w (c32 + c29))) (Sh.some_eq h3).symm _ (Wk.to (L := [(1, (.ptr 0 0 0 0)), (3, (.own 1 0 (List.length (Sh.put l19 (Sh.w (c31 - 1000)) (Sh.w (c32 + c29)))))), (4, (i64 i6)), (5, (.ptr 2 0 0 0)), (6, (i64 r18))]) ⟨.rfl, (.len (by simp only [Sh.put_len])), .rfl, .rfl, .rfl, trivial⟩))
   ·intro b30 h3
    exact AW.skip (M27 l19 (Sh.some_eq h3).symm _ (Wk.tr rfl))
  ·intro b24 h2
   exact AW.exit (M21 l19 (Sh.some_eq h2).symm _ (Wk.permk (L := [(1, (.ptr 0 0 0 0)), (3, (.own 1 0 (List.length l19))), (4, (i64 i6))]) (st' := [⟨0, 42, 7, [(eRState p0)]⟩, ⟨0, 3, 1, List.map eI l19⟩]) (st1 := [⟨0, 42, 7, [(eRState p0)]⟩, ⟨0, 3, 1, List.map eI l19⟩]) [0, 1] rfl .nil (by decide) rfl rfl (.raw rfl rfl (.pure (pure_map fun _ => rfl) .nil)) ⟨.rfl, .rfl, .rfl, trivial⟩))
 ·intro b13 h1
  exact AW.exit (M9 l7 (Sh.some_eq h1).symm _ (Wk.permk (L := [(3, (.own 0 0 (List.length l7)))]) (st' := [⟨0, 3, 1, List.map eI l7⟩]) (st1 := [⟨0, 3, 1, List.map eI l7⟩]) [1] rfl .nil (by decide) rfl rfl (.pure (pure_map fun _ => rfl) .nil) ⟨.rfl, trivial⟩))
theorem spec_exactCounts_ok {N : Nat} {p0 : RState} {r : Bool} (h0 : spec_exactCounts N p0 = some r) : ACalls Tryz.prog 40 [(.agg (eRState p0))] [] (fun v st => v = (.bool r) ∧ st = []) := by
 unfold spec_exactCounts at h0
 refine ACalls.intro Tryz.func40 rfl (by show 1 ≤ 43; decide) ?_
 show AW _ 0 _ (aret _ 0 Tryz.f40 _) ⟨43, _, _⟩
 refine AW.weaken (Wk.to (L := [(0, (.agg (eRState p0)))]) ⟨.rfl, trivial⟩) ?_
 refine sr rfl fun K1 hK1 => ?_
 refine ao_box (m := 0) (st' := [⟨0, 42, 7, [(eRState p0)]⟩]) go0 rfl rfl rfl rfl rfl ?_
 refine zq tb rfl ?_
 refine dn hK1 rfl ?_
 refine sr rfl fun K2 hK2 => ?_
 iterate 2 refine zq tb rfl ?_
 obtain ⟨q3, gq3, h0⟩ := Sh.bind_some h0
 refine ao_call (v' := (.own 1 0 (List.length q3))) (st' := [⟨0, 42, 7, [(eRState p0)]⟩, ⟨0, 3, 1, List.map eI q3⟩]) go0 hb63 (spec_refsOf_ok gq3) rfl rfl ⟨(pure_map' fun _ => rfl), trivial⟩ rfl rfl ?_
 refine zq tb rfl ?_
 refine dn hK2 rfl ?_
 refine sr rfl fun K4 hK4 => ?_
 refine zq tb rfl ?_
 obtain ⟨q5, gq5, h0⟩ := Sh.bind_some h0
 refine ao_call (v' := (.own 2 0 (List.length q5))) (st' := [⟨0, 42, 7, [(eRState p0)]⟩, ⟨0, 3, 1, List.map eI q3⟩, ⟨0, 3, 1, List.map eI q5⟩]) go0 hb67 (spec_ownersOf_ok gq5) rfl rfl ⟨(pure_map' fun _ => rfl), trivial⟩ rfl rfl ?_
 refine zq tb rfl ?_
 refine dn hK4 rfl ?_
 refine AW.seq fun K6 hK6 => ?_
 refine sr rfl fun K7 hK7 => ?_
 refine zq tb rfl ?_
 refine dn hK7 rfl ?_
 obtain ⟨o9, h1, h0⟩ := Sh.cont_some h0
 have M9 : ∀ (_ : Unit), o9 = Sum.inr () → ∀ s, Wk 0 s ⟨43, envL [], []⟩ → K6 s := by
  intro _ hq s hw
  subst o9
  try dsimp only at h0
  refine hK6 _ (AW.weaken hw ?_)
  refine sr rfl fun K10 hK10 => ?_
  refine zq tb rfl ?_
  refine dn hK10 rfl ?_
  replace h0 := Sh.some_eq h0
  subst r
  exact AW.ret (xr (Wk.to (L := [(2, (.bool true))]) ⟨.rfl, trivial⟩))
 refine AW.block (AW.loopF (σ := Int) (fun n v => spec_exactCounts_L1 p0 q3 q5 n v = some o9) (fun i8 => ⟨43, envL [(1, (.ptr 0 0 0 0)), (3, (.own 1 0 (List.length q3))), (4, (.own 2 0 (List.length q5))), (5, (i64 i8))], [⟨0, 42, 7, [(eRState p0)]⟩, ⟨0, 3, 1, List.map eI q3⟩, ⟨0, 3, 1, List.map eI q5⟩]⟩) N 0 h1 (Wk.tr rfl) (fun _ hv => by rw [spec_exactCounts_L1] at hv; cases hv) ?_)
 rintro n i8 h1
 try dsimp only at h1 ⊢
 rw [spec_exactCounts_L1] at h1
 refine AW.seq fun K11 hK11 => ?_
 refine sr rfl fun K12 hK12 => ?_
 iterate 3 refine zq tb rfl ?_
 refine zl tb rfl rfl ?_
 refine zq tb rfl ?_
 refine dn hK12 rfl ?_
 refine ci h1 rfl ?_ ?_ <;> clear h1
 ·intro b13 h1
  refine AW.skip (hK11 _ ?_)
  refine AW.seq fun K14 hK14 => ?_
  refine AW.block ?_
  refine AW.seq fun K15 hK15 => ?_
  obtain ⟨o17, h2, h1⟩ := Sh.bind_some h1
  have M17 : ∀ (t16 : Bool), o17 = t16 → ∀ s, Wk 0 s ⟨43, envL [(1, (.ptr 0 0 0 0)), (3, (.own 1 0 (List.length q3))), (4, (.own 2 0 (List.length q5))), (5, (i64 i8)), (42, (.bool t16))], [⟨0, 42, 7, [(eRState p0)]⟩, ⟨0, 3, 1, List.map eI q3⟩, ⟨0, 3, 1, List.map eI q5⟩]⟩ → K15 s := by
   intro t16 hq s hw
   subst o17
   try dsimp only at h1
   refine hK15 _ (AW.weaken hw ?_)
   refine ci h1 rfl ?_ ?_ <;> clear h1
   ·intro b18 h1
    refine sr rfl fun K19 hK19 => ?_
    refine zq tb rfl ?_
    refine dn hK19 rfl ?_
    replace h1 := Sh.some_eq h1
    subst o9
    try dsimp only [id] at h0
    replace h0 := Sh.some_eq h0
    subst r
    exact AW.ret (xr (Wk.d0 [(2, (.bool false))] rfl))
   ·intro b18 h1
    refine AW.skip (hK14 _ ?_)
    refine AW.regionO (by rfl) ?_
    iterate 3 refine zq tb rfl ?_
    exact AO.done (xi (Sh.w (i8 + 1)) h1 (Wk.tr rfl))
  refine AW.draw (by kernel_rfl) (by kernel_rfl) (by rfl) ?_
  iterate 3 refine yq tb rfl ?_
  obtain ⟨c20, gc20, h2⟩ := Sh.bind_some h2
  refine yx ei39 gc20 rfl rfl rfl ?_
  iterate 4 refine yq tb rfl ?_
  rcases Sh.ite_some h2 with ⟨b21, h2⟩ | ⟨b21, h2⟩
  ·refine yg tb b21 rfl ?_
   iterate 2 refine yg tb b21 rfl ?_
   refine d_q (v := (.iptr (eCell c20) 0)) (go1 rfl rfl b21) rfl (aq_ixs ei39 rfl rfl gc20 rfl) ?_
   iterate 4 refine yg tb b21 rfl ?_
   obtain ⟨c22, gc22, h2⟩ := Sh.bind_some h2
   refine d_q (v := (.ptr 1 0 (Int.toNat i8) 0)) (go1 rfl rfl b21) rfl (aq_ixo ei26 rfl rfl rfl rfl gc22) ?_
   refine d_q (v := (i64 c22)) (go1 rfl rfl b21) rfl (aq_ldp ti3 rfl rfl (map_get gc22) rfl) ?_
   iterate 2 refine yg tb b21 rfl ?_
   obtain ⟨c23, gc23, h2⟩ := Sh.bind_some h2
   refine d_q (v := (.ptr 2 0 (Int.toNat i8) 0)) (go1 rfl rfl b21) rfl (aq_ixo ei26 rfl rfl rfl rfl gc23) ?_
   refine d_q (v := (i64 c23)) (go1 rfl rfl b21) rfl (aq_ldp ti3 rfl rfl (map_get gc23) rfl) ?_
   iterate 2 refine yg tb b21 rfl ?_
   refine yt b21 rfl ?_
   exact d_done (M17 (!decide (c20.count = (Sh.w (c22 + c23)))) (Sh.some_eq h2).symm _ (Wk.tr rfl))
  ·refine ys b21 rfl ?_
   iterate 15 refine ys b21 rfl ?_
   refine yf b21 rfl ?_
   exact d_done (M17 false (Sh.some_eq h2).symm _ (Wk.tr rfl))
 ·intro b13 h1
  exact AW.exit (M9 () (Sh.some_eq h1).symm _ (Wk.d0 _ rfl))
theorem spec_validState_ok {N : Nat} {p0 : RImage} {p1 : RState} {r : Bool} (h0 : spec_validState N p0 p1 = some r) : ACalls Tryz.prog 17 [(.agg (eRImage p0)), (.agg (eRState p1))] [] (fun v st => v = (.bool r) ∧ st = []) := by
 unfold spec_validState at h0
 refine ACalls.intro Tryz.func17 rfl (by show 2 ≤ 90; decide) ?_
 show AW _ 0 _ (aret _ 0 Tryz.f17 _) ⟨90, _, _⟩
 refine AW.weaken (Wk.to (L := [(0, (.agg (eRImage p0))), (1, (.agg (eRState p1)))]) ⟨.rfl, .rfl, trivial⟩) ?_
 refine sr rfl fun K1 hK1 => ?_
 refine ao_box (m := 0) (st' := [⟨0, 37, 2, [(eRImage p0)]⟩]) go0 rfl rfl rfl rfl rfl ?_
 refine ao_box (m := 1) (st' := [⟨0, 37, 2, [(eRImage p0)]⟩, ⟨0, 42, 7, [(eRState p1)]⟩]) go0 rfl rfl rfl rfl rfl ?_
 refine zq tb rfl ?_
 refine dn hK1 rfl ?_
 refine AW.seq fun K2 hK2 => ?_
 refine AW.seq fun K3 hK3 => ?_
 obtain ⟨o5, h1, h0⟩ := Sh.bind_some h0
 have M5 : ∀ (t4 : Bool), o5 = t4 → ∀ s, Wk 0 s ⟨90, envL [(2, (.ptr 0 0 0 0)), (3, (.ptr 1 0 0 0)), (24, (.bool t4))], [⟨0, 37, 2, [(eRImage p0)]⟩, ⟨0, 42, 7, [(eRState p1)]⟩]⟩ → K3 s := by
  intro t4 hq s hw
  subst o5
  try dsimp only at h0
  refine hK3 _ (AW.weaken hw ?_)
  refine ci h0 rfl ?_ ?_ <;> clear h0
  ·intro b6 h0
   refine sr rfl fun K7 hK7 => ?_
   refine zq tb rfl ?_
   refine dn hK7 rfl ?_
   replace h0 := Sh.some_eq h0
   subst r
   exact AW.ret (xr (Wk.d0 [(4, (.bool false))] rfl))
  ·intro b6 h0
   refine AW.skip (hK2 _ ?_)
   refine AW.seq fun K8 hK8 => ?_
   refine AW.seq fun K9 hK9 => ?_
   obtain ⟨o11, h1, h0⟩ := Sh.bind_some h0
   have M11 : ∀ (t10 : Bool), o11 = t10 → ∀ s, Wk 0 s ⟨90, envL [(2, (.ptr 0 0 0 0)), (3, (.ptr 1 0 0 0)), (52, (.bool t10))], [⟨0, 37, 2, [(eRImage p0)]⟩, ⟨0, 42, 7, [(eRState p1)]⟩]⟩ → K9 s := by
    intro t10 hq s hw
    subst o11
    try dsimp only at h0
    refine hK9 _ (AW.weaken hw ?_)
    refine ci h0 rfl ?_ ?_ <;> clear h0
    ·intro b12 h0
     refine sr rfl fun K13 hK13 => ?_
     refine zq tb rfl ?_
     refine dn hK13 rfl ?_
     replace h0 := Sh.some_eq h0
     subst r
     exact AW.ret (xr (Wk.d0 [(4, (.bool false))] rfl))
    ·intro b12 h0
     refine AW.skip (hK8 _ ?_)
     refine AW.seq fun K14 hK14 => ?_
     refine AW.seq fun K15 hK15 => ?_
     obtain ⟨o17, h1, h0⟩ := Sh.bind_some h0
     have M17 : ∀ (t16 : Bool), o17 = t16 → ∀ s, Wk 0 s ⟨90, envL [(2, (.ptr 0 0 0 0)), (3, (.ptr 1 0 0 0)), (71, (.bool t16))], [⟨0, 37, 2, [(eRImage p0)]⟩, ⟨0, 42, 7, [(eRState p1)]⟩]⟩ → K15 s := by
      intro t16 hq s hw
      subst o17
      try dsimp only at h0
      refine hK15 _ (AW.weaken hw ?_)
      refine ci h0 rfl ?_ ?_ <;> clear h0
      ·intro b18 h0
       refine sr rfl fun K19 hK19 => ?_
       refine zq tb rfl ?_
       refine dn hK19 rfl ?_
       replace h0 := Sh.some_eq h0
       subst r
       exact AW.ret (xr (Wk.d0 [(4, (.bool false))] rfl))
      ·intro b18 h0
       refine AW.skip (hK14 _ ?_)
       refine AW.seq fun K20 hK20 => ?_
       refine sr rfl fun K21 hK21 => ?_
       refine zq tb rfl ?_
       refine dn hK21 rfl ?_
       obtain ⟨o23, h1, h0⟩ := Sh.cont_some h0
       have M23 : ∀ (_ : Unit), o23 = Sum.inr () → ∀ s, Wk 0 s ⟨90, envL [(3, (.ptr 0 0 0 0))], [⟨0, 42, 7, [(eRState p1)]⟩]⟩ → K20 s := by
        intro _ hq s hw
        subst o23
        try dsimp only at h0
        refine hK20 _ (AW.weaken hw ?_)
        refine AW.seq fun K24 hK24 => ?_
        obtain ⟨o26, h1, h0⟩ := Sh.bind_some h0
        have M26 : ∀ (t25 : Bool), o26 = t25 → ∀ s, Wk 0 s ⟨90, envL [(4, (.bool t25))], []⟩ → K24 s := by
         intro t25 hq s hw
         subst o26
         try dsimp only at h0
         refine hK24 _ (AW.weaken hw ?_)
         replace h0 := Sh.some_eq h0
         subst r
         exact AW.ret (xr (Wk.to (L := [(4, (.bool t25))]) ⟨.rfl, trivial⟩))
        refine AW.regionO (by rfl) ?_
        refine zq tb rfl ?_
        obtain ⟨q27, gq27, h1⟩ := Sh.bind_some h1
        refine zc hb39 (spec_heldOnce_ok gq27) rfl rfl rfl ?_
        refine zq tb rfl ?_
        rcases Sh.ite_some h1 with ⟨b28, h1⟩ | ⟨b28, h1⟩
        ·refine zg tb b28 rfl ?_
         obtain ⟨q29, gq29, h1⟩ := Sh.bind_some h1
         refine zd b28 hb40 (spec_exactCounts_ok gq29) rfl rfl rfl rfl ?_
         refine zt b28 rfl ?_
         refine zq tb rfl ?_
         exact AO.done (M26 q29 (Sh.some_eq h1).symm _ (Wk.d0 _ rfl))
        ·refine zs b28 rfl ?_
         refine zs b28 rfl ?_
         refine zf b28 rfl ?_
         refine zq tb rfl ?_
         exact AO.done (M26 false (Sh.some_eq h1).symm _ (Wk.d0 _ rfl))
       refine AW.block (AW.loopF (σ := Int) (fun n v => spec_validState_L1 N p0 p1 n v = some o23) (fun k22 => ⟨90, envL [(2, (.ptr 0 0 0 0)), (3, (.ptr 1 0 0 0)), (5, (i64 k22))], [⟨0, 37, 2, [(eRImage p0)]⟩, ⟨0, 42, 7, [(eRState p1)]⟩]⟩) N 0 h1 (Wk.tr rfl) (fun _ hv => by rw [spec_validState_L1] at hv; cases hv) ?_)
       rintro n k22 h1
       try dsimp only at h1 ⊢
       rw [spec_validState_L1] at h1
       refine AW.seq fun K30 hK30 => ?_
       refine sr rfl fun K31 hK31 => ?_
       iterate 3 refine zq tb rfl ?_
       refine zl tb rfl rfl ?_
       refine zq tb rfl ?_
       refine dn hK31 rfl ?_
       refine ci h1 rfl ?_ ?_ <;> clear h1
       ·intro b32 h1
        refine AW.skip (hK30 _ ?_)
        refine AW.seq fun K33 hK33 => ?_
        refine AW.block ?_
        refine sr rfl fun K34 hK34 => ?_
        iterate 3 refine zq tb rfl ?_
        obtain ⟨q35, gq35, h1⟩ := Sh.bind_some h1
        refine zc hb38 (spec_validFrame_ok gq35) rfl rfl rfl ?_
        refine zq tb rfl ?_
        refine dn hK34 rfl ?_
        refine ci h1 rfl ?_ ?_ <;> clear h1
        ·intro b36 h1
         have b37 : q35 = false := by simpa using b36
         refine sr rfl fun K38 hK38 => ?_
         refine zq tb rfl ?_
         refine dn hK38 rfl ?_
         replace h1 := Sh.some_eq h1
         subst o23
         try dsimp only [id] at h0
         replace h0 := Sh.some_eq h0
         subst r
         exact AW.ret (xr (Wk.d0 [(4, (.bool false))] rfl))
        ·intro b36 h1
         have b39 : q35 = true := by simpa using b36
         refine AW.skip (hK33 _ ?_)
         refine AW.regionO (by rfl) ?_
         iterate 3 refine zq tb rfl ?_
         exact AO.done (xi (Sh.w (k22 + 1)) h1 (Wk.tr rfl))
       ·intro b32 h1
        exact AW.exit (M23 () (Sh.some_eq h1).symm _ (Wk.permk (L := [(3, (.ptr 0 0 0 0))]) (st' := [⟨0, 42, 7, [(eRState p1)]⟩]) (st1 := [⟨0, 42, 7, [(eRState p1)]⟩]) [1] rfl .nil (by decide) rfl rfl (.raw rfl rfl .nil) ⟨.rfl, trivial⟩))
     refine AW.regionO (by rfl) ?_
     iterate 2 refine zq tb rfl ?_
     refine zl tb rfl rfl ?_
     iterate 5 refine zq tb rfl ?_
     rcases Sh.ite_some h1 with ⟨b40, h1⟩ | ⟨b40, h1⟩
     ·refine zs b40 rfl ?_
      iterate 3 refine zs b40 rfl ?_
      refine zt b40 rfl ?_
      refine zq tb rfl ?_
      iterate 4 refine zs rfl rfl ?_
      refine zt rfl rfl ?_
      exact AO.done (M17 true (Sh.some_eq h1).symm _ (Wk.tr rfl))
     ·refine zg tb b40 rfl ?_
      refine zg tb b40 rfl ?_
      obtain ⟨q41, gq41, h1⟩ := Sh.bind_some h1
      refine zd b40 hb36 (spec_allInRange_ok gq41) rfl rfl rfl rfl ?_
      refine zg tb b40 rfl ?_
      refine zf b40 rfl ?_
      refine zq tb rfl ?_
      rcases Sh.ite_some h1 with ⟨b42, h1⟩ | ⟨b42, h1⟩
      ·refine zs b42 rfl ?_
       iterate 3 refine zs b42 rfl ?_
       refine zt b42 rfl ?_
       exact AO.done (M17 true (Sh.some_eq h1).symm _ (Wk.tr rfl))
      ·refine zg tb b42 rfl ?_
       refine zg tb b42 rfl ?_
       obtain ⟨q43, gq43, h1⟩ := Sh.bind_some h1
       refine zd b42 hb37 (spec_validHeap_ok gq43) rfl rfl rfl rfl ?_
       refine zg tb b42 rfl ?_
       refine zf b42 rfl ?_
       exact AO.done (M17 (!q43) (Sh.some_eq h1).symm _ (Wk.tr rfl))
   refine AW.regionO (by rfl) ?_
   iterate 2 refine zq tb rfl ?_
   obtain ⟨q44, gq44, h1⟩ := Sh.bind_some h1
   refine zc hb35 (spec_inRange_ok gq44) rfl rfl rfl ?_
   iterate 2 refine zq tb rfl ?_
   rcases Sh.ite_some h1 with ⟨b45, h1⟩ | ⟨b45, h1⟩
   ·refine zs b45 rfl ?_
    iterate 3 refine zs b45 rfl ?_
    iterate 3 refine zn rfl ?_
    refine zs b45 rfl ?_
    refine zt b45 rfl ?_
    refine zq tb rfl ?_
    iterate 4 refine zs rfl rfl ?_
    refine zt rfl rfl ?_
    refine zq tb rfl ?_
    iterate 6 refine zs rfl rfl ?_
    refine zt rfl rfl ?_
    exact AO.done (M11 true (Sh.some_eq h1).symm _ (Wk.tr rfl))
   ·refine zg tb b45 rfl ?_
    iterate 3 refine zg tb b45 rfl ?_
    rcases Sh.ite_some h1 with ⟨b46, h1⟩ | ⟨b46, h1⟩
    ·refine zg tb b46 rfl ?_
     iterate 2 refine zg tb b46 rfl ?_
     refine ao_q (v := (.bool (!decide (p1.status = 0)))) (go1 rfl rfl b45) rfl (aq_pkt rfl b46 rfl) ?_
     refine zf b45 rfl ?_
     refine zq tb rfl ?_
     rcases Sh.ite_some h1 with ⟨b47, h1⟩ | ⟨b47, h1⟩
     ·refine zs b47 rfl ?_
      iterate 3 refine zs b47 rfl ?_
      refine zt b47 rfl ?_
      refine zq tb rfl ?_
      iterate 6 refine zs rfl rfl ?_
      refine zt rfl rfl ?_
      exact AO.done (M11 true (Sh.some_eq h1).symm _ (Wk.tr rfl))
     ·refine zg tb b47 rfl ?_
      refine zg tb b47 rfl ?_
      obtain ⟨q48, gq48, h1⟩ := Sh.bind_some h1
      refine zd b47 hb35 (spec_inRange_ok gq48) rfl rfl rfl rfl ?_
      refine zg tb b47 rfl ?_
      refine zf b47 rfl ?_
      refine zq tb rfl ?_
      rcases Sh.ite_some h1 with ⟨b49, h1⟩ | ⟨b49, h1⟩
      ·refine zs b49 rfl ?_
       iterate 5 refine zs b49 rfl ?_
       refine zt b49 rfl ?_
       exact AO.done (M11 true (Sh.some_eq h1).symm _ (Wk.tr rfl))
      ·refine zg tb b49 rfl ?_
       iterate 3 refine zg tb b49 rfl ?_
       obtain ⟨q50, gq50, h1⟩ := Sh.bind_some h1
       refine zd b49 hb35 (spec_inRange_ok gq50) rfl rfl rfl rfl ?_
       refine zg tb b49 rfl ?_
       refine zf b49 rfl ?_
       exact AO.done (M11 (!q50) (Sh.some_eq h1).symm _ (Wk.tr rfl))
    ·refine zs b46 rfl ?_
     iterate 2 refine zs b46 rfl ?_
     refine ao_q (v := (.bool false)) (go1 rfl rfl b45) rfl (aq_pkf rfl b46 rfl) ?_
     refine zf b45 rfl ?_
     refine zq tb rfl ?_
     iterate 2 refine zg tb rfl rfl ?_
     obtain ⟨q51, gq51, h1⟩ := Sh.bind_some h1
     refine zd rfl hb35 (spec_inRange_ok gq51) rfl rfl rfl rfl ?_
     refine zg tb rfl rfl ?_
     refine zf rfl rfl ?_
     refine zq tb rfl ?_
     rcases Sh.ite_some h1 with ⟨b52, h1⟩ | ⟨b52, h1⟩
     ·refine zs b52 rfl ?_
      iterate 5 refine zs b52 rfl ?_
      refine zt b52 rfl ?_
      exact AO.done (M11 true (Sh.some_eq h1).symm _ (Wk.tr rfl))
     ·refine zg tb b52 rfl ?_
      iterate 3 refine zg tb b52 rfl ?_
      obtain ⟨q53, gq53, h1⟩ := Sh.bind_some h1
      refine zd b52 hb35 (spec_inRange_ok gq53) rfl rfl rfl rfl ?_
      refine zg tb b52 rfl ?_
      refine zf b52 rfl ?_
      exact AO.done (M11 (!q53) (Sh.some_eq h1).symm _ (Wk.tr rfl))
 refine AW.regionO (by rfl) ?_
 refine zq tb rfl ?_
 obtain ⟨q54, gq54, h1⟩ := Sh.bind_some h1
 refine zc hb34 (spec_validImage_ok gq54) rfl rfl rfl ?_
 iterate 2 refine zq tb rfl ?_
 rcases Sh.ite_some h1 with ⟨b55, h1⟩ | ⟨b55, h1⟩
 ·refine zs b55 rfl ?_
  iterate 3 refine zs b55 rfl ?_
  refine zt b55 rfl ?_
  refine zq tb rfl ?_
  iterate 8 refine zs rfl rfl ?_
  refine zt rfl rfl ?_
  exact AO.done (M5 true (Sh.some_eq h1).symm _ (Wk.tr rfl))
 ·refine zg tb b55 rfl ?_
  refine zg tb b55 rfl ?_
  obtain ⟨q56, gq56, h1⟩ := Sh.bind_some h1
  refine zd b55 hb35 (spec_inRange_ok gq56) rfl rfl rfl rfl ?_
  refine zg tb b55 rfl ?_
  refine zf b55 rfl ?_
  refine zq tb rfl ?_
  rcases Sh.ite_some h1 with ⟨b57, h1⟩ | ⟨b57, h1⟩
  ·refine zs b57 rfl ?_
   iterate 7 refine zs b57 rfl ?_
   refine zt b57 rfl ?_
   exact AO.done (M5 true (Sh.some_eq h1).symm _ (Wk.tr rfl))
  ·refine zg tb b57 rfl ?_
   iterate 4 refine zg tb b57 rfl ?_
   refine ao_q (v := (i64 (Sh.len p1.frames))) (go1 rfl rfl b57) rfl (aq_lens sl40 rfl) ?_
   iterate 2 refine zg tb b57 rfl ?_
   refine zf b57 rfl ?_
   exact AO.done (M5 ((decide (p1.status = 0)) != (decide ((Sh.len p1.frames) = 0))) (Sh.some_eq h1).symm _ (Wk.tr rfl))
theorem spec_ValidState_ok {N : Nat} {p0 : RImage} {p1 : RState} {r : Bool} (h0 : spec_ValidState N p0 p1 = some r) : ACalls Tryz.prog 6 [(.agg (eRImage p0)), (.agg (eRState p1))] [] (fun v st => v = (.bool r) ∧ st = []) := by
 unfold spec_ValidState at h0
 refine ACalls.intro Tryz.func6 rfl (by show 2 ≤ 8; decide) ?_
 show AW _ 0 _ (aret _ 0 Tryz.f6 _) ⟨8, _, _⟩
 refine AW.weaken (Wk.to (L := [(0, (.agg (eRImage p0))), (1, (.agg (eRState p1)))]) ⟨.rfl, .rfl, trivial⟩) ?_
 refine sr rfl fun K1 hK1 => ?_
 refine ao_box (m := 0) (st' := [⟨0, 37, 2, [(eRImage p0)]⟩]) go0 rfl rfl rfl rfl rfl ?_
 refine ao_box (m := 1) (st' := [⟨0, 37, 2, [(eRImage p0)]⟩, ⟨0, 42, 7, [(eRState p1)]⟩]) go0 rfl rfl rfl rfl rfl ?_
 refine zq tb rfl ?_
 refine dn hK1 rfl ?_
 refine sr rfl fun K2 hK2 => ?_
 iterate 2 refine zq tb rfl ?_
 obtain ⟨q3, gq3, h0⟩ := Sh.bind_some h0
 refine zc hb17 (spec_validState_ok gq3) rfl rfl rfl ?_
 refine zq tb rfl ?_
 refine dn hK2 rfl ?_
 replace h0 := Sh.some_eq h0
 subst r
 exact AW.ret (xr (Wk.d0 [(4, (.bool q3))] rfl))
theorem impl_isType_ok {p0 : (List RDecl)} {p1 : Int} {r : Bool} (h0 : impl_isType p0 p1 = some r) : ACalls Tryz.prog 96 [(.sl (List.map eRDecl p0)), (i64 p1)] [] (fun v st => v = (.bool r) ∧ st = []) := by
 unfold impl_isType at h0
 refine ACalls.intro Tryz.func96 rfl (by show 2 ≤ 13; decide) ?_
 show AW _ 0 _ (aret _ 0 Tryz.f96 _) ⟨13, _, _⟩
 refine AW.weaken (Wk.to (L := [(0, (.sl (List.map eRDecl p0))), (1, (i64 p1))]) ⟨.rfl, .rfl, trivial⟩) ?_
 refine sr rfl fun K1 hK1 => ?_
 refine zq tb rfl ?_
 refine dn hK1 rfl ?_
 refine AW.seq fun K2 hK2 => ?_
 obtain ⟨o4, h1, h0⟩ := Sh.bind_some h0
 have M4 : ∀ (t3 : Bool), o4 = t3 → ∀ s, Wk 0 s ⟨13, envL [(4, (.bool t3))], []⟩ → K2 s := by
  intro t3 hq s hw
  subst o4
  try dsimp only at h0
  refine hK2 _ (AW.weaken hw ?_)
  replace h0 := Sh.some_eq h0
  subst r
  exact AW.ret (xr (Wk.to (L := [(4, (.bool t3))]) ⟨.rfl, trivial⟩))
 refine AW.regionO (by rfl) ?_
 iterate 3 refine zq tb rfl ?_
 rcases Sh.ite_some h1 with ⟨b5, h1⟩ | ⟨b5, h1⟩
 ·refine zg tb b5 rfl ?_
  refine zg tb b5 rfl ?_
  refine ao_q (v := (i64 (Sh.len p0))) (go1 rfl rfl b5) rfl (aq_lens sl34 rfl) ?_
  refine zg tb b5 rfl ?_
  refine zt b5 rfl ?_
  refine zq tb rfl ?_
  exact AO.done (M4 (decide (p1 ≤ (Sh.len p0))) (Sh.some_eq h1).symm _ (Wk.tr rfl))
 ·refine zs b5 rfl ?_
  iterate 3 refine zs b5 rfl ?_
  refine zf b5 rfl ?_
  refine zq tb rfl ?_
  exact AO.done (M4 false (Sh.some_eq h1).symm _ (Wk.tr rfl))
theorem impl_allTypes_ok {N : Nat} {p0 : (List RDecl)} {p1 : (List Int)} {r : Bool} (h0 : impl_allTypes N p0 p1 = some r) : ACalls Tryz.prog 95 [(.sl (List.map eRDecl p0)), (.sl (List.map eI p1))] [] (fun v st => v = (.bool r) ∧ st = []) := by
 unfold impl_allTypes at h0
 refine ACalls.intro Tryz.func95 rfl (by show 2 ≤ 18; decide) ?_
 show AW _ 0 _ (aret _ 0 Tryz.f95 _) ⟨18, _, _⟩
 refine AW.weaken (Wk.to (L := [(0, (.sl (List.map eRDecl p0))), (1, (.sl (List.map eI p1)))]) ⟨.rfl, .rfl, trivial⟩) ?_
 refine sr rfl fun K1 hK1 => ?_
 refine zq tb rfl ?_
 refine dn hK1 rfl ?_
 refine AW.seq fun K2 hK2 => ?_
 refine sr rfl fun K3 hK3 => ?_
 refine zq tb rfl ?_
 refine zl tb rfl rfl ?_
 refine zq tb rfl ?_
 refine dn hK3 rfl ?_
 obtain ⟨o5, h1, h0⟩ := Sh.cont_some h0
 have M5 : ∀ (_ : Unit), o5 = Sum.inr () → ∀ s, Wk 0 s ⟨18, envL [], []⟩ → K2 s := by
  intro _ hq s hw
  subst o5
  try dsimp only at h0
  refine hK2 _ (AW.weaken hw ?_)
  refine sr rfl fun K6 hK6 => ?_
  refine zq tb rfl ?_
  refine dn hK6 rfl ?_
  replace h0 := Sh.some_eq h0
  subst r
  exact AW.ret (xr (Wk.to (L := [(4, (.bool true))]) ⟨.rfl, trivial⟩))
 refine AW.block (AW.loopF (σ := Int) (fun n v => impl_allTypes_L1 p0 p1 n v = some o5) (fun t4 => ⟨18, envL [(0, (.sl (List.map eRDecl p0))), (7, (.sl (List.map eI p1))), (8, (i64 (Sh.len p1))), (9, (i64 t4))], []⟩) N 0 h1 (Wk.tr rfl) (fun _ hv => by rw [impl_allTypes_L1] at hv; cases hv) ?_)
 rintro n t4 h1
 try dsimp only at h1 ⊢
 rw [impl_allTypes_L1] at h1
 refine sr rfl fun K7 hK7 => ?_
 refine zq tb rfl ?_
 refine dn hK7 rfl ?_
 refine AW.seq fun K8 hK8 => ?_
 refine ci h1 rfl ?_ ?_ <;> clear h1
 ·intro b9 h1
  refine AW.skip (hK8 _ ?_)
  refine AW.seq fun K10 hK10 => ?_
  refine AW.block ?_
  refine sr rfl fun K11 hK11 => ?_
  obtain ⟨c12, gc12, h1⟩ := Sh.bind_some h1
  refine zx ei26 gc12 rfl rfl rfl ?_
  iterate 2 refine zq tb rfl ?_
  refine dn hK11 rfl ?_
  refine sr rfl fun K13 hK13 => ?_
  iterate 2 refine zq tb rfl ?_
  obtain ⟨q14, gq14, h1⟩ := Sh.bind_some h1
  refine zc hb96 (impl_isType_ok gq14) rfl rfl rfl ?_
  refine zq tb rfl ?_
  refine dn hK13 rfl ?_
  refine ci h1 rfl ?_ ?_ <;> clear h1
  ·intro b15 h1
   have b16 : q14 = false := by simpa using b15
   refine sr rfl fun K17 hK17 => ?_
   refine zq tb rfl ?_
   refine dn hK17 rfl ?_
   replace h1 := Sh.some_eq h1
   subst o5
   try dsimp only [id] at h0
   replace h0 := Sh.some_eq h0
   subst r
   exact AW.ret (xr (Wk.to (L := [(4, (.bool false))]) ⟨.rfl, trivial⟩))
  ·intro b15 h1
   have b18 : q14 = true := by simpa using b15
   refine AW.skip (hK10 _ ?_)
   refine AW.regionO (by rfl) ?_
   iterate 2 refine zq tb rfl ?_
   exact AO.done (xi (Sh.w (t4 + 1)) h1 (Wk.tr rfl))
 ·intro b9 h1
  exact AW.exit (M5 () (Sh.some_eq h1).symm _ (Wk.tr rfl))
theorem impl_ValidTypes_ok {N : Nat} {p0 : (List RDecl)} {r : Bool} (h0 : impl_ValidTypes N p0 = some r) : ACalls Tryz.prog 94 [(.sl (List.map eRDecl p0))] [] (fun v st => v = (.bool r) ∧ st = []) := by
 unfold impl_ValidTypes at h0
 refine ACalls.intro Tryz.func94 rfl (by show 1 ≤ 106; decide) ?_
 show AW _ 0 _ (aret _ 0 Tryz.f94 _) ⟨106, _, _⟩
 refine AW.weaken (Wk.to (L := [(0, (.sl (List.map eRDecl p0)))]) ⟨.rfl, trivial⟩) ?_
 refine sr rfl fun K1 hK1 => ?_
 refine zq tb rfl ?_
 refine dn hK1 rfl ?_
 refine AW.seq fun K2 hK2 => ?_
 refine sr rfl fun K3 hK3 => ?_
 refine zq tb rfl ?_
 refine zl tb rfl rfl ?_
 refine zq tb rfl ?_
 refine dn hK3 rfl ?_
 refine ci h0 rfl ?_ ?_ <;> clear h0
 ·intro b4 h0
  refine sr rfl fun K5 hK5 => ?_
  refine zq tb rfl ?_
  refine dn hK5 rfl ?_
  replace h0 := Sh.some_eq h0
  subst r
  exact AW.ret (xr (Wk.to (L := [(2, (.bool false))]) ⟨.rfl, trivial⟩))
 ·intro b4 h0
  refine AW.skip (hK2 _ ?_)
  refine AW.seq fun K6 hK6 => ?_
  refine sr rfl fun K7 hK7 => ?_
  refine zq tb rfl ?_
  refine zl tb rfl rfl ?_
  refine zq tb rfl ?_
  refine dn hK7 rfl ?_
  obtain ⟨o9, h1, h0⟩ := Sh.cont_some h0
  have M9 : ∀ (_ : Unit), o9 = Sum.inr () → ∀ s, Wk 0 s ⟨106, envL [], []⟩ → K6 s := by
   intro _ hq s hw
   subst o9
   try dsimp only at h0
   refine hK6 _ (AW.weaken hw ?_)
   refine sr rfl fun K10 hK10 => ?_
   refine zq tb rfl ?_
   refine dn hK10 rfl ?_
   replace h0 := Sh.some_eq h0
   subst r
   exact AW.ret (xr (Wk.to (L := [(2, (.bool true))]) ⟨.rfl, trivial⟩))
  refine AW.block (AW.loopF (σ := Int) (fun n v => impl_ValidTypes_L1 N p0 n v = some o9) (fun t8 => ⟨106, envL [(0, (.sl (List.map eRDecl p0))), (12, (.sl (List.map eRDecl p0))), (13, (i64 (Sh.len p0))), (14, (i64 t8))], []⟩) N 0 h1 (Wk.tr rfl) (fun _ hv => by rw [impl_ValidTypes_L1] at hv; cases hv) ?_)
  rintro n t8 h1
  try dsimp only at h1 ⊢
  rw [impl_ValidTypes_L1] at h1
  refine sr rfl fun K11 hK11 => ?_
  refine zq tb rfl ?_
  refine dn hK11 rfl ?_
  refine AW.seq fun K12 hK12 => ?_
  refine ci h1 rfl ?_ ?_ <;> clear h1
  ·intro b13 h1
   refine AW.skip (hK12 _ ?_)
   refine AW.seq fun K14 hK14 => ?_
   refine AW.block ?_
   refine sr rfl fun K15 hK15 => ?_
   refine zq tb rfl ?_
   obtain ⟨c16, gc16, h1⟩ := Sh.bind_some h1
   refine zx ei34 gc16 rfl rfl rfl ?_
   refine zq tb rfl ?_
   refine ao_alloc (m := 0) (st' := [⟨0, 84, 3, [[(i64 0), (i64 0), .zc]]⟩]) go0 zi84 rfl rfl ?_
   refine zq tb rfl ?_
   refine ao_str (st' := [⟨0, 84, 3, [(eRDecl c16)]⟩]) go0 ti84 rfl rfl rfl rfl rfl rfl (show 0 + 3 ≤ 3 by decide) rfl ?_
   refine dn hK15 rfl ?_
   refine AW.seq fun K17 hK17 => ?_
   refine AW.seq fun K18 hK18 => ?_
   obtain ⟨o20, h2, h1⟩ := Sh.bind_some h1
   have M20 : ∀ (t19 : Bool), o20 = t19 → ∀ s, Wk 0 s ⟨106, envL [(0, (.sl (List.map eRDecl p0))), (3, (i64 t8)), (4, (.ptr 0 0 0 0)), (12, (.sl (List.map eRDecl p0))), (13, (i64 (Sh.len p0))), (14, (i64 t8)), (52, (.bool t19))], [⟨0, 84, 3, [(eRDecl c16)]⟩]⟩ → K18 s := by
    intro t19 hq s hw
    subst o20
    try dsimp only at h1
    refine hK18 _ (AW.weaken hw ?_)
    refine ci h1 rfl ?_ ?_ <;> clear h1
    ·intro b21 h1
     refine sr rfl fun K22 hK22 => ?_
     refine zq tb rfl ?_
     refine dn hK22 rfl ?_
     replace h1 := Sh.some_eq h1
     subst o9
     try dsimp only [id] at h0
     replace h0 := Sh.some_eq h0
     subst r
     exact AW.ret (xr (Wk.d0 [(2, (.bool false))] rfl))
    ·intro b21 h1
     refine AW.skip (hK17 _ ?_)
     refine AW.seq fun K23 hK23 => ?_
     refine sr rfl fun K24 hK24 => ?_
     iterate 2 refine zq tb rfl ?_
     refine zl tb rfl rfl ?_
     refine zq tb rfl ?_
     refine dn hK24 rfl ?_
     obtain ⟨o26, h2, h1⟩ := Sh.cont_some h1
     have M26 : ∀ (_ : Unit), o26 = Sum.inr () → ∀ s, Wk 0 s ⟨106, envL [(0, (.sl (List.map eRDecl p0))), (3, (i64 t8)), (4, (.ptr 0 0 0 0)), (12, (.sl (List.map eRDecl p0))), (13, (i64 (Sh.len p0))), (14, (i64 t8))], [⟨0, 84, 3, [(eRDecl c16)]⟩]⟩ → K23 s := by
      intro _ hq s hw
      subst o26
      try dsimp only at h1
      refine hK23 _ (AW.weaken hw ?_)
      refine sr rfl fun K27 hK27 => ?_
      iterate 2 refine zq tb rfl ?_
      obtain ⟨l28, gl28, h1⟩ := Sh.bind_some h1
      refine ao_sls (i := 0) (j := t8) go0 ei34 rfl rfl rfl (fun _ => rfl) gl28 ?_
      refine zl tb rfl rfl ?_
      refine zq tb rfl ?_
      refine dn hK27 rfl ?_
      obtain ⟨o30, h2, h1⟩ := Sh.cont_some h1
      have M30 : ∀ (_ : Unit), o30 = Sum.inr () → ∀ s, Wk 0 s ⟨106, envL [(0, (.sl (List.map eRDecl p0))), (12, (.sl (List.map eRDecl p0))), (13, (i64 (Sh.len p0))), (14, (i64 t8))], []⟩ → K14 s := by
       intro _ hq s hw
       subst o30
       try dsimp only at h1
       refine hK14 _ (AW.weaken hw ?_)
       refine AW.regionO (by rfl) ?_
       iterate 2 refine zq tb rfl ?_
       exact AO.done (xi (Sh.w (t8 + 1)) h1 (Wk.tr rfl))
      refine AW.block (AW.loopF (σ := Int) (fun n v => impl_ValidTypes_L3 c16 l28 n v = some o30) (fun t29 => ⟨106, envL [(0, (.sl (List.map eRDecl p0))), (4, (.ptr 0 0 0 0)), (12, (.sl (List.map eRDecl p0))), (13, (i64 (Sh.len p0))), (14, (i64 t8)), (74, (.sl (List.map eRDecl l28))), (75, (i64 (Sh.len l28))), (76, (i64 t29))], [⟨0, 84, 3, [(eRDecl c16)]⟩]⟩) N 0 h2 (Wk.tr rfl) (fun _ hv => by rw [impl_ValidTypes_L3] at hv; cases hv) ?_)
      rintro n t29 h2
      try dsimp only at h2 ⊢
      rw [impl_ValidTypes_L3] at h2
      refine sr rfl fun K31 hK31 => ?_
      refine zq tb rfl ?_
      refine dn hK31 rfl ?_
      refine AW.seq fun K32 hK32 => ?_
      refine ci h2 rfl ?_ ?_ <;> clear h2
      ·intro b33 h2
       refine AW.skip (hK32 _ ?_)
       refine AW.seq fun K34 hK34 => ?_
       refine AW.block ?_
       refine sr rfl fun K35 hK35 => ?_
       obtain ⟨c36, gc36, h2⟩ := Sh.bind_some h2
       refine zx ei34 gc36 rfl rfl rfl ?_
       refine zq tb rfl ?_
       refine ao_alloc (m := 1) (st' := [⟨0, 84, 3, [(eRDecl c16)]⟩, ⟨0, 84, 3, [[(i64 0), (i64 0), .zc]]⟩]) go0 zi84 rfl rfl ?_
       refine ao_str (st' := [⟨0, 84, 3, [(eRDecl c16)]⟩, ⟨0, 84, 3, [(eRDecl c36)]⟩]) go0 ti84 rfl rfl rfl rfl rfl rfl (show 0 + 3 ≤ 3 by decide) rfl ?_
       refine dn hK35 rfl ?_
       refine AW.seq fun K37 hK37 => ?_
       obtain ⟨o39, h3, h2⟩ := Sh.bind_some h2
       have M39 : ∀ (t38 : Bool), o39 = t38 → ∀ s, Wk 0 s ⟨106, envL [(0, (.sl (List.map eRDecl p0))), (4, (.ptr 0 0 0 0)), (12, (.sl (List.map eRDecl p0))), (13, (i64 (Sh.len p0))), (14, (i64 t8)), (74, (.sl (List.map eRDecl l28))), (75, (i64 (Sh.len l28))), (76, (i64 t29)), (103, (.bool t38))], [⟨0, 84, 3, [(eRDecl c16)]⟩]⟩ → K37 s := by
        intro t38 hq s hw
        subst o39
        try dsimp only at h2
        refine hK37 _ (AW.weaken hw ?_)
        refine ci h2 rfl ?_ ?_ <;> clear h2
        ·intro b40 h2
         refine sr rfl fun K41 hK41 => ?_
         refine zq tb rfl ?_
         refine dn hK41 rfl ?_
         replace h2 := Sh.some_eq h2
         subst o30
         try dsimp only [id] at h1
         replace h1 := Sh.some_eq h1
         subst o9
         try dsimp only [id] at h0
         replace h0 := Sh.some_eq h0
         subst r
         exact AW.ret (xr (Wk.d0 [(2, (.bool false))] rfl))
        ·intro b40 h2
         refine AW.skip (hK34 _ ?_)
         refine AW.regionO (by rfl) ?_
         iterate 2 refine zq tb rfl ?_
         exact AO.done (xi (Sh.w (t29 + 1)) h2 (Wk.tr rfl))
       refine AW.regionO (by rfl) ?_
       iterate 2 refine zq tb rfl ?_
       refine zl tb rfl rfl ?_
       iterate 2 refine zq tb rfl ?_
       rcases Sh.ite_some h3 with ⟨b42, h3⟩ | ⟨b42, h3⟩
       ·refine zg tb b42 rfl ?_
        refine zg tb b42 rfl ?_
        refine ao_q (v := (i64 (Sh.len c36.cons))) (go1 rfl rfl b42) rfl (aq_lens sl82 rfl) ?_
        refine zg tb b42 rfl ?_
        refine zt b42 rfl ?_
        refine zq tb rfl ?_
        rcases Sh.ite_some h3 with ⟨b43, h3⟩ | ⟨b43, h3⟩
        ·refine zg tb b43 rfl ?_
         iterate 4 refine zg tb b43 rfl ?_
         refine zt b43 rfl ?_
         refine zq tb rfl ?_
         rcases Sh.ite_some h3 with ⟨b44, h3⟩ | ⟨b44, h3⟩
         ·refine zg tb b44 rfl ?_
          iterate 4 refine zg tb b44 rfl ?_
          refine zt b44 rfl ?_
          exact AO.done (M39 (decide (c36.to = c16.to)) (Sh.some_eq h3).symm _ (Wk.permk (L := [(0, (.sl (List.map eRDecl p0))), (4, (.ptr 0 0 0 0)), (12, (.sl (List.map eRDecl p0))), (13, (i64 (Sh.len p0))), (14, (i64 t8)), (74, (.sl (List.map eRDecl l28))), (75, (i64 (Sh.len l28))), (76, (i64 t29)), (103, (.bool (decide (c36.to = c16.to))))]) (st' := [⟨0, 84, 3, [(eRDecl c16)]⟩]) (st1 := [⟨0, 84, 3, [(eRDecl c16)]⟩]) [0] rfl .nil (by decide) rfl rfl (.raw rfl rfl .nil) ⟨.rfl, .rfl, .rfl, .rfl, .rfl, .rfl, .rfl, .rfl, .rfl, trivial⟩))
         ·refine zs b44 rfl ?_
          iterate 4 refine zs b44 rfl ?_
          refine zf b44 rfl ?_
          exact AO.done (M39 false (Sh.some_eq h3).symm _ (Wk.permk (L := [(0, (.sl (List.map eRDecl p0))), (4, (.ptr 0 0 0 0)), (12, (.sl (List.map eRDecl p0))), (13, (i64 (Sh.len p0))), (14, (i64 t8)), (74, (.sl (List.map eRDecl l28))), (75, (i64 (Sh.len l28))), (76, (i64 t29)), (103, (.bool false))]) (st' := [⟨0, 84, 3, [(eRDecl c16)]⟩]) (st1 := [⟨0, 84, 3, [(eRDecl c16)]⟩]) [0] rfl .nil (by decide) rfl rfl (.raw rfl rfl .nil) ⟨.rfl, .rfl, .rfl, .rfl, .rfl, .rfl, .rfl, .rfl, .rfl, trivial⟩))
        ·refine zs b43 rfl ?_
         iterate 4 refine zs b43 rfl ?_
         refine zf b43 rfl ?_
         refine zq tb rfl ?_
         iterate 5 refine zs rfl rfl ?_
         refine zf rfl rfl ?_
         exact AO.done (M39 false (Sh.some_eq h3).symm _ (Wk.permk (L := [(0, (.sl (List.map eRDecl p0))), (4, (.ptr 0 0 0 0)), (12, (.sl (List.map eRDecl p0))), (13, (i64 (Sh.len p0))), (14, (i64 t8)), (74, (.sl (List.map eRDecl l28))), (75, (i64 (Sh.len l28))), (76, (i64 t29)), (103, (.bool false))]) (st' := [⟨0, 84, 3, [(eRDecl c16)]⟩]) (st1 := [⟨0, 84, 3, [(eRDecl c16)]⟩]) [0] rfl .nil (by decide) rfl rfl (.raw rfl rfl .nil) ⟨.rfl, .rfl, .rfl, .rfl, .rfl, .rfl, .rfl, .rfl, .rfl, trivial⟩))
       ·refine zs b42 rfl ?_
        iterate 3 refine zs b42 rfl ?_
        refine zf b42 rfl ?_
        refine zq tb rfl ?_
        iterate 5 refine zs rfl rfl ?_
        refine zf rfl rfl ?_
        refine zq tb rfl ?_
        iterate 5 refine zs rfl rfl ?_
        refine zf rfl rfl ?_
        exact AO.done (M39 false (Sh.some_eq h3).symm _ (Wk.permk (L := [(0, (.sl (List.map eRDecl p0))), (4, (.ptr 0 0 0 0)), (12, (.sl (List.map eRDecl p0))), (13, (i64 (Sh.len p0))), (14, (i64 t8)), (74, (.sl (List.map eRDecl l28))), (75, (i64 (Sh.len l28))), (76, (i64 t29)), (103, (.bool false))]) (st' := [⟨0, 84, 3, [(eRDecl c16)]⟩]) (st1 := [⟨0, 84, 3, [(eRDecl c16)]⟩]) [0] rfl .nil (by decide) rfl rfl (.raw rfl rfl .nil) ⟨.rfl, .rfl, .rfl, .rfl, .rfl, .rfl, .rfl, .rfl, .rfl, trivial⟩))
      ·intro b33 h2
       exact AW.exit (M30 () (Sh.some_eq h2).symm _ (Wk.d0 _ rfl))
     refine AW.block (AW.loopF (σ := Int) (fun n v => impl_ValidTypes_L2 N c16 p0 n v = some o26) (fun t25 => ⟨106, envL [(0, (.sl (List.map eRDecl p0))), (3, (i64 t8)), (4, (.ptr 0 0 0 0)), (12, (.sl (List.map eRDecl p0))), (13, (i64 (Sh.len p0))), (14, (i64 t8)), (54, (.sl (List.map eRCon c16.cons))), (55, (i64 (Sh.len c16.cons))), (56, (i64 t25))], [⟨0, 84, 3, [(eRDecl c16)]⟩]⟩) N 0 h2 (Wk.tr rfl) (fun _ hv => by rw [impl_ValidTypes_L2] at hv; cases hv) ?_)
     rintro n t25 h2
     try dsimp only at h2 ⊢
     rw [impl_ValidTypes_L2] at h2
     refine sr rfl fun K45 hK45 => ?_
     refine zq tb rfl ?_
     refine dn hK45 rfl ?_
     refine AW.seq fun K46 hK46 => ?_
     refine ci h2 rfl ?_ ?_ <;> clear h2
     ·intro b47 h2
      refine AW.skip (hK46 _ ?_)
      refine AW.seq fun K48 hK48 => ?_
      refine AW.block ?_
      refine sr rfl fun K49 hK49 => ?_
      obtain ⟨c50, gc50, h2⟩ := Sh.bind_some h2
      refine zx ei82 gc50 rfl rfl rfl ?_
      refine zq tb rfl ?_
      refine ao_alloc (m := 1) (st' := [⟨0, 84, 3, [(eRDecl c16)]⟩, ⟨0, 153, 1, [[.zc]]⟩]) go0 zi153 rfl rfl ?_
      refine ao_str (st' := [⟨0, 84, 3, [(eRDecl c16)]⟩, ⟨0, 153, 1, [(eRCon c50)]⟩]) go0 ti153 rfl rfl rfl rfl rfl rfl (show 0 + 1 ≤ 1 by decide) rfl ?_
      refine dn hK49 rfl ?_
      refine AW.seq fun K51 hK51 => ?_
      obtain ⟨o53, h3, h2⟩ := Sh.bind_some h2
      have M53 : ∀ (t52 : Bool), o53 = t52 → ∀ s, Wk 0 s ⟨106, envL [(0, (.sl (List.map eRDecl p0))), (3, (i64 t8)), (4, (.ptr 0 0 0 0)), (12, (.sl (List.map eRDecl p0))), (13, (i64 (Sh.len p0))), (14, (i64 t8)), (54, (.sl (List.map eRCon c16.cons))), (55, (i64 (Sh.len c16.cons))), (56, (i64 t25)), (70, (.bool t52))], [⟨0, 84, 3, [(eRDecl c16)]⟩]⟩ → K51 s := by
       intro t52 hq s hw
       subst o53
       try dsimp only at h2
       refine hK51 _ (AW.weaken hw ?_)
       refine ci h2 rfl ?_ ?_ <;> clear h2
       ·intro b54 h2
        refine sr rfl fun K55 hK55 => ?_
        refine zq tb rfl ?_
        refine dn hK55 rfl ?_
        replace h2 := Sh.some_eq h2
        subst o26
        try dsimp only [id] at h1
        replace h1 := Sh.some_eq h1
        subst o9
        try dsimp only [id] at h0
        replace h0 := Sh.some_eq h0
        subst r
        exact AW.ret (xr (Wk.d0 [(2, (.bool false))] rfl))
       ·intro b54 h2
        refine AW.skip (hK48 _ ?_)
        refine AW.regionO (by rfl) ?_
        iterate 2 refine zq tb rfl ?_
        exact AO.done (xi (Sh.w (t25 + 1)) h2 (Wk.tr rfl))
      refine AW.regionO (by rfl) ?_
      iterate 2 refine zq tb rfl ?_
      refine zl tb rfl rfl ?_
      iterate 2 refine zq tb rfl ?_
      rcases Sh.ite_some h3 with ⟨b56, h3⟩ | ⟨b56, h3⟩
      ·refine zs b56 rfl ?_
       iterate 4 refine zs b56 rfl ?_
       refine zt b56 rfl ?_
       exact AO.done (M53 true (Sh.some_eq h3).symm _ (Wk.permk (L := [(0, (.sl (List.map eRDecl p0))), (3, (i64 t8)), (4, (.ptr 0 0 0 0)), (12, (.sl (List.map eRDecl p0))), (13, (i64 (Sh.len p0))), (14, (i64 t8)), (54, (.sl (List.map eRCon c16.cons))), (55, (i64 (Sh.len c16.cons))), (56, (i64 t25)), (70, (.bool true))]) (st' := [⟨0, 84, 3, [(eRDecl c16)]⟩]) (st1 := [⟨0, 84, 3, [(eRDecl c16)]⟩]) [0] rfl .nil (by decide) rfl rfl (.raw rfl rfl .nil) ⟨.rfl, .rfl, .rfl, .rfl, .rfl, .rfl, .rfl, .rfl, .rfl, .rfl, trivial⟩))
      ·refine zg tb b56 rfl ?_
       iterate 2 refine zg tb b56 rfl ?_
       obtain ⟨q57, gq57, h3⟩ := Sh.bind_some h3
       refine zd b56 hb95 (impl_allTypes_ok gq57) rfl rfl rfl rfl ?_
       refine zg tb b56 rfl ?_
       refine zf b56 rfl ?_
       exact AO.done (M53 (!q57) (Sh.some_eq h3).symm _ (Wk.permk (L := [(0, (.sl (List.map eRDecl p0))), (3, (i64 t8)), (4, (.ptr 0 0 0 0)), (12, (.sl (List.map eRDecl p0))), (13, (i64 (Sh.len p0))), (14, (i64 t8)), (54, (.sl (List.map eRCon c16.cons))), (55, (i64 (Sh.len c16.cons))), (56, (i64 t25)), (70, (.bool (!q57)))]) (st' := [⟨0, 84, 3, [(eRDecl c16)]⟩]) (st1 := [⟨0, 84, 3, [(eRDecl c16)]⟩]) [0] rfl .nil (by decide) rfl rfl (.raw rfl rfl .nil) ⟨.rfl, .rfl, .rfl, .rfl, .rfl, .rfl, .rfl, .rfl, .rfl, .rfl, trivial⟩))
     ·intro b47 h2
      exact AW.exit (M26 () (Sh.some_eq h2).symm _ (Wk.tr rfl))
   refine AW.regionO (by rfl) ?_
   iterate 3 refine zq tb rfl ?_
   obtain ⟨q58, gq58, h2⟩ := Sh.bind_some h2
   refine zc hb96 (impl_isType_ok gq58) rfl rfl rfl ?_
   iterate 2 refine zq tb rfl ?_
   rcases Sh.ite_some h2 with ⟨b59, h2⟩ | ⟨b59, h2⟩
   ·refine zs b59 rfl ?_
    iterate 4 refine zs b59 rfl ?_
    refine zt b59 rfl ?_
    refine zq tb rfl ?_
    iterate 4 refine zs rfl rfl ?_
    refine zt rfl rfl ?_
    refine zq tb rfl ?_
    iterate 5 refine zs rfl rfl ?_
    iterate 8 refine zn rfl ?_
    refine zs rfl rfl ?_
    refine zt rfl rfl ?_
    exact AO.done (M20 true (Sh.some_eq h2).symm _ (Wk.tr rfl))
   ·refine zg tb b59 rfl ?_
    iterate 2 refine zg tb b59 rfl ?_
    obtain ⟨q60, gq60, h2⟩ := Sh.bind_some h2
    refine zd b59 hb96 (impl_isType_ok gq60) rfl rfl rfl rfl ?_
    refine zg tb b59 rfl ?_
    refine zf b59 rfl ?_
    refine zq tb rfl ?_
    rcases Sh.ite_some h2 with ⟨b61, h2⟩ | ⟨b61, h2⟩
    ·refine zs b61 rfl ?_
     iterate 3 refine zs b61 rfl ?_
     refine zt b61 rfl ?_
     refine zq tb rfl ?_
     iterate 5 refine zs rfl rfl ?_
     iterate 8 refine zn rfl ?_
     refine zs rfl rfl ?_
     refine zt rfl rfl ?_
     exact AO.done (M20 true (Sh.some_eq h2).symm _ (Wk.tr rfl))
    ·refine zg tb b61 rfl ?_
     refine zg tb b61 rfl ?_
     refine ao_q (v := (i64 (Sh.len c16.cons))) (go1 rfl rfl b61) rfl (aq_lens sl82 rfl) ?_
     refine zg tb b61 rfl ?_
     refine zf b61 rfl ?_
     refine zq tb rfl ?_
     rcases Sh.ite_some h2 with ⟨b62, h2⟩ | ⟨b62, h2⟩
     ·refine zs b62 rfl ?_
      iterate 4 refine zs b62 rfl ?_
      iterate 8 refine zn rfl ?_
      refine zs b62 rfl ?_
      refine zt b62 rfl ?_
      exact AO.done (M20 true (Sh.some_eq h2).symm _ (Wk.tr rfl))
     ·refine zg tb b62 rfl ?_
      refine zg tb b62 rfl ?_
      refine ao_q (v := (i64 (Sh.len c16.cons))) (go1 rfl rfl b62) rfl (aq_lens sl82 rfl) ?_
      iterate 2 refine zg tb b62 rfl ?_
      rcases Sh.ite_some h2 with ⟨b63, h2⟩ | ⟨b63, h2⟩
      ·refine zg tb b63 rfl ?_
       iterate 3 refine zg tb b63 rfl ?_
       rcases Sh.ite_some h2 with ⟨b64, h2⟩ | ⟨b64, h2⟩
       ·refine zs b64 rfl ?_
        iterate 2 refine zs b64 rfl ?_
        refine ao_q (v := (.bool true)) (go1 rfl rfl b63) rfl (aq_pkt rfl b64 rfl) ?_
        refine ao_q (v := (.bool true)) (go1 rfl rfl b62) rfl (aq_pkt rfl b63 rfl) ?_
        refine zf b62 rfl ?_
        exact AO.done (M20 true (Sh.some_eq h2).symm _ (Wk.tr rfl))
       ·refine zg tb b64 rfl ?_
        iterate 2 refine zg tb b64 rfl ?_
        refine ao_q (v := (.bool (!decide (c16.to = 0)))) (go1 rfl rfl b63) rfl (aq_pkf rfl b64 rfl) ?_
        refine ao_q (v := (.bool (!decide (c16.to = 0)))) (go1 rfl rfl b62) rfl (aq_pkt rfl b63 rfl) ?_
        refine zf b62 rfl ?_
        exact AO.done (M20 (!decide (c16.to = 0)) (Sh.some_eq h2).symm _ (Wk.tr rfl))
      ·refine zs b63 rfl ?_
       iterate 3 refine zs b63 rfl ?_
       iterate 3 refine zn rfl ?_
       refine zs b63 rfl ?_
       refine ao_q (v := (.bool false)) (go1 rfl rfl b62) rfl (aq_pkf rfl b63 rfl) ?_
       refine zf b62 rfl ?_
       exact AO.done (M20 false (Sh.some_eq h2).symm _ (Wk.tr rfl))
  ·intro b13 h1
   exact AW.exit (M9 () (Sh.some_eq h1).symm _ (Wk.tr rfl))
theorem impl_validSigs_ok {N : Nat} {p0 : (List RDecl)} {p1 : (List RSignature)} {r : Bool} (h0 : impl_validSigs N p0 p1 = some r) : ACalls Tryz.prog 70 [(.sl (List.map eRDecl p0)), (.sl (List.map eRSignature p1))] [] (fun v st => v = (.bool r) ∧ st = []) := by
 unfold impl_validSigs at h0
 refine ACalls.intro Tryz.func70 rfl (by show 2 ≤ 102; decide) ?_
 show AW _ 0 _ (aret _ 0 Tryz.f70 _) ⟨102, _, _⟩
 refine AW.weaken (Wk.to (L := [(0, (.sl (List.map eRDecl p0))), (1, (.sl (List.map eRSignature p1)))]) ⟨.rfl, .rfl, trivial⟩) ?_
 refine sr rfl fun K1 hK1 => ?_
 refine zq tb rfl ?_
 refine dn hK1 rfl ?_
 refine AW.seq fun K2 hK2 => ?_
 refine AW.seq fun K3 hK3 => ?_
 obtain ⟨o5, h1, h0⟩ := Sh.bind_some h0
 have M5 : ∀ (t4 : Bool), o5 = t4 → ∀ s, Wk 0 s ⟨102, envL [(0, (.sl (List.map eRDecl p0))), (1, (.sl (List.map eRSignature p1))), (36, (.bool t4))], []⟩ → K3 s := by
  intro t4 hq s hw
  subst o5
  try dsimp only at h0
  refine hK3 _ (AW.weaken hw ?_)
  refine ci h0 rfl ?_ ?_ <;> clear h0
  ·intro b6 h0
   refine sr rfl fun K7 hK7 => ?_
   refine zq tb rfl ?_
   refine dn hK7 rfl ?_
   replace h0 := Sh.some_eq h0
   subst r
   exact AW.ret (xr (Wk.to (L := [(4, (.bool false))]) ⟨.rfl, trivial⟩))
  ·intro b6 h0
   refine AW.skip (hK2 _ ?_)
   refine AW.seq fun K8 hK8 => ?_
   refine sr rfl fun K9 hK9 => ?_
   refine zq tb rfl ?_
   refine zl tb rfl rfl ?_
   refine zq tb rfl ?_
   refine dn hK9 rfl ?_
   obtain ⟨o11, h1, h0⟩ := Sh.cont_some h0
   have M11 : ∀ (_ : Unit), o11 = Sum.inr () → ∀ s, Wk 0 s ⟨102, envL [], []⟩ → K8 s := by
    intro _ hq s hw
    subst o11
    try dsimp only at h0
    refine hK8 _ (AW.weaken hw ?_)
    refine sr rfl fun K12 hK12 => ?_
    refine zq tb rfl ?_
    refine dn hK12 rfl ?_
    replace h0 := Sh.some_eq h0
    subst r
    exact AW.ret (xr (Wk.to (L := [(4, (.bool true))]) ⟨.rfl, trivial⟩))
   refine AW.block (AW.loopF (σ := Int) (fun n v => impl_validSigs_L1 N p0 p1 n v = some o11) (fun t10 => ⟨102, envL [(0, (.sl (List.map eRDecl p0))), (37, (.sl (List.map eRSignature p1))), (38, (i64 (Sh.len p1))), (39, (i64 t10))], []⟩) N 0 h1 (Wk.tr rfl) (fun _ hv => by rw [impl_validSigs_L1] at hv; cases hv) ?_)
   rintro n t10 h1
   try dsimp only at h1 ⊢
   rw [impl_validSigs_L1] at h1
   refine sr rfl fun K13 hK13 => ?_
   refine zq tb rfl ?_
   refine dn hK13 rfl ?_
   refine AW.seq fun K14 hK14 => ?_
   refine ci h1 rfl ?_ ?_ <;> clear h1
   ·intro b15 h1
    refine AW.skip (hK14 _ ?_)
    refine AW.seq fun K16 hK16 => ?_
    refine AW.block ?_
    refine sr rfl fun K17 hK17 => ?_
    obtain ⟨c18, gc18, h1⟩ := Sh.bind_some h1
    refine zx ei94 gc18 rfl rfl rfl ?_
    refine zq tb rfl ?_
    refine ao_alloc (m := 0) (st' := [⟨0, 127, 3, [[.zc, .zc, (i64 0)]]⟩]) go0 zi127 rfl rfl ?_
    refine ao_str (st' := [⟨0, 127, 3, [[(.sl (List.map eI c18.params)), (.sl (List.map eI c18.lent)), (i64 c18.result)]]⟩]) go0 ti127 rfl rfl rfl rfl rfl rfl (show 0 + 3 ≤ 3 by decide) rfl ?_
    refine dn hK17 rfl ?_
    refine AW.seq fun K19 hK19 => ?_
    refine AW.seq fun K20 hK20 => ?_
    obtain ⟨o22, h2, h1⟩ := Sh.bind_some h1
    have M22 : ∀ (t21 : Bool), o22 = t21 → ∀ s, Wk 0 s ⟨102, envL [(0, (.sl (List.map eRDecl p0))), (6, (.ptr 0 0 0 0)), (37, (.sl (List.map eRSignature p1))), (38, (i64 (Sh.len p1))), (39, (i64 t10)), (60, (.bool t21))], [⟨0, 127, 3, [[(.sl (List.map eI c18.params)), (.sl (List.map eI c18.lent)), (i64 c18.result)]]⟩]⟩ → K20 s := by
     intro t21 hq s hw
     subst o22
     try dsimp only at h1
     refine hK20 _ (AW.weaken hw ?_)
     refine ci h1 rfl ?_ ?_ <;> clear h1
     ·intro b23 h1
      refine sr rfl fun K24 hK24 => ?_
      refine zq tb rfl ?_
      refine dn hK24 rfl ?_
      replace h1 := Sh.some_eq h1
      subst o11
      try dsimp only [id] at h0
      replace h0 := Sh.some_eq h0
      subst r
      exact AW.ret (xr (Wk.d0 [(4, (.bool false))] rfl))
     ·intro b23 h1
      refine AW.skip (hK19 _ ?_)
      refine sr rfl fun K25 hK25 => ?_
      iterate 2 refine zq tb rfl ?_
      refine zl tb rfl rfl ?_
      refine zq tb rfl ?_
      refine dn hK25 rfl ?_
      obtain ⟨o27, h2, h1⟩ := Sh.cont_some h1
      have M27 : ∀ (_ : Unit), o27 = Sum.inr () → ∀ s, Wk 0 s ⟨102, envL [(0, (.sl (List.map eRDecl p0))), (37, (.sl (List.map eRSignature p1))), (38, (i64 (Sh.len p1))), (39, (i64 t10))], []⟩ → K16 s := by
       intro _ hq s hw
       subst o27
       try dsimp only at h1
       refine hK16 _ (AW.weaken hw ?_)
       refine AW.regionO (by rfl) ?_
       iterate 2 refine zq tb rfl ?_
       exact AO.done (xi (Sh.w (t10 + 1)) h1 (Wk.tr rfl))
      refine AW.block (AW.loopF (σ := Int) (fun n v => impl_validSigs_L2 c18 n v = some o27) (fun t26 => ⟨102, envL [(0, (.sl (List.map eRDecl p0))), (6, (.ptr 0 0 0 0)), (37, (.sl (List.map eRSignature p1))), (38, (i64 (Sh.len p1))), (39, (i64 t10)), (62, (.sl (List.map eI c18.lent))), (63, (i64 (Sh.len c18.lent))), (64, (i64 t26))], [⟨0, 127, 3, [[(.sl (List.map eI c18.params)), (.sl (List.map eI c18.lent)), (i64 c18.result)]]⟩]⟩) N 0 h2 (Wk.tr rfl) (fun _ hv => by rw [impl_validSigs_L2] at hv; cases hv) ?_)
      rintro n t26 h2
      try dsimp only at h2 ⊢
      rw [impl_validSigs_L2] at h2
      refine sr rfl fun K28 hK28 => ?_
      refine zq tb rfl ?_
      refine dn hK28 rfl ?_
      refine AW.seq fun K29 hK29 => ?_
      refine ci h2 rfl ?_ ?_ <;> clear h2
      ·intro b30 h2
       refine AW.skip (hK29 _ ?_)
       refine AW.seq fun K31 hK31 => ?_
       refine AW.block ?_
       refine sr rfl fun K32 hK32 => ?_
       refine zq tb rfl ?_
       obtain ⟨c33, gc33, h2⟩ := Sh.bind_some h2
       refine zx ei26 gc33 rfl rfl rfl ?_
       iterate 3 refine zq tb rfl ?_
       refine dn hK32 rfl ?_
       refine AW.seq fun K34 hK34 => ?_
       obtain ⟨o36, h3, h2⟩ := Sh.bind_some h2
       have M36 : ∀ (t35 : Bool), o36 = t35 → ∀ s, Wk 0 s ⟨102, envL [(0, (.sl (List.map eRDecl p0))), (6, (.ptr 0 0 0 0)), (37, (.sl (List.map eRSignature p1))), (38, (i64 (Sh.len p1))), (39, (i64 t10)), (62, (.sl (List.map eI c18.lent))), (63, (i64 (Sh.len c18.lent))), (64, (i64 t26)), (99, (.bool t35))], [⟨0, 127, 3, [[(.sl (List.map eI c18.params)), (.sl (List.map eI c18.lent)), (i64 c18.result)]]⟩]⟩ → K34 s := by
        intro t35 hq s hw
        subst o36
        try dsimp only at h2
        refine hK34 _ (AW.weaken hw ?_)
        refine ci h2 rfl ?_ ?_ <;> clear h2
        ·intro b37 h2
         refine sr rfl fun K38 hK38 => ?_
         refine zq tb rfl ?_
         refine dn hK38 rfl ?_
         replace h2 := Sh.some_eq h2
         subst o27
         try dsimp only [id] at h1
         replace h1 := Sh.some_eq h1
         subst o11
         try dsimp only [id] at h0
         replace h0 := Sh.some_eq h0
         subst r
         exact AW.ret (xr (Wk.d0 [(4, (.bool false))] rfl))
        ·intro b37 h2
         refine AW.skip (hK31 _ ?_)
         refine AW.regionO (by rfl) ?_
         iterate 2 refine zq tb rfl ?_
         exact AO.done (xi (Sh.w (t26 + 1)) h2 (Wk.tr rfl))
       refine AW.regionO (by rfl) ?_
       iterate 3 refine zq tb rfl ?_
       rcases Sh.ite_some h3 with ⟨b39, h3⟩ | ⟨b39, h3⟩
       ·refine zs b39 rfl ?_
        iterate 4 refine zs b39 rfl ?_
        refine zt b39 rfl ?_
        refine zq tb rfl ?_
        iterate 6 refine zs rfl rfl ?_
        refine zt rfl rfl ?_
        refine zq tb rfl ?_
        iterate 3 refine zs rfl rfl ?_
        iterate 8 refine zn rfl ?_
        refine zs rfl rfl ?_
        refine zt rfl rfl ?_
        exact AO.done (M36 true (Sh.some_eq h3).symm _ (Wk.tr rfl))
       ·refine zg tb b39 rfl ?_
        iterate 2 refine zg tb b39 rfl ?_
        refine ao_q (v := (i64 (Sh.len c18.params))) (go1 rfl rfl b39) rfl (aq_lens sl26 rfl) ?_
        refine zg tb b39 rfl ?_
        refine zf b39 rfl ?_
        refine zq tb rfl ?_
        rcases Sh.ite_some h3 with ⟨b40, h3⟩ | ⟨b40, h3⟩
        ·refine zs b40 rfl ?_
         iterate 5 refine zs b40 rfl ?_
         refine zt b40 rfl ?_
         refine zq tb rfl ?_
         iterate 3 refine zs rfl rfl ?_
         iterate 8 refine zn rfl ?_
         refine zs rfl rfl ?_
         refine zt rfl rfl ?_
         exact AO.done (M36 true (Sh.some_eq h3).symm _ (Wk.tr rfl))
        ·refine zg tb b40 rfl ?_
         iterate 2 refine zg tb b40 rfl ?_
         obtain ⟨c41, gc41, h3⟩ := Sh.bind_some h3
         refine ao_q (v := (.iptr (eI c41) 0)) (go1 rfl rfl b40) rfl (aq_ixs ei26 rfl rfl gc41 rfl) ?_
         iterate 2 refine zg tb b40 rfl ?_
         refine zf b40 rfl ?_
         refine zq tb rfl ?_
         rcases Sh.ite_some h3 with ⟨b42, h3⟩ | ⟨b42, h3⟩
         ·refine zs b42 rfl ?_
          iterate 2 refine zs b42 rfl ?_
          iterate 8 refine zn rfl ?_
          refine zs b42 rfl ?_
          refine zt b42 rfl ?_
          exact AO.done (M36 true (Sh.some_eq h3).symm _ (Wk.tr rfl))
         ·refine zg tb b42 rfl ?_
          iterate 2 refine zg tb b42 rfl ?_
          rcases Sh.ite_some h3 with ⟨b43, h3⟩ | ⟨b43, h3⟩
          ·refine zg tb b43 rfl ?_
           iterate 4 refine zg tb b43 rfl ?_
           obtain ⟨c44, gc44, h3⟩ := Sh.bind_some h3
           refine ao_q (v := (.iptr (eI c44) 0)) (go1 rfl rfl b43) rfl (aq_ixs ei26 rfl rfl gc44 rfl) ?_
           iterate 2 refine zg tb b43 rfl ?_
           refine ao_q (v := (.bool (decide (c33 ≤ c44)))) (go1 rfl rfl b42) rfl (aq_pkt rfl b43 rfl) ?_
           refine zf b42 rfl ?_
           exact AO.done (M36 (decide (c33 ≤ c44)) (Sh.some_eq h3).symm _ (Wk.tr rfl))
          ·refine zs b43 rfl ?_
           iterate 7 refine zs b43 rfl ?_
           refine ao_q (v := (.bool false)) (go1 rfl rfl b42) rfl (aq_pkf rfl b43 rfl) ?_
           refine zf b42 rfl ?_
           exact AO.done (M36 false (Sh.some_eq h3).symm _ (Wk.tr rfl))
      ·intro b30 h2
       exact AW.exit (M27 () (Sh.some_eq h2).symm _ (Wk.d0 _ rfl))
    refine AW.regionO (by rfl) ?_
    iterate 2 refine zq tb rfl ?_
    refine zl tb rfl rfl ?_
    iterate 2 refine zq tb rfl ?_
    rcases Sh.ite_some h2 with ⟨b45, h2⟩ | ⟨b45, h2⟩
    ·refine zs b45 rfl ?_
     iterate 4 refine zs b45 rfl ?_
     refine zt b45 rfl ?_
     refine zq tb rfl ?_
     iterate 5 refine zs rfl rfl ?_
     refine zt rfl rfl ?_
     exact AO.done (M22 true (Sh.some_eq h2).symm _ (Wk.tr rfl))
    ·refine zg tb b45 rfl ?_
     iterate 2 refine zg tb b45 rfl ?_
     obtain ⟨q46, gq46, h2⟩ := Sh.bind_some h2
     refine zd b45 hb95 (impl_allTypes_ok gq46) rfl rfl rfl rfl ?_
     refine zg tb b45 rfl ?_
     refine zf b45 rfl ?_
     refine zq tb rfl ?_
     rcases Sh.ite_some h2 with ⟨b47, h2⟩ | ⟨b47, h2⟩
     ·refine zs b47 rfl ?_
      iterate 4 refine zs b47 rfl ?_
      refine zt b47 rfl ?_
      exact AO.done (M22 true (Sh.some_eq h2).symm _ (Wk.tr rfl))
     ·refine zg tb b47 rfl ?_
      iterate 2 refine zg tb b47 rfl ?_
      obtain ⟨q48, gq48, h2⟩ := Sh.bind_some h2
      refine zd b47 hb96 (impl_isType_ok gq48) rfl rfl rfl rfl ?_
      refine zg tb b47 rfl ?_
      refine zf b47 rfl ?_
      exact AO.done (M22 (!q48) (Sh.some_eq h2).symm _ (Wk.tr rfl))
   ·intro b15 h1
    exact AW.exit (M11 () (Sh.some_eq h1).symm _ (Wk.tr rfl))
 refine AW.regionO (by rfl) ?_
 refine zq tb rfl ?_
 obtain ⟨q49, gq49, h1⟩ := Sh.bind_some h1
 refine zc hb94 (impl_ValidTypes_ok gq49) rfl rfl rfl ?_
 iterate 2 refine zq tb rfl ?_
 rcases Sh.ite_some h1 with ⟨b50, h1⟩ | ⟨b50, h1⟩
 ·refine zs b50 rfl ?_
  iterate 2 refine zs b50 rfl ?_
  refine zt b50 rfl ?_
  refine zq tb rfl ?_
  iterate 3 refine zs rfl rfl ?_
  refine zt rfl rfl ?_
  refine zq tb rfl ?_
  iterate 6 refine zs rfl rfl ?_
  refine zt rfl rfl ?_
  refine zq tb rfl ?_
  iterate 5 refine zs rfl rfl ?_
  refine zt rfl rfl ?_
  exact AO.done (M5 true (Sh.some_eq h1).symm _ (Wk.tr rfl))
 ·refine zg tb b50 rfl ?_
  refine ao_q (v := (i64 (Sh.len p1))) (go1 rfl rfl b50) rfl (aq_lens sl94 rfl) ?_
  refine zg tb b50 rfl ?_
  refine zf b50 rfl ?_
  refine zq tb rfl ?_
  rcases Sh.ite_some h1 with ⟨b51, h1⟩ | ⟨b51, h1⟩
  ·refine zs b51 rfl ?_
   iterate 2 refine zs b51 rfl ?_
   refine zt b51 rfl ?_
   refine zq tb rfl ?_
   iterate 6 refine zs rfl rfl ?_
   refine zt rfl rfl ?_
   refine zq tb rfl ?_
   iterate 5 refine zs rfl rfl ?_
   refine zt rfl rfl ?_
   exact AO.done (M5 true (Sh.some_eq h1).symm _ (Wk.tr rfl))
  ·refine zg tb b51 rfl ?_
   refine ao_q (v := (i64 (Sh.len p1))) (go1 rfl rfl b51) rfl (aq_lens sl94 rfl) ?_
   refine zg tb b51 rfl ?_
   refine zf b51 rfl ?_
   refine zq tb rfl ?_
   rcases Sh.ite_some h1 with ⟨b52, h1⟩ | ⟨b52, h1⟩
   ·refine zs b52 rfl ?_
    iterate 5 refine zs b52 rfl ?_
    refine zt b52 rfl ?_
    refine zq tb rfl ?_
    iterate 5 refine zs rfl rfl ?_
    refine zt rfl rfl ?_
    exact AO.done (M5 true (Sh.some_eq h1).symm _ (Wk.tr rfl))
   ·refine zg tb b52 rfl ?_
    obtain ⟨c53, gc53, h1⟩ := Sh.bind_some h1
    refine ao_q (v := (.iptr (eRSignature c53) 0)) (go1 rfl rfl b52) rfl (aq_ixs ei94 rfl rfl gc53 rfl) ?_
    iterate 2 refine zg tb b52 rfl ?_
    refine ao_q (v := (i64 (Sh.len c53.params))) (go1 rfl rfl b52) rfl (aq_lens sl26 rfl) ?_
    refine zg tb b52 rfl ?_
    refine zf b52 rfl ?_
    refine zq tb rfl ?_
    rcases Sh.ite_some h1 with ⟨b54, h1⟩ | ⟨b54, h1⟩
    ·refine zs b54 rfl ?_
     iterate 4 refine zs b54 rfl ?_
     refine zt b54 rfl ?_
     exact AO.done (M5 true (Sh.some_eq h1).symm _ (Wk.tr rfl))
    ·refine zg tb b54 rfl ?_
     refine ao_q (v := (.iptr (eRSignature c53) 0)) (go1 rfl rfl b54) rfl (aq_ixs ei94 rfl rfl gc53 rfl) ?_
     iterate 3 refine zg tb b54 rfl ?_
     refine zf b54 rfl ?_
     exact AO.done (M5 (!decide (c53.result = 0)) (Sh.some_eq h1).symm _ (Wk.tr rfl))
theorem impl_imageSigs_ok {N : Nat} {p0 : RImage} {r : RSignatures × Bool} (h0 : impl_imageSigs N p0 = some r) : ACalls Tryz.prog 45 [(.agg (eRImage p0))] [] (fun v st => v = (.tup [(.agg (eRSignatures r.1)), (.bool r.2)]) ∧ st = []) := by
 unfold impl_imageSigs at h0
 refine ACalls.flat rfl ?_
 refine ACalls.intro Tryz.func45 rfl (by show 1 ≤ 41; decide) ?_
 show AW _ 0 _ (aret _ 0 Tryz.f45 _) ⟨41, _, _⟩
 refine AW.weaken (Wk.to (L := [(0, (.agg (eRImage p0)))]) ⟨.rfl, trivial⟩) ?_
 refine sr rfl fun K1 hK1 => ?_
 refine ao_box (m := 0) (st' := [⟨0, 37, 2, [(eRImage p0)]⟩]) go0 rfl rfl rfl rfl rfl ?_
 refine ao_alloc (m := 1) (st' := [⟨0, 37, 2, [(eRImage p0)]⟩, ⟨0, 96, 2, [[.zc, .zc]]⟩]) go0 zi96 rfl rfl ?_
 refine zq tb rfl ?_
 refine dn hK1 rfl ?_
 refine AW.seq fun K2 hK2 => ?_
 refine sr rfl fun K3 hK3 => ?_
 iterate 2 refine zq tb rfl ?_
 refine zl tb rfl rfl ?_
 refine zq tb rfl ?_
 refine dn hK3 rfl ?_
 refine ci h0 rfl ?_ ?_ <;> clear h0
 ·intro b4 h0
  refine sr rfl fun K5 hK5 => ?_
  refine zz (.agg [.zc, .zc]) (aq_bd ai96 bi96 zi96 rfl rfl) rfl ?_
  refine ao_str (st' := [⟨0, 37, 2, [(eRImage p0)]⟩, ⟨0, 96, 2, [[.zc, .zc]]⟩]) go0 ti96 rfl rfl rfl rfl rfl rfl (show 0 + 2 ≤ 2 by decide) rfl ?_
  refine zq tb rfl ?_
  refine dn hK5 rfl ?_
  replace h0 := Sh.some_eq h0
  subst r
  exact AW.ret (Exists.intro _ (And.intro ((((Wk.cellLe (id := 1) (cs := [.zc, .zc]) (cs' := [(.sl (List.map eRDecl [])), .zc]) (st' := [⟨0, 37, 2, [(eRImage p0)]⟩, ⟨0, 96, 2, [[(.sl (List.map eRDecl [])), .zc]]⟩]) rfl ⟨le.zc, le.rfl, trivial⟩ rfl rfl).trans (Wk.cellLe (id := 1) (cs := [(.sl (List.map eRDecl [])), .zc]) (cs' := [(.sl (List.map eRDecl [])), (.sl (List.map eRSignature []))]) (st' := [⟨0, 37, 2, [(eRImage p0)]⟩, ⟨0, 96, 2, [[(.sl (List.map eRDecl [])), (.sl (List.map eRSignature []))]]⟩]) rfl ⟨le.rfl, le.zc, trivial⟩ rfl rfl)).trans (Wk.permk (L := [(2, (.ptr 0 0 0 0)), (3, (.bool false))]) (st' := [⟨0, 96, 2, [[(.sl (List.map eRDecl [])), (.sl (List.map eRSignature []))]]⟩]) (st1 := [⟨0, 96, 2, [[(.sl (List.map eRDecl [])), (.sl (List.map eRSignature []))]]⟩]) [1] rfl .nil (by decide) rfl rfl (.raw rfl rfl .nil) ⟨.rfl, .rfl, trivial⟩)).trans (Wk.to (L := [(2, (.ptr 0 0 0 0)), (3, (.bool false))]) ⟨.rfl, .rfl, trivial⟩)) (aq_ldpa (x := .tmp 2) (off := 0) (cs := [(.sl (List.map eRDecl [])), (.sl (List.map eRSignature []))]) (vs := [(.sl (List.map eRDecl [])), (.sl (List.map eRSignature []))]) ti96 rfl rfl rfl (show 0 + 2 ≤ 2 by decide) rfl _ rfl)))
 ·intro b4 h0
  refine AW.skip (hK2 _ ?_)
  refine sr rfl fun K6 hK6 => ?_
  iterate 2 refine zq tb rfl ?_
  refine zz (.agg [(.sl (List.map eRDecl p0.decls)), .zc]) (aq_bd ai96 bi96 zi96 rfl rfl) rfl ?_
  refine ao_alloc (m := 2) (st' := [⟨0, 37, 2, [(eRImage p0)]⟩, ⟨0, 96, 2, [[.zc, .zc]]⟩, ⟨0, 96, 2, [[.zc, .zc]]⟩]) go0 zi96 rfl rfl ?_
  refine ao_str (st' := [⟨0, 37, 2, [(eRImage p0)]⟩, ⟨0, 96, 2, [[.zc, .zc]]⟩, ⟨0, 96, 2, [[(.sl (List.map eRDecl p0.decls)), .zc]]⟩]) go0 ti96 rfl rfl rfl rfl rfl rfl (show 0 + 2 ≤ 2 by decide) rfl ?_
  refine dn hK6 rfl ?_
  refine AW.seq fun K7 hK7 => ?_
  refine sr rfl fun K8 hK8 => ?_
  iterate 2 refine zq tb rfl ?_
  refine zl tb rfl rfl ?_
  refine zq tb rfl ?_
  refine dn hK8 rfl ?_
  obtain ⟨o12, h1, h0⟩ := Sh.bind_some h0
  have M12 : ∀ (l11 : (List RSignature)), o12 = l11 → ∀ s, Wk 0 s ⟨41, envL [(1, (.ptr 0 0 0 0)), (2, (.ptr 1 0 0 0)), (4, (.ptr 2 0 0 0))], [⟨0, 37, 2, [(eRImage p0)]⟩, ⟨0, 96, 2, [[.zc, .zc]]⟩, ⟨0, 96, 2, [[(.sl (List.map eRDecl p0.decls)), (.own 3 0 (List.length l11))]]⟩, ⟨0, 127, 3, List.map eRSignature l11⟩]⟩ → K7 s := by
   intro l11 hq s hw
   subst o12
   try dsimp only at h0
   refine hK7 _ (AW.weaken hw ?_)
   refine AW.seq fun K13 hK13 => ?_
   refine AW.drawTailO 6 (by kernel_rfl) (by kernel_rfl) (by rfl) ?_
   iterate 5 refine yq tb rfl ?_
   obtain ⟨q14, gq14, h0⟩ := Sh.bind_some h0
   refine d_callb (v' := (.bool q14)) go0 hb70 (impl_validSigs_ok gq14) rfl (.val rfl (.own rfl rfl (fun _ => rfl) .nil)) rfl rfl ?_
   refine d_done ?_
   refine AO.weaken (Wk.frz (L := [(2, (.ptr 1 0 0 0)), (35, (.agg [(.sl (List.map eRDecl p0.decls)), (.sl (List.map eRSignature l11))])), (40, (.bool q14))]) (st' := [⟨0, 37, 2, [(eRImage p0)]⟩, ⟨0, 96, 2, [[.zc, .zc]]⟩, ⟨0, 96, 2, [[(.sl (List.map eRDecl p0.decls)), (.own 3 0 (List.length l11))]]⟩, ⟨1, 127, 3, []⟩]) (id := 3) rfl (show 0 ≤ 3 by decide) (pure_map fun _ => rfl) ⟨.rfl, (.agg ⟨.rfl, (.frz1 rfl), trivial⟩), .rfl, trivial⟩ rfl) ?_
   refine ao_str (st' := [⟨0, 37, 2, [(eRImage p0)]⟩, ⟨0, 96, 2, [[(.sl (List.map eRDecl p0.decls)), (.sl (List.map eRSignature l11))]]⟩, ⟨0, 96, 2, [[(.sl (List.map eRDecl p0.decls)), (.own 3 0 (List.length l11))]]⟩, ⟨1, 127, 3, []⟩]) go0 ti96 rfl rfl rfl rfl rfl rfl (show 0 + 2 ≤ 2 by decide) rfl ?_
   refine zq tb rfl ?_
   refine dn hK13 rfl ?_
   replace h0 := Sh.some_eq h0
   subst r
   exact AW.ret (Exists.intro _ (And.intro ((Wk.permk (L := [(2, (.ptr 0 0 0 0)), (3, (.bool q14))]) (st' := [⟨0, 96, 2, [[(.sl (List.map eRDecl p0.decls)), (.sl (List.map eRSignature l11))]]⟩]) (st1 := [⟨0, 96, 2, [[(.sl (List.map eRDecl p0.decls)), (.sl (List.map eRSignature l11))]]⟩]) [1] rfl .nil (by decide) rfl rfl (.raw rfl rfl .nil) ⟨.rfl, .rfl, trivial⟩).trans (Wk.to (L := [(2, (.ptr 0 0 0 0)), (3, (.bool q14))]) ⟨.rfl, .rfl, trivial⟩)) (aq_ldpa (x := .tmp 2) (off := 0) (cs := [(.sl (List.map eRDecl p0.decls)), (.sl (List.map eRSignature l11))]) (vs := [(.sl (List.map eRDecl p0.decls)), (.sl (List.map eRSignature l11))]) ti96 rfl rfl rfl (show 0 + 2 ≤ 2 by decide) rfl _ rfl)))
  refine AW.block (AW.loopF (σ := Int × (List RSignature)) (fun n v => impl_imageSigs_L1 p0 n v.1 v.2 = some o12) (fun (t9, l10) => ⟨41, envL [(1, (.ptr 0 0 0 0)), (2, (.ptr 1 0 0 0)), (4, (.ptr 2 0 0 0)), (16, (.sl (List.map eRProc p0.procs))), (17, (i64 (Sh.len p0.procs))), (18, (i64 t9))], [⟨0, 37, 2, [(eRImage p0)]⟩, ⟨0, 96, 2, [[.zc, .zc]]⟩, ⟨0, 96, 2, [[(.sl (List.map eRDecl p0.decls)), (.own 3 0 (List.length l10))]]⟩, ⟨0, 127, 3, List.map eRSignature l10⟩]⟩) N (0, []) h1 (by refine Wk.trans (Wk.adoptC (id := 2) (st' := [⟨0, 37, 2, [(eRImage p0)]⟩, ⟨0, 96, 2, [[.zc, .zc]]⟩, ⟨0, 96, 2, [[(.sl (List.map eRDecl p0.decls)), (.own 3 0 (List.length ([] : List RSignature)))]]⟩, ⟨0, 127, 3, List.map eRSignature ([] : List RSignature)⟩]) (j := 1) rfl rfl 127 (size' := 3) (by decide) rfl rfl rfl rfl) ?_; exact Wk.tr rfl) (fun _ hv => by rw [impl_imageSigs_L1] at hv; cases hv) ?_)
  rintro n ⟨t9, l10⟩ h1
  try dsimp only at h1 ⊢
  rw [impl_imageSigs_L1] at h1
  refine sr rfl fun K15 hK15 => ?_
  refine zq tb rfl ?_
  refine dn hK15 rfl ?_
  refine AW.seq fun K16 hK16 => ?_
  refine ci h1 rfl ?_ ?_ <;> clear h1
  ·intro b17 h1
   refine AW.skip (hK16 _ ?_)
   refine AW.seq fun K18 hK18 => ?_
   refine AW.block ?_
   refine sr rfl fun K19 hK19 => ?_
   obtain ⟨c20, gc20, h1⟩ := Sh.bind_some h1
   refine zx ei35 gc20 rfl rfl rfl ?_
   refine zq tb rfl ?_
   refine ao_alloc (m := 4) (st' := [⟨0, 37, 2, [(eRImage p0)]⟩, ⟨0, 96, 2, [[.zc, .zc]]⟩, ⟨0, 96, 2, [[(.sl (List.map eRDecl p0.decls)), (.own 3 0 (List.length l10))]]⟩, ⟨0, 127, 3, List.map eRSignature l10⟩, ⟨0, 88, 5, [[.zc, .zc, (i64 0), (i64 0), .zc]]⟩]) go0 zi88 rfl rfl ?_
   refine ao_str (st' := [⟨0, 37, 2, [(eRImage p0)]⟩, ⟨0, 96, 2, [[.zc, .zc]]⟩, ⟨0, 96, 2, [[(.sl (List.map eRDecl p0.decls)), (.own 3 0 (List.length l10))]]⟩, ⟨0, 127, 3, List.map eRSignature l10⟩, ⟨0, 88, 5, [(eRProc c20)]⟩]) go0 ti88 rfl rfl rfl rfl rfl rfl (show 0 + 5 ≤ 5 by decide) rfl ?_
   refine dn hK19 rfl ?_
   refine AW.regionO (by rfl) ?_
   iterate 8 refine zq tb rfl ?_
   refine zz (.agg [(.sl (List.map eI c20.params)), (.sl (List.map eI c20.lent)), (i64 c20.result)]) (aq_bd ai127 bi127 zi127 rfl rfl) rfl ?_
   refine ao_bs (m := 5) (st' := [⟨0, 37, 2, [(eRImage p0)]⟩, ⟨0, 96, 2, [[.zc, .zc]]⟩, ⟨0, 96, 2, [[(.sl (List.map eRDecl p0.decls)), (.own 3 0 (List.length l10))]]⟩, ⟨0, 127, 3, List.map eRSignature l10⟩, ⟨0, 88, 5, [(eRProc c20)]⟩, ⟨0, 127, 3, List.map eRSignature [(RSignature.mk c20.params c20.lent c20.result)]⟩]) (l := [(RSignature.mk c20.params c20.lent c20.result)]) (enc := eRSignature) go0 ei94 (by decide) rfl rfl rfl rfl rfl rfl ?_
   obtain ⟨l21, gl21, h1⟩ := Sh.bind_some h1
   refine ao_apo (st' := [⟨0, 37, 2, [(eRImage p0)]⟩, ⟨0, 96, 2, [[.zc, .zc]]⟩, ⟨0, 96, 2, [[(.sl (List.map eRDecl p0.decls)), (.own 3 0 (List.length l10))]]⟩, ⟨1, 127, 3, List.map eRSignature l21⟩, ⟨0, 88, 5, [(eRProc c20)]⟩, ⟨0, 127, 3, List.map eRSignature [(RSignature.mk c20.params c20.lent c20.result)]⟩]) (l2 := [(RSignature.mk c20.params c20.lent c20.result)]) go0 ei94 rfl rfl rfl rfl (el_o rfl rfl) (fun _ => rfl) gl21 rfl ?_
   refine zq tb rfl ?_
   refine ao_str (st' := [⟨0, 37, 2, [(eRImage p0)]⟩, ⟨0, 96, 2, [[.zc, .zc]]⟩, ⟨0, 96, 2, [[(.sl (List.map eRDecl p0.decls)), (.own 3 1 (List.length l21))]]⟩, ⟨1, 127, 3, List.map eRSignature l21⟩, ⟨0, 88, 5, [(eRProc c20)]⟩, ⟨0, 127, 3, List.map eRSignature [(RSignature.mk c20.params c20.lent c20.result)]⟩]) go0 ti94 rfl rfl rfl rfl rfl rfl (show 1 + 1 ≤ 2 by decide) rfl ?_
   refine dn hK18 rfl ?_
   refine AW.regionO (by rfl) ?_
   iterate 2 refine zq tb rfl ?_
   exact AO.done (xi (Sh.w (t9 + 1), l21) h1 (by refine Wk.trans (Wk.rg (L := [(1, (.ptr 0 0 0 0)), (2, (.ptr 1 0 0 0)), (4, (.ptr 2 0 0 0)), (16, (.sl (List.map eRProc p0.procs))), (17, (i64 (Sh.len p0.procs))), (18, (i64 (Sh.w (t9 + 1))))]) (st' := [⟨0, 37, 2, [(eRImage p0)]⟩, ⟨0, 96, 2, [[.zc, .zc]]⟩, ⟨0, 96, 2, [[(.sl (List.map eRDecl p0.decls)), (.own 3 0 (List.length l21))]]⟩, ⟨0, 127, 3, List.map eRSignature l21⟩, ⟨0, 88, 5, [(eRProc c20)]⟩, ⟨0, 127, 3, List.map eRSignature [(RSignature.mk c20.params c20.lent c20.result)]⟩]) (.raw rfl rfl (.raw rfl rfl (.raw rfl rfl (.pure (pure_map fun _ => rfl) (.raw rfl rfl (.pure (pure_map fun _ => rfl) .nil)))))) ⟨.rfl, .rfl, .rfl, .rfl, .rfl, .rfl, trivial⟩) ?_; exact Wk.permk (L := [(1, (.ptr 0 0 0 0)), (2, (.ptr 1 0 0 0)), (4, (.ptr 2 0 0 0)), (16, (.sl (List.map eRProc p0.procs))), (17, (i64 (Sh.len p0.procs))), (18, (i64 (Sh.w (t9 + 1))))]) (st' := [⟨0, 37, 2, [(eRImage p0)]⟩, ⟨0, 96, 2, [[.zc, .zc]]⟩, ⟨0, 96, 2, [[(.sl (List.map eRDecl p0.decls)), (.own 3 0 (List.length l21))]]⟩, ⟨0, 127, 3, List.map eRSignature l21⟩]) (st1 := [⟨0, 37, 2, [(eRImage p0)]⟩, ⟨0, 96, 2, [[.zc, .zc]]⟩, ⟨0, 96, 2, [[(.sl (List.map eRDecl p0.decls)), (.own 3 0 (List.length l21))]]⟩, ⟨0, 127, 3, List.map eRSignature l21⟩]) [0, 1, 2, 3] rfl .nil (by decide) rfl rfl (.raw rfl rfl (.raw rfl rfl (.raw rfl rfl (.pure (pure_map fun _ => rfl) .nil)))) ⟨.rfl, .rfl, .rfl, .rfl, .rfl, .rfl, trivial⟩))
  ·intro b17 h1
   exact AW.exit (M12 l10 (Sh.some_eq h1).symm _ (Wk.tr rfl))
theorem impl_setsRegister_ok {p0 : Int} {r : Bool} (h0 : impl_setsRegister p0 = some r) : ACalls Tryz.prog 71 [(i64 p0)] [] (fun v st => v = (.bool r) ∧ st = []) := by
 unfold impl_setsRegister at h0
 refine ACalls.intro Tryz.func71 rfl (by show 1 ≤ 17; decide) ?_
 show AW _ 0 _ (aret _ 0 Tryz.f71 _) ⟨17, _, _⟩
 refine AW.weaken (Wk.to (L := [(0, (i64 p0))]) ⟨.rfl, trivial⟩) ?_
 refine sr rfl fun K1 hK1 => ?_
 refine zq tb rfl ?_
 refine dn hK1 rfl ?_
 refine AW.seq fun K2 hK2 => ?_
 obtain ⟨o4, h1, h0⟩ := Sh.bind_some h0
 have M4 : ∀ (t3 : Bool), o4 = t3 → ∀ s, Wk 0 s ⟨17, envL [(2, (.bool t3))], []⟩ → K2 s := by
  intro t3 hq s hw
  subst o4
  try dsimp only at h0
  refine hK2 _ (AW.weaken hw ?_)
  replace h0 := Sh.some_eq h0
  subst r
  exact AW.ret (xr (Wk.to (L := [(2, (.bool t3))]) ⟨.rfl, trivial⟩))
 refine AW.regionO (by rfl) ?_
 iterate 3 refine zq tb rfl ?_
 rcases Sh.ite_some h1 with ⟨b5, h1⟩ | ⟨b5, h1⟩
 ·refine zg tb b5 rfl ?_
  refine zg tb b5 rfl ?_
  refine zt b5 rfl ?_
  refine zq tb rfl ?_
  rcases Sh.ite_some h1 with ⟨b6, h1⟩ | ⟨b6, h1⟩
  ·refine zs b6 rfl ?_
   refine zs b6 rfl ?_
   refine zt b6 rfl ?_
   refine zq tb rfl ?_
   iterate 2 refine zs rfl rfl ?_
   refine zt rfl rfl ?_
   refine zq tb rfl ?_
   exact AO.done (M4 true (Sh.some_eq h1).symm _ (Wk.tr rfl))
  ·refine zg tb b6 rfl ?_
   refine zg tb b6 rfl ?_
   refine zf b6 rfl ?_
   refine zq tb rfl ?_
   rcases Sh.ite_some h1 with ⟨b7, h1⟩ | ⟨b7, h1⟩
   ·refine zs b7 rfl ?_
    refine zs b7 rfl ?_
    refine zt b7 rfl ?_
    refine zq tb rfl ?_
    exact AO.done (M4 true (Sh.some_eq h1).symm _ (Wk.tr rfl))
   ·refine zg tb b7 rfl ?_
    refine zg tb b7 rfl ?_
    refine zf b7 rfl ?_
    refine zq tb rfl ?_
    exact AO.done (M4 (decide (p0 = 19)) (Sh.some_eq h1).symm _ (Wk.tr rfl))
 ·refine zs b5 rfl ?_
  refine zs b5 rfl ?_
  refine zf b5 rfl ?_
  refine zq tb rfl ?_
  iterate 2 refine zg tb rfl rfl ?_
  refine zf rfl rfl ?_
  refine zq tb rfl ?_
  rcases Sh.ite_some h1 with ⟨b8, h1⟩ | ⟨b8, h1⟩
  ·refine zs b8 rfl ?_
   refine zs b8 rfl ?_
   refine zt b8 rfl ?_
   refine zq tb rfl ?_
   exact AO.done (M4 true (Sh.some_eq h1).symm _ (Wk.tr rfl))
  ·refine zg tb b8 rfl ?_
   refine zg tb b8 rfl ?_
   refine zf b8 rfl ?_
   refine zq tb rfl ?_
   exact AO.done (M4 (decide (p0 = 19)) (Sh.some_eq h1).symm _ (Wk.tr rfl))
theorem impl_signatures_instrValid_1_ok {s0_0 : Int} {s1_0 : (List Int)} {s1_1 : (List Int)} {s1_2 : Int} {s1_3 : Int} {s1_4 : (List RInstr)} {p0 : Int} {r : Bool} (h0 : impl_signatures_instrValid_1 s0_0 s1_0 s1_1 s1_2 s1_3 s1_4 p0 = some r) : ACalls Tryz.prog 72 [(i64 p0), (.ptr 0 0 0 0), (.ptr 1 0 0 0)] [⟨0, 3, 1, [[(i64 s0_0)]]⟩, ⟨0, 88, 5, [[(.sl (List.map eI s1_0)), (.sl (List.map eI s1_1)), (i64 s1_2), (i64 s1_3), (.sl (List.map eRInstr s1_4))]]⟩] (fun v st => v = (.bool r) ∧ st = [⟨0, 3, 1, [[(i64 s0_0)]]⟩, ⟨0, 88, 5, [[(.sl (List.map eI s1_0)), (.sl (List.map eI s1_1)), (i64 s1_2), (i64 s1_3), (.sl (List.map eRInstr s1_4))]]⟩]) := by
 unfold impl_signatures_instrValid_1 at h0
 refine ACalls.intro Tryz.func72 rfl (by show 3 ≤ 15; decide) ?_
 show AW _ 2 _ (aret _ 2 Tryz.f72 _) ⟨15, _, _⟩
 refine AW.weaken (Wk.to (L := [(0, (i64 p0)), (1, (.ptr 0 0 0 0)), (2, (.ptr 1 0 0 0))]) ⟨.rfl, .rfl, .rfl, trivial⟩) ?_
 refine sr rfl fun K1 hK1 => ?_
 refine zq tb rfl ?_
 refine dn hK1 rfl ?_
 refine AW.seq fun K2 hK2 => ?_
 obtain ⟨o4, h1, h0⟩ := Sh.bind_some h0
 have M4 : ∀ (t3 : Bool), o4 = t3 → ∀ s, Wk 2 s ⟨15, envL [(4, (.bool t3))], [⟨0, 3, 1, [[(i64 s0_0)]]⟩, ⟨0, 88, 5, [[(.sl (List.map eI s1_0)), (.sl (List.map eI s1_1)), (i64 s1_2), (i64 s1_3), (.sl (List.map eRInstr s1_4))]]⟩]⟩ → K2 s := by
  intro t3 hq s hw
  subst o4
  try dsimp only at h0
  refine hK2 _ (AW.weaken hw ?_)
  replace h0 := Sh.some_eq h0
  subst r
  exact AW.ret (xr (Wk.to (L := [(4, (.bool t3))]) ⟨.rfl, trivial⟩))
 refine AW.regionO (by rfl) ?_
 iterate 4 refine zq tb rfl ?_
 rcases Sh.ite_some h1 with ⟨b5, h1⟩ | ⟨b5, h1⟩
 ·refine zg tb b5 rfl ?_
  iterate 2 refine zg tb b5 rfl ?_
  refine ao_q (v := (i64 (Sh.len s1_4))) (go1 rfl rfl b5) rfl (aq_lens sl86 rfl) ?_
  refine zg tb b5 rfl ?_
  refine zt b5 rfl ?_
  refine zq tb rfl ?_
  exact AO.done (M4 (decide (p0 < (Sh.len s1_4))) (Sh.some_eq h1).symm _ (Wk.tr rfl))
 ·refine zs b5 rfl ?_
  iterate 4 refine zs b5 rfl ?_
  refine zf b5 rfl ?_
  refine zq tb rfl ?_
  exact AO.done (M4 false (Sh.some_eq h1).symm _ (Wk.tr rfl))
end Go.Proofs.YtefefailnbbooaaGreat

