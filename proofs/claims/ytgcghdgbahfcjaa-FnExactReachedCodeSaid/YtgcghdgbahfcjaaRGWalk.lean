import Derived.Test.YtgcghdgbahfcjaaProg
import Derived.Test.YtgcghdgbahfcjaaRGDefs
import Derived.Test.YtgcghdgbahfcjaaRGWalkP1
namespace Go.Proofs.Ytgcghdgbahfcjaa
open Go Go.Abs RC
attribute [local irreducible] Go.Abs.dops
set_option maxRecDepth 100000
set_option maxHeartbeats 4000000

theorem ei61 : einfo Try.prog 61 = some ⟨4, 1, 1, [.bool false]⟩ := by kernel_rfl
theorem hb10 : hasBody Try.prog 10 = true := by kernel_rfl
theorem hb108 : hasBody Try.prog 108 = true := by kernel_rfl
theorem hb109 : hasBody Try.prog 109 = true := by kernel_rfl
theorem hb11 : hasBody Try.prog 11 = true := by kernel_rfl
theorem hb12 : hasBody Try.prog 12 = true := by kernel_rfl
theorem hb13 : hasBody Try.prog 13 = true := by kernel_rfl
theorem hb14 : hasBody Try.prog 14 = true := by kernel_rfl
theorem hb31 : hasBody Try.prog 31 = true := by kernel_rfl
theorem hb32 : hasBody Try.prog 32 = true := by kernel_rfl
theorem hb33 : hasBody Try.prog 33 = true := by kernel_rfl
theorem hb34 : hasBody Try.prog 34 = true := by kernel_rfl
theorem hb35 : hasBody Try.prog 35 = true := by kernel_rfl
theorem hb36 : hasBody Try.prog 36 = true := by kernel_rfl
theorem hb37 : hasBody Try.prog 37 = true := by kernel_rfl
theorem hb56 : hasBody Try.prog 56 = true := by kernel_rfl
theorem hb57 : hasBody Try.prog 57 = true := by kernel_rfl
theorem hb58 : hasBody Try.prog 58 = true := by kernel_rfl
theorem hb59 : hasBody Try.prog 59 = true := by kernel_rfl
theorem hb6 : hasBody Try.prog 6 = true := by kernel_rfl
theorem hb60 : hasBody Try.prog 60 = true := by kernel_rfl
theorem hb61 : hasBody Try.prog 61 = true := by kernel_rfl
theorem hb7 : hasBody Try.prog 7 = true := by kernel_rfl
theorem hb8 : hasBody Try.prog 8 = true := by kernel_rfl
theorem hb87 : hasBody Try.prog 87 = true := by kernel_rfl
theorem hb88 : hasBody Try.prog 88 = true := by kernel_rfl
theorem hb9 : hasBody Try.prog 9 = true := by kernel_rfl
theorem ti4 : tinfo Try.prog 4 = some (false, 1) := by kernel_rfl

theorem impl_ValidImage_ok {N : Nat} {p0 : RImage} {r : Bool} (h0 : impl_ValidImage N p0 = some r) : ACalls Try.prog 31 [(.agg (eRImage p0))] [] (fun v st => v = (.bool r) ∧ st = []) := by
 unfold impl_ValidImage at h0
 refine ACalls.intro Try.func31 rfl (by show 1 ≤ 79; decide) ?_
 show AW _ 0 _ (aret _ 0 Try.f31 _) ⟨79, _, _⟩
 refine AW.weaken (Wk.to (L := [(0, (.agg (eRImage p0)))]) ⟨.rfl, trivial⟩) ?_
 refine sr rfl fun K1 hK1 => ?_
 refine ao_box (m := 0) (st' := [⟨0, 32, 2, [(eRImage p0)]⟩]) go0 rfl rfl rfl rfl rfl ?_
 refine zq tb rfl ?_
 refine dn hK1 rfl ?_
 refine sr rfl fun K2 hK2 => ?_
 refine zq tb rfl ?_
 obtain ⟨q3, gq3, h0⟩ := Sh.bind_some h0
 refine zc (v' := (.tup [(.agg (eRSignatures q3.1)), (.bool q3.2)])) hb56 (impl_imageSigs_ok gq3) rfl rfl rfl ?_
 iterate 3 refine zq tb rfl ?_
 refine ao_alloc (m := 1) (st' := [⟨0, 32, 2, [(eRImage p0)]⟩, ⟨0, 99, 2, [[.zc, .zc]]⟩]) go0 zi99 rfl rfl ?_
 refine ao_str (st' := [⟨0, 32, 2, [(eRImage p0)]⟩, ⟨0, 99, 2, [(eRSignatures q3.1)]⟩]) go0 ti99 rfl rfl rfl rfl rfl rfl (show 0 + 2 ≤ 2 by decide) rfl ?_
 refine zq tb rfl ?_
 refine dn hK2 rfl ?_
 refine AW.seq fun K4 hK4 => ?_
 refine sr rfl fun K5 hK5 => ?_
 iterate 2 refine zq tb rfl ?_
 refine dn hK5 rfl ?_
 refine ci h0 rfl ?_ ?_ <;> clear h0
 ·intro b6 h0
  have b7 : q3.2 = false := by simpa using b6
  refine sr rfl fun K8 hK8 => ?_
  refine zq tb rfl ?_
  refine dn hK8 rfl ?_
  replace h0 := Sh.some_eq h0
  subst r
  exact AW.ret (xr (Wk.d0 [(2, (.bool false))] rfl))
 ·intro b6 h0
  have b9 : q3.2 = true := by simpa using b6
  refine AW.skip (hK4 _ ?_)
  refine AW.seq fun K10 hK10 => ?_
  refine sr rfl fun K11 hK11 => ?_
  iterate 2 refine zq tb rfl ?_
  refine zl tb rfl rfl ?_
  refine zq tb rfl ?_
  refine dn hK11 rfl ?_
  obtain ⟨o13, h1, h0⟩ := Sh.cont_some h0
  have M13 : ∀ (_ : Unit), o13 = Sum.inr () → ∀ s, Wk 0 s ⟨79, envL [], []⟩ → K10 s := by
   intro _ hq s hw
   subst o13
   try dsimp only at h0
   refine hK10 _ (AW.weaken hw ?_)
   refine sr rfl fun K14 hK14 => ?_
   refine zq tb rfl ?_
   refine dn hK14 rfl ?_
   replace h0 := Sh.some_eq h0
   subst r
   exact AW.ret (xr (Wk.to (L := [(2, (.bool true))]) ⟨.rfl, trivial⟩))
  refine AW.block (AW.loopF (σ := Int) (fun n v => impl_ValidImage_L1 N p0 q3 n v = some o13) (fun t12 => ⟨79, envL [(3, (.ptr 0 0 0 0)), (18, (.sl (List.map eRProc p0.procs))), (19, (i64 (Sh.len p0.procs))), (20, (i64 t12))], [⟨0, 99, 2, [(eRSignatures q3.1)]⟩]⟩) N 0 h1 (Wk.permk (L := [(3, (.ptr 0 0 0 0)), (18, (.sl (List.map eRProc p0.procs))), (19, (i64 (Sh.len p0.procs))), (20, (i64 0))]) (st' := [⟨0, 99, 2, [(eRSignatures q3.1)]⟩]) (st1 := [⟨0, 99, 2, [(eRSignatures q3.1)]⟩]) [1] rfl .nil (by decide) rfl rfl (.raw rfl rfl .nil) ⟨.rfl, .rfl, .rfl, .rfl, trivial⟩) (fun _ hv => by rw [impl_ValidImage_L1] at hv; cases hv) ?_)
  rintro n t12 h1
  try dsimp only at h1 ⊢
  rw [impl_ValidImage_L1] at h1
  refine sr rfl fun K15 hK15 => ?_
  refine zq tb rfl ?_
  refine dn hK15 rfl ?_
  refine AW.seq fun K16 hK16 => ?_
  refine ci h1 rfl ?_ ?_ <;> clear h1
  ·intro b17 h1
   refine AW.skip (hK16 _ ?_)
   refine AW.seq fun K18 hK18 => ?_
   refine AW.block ?_
   refine sr rfl fun K19 hK19 => ?_
   obtain ⟨c20, gc20, h1⟩ := Sh.bind_some h1
   refine zx ei30 gc20 rfl rfl rfl ?_
   refine zq tb rfl ?_
   refine ao_alloc (m := 1) (st' := [⟨0, 99, 2, [(eRSignatures q3.1)]⟩, ⟨0, 55, 5, [[.zc, .zc, (i64 0), (i64 0), .zc]]⟩]) go0 zi55 rfl rfl ?_
   refine ao_str (st' := [⟨0, 99, 2, [(eRSignatures q3.1)]⟩, ⟨0, 55, 5, [(eRProc c20)]⟩]) go0 ti55 rfl rfl rfl rfl rfl rfl (show 0 + 5 ≤ 5 by decide) rfl ?_
   refine dn hK19 rfl ?_
   refine AW.seq fun K21 hK21 => ?_
   refine AW.seq fun K22 hK22 => ?_
   obtain ⟨o24, h2, h1⟩ := Sh.bind_some h1
   have M24 : ∀ (t23 : Bool), o24 = t23 → ∀ s, Wk 0 s ⟨79, envL [(3, (.ptr 0 0 0 0)), (6, (.ptr 1 0 0 0)), (18, (.sl (List.map eRProc p0.procs))), (19, (i64 (Sh.len p0.procs))), (20, (i64 t12)), (47, (.bool t23))], [⟨0, 99, 2, [(eRSignatures q3.1)]⟩, ⟨0, 55, 5, [(eRProc c20)]⟩]⟩ → K22 s := by
    intro t23 hq s hw
    subst o24
    try dsimp only at h1
    refine hK22 _ (AW.weaken hw ?_)
    refine ci h1 rfl ?_ ?_ <;> clear h1
    ·intro b25 h1
     refine sr rfl fun K26 hK26 => ?_
     refine zq tb rfl ?_
     refine dn hK26 rfl ?_
     replace h1 := Sh.some_eq h1
     subst o13
     try dsimp only [id] at h0
     replace h0 := Sh.some_eq h0
     subst r
     exact AW.ret (xr (Wk.d0 [(2, (.bool false))] rfl))
    ·intro b25 h1
     refine AW.skip (hK21 _ ?_)
     refine AW.seq fun K27 hK27 => ?_
     refine sr rfl fun K28 hK28 => ?_
     iterate 4 refine zq tb rfl ?_
     refine zl tb rfl rfl ?_
     refine zq tb rfl ?_
     obtain ⟨c29, gc29, h1⟩ := Sh.bind_some h1
     refine zx ei53 gc29 rfl rfl rfl ?_
     iterate 3 refine zq tb rfl ?_
     refine dn hK28 rfl ?_
     refine AW.seq fun K30 hK30 => ?_
     obtain ⟨o32, h2, h1⟩ := Sh.bind_some h1
     have M32 : ∀ (t31 : Bool), o32 = t31 → ∀ s, Wk 0 s ⟨79, envL [(3, (.ptr 0 0 0 0)), (6, (.ptr 1 0 0 0)), (18, (.sl (List.map eRProc p0.procs))), (19, (i64 (Sh.len p0.procs))), (20, (i64 t12)), (62, (.bool t31))], [⟨0, 99, 2, [(eRSignatures q3.1)]⟩, ⟨0, 55, 5, [(eRProc c20)]⟩]⟩ → K30 s := by
      intro t31 hq s hw
      subst o32
      try dsimp only at h1
      refine hK30 _ (AW.weaken hw ?_)
      refine ci h1 rfl ?_ ?_ <;> clear h1
      ·intro b33 h1
       refine sr rfl fun K34 hK34 => ?_
       refine zq tb rfl ?_
       refine dn hK34 rfl ?_
       replace h1 := Sh.some_eq h1
       subst o13
       try dsimp only [id] at h0
       replace h0 := Sh.some_eq h0
       subst r
       exact AW.ret (xr (Wk.d0 [(2, (.bool false))] rfl))
      ·intro b33 h1
       refine AW.skip (hK27 _ ?_)
       refine sr rfl fun K35 hK35 => ?_
       iterate 2 refine zq tb rfl ?_
       refine zl tb rfl rfl ?_
       refine zq tb rfl ?_
       refine dn hK35 rfl ?_
       obtain ⟨o37, h2, h1⟩ := Sh.cont_some h1
       have M37 : ∀ (_ : Unit), o37 = Sum.inr () → ∀ s, Wk 0 s ⟨79, envL [(3, (.ptr 0 0 0 0)), (18, (.sl (List.map eRProc p0.procs))), (19, (i64 (Sh.len p0.procs))), (20, (i64 t12))], [⟨0, 99, 2, [(eRSignatures q3.1)]⟩]⟩ → K18 s := by
        intro _ hq s hw
        subst o37
        try dsimp only at h1
        refine hK18 _ (AW.weaken hw ?_)
        refine AW.regionO (by rfl) ?_
        iterate 2 refine zq tb rfl ?_
        exact AO.done (xi (Sh.w (t12 + 1)) h1 (Wk.tr rfl))
       refine AW.block (AW.loopF (σ := Int) (fun n v => impl_ValidImage_L2 N c20 q3 n v = some o37) (fun t36 => ⟨79, envL [(3, (.ptr 0 0 0 0)), (6, (.ptr 1 0 0 0)), (18, (.sl (List.map eRProc p0.procs))), (19, (i64 (Sh.len p0.procs))), (20, (i64 t12)), (64, (.sl (List.map eRInstr c20.code))), (65, (i64 (Sh.len c20.code))), (66, (i64 t36))], [⟨0, 99, 2, [(eRSignatures q3.1)]⟩, ⟨0, 55, 5, [(eRProc c20)]⟩]⟩) N 0 h2 (Wk.tr rfl) (fun _ hv => by rw [impl_ValidImage_L2] at hv; cases hv) ?_)
       rintro n t36 h2
       try dsimp only at h2 ⊢
       rw [impl_ValidImage_L2] at h2
       refine sr rfl fun K38 hK38 => ?_
       refine zq tb rfl ?_
       refine dn hK38 rfl ?_
       refine AW.seq fun K39 hK39 => ?_
       refine ci h2 rfl ?_ ?_ <;> clear h2
       ·intro b40 h2
        refine AW.skip (hK39 _ ?_)
        refine AW.seq fun K41 hK41 => ?_
        refine AW.block ?_
        refine sr rfl fun K42 hK42 => ?_
        refine zq tb rfl ?_
        obtain ⟨c43, gc43, h2⟩ := Sh.bind_some h2
        refine zx ei53 gc43 rfl rfl rfl ?_
        refine zq tb rfl ?_
        refine ao_alloc (m := 2) (st' := [⟨0, 99, 2, [(eRSignatures q3.1)]⟩, ⟨0, 55, 5, [(eRProc c20)]⟩, ⟨0, 63, 6, [[(i64 0), (i64 0), (i64 0), (i64 0), .zc, .zc]]⟩]) go0 zi63 rfl rfl ?_
        refine zq tb rfl ?_
        refine ao_str (st' := [⟨0, 99, 2, [(eRSignatures q3.1)]⟩, ⟨0, 55, 5, [(eRProc c20)]⟩, ⟨0, 63, 6, [(eRInstr c43)]⟩]) go0 ti63 rfl rfl rfl rfl rfl rfl (show 0 + 6 ≤ 6 by decide) rfl ?_
        refine dn hK42 rfl ?_
        refine sr rfl fun K44 hK44 => ?_
        iterate 4 refine zq tb rfl ?_
        obtain ⟨q45, gq45, h2⟩ := Sh.bind_some h2
        refine zc hb57 (impl_signatures_instrValid_ok gq45) rfl rfl rfl ?_
        refine zq tb rfl ?_
        refine dn hK44 rfl ?_
        refine ci h2 rfl ?_ ?_ <;> clear h2
        ·intro b46 h2
         have b47 : q45 = false := by simpa using b46
         refine sr rfl fun K48 hK48 => ?_
         refine zq tb rfl ?_
         refine dn hK48 rfl ?_
         replace h2 := Sh.some_eq h2
         subst o37
         try dsimp only [id] at h1
         replace h1 := Sh.some_eq h1
         subst o13
         try dsimp only [id] at h0
         replace h0 := Sh.some_eq h0
         subst r
         exact AW.ret (xr (Wk.d0 [(2, (.bool false))] rfl))
        ·intro b46 h2
         have b49 : q45 = true := by simpa using b46
         refine AW.skip (hK41 _ ?_)
         refine AW.regionO (by rfl) ?_
         iterate 2 refine zq tb rfl ?_
         exact AO.done (xi (Sh.w (t36 + 1)) h2 (Wk.permk (L := [(3, (.ptr 0 0 0 0)), (6, (.ptr 1 0 0 0)), (18, (.sl (List.map eRProc p0.procs))), (19, (i64 (Sh.len p0.procs))), (20, (i64 t12)), (64, (.sl (List.map eRInstr c20.code))), (65, (i64 (Sh.len c20.code))), (66, (i64 (Sh.w (t36 + 1))))]) (st' := [⟨0, 99, 2, [(eRSignatures q3.1)]⟩, ⟨0, 55, 5, [(eRProc c20)]⟩]) (st1 := [⟨0, 99, 2, [(eRSignatures q3.1)]⟩, ⟨0, 55, 5, [(eRProc c20)]⟩]) [0, 1] rfl .nil (by decide) rfl rfl (.raw rfl rfl (.raw rfl rfl .nil)) ⟨.rfl, .rfl, .rfl, .rfl, .rfl, .rfl, .rfl, .rfl, trivial⟩))
       ·intro b40 h2
        exact AW.exit (M37 () (Sh.some_eq h2).symm _ (Wk.permk (L := [(3, (.ptr 0 0 0 0)), (18, (.sl (List.map eRProc p0.procs))), (19, (i64 (Sh.len p0.procs))), (20, (i64 t12))]) (st' := [⟨0, 99, 2, [(eRSignatures q3.1)]⟩]) (st1 := [⟨0, 99, 2, [(eRSignatures q3.1)]⟩]) [0] rfl .nil (by decide) rfl rfl (.raw rfl rfl .nil) ⟨.rfl, .rfl, .rfl, .rfl, trivial⟩))
     refine AW.regionO (by rfl) ?_
     iterate 3 refine zq tb rfl ?_
     rcases Sh.ite_some h2 with ⟨b50, h2⟩ | ⟨b50, h2⟩
     ·refine zg tb b50 rfl ?_
      refine zg tb b50 rfl ?_
      refine zt b50 rfl ?_
      exact AO.done (M32 (!decide (c29.op = 24)) (Sh.some_eq h2).symm _ (Wk.tr rfl))
     ·refine zs b50 rfl ?_
      refine zs b50 rfl ?_
      refine zf b50 rfl ?_
      exact AO.done (M32 false (Sh.some_eq h2).symm _ (Wk.tr rfl))
   refine AW.regionO (by rfl) ?_
   iterate 4 refine zq tb rfl ?_
   refine zl tb rfl rfl ?_
   refine zz (i64 (if (Sh.len c20.params) > 1 then (Sh.len c20.params) else 1)) (aq_max rfl rfl) rfl ?_
   iterate 2 refine zq tb rfl ?_
   rcases Sh.ite_some h2 with ⟨b51, h2⟩ | ⟨b51, h2⟩
   ·refine zs b51 rfl ?_
    iterate 2 refine zs b51 rfl ?_
    refine zt b51 rfl ?_
    refine zq tb rfl ?_
    iterate 4 refine zs rfl rfl ?_
    refine zt rfl rfl ?_
    refine zq tb rfl ?_
    iterate 4 refine zs rfl rfl ?_
    refine zt rfl rfl ?_
    exact AO.done (M24 true (Sh.some_eq h2).symm _ (Wk.tr rfl))
   ·refine zg tb b51 rfl ?_
    iterate 2 refine zg tb b51 rfl ?_
    refine zf b51 rfl ?_
    refine zq tb rfl ?_
    rcases Sh.ite_some h2 with ⟨b52, h2⟩ | ⟨b52, h2⟩
    ·refine zs b52 rfl ?_
     iterate 3 refine zs b52 rfl ?_
     refine zt b52 rfl ?_
     refine zq tb rfl ?_
     iterate 4 refine zs rfl rfl ?_
     refine zt rfl rfl ?_
     exact AO.done (M24 true (Sh.some_eq h2).symm _ (Wk.tr rfl))
    ·refine zg tb b52 rfl ?_
     refine zg tb b52 rfl ?_
     refine ao_q (v := (i64 (Sh.len c20.code))) (go1 rfl rfl b52) rfl (aq_lens sl53 rfl) ?_
     refine zg tb b52 rfl ?_
     refine zf b52 rfl ?_
     refine zq tb rfl ?_
     rcases Sh.ite_some h2 with ⟨b53, h2⟩ | ⟨b53, h2⟩
     ·refine zs b53 rfl ?_
      iterate 3 refine zs b53 rfl ?_
      refine zt b53 rfl ?_
      exact AO.done (M24 true (Sh.some_eq h2).symm _ (Wk.tr rfl))
     ·refine zg tb b53 rfl ?_
      refine zg tb b53 rfl ?_
      refine ao_q (v := (i64 (Sh.len c20.code))) (go1 rfl rfl b53) rfl (aq_lens sl53 rfl) ?_
      refine zg tb b53 rfl ?_
      refine zf b53 rfl ?_
      exact AO.done (M24 (decide (2000 < (Sh.len c20.code))) (Sh.some_eq h2).symm _ (Wk.tr rfl))
  ·intro b17 h1
   exact AW.exit (M13 () (Sh.some_eq h1).symm _ (Wk.d0 _ rfl))
theorem impl_Instr_nexts_ok {p0 : RInstr} {p1 : Int} {r : (List Int)} (h0 : impl_Instr_nexts p0 p1 = some r) : ACalls Try.prog 32 [(.agg (eRInstr p0)), (i64 p1)] [] (fun v st => v = (.sl (List.map eI r)) ∧ st = []) := by
 unfold impl_Instr_nexts at h0
 refine ACalls.intro Try.func32 rfl (by show 2 ≤ 29; decide) ?_
 show AW _ 0 _ (aret _ 0 Try.f32 _) ⟨29, _, _⟩
 refine AW.weaken (Wk.to (L := [(0, (.agg (eRInstr p0))), (1, (i64 p1))]) ⟨.rfl, .rfl, trivial⟩) ?_
 refine sr rfl fun K1 hK1 => ?_
 refine ao_box (m := 0) (st' := [⟨0, 63, 6, [(eRInstr p0)]⟩]) go0 rfl rfl rfl rfl rfl ?_
 refine zq tb rfl ?_
 refine dn hK1 rfl ?_
 refine AW.seq fun K2 hK2 => ?_
 refine sr rfl fun K3 hK3 => ?_
 iterate 2 refine zq tb rfl ?_
 refine dn hK3 rfl ?_
 refine AW.block ?_
 refine sr rfl fun K4 hK4 => ?_
 iterate 2 refine zq tb rfl ?_
 refine dn hK4 rfl ?_
 refine ci h0 rfl ?_ ?_ <;> clear h0
 ·intro b5 h0
  refine sr rfl fun K6 hK6 => ?_
  iterate 2 refine zq tb rfl ?_
  refine ao_bs (m := 1) (st' := [⟨0, 63, 6, [(eRInstr p0)]⟩, ⟨0, 3, 1, List.map eI [p0.num]⟩]) (l := [p0.num]) (enc := eI) go0 ei27 (by decide) rfl rfl rfl rfl rfl rfl ?_
  refine zq tb rfl ?_
  refine dn hK6 rfl ?_
  replace h0 := Sh.some_eq h0
  subst r
  exact AW.ret (Exists.intro ⟨29, envL [(4, (.sl (List.map eI [p0.num])))], []⟩ (And.intro (by refine Wk.trans (Wk.frz (L := [(4, (.sl (List.map eI [p0.num])))]) (st' := [⟨0, 63, 6, [(eRInstr p0)]⟩, ⟨1, 3, 1, []⟩]) (id := 1) rfl (show 0 ≤ 1 by decide) (pure_map fun _ => rfl) ⟨(.frz rfl), trivial⟩ rfl) ?_; refine Wk.trans (Wk.permk (L := [(4, (.sl (List.map eI [p0.num])))]) (st' := []) (st1 := []) [] rfl .nil (by decide) rfl rfl .nil ⟨.rfl, trivial⟩) ?_; exact Wk.to (L := [(4, (.sl (List.map eI [p0.num])))]) ⟨.rfl, trivial⟩) (And.intro rfl rfl)))
 ·intro b5 h0
  refine sr rfl fun K7 hK7 => ?_
  iterate 2 refine zq tb rfl ?_
  refine dn hK7 rfl ?_
  refine ci h0 rfl ?_ ?_ <;> clear h0
  ·intro b8 h0
   refine sr rfl fun K9 hK9 => ?_
   iterate 4 refine zq tb rfl ?_
   refine ao_bs (m := 1) (st' := [⟨0, 63, 6, [(eRInstr p0)]⟩, ⟨0, 3, 1, List.map eI [Sh.w (p1 + 1), p0.num]⟩]) (l := [Sh.w (p1 + 1), p0.num]) (enc := eI) go0 ei27 (by decide) rfl rfl rfl rfl rfl rfl ?_
   refine zq tb rfl ?_
   refine dn hK9 rfl ?_
   replace h0 := Sh.some_eq h0
   subst r
   exact AW.ret (Exists.intro ⟨29, envL [(4, (.sl (List.map eI [Sh.w (p1 + 1), p0.num])))], []⟩ (And.intro (by refine Wk.trans (Wk.frz (L := [(4, (.sl (List.map eI [Sh.w (p1 + 1), p0.num])))]) (st' := [⟨0, 63, 6, [(eRInstr p0)]⟩, ⟨1, 3, 1, []⟩]) (id := 1) rfl (show 0 ≤ 1 by decide) (pure_map fun _ => rfl) ⟨(.frz rfl), trivial⟩ rfl) ?_; refine Wk.trans (Wk.permk (L := [(4, (.sl (List.map eI [Sh.w (p1 + 1), p0.num])))]) (st' := []) (st1 := []) [] rfl .nil (by decide) rfl rfl .nil ⟨.rfl, trivial⟩) ?_; exact Wk.to (L := [(4, (.sl (List.map eI [Sh.w (p1 + 1), p0.num])))]) ⟨.rfl, trivial⟩) (And.intro rfl rfl)))
  ·intro b8 h0
   refine sr rfl fun K10 hK10 => ?_
   iterate 2 refine zq tb rfl ?_
   refine dn hK10 rfl ?_
   refine ci h0 rfl ?_ ?_ <;> clear h0
   ·intro b11 h0
    refine sr rfl fun K12 hK12 => ?_
    iterate 3 refine zq tb rfl ?_
    refine dn hK12 rfl ?_
    replace h0 := Sh.some_eq h0
    subst r
    exact AW.ret (xr (Wk.d0 [(4, (.sl (List.map eI p0.jumps)))] rfl))
   ·intro b11 h0
    refine AW.seq fun K13 hK13 => ?_
    obtain ⟨o15, h1, h0⟩ := Sh.bind_some h0
    have M15 : ∀ (t14 : Bool), o15 = t14 → ∀ s, Wk 0 s ⟨29, envL [(1, (i64 p1)), (23, (.bool t14))], []⟩ → K13 s := by
     intro t14 hq s hw
     subst o15
     try dsimp only at h0
     refine hK13 _ (AW.weaken hw ?_)
     refine ci h0 rfl ?_ ?_ <;> clear h0
     ·intro b16 h0
      refine sr rfl fun K17 hK17 => ?_
      refine zq tb rfl ?_
      refine dn hK17 rfl ?_
      replace h0 := Sh.some_eq h0
      subst r
      exact AW.ret (Exists.intro ⟨29, envL [(4, (.sl (List.map eI [])))], []⟩ (And.intro (Wk.to (L := [(4, (.sl (List.map eI [])))]) ⟨.zc, trivial⟩) (And.intro rfl rfl)))
     ·intro b16 h0
      refine AW.skip (hK2 _ ?_)
      refine sr rfl fun K18 hK18 => ?_
      iterate 2 refine zq tb rfl ?_
      refine ao_bs (m := 0) (st' := [⟨0, 3, 1, List.map eI [Sh.w (p1 + 1)]⟩]) (l := [Sh.w (p1 + 1)]) (enc := eI) go0 ei27 (by decide) rfl rfl rfl rfl rfl rfl ?_
      refine zq tb rfl ?_
      refine dn hK18 rfl ?_
      replace h0 := Sh.some_eq h0
      subst r
      exact AW.ret (Exists.intro ⟨29, envL [(4, (.sl (List.map eI [Sh.w (p1 + 1)])))], []⟩ (And.intro (by refine Wk.trans (Wk.frz (L := [(4, (.sl (List.map eI [Sh.w (p1 + 1)])))]) (st' := [⟨1, 3, 1, []⟩]) (id := 0) rfl (show 0 ≤ 0 by decide) (pure_map fun _ => rfl) ⟨(.frz rfl), trivial⟩ rfl) ?_; refine Wk.trans (Wk.permk (L := [(4, (.sl (List.map eI [Sh.w (p1 + 1)])))]) (st' := []) (st1 := []) [] rfl .nil (by decide) rfl rfl .nil ⟨.rfl, trivial⟩) ?_; exact Wk.to (L := [(4, (.sl (List.map eI [Sh.w (p1 + 1)])))]) ⟨.rfl, trivial⟩) (And.intro rfl rfl)))
    refine sr rfl fun K19 hK19 => ?_
    iterate 2 refine zq tb rfl ?_
    refine dn hK19 rfl ?_
    refine ci h1 rfl ?_ ?_ <;> clear h1
    ·intro b20 h1
     exact AW.skip (M15 true (Sh.some_eq h1).symm _ (by refine Wk.trans (Wk.permk (L := [(1, (i64 p1)), (23, (.bool (decide (p0.op = 23))))]) (st' := []) (st1 := []) [] rfl .nil (by decide) rfl rfl .nil ⟨.rfl, .rfl, trivial⟩) ?_; exact Wk.to (L := [(1, (i64 p1)), (23, (.bool true))]) ⟨.rfl, (.of (congrArg AV.bool b20)), trivial⟩))
    ·intro b20 h1
     refine AW.regionO (by rfl) ?_
     iterate 2 refine zq tb rfl ?_
     exact AO.done (M15 (decide (p0.op = 24)) (Sh.some_eq h1).symm _ (Wk.d0 _ rfl))
theorem impl_indicesOf_ok {N : Nat} {p0 : (List Bool)} {r : (List Int)} (h0 : impl_indicesOf N p0 = some r) : ACalls Try.prog 33 [(.sl (List.map eB p0))] [] (fun v st => v = (.own 0 0 (List.length r)) ∧ st = [⟨0, 3, 1, List.map eI r⟩]) := by
 unfold impl_indicesOf at h0
 refine ACalls.intro Try.func33 rfl (by show 1 ≤ 20; decide) ?_
 show AW _ 0 _ (aret _ 0 Try.f33 _) ⟨20, _, _⟩
 refine AW.weaken (Wk.to (L := [(0, (.sl (List.map eB p0)))]) ⟨.rfl, trivial⟩) ?_
 refine sr rfl fun K1 hK1 => ?_
 refine zq tb rfl ?_
 refine dn hK1 rfl ?_
 refine sr rfl fun K2 hK2 => ?_
 refine zq tb rfl ?_
 refine dn hK2 rfl ?_
 refine AW.seq fun K3 hK3 => ?_
 refine sr rfl fun K4 hK4 => ?_
 refine zq tb rfl ?_
 refine zl tb rfl rfl ?_
 refine zq tb rfl ?_
 refine dn hK4 rfl ?_
 obtain ⟨o8, h1, h0⟩ := Sh.bind_some h0
 have M8 : ∀ (l7 : (List Int)), o8 = l7 → ∀ s, Wk 0 s ⟨20, envL [(3, (.own 0 0 (List.length l7)))], [⟨0, 3, 1, List.map eI l7⟩]⟩ → K3 s := by
  intro l7 hq s hw
  subst o8
  try dsimp only at h0
  refine hK3 _ (AW.weaken hw ?_)
  refine sr rfl fun K9 hK9 => ?_
  iterate 2 refine zq tb rfl ?_
  refine dn hK9 rfl ?_
  replace h0 := Sh.some_eq h0
  subst r
  exact AW.ret (xr (Wk.to (L := [(2, (.own 0 0 (List.length l7)))]) ⟨.rfl, trivial⟩))
 refine AW.block (AW.loopF (σ := Int × (List Int)) (fun n v => impl_indicesOf_L1 p0 n v.1 v.2 = some o8) (fun (t5, l6) => ⟨20, envL [(3, (.own 0 0 (List.length l6))), (6, (.sl (List.map eB p0))), (7, (i64 (Sh.len p0))), (8, (i64 t5))], [⟨0, 3, 1, List.map eI l6⟩]⟩) N (0, []) h1 ((Wk.adopt (t := 3) rfl 3 (size := 1) (by decide)).trans (Wk.to (L := [(3, (.own 0 0 (List.length ([] : List Int)))), (6, (.sl (List.map eB p0))), (7, (i64 (Sh.len p0))), (8, (i64 0))]) ⟨.rfl, .rfl, .rfl, .rfl, trivial⟩)) (fun _ hv => by rw [impl_indicesOf_L1] at hv; cases hv) ?_)
 rintro n ⟨t5, l6⟩ h1
 try dsimp only at h1 ⊢
 rw [impl_indicesOf_L1] at h1
 refine sr rfl fun K10 hK10 => ?_
 refine zq tb rfl ?_
 refine dn hK10 rfl ?_
 refine AW.seq fun K11 hK11 => ?_
 refine ci h1 rfl ?_ ?_ <;> clear h1
 ·intro b12 h1
  refine AW.skip (hK11 _ ?_)
  refine AW.seq fun K13 hK13 => ?_
  obtain ⟨o15, h2, h1⟩ := Sh.bind_some h1
  have M15 : ∀ (l14 : (List Int)), o15 = l14 → ∀ s, Wk 0 s ⟨20, envL [(3, (.own 0 0 (List.length l14))), (6, (.sl (List.map eB p0))), (7, (i64 (Sh.len p0))), (8, (i64 t5))], [⟨0, 3, 1, List.map eI l14⟩]⟩ → K13 s := by
   intro l14 hq s hw
   subst o15
   try dsimp only at h1
   refine hK13 _ (AW.weaken hw ?_)
   refine AW.regionO (by rfl) ?_
   iterate 2 refine zq tb rfl ?_
   exact AO.done (xi (Sh.w (t5 + 1), l14) h1 (Wk.tr rfl))
  refine AW.block ?_
  refine sr rfl fun K16 hK16 => ?_
  refine zq tb rfl ?_
  obtain ⟨c17, gc17, h2⟩ := Sh.bind_some h2
  refine zx ei61 gc17 rfl rfl rfl ?_
  iterate 3 refine zq tb rfl ?_
  refine dn hK16 rfl ?_
  refine sr rfl fun K18 hK18 => ?_
  refine zq tb rfl ?_
  refine dn hK18 rfl ?_
  refine ci h2 rfl ?_ ?_ <;> clear h2
  ·intro b19 h2
   refine AW.regionO (by rfl) ?_
   iterate 2 refine zq tb rfl ?_
   refine ao_bs (m := 1) (st' := [⟨0, 3, 1, List.map eI l6⟩, ⟨0, 3, 1, List.map eI [t5]⟩]) (l := [t5]) (enc := eI) go0 ei27 (by decide) rfl rfl rfl rfl rfl rfl ?_
   obtain ⟨l20, gl20, h2⟩ := Sh.bind_some h2
   refine ao_apo (st' := [⟨1, 3, 1, List.map eI l20⟩, ⟨0, 3, 1, List.map eI [t5]⟩]) (l2 := [t5]) go0 ei27 rfl rfl rfl rfl (el_o rfl rfl) (fun _ => rfl) gl20 rfl ?_
   refine zq tb rfl ?_
   exact AO.done (M15 l20 (Sh.some_eq h2).symm _ (by refine Wk.trans (Wk.rg (L := [(3, (.own 0 0 (List.length l20))), (6, (.sl (List.map eB p0))), (7, (i64 (Sh.len p0))), (8, (i64 t5))]) (st' := [⟨0, 3, 1, List.map eI l20⟩, ⟨0, 3, 1, List.map eI [t5]⟩]) (.pure (pure_map fun _ => rfl) (.pure (pure_map fun _ => rfl) .nil)) ⟨.rfl, .rfl, .rfl, .rfl, trivial⟩) ?_; exact Wk.permk (L := [(3, (.own 0 0 (List.length l20))), (6, (.sl (List.map eB p0))), (7, (i64 (Sh.len p0))), (8, (i64 t5))]) (st' := [⟨0, 3, 1, List.map eI l20⟩]) (st1 := [⟨0, 3, 1, List.map eI l20⟩]) [0] rfl .nil (by decide) rfl rfl (.pure (pure_map fun _ => rfl) .nil) ⟨.rfl, .rfl, .rfl, .rfl, trivial⟩))
  ·intro b19 h2
   exact AW.skip (M15 l6 (Sh.some_eq h2).symm _ (Wk.tr rfl))
 ·intro b12 h1
  exact AW.exit (M8 l6 (Sh.some_eq h1).symm _ (Wk.tr rfl))
theorem impl_ReachedCode_ok {N : Nat} {p0 : RImage} {p1 : Int} {r : (List Int)} (h0 : impl_ReachedCode N p0 p1 = some r) : ACalls Try.prog 9 [(.agg (eRImage p0)), (i64 p1)] [] (fun v st => v = (.own 0 0 (List.length r)) ∧ st = [⟨0, 3, 1, List.map eI r⟩]) := by
 unfold impl_ReachedCode at h0
 refine ACalls.intro Try.func9 rfl (by show 2 ≤ 62; decide) ?_
 show AW _ 0 _ (aret _ 0 Try.f9 _) ⟨62, _, _⟩
 refine AW.weaken (Wk.to (L := [(0, (.agg (eRImage p0))), (1, (i64 p1))]) ⟨.rfl, .rfl, trivial⟩) ?_
 refine sr rfl fun K1 hK1 => ?_
 refine ao_box (m := 0) (st' := [⟨0, 32, 2, [(eRImage p0)]⟩]) go0 rfl rfl rfl rfl rfl ?_
 refine zq tb rfl ?_
 refine dn hK1 rfl ?_
 refine AW.seq fun K2 hK2 => ?_
 refine AW.seq fun K3 hK3 => ?_
 obtain ⟨o5, h1, h0⟩ := Sh.bind_some h0
 have M5 : ∀ (t4 : Bool), o5 = t4 → ∀ s, Wk 0 s ⟨62, envL [(1, (i64 p1)), (2, (.ptr 0 0 0 0)), (24, (.bool t4))], [⟨0, 32, 2, [(eRImage p0)]⟩]⟩ → K3 s := by
  intro t4 hq s hw
  subst o5
  try dsimp only at h0
  refine hK3 _ (AW.weaken hw ?_)
  refine ci h0 rfl ?_ ?_ <;> clear h0
  ·intro b6 h0
   refine sr rfl fun K7 hK7 => ?_
   refine zq tb rfl ?_
   refine dn hK7 rfl ?_
   replace h0 := Sh.some_eq h0
   subst r
   exact AW.ret (Exists.intro _ (And.intro ((((Wk.adopt (t := 4) rfl 3 (size := 1) (by decide)).trans (Wk.to (L := [(4, (.own 1 0 (List.length ([] : List Int))))]) ⟨.rfl, trivial⟩)).trans (Wk.permk (L := [(4, (.own 0 0 (List.length ([] : List Int))))]) (st' := [⟨0, 3, 1, List.map eI ([] : List Int)⟩]) (st1 := [⟨0, 3, 1, List.map eI ([] : List Int)⟩]) [1] rfl .nil (by decide) rfl rfl (.pure (pure_map fun _ => rfl) .nil) ⟨.rfl, trivial⟩)).trans (Wk.to (L := [(4, (.own 0 0 (List.length ([] : List Int))))]) ⟨.rfl, trivial⟩)) (And.intro rfl rfl)))
  ·intro b6 h0
   refine AW.skip (hK2 _ ?_)
   refine sr rfl fun K8 hK8 => ?_
   iterate 3 refine zq tb rfl ?_
   obtain ⟨c9, gc9, h0⟩ := Sh.bind_some h0
   refine zx ei30 gc9 rfl rfl rfl ?_
   iterate 3 refine zq tb rfl ?_
   refine dn hK8 rfl ?_
   refine sr rfl fun K10 hK10 => ?_
   refine zq tb rfl ?_
   refine zl tb rfl rfl ?_
   obtain ⟨l11, gl11, h0⟩ := Sh.bind_some h0
   refine ao_make (m := 1) (st' := [⟨0, 32, 2, [(eRImage p0)]⟩, ⟨0, 4, 1, List.map eB l11⟩]) (enc := eB) (u := false) go0 ei61 rfl rfl rfl gl11 rfl rfl ?_
   refine zq tb rfl ?_
   refine dn hK10 rfl ?_
   refine sr rfl fun K12 hK12 => ?_
   refine zq tb rfl ?_
   obtain ⟨c13, gc13, h0⟩ := Sh.bind_some h0
   refine zz (.ptr 1 0 (Int.toNat 0) 0) (aq_ixo ei61 rfl rfl rfl rfl gc13) rfl ?_
   refine ao_stl (st' := [⟨0, 32, 2, [(eRImage p0)]⟩, ⟨0, 4, 1, List.map eB (Sh.put l11 0 true)⟩]) (u' := true) go0 ti4 rfl rfl gc13 rfl rfl rfl (show 0 + 1 ≤ 1 by decide) rfl rfl ?_
   refine dn hK12 rfl ?_
   refine AW.seq fun K14 hK14 => ?_
   refine sr rfl fun K15 hK15 => ?_
   refine zq tb rfl ?_
   refine zl tb rfl rfl ?_
   refine zq tb rfl ?_
   refine dn hK15 rfl ?_
   obtain ⟨o19, h1, h0⟩ := Sh.bind_some h0
   have M19 : ∀ (l18 : (List Bool)), o19 = l18 → ∀ s, Wk 0 s ⟨62, envL [(6, (.own 0 0 (List.length l18)))], [⟨0, 4, 1, List.map eB l18⟩]⟩ → K14 s := by
    intro l18 hq s hw
    subst o19
    try dsimp only at h0
    refine hK14 _ (AW.weaken hw ?_)
    refine sr rfl fun K20 hK20 => ?_
    refine zq tb rfl ?_
    refine AO.weaken (Wk.frz (L := [(60, (.sl (List.map eB l18)))]) (st' := [⟨1, 4, 1, []⟩]) (id := 0) rfl (show 0 ≤ 0 by decide) (pure_map fun _ => rfl) ⟨(.frz rfl), trivial⟩ rfl) ?_
    obtain ⟨q21, gq21, h0⟩ := Sh.bind_some h0
    refine ao_call (v' := (.own 1 0 (List.length q21))) (st' := [⟨1, 4, 1, []⟩, ⟨0, 3, 1, List.map eI q21⟩]) go0 hb33 (impl_indicesOf_ok gq21) rfl rfl ⟨(pure_map' fun _ => rfl), trivial⟩ rfl rfl ?_
    refine zq tb rfl ?_
    refine dn hK20 rfl ?_
    replace h0 := Sh.some_eq h0
    subst r
    exact AW.ret (xr (Wk.permk (L := [(4, (.own 0 0 (List.length q21)))]) (st' := [⟨0, 3, 1, List.map eI q21⟩]) (st1 := [⟨0, 3, 1, List.map eI q21⟩]) [1] rfl .nil (by decide) rfl rfl (.pure (pure_map fun _ => rfl) .nil) ⟨.rfl, trivial⟩))
   refine AW.block (AW.loopF (σ := Int × (List Bool)) (fun n v => impl_ReachedCode_L1 N c9 n v.1 v.2 = some o19) (fun (t16, l17) => ⟨62, envL [(6, (.own 0 0 (List.length l17))), (36, (.sl (List.map eRInstr c9.code))), (37, (i64 (Sh.len c9.code))), (38, (i64 t16))], [⟨0, 4, 1, List.map eB l17⟩]⟩) N (0, Sh.put l11 0 true) h1 (by refine Wk.trans (Wk.permk (L := [(6, (.own 0 0 (List.length l11))), (36, (.sl (List.map eRInstr c9.code))), (37, (i64 (Sh.len c9.code))), (38, (i64 0))]) (st' := [⟨0, 4, 1, List.map eB (Sh.put l11 0 true)⟩]) (st1 := [⟨0, 4, 1, List.map eB (Sh.put l11 0 true)⟩]) [1] rfl .nil (by decide) rfl rfl (.pure (pure_map fun _ => rfl) .nil) ⟨.rfl, .rfl, .rfl, .rfl, trivial⟩) ?_; exact Wk.to (L := [(6, (.own 0 0 (List.length (Sh.put l11 0 true)))), (36, (.sl (List.map eRInstr c9.code))), (37, (i64 (Sh.len c9.code))), (38, (i64 0))]) ⟨(.len (by simp only [Sh.put_len])), .rfl, .rfl, .rfl, trivial⟩) (fun _ hv => by rw [impl_ReachedCode_L1] at hv; cases hv) ?_)
   rintro n ⟨t16, l17⟩ h1
   try dsimp only at h1 ⊢
   rw [impl_ReachedCode_L1] at h1
   refine sr rfl fun K22 hK22 => ?_
   refine zq tb rfl ?_
   refine dn hK22 rfl ?_
   refine AW.seq fun K23 hK23 => ?_
   refine ci h1 rfl ?_ ?_ <;> clear h1
   ·intro b24 h1
    refine AW.skip (hK23 _ ?_)
    refine AW.seq fun K25 hK25 => ?_
    obtain ⟨o27, h2, h1⟩ := Sh.bind_some h1
    have M27 : ∀ (l26 : (List Bool)), o27 = l26 → ∀ s, Wk 0 s ⟨62, envL [(6, (.own 0 0 (List.length l26))), (36, (.sl (List.map eRInstr c9.code))), (37, (i64 (Sh.len c9.code))), (38, (i64 t16))], [⟨0, 4, 1, List.map eB l26⟩]⟩ → K25 s := by
     intro l26 hq s hw
     subst o27
     try dsimp only at h1
     refine hK25 _ (AW.weaken hw ?_)
     refine AW.regionO (by rfl) ?_
     iterate 2 refine zq tb rfl ?_
     exact AO.done (xi (Sh.w (t16 + 1), l26) h1 (Wk.tr rfl))
    refine AW.block ?_
    refine sr rfl fun K28 hK28 => ?_
    refine zq tb rfl ?_
    obtain ⟨c29, gc29, h2⟩ := Sh.bind_some h2
    refine zx ei53 gc29 rfl rfl rfl ?_
    refine zq tb rfl ?_
    refine ao_alloc (m := 1) (st' := [⟨0, 4, 1, List.map eB l17⟩, ⟨0, 63, 6, [[(i64 0), (i64 0), (i64 0), (i64 0), .zc, .zc]]⟩]) go0 zi63 rfl rfl ?_
    refine zq tb rfl ?_
    refine ao_str (st' := [⟨0, 4, 1, List.map eB l17⟩, ⟨0, 63, 6, [(eRInstr c29)]⟩]) go0 ti63 rfl rfl rfl rfl rfl rfl (show 0 + 6 ≤ 6 by decide) rfl ?_
    refine dn hK28 rfl ?_
    refine sr rfl fun K30 hK30 => ?_
    iterate 2 refine zq tb rfl ?_
    obtain ⟨c31, gc31, h2⟩ := Sh.bind_some h2
    refine zz (.ptr 0 0 (Int.toNat t16) 0) (aq_ixo ei61 rfl rfl rfl rfl gc31) rfl ?_
    refine zz (.bool c31) (aq_ldp ti4 rfl rfl (map_get gc31) rfl) rfl ?_
    refine dn hK30 rfl ?_
    refine ci h2 rfl ?_ ?_ <;> clear h2
    ·intro b32 h2
     refine sr rfl fun K33 hK33 => ?_
     iterate 2 refine zq tb rfl ?_
     obtain ⟨q34, gq34, h2⟩ := Sh.bind_some h2
     refine zc hb32 (impl_Instr_nexts_ok gq34) rfl rfl rfl ?_
     refine zl tb rfl rfl ?_
     refine zq tb rfl ?_
     refine dn hK33 rfl ?_
     refine AW.fin fun K35 hK35 => ?_
     obtain ⟨o39, h3, h2⟩ := Sh.bind_some h2
     have M39 : ∀ (l38 : (List Bool)), o39 = l38 → ∀ s, Wk 0 s ⟨62, envL [(6, (.own 0 0 (List.length l38))), (36, (.sl (List.map eRInstr c9.code))), (37, (i64 (Sh.len c9.code))), (38, (i64 t16))], [⟨0, 4, 1, List.map eB l38⟩]⟩ → K35 s := by
      intro l38 hq s hw
      subst o39
      try dsimp only at h2
      refine hK35 _ ?_
      exact M27 l38 (Sh.some_eq h2).symm _ (hw.trans (Wk.to (L := [(6, (.own 0 0 (List.length l38))), (36, (.sl (List.map eRInstr c9.code))), (37, (i64 (Sh.len c9.code))), (38, (i64 t16))]) ⟨.rfl, .rfl, .rfl, .rfl, trivial⟩))
     refine AW.block (AW.loopF (σ := Int × (List Bool)) (fun n v => impl_ReachedCode_L2 q34 n v.1 v.2 = some o39) (fun (t36, l37) => ⟨62, envL [(6, (.own 0 0 (List.length l37))), (36, (.sl (List.map eRInstr c9.code))), (37, (i64 (Sh.len c9.code))), (38, (i64 t16)), (49, (.sl (List.map eI q34))), (50, (i64 (Sh.len q34))), (51, (i64 t36))], [⟨0, 4, 1, List.map eB l37⟩]⟩) N (0, l17) h3 (Wk.permk (L := [(6, (.own 0 0 (List.length l17))), (36, (.sl (List.map eRInstr c9.code))), (37, (i64 (Sh.len c9.code))), (38, (i64 t16)), (49, (.sl (List.map eI q34))), (50, (i64 (Sh.len q34))), (51, (i64 0))]) (st' := [⟨0, 4, 1, List.map eB l17⟩]) (st1 := [⟨0, 4, 1, List.map eB l17⟩]) [0] rfl .nil (by decide) rfl rfl (.pure (pure_map fun _ => rfl) .nil) ⟨.rfl, .rfl, .rfl, .rfl, .rfl, .rfl, .rfl, trivial⟩) (fun _ hv => by rw [impl_ReachedCode_L2] at hv; cases hv) ?_)
     rintro n ⟨t36, l37⟩ h3
     try dsimp only at h3 ⊢
     rw [impl_ReachedCode_L2] at h3
     refine sr rfl fun K40 hK40 => ?_
     refine zq tb rfl ?_
     refine dn hK40 rfl ?_
     refine AW.seq fun K41 hK41 => ?_
     refine ci h3 rfl ?_ ?_ <;> clear h3
     ·intro b42 h3
      refine AW.skip (hK41 _ ?_)
      refine AW.seq fun K43 hK43 => ?_
      refine AW.block ?_
      refine sr rfl fun K44 hK44 => ?_
      obtain ⟨c45, gc45, h3⟩ := Sh.bind_some h3
      refine zx ei27 gc45 rfl rfl rfl ?_
      iterate 2 refine zq tb rfl ?_
      refine dn hK44 rfl ?_
      refine AW.regionO (by rfl) ?_
      iterate 2 refine zq tb rfl ?_
      obtain ⟨c46, gc46, h3⟩ := Sh.bind_some h3
      refine zz (.ptr 0 0 (Int.toNat c45) 0) (aq_ixo ei61 rfl rfl rfl rfl gc46) rfl ?_
      refine ao_stl (st' := [⟨0, 4, 1, List.map eB (Sh.put l37 c45 true)⟩]) (u' := true) go0 ti4 rfl rfl gc46 rfl rfl rfl (show 0 + 1 ≤ 1 by decide) rfl rfl ?_
      refine dn hK43 rfl ?_
      refine AW.regionO (by rfl) ?_
      iterate 2 refine zq tb rfl ?_
      exact AO.done (xi (Sh.w (t36 + 1), Sh.put l37 c45 true) h3 (Wk.to (L := [(6, (.own 0 0 (List.length (Sh.put l37 c45 true)))), (36, (.sl (List.map eRInstr c9.code))), (37, (i64 (Sh.len c9.code))), (38, (i64 t16)), (49, (.sl (List.map eI q34))), (50, (i64 (Sh.len q34))), (51, (i64 (Sh.w (t36 + 1))))]) ⟨(.len (by simp only [Sh.put_len])), .rfl, .rfl, .rfl, .rfl, .rfl, .rfl, trivial⟩))
     ·intro b42 h3
      exact AW.exit (M39 l37 (Sh.some_eq h3).symm _ (Wk.tr rfl))
    ·intro b32 h2
     exact AW.skip (M27 l17 (Sh.some_eq h2).symm _ (Wk.permk (L := [(6, (.own 0 0 (List.length l17))), (36, (.sl (List.map eRInstr c9.code))), (37, (i64 (Sh.len c9.code))), (38, (i64 t16))]) (st' := [⟨0, 4, 1, List.map eB l17⟩]) (st1 := [⟨0, 4, 1, List.map eB l17⟩]) [0] rfl .nil (by decide) rfl rfl (.pure (pure_map fun _ => rfl) .nil) ⟨.rfl, .rfl, .rfl, .rfl, trivial⟩))
   ·intro b24 h1
    exact AW.exit (M19 l17 (Sh.some_eq h1).symm _ (Wk.tr rfl))
 refine AW.regionO (by rfl) ?_
 refine zq tb rfl ?_
 obtain ⟨q47, gq47, h1⟩ := Sh.bind_some h1
 refine zc hb31 (impl_ValidImage_ok gq47) rfl rfl rfl ?_
 iterate 2 refine zq tb rfl ?_
 rcases Sh.ite_some h1 with ⟨b48, h1⟩ | ⟨b48, h1⟩
 ·refine zs b48 rfl ?_
  refine zs b48 rfl ?_
  refine zt b48 rfl ?_
  refine zq tb rfl ?_
  iterate 5 refine zs rfl rfl ?_
  refine zt rfl rfl ?_
  exact AO.done (M5 true (Sh.some_eq h1).symm _ (Wk.tr rfl))
 ·refine zg tb b48 rfl ?_
  refine zg tb b48 rfl ?_
  refine zf b48 rfl ?_
  refine zq tb rfl ?_
  rcases Sh.ite_some h1 with ⟨b49, h1⟩ | ⟨b49, h1⟩
  ·refine zs b49 rfl ?_
   iterate 4 refine zs b49 rfl ?_
   refine zt b49 rfl ?_
   exact AO.done (M5 true (Sh.some_eq h1).symm _ (Wk.tr rfl))
  ·refine zg tb b49 rfl ?_
   iterate 2 refine zg tb b49 rfl ?_
   refine ao_q (v := (i64 (Sh.len p0.procs))) (go1 rfl rfl b49) rfl (aq_lens sl30 rfl) ?_
   refine zg tb b49 rfl ?_
   refine zf b49 rfl ?_
   exact AO.done (M5 (decide ((Sh.len p0.procs) ≤ p1)) (Sh.some_eq h1).symm _ (Wk.tr rfl))
theorem laws_eqIntS_ok {N : Nat} {p0 : (List Int)} {p1 : (List Int)} {r : Bool} (h0 : laws_eqIntS N p0 p1 = some r) : ACalls Try.prog 10 [(.sl (List.map eI p0)), (.sl (List.map eI p1))] [] (fun v st => v = (.bool r) ∧ st = []) := by
 unfold laws_eqIntS at h0
 refine ACalls.intro Try.func10 rfl (by show 2 ≤ 26; decide) ?_
 show AW _ 0 _ (aret _ 0 Try.f10 _) ⟨26, _, _⟩
 refine AW.weaken (Wk.to (L := [(0, (.sl (List.map eI p0))), (1, (.sl (List.map eI p1)))]) ⟨.rfl, .rfl, trivial⟩) ?_
 refine sr rfl fun K1 hK1 => ?_
 refine zq tb rfl ?_
 refine dn hK1 rfl ?_
 refine AW.seq fun K2 hK2 => ?_
 refine sr rfl fun K3 hK3 => ?_
 refine zq tb rfl ?_
 refine zl tb rfl rfl ?_
 refine zq tb rfl ?_
 refine zl tb rfl rfl ?_
 refine zq tb rfl ?_
 refine dn hK3 rfl ?_
 refine ci h0 rfl ?_ ?_ <;> clear h0
 ·intro b4 h0
  have b5 : decide ((Sh.len p0) = (Sh.len p1)) = false := by simpa using b4
  refine sr rfl fun K6 hK6 => ?_
  refine zq tb rfl ?_
  refine dn hK6 rfl ?_
  replace h0 := Sh.some_eq h0
  subst r
  exact AW.ret (xr (Wk.to (L := [(4, (.bool false))]) ⟨.rfl, trivial⟩))
 ·intro b4 h0
  have b7 : decide ((Sh.len p0) = (Sh.len p1)) = true := by simpa using b4
  refine AW.skip (hK2 _ ?_)
  refine AW.seq fun K8 hK8 => ?_
  refine sr rfl fun K9 hK9 => ?_
  refine zq tb rfl ?_
  refine dn hK9 rfl ?_
  obtain ⟨o11, h1, h0⟩ := Sh.cont_some h0
  have M11 : ∀ (_ : Unit), o11 = Sum.inr () → ∀ s, Wk 0 s ⟨26, envL [], []⟩ → K8 s := by
   intro _ hq s hw
   subst o11
   try dsimp only at h0
   refine hK8 _ (AW.weaken hw ?_)
   refine sr rfl fun K12 hK12 => ?_
   refine zq tb rfl ?_
   refine dn hK12 rfl ?_
   replace h0 := Sh.some_eq h0
   subst r
   exact AW.ret (xr (Wk.to (L := [(4, (.bool true))]) ⟨.rfl, trivial⟩))
  refine AW.block (AW.loopF (σ := Int) (fun n v => laws_eqIntS_L1 p0 p1 n v = some o11) (fun i10 => ⟨26, envL [(0, (.sl (List.map eI p0))), (1, (.sl (List.map eI p1))), (5, (i64 i10))], []⟩) N 0 h1 (Wk.tr rfl) (fun _ hv => by rw [laws_eqIntS_L1] at hv; cases hv) ?_)
  rintro n i10 h1
  try dsimp only at h1 ⊢
  rw [laws_eqIntS_L1] at h1
  refine AW.seq fun K13 hK13 => ?_
  refine sr rfl fun K14 hK14 => ?_
  iterate 2 refine zq tb rfl ?_
  refine zl tb rfl rfl ?_
  refine zq tb rfl ?_
  refine dn hK14 rfl ?_
  refine ci h1 rfl ?_ ?_ <;> clear h1
  ·intro b15 h1
   refine AW.skip (hK13 _ ?_)
   refine AW.seq fun K16 hK16 => ?_
   refine AW.block ?_
   refine AW.seq fun K17 hK17 => ?_
   refine AW.draw (by kernel_rfl) (by kernel_rfl) (by rfl) ?_
   iterate 2 refine yq tb rfl ?_
   obtain ⟨c18, gc18, h1⟩ := Sh.bind_some h1
   refine yx ei27 gc18 rfl rfl rfl ?_
   iterate 3 refine yq tb rfl ?_
   obtain ⟨c19, gc19, h1⟩ := Sh.bind_some h1
   refine yx ei27 gc19 rfl rfl rfl ?_
   iterate 2 refine yq tb rfl ?_
   refine d_done (hK17 _ ?_)
   refine ci h1 rfl ?_ ?_ <;> clear h1
   ·intro b20 h1
    have b21 : decide (c18 = c19) = false := by simpa using b20
    refine sr rfl fun K22 hK22 => ?_
    refine zq tb rfl ?_
    refine dn hK22 rfl ?_
    replace h1 := Sh.some_eq h1
    subst o11
    try dsimp only [id] at h0
    replace h0 := Sh.some_eq h0
    subst r
    exact AW.ret (xr (Wk.to (L := [(4, (.bool false))]) ⟨.rfl, trivial⟩))
   ·intro b20 h1
    have b23 : decide (c18 = c19) = true := by simpa using b20
    refine AW.skip (hK16 _ ?_)
    refine AW.regionO (by rfl) ?_
    iterate 3 refine zq tb rfl ?_
    exact AO.done (xi (Sh.w (i10 + 1)) h1 (Wk.tr rfl))
  ·intro b15 h1
   exact AW.exit (M11 () (Sh.some_eq h1).symm _ (Wk.tr rfl))
theorem laws_eqCon_ok {N : Nat} {p0 : RCon} {p1 : RCon} {r : Bool} (h0 : laws_eqCon N p0 p1 = some r) : ACalls Try.prog 108 [(.agg (eRCon p0)), (.agg (eRCon p1))] [] (fun v st => v = (.bool r) ∧ st = []) := by
 unfold laws_eqCon at h0
 refine ACalls.intro Try.func108 rfl (by show 2 ≤ 11; decide) ?_
 show AW _ 0 _ (aret _ 0 Try.f108 _) ⟨11, _, _⟩
 refine AW.weaken (Wk.to (L := [(0, (.agg (eRCon p0))), (1, (.agg (eRCon p1)))]) ⟨.rfl, .rfl, trivial⟩) ?_
 refine sr rfl fun K1 hK1 => ?_
 refine ao_box (m := 0) (st' := [⟨0, 141, 1, [(eRCon p0)]⟩]) go0 rfl rfl rfl rfl rfl ?_
 refine ao_box (m := 1) (st' := [⟨0, 141, 1, [(eRCon p0)]⟩, ⟨0, 141, 1, [(eRCon p1)]⟩]) go0 rfl rfl rfl rfl rfl ?_
 refine zq tb rfl ?_
 refine dn hK1 rfl ?_
 refine AW.seq fun K2 hK2 => ?_
 refine sr rfl fun K3 hK3 => ?_
 iterate 4 refine zq tb rfl ?_
 obtain ⟨q4, gq4, h0⟩ := Sh.bind_some h0
 refine zc hb10 (laws_eqIntS_ok gq4) rfl rfl rfl ?_
 refine zq tb rfl ?_
 refine dn hK3 rfl ?_
 refine ci h0 rfl ?_ ?_ <;> clear h0
 ·intro b5 h0
  have b6 : q4 = false := by simpa using b5
  refine sr rfl fun K7 hK7 => ?_
  refine zq tb rfl ?_
  refine dn hK7 rfl ?_
  replace h0 := Sh.some_eq h0
  subst r
  exact AW.ret (xr (Wk.d0 [(4, (.bool false))] rfl))
 ·intro b5 h0
  have b8 : q4 = true := by simpa using b5
  refine AW.skip (hK2 _ ?_)
  refine sr rfl fun K9 hK9 => ?_
  refine zq tb rfl ?_
  refine dn hK9 rfl ?_
  replace h0 := Sh.some_eq h0
  subst r
  exact AW.ret (xr (Wk.d0 [(4, (.bool true))] rfl))
theorem laws_eqConS_ok {N : Nat} {p0 : (List RCon)} {p1 : (List RCon)} {r : Bool} (h0 : laws_eqConS N p0 p1 = some r) : ACalls Try.prog 87 [(.sl (List.map eRCon p0)), (.sl (List.map eRCon p1))] [] (fun v st => v = (.bool r) ∧ st = []) := by
 unfold laws_eqConS at h0
 refine ACalls.intro Try.func87 rfl (by show 2 ≤ 27; decide) ?_
 show AW _ 0 _ (aret _ 0 Try.f87 _) ⟨27, _, _⟩
 refine AW.weaken (Wk.to (L := [(0, (.sl (List.map eRCon p0))), (1, (.sl (List.map eRCon p1)))]) ⟨.rfl, .rfl, trivial⟩) ?_
 refine sr rfl fun K1 hK1 => ?_
 refine zq tb rfl ?_
 refine dn hK1 rfl ?_
 refine AW.seq fun K2 hK2 => ?_
 refine sr rfl fun K3 hK3 => ?_
 refine zq tb rfl ?_
 refine zl tb rfl rfl ?_
 refine zq tb rfl ?_
 refine zl tb rfl rfl ?_
 refine zq tb rfl ?_
 refine dn hK3 rfl ?_
 refine ci h0 rfl ?_ ?_ <;> clear h0
 ·intro b4 h0
  have b5 : decide ((Sh.len p0) = (Sh.len p1)) = false := by simpa using b4
  refine sr rfl fun K6 hK6 => ?_
  refine zq tb rfl ?_
  refine dn hK6 rfl ?_
  replace h0 := Sh.some_eq h0
  subst r
  exact AW.ret (xr (Wk.to (L := [(4, (.bool false))]) ⟨.rfl, trivial⟩))
 ·intro b4 h0
  have b7 : decide ((Sh.len p0) = (Sh.len p1)) = true := by simpa using b4
  refine AW.skip (hK2 _ ?_)
  refine AW.seq fun K8 hK8 => ?_
  refine sr rfl fun K9 hK9 => ?_
  refine zq tb rfl ?_
  refine dn hK9 rfl ?_
  obtain ⟨o11, h1, h0⟩ := Sh.cont_some h0
  have M11 : ∀ (_ : Unit), o11 = Sum.inr () → ∀ s, Wk 0 s ⟨27, envL [], []⟩ → K8 s := by
   intro _ hq s hw
   subst o11
   try dsimp only at h0
   refine hK8 _ (AW.weaken hw ?_)
   refine sr rfl fun K12 hK12 => ?_
   refine zq tb rfl ?_
   refine dn hK12 rfl ?_
   replace h0 := Sh.some_eq h0
   subst r
   exact AW.ret (xr (Wk.to (L := [(4, (.bool true))]) ⟨.rfl, trivial⟩))
  refine AW.block (AW.loopF (σ := Int) (fun n v => laws_eqConS_L1 N p0 p1 n v = some o11) (fun i10 => ⟨27, envL [(0, (.sl (List.map eRCon p0))), (1, (.sl (List.map eRCon p1))), (5, (i64 i10))], []⟩) N 0 h1 (Wk.tr rfl) (fun _ hv => by rw [laws_eqConS_L1] at hv; cases hv) ?_)
  rintro n i10 h1
  try dsimp only at h1 ⊢
  rw [laws_eqConS_L1] at h1
  refine AW.seq fun K13 hK13 => ?_
  refine sr rfl fun K14 hK14 => ?_
  iterate 2 refine zq tb rfl ?_
  refine zl tb rfl rfl ?_
  refine zq tb rfl ?_
  refine dn hK14 rfl ?_
  refine ci h1 rfl ?_ ?_ <;> clear h1
  ·intro b15 h1
   refine AW.skip (hK13 _ ?_)
   refine AW.seq fun K16 hK16 => ?_
   refine AW.block ?_
   refine AW.seq fun K17 hK17 => ?_
   refine AW.draw (by kernel_rfl) (by kernel_rfl) (by rfl) ?_
   iterate 2 refine yq tb rfl ?_
   obtain ⟨c18, gc18, h1⟩ := Sh.bind_some h1
   refine yx ei92 gc18 rfl rfl rfl ?_
   iterate 3 refine yq tb rfl ?_
   obtain ⟨c19, gc19, h1⟩ := Sh.bind_some h1
   refine yx ei92 gc19 rfl rfl rfl ?_
   refine yq tb rfl ?_
   obtain ⟨q20, gq20, h1⟩ := Sh.bind_some h1
   refine d_call (v := (.bool q20)) go0 hb108 (laws_eqCon_ok gq20) rfl rfl rfl ?_
   refine yq tb rfl ?_
   refine d_done (hK17 _ ?_)
   refine ci h1 rfl ?_ ?_ <;> clear h1
   ·intro b21 h1
    have b22 : q20 = false := by simpa using b21
    refine sr rfl fun K23 hK23 => ?_
    refine zq tb rfl ?_
    refine dn hK23 rfl ?_
    replace h1 := Sh.some_eq h1
    subst o11
    try dsimp only [id] at h0
    replace h0 := Sh.some_eq h0
    subst r
    exact AW.ret (xr (Wk.to (L := [(4, (.bool false))]) ⟨.rfl, trivial⟩))
   ·intro b21 h1
    have b24 : q20 = true := by simpa using b21
    refine AW.skip (hK16 _ ?_)
    refine AW.regionO (by rfl) ?_
    iterate 3 refine zq tb rfl ?_
    exact AO.done (xi (Sh.w (i10 + 1)) h1 (Wk.tr rfl))
  ·intro b15 h1
   exact AW.exit (M11 () (Sh.some_eq h1).symm _ (Wk.tr rfl))
theorem laws_eqDecl_ok {N : Nat} {p0 : RDecl} {p1 : RDecl} {r : Bool} (h0 : laws_eqDecl N p0 p1 = some r) : ACalls Try.prog 58 [(.agg (eRDecl p0)), (.agg (eRDecl p1))] [] (fun v st => v = (.bool r) ∧ st = []) := by
 unfold laws_eqDecl at h0
 refine ACalls.intro Try.func58 rfl (by show 2 ≤ 21; decide) ?_
 show AW _ 0 _ (aret _ 0 Try.f58 _) ⟨21, _, _⟩
 refine AW.weaken (Wk.to (L := [(0, (.agg (eRDecl p0))), (1, (.agg (eRDecl p1)))]) ⟨.rfl, .rfl, trivial⟩) ?_
 refine sr rfl fun K1 hK1 => ?_
 refine ao_box (m := 0) (st' := [⟨0, 94, 3, [(eRDecl p0)]⟩]) go0 rfl rfl rfl rfl rfl ?_
 refine ao_box (m := 1) (st' := [⟨0, 94, 3, [(eRDecl p0)]⟩, ⟨0, 94, 3, [(eRDecl p1)]⟩]) go0 rfl rfl rfl rfl rfl ?_
 refine zq tb rfl ?_
 refine dn hK1 rfl ?_
 refine AW.seq fun K2 hK2 => ?_
 refine sr rfl fun K3 hK3 => ?_
 iterate 5 refine zq tb rfl ?_
 refine dn hK3 rfl ?_
 refine ci h0 rfl ?_ ?_ <;> clear h0
 ·intro b4 h0
  have b5 : decide (p0.from_ = p1.from_) = false := by simpa using b4
  refine sr rfl fun K6 hK6 => ?_
  refine zq tb rfl ?_
  refine dn hK6 rfl ?_
  replace h0 := Sh.some_eq h0
  subst r
  exact AW.ret (xr (Wk.d0 [(4, (.bool false))] rfl))
 ·intro b4 h0
  have b7 : decide (p0.from_ = p1.from_) = true := by simpa using b4
  refine AW.skip (hK2 _ ?_)
  refine AW.seq fun K8 hK8 => ?_
  refine sr rfl fun K9 hK9 => ?_
  iterate 5 refine zq tb rfl ?_
  refine dn hK9 rfl ?_
  refine ci h0 rfl ?_ ?_ <;> clear h0
  ·intro b10 h0
   have b11 : decide (p0.to = p1.to) = false := by simpa using b10
   refine sr rfl fun K12 hK12 => ?_
   refine zq tb rfl ?_
   refine dn hK12 rfl ?_
   replace h0 := Sh.some_eq h0
   subst r
   exact AW.ret (xr (Wk.d0 [(4, (.bool false))] rfl))
  ·intro b10 h0
   have b13 : decide (p0.to = p1.to) = true := by simpa using b10
   refine AW.skip (hK8 _ ?_)
   refine AW.seq fun K14 hK14 => ?_
   refine sr rfl fun K15 hK15 => ?_
   iterate 4 refine zq tb rfl ?_
   obtain ⟨q16, gq16, h0⟩ := Sh.bind_some h0
   refine zc hb87 (laws_eqConS_ok gq16) rfl rfl rfl ?_
   refine zq tb rfl ?_
   refine dn hK15 rfl ?_
   refine ci h0 rfl ?_ ?_ <;> clear h0
   ·intro b17 h0
    have b18 : q16 = false := by simpa using b17
    refine sr rfl fun K19 hK19 => ?_
    refine zq tb rfl ?_
    refine dn hK19 rfl ?_
    replace h0 := Sh.some_eq h0
    subst r
    exact AW.ret (xr (Wk.d0 [(4, (.bool false))] rfl))
   ·intro b17 h0
    have b20 : q16 = true := by simpa using b17
    refine AW.skip (hK14 _ ?_)
    refine sr rfl fun K21 hK21 => ?_
    refine zq tb rfl ?_
    refine dn hK21 rfl ?_
    replace h0 := Sh.some_eq h0
    subst r
    exact AW.ret (xr (Wk.d0 [(4, (.bool true))] rfl))
theorem laws_eqDeclS_ok {N : Nat} {p0 : (List RDecl)} {p1 : (List RDecl)} {r : Bool} (h0 : laws_eqDeclS N p0 p1 = some r) : ACalls Try.prog 34 [(.sl (List.map eRDecl p0)), (.sl (List.map eRDecl p1))] [] (fun v st => v = (.bool r) ∧ st = []) := by
 unfold laws_eqDeclS at h0
 refine ACalls.intro Try.func34 rfl (by show 2 ≤ 27; decide) ?_
 show AW _ 0 _ (aret _ 0 Try.f34 _) ⟨27, _, _⟩
 refine AW.weaken (Wk.to (L := [(0, (.sl (List.map eRDecl p0))), (1, (.sl (List.map eRDecl p1)))]) ⟨.rfl, .rfl, trivial⟩) ?_
 refine sr rfl fun K1 hK1 => ?_
 refine zq tb rfl ?_
 refine dn hK1 rfl ?_
 refine AW.seq fun K2 hK2 => ?_
 refine sr rfl fun K3 hK3 => ?_
 refine zq tb rfl ?_
 refine zl tb rfl rfl ?_
 refine zq tb rfl ?_
 refine zl tb rfl rfl ?_
 refine zq tb rfl ?_
 refine dn hK3 rfl ?_
 refine ci h0 rfl ?_ ?_ <;> clear h0
 ·intro b4 h0
  have b5 : decide ((Sh.len p0) = (Sh.len p1)) = false := by simpa using b4
  refine sr rfl fun K6 hK6 => ?_
  refine zq tb rfl ?_
  refine dn hK6 rfl ?_
  replace h0 := Sh.some_eq h0
  subst r
  exact AW.ret (xr (Wk.to (L := [(4, (.bool false))]) ⟨.rfl, trivial⟩))
 ·intro b4 h0
  have b7 : decide ((Sh.len p0) = (Sh.len p1)) = true := by simpa using b4
  refine AW.skip (hK2 _ ?_)
  refine AW.seq fun K8 hK8 => ?_
  refine sr rfl fun K9 hK9 => ?_
  refine zq tb rfl ?_
  refine dn hK9 rfl ?_
  obtain ⟨o11, h1, h0⟩ := Sh.cont_some h0
  have M11 : ∀ (_ : Unit), o11 = Sum.inr () → ∀ s, Wk 0 s ⟨27, envL [], []⟩ → K8 s := by
   intro _ hq s hw
   subst o11
   try dsimp only at h0
   refine hK8 _ (AW.weaken hw ?_)
   refine sr rfl fun K12 hK12 => ?_
   refine zq tb rfl ?_
   refine dn hK12 rfl ?_
   replace h0 := Sh.some_eq h0
   subst r
   exact AW.ret (xr (Wk.to (L := [(4, (.bool true))]) ⟨.rfl, trivial⟩))
  refine AW.block (AW.loopF (σ := Int) (fun n v => laws_eqDeclS_L1 N p0 p1 n v = some o11) (fun i10 => ⟨27, envL [(0, (.sl (List.map eRDecl p0))), (1, (.sl (List.map eRDecl p1))), (5, (i64 i10))], []⟩) N 0 h1 (Wk.tr rfl) (fun _ hv => by rw [laws_eqDeclS_L1] at hv; cases hv) ?_)
  rintro n i10 h1
  try dsimp only at h1 ⊢
  rw [laws_eqDeclS_L1] at h1
  refine AW.seq fun K13 hK13 => ?_
  refine sr rfl fun K14 hK14 => ?_
  iterate 2 refine zq tb rfl ?_
  refine zl tb rfl rfl ?_
  refine zq tb rfl ?_
  refine dn hK14 rfl ?_
  refine ci h1 rfl ?_ ?_ <;> clear h1
  ·intro b15 h1
   refine AW.skip (hK13 _ ?_)
   refine AW.seq fun K16 hK16 => ?_
   refine AW.block ?_
   refine AW.seq fun K17 hK17 => ?_
   refine AW.draw (by kernel_rfl) (by kernel_rfl) (by rfl) ?_
   iterate 2 refine yq tb rfl ?_
   obtain ⟨c18, gc18, h1⟩ := Sh.bind_some h1
   refine yx ei29 gc18 rfl rfl rfl ?_
   iterate 3 refine yq tb rfl ?_
   obtain ⟨c19, gc19, h1⟩ := Sh.bind_some h1
   refine yx ei29 gc19 rfl rfl rfl ?_
   refine yq tb rfl ?_
   obtain ⟨q20, gq20, h1⟩ := Sh.bind_some h1
   refine d_call (v := (.bool q20)) go0 hb58 (laws_eqDecl_ok gq20) rfl rfl rfl ?_
   refine yq tb rfl ?_
   refine d_done (hK17 _ ?_)
   refine ci h1 rfl ?_ ?_ <;> clear h1
   ·intro b21 h1
    have b22 : q20 = false := by simpa using b21
    refine sr rfl fun K23 hK23 => ?_
    refine zq tb rfl ?_
    refine dn hK23 rfl ?_
    replace h1 := Sh.some_eq h1
    subst o11
    try dsimp only [id] at h0
    replace h0 := Sh.some_eq h0
    subst r
    exact AW.ret (xr (Wk.to (L := [(4, (.bool false))]) ⟨.rfl, trivial⟩))
   ·intro b21 h1
    have b24 : q20 = true := by simpa using b21
    refine AW.skip (hK16 _ ?_)
    refine AW.regionO (by rfl) ?_
    iterate 3 refine zq tb rfl ?_
    exact AO.done (xi (Sh.w (i10 + 1)) h1 (Wk.tr rfl))
  ·intro b15 h1
   exact AW.exit (M11 () (Sh.some_eq h1).symm _ (Wk.tr rfl))
theorem laws_eqInstr_ok {N : Nat} {p0 : RInstr} {p1 : RInstr} {r : Bool} (h0 : laws_eqInstr N p0 p1 = some r) : ACalls Try.prog 109 [(.agg (eRInstr p0)), (.agg (eRInstr p1))] [] (fun v st => v = (.bool r) ∧ st = []) := by
 unfold laws_eqInstr at h0
 refine ACalls.intro Try.func109 rfl (by show 2 ≤ 37; decide) ?_
 show AW _ 0 _ (aret _ 0 Try.f109 _) ⟨37, _, _⟩
 refine AW.weaken (Wk.to (L := [(0, (.agg (eRInstr p0))), (1, (.agg (eRInstr p1)))]) ⟨.rfl, .rfl, trivial⟩) ?_
 refine sr rfl fun K1 hK1 => ?_
 refine ao_box (m := 0) (st' := [⟨0, 63, 6, [(eRInstr p0)]⟩]) go0 rfl rfl rfl rfl rfl ?_
 refine ao_box (m := 1) (st' := [⟨0, 63, 6, [(eRInstr p0)]⟩, ⟨0, 63, 6, [(eRInstr p1)]⟩]) go0 rfl rfl rfl rfl rfl ?_
 refine zq tb rfl ?_
 refine dn hK1 rfl ?_
 refine AW.seq fun K2 hK2 => ?_
 refine sr rfl fun K3 hK3 => ?_
 iterate 5 refine zq tb rfl ?_
 refine dn hK3 rfl ?_
 refine ci h0 rfl ?_ ?_ <;> clear h0
 ·intro b4 h0
  have b5 : decide (p0.op = p1.op) = false := by simpa using b4
  refine sr rfl fun K6 hK6 => ?_
  refine zq tb rfl ?_
  refine dn hK6 rfl ?_
  replace h0 := Sh.some_eq h0
  subst r
  exact AW.ret (xr (Wk.d0 [(4, (.bool false))] rfl))
 ·intro b4 h0
  have b7 : decide (p0.op = p1.op) = true := by simpa using b4
  refine AW.skip (hK2 _ ?_)
  refine AW.seq fun K8 hK8 => ?_
  refine sr rfl fun K9 hK9 => ?_
  iterate 5 refine zq tb rfl ?_
  refine dn hK9 rfl ?_
  refine ci h0 rfl ?_ ?_ <;> clear h0
  ·intro b10 h0
   have b11 : decide (p0.dst = p1.dst) = false := by simpa using b10
   refine sr rfl fun K12 hK12 => ?_
   refine zq tb rfl ?_
   refine dn hK12 rfl ?_
   replace h0 := Sh.some_eq h0
   subst r
   exact AW.ret (xr (Wk.d0 [(4, (.bool false))] rfl))
  ·intro b10 h0
   have b13 : decide (p0.dst = p1.dst) = true := by simpa using b10
   refine AW.skip (hK8 _ ?_)
   refine AW.seq fun K14 hK14 => ?_
   refine sr rfl fun K15 hK15 => ?_
   iterate 5 refine zq tb rfl ?_
   refine dn hK15 rfl ?_
   refine ci h0 rfl ?_ ?_ <;> clear h0
   ·intro b16 h0
    have b17 : decide (p0.num = p1.num) = false := by simpa using b16
    refine sr rfl fun K18 hK18 => ?_
    refine zq tb rfl ?_
    refine dn hK18 rfl ?_
    replace h0 := Sh.some_eq h0
    subst r
    exact AW.ret (xr (Wk.d0 [(4, (.bool false))] rfl))
   ·intro b16 h0
    have b19 : decide (p0.num = p1.num) = true := by simpa using b16
    refine AW.skip (hK14 _ ?_)
    refine AW.seq fun K20 hK20 => ?_
    refine sr rfl fun K21 hK21 => ?_
    iterate 5 refine zq tb rfl ?_
    refine dn hK21 rfl ?_
    refine ci h0 rfl ?_ ?_ <;> clear h0
    ·intro b22 h0
     have b23 : decide (p0.into = p1.into) = false := by simpa using b22
     refine sr rfl fun K24 hK24 => ?_
     refine zq tb rfl ?_
     refine dn hK24 rfl ?_
     replace h0 := Sh.some_eq h0
     subst r
     exact AW.ret (xr (Wk.d0 [(4, (.bool false))] rfl))
    ·intro b22 h0
     have b25 : decide (p0.into = p1.into) = true := by simpa using b22
     refine AW.skip (hK20 _ ?_)
     refine AW.seq fun K26 hK26 => ?_
     refine sr rfl fun K27 hK27 => ?_
     iterate 4 refine zq tb rfl ?_
     obtain ⟨q28, gq28, h0⟩ := Sh.bind_some h0
     refine zc hb10 (laws_eqIntS_ok gq28) rfl rfl rfl ?_
     refine zq tb rfl ?_
     refine dn hK27 rfl ?_
     refine ci h0 rfl ?_ ?_ <;> clear h0
     ·intro b29 h0
      have b30 : q28 = false := by simpa using b29
      refine sr rfl fun K31 hK31 => ?_
      refine zq tb rfl ?_
      refine dn hK31 rfl ?_
      replace h0 := Sh.some_eq h0
      subst r
      exact AW.ret (xr (Wk.d0 [(4, (.bool false))] rfl))
     ·intro b29 h0
      have b32 : q28 = true := by simpa using b29
      refine AW.skip (hK26 _ ?_)
      refine AW.seq fun K33 hK33 => ?_
      refine sr rfl fun K34 hK34 => ?_
      iterate 4 refine zq tb rfl ?_
      obtain ⟨q35, gq35, h0⟩ := Sh.bind_some h0
      refine zc hb10 (laws_eqIntS_ok gq35) rfl rfl rfl ?_
      refine zq tb rfl ?_
      refine dn hK34 rfl ?_
      refine ci h0 rfl ?_ ?_ <;> clear h0
      ·intro b36 h0
       have b37 : q35 = false := by simpa using b36
       refine sr rfl fun K38 hK38 => ?_
       refine zq tb rfl ?_
       refine dn hK38 rfl ?_
       replace h0 := Sh.some_eq h0
       subst r
       exact AW.ret (xr (Wk.d0 [(4, (.bool false))] rfl))
      ·intro b36 h0
       have b39 : q35 = true := by simpa using b36
       refine AW.skip (hK33 _ ?_)
       refine sr rfl fun K40 hK40 => ?_
       refine zq tb rfl ?_
       refine dn hK40 rfl ?_
       replace h0 := Sh.some_eq h0
       subst r
       exact AW.ret (xr (Wk.d0 [(4, (.bool true))] rfl))
theorem laws_eqInstrS_ok {N : Nat} {p0 : (List RInstr)} {p1 : (List RInstr)} {r : Bool} (h0 : laws_eqInstrS N p0 p1 = some r) : ACalls Try.prog 88 [(.sl (List.map eRInstr p0)), (.sl (List.map eRInstr p1))] [] (fun v st => v = (.bool r) ∧ st = []) := by
 unfold laws_eqInstrS at h0
 refine ACalls.intro Try.func88 rfl (by show 2 ≤ 27; decide) ?_
 show AW _ 0 _ (aret _ 0 Try.f88 _) ⟨27, _, _⟩
 refine AW.weaken (Wk.to (L := [(0, (.sl (List.map eRInstr p0))), (1, (.sl (List.map eRInstr p1)))]) ⟨.rfl, .rfl, trivial⟩) ?_
 refine sr rfl fun K1 hK1 => ?_
 refine zq tb rfl ?_
 refine dn hK1 rfl ?_
 refine AW.seq fun K2 hK2 => ?_
 refine sr rfl fun K3 hK3 => ?_
 refine zq tb rfl ?_
 refine zl tb rfl rfl ?_
 refine zq tb rfl ?_
 refine zl tb rfl rfl ?_
 refine zq tb rfl ?_
 refine dn hK3 rfl ?_
 refine ci h0 rfl ?_ ?_ <;> clear h0
 ·intro b4 h0
  have b5 : decide ((Sh.len p0) = (Sh.len p1)) = false := by simpa using b4
  refine sr rfl fun K6 hK6 => ?_
  refine zq tb rfl ?_
  refine dn hK6 rfl ?_
  replace h0 := Sh.some_eq h0
  subst r
  exact AW.ret (xr (Wk.to (L := [(4, (.bool false))]) ⟨.rfl, trivial⟩))
 ·intro b4 h0
  have b7 : decide ((Sh.len p0) = (Sh.len p1)) = true := by simpa using b4
  refine AW.skip (hK2 _ ?_)
  refine AW.seq fun K8 hK8 => ?_
  refine sr rfl fun K9 hK9 => ?_
  refine zq tb rfl ?_
  refine dn hK9 rfl ?_
  obtain ⟨o11, h1, h0⟩ := Sh.cont_some h0
  have M11 : ∀ (_ : Unit), o11 = Sum.inr () → ∀ s, Wk 0 s ⟨27, envL [], []⟩ → K8 s := by
   intro _ hq s hw
   subst o11
   try dsimp only at h0
   refine hK8 _ (AW.weaken hw ?_)
   refine sr rfl fun K12 hK12 => ?_
   refine zq tb rfl ?_
   refine dn hK12 rfl ?_
   replace h0 := Sh.some_eq h0
   subst r
   exact AW.ret (xr (Wk.to (L := [(4, (.bool true))]) ⟨.rfl, trivial⟩))
  refine AW.block (AW.loopF (σ := Int) (fun n v => laws_eqInstrS_L1 N p0 p1 n v = some o11) (fun i10 => ⟨27, envL [(0, (.sl (List.map eRInstr p0))), (1, (.sl (List.map eRInstr p1))), (5, (i64 i10))], []⟩) N 0 h1 (Wk.tr rfl) (fun _ hv => by rw [laws_eqInstrS_L1] at hv; cases hv) ?_)
  rintro n i10 h1
  try dsimp only at h1 ⊢
  rw [laws_eqInstrS_L1] at h1
  refine AW.seq fun K13 hK13 => ?_
  refine sr rfl fun K14 hK14 => ?_
  iterate 2 refine zq tb rfl ?_
  refine zl tb rfl rfl ?_
  refine zq tb rfl ?_
  refine dn hK14 rfl ?_
  refine ci h1 rfl ?_ ?_ <;> clear h1
  ·intro b15 h1
   refine AW.skip (hK13 _ ?_)
   refine AW.seq fun K16 hK16 => ?_
   refine AW.block ?_
   refine AW.seq fun K17 hK17 => ?_
   refine AW.draw (by kernel_rfl) (by kernel_rfl) (by rfl) ?_
   iterate 2 refine yq tb rfl ?_
   obtain ⟨c18, gc18, h1⟩ := Sh.bind_some h1
   refine yx ei53 gc18 rfl rfl rfl ?_
   iterate 3 refine yq tb rfl ?_
   obtain ⟨c19, gc19, h1⟩ := Sh.bind_some h1
   refine yx ei53 gc19 rfl rfl rfl ?_
   refine yq tb rfl ?_
   obtain ⟨q20, gq20, h1⟩ := Sh.bind_some h1
   refine d_call (v := (.bool q20)) go0 hb109 (laws_eqInstr_ok gq20) rfl rfl rfl ?_
   refine yq tb rfl ?_
   refine d_done (hK17 _ ?_)
   refine ci h1 rfl ?_ ?_ <;> clear h1
   ·intro b21 h1
    have b22 : q20 = false := by simpa using b21
    refine sr rfl fun K23 hK23 => ?_
    refine zq tb rfl ?_
    refine dn hK23 rfl ?_
    replace h1 := Sh.some_eq h1
    subst o11
    try dsimp only [id] at h0
    replace h0 := Sh.some_eq h0
    subst r
    exact AW.ret (xr (Wk.to (L := [(4, (.bool false))]) ⟨.rfl, trivial⟩))
   ·intro b21 h1
    have b24 : q20 = true := by simpa using b21
    refine AW.skip (hK16 _ ?_)
    refine AW.regionO (by rfl) ?_
    iterate 3 refine zq tb rfl ?_
    exact AO.done (xi (Sh.w (i10 + 1)) h1 (Wk.tr rfl))
  ·intro b15 h1
   exact AW.exit (M11 () (Sh.some_eq h1).symm _ (Wk.tr rfl))
theorem laws_eqProc_ok {N : Nat} {p0 : RProc} {p1 : RProc} {r : Bool} (h0 : laws_eqProc N p0 p1 = some r) : ACalls Try.prog 59 [(.agg (eRProc p0)), (.agg (eRProc p1))] [] (fun v st => v = (.bool r) ∧ st = []) := by
 unfold laws_eqProc at h0
 refine ACalls.intro Try.func59 rfl (by show 2 ≤ 33; decide) ?_
 show AW _ 0 _ (aret _ 0 Try.f59 _) ⟨33, _, _⟩
 refine AW.weaken (Wk.to (L := [(0, (.agg (eRProc p0))), (1, (.agg (eRProc p1)))]) ⟨.rfl, .rfl, trivial⟩) ?_
 refine sr rfl fun K1 hK1 => ?_
 refine ao_box (m := 0) (st' := [⟨0, 55, 5, [(eRProc p0)]⟩]) go0 rfl rfl rfl rfl rfl ?_
 refine ao_box (m := 1) (st' := [⟨0, 55, 5, [(eRProc p0)]⟩, ⟨0, 55, 5, [(eRProc p1)]⟩]) go0 rfl rfl rfl rfl rfl ?_
 refine zq tb rfl ?_
 refine dn hK1 rfl ?_
 refine AW.seq fun K2 hK2 => ?_
 refine sr rfl fun K3 hK3 => ?_
 iterate 4 refine zq tb rfl ?_
 obtain ⟨q4, gq4, h0⟩ := Sh.bind_some h0
 refine zc hb10 (laws_eqIntS_ok gq4) rfl rfl rfl ?_
 refine zq tb rfl ?_
 refine dn hK3 rfl ?_
 refine ci h0 rfl ?_ ?_ <;> clear h0
 ·intro b5 h0
  have b6 : q4 = false := by simpa using b5
  refine sr rfl fun K7 hK7 => ?_
  refine zq tb rfl ?_
  refine dn hK7 rfl ?_
  replace h0 := Sh.some_eq h0
  subst r
  exact AW.ret (xr (Wk.d0 [(4, (.bool false))] rfl))
 ·intro b5 h0
  have b8 : q4 = true := by simpa using b5
  refine AW.skip (hK2 _ ?_)
  refine AW.seq fun K9 hK9 => ?_
  refine sr rfl fun K10 hK10 => ?_
  iterate 4 refine zq tb rfl ?_
  obtain ⟨q11, gq11, h0⟩ := Sh.bind_some h0
  refine zc hb10 (laws_eqIntS_ok gq11) rfl rfl rfl ?_
  refine zq tb rfl ?_
  refine dn hK10 rfl ?_
  refine ci h0 rfl ?_ ?_ <;> clear h0
  ·intro b12 h0
   have b13 : q11 = false := by simpa using b12
   refine sr rfl fun K14 hK14 => ?_
   refine zq tb rfl ?_
   refine dn hK14 rfl ?_
   replace h0 := Sh.some_eq h0
   subst r
   exact AW.ret (xr (Wk.d0 [(4, (.bool false))] rfl))
  ·intro b12 h0
   have b15 : q11 = true := by simpa using b12
   refine AW.skip (hK9 _ ?_)
   refine AW.seq fun K16 hK16 => ?_
   refine sr rfl fun K17 hK17 => ?_
   iterate 5 refine zq tb rfl ?_
   refine dn hK17 rfl ?_
   refine ci h0 rfl ?_ ?_ <;> clear h0
   ·intro b18 h0
    have b19 : decide (p0.result = p1.result) = false := by simpa using b18
    refine sr rfl fun K20 hK20 => ?_
    refine zq tb rfl ?_
    refine dn hK20 rfl ?_
    replace h0 := Sh.some_eq h0
    subst r
    exact AW.ret (xr (Wk.d0 [(4, (.bool false))] rfl))
   ·intro b18 h0
    have b21 : decide (p0.result = p1.result) = true := by simpa using b18
    refine AW.skip (hK16 _ ?_)
    refine AW.seq fun K22 hK22 => ?_
    refine sr rfl fun K23 hK23 => ?_
    iterate 5 refine zq tb rfl ?_
    refine dn hK23 rfl ?_
    refine ci h0 rfl ?_ ?_ <;> clear h0
    ·intro b24 h0
     have b25 : decide (p0.regs = p1.regs) = false := by simpa using b24
     refine sr rfl fun K26 hK26 => ?_
     refine zq tb rfl ?_
     refine dn hK26 rfl ?_
     replace h0 := Sh.some_eq h0
     subst r
     exact AW.ret (xr (Wk.d0 [(4, (.bool false))] rfl))
    ·intro b24 h0
     have b27 : decide (p0.regs = p1.regs) = true := by simpa using b24
     refine AW.skip (hK22 _ ?_)
     refine AW.seq fun K28 hK28 => ?_
     refine sr rfl fun K29 hK29 => ?_
     iterate 4 refine zq tb rfl ?_
     obtain ⟨q30, gq30, h0⟩ := Sh.bind_some h0
     refine zc hb88 (laws_eqInstrS_ok gq30) rfl rfl rfl ?_
     refine zq tb rfl ?_
     refine dn hK29 rfl ?_
     refine ci h0 rfl ?_ ?_ <;> clear h0
     ·intro b31 h0
      have b32 : q30 = false := by simpa using b31
      refine sr rfl fun K33 hK33 => ?_
      refine zq tb rfl ?_
      refine dn hK33 rfl ?_
      replace h0 := Sh.some_eq h0
      subst r
      exact AW.ret (xr (Wk.d0 [(4, (.bool false))] rfl))
     ·intro b31 h0
      have b34 : q30 = true := by simpa using b31
      refine AW.skip (hK28 _ ?_)
      refine sr rfl fun K35 hK35 => ?_
      refine zq tb rfl ?_
      refine dn hK35 rfl ?_
      replace h0 := Sh.some_eq h0
      subst r
      exact AW.ret (xr (Wk.d0 [(4, (.bool true))] rfl))
theorem laws_eqProcS_ok {N : Nat} {p0 : (List RProc)} {p1 : (List RProc)} {r : Bool} (h0 : laws_eqProcS N p0 p1 = some r) : ACalls Try.prog 35 [(.sl (List.map eRProc p0)), (.sl (List.map eRProc p1))] [] (fun v st => v = (.bool r) ∧ st = []) := by
 unfold laws_eqProcS at h0
 refine ACalls.intro Try.func35 rfl (by show 2 ≤ 27; decide) ?_
 show AW _ 0 _ (aret _ 0 Try.f35 _) ⟨27, _, _⟩
 refine AW.weaken (Wk.to (L := [(0, (.sl (List.map eRProc p0))), (1, (.sl (List.map eRProc p1)))]) ⟨.rfl, .rfl, trivial⟩) ?_
 refine sr rfl fun K1 hK1 => ?_
 refine zq tb rfl ?_
 refine dn hK1 rfl ?_
 refine AW.seq fun K2 hK2 => ?_
 refine sr rfl fun K3 hK3 => ?_
 refine zq tb rfl ?_
 refine zl tb rfl rfl ?_
 refine zq tb rfl ?_
 refine zl tb rfl rfl ?_
 refine zq tb rfl ?_
 refine dn hK3 rfl ?_
 refine ci h0 rfl ?_ ?_ <;> clear h0
 ·intro b4 h0
  have b5 : decide ((Sh.len p0) = (Sh.len p1)) = false := by simpa using b4
  refine sr rfl fun K6 hK6 => ?_
  refine zq tb rfl ?_
  refine dn hK6 rfl ?_
  replace h0 := Sh.some_eq h0
  subst r
  exact AW.ret (xr (Wk.to (L := [(4, (.bool false))]) ⟨.rfl, trivial⟩))
 ·intro b4 h0
  have b7 : decide ((Sh.len p0) = (Sh.len p1)) = true := by simpa using b4
  refine AW.skip (hK2 _ ?_)
  refine AW.seq fun K8 hK8 => ?_
  refine sr rfl fun K9 hK9 => ?_
  refine zq tb rfl ?_
  refine dn hK9 rfl ?_
  obtain ⟨o11, h1, h0⟩ := Sh.cont_some h0
  have M11 : ∀ (_ : Unit), o11 = Sum.inr () → ∀ s, Wk 0 s ⟨27, envL [], []⟩ → K8 s := by
   intro _ hq s hw
   subst o11
   try dsimp only at h0
   refine hK8 _ (AW.weaken hw ?_)
   refine sr rfl fun K12 hK12 => ?_
   refine zq tb rfl ?_
   refine dn hK12 rfl ?_
   replace h0 := Sh.some_eq h0
   subst r
   exact AW.ret (xr (Wk.to (L := [(4, (.bool true))]) ⟨.rfl, trivial⟩))
  refine AW.block (AW.loopF (σ := Int) (fun n v => laws_eqProcS_L1 N p0 p1 n v = some o11) (fun i10 => ⟨27, envL [(0, (.sl (List.map eRProc p0))), (1, (.sl (List.map eRProc p1))), (5, (i64 i10))], []⟩) N 0 h1 (Wk.tr rfl) (fun _ hv => by rw [laws_eqProcS_L1] at hv; cases hv) ?_)
  rintro n i10 h1
  try dsimp only at h1 ⊢
  rw [laws_eqProcS_L1] at h1
  refine AW.seq fun K13 hK13 => ?_
  refine sr rfl fun K14 hK14 => ?_
  iterate 2 refine zq tb rfl ?_
  refine zl tb rfl rfl ?_
  refine zq tb rfl ?_
  refine dn hK14 rfl ?_
  refine ci h1 rfl ?_ ?_ <;> clear h1
  ·intro b15 h1
   refine AW.skip (hK13 _ ?_)
   refine AW.seq fun K16 hK16 => ?_
   refine AW.block ?_
   refine AW.seq fun K17 hK17 => ?_
   refine AW.draw (by kernel_rfl) (by kernel_rfl) (by rfl) ?_
   iterate 2 refine yq tb rfl ?_
   obtain ⟨c18, gc18, h1⟩ := Sh.bind_some h1
   refine yx ei30 gc18 rfl rfl rfl ?_
   iterate 3 refine yq tb rfl ?_
   obtain ⟨c19, gc19, h1⟩ := Sh.bind_some h1
   refine yx ei30 gc19 rfl rfl rfl ?_
   refine yq tb rfl ?_
   obtain ⟨q20, gq20, h1⟩ := Sh.bind_some h1
   refine d_call (v := (.bool q20)) go0 hb59 (laws_eqProc_ok gq20) rfl rfl rfl ?_
   refine yq tb rfl ?_
   refine d_done (hK17 _ ?_)
   refine ci h1 rfl ?_ ?_ <;> clear h1
   ·intro b21 h1
    have b22 : q20 = false := by simpa using b21
    refine sr rfl fun K23 hK23 => ?_
    refine zq tb rfl ?_
    refine dn hK23 rfl ?_
    replace h1 := Sh.some_eq h1
    subst o11
    try dsimp only [id] at h0
    replace h0 := Sh.some_eq h0
    subst r
    exact AW.ret (xr (Wk.to (L := [(4, (.bool false))]) ⟨.rfl, trivial⟩))
   ·intro b21 h1
    have b24 : q20 = true := by simpa using b21
    refine AW.skip (hK16 _ ?_)
    refine AW.regionO (by rfl) ?_
    iterate 3 refine zq tb rfl ?_
    exact AO.done (xi (Sh.w (i10 + 1)) h1 (Wk.tr rfl))
  ·intro b15 h1
   exact AW.exit (M11 () (Sh.some_eq h1).symm _ (Wk.tr rfl))
theorem laws_eqImage_ok {N : Nat} {p0 : RImage} {p1 : RImage} {r : Bool} (h0 : laws_eqImage N p0 p1 = some r) : ACalls Try.prog 11 [(.agg (eRImage p0)), (.agg (eRImage p1))] [] (fun v st => v = (.bool r) ∧ st = []) := by
 unfold laws_eqImage at h0
 refine ACalls.intro Try.func11 rfl (by show 2 ≤ 17; decide) ?_
 show AW _ 0 _ (aret _ 0 Try.f11 _) ⟨17, _, _⟩
 refine AW.weaken (Wk.to (L := [(0, (.agg (eRImage p0))), (1, (.agg (eRImage p1)))]) ⟨.rfl, .rfl, trivial⟩) ?_
 refine sr rfl fun K1 hK1 => ?_
 refine ao_box (m := 0) (st' := [⟨0, 32, 2, [(eRImage p0)]⟩]) go0 rfl rfl rfl rfl rfl ?_
 refine ao_box (m := 1) (st' := [⟨0, 32, 2, [(eRImage p0)]⟩, ⟨0, 32, 2, [(eRImage p1)]⟩]) go0 rfl rfl rfl rfl rfl ?_
 refine zq tb rfl ?_
 refine dn hK1 rfl ?_
 refine AW.seq fun K2 hK2 => ?_
 refine sr rfl fun K3 hK3 => ?_
 iterate 4 refine zq tb rfl ?_
 obtain ⟨q4, gq4, h0⟩ := Sh.bind_some h0
 refine zc hb34 (laws_eqDeclS_ok gq4) rfl rfl rfl ?_
 refine zq tb rfl ?_
 refine dn hK3 rfl ?_
 refine ci h0 rfl ?_ ?_ <;> clear h0
 ·intro b5 h0
  have b6 : q4 = false := by simpa using b5
  refine sr rfl fun K7 hK7 => ?_
  refine zq tb rfl ?_
  refine dn hK7 rfl ?_
  replace h0 := Sh.some_eq h0
  subst r
  exact AW.ret (xr (Wk.d0 [(4, (.bool false))] rfl))
 ·intro b5 h0
  have b8 : q4 = true := by simpa using b5
  refine AW.skip (hK2 _ ?_)
  refine AW.seq fun K9 hK9 => ?_
  refine sr rfl fun K10 hK10 => ?_
  iterate 4 refine zq tb rfl ?_
  obtain ⟨q11, gq11, h0⟩ := Sh.bind_some h0
  refine zc hb35 (laws_eqProcS_ok gq11) rfl rfl rfl ?_
  refine zq tb rfl ?_
  refine dn hK10 rfl ?_
  refine ci h0 rfl ?_ ?_ <;> clear h0
  ·intro b12 h0
   have b13 : q11 = false := by simpa using b12
   refine sr rfl fun K14 hK14 => ?_
   refine zq tb rfl ?_
   refine dn hK14 rfl ?_
   replace h0 := Sh.some_eq h0
   subst r
   exact AW.ret (xr (Wk.d0 [(4, (.bool false))] rfl))
  ·intro b12 h0
   have b15 : q11 = true := by simpa using b12
   refine AW.skip (hK9 _ ?_)
   refine sr rfl fun K16 hK16 => ?_
   refine zq tb rfl ?_
   refine dn hK16 rfl ?_
   replace h0 := Sh.some_eq h0
   subst r
   exact AW.ret (xr (Wk.d0 [(4, (.bool true))] rfl))
theorem laws_markIntS_ok {N : Nat} {s0 : (List Int)} {p1 : Int} {r : Int × (List Int)} (h0 : laws_markIntS N s0 p1 = some r) : ACalls Try.prog 13 [(.own 0 0 (List.length s0)), (i64 p1)] [⟨0, 3, 1, List.map eI s0⟩] (fun v st => v = (i64 r.1) ∧ st = [⟨0, 3, 1, List.map eI r.2⟩]) := by
 unfold laws_markIntS at h0
 refine ACalls.intro Try.func13 rfl (by show 2 ≤ 19; decide) ?_
 show AW _ 1 _ (aret _ 1 Try.f13 _) ⟨19, _, _⟩
 refine AW.weaken (Wk.to (L := [(0, (.own 0 0 (List.length s0))), (1, (i64 p1))]) ⟨.rfl, .rfl, trivial⟩) ?_
 refine sr rfl fun K1 hK1 => ?_
 refine zq tb rfl ?_
 refine dn hK1 rfl ?_
 refine AW.seq fun K2 hK2 => ?_
 refine sr rfl fun K3 hK3 => ?_
 refine zq tb rfl ?_
 refine dn hK3 rfl ?_
 obtain ⟨o9, h1, h0⟩ := Sh.bind_some h0
 have M9 : ∀ (k7 : Int) (l8 : (List Int)), o9 = (k7, l8) → ∀ s, Wk 1 s ⟨19, envL [(1, (i64 k7))], [⟨0, 3, 1, List.map eI l8⟩]⟩ → K2 s := by
  intro k7 l8 hq s hw
  subst o9
  try dsimp only at h0
  refine hK2 _ (AW.weaken hw ?_)
  refine sr rfl fun K10 hK10 => ?_
  iterate 2 refine zq tb rfl ?_
  refine dn hK10 rfl ?_
  replace h0 := Sh.some_eq h0
  subst r
  exact AW.ret (xr (Wk.to (L := [(4, (i64 k7))]) ⟨.rfl, trivial⟩))
 refine AW.block (AW.loopF (σ := Int × Int × (List Int)) (fun n v => laws_markIntS_L1  n v.1 v.2.1 v.2.2 = some o9) (fun (k4, i5, l6) => ⟨19, envL [(0, (.own 0 0 (List.length l6))), (1, (i64 k4)), (5, (i64 i5))], [⟨0, 3, 1, List.map eI l6⟩]⟩) N (p1, 0, s0) h1 (Wk.tr rfl) (fun _ hv => by rw [laws_markIntS_L1] at hv; cases hv) ?_)
 rintro n ⟨k4, i5, l6⟩ h1
 try dsimp only at h1 ⊢
 rw [laws_markIntS_L1] at h1
 refine AW.seq fun K11 hK11 => ?_
 refine sr rfl fun K12 hK12 => ?_
 iterate 2 refine zq tb rfl ?_
 refine zz (i64 (Sh.len l6)) (aq_leno sl27 rfl rfl rfl) rfl ?_
 refine zq tb rfl ?_
 refine dn hK12 rfl ?_
 refine ci h1 rfl ?_ ?_ <;> clear h1
 ·intro b13 h1
  refine AW.skip (hK11 _ ?_)
  refine AW.seq fun K14 hK14 => ?_
  refine AW.block ?_
  refine sr rfl fun K15 hK15 => ?_
  iterate 3 refine zq tb rfl ?_
  obtain ⟨c16, gc16, h1⟩ := Sh.bind_some h1
  refine zz (.ptr 0 0 (Int.toNat i5) 0) (aq_ixo ei27 rfl rfl rfl rfl gc16) rfl ?_
  refine ao_stl (st' := [⟨0, 3, 1, List.map eI (Sh.put l6 i5 k4)⟩]) (u' := k4) go0 ti3 rfl rfl gc16 rfl rfl rfl (show 0 + 1 ≤ 1 by decide) rfl rfl ?_
  refine dn hK15 rfl ?_
  refine AW.regionO (by rfl) ?_
  iterate 3 refine zq tb rfl ?_
  refine dn hK14 rfl ?_
  refine AW.regionO (by rfl) ?_
  iterate 3 refine zq tb rfl ?_
  exact AO.done (xi (Sh.w (k4 + 1), Sh.w (i5 + 1), Sh.put l6 i5 k4) h1 (Wk.to (L := [(0, (.own 0 0 (List.length (Sh.put l6 i5 k4)))), (1, (i64 (Sh.w (k4 + 1)))), (5, (i64 (Sh.w (i5 + 1))))]) ⟨(.len (by simp only [Sh.put_len])), .rfl, .rfl, trivial⟩))
 ·intro b13 h1
  exact AW.exit (M9 k4 l6 (Sh.some_eq h1).symm _ (Wk.tr rfl))
theorem laws_markConS_ok {N : Nat} {s0 : (List RCon)} {p1 : Int} {r : Int × (List RCon)} (h0 : laws_markConS N s0 p1 = some r) : ACalls Try.prog 60 [(.own 0 0 (List.length s0)), (i64 p1)] [⟨0, 141, 1, List.map (eRConD 3) s0⟩] (fun v st => v = (i64 r.1) ∧ st = [⟨0, 141, 1, List.map (eRConD 3) r.2⟩]) := by
 unfold laws_markConS at h0
 refine ACalls.intro Try.func60 rfl (by show 2 ≤ 20; decide) ?_
 show AW _ 1 _ (aret _ 1 Try.f60 _) ⟨20, _, _⟩
 refine AW.weaken (Wk.to (L := [(0, (.own 0 0 (List.length s0))), (1, (i64 p1))]) ⟨.rfl, .rfl, trivial⟩) ?_
 refine sr rfl fun K1 hK1 => ?_
 refine zq tb rfl ?_
 refine dn hK1 rfl ?_
 refine AW.seq fun K2 hK2 => ?_
 refine sr rfl fun K3 hK3 => ?_
 refine zq tb rfl ?_
 refine dn hK3 rfl ?_
 obtain ⟨o9, h1, h0⟩ := Sh.bind_some h0
 have M9 : ∀ (k7 : Int) (l8 : (List RCon)), o9 = (k7, l8) → ∀ s, Wk 1 s ⟨20, envL [(1, (i64 k7))], [⟨0, 141, 1, List.map (eRConD 3) l8⟩]⟩ → K2 s := by
  intro k7 l8 hq s hw
  subst o9
  try dsimp only at h0
  refine hK2 _ (AW.weaken hw ?_)
  refine sr rfl fun K10 hK10 => ?_
  iterate 2 refine zq tb rfl ?_
  refine dn hK10 rfl ?_
  replace h0 := Sh.some_eq h0
  subst r
  exact AW.ret (xr (Wk.to (L := [(4, (i64 k7))]) ⟨.rfl, trivial⟩))
 refine AW.block (AW.loopF (σ := Int × Int × (List RCon)) (fun n v => laws_markConS_L1 N n v.1 v.2.1 v.2.2 = some o9) (fun (k4, i5, l6) => ⟨20, envL [(0, (.own 0 0 (List.length l6))), (1, (i64 k4)), (5, (i64 i5))], [⟨0, 141, 1, List.map (eRConD 3) l6⟩]⟩) N (p1, 0, s0) h1 (Wk.tr rfl) (fun _ hv => by rw [laws_markConS_L1] at hv; cases hv) ?_)
 rintro n ⟨k4, i5, l6⟩ h1
 try dsimp only at h1 ⊢
 rw [laws_markConS_L1] at h1
 refine AW.seq fun K11 hK11 => ?_
 refine sr rfl fun K12 hK12 => ?_
 iterate 2 refine zq tb rfl ?_
 refine zz (i64 (Sh.len l6)) (aq_leno sl92 rfl rfl rfl) rfl ?_
 refine zq tb rfl ?_
 refine dn hK12 rfl ?_
 refine ci h1 rfl ?_ ?_ <;> clear h1
 ·intro b13 h1
  refine AW.skip (hK11 _ ?_)
  refine AW.seq fun K14 hK14 => ?_
  refine AW.block ?_
  refine AW.regionO (by rfl) ?_
  iterate 2 refine zq tb rfl ?_
  obtain ⟨c15, gc15, h1⟩ := Sh.bind_some h1
  refine zz (.ptr 0 0 (Int.toNat i5) 0) (aq_ixo ei92 rfl rfl rfl rfl gc15) rfl ?_
  refine zq tb rfl ?_
  refine AO.weaken (Wk.expel (id := 0) (j := 0) (i := i5) (c := c15) (ys := c15.fields) (encY := eI) (x := [(.dv 3 1 (List.map eI c15.fields))]) (x' := [(.own 1 0 (List.length c15.fields))]) (st' := [⟨0, 141, 1, hole l6 (eRConD 3) i5 [(.own 1 0 (List.length c15.fields))]⟩, ⟨0, 3, 1, List.map eI c15.fields⟩]) rfl gc15 rfl rfl rfl rfl rfl) ?_
  refine zz (.own 1 0 (List.length c15.fields)) (aq_ldp ti27 rfl rfl (hole_get gc15) rfl) rfl ?_
  refine zq tb rfl ?_
  obtain ⟨q16, gq16, h1⟩ := Sh.bind_some h1
  refine ao_callsL (rowsP := [⟨0, 3, 1, List.map eI c15.fields⟩]) (rows0 := [⟨0, 3, 1, List.map eI c15.fields⟩]) (rows1 := [⟨0, 3, 1, List.map eI q16.2⟩]) (rows2 := []) (rows1' := [⟨0, 3, 1, List.map eI q16.2⟩]) (rows2' := []) (st' := [⟨0, 141, 1, hole l6 (eRConD 3) i5 [(.own 1 0 (List.length c15.fields))]⟩, ⟨0, 3, 1, List.map eI q16.2⟩]) (v' := (i64 q16.1)) [1] go0 hb13 (laws_markIntS_ok gq16) rfl (by decide) rfl rfl (.pure (pure_map fun _ => rfl) .nil) rfl rfl (.pure (pure_map fun _ => rfl) .nil) .nil rfl rfl (fun hln => ?_)
  have ln17 : List.length q16.2 = List.length c15.fields := by simpa only [List.length_map] using hln 0 _ _ rfl rfl rfl
  refine AO.weaken (Wk.take (id := 0) (m := 1) (j := 0) (i := i5) (c := c15) (ys := q16.2) (encY := eI) (x' := [(.dv 3 1 (List.map eI q16.2))]) (st' := [⟨0, 141, 1, hole l6 (eRConD 3) i5 [(.dv 3 1 (List.map eI q16.2))]⟩, ⟨1, 3, 1, []⟩]) rfl gc15 rfl rfl (by first | (simp only [Sh.put_len]; done) | (simp only [Sh.put_len]; omega) | omega) (by decide) (show 1 ≤ 1 by decide) (fun _ => rfl) rfl rfl) ?_
  refine AO.weaken (Wk.filled (id := 0) (i := i5) (u := (RCon.mk q16.2)) (st' := [⟨0, 141, 1, List.map (eRConD 3) (Sh.put l6 i5 (RCon.mk q16.2))⟩, ⟨1, 3, 1, []⟩]) rfl rfl rfl) ?_
  refine zq tb rfl ?_
  refine dn hK14 rfl ?_
  refine AW.regionO (by rfl) ?_
  iterate 3 refine zq tb rfl ?_
  exact AO.done (xi (q16.1, Sh.w (i5 + 1), Sh.put l6 i5 (RCon.mk q16.2)) h1 (by refine Wk.trans (Wk.permk (L := [(0, (.own 0 0 (List.length l6))), (1, (i64 q16.1)), (5, (i64 (Sh.w (i5 + 1))))]) (st' := [⟨0, 141, 1, List.map (eRConD 3) (Sh.put l6 i5 (RCon.mk q16.2))⟩]) (st1 := [⟨0, 141, 1, List.map (eRConD 3) (Sh.put l6 i5 (RCon.mk q16.2))⟩]) [0] rfl (.deep (pure_mapD fun _ => rfl) .nil) (by decide) rfl rfl (.deep (pure_mapD fun _ => rfl) .nil) ⟨.rfl, .rfl, .rfl, trivial⟩) ?_; exact Wk.to (L := [(0, (.own 0 0 (List.length (Sh.put l6 i5 (RCon.mk q16.2))))), (1, (i64 q16.1)), (5, (i64 (Sh.w (i5 + 1))))]) ⟨(.len (by first | (simp only [Sh.put_len]; done) | (simp only [Sh.put_len]; omega) | omega)), .rfl, .rfl, trivial⟩))
 ·intro b13 h1
  exact AW.exit (M9 k4 l6 (Sh.some_eq h1).symm _ (Wk.tr rfl))
theorem laws_markDeclS_ok {N : Nat} {s0 : (List RDecl)} {p1 : Int} {r : Int × (List RDecl)} (h0 : laws_markDeclS N s0 p1 = some r) : ACalls Try.prog 36 [(.own 0 0 (List.length s0)), (i64 p1)] [⟨0, 94, 3, List.map (eRDeclD 141 3) s0⟩] (fun v st => v = (i64 r.1) ∧ st = [⟨0, 94, 3, List.map (eRDeclD 141 3) r.2⟩]) := by
 unfold laws_markDeclS at h0
 refine ACalls.intro Try.func36 rfl (by show 2 ≤ 34; decide) ?_
 show AW _ 1 _ (aret _ 1 Try.f36 _) ⟨34, _, _⟩
 refine AW.weaken (Wk.to (L := [(0, (.own 0 0 (List.length s0))), (1, (i64 p1))]) ⟨.rfl, .rfl, trivial⟩) ?_
 refine sr rfl fun K1 hK1 => ?_
 refine zq tb rfl ?_
 refine dn hK1 rfl ?_
 refine AW.seq fun K2 hK2 => ?_
 refine sr rfl fun K3 hK3 => ?_
 refine zq tb rfl ?_
 refine dn hK3 rfl ?_
 obtain ⟨o9, h1, h0⟩ := Sh.bind_some h0
 have M9 : ∀ (k7 : Int) (l8 : (List RDecl)), o9 = (k7, l8) → ∀ s, Wk 1 s ⟨34, envL [(1, (i64 k7))], [⟨0, 94, 3, List.map (eRDeclD 141 3) l8⟩]⟩ → K2 s := by
  intro k7 l8 hq s hw
  subst o9
  try dsimp only at h0
  refine hK2 _ (AW.weaken hw ?_)
  refine sr rfl fun K10 hK10 => ?_
  iterate 2 refine zq tb rfl ?_
  refine dn hK10 rfl ?_
  replace h0 := Sh.some_eq h0
  subst r
  exact AW.ret (xr (Wk.to (L := [(4, (i64 k7))]) ⟨.rfl, trivial⟩))
 refine AW.block (AW.loopF (σ := Int × Int × (List RDecl)) (fun n v => laws_markDeclS_L1 N n v.1 v.2.1 v.2.2 = some o9) (fun (k4, i5, l6) => ⟨34, envL [(0, (.own 0 0 (List.length l6))), (1, (i64 k4)), (5, (i64 i5))], [⟨0, 94, 3, List.map (eRDeclD 141 3) l6⟩]⟩) N (p1, 0, s0) h1 (Wk.tr rfl) (fun _ hv => by rw [laws_markDeclS_L1] at hv; cases hv) ?_)
 rintro n ⟨k4, i5, l6⟩ h1
 try dsimp only at h1 ⊢
 rw [laws_markDeclS_L1] at h1
 refine AW.seq fun K11 hK11 => ?_
 refine sr rfl fun K12 hK12 => ?_
 iterate 2 refine zq tb rfl ?_
 refine zz (i64 (Sh.len l6)) (aq_leno sl29 rfl rfl rfl) rfl ?_
 refine zq tb rfl ?_
 refine dn hK12 rfl ?_
 refine ci h1 rfl ?_ ?_ <;> clear h1
 ·intro b13 h1
  refine AW.skip (hK11 _ ?_)
  refine AW.seq fun K14 hK14 => ?_
  refine AW.block ?_
  refine sr rfl fun K15 hK15 => ?_
  iterate 3 refine zq tb rfl ?_
  obtain ⟨c16, gc16, h1⟩ := Sh.bind_some h1
  refine zz (.ptr 0 0 (Int.toNat i5) 0) (aq_ixo ei29 rfl rfl rfl rfl gc16) rfl ?_
  refine zq tb rfl ?_
  refine ao_stl (st' := [⟨0, 94, 3, List.map (eRDeclD 141 3) (Sh.put l6 i5 (RDecl.mk k4 c16.to c16.cons))⟩]) (u' := (RDecl.mk k4 c16.to c16.cons)) go0 ti3 rfl rfl gc16 rfl rfl rfl (show 0 + 1 ≤ 3 by decide) rfl rfl ?_
  refine dn hK15 rfl ?_
  refine sr rfl fun K17 hK17 => ?_
  iterate 3 refine zq tb rfl ?_
  refine dn hK17 rfl ?_
  refine sr rfl fun K18 hK18 => ?_
  iterate 3 refine zq tb rfl ?_
  obtain ⟨c19, gc19, h1⟩ := Sh.bind_some h1
  refine zz (.ptr 0 0 (Int.toNat i5) 0) (aq_ixo ei29 rfl rfl rfl (by simp only [Sh.put_len]) gc19) rfl ?_
  refine zq tb rfl ?_
  refine ao_stl (st' := [⟨0, 94, 3, List.map (eRDeclD 141 3) (Sh.put (Sh.put l6 i5 (RDecl.mk k4 c16.to c16.cons)) i5 (RDecl.mk c19.from_ (Sh.w (k4 + 1)) c19.cons))⟩]) (u' := (RDecl.mk c19.from_ (Sh.w (k4 + 1)) c19.cons)) go0 ti3 rfl rfl gc19 rfl rfl rfl (show 1 + 1 ≤ 3 by decide) rfl rfl ?_
  refine dn hK18 rfl ?_
  refine sr rfl fun K20 hK20 => ?_
  iterate 3 refine zq tb rfl ?_
  refine dn hK20 rfl ?_
  refine AW.regionO (by rfl) ?_
  iterate 2 refine zq tb rfl ?_
  obtain ⟨c21, gc21, h1⟩ := Sh.bind_some h1
  refine zz (.ptr 0 0 (Int.toNat i5) 0) (aq_ixo ei29 rfl rfl rfl (by simp only [Sh.put_len]) gc21) rfl ?_
  refine zq tb rfl ?_
  refine AO.weaken (Wk.expel (id := 0) (j := 2) (i := i5) (c := c21) (ys := c21.cons) (encY := (eRConD 3)) (x := [(i64 c21.from_), (i64 c21.to), (.dv 141 1 (List.map (eRConD 3) c21.cons))]) (x' := [(i64 c21.from_), (i64 c21.to), (.own 1 0 (List.length c21.cons))]) (st' := [⟨0, 94, 3, hole (Sh.put (Sh.put l6 i5 (RDecl.mk k4 c16.to c16.cons)) i5 (RDecl.mk c19.from_ (Sh.w (k4 + 1)) c19.cons)) (eRDeclD 141 3) i5 [(i64 c21.from_), (i64 c21.to), (.own 1 0 (List.length c21.cons))]⟩, ⟨0, 141, 1, List.map (eRConD 3) c21.cons⟩]) rfl gc21 rfl rfl rfl rfl rfl) ?_
  refine zz (.own 1 0 (List.length c21.cons)) (aq_ldp ti92 rfl rfl (hole_get gc21) rfl) rfl ?_
  refine zq tb rfl ?_
  obtain ⟨q22, gq22, h1⟩ := Sh.bind_some h1
  refine ao_callsL (rowsP := [⟨0, 141, 1, List.map (eRConD 3) c21.cons⟩]) (rows0 := [⟨0, 141, 1, List.map (eRConD 3) c21.cons⟩]) (rows1 := [⟨0, 141, 1, List.map (eRConD 3) q22.2⟩]) (rows2 := []) (rows1' := [⟨0, 141, 1, List.map (eRConD 3) q22.2⟩]) (rows2' := []) (st' := [⟨0, 94, 3, hole (Sh.put (Sh.put l6 i5 (RDecl.mk k4 c16.to c16.cons)) i5 (RDecl.mk c19.from_ (Sh.w (k4 + 1)) c19.cons)) (eRDeclD 141 3) i5 [(i64 c21.from_), (i64 c21.to), (.own 1 0 (List.length c21.cons))]⟩, ⟨0, 141, 1, List.map (eRConD 3) q22.2⟩]) (v' := (i64 q22.1)) [1] go0 hb60 (laws_markConS_ok gq22) rfl (by decide) rfl rfl (.deep (pure_mapD fun _ => rfl) .nil) rfl rfl (.deep (pure_mapD fun _ => rfl) .nil) .nil rfl rfl (fun hln => ?_)
  have ln23 : List.length q22.2 = List.length c21.cons := by simpa only [List.length_map] using hln 0 _ _ rfl rfl rfl
  refine AO.weaken (Wk.take (id := 0) (m := 1) (j := 2) (i := i5) (c := c21) (ys := q22.2) (encY := (eRConD 3)) (x' := [(i64 c21.from_), (i64 c21.to), (.dv 141 1 (List.map (eRConD 3) q22.2))]) (st' := [⟨0, 94, 3, hole (Sh.put (Sh.put l6 i5 (RDecl.mk k4 c16.to c16.cons)) i5 (RDecl.mk c19.from_ (Sh.w (k4 + 1)) c19.cons)) (eRDeclD 141 3) i5 [(i64 c21.from_), (i64 c21.to), (.dv 141 1 (List.map (eRConD 3) q22.2))]⟩, ⟨1, 141, 1, []⟩]) rfl gc21 rfl rfl (by first | (simp only [Sh.put_len]; done) | (simp only [Sh.put_len]; omega) | omega) (by decide) (show 1 ≤ 1 by decide) (fun _ => rfl) rfl rfl) ?_
  refine AO.weaken (Wk.filled (id := 0) (i := i5) (u := (RDecl.mk c21.from_ c21.to q22.2)) (st' := [⟨0, 94, 3, List.map (eRDeclD 141 3) (Sh.put (Sh.put (Sh.put l6 i5 (RDecl.mk k4 c16.to c16.cons)) i5 (RDecl.mk c19.from_ (Sh.w (k4 + 1)) c19.cons)) i5 (RDecl.mk c21.from_ c21.to q22.2))⟩, ⟨1, 141, 1, []⟩]) rfl rfl rfl) ?_
  refine zq tb rfl ?_
  refine dn hK14 rfl ?_
  refine AW.regionO (by rfl) ?_
  iterate 3 refine zq tb rfl ?_
  exact AO.done (xi (q22.1, Sh.w (i5 + 1), Sh.put (Sh.put (Sh.put l6 i5 (RDecl.mk k4 c16.to c16.cons)) i5 (RDecl.mk c19.from_ (Sh.w (k4 + 1)) c19.cons)) i5 (RDecl.mk c21.from_ c21.to q22.2)) h1 (by refine Wk.trans (Wk.permk (L := [(0, (.own 0 0 (List.length l6))), (1, (i64 q22.1)), (5, (i64 (Sh.w (i5 + 1))))]) (st' := [⟨0, 94, 3, List.map (eRDeclD 141 3) (Sh.put (Sh.put (Sh.put l6 i5 (RDecl.mk k4 c16.to c16.cons)) i5 (RDecl.mk c19.from_ (Sh.w (k4 + 1)) c19.cons)) i5 (RDecl.mk c21.from_ c21.to q22.2))⟩]) (st1 := [⟨0, 94, 3, List.map (eRDeclD 141 3) (Sh.put (Sh.put (Sh.put l6 i5 (RDecl.mk k4 c16.to c16.cons)) i5 (RDecl.mk c19.from_ (Sh.w (k4 + 1)) c19.cons)) i5 (RDecl.mk c21.from_ c21.to q22.2))⟩]) [0] rfl (.deep (pure_mapD fun _ => rfl) .nil) (by decide) rfl rfl (.deep (pure_mapD fun _ => rfl) .nil) ⟨.rfl, .rfl, .rfl, trivial⟩) ?_; exact Wk.to (L := [(0, (.own 0 0 (List.length (Sh.put (Sh.put (Sh.put l6 i5 (RDecl.mk k4 c16.to c16.cons)) i5 (RDecl.mk c19.from_ (Sh.w (k4 + 1)) c19.cons)) i5 (RDecl.mk c21.from_ c21.to q22.2))))), (1, (i64 q22.1)), (5, (i64 (Sh.w (i5 + 1))))]) ⟨(.len (by first | (simp only [Sh.put_len]; done) | (simp only [Sh.put_len]; omega) | omega)), .rfl, .rfl, trivial⟩))
 ·intro b13 h1
  exact AW.exit (M9 k4 l6 (Sh.some_eq h1).symm _ (Wk.tr rfl))
theorem laws_markInstrS_ok {N : Nat} {s0 : (List RInstr)} {p1 : Int} {r : Int × (List RInstr)} (h0 : laws_markInstrS N s0 p1 = some r) : ACalls Try.prog 61 [(.own 0 0 (List.length s0)), (i64 p1)] [⟨0, 63, 6, List.map (eRInstrD 3 3) s0⟩] (fun v st => v = (i64 r.1) ∧ st = [⟨0, 63, 6, List.map (eRInstrD 3 3) r.2⟩]) := by
 unfold laws_markInstrS at h0
 refine ACalls.intro Try.func61 rfl (by show 2 ≤ 55; decide) ?_
 show AW _ 1 _ (aret _ 1 Try.f61 _) ⟨55, _, _⟩
 refine AW.weaken (Wk.to (L := [(0, (.own 0 0 (List.length s0))), (1, (i64 p1))]) ⟨.rfl, .rfl, trivial⟩) ?_
 refine sr rfl fun K1 hK1 => ?_
 refine zq tb rfl ?_
 refine dn hK1 rfl ?_
 refine AW.seq fun K2 hK2 => ?_
 refine sr rfl fun K3 hK3 => ?_
 refine zq tb rfl ?_
 refine dn hK3 rfl ?_
 obtain ⟨o9, h1, h0⟩ := Sh.bind_some h0
 have M9 : ∀ (k7 : Int) (l8 : (List RInstr)), o9 = (k7, l8) → ∀ s, Wk 1 s ⟨55, envL [(1, (i64 k7))], [⟨0, 63, 6, List.map (eRInstrD 3 3) l8⟩]⟩ → K2 s := by
  intro k7 l8 hq s hw
  subst o9
  try dsimp only at h0
  refine hK2 _ (AW.weaken hw ?_)
  refine sr rfl fun K10 hK10 => ?_
  iterate 2 refine zq tb rfl ?_
  refine dn hK10 rfl ?_
  replace h0 := Sh.some_eq h0
  subst r
  exact AW.ret (xr (Wk.to (L := [(4, (i64 k7))]) ⟨.rfl, trivial⟩))
 refine AW.block (AW.loopF (σ := Int × Int × (List RInstr)) (fun n v => laws_markInstrS_L1 N n v.1 v.2.1 v.2.2 = some o9) (fun (k4, i5, l6) => ⟨55, envL [(0, (.own 0 0 (List.length l6))), (1, (i64 k4)), (5, (i64 i5))], [⟨0, 63, 6, List.map (eRInstrD 3 3) l6⟩]⟩) N (p1, 0, s0) h1 (Wk.tr rfl) (fun _ hv => by rw [laws_markInstrS_L1] at hv; cases hv) ?_)
 rintro n ⟨k4, i5, l6⟩ h1
 try dsimp only at h1 ⊢
 rw [laws_markInstrS_L1] at h1
 refine AW.seq fun K11 hK11 => ?_
 refine sr rfl fun K12 hK12 => ?_
 iterate 2 refine zq tb rfl ?_
 refine zz (i64 (Sh.len l6)) (aq_leno sl53 rfl rfl rfl) rfl ?_
 refine zq tb rfl ?_
 refine dn hK12 rfl ?_
 refine ci h1 rfl ?_ ?_ <;> clear h1
 ·intro b13 h1
  refine AW.skip (hK11 _ ?_)
  refine AW.seq fun K14 hK14 => ?_
  refine AW.block ?_
  refine sr rfl fun K15 hK15 => ?_
  iterate 3 refine zq tb rfl ?_
  obtain ⟨c16, gc16, h1⟩ := Sh.bind_some h1
  refine zz (.ptr 0 0 (Int.toNat i5) 0) (aq_ixo ei53 rfl rfl rfl rfl gc16) rfl ?_
  refine zq tb rfl ?_
  refine ao_stl (st' := [⟨0, 63, 6, List.map (eRInstrD 3 3) (Sh.put l6 i5 (RInstr.mk k4 c16.dst c16.num c16.into c16.args c16.jumps))⟩]) (u' := (RInstr.mk k4 c16.dst c16.num c16.into c16.args c16.jumps)) go0 ti3 rfl rfl gc16 rfl rfl rfl (show 0 + 1 ≤ 6 by decide) rfl rfl ?_
  refine dn hK15 rfl ?_
  refine sr rfl fun K17 hK17 => ?_
  iterate 3 refine zq tb rfl ?_
  refine dn hK17 rfl ?_
  refine sr rfl fun K18 hK18 => ?_
  iterate 3 refine zq tb rfl ?_
  obtain ⟨c19, gc19, h1⟩ := Sh.bind_some h1
  refine zz (.ptr 0 0 (Int.toNat i5) 0) (aq_ixo ei53 rfl rfl rfl (by simp only [Sh.put_len]) gc19) rfl ?_
  refine zq tb rfl ?_
  refine ao_stl (st' := [⟨0, 63, 6, List.map (eRInstrD 3 3) (Sh.put (Sh.put l6 i5 (RInstr.mk k4 c16.dst c16.num c16.into c16.args c16.jumps)) i5 (RInstr.mk c19.op (Sh.w (k4 + 1)) c19.num c19.into c19.args c19.jumps))⟩]) (u' := (RInstr.mk c19.op (Sh.w (k4 + 1)) c19.num c19.into c19.args c19.jumps)) go0 ti3 rfl rfl gc19 rfl rfl rfl (show 1 + 1 ≤ 6 by decide) rfl rfl ?_
  refine dn hK18 rfl ?_
  refine sr rfl fun K20 hK20 => ?_
  iterate 3 refine zq tb rfl ?_
  refine dn hK20 rfl ?_
  refine sr rfl fun K21 hK21 => ?_
  iterate 3 refine zq tb rfl ?_
  obtain ⟨c22, gc22, h1⟩ := Sh.bind_some h1
  refine zz (.ptr 0 0 (Int.toNat i5) 0) (aq_ixo ei53 rfl rfl rfl (by simp only [Sh.put_len]) gc22) rfl ?_
  refine zq tb rfl ?_
  refine ao_stl (st' := [⟨0, 63, 6, List.map (eRInstrD 3 3) (Sh.put (Sh.put (Sh.put l6 i5 (RInstr.mk k4 c16.dst c16.num c16.into c16.args c16.jumps)) i5 (RInstr.mk c19.op (Sh.w (k4 + 1)) c19.num c19.into c19.args c19.jumps)) i5 (RInstr.mk c22.op c22.dst (Sh.w ((Sh.w (k4 + 1)) + 1)) c22.into c22.args c22.jumps))⟩]) (u' := (RInstr.mk c22.op c22.dst (Sh.w ((Sh.w (k4 + 1)) + 1)) c22.into c22.args c22.jumps)) go0 ti3 rfl rfl gc22 rfl rfl rfl (show 2 + 1 ≤ 6 by decide) rfl rfl ?_
  refine dn hK21 rfl ?_
  refine sr rfl fun K23 hK23 => ?_
  iterate 3 refine zq tb rfl ?_
  refine dn hK23 rfl ?_
  refine sr rfl fun K24 hK24 => ?_
  iterate 3 refine zq tb rfl ?_
  obtain ⟨c25, gc25, h1⟩ := Sh.bind_some h1
  refine zz (.ptr 0 0 (Int.toNat i5) 0) (aq_ixo ei53 rfl rfl rfl (by simp only [Sh.put_len]) gc25) rfl ?_
  refine zq tb rfl ?_
  refine ao_stl (st' := [⟨0, 63, 6, List.map (eRInstrD 3 3) (Sh.put (Sh.put (Sh.put (Sh.put l6 i5 (RInstr.mk k4 c16.dst c16.num c16.into c16.args c16.jumps)) i5 (RInstr.mk c19.op (Sh.w (k4 + 1)) c19.num c19.into c19.args c19.jumps)) i5 (RInstr.mk c22.op c22.dst (Sh.w ((Sh.w (k4 + 1)) + 1)) c22.into c22.args c22.jumps)) i5 (RInstr.mk c25.op c25.dst c25.num (Sh.w ((Sh.w ((Sh.w (k4 + 1)) + 1)) + 1)) c25.args c25.jumps))⟩]) (u' := (RInstr.mk c25.op c25.dst c25.num (Sh.w ((Sh.w ((Sh.w (k4 + 1)) + 1)) + 1)) c25.args c25.jumps)) go0 ti3 rfl rfl gc25 rfl rfl rfl (show 3 + 1 ≤ 6 by decide) rfl rfl ?_
  refine dn hK24 rfl ?_
  refine sr rfl fun K26 hK26 => ?_
  iterate 3 refine zq tb rfl ?_
  refine dn hK26 rfl ?_
  refine sr rfl fun K27 hK27 => ?_
  iterate 2 refine zq tb rfl ?_
  obtain ⟨c28, gc28, h1⟩ := Sh.bind_some h1
  refine zz (.ptr 0 0 (Int.toNat i5) 0) (aq_ixo ei53 rfl rfl rfl (by simp only [Sh.put_len]) gc28) rfl ?_
  refine zq tb rfl ?_
  refine AO.weaken (Wk.expel (id := 0) (j := 4) (i := i5) (c := c28) (ys := c28.args) (encY := eI) (x := [(i64 c28.op), (i64 c28.dst), (i64 c28.num), (i64 c28.into), (.dv 3 1 (List.map eI c28.args)), (.dv 3 1 (List.map eI c28.jumps))]) (x' := [(i64 c28.op), (i64 c28.dst), (i64 c28.num), (i64 c28.into), (.own 1 0 (List.length c28.args)), (.dv 3 1 (List.map eI c28.jumps))]) (st' := [⟨0, 63, 6, hole (Sh.put (Sh.put (Sh.put (Sh.put l6 i5 (RInstr.mk k4 c16.dst c16.num c16.into c16.args c16.jumps)) i5 (RInstr.mk c19.op (Sh.w (k4 + 1)) c19.num c19.into c19.args c19.jumps)) i5 (RInstr.mk c22.op c22.dst (Sh.w ((Sh.w (k4 + 1)) + 1)) c22.into c22.args c22.jumps)) i5 (RInstr.mk c25.op c25.dst c25.num (Sh.w ((Sh.w ((Sh.w (k4 + 1)) + 1)) + 1)) c25.args c25.jumps)) (eRInstrD 3 3) i5 [(i64 c28.op), (i64 c28.dst), (i64 c28.num), (i64 c28.into), (.own 1 0 (List.length c28.args)), (.dv 3 1 (List.map eI c28.jumps))]⟩, ⟨0, 3, 1, List.map eI c28.args⟩]) rfl gc28 rfl rfl rfl rfl rfl) ?_
  refine zz (.own 1 0 (List.length c28.args)) (aq_ldp ti27 rfl rfl (hole_get gc28) rfl) rfl ?_
  refine zq tb rfl ?_
  obtain ⟨q29, gq29, h1⟩ := Sh.bind_some h1
  refine ao_callsL (rowsP := [⟨0, 3, 1, List.map eI c28.args⟩]) (rows0 := [⟨0, 3, 1, List.map eI c28.args⟩]) (rows1 := [⟨0, 3, 1, List.map eI q29.2⟩]) (rows2 := []) (rows1' := [⟨0, 3, 1, List.map eI q29.2⟩]) (rows2' := []) (st' := [⟨0, 63, 6, hole (Sh.put (Sh.put (Sh.put (Sh.put l6 i5 (RInstr.mk k4 c16.dst c16.num c16.into c16.args c16.jumps)) i5 (RInstr.mk c19.op (Sh.w (k4 + 1)) c19.num c19.into c19.args c19.jumps)) i5 (RInstr.mk c22.op c22.dst (Sh.w ((Sh.w (k4 + 1)) + 1)) c22.into c22.args c22.jumps)) i5 (RInstr.mk c25.op c25.dst c25.num (Sh.w ((Sh.w ((Sh.w (k4 + 1)) + 1)) + 1)) c25.args c25.jumps)) (eRInstrD 3 3) i5 [(i64 c28.op), (i64 c28.dst), (i64 c28.num), (i64 c28.into), (.own 1 0 (List.length c28.args)), (.dv 3 1 (List.map eI c28.jumps))]⟩, ⟨0, 3, 1, List.map eI q29.2⟩]) (v' := (i64 q29.1)) [1] go0 hb13 (laws_markIntS_ok gq29) rfl (by decide) rfl rfl (.pure (pure_map fun _ => rfl) .nil) rfl rfl (.pure (pure_map fun _ => rfl) .nil) .nil rfl rfl (fun hln => ?_)
  have ln30 : List.length q29.2 = List.length c28.args := by simpa only [List.length_map] using hln 0 _ _ rfl rfl rfl
  refine AO.weaken (Wk.take (id := 0) (m := 1) (j := 4) (i := i5) (c := c28) (ys := q29.2) (encY := eI) (x' := [(i64 c28.op), (i64 c28.dst), (i64 c28.num), (i64 c28.into), (.dv 3 1 (List.map eI q29.2)), (.dv 3 1 (List.map eI c28.jumps))]) (st' := [⟨0, 63, 6, hole (Sh.put (Sh.put (Sh.put (Sh.put l6 i5 (RInstr.mk k4 c16.dst c16.num c16.into c16.args c16.jumps)) i5 (RInstr.mk c19.op (Sh.w (k4 + 1)) c19.num c19.into c19.args c19.jumps)) i5 (RInstr.mk c22.op c22.dst (Sh.w ((Sh.w (k4 + 1)) + 1)) c22.into c22.args c22.jumps)) i5 (RInstr.mk c25.op c25.dst c25.num (Sh.w ((Sh.w ((Sh.w (k4 + 1)) + 1)) + 1)) c25.args c25.jumps)) (eRInstrD 3 3) i5 [(i64 c28.op), (i64 c28.dst), (i64 c28.num), (i64 c28.into), (.dv 3 1 (List.map eI q29.2)), (.dv 3 1 (List.map eI c28.jumps))]⟩, ⟨1, 3, 1, []⟩]) rfl gc28 rfl rfl (by first | (simp only [Sh.put_len]; done) | (simp only [Sh.put_len]; omega) | omega) (by decide) (show 1 ≤ 1 by decide) (fun _ => rfl) rfl rfl) ?_
  refine AO.weaken (Wk.filled (id := 0) (i := i5) (u := (RInstr.mk c28.op c28.dst c28.num c28.into q29.2 c28.jumps)) (st' := [⟨0, 63, 6, List.map (eRInstrD 3 3) (Sh.put (Sh.put (Sh.put (Sh.put (Sh.put l6 i5 (RInstr.mk k4 c16.dst c16.num c16.into c16.args c16.jumps)) i5 (RInstr.mk c19.op (Sh.w (k4 + 1)) c19.num c19.into c19.args c19.jumps)) i5 (RInstr.mk c22.op c22.dst (Sh.w ((Sh.w (k4 + 1)) + 1)) c22.into c22.args c22.jumps)) i5 (RInstr.mk c25.op c25.dst c25.num (Sh.w ((Sh.w ((Sh.w (k4 + 1)) + 1)) + 1)) c25.args c25.jumps)) i5 (RInstr.mk c28.op c28.dst c28.num c28.into q29.2 c28.jumps))⟩, ⟨1, 3, 1, []⟩]) rfl rfl rfl) ?_
  refine zq tb rfl ?_
  refine dn hK27 rfl ?_
  refine AW.regionO (by rfl) ?_
  iterate 2 refine zq tb rfl ?_
  obtain ⟨c31, gc31, h1⟩ := Sh.bind_some h1
  refine zz (.ptr 0 0 (Int.toNat i5) 0) (aq_ixo ei53 rfl rfl rfl (by first | (simp only [Sh.put_len]; done) | (simp only [Sh.put_len]; omega) | omega) gc31) rfl ?_
  refine zq tb rfl ?_
  refine AO.weaken (Wk.expel (id := 0) (j := 5) (i := i5) (c := c31) (ys := c31.jumps) (encY := eI) (x := [(i64 c31.op), (i64 c31.dst), (i64 c31.num), (i64 c31.into), (.dv 3 1 (List.map eI c31.args)), (.dv 3 1 (List.map eI c31.jumps))]) (x' := [(i64 c31.op), (i64 c31.dst), (i64 c31.num), (i64 c31.into), (.dv 3 1 (List.map eI c31.args)), (.own 2 0 (List.length c31.jumps))]) (st' := [⟨0, 63, 6, hole (Sh.put (Sh.put (Sh.put (Sh.put (Sh.put l6 i5 (RInstr.mk k4 c16.dst c16.num c16.into c16.args c16.jumps)) i5 (RInstr.mk c19.op (Sh.w (k4 + 1)) c19.num c19.into c19.args c19.jumps)) i5 (RInstr.mk c22.op c22.dst (Sh.w ((Sh.w (k4 + 1)) + 1)) c22.into c22.args c22.jumps)) i5 (RInstr.mk c25.op c25.dst c25.num (Sh.w ((Sh.w ((Sh.w (k4 + 1)) + 1)) + 1)) c25.args c25.jumps)) i5 (RInstr.mk c28.op c28.dst c28.num c28.into q29.2 c28.jumps)) (eRInstrD 3 3) i5 [(i64 c31.op), (i64 c31.dst), (i64 c31.num), (i64 c31.into), (.dv 3 1 (List.map eI c31.args)), (.own 2 0 (List.length c31.jumps))]⟩, ⟨1, 3, 1, []⟩, ⟨0, 3, 1, List.map eI c31.jumps⟩]) rfl gc31 rfl rfl rfl rfl rfl) ?_
  refine zz (.own 2 0 (List.length c31.jumps)) (aq_ldp ti27 rfl rfl (hole_get gc31) rfl) rfl ?_
  refine zq tb rfl ?_
  obtain ⟨q32, gq32, h1⟩ := Sh.bind_some h1
  refine ao_callsL (rowsP := [⟨0, 3, 1, List.map eI c31.jumps⟩]) (rows0 := [⟨0, 3, 1, List.map eI c31.jumps⟩]) (rows1 := [⟨0, 3, 1, List.map eI q32.2⟩]) (rows2 := []) (rows1' := [⟨0, 3, 1, List.map eI q32.2⟩]) (rows2' := []) (st' := [⟨0, 63, 6, hole (Sh.put (Sh.put (Sh.put (Sh.put (Sh.put l6 i5 (RInstr.mk k4 c16.dst c16.num c16.into c16.args c16.jumps)) i5 (RInstr.mk c19.op (Sh.w (k4 + 1)) c19.num c19.into c19.args c19.jumps)) i5 (RInstr.mk c22.op c22.dst (Sh.w ((Sh.w (k4 + 1)) + 1)) c22.into c22.args c22.jumps)) i5 (RInstr.mk c25.op c25.dst c25.num (Sh.w ((Sh.w ((Sh.w (k4 + 1)) + 1)) + 1)) c25.args c25.jumps)) i5 (RInstr.mk c28.op c28.dst c28.num c28.into q29.2 c28.jumps)) (eRInstrD 3 3) i5 [(i64 c31.op), (i64 c31.dst), (i64 c31.num), (i64 c31.into), (.dv 3 1 (List.map eI c31.args)), (.own 2 0 (List.length c31.jumps))]⟩, ⟨1, 3, 1, []⟩, ⟨0, 3, 1, List.map eI q32.2⟩]) (v' := (i64 q32.1)) [2] go0 hb13 (laws_markIntS_ok gq32) rfl (by decide) rfl rfl (.pure (pure_map fun _ => rfl) .nil) rfl rfl (.pure (pure_map fun _ => rfl) .nil) .nil rfl rfl (fun hln => ?_)
  have ln33 : List.length q32.2 = List.length c31.jumps := by simpa only [List.length_map] using hln 0 _ _ rfl rfl rfl
  refine AO.weaken (Wk.take (id := 0) (m := 2) (j := 5) (i := i5) (c := c31) (ys := q32.2) (encY := eI) (x' := [(i64 c31.op), (i64 c31.dst), (i64 c31.num), (i64 c31.into), (.dv 3 1 (List.map eI c31.args)), (.dv 3 1 (List.map eI q32.2))]) (st' := [⟨0, 63, 6, hole (Sh.put (Sh.put (Sh.put (Sh.put (Sh.put l6 i5 (RInstr.mk k4 c16.dst c16.num c16.into c16.args c16.jumps)) i5 (RInstr.mk c19.op (Sh.w (k4 + 1)) c19.num c19.into c19.args c19.jumps)) i5 (RInstr.mk c22.op c22.dst (Sh.w ((Sh.w (k4 + 1)) + 1)) c22.into c22.args c22.jumps)) i5 (RInstr.mk c25.op c25.dst c25.num (Sh.w ((Sh.w ((Sh.w (k4 + 1)) + 1)) + 1)) c25.args c25.jumps)) i5 (RInstr.mk c28.op c28.dst c28.num c28.into q29.2 c28.jumps)) (eRInstrD 3 3) i5 [(i64 c31.op), (i64 c31.dst), (i64 c31.num), (i64 c31.into), (.dv 3 1 (List.map eI c31.args)), (.dv 3 1 (List.map eI q32.2))]⟩, ⟨1, 3, 1, []⟩, ⟨1, 3, 1, []⟩]) rfl gc31 rfl rfl (by first | (simp only [Sh.put_len]; done) | (simp only [Sh.put_len]; omega) | omega) (by decide) (show 1 ≤ 2 by decide) (fun _ => rfl) rfl rfl) ?_
  refine AO.weaken (Wk.filled (id := 0) (i := i5) (u := (RInstr.mk c31.op c31.dst c31.num c31.into c31.args q32.2)) (st' := [⟨0, 63, 6, List.map (eRInstrD 3 3) (Sh.put (Sh.put (Sh.put (Sh.put (Sh.put (Sh.put l6 i5 (RInstr.mk k4 c16.dst c16.num c16.into c16.args c16.jumps)) i5 (RInstr.mk c19.op (Sh.w (k4 + 1)) c19.num c19.into c19.args c19.jumps)) i5 (RInstr.mk c22.op c22.dst (Sh.w ((Sh.w (k4 + 1)) + 1)) c22.into c22.args c22.jumps)) i5 (RInstr.mk c25.op c25.dst c25.num (Sh.w ((Sh.w ((Sh.w (k4 + 1)) + 1)) + 1)) c25.args c25.jumps)) i5 (RInstr.mk c28.op c28.dst c28.num c28.into q29.2 c28.jumps)) i5 (RInstr.mk c31.op c31.dst c31.num c31.into c31.args q32.2))⟩, ⟨1, 3, 1, []⟩, ⟨1, 3, 1, []⟩]) rfl rfl rfl) ?_
  refine zq tb rfl ?_
  refine dn hK14 rfl ?_
  refine AW.regionO (by rfl) ?_
  iterate 3 refine zq tb rfl ?_
  exact AO.done (xi (q32.1, Sh.w (i5 + 1), Sh.put (Sh.put (Sh.put (Sh.put (Sh.put (Sh.put l6 i5 (RInstr.mk k4 c16.dst c16.num c16.into c16.args c16.jumps)) i5 (RInstr.mk c19.op (Sh.w (k4 + 1)) c19.num c19.into c19.args c19.jumps)) i5 (RInstr.mk c22.op c22.dst (Sh.w ((Sh.w (k4 + 1)) + 1)) c22.into c22.args c22.jumps)) i5 (RInstr.mk c25.op c25.dst c25.num (Sh.w ((Sh.w ((Sh.w (k4 + 1)) + 1)) + 1)) c25.args c25.jumps)) i5 (RInstr.mk c28.op c28.dst c28.num c28.into q29.2 c28.jumps)) i5 (RInstr.mk c31.op c31.dst c31.num c31.into c31.args q32.2)) h1 (by refine Wk.trans (Wk.permk (L := [(0, (.own 0 0 (List.length l6))), (1, (i64 q32.1)), (5, (i64 (Sh.w (i5 + 1))))]) (st' := [⟨0, 63, 6, List.map (eRInstrD 3 3) (Sh.put (Sh.put (Sh.put (Sh.put (Sh.put (Sh.put l6 i5 (RInstr.mk k4 c16.dst c16.num c16.into c16.args c16.jumps)) i5 (RInstr.mk c19.op (Sh.w (k4 + 1)) c19.num c19.into c19.args c19.jumps)) i5 (RInstr.mk c22.op c22.dst (Sh.w ((Sh.w (k4 + 1)) + 1)) c22.into c22.args c22.jumps)) i5 (RInstr.mk c25.op c25.dst c25.num (Sh.w ((Sh.w ((Sh.w (k4 + 1)) + 1)) + 1)) c25.args c25.jumps)) i5 (RInstr.mk c28.op c28.dst c28.num c28.into q29.2 c28.jumps)) i5 (RInstr.mk c31.op c31.dst c31.num c31.into c31.args q32.2))⟩]) (st1 := [⟨0, 63, 6, List.map (eRInstrD 3 3) (Sh.put (Sh.put (Sh.put (Sh.put (Sh.put (Sh.put l6 i5 (RInstr.mk k4 c16.dst c16.num c16.into c16.args c16.jumps)) i5 (RInstr.mk c19.op (Sh.w (k4 + 1)) c19.num c19.into c19.args c19.jumps)) i5 (RInstr.mk c22.op c22.dst (Sh.w ((Sh.w (k4 + 1)) + 1)) c22.into c22.args c22.jumps)) i5 (RInstr.mk c25.op c25.dst c25.num (Sh.w ((Sh.w ((Sh.w (k4 + 1)) + 1)) + 1)) c25.args c25.jumps)) i5 (RInstr.mk c28.op c28.dst c28.num c28.into q29.2 c28.jumps)) i5 (RInstr.mk c31.op c31.dst c31.num c31.into c31.args q32.2))⟩]) [0] rfl (.deep (pure_mapD fun _ => rfl) .nil) (by decide) rfl rfl (.deep (pure_mapD fun _ => rfl) .nil) ⟨.rfl, .rfl, .rfl, trivial⟩) ?_; exact Wk.to (L := [(0, (.own 0 0 (List.length (Sh.put (Sh.put (Sh.put (Sh.put (Sh.put (Sh.put l6 i5 (RInstr.mk k4 c16.dst c16.num c16.into c16.args c16.jumps)) i5 (RInstr.mk c19.op (Sh.w (k4 + 1)) c19.num c19.into c19.args c19.jumps)) i5 (RInstr.mk c22.op c22.dst (Sh.w ((Sh.w (k4 + 1)) + 1)) c22.into c22.args c22.jumps)) i5 (RInstr.mk c25.op c25.dst c25.num (Sh.w ((Sh.w ((Sh.w (k4 + 1)) + 1)) + 1)) c25.args c25.jumps)) i5 (RInstr.mk c28.op c28.dst c28.num c28.into q29.2 c28.jumps)) i5 (RInstr.mk c31.op c31.dst c31.num c31.into c31.args q32.2))))), (1, (i64 q32.1)), (5, (i64 (Sh.w (i5 + 1))))]) ⟨(.len (by first | (simp only [Sh.put_len]; done) | (simp only [Sh.put_len]; omega) | omega)), .rfl, .rfl, trivial⟩))
 ·intro b13 h1
  exact AW.exit (M9 k4 l6 (Sh.some_eq h1).symm _ (Wk.tr rfl))
theorem laws_markProcS_ok {N : Nat} {s0 : (List RProc)} {p1 : Int} {r : Int × (List RProc)} (h0 : laws_markProcS N s0 p1 = some r) : ACalls Try.prog 37 [(.own 0 0 (List.length s0)), (i64 p1)] [⟨0, 55, 5, List.map (eRProcD 3 3 63 3 3) s0⟩] (fun v st => v = (i64 r.1) ∧ st = [⟨0, 55, 5, List.map (eRProcD 3 3 63 3 3) r.2⟩]) := by
 unfold laws_markProcS at h0
 refine ACalls.intro Try.func37 rfl (by show 2 ≤ 48; decide) ?_
 show AW _ 1 _ (aret _ 1 Try.f37 _) ⟨48, _, _⟩
 refine AW.weaken (Wk.to (L := [(0, (.own 0 0 (List.length s0))), (1, (i64 p1))]) ⟨.rfl, .rfl, trivial⟩) ?_
 refine sr rfl fun K1 hK1 => ?_
 refine zq tb rfl ?_
 refine dn hK1 rfl ?_
 refine AW.seq fun K2 hK2 => ?_
 refine sr rfl fun K3 hK3 => ?_
 refine zq tb rfl ?_
 refine dn hK3 rfl ?_
 obtain ⟨o9, h1, h0⟩ := Sh.bind_some h0
 have M9 : ∀ (k7 : Int) (l8 : (List RProc)), o9 = (k7, l8) → ∀ s, Wk 1 s ⟨48, envL [(1, (i64 k7))], [⟨0, 55, 5, List.map (eRProcD 3 3 63 3 3) l8⟩]⟩ → K2 s := by
  intro k7 l8 hq s hw
  subst o9
  try dsimp only at h0
  refine hK2 _ (AW.weaken hw ?_)
  refine sr rfl fun K10 hK10 => ?_
  iterate 2 refine zq tb rfl ?_
  refine dn hK10 rfl ?_
  replace h0 := Sh.some_eq h0
  subst r
  exact AW.ret (xr (Wk.to (L := [(4, (i64 k7))]) ⟨.rfl, trivial⟩))
 refine AW.block (AW.loopF (σ := Int × Int × (List RProc)) (fun n v => laws_markProcS_L1 N n v.1 v.2.1 v.2.2 = some o9) (fun (k4, i5, l6) => ⟨48, envL [(0, (.own 0 0 (List.length l6))), (1, (i64 k4)), (5, (i64 i5))], [⟨0, 55, 5, List.map (eRProcD 3 3 63 3 3) l6⟩]⟩) N (p1, 0, s0) h1 (Wk.tr rfl) (fun _ hv => by rw [laws_markProcS_L1] at hv; cases hv) ?_)
 rintro n ⟨k4, i5, l6⟩ h1
 try dsimp only at h1 ⊢
 rw [laws_markProcS_L1] at h1
 refine AW.seq fun K11 hK11 => ?_
 refine sr rfl fun K12 hK12 => ?_
 iterate 2 refine zq tb rfl ?_
 refine zz (i64 (Sh.len l6)) (aq_leno sl30 rfl rfl rfl) rfl ?_
 refine zq tb rfl ?_
 refine dn hK12 rfl ?_
 refine ci h1 rfl ?_ ?_ <;> clear h1
 ·intro b13 h1
  refine AW.skip (hK11 _ ?_)
  refine AW.seq fun K14 hK14 => ?_
  refine AW.block ?_
  refine sr rfl fun K15 hK15 => ?_
  iterate 2 refine zq tb rfl ?_
  obtain ⟨c16, gc16, h1⟩ := Sh.bind_some h1
  refine zz (.ptr 0 0 (Int.toNat i5) 0) (aq_ixo ei30 rfl rfl rfl rfl gc16) rfl ?_
  refine zq tb rfl ?_
  refine AO.weaken (Wk.expel (id := 0) (j := 0) (i := i5) (c := c16) (ys := c16.params) (encY := eI) (x := [(.dv 3 1 (List.map eI c16.params)), (.dv 3 1 (List.map eI c16.lent)), (i64 c16.result), (i64 c16.regs), (.dv 63 6 (List.map (eRInstrD 3 3) c16.code))]) (x' := [(.own 1 0 (List.length c16.params)), (.dv 3 1 (List.map eI c16.lent)), (i64 c16.result), (i64 c16.regs), (.dv 63 6 (List.map (eRInstrD 3 3) c16.code))]) (st' := [⟨0, 55, 5, hole l6 (eRProcD 3 3 63 3 3) i5 [(.own 1 0 (List.length c16.params)), (.dv 3 1 (List.map eI c16.lent)), (i64 c16.result), (i64 c16.regs), (.dv 63 6 (List.map (eRInstrD 3 3) c16.code))]⟩, ⟨0, 3, 1, List.map eI c16.params⟩]) rfl gc16 rfl rfl rfl rfl rfl) ?_
  refine zz (.own 1 0 (List.length c16.params)) (aq_ldp ti27 rfl rfl (hole_get gc16) rfl) rfl ?_
  refine zq tb rfl ?_
  obtain ⟨q17, gq17, h1⟩ := Sh.bind_some h1
  refine ao_callsL (rowsP := [⟨0, 3, 1, List.map eI c16.params⟩]) (rows0 := [⟨0, 3, 1, List.map eI c16.params⟩]) (rows1 := [⟨0, 3, 1, List.map eI q17.2⟩]) (rows2 := []) (rows1' := [⟨0, 3, 1, List.map eI q17.2⟩]) (rows2' := []) (st' := [⟨0, 55, 5, hole l6 (eRProcD 3 3 63 3 3) i5 [(.own 1 0 (List.length c16.params)), (.dv 3 1 (List.map eI c16.lent)), (i64 c16.result), (i64 c16.regs), (.dv 63 6 (List.map (eRInstrD 3 3) c16.code))]⟩, ⟨0, 3, 1, List.map eI q17.2⟩]) (v' := (i64 q17.1)) [1] go0 hb13 (laws_markIntS_ok gq17) rfl (by decide) rfl rfl (.pure (pure_map fun _ => rfl) .nil) rfl rfl (.pure (pure_map fun _ => rfl) .nil) .nil rfl rfl (fun hln => ?_)
  have ln18 : List.length q17.2 = List.length c16.params := by simpa only [List.length_map] using hln 0 _ _ rfl rfl rfl
  refine AO.weaken (Wk.take (id := 0) (m := 1) (j := 0) (i := i5) (c := c16) (ys := q17.2) (encY := eI) (x' := [(.dv 3 1 (List.map eI q17.2)), (.dv 3 1 (List.map eI c16.lent)), (i64 c16.result), (i64 c16.regs), (.dv 63 6 (List.map (eRInstrD 3 3) c16.code))]) (st' := [⟨0, 55, 5, hole l6 (eRProcD 3 3 63 3 3) i5 [(.dv 3 1 (List.map eI q17.2)), (.dv 3 1 (List.map eI c16.lent)), (i64 c16.result), (i64 c16.regs), (.dv 63 6 (List.map (eRInstrD 3 3) c16.code))]⟩, ⟨1, 3, 1, []⟩]) rfl gc16 rfl rfl (by first | (simp only [Sh.put_len]; done) | (simp only [Sh.put_len]; omega) | omega) (by decide) (show 1 ≤ 1 by decide) (fun _ => rfl) rfl rfl) ?_
  refine AO.weaken (Wk.filled (id := 0) (i := i5) (u := (RProc.mk q17.2 c16.lent c16.result c16.regs c16.code)) (st' := [⟨0, 55, 5, List.map (eRProcD 3 3 63 3 3) (Sh.put l6 i5 (RProc.mk q17.2 c16.lent c16.result c16.regs c16.code))⟩, ⟨1, 3, 1, []⟩]) rfl rfl rfl) ?_
  refine zq tb rfl ?_
  refine dn hK15 rfl ?_
  refine sr rfl fun K19 hK19 => ?_
  iterate 2 refine zq tb rfl ?_
  obtain ⟨c20, gc20, h1⟩ := Sh.bind_some h1
  refine zz (.ptr 0 0 (Int.toNat i5) 0) (aq_ixo ei30 rfl rfl rfl (by first | (simp only [Sh.put_len]; done) | (simp only [Sh.put_len]; omega) | omega) gc20) rfl ?_
  refine zq tb rfl ?_
  refine AO.weaken (Wk.expel (id := 0) (j := 1) (i := i5) (c := c20) (ys := c20.lent) (encY := eI) (x := [(.dv 3 1 (List.map eI c20.params)), (.dv 3 1 (List.map eI c20.lent)), (i64 c20.result), (i64 c20.regs), (.dv 63 6 (List.map (eRInstrD 3 3) c20.code))]) (x' := [(.dv 3 1 (List.map eI c20.params)), (.own 2 0 (List.length c20.lent)), (i64 c20.result), (i64 c20.regs), (.dv 63 6 (List.map (eRInstrD 3 3) c20.code))]) (st' := [⟨0, 55, 5, hole (Sh.put l6 i5 (RProc.mk q17.2 c16.lent c16.result c16.regs c16.code)) (eRProcD 3 3 63 3 3) i5 [(.dv 3 1 (List.map eI c20.params)), (.own 2 0 (List.length c20.lent)), (i64 c20.result), (i64 c20.regs), (.dv 63 6 (List.map (eRInstrD 3 3) c20.code))]⟩, ⟨1, 3, 1, []⟩, ⟨0, 3, 1, List.map eI c20.lent⟩]) rfl gc20 rfl rfl rfl rfl rfl) ?_
  refine zz (.own 2 0 (List.length c20.lent)) (aq_ldp ti27 rfl rfl (hole_get gc20) rfl) rfl ?_
  refine zq tb rfl ?_
  obtain ⟨q21, gq21, h1⟩ := Sh.bind_some h1
  refine ao_callsL (rowsP := [⟨0, 3, 1, List.map eI c20.lent⟩]) (rows0 := [⟨0, 3, 1, List.map eI c20.lent⟩]) (rows1 := [⟨0, 3, 1, List.map eI q21.2⟩]) (rows2 := []) (rows1' := [⟨0, 3, 1, List.map eI q21.2⟩]) (rows2' := []) (st' := [⟨0, 55, 5, hole (Sh.put l6 i5 (RProc.mk q17.2 c16.lent c16.result c16.regs c16.code)) (eRProcD 3 3 63 3 3) i5 [(.dv 3 1 (List.map eI c20.params)), (.own 2 0 (List.length c20.lent)), (i64 c20.result), (i64 c20.regs), (.dv 63 6 (List.map (eRInstrD 3 3) c20.code))]⟩, ⟨1, 3, 1, []⟩, ⟨0, 3, 1, List.map eI q21.2⟩]) (v' := (i64 q21.1)) [2] go0 hb13 (laws_markIntS_ok gq21) rfl (by decide) rfl rfl (.pure (pure_map fun _ => rfl) .nil) rfl rfl (.pure (pure_map fun _ => rfl) .nil) .nil rfl rfl (fun hln => ?_)
  have ln22 : List.length q21.2 = List.length c20.lent := by simpa only [List.length_map] using hln 0 _ _ rfl rfl rfl
  refine AO.weaken (Wk.take (id := 0) (m := 2) (j := 1) (i := i5) (c := c20) (ys := q21.2) (encY := eI) (x' := [(.dv 3 1 (List.map eI c20.params)), (.dv 3 1 (List.map eI q21.2)), (i64 c20.result), (i64 c20.regs), (.dv 63 6 (List.map (eRInstrD 3 3) c20.code))]) (st' := [⟨0, 55, 5, hole (Sh.put l6 i5 (RProc.mk q17.2 c16.lent c16.result c16.regs c16.code)) (eRProcD 3 3 63 3 3) i5 [(.dv 3 1 (List.map eI c20.params)), (.dv 3 1 (List.map eI q21.2)), (i64 c20.result), (i64 c20.regs), (.dv 63 6 (List.map (eRInstrD 3 3) c20.code))]⟩, ⟨1, 3, 1, []⟩, ⟨1, 3, 1, []⟩]) rfl gc20 rfl rfl (by first | (simp only [Sh.put_len]; done) | (simp only [Sh.put_len]; omega) | omega) (by decide) (show 1 ≤ 2 by decide) (fun _ => rfl) rfl rfl) ?_
  refine AO.weaken (Wk.filled (id := 0) (i := i5) (u := (RProc.mk c20.params q21.2 c20.result c20.regs c20.code)) (st' := [⟨0, 55, 5, List.map (eRProcD 3 3 63 3 3) (Sh.put (Sh.put l6 i5 (RProc.mk q17.2 c16.lent c16.result c16.regs c16.code)) i5 (RProc.mk c20.params q21.2 c20.result c20.regs c20.code))⟩, ⟨1, 3, 1, []⟩, ⟨1, 3, 1, []⟩]) rfl rfl rfl) ?_
  refine zq tb rfl ?_
  refine dn hK19 rfl ?_
  refine sr rfl fun K23 hK23 => ?_
  iterate 3 refine zq tb rfl ?_
  obtain ⟨c24, gc24, h1⟩ := Sh.bind_some h1
  refine zz (.ptr 0 0 (Int.toNat i5) 0) (aq_ixo ei30 rfl rfl rfl (by first | (simp only [Sh.put_len]; done) | (simp only [Sh.put_len]; omega) | omega) gc24) rfl ?_
  refine zq tb rfl ?_
  refine ao_stl (st' := [⟨0, 55, 5, List.map (eRProcD 3 3 63 3 3) (Sh.put (Sh.put (Sh.put l6 i5 (RProc.mk q17.2 c16.lent c16.result c16.regs c16.code)) i5 (RProc.mk c20.params q21.2 c20.result c20.regs c20.code)) i5 (RProc.mk c24.params c24.lent q21.1 c24.regs c24.code))⟩, ⟨1, 3, 1, []⟩, ⟨1, 3, 1, []⟩]) (u' := (RProc.mk c24.params c24.lent q21.1 c24.regs c24.code)) go0 ti3 rfl rfl gc24 rfl rfl rfl (show 2 + 1 ≤ 5 by decide) rfl rfl ?_
  refine dn hK23 rfl ?_
  refine sr rfl fun K25 hK25 => ?_
  iterate 3 refine zq tb rfl ?_
  refine dn hK25 rfl ?_
  refine sr rfl fun K26 hK26 => ?_
  iterate 3 refine zq tb rfl ?_
  obtain ⟨c27, gc27, h1⟩ := Sh.bind_some h1
  refine zz (.ptr 0 0 (Int.toNat i5) 0) (aq_ixo ei30 rfl rfl rfl (by first | (simp only [Sh.put_len]; done) | (simp only [Sh.put_len]; omega) | omega) gc27) rfl ?_
  refine zq tb rfl ?_
  refine ao_stl (st' := [⟨0, 55, 5, List.map (eRProcD 3 3 63 3 3) (Sh.put (Sh.put (Sh.put (Sh.put l6 i5 (RProc.mk q17.2 c16.lent c16.result c16.regs c16.code)) i5 (RProc.mk c20.params q21.2 c20.result c20.regs c20.code)) i5 (RProc.mk c24.params c24.lent q21.1 c24.regs c24.code)) i5 (RProc.mk c27.params c27.lent c27.result (Sh.w (q21.1 + 1)) c27.code))⟩, ⟨1, 3, 1, []⟩, ⟨1, 3, 1, []⟩]) (u' := (RProc.mk c27.params c27.lent c27.result (Sh.w (q21.1 + 1)) c27.code)) go0 ti3 rfl rfl gc27 rfl rfl rfl (show 3 + 1 ≤ 5 by decide) rfl rfl ?_
  refine dn hK26 rfl ?_
  refine sr rfl fun K28 hK28 => ?_
  iterate 3 refine zq tb rfl ?_
  refine dn hK28 rfl ?_
  refine AW.regionO (by rfl) ?_
  iterate 2 refine zq tb rfl ?_
  obtain ⟨c29, gc29, h1⟩ := Sh.bind_some h1
  refine zz (.ptr 0 0 (Int.toNat i5) 0) (aq_ixo ei30 rfl rfl rfl (by first | (simp only [Sh.put_len]; done) | (simp only [Sh.put_len]; omega) | omega) gc29) rfl ?_
  refine zq tb rfl ?_
  refine AO.weaken (Wk.expel (id := 0) (j := 4) (i := i5) (c := c29) (ys := c29.code) (encY := (eRInstrD 3 3)) (x := [(.dv 3 1 (List.map eI c29.params)), (.dv 3 1 (List.map eI c29.lent)), (i64 c29.result), (i64 c29.regs), (.dv 63 6 (List.map (eRInstrD 3 3) c29.code))]) (x' := [(.dv 3 1 (List.map eI c29.params)), (.dv 3 1 (List.map eI c29.lent)), (i64 c29.result), (i64 c29.regs), (.own 3 0 (List.length c29.code))]) (st' := [⟨0, 55, 5, hole (Sh.put (Sh.put (Sh.put (Sh.put l6 i5 (RProc.mk q17.2 c16.lent c16.result c16.regs c16.code)) i5 (RProc.mk c20.params q21.2 c20.result c20.regs c20.code)) i5 (RProc.mk c24.params c24.lent q21.1 c24.regs c24.code)) i5 (RProc.mk c27.params c27.lent c27.result (Sh.w (q21.1 + 1)) c27.code)) (eRProcD 3 3 63 3 3) i5 [(.dv 3 1 (List.map eI c29.params)), (.dv 3 1 (List.map eI c29.lent)), (i64 c29.result), (i64 c29.regs), (.own 3 0 (List.length c29.code))]⟩, ⟨1, 3, 1, []⟩, ⟨1, 3, 1, []⟩, ⟨0, 63, 6, List.map (eRInstrD 3 3) c29.code⟩]) rfl gc29 rfl rfl rfl rfl rfl) ?_
  refine zz (.own 3 0 (List.length c29.code)) (aq_ldp ti53 rfl rfl (hole_get gc29) rfl) rfl ?_
  refine zq tb rfl ?_
  obtain ⟨q30, gq30, h1⟩ := Sh.bind_some h1
  refine ao_callsL (rowsP := [⟨0, 63, 6, List.map (eRInstrD 3 3) c29.code⟩]) (rows0 := [⟨0, 63, 6, List.map (eRInstrD 3 3) c29.code⟩]) (rows1 := [⟨0, 63, 6, List.map (eRInstrD 3 3) q30.2⟩]) (rows2 := []) (rows1' := [⟨0, 63, 6, List.map (eRInstrD 3 3) q30.2⟩]) (rows2' := []) (st' := [⟨0, 55, 5, hole (Sh.put (Sh.put (Sh.put (Sh.put l6 i5 (RProc.mk q17.2 c16.lent c16.result c16.regs c16.code)) i5 (RProc.mk c20.params q21.2 c20.result c20.regs c20.code)) i5 (RProc.mk c24.params c24.lent q21.1 c24.regs c24.code)) i5 (RProc.mk c27.params c27.lent c27.result (Sh.w (q21.1 + 1)) c27.code)) (eRProcD 3 3 63 3 3) i5 [(.dv 3 1 (List.map eI c29.params)), (.dv 3 1 (List.map eI c29.lent)), (i64 c29.result), (i64 c29.regs), (.own 3 0 (List.length c29.code))]⟩, ⟨1, 3, 1, []⟩, ⟨1, 3, 1, []⟩, ⟨0, 63, 6, List.map (eRInstrD 3 3) q30.2⟩]) (v' := (i64 q30.1)) [3] go0 hb61 (laws_markInstrS_ok gq30) rfl (by decide) rfl rfl (.deep (pure_mapD fun _ => rfl) .nil) rfl rfl (.deep (pure_mapD fun _ => rfl) .nil) .nil rfl rfl (fun hln => ?_)
  have ln31 : List.length q30.2 = List.length c29.code := by simpa only [List.length_map] using hln 0 _ _ rfl rfl rfl
  refine AO.weaken (Wk.take (id := 0) (m := 3) (j := 4) (i := i5) (c := c29) (ys := q30.2) (encY := (eRInstrD 3 3)) (x' := [(.dv 3 1 (List.map eI c29.params)), (.dv 3 1 (List.map eI c29.lent)), (i64 c29.result), (i64 c29.regs), (.dv 63 6 (List.map (eRInstrD 3 3) q30.2))]) (st' := [⟨0, 55, 5, hole (Sh.put (Sh.put (Sh.put (Sh.put l6 i5 (RProc.mk q17.2 c16.lent c16.result c16.regs c16.code)) i5 (RProc.mk c20.params q21.2 c20.result c20.regs c20.code)) i5 (RProc.mk c24.params c24.lent q21.1 c24.regs c24.code)) i5 (RProc.mk c27.params c27.lent c27.result (Sh.w (q21.1 + 1)) c27.code)) (eRProcD 3 3 63 3 3) i5 [(.dv 3 1 (List.map eI c29.params)), (.dv 3 1 (List.map eI c29.lent)), (i64 c29.result), (i64 c29.regs), (.dv 63 6 (List.map (eRInstrD 3 3) q30.2))]⟩, ⟨1, 3, 1, []⟩, ⟨1, 3, 1, []⟩, ⟨1, 63, 6, []⟩]) rfl gc29 rfl rfl (by first | (simp only [Sh.put_len]; done) | (simp only [Sh.put_len]; omega) | omega) (by decide) (show 1 ≤ 3 by decide) (fun _ => rfl) rfl rfl) ?_
  refine AO.weaken (Wk.filled (id := 0) (i := i5) (u := (RProc.mk c29.params c29.lent c29.result c29.regs q30.2)) (st' := [⟨0, 55, 5, List.map (eRProcD 3 3 63 3 3) (Sh.put (Sh.put (Sh.put (Sh.put (Sh.put l6 i5 (RProc.mk q17.2 c16.lent c16.result c16.regs c16.code)) i5 (RProc.mk c20.params q21.2 c20.result c20.regs c20.code)) i5 (RProc.mk c24.params c24.lent q21.1 c24.regs c24.code)) i5 (RProc.mk c27.params c27.lent c27.result (Sh.w (q21.1 + 1)) c27.code)) i5 (RProc.mk c29.params c29.lent c29.result c29.regs q30.2))⟩, ⟨1, 3, 1, []⟩, ⟨1, 3, 1, []⟩, ⟨1, 63, 6, []⟩]) rfl rfl rfl) ?_
  refine zq tb rfl ?_
  refine dn hK14 rfl ?_
  refine AW.regionO (by rfl) ?_
  iterate 3 refine zq tb rfl ?_
  exact AO.done (xi (q30.1, Sh.w (i5 + 1), Sh.put (Sh.put (Sh.put (Sh.put (Sh.put l6 i5 (RProc.mk q17.2 c16.lent c16.result c16.regs c16.code)) i5 (RProc.mk c20.params q21.2 c20.result c20.regs c20.code)) i5 (RProc.mk c24.params c24.lent q21.1 c24.regs c24.code)) i5 (RProc.mk c27.params c27.lent c27.result (Sh.w (q21.1 + 1)) c27.code)) i5 (RProc.mk c29.params c29.lent c29.result c29.regs q30.2)) h1 (by refine Wk.trans (Wk.permk (L := [(0, (.own 0 0 (List.length l6))), (1, (i64 q30.1)), (5, (i64 (Sh.w (i5 + 1))))]) (st' := [⟨0, 55, 5, List.map (eRProcD 3 3 63 3 3) (Sh.put (Sh.put (Sh.put (Sh.put (Sh.put l6 i5 (RProc.mk q17.2 c16.lent c16.result c16.regs c16.code)) i5 (RProc.mk c20.params q21.2 c20.result c20.regs c20.code)) i5 (RProc.mk c24.params c24.lent q21.1 c24.regs c24.code)) i5 (RProc.mk c27.params c27.lent c27.result (Sh.w (q21.1 + 1)) c27.code)) i5 (RProc.mk c29.params c29.lent c29.result c29.regs q30.2))⟩]) (st1 := [⟨0, 55, 5, List.map (eRProcD 3 3 63 3 3) (Sh.put (Sh.put (Sh.put (Sh.put (Sh.put l6 i5 (RProc.mk q17.2 c16.lent c16.result c16.regs c16.code)) i5 (RProc.mk c20.params q21.2 c20.result c20.regs c20.code)) i5 (RProc.mk c24.params c24.lent q21.1 c24.regs c24.code)) i5 (RProc.mk c27.params c27.lent c27.result (Sh.w (q21.1 + 1)) c27.code)) i5 (RProc.mk c29.params c29.lent c29.result c29.regs q30.2))⟩]) [0] rfl (.deep (pure_mapD fun _ => rfl) .nil) (by decide) rfl rfl (.deep (pure_mapD fun _ => rfl) .nil) ⟨.rfl, .rfl, .rfl, trivial⟩) ?_; exact Wk.to (L := [(0, (.own 0 0 (List.length (Sh.put (Sh.put (Sh.put (Sh.put (Sh.put l6 i5 (RProc.mk q17.2 c16.lent c16.result c16.regs c16.code)) i5 (RProc.mk c20.params q21.2 c20.result c20.regs c20.code)) i5 (RProc.mk c24.params c24.lent q21.1 c24.regs c24.code)) i5 (RProc.mk c27.params c27.lent c27.result (Sh.w (q21.1 + 1)) c27.code)) i5 (RProc.mk c29.params c29.lent c29.result c29.regs q30.2))))), (1, (i64 q30.1)), (5, (i64 (Sh.w (i5 + 1))))]) ⟨(.len (by first | (simp only [Sh.put_len]; done) | (simp only [Sh.put_len]; omega) | omega)), .rfl, .rfl, trivial⟩))
 ·intro b13 h1
  exact AW.exit (M9 k4 l6 (Sh.some_eq h1).symm _ (Wk.tr rfl))
theorem laws_markImage_ok {N : Nat} {s0 : (List RDecl)} {s1 : (List RProc)} {p1 : Int} {r : Int × (List RDecl) × (List RProc)} (h0 : laws_markImage N s0 s1 p1 = some r) : ACalls Try.prog 12 [(.agg [(.own 0 0 (List.length s0)), (.own 1 0 (List.length s1))]), (i64 p1)] [⟨0, 94, 3, List.map (eRDeclD 141 3) s0⟩, ⟨0, 55, 5, List.map (eRProcD 3 3 63 3 3) s1⟩] (fun v st => v = (i64 r.1) ∧ st = [⟨0, 94, 3, List.map (eRDeclD 141 3) r.2.1⟩, ⟨0, 55, 5, List.map (eRProcD 3 3 63 3 3) r.2.2⟩]) := by
 unfold laws_markImage at h0
 refine ACalls.intro Try.func12 rfl (by show 2 ≤ 14; decide) ?_
 show AW _ 2 _ (aret _ 2 Try.f12 _) ⟨14, _, _⟩
 refine AW.weaken (Wk.to (L := [(0, (.agg [(.own 0 0 (List.length s0)), (.own 1 0 (List.length s1))])), (1, (i64 p1))]) ⟨.rfl, .rfl, trivial⟩) ?_
 refine sr rfl fun K1 hK1 => ?_
 refine ao_box (m := 2) (st' := [⟨0, 94, 3, List.map (eRDeclD 141 3) s0⟩, ⟨0, 55, 5, List.map (eRProcD 3 3 63 3 3) s1⟩, ⟨0, 32, 2, [[(.own 0 0 (List.length s0)), (.own 1 0 (List.length s1))]]⟩]) go0 rfl rfl rfl rfl rfl ?_
 refine zq tb rfl ?_
 refine dn hK1 rfl ?_
 refine sr rfl fun K2 hK2 => ?_
 iterate 3 refine zq tb rfl ?_
 obtain ⟨q3, gq3, h0⟩ := Sh.bind_some h0
 refine ao_callsL (rowsP := [⟨0, 94, 3, List.map (eRDeclD 141 3) s0⟩]) (rows0 := [⟨0, 94, 3, List.map (eRDeclD 141 3) s0⟩]) (rows1 := [⟨0, 94, 3, List.map (eRDeclD 141 3) q3.2⟩]) (rows2 := []) (rows1' := [⟨0, 94, 3, List.map (eRDeclD 141 3) q3.2⟩]) (rows2' := []) (st' := [⟨0, 94, 3, List.map (eRDeclD 141 3) q3.2⟩, ⟨0, 55, 5, List.map (eRProcD 3 3 63 3 3) s1⟩, ⟨0, 32, 2, [[(.own 0 0 (List.length s0)), (.own 1 0 (List.length s1))]]⟩]) (v' := (i64 q3.1)) [0] go0 hb36 (laws_markDeclS_ok gq3) rfl (by decide) rfl rfl (.deep (pure_mapD fun _ => rfl) .nil) rfl rfl (.deep (pure_mapD fun _ => rfl) .nil) .nil rfl rfl (fun hln => ?_)
 have ln4 : List.length q3.2 = List.length s0 := by simpa only [List.length_map] using hln 0 _ _ rfl rfl rfl
 refine zq tb rfl ?_
 refine dn hK2 rfl ?_
 refine sr rfl fun K5 hK5 => ?_
 iterate 3 refine zq tb rfl ?_
 obtain ⟨q6, gq6, h0⟩ := Sh.bind_some h0
 refine ao_callsL (rowsP := [⟨0, 55, 5, List.map (eRProcD 3 3 63 3 3) s1⟩]) (rows0 := [⟨0, 55, 5, List.map (eRProcD 3 3 63 3 3) s1⟩]) (rows1 := [⟨0, 55, 5, List.map (eRProcD 3 3 63 3 3) q6.2⟩]) (rows2 := []) (rows1' := [⟨0, 55, 5, List.map (eRProcD 3 3 63 3 3) q6.2⟩]) (rows2' := []) (st' := [⟨0, 94, 3, List.map (eRDeclD 141 3) q3.2⟩, ⟨0, 55, 5, List.map (eRProcD 3 3 63 3 3) q6.2⟩, ⟨0, 32, 2, [[(.own 0 0 (List.length s0)), (.own 1 0 (List.length s1))]]⟩]) (v' := (i64 q6.1)) [1] go0 hb37 (laws_markProcS_ok gq6) rfl (by decide) rfl rfl (.deep (pure_mapD fun _ => rfl) .nil) rfl rfl (.deep (pure_mapD fun _ => rfl) .nil) .nil rfl rfl (fun hln => ?_)
 have ln7 : List.length q6.2 = List.length s1 := by simpa only [List.length_map] using hln 0 _ _ rfl rfl rfl
 refine zq tb rfl ?_
 refine dn hK5 rfl ?_
 refine sr rfl fun K8 hK8 => ?_
 iterate 2 refine zq tb rfl ?_
 refine dn hK8 rfl ?_
 replace h0 := Sh.some_eq h0
 subst r
 exact AW.ret (Exists.intro _ (And.intro (((Wk.steq (st := [⟨0, 94, 3, List.map (eRDeclD 141 3) q3.2⟩, ⟨0, 55, 5, List.map (eRProcD 3 3 63 3 3) q6.2⟩, ⟨0, 32, 2, [[(.own 0 0 (List.length s0)), (.own 1 0 (List.length s1))]]⟩]) (st' := [⟨0, 94, 3, List.map (eRDeclD 141 3) q3.2⟩, ⟨0, 55, 5, List.map (eRProcD 3 3 63 3 3) q6.2⟩, ⟨0, 32, 2, [[(.own 0 0 (List.length q3.2)), (.own 1 0 (List.length q6.2))]]⟩]) (by first | (simp only [Sh.put_len]; done) | simp only [Sh.put_len, ln4, ln7] | simp only [ln4, ln7])).trans (Wk.permk (L := [(4, (i64 q6.1))]) (st' := [⟨0, 94, 3, List.map (eRDeclD 141 3) q3.2⟩, ⟨0, 55, 5, List.map (eRProcD 3 3 63 3 3) q6.2⟩]) (st1 := [⟨0, 94, 3, List.map (eRDeclD 141 3) q3.2⟩, ⟨0, 55, 5, List.map (eRProcD 3 3 63 3 3) q6.2⟩]) [0, 1] rfl (.deep (pure_mapD fun _ => rfl) (.deep (pure_mapD fun _ => rfl) .nil)) (by decide) rfl rfl (.deep (pure_mapD fun _ => rfl) (.deep (pure_mapD fun _ => rfl) .nil)) ⟨.rfl, trivial⟩)).trans (Wk.to (L := [(4, (i64 q6.1))]) ⟨.rfl, trivial⟩)) (And.intro rfl rfl)))
theorem laws_heldIntS_ok {N : Nat} {p0 : (List Int)} {p1 : Int} {r : Int} (h0 : laws_heldIntS N p0 p1 = some r) : ACalls Try.prog 14 [(.sl (List.map eI p0)), (i64 p1)] [] (fun v st => v = (i64 r) ∧ st = []) := by
 unfold laws_heldIntS at h0
 refine ACalls.intro Try.func14 rfl (by show 2 ≤ 21; decide) ?_
 show AW _ 0 _ (aret _ 0 Try.f14 _) ⟨21, _, _⟩
 refine AW.weaken (Wk.to (L := [(0, (.sl (List.map eI p0))), (1, (i64 p1))]) ⟨.rfl, .rfl, trivial⟩) ?_
 refine sr rfl fun K1 hK1 => ?_
 refine zq tb rfl ?_
 refine dn hK1 rfl ?_
 refine AW.seq fun K2 hK2 => ?_
 refine sr rfl fun K3 hK3 => ?_
 refine zq tb rfl ?_
 refine dn hK3 rfl ?_
 obtain ⟨o7, h1, h0⟩ := Sh.cont_some h0
 have M7 : ∀ (k6 : Int), o7 = Sum.inr k6 → ∀ s, Wk 0 s ⟨21, envL [(1, (i64 k6))], []⟩ → K2 s := by
  intro k6 hq s hw
  subst o7
  try dsimp only at h0
  refine hK2 _ (AW.weaken hw ?_)
  refine sr rfl fun K8 hK8 => ?_
  iterate 2 refine zq tb rfl ?_
  refine dn hK8 rfl ?_
  replace h0 := Sh.some_eq h0
  subst r
  exact AW.ret (xr (Wk.to (L := [(4, (i64 k6))]) ⟨.rfl, trivial⟩))
 refine AW.block (AW.loopF (σ := Int × Int) (fun n v => laws_heldIntS_L1 p0 n v.1 v.2 = some o7) (fun (k4, i5) => ⟨21, envL [(0, (.sl (List.map eI p0))), (1, (i64 k4)), (5, (i64 i5))], []⟩) N (p1, 0) h1 (Wk.tr rfl) (fun _ hv => by rw [laws_heldIntS_L1] at hv; cases hv) ?_)
 rintro n ⟨k4, i5⟩ h1
 try dsimp only at h1 ⊢
 rw [laws_heldIntS_L1] at h1
 refine AW.seq fun K9 hK9 => ?_
 refine sr rfl fun K10 hK10 => ?_
 iterate 2 refine zq tb rfl ?_
 refine zl tb rfl rfl ?_
 refine zq tb rfl ?_
 refine dn hK10 rfl ?_
 refine ci h1 rfl ?_ ?_ <;> clear h1
 ·intro b11 h1
  refine AW.skip (hK9 _ ?_)
  refine AW.seq fun K12 hK12 => ?_
  refine AW.block ?_
  refine AW.seq fun K13 hK13 => ?_
  refine sr rfl fun K14 hK14 => ?_
  iterate 2 refine zq tb rfl ?_
  obtain ⟨c15, gc15, h1⟩ := Sh.bind_some h1
  refine zx ei27 gc15 rfl rfl rfl ?_
  iterate 3 refine zq tb rfl ?_
  refine dn hK14 rfl ?_
  refine ci h1 rfl ?_ ?_ <;> clear h1
  ·intro b16 h1
   have b17 : decide (c15 = k4) = false := by simpa using b16
   refine sr rfl fun K18 hK18 => ?_
   refine zq tb rfl ?_
   refine dn hK18 rfl ?_
   replace h1 := Sh.some_eq h1
   subst o7
   try dsimp only [id] at h0
   replace h0 := Sh.some_eq h0
   subst r
   exact AW.ret (xr (Wk.to (L := [(4, (i64 (-1)))]) ⟨.rfl, trivial⟩))
  ·intro b16 h1
   have b19 : decide (c15 = k4) = true := by simpa using b16
   refine AW.skip (hK13 _ ?_)
   refine AW.regionO (by rfl) ?_
   iterate 3 refine zq tb rfl ?_
   refine dn hK12 rfl ?_
   refine AW.regionO (by rfl) ?_
   iterate 3 refine zq tb rfl ?_
   exact AO.done (xi (Sh.w (k4 + 1), Sh.w (i5 + 1)) h1 (Wk.tr rfl))
 ·intro b11 h1
  exact AW.exit (M7 k4 (Sh.some_eq h1).symm _ (Wk.tr rfl))
theorem laws_FnExactReachedCode_ok {N : Nat} {p0 : RImage} {p1 : Int} {r : Bool} (h0 : laws_FnExactReachedCode N p0 p1 = some r) : ACalls Try.prog 3 [(.agg (eRImage p0)), (i64 p1)] [] (fun v st => v = (.bool r) ∧ st = []) := by
 unfold laws_FnExactReachedCode at h0
 refine ACalls.intro Try.func3 rfl (by show 2 ≤ 74; decide) ?_
 show AW _ 0 _ (aret _ 0 Try.f3 _) ⟨74, _, _⟩
 refine AW.weaken (Wk.to (L := [(0, (.agg (eRImage p0))), (1, (i64 p1))]) ⟨.rfl, .rfl, trivial⟩) ?_
 refine sr rfl fun K1 hK1 => ?_
 refine ao_box (m := 0) (st' := [⟨0, 25, 2, [(eRImage p0)]⟩]) go0 rfl rfl rfl rfl rfl ?_
 refine zq tb rfl ?_
 refine dn hK1 rfl ?_
 refine sr rfl fun K2 hK2 => ?_
 refine zq tb rfl ?_
 refine dn hK2 rfl ?_
 refine sr rfl fun K3 hK3 => ?_
 iterate 2 refine zq tb rfl ?_
 obtain ⟨q4, gq4, h0⟩ := Sh.bind_some h0
 refine zc hb6 (laws_szImage_ok gq4) rfl rfl rfl ?_
 refine zq tb rfl ?_
 refine dn hK3 rfl ?_
 refine AW.seq fun K5 hK5 => ?_
 refine sr rfl fun K6 hK6 => ?_
 iterate 2 refine zq tb rfl ?_
 refine dn hK6 rfl ?_
 refine ci h0 rfl ?_ ?_ <;> clear h0
 ·intro b7 h0
  refine sr rfl fun K8 hK8 => ?_
  refine zq tb rfl ?_
  refine dn hK8 rfl ?_
  replace h0 := Sh.some_eq h0
  subst r
  exact AW.ret (xr (Wk.d0 [(4, (.bool true))] rfl))
 ·intro b7 h0
  refine AW.skip (hK5 _ ?_)
  refine sr rfl fun K9 hK9 => ?_
  refine zq tb rfl ?_
  obtain ⟨q10, gq10, h0⟩ := Sh.bind_some h0
  refine zc (v' := (.agg (eRImage q10))) hb8 (laws_toImage_ok gq10) rfl rfl rfl ?_
  refine zq tb rfl ?_
  obtain ⟨q11, gq11, h0⟩ := Sh.bind_some h0
  refine ao_call (v' := (.own 1 0 (List.length q11))) (st' := [⟨0, 25, 2, [(eRImage p0)]⟩, ⟨0, 3, 1, List.map eI q11⟩]) go0 hb7 (spec_ReachedCode_ok gq11) rfl rfl ⟨(pure_map' fun _ => rfl), trivial⟩ rfl rfl ?_
  refine zq tb rfl ?_
  refine dn hK9 rfl ?_
  refine sr rfl fun K12 hK12 => ?_
  refine zq tb rfl ?_
  obtain ⟨q13, gq13, h0⟩ := Sh.bind_some h0
  refine ao_call (v' := (.agg [(.own 2 0 (List.length q13.decls)), (.own 3 0 (List.length q13.procs))])) (st' := [⟨0, 25, 2, [(eRImage p0)]⟩, ⟨0, 3, 1, List.map eI q11⟩, ⟨0, 94, 3, List.map (eRDeclD 141 3) q13.decls⟩, ⟨0, 55, 5, List.map (eRProcD 3 3 63 3 3) q13.procs⟩]) go0 hb8 (laws_toImage_2_ok gq13) rfl rfl ⟨(pure_mapD fun _ => rfl), ⟨(pure_mapD fun _ => rfl), trivial⟩⟩ rfl rfl ?_
  refine ao_alloc (m := 4) (st' := [⟨0, 25, 2, [(eRImage p0)]⟩, ⟨0, 3, 1, List.map eI q11⟩, ⟨0, 94, 3, List.map (eRDeclD 141 3) q13.decls⟩, ⟨0, 55, 5, List.map (eRProcD 3 3 63 3 3) q13.procs⟩, ⟨0, 32, 2, [[.zc, .zc]]⟩]) go0 zi32 rfl rfl ?_
  refine ao_str (st' := [⟨0, 25, 2, [(eRImage p0)]⟩, ⟨0, 3, 1, List.map eI q11⟩, ⟨0, 94, 3, List.map (eRDeclD 141 3) q13.decls⟩, ⟨0, 55, 5, List.map (eRProcD 3 3 63 3 3) q13.procs⟩, ⟨0, 32, 2, [[(.own 2 0 (List.length q13.decls)), (.own 3 0 (List.length q13.procs))]]⟩]) go0 ti32 rfl rfl rfl rfl rfl rfl (show 0 + 2 ≤ 2 by decide) rfl ?_
  refine dn hK12 rfl ?_
  refine sr rfl fun K14 hK14 => ?_
  iterate 2 refine zq tb rfl ?_
  obtain ⟨q15, gq15, h0⟩ := Sh.bind_some h0
  refine ao_callb (v' := (.own 5 0 (List.length q15))) (st' := [⟨0, 25, 2, [(eRImage p0)]⟩, ⟨0, 3, 1, List.map eI q11⟩, ⟨0, 94, 3, List.map (eRDeclD 141 3) q13.decls⟩, ⟨0, 55, 5, List.map (eRProcD 3 3 63 3 3) q13.procs⟩, ⟨0, 32, 2, [[(.own 2 0 (List.length q13.decls)), (.own 3 0 (List.length q13.procs))]]⟩, ⟨0, 3, 1, List.map eI q15⟩]) go0 hb9 (impl_ReachedCode_ok gq15) rfl (.agg (.ownD rfl rfl (fun _ => rfl) (fun x => eRDeclD_und x) (.ownD rfl rfl (fun _ => rfl) (fun x => eRProcD_und x) .nil)) (.val rfl .nil)) rfl (srow (fun _ => rfl) trivial) rfl rfl ?_
  refine zq tb rfl ?_
  refine dn hK14 rfl ?_
  refine AW.seq fun K16 hK16 => ?_
  refine sr rfl fun K17 hK17 => ?_
  iterate 2 refine zq tb rfl ?_
  obtain ⟨q18, gq18, h0⟩ := Sh.bind_some h0
  refine ao_callb (v' := (.bool q18)) (st' := [⟨0, 25, 2, [(eRImage p0)]⟩, ⟨0, 3, 1, List.map eI q11⟩, ⟨0, 94, 3, List.map (eRDeclD 141 3) q13.decls⟩, ⟨0, 55, 5, List.map (eRProcD 3 3 63 3 3) q13.procs⟩, ⟨0, 32, 2, [[(.own 2 0 (List.length q13.decls)), (.own 3 0 (List.length q13.procs))]]⟩, ⟨0, 3, 1, List.map eI q15⟩]) go0 hb10 (laws_eqIntS_ok gq18) rfl (.own rfl rfl (fun _ => rfl) (.own rfl rfl (fun _ => rfl) .nil)) rfl trivial rfl rfl ?_
  refine zq tb rfl ?_
  refine dn hK17 rfl ?_
  refine ci h0 rfl ?_ ?_ <;> clear h0
  ·intro b19 h0
   have b20 : q18 = false := by simpa using b19
   refine sr rfl fun K21 hK21 => ?_
   refine zq tb rfl ?_
   refine dn hK21 rfl ?_
   replace h0 := Sh.some_eq h0
   subst r
   exact AW.ret (xr (Wk.d0 [(4, (.bool false))] rfl))
  ·intro b19 h0
   have b22 : q18 = true := by simpa using b19
   refine AW.skip (hK16 _ ?_)
   refine AW.seq fun K23 hK23 => ?_
   refine AW.seq fun K24 hK24 => ?_
   refine AW.draw (by kernel_rfl) (by kernel_rfl) (by rfl) ?_
   iterate 2 refine yq tb rfl ?_
   obtain ⟨q25, gq25, h0⟩ := Sh.bind_some h0
   refine d_call (v := (.agg (eRImage q25))) go0 hb8 (laws_toImage_ok gq25) rfl rfl rfl ?_
   obtain ⟨q26, gq26, h0⟩ := Sh.bind_some h0
   refine d_callb (v' := (.bool q26)) go0 hb11 (laws_eqImage_ok gq26) rfl (.agg (.ownD rfl rfl (fun _ => rfl) (fun x => eRDeclD_und x) (.ownD rfl rfl (fun _ => rfl) (fun x => eRProcD_und x) .nil)) (.val rfl .nil)) rfl rfl ?_
   refine yq tb rfl ?_
   refine d_done (hK24 _ ?_)
   refine ci h0 rfl ?_ ?_ <;> clear h0
   ·intro b27 h0
    have b28 : q26 = false := by simpa using b27
    refine sr rfl fun K29 hK29 => ?_
    refine zq tb rfl ?_
    refine dn hK29 rfl ?_
    replace h0 := Sh.some_eq h0
    subst r
    exact AW.ret (xr (Wk.d0 [(4, (.bool false))] rfl))
   ·intro b27 h0
    have b30 : q26 = true := by simpa using b27
    refine AW.skip (hK23 _ ?_)
    refine sr rfl fun K31 hK31 => ?_
    refine zq tb rfl ?_
    refine dn hK31 rfl ?_
    refine sr rfl fun K32 hK32 => ?_
    iterate 2 refine zq tb rfl ?_
    obtain ⟨q33, gq33, h0⟩ := Sh.bind_some h0
    refine ao_callsL (rowsP := [⟨0, 94, 3, List.map (eRDeclD 141 3) q13.decls⟩, ⟨0, 55, 5, List.map (eRProcD 3 3 63 3 3) q13.procs⟩]) (rows0 := [⟨0, 94, 3, List.map (eRDeclD 141 3) q13.decls⟩, ⟨0, 55, 5, List.map (eRProcD 3 3 63 3 3) q13.procs⟩]) (rows1 := [⟨0, 94, 3, List.map (eRDeclD 141 3) q33.2.1⟩, ⟨0, 55, 5, List.map (eRProcD 3 3 63 3 3) q33.2.2⟩]) (rows2 := []) (rows1' := [⟨0, 94, 3, List.map (eRDeclD 141 3) q33.2.1⟩, ⟨0, 55, 5, List.map (eRProcD 3 3 63 3 3) q33.2.2⟩]) (rows2' := []) (st' := [⟨0, 25, 2, [(eRImage p0)]⟩, ⟨0, 3, 1, List.map eI q11⟩, ⟨0, 94, 3, List.map (eRDeclD 141 3) q33.2.1⟩, ⟨0, 55, 5, List.map (eRProcD 3 3 63 3 3) q33.2.2⟩, ⟨0, 32, 2, [[(.own 2 0 (List.length q13.decls)), (.own 3 0 (List.length q13.procs))]]⟩, ⟨0, 3, 1, List.map eI q15⟩]) (v' := (i64 q33.1)) [2, 3] go0 hb12 (laws_markImage_ok gq33) rfl (by decide) rfl rfl (.deep (pure_mapD fun _ => rfl) (.deep (pure_mapD fun _ => rfl) .nil)) rfl rfl (.deep (pure_mapD fun _ => rfl) (.deep (pure_mapD fun _ => rfl) .nil)) .nil rfl rfl (fun hln => ?_)
    have ln34 : List.length q33.2.1 = List.length q13.decls := by simpa only [List.length_map] using hln 0 _ _ rfl rfl rfl
    have ln35 : List.length q33.2.2 = List.length q13.procs := by simpa only [List.length_map] using hln 1 _ _ rfl rfl rfl
    refine zq tb rfl ?_
    refine dn hK32 rfl ?_
    refine AW.seq fun K36 hK36 => ?_
    refine AW.seq fun K37 hK37 => ?_
    obtain ⟨o39, h1, h0⟩ := Sh.bind_some h0
    have M39 : ∀ (t38 : Bool), o39 = t38 → ∀ s, Wk 0 s ⟨74, envL [(1, (i64 p1)), (2, (.ptr 0 0 0 0)), (6, (.own 1 0 (List.length q11))), (8, (.own 2 0 (List.length q15))), (46, (.bool t38))], [⟨0, 25, 2, [(eRImage p0)]⟩, ⟨0, 3, 1, List.map eI q11⟩, ⟨0, 3, 1, List.map eI q15⟩]⟩ → K37 s := by
     intro t38 hq s hw
     subst o39
     try dsimp only at h0
     refine hK37 _ (AW.weaken hw ?_)
     refine ci h0 rfl ?_ ?_ <;> clear h0
     ·intro b40 h0
      refine sr rfl fun K41 hK41 => ?_
      refine zq tb rfl ?_
      refine dn hK41 rfl ?_
      replace h0 := Sh.some_eq h0
      subst r
      exact AW.ret (xr (Wk.d0 [(4, (.bool false))] rfl))
     ·intro b40 h0
      refine AW.skip (hK36 _ ?_)
      refine sr rfl fun K42 hK42 => ?_
      refine zq tb rfl ?_
      refine dn hK42 rfl ?_
      refine sr rfl fun K43 hK43 => ?_
      iterate 2 refine zq tb rfl ?_
      obtain ⟨q44, gq44, h0⟩ := Sh.bind_some h0
      refine ao_callsL (rowsP := [⟨0, 3, 1, List.map eI q15⟩]) (rows0 := [⟨0, 3, 1, List.map eI q15⟩]) (rows1 := [⟨0, 3, 1, List.map eI q44.2⟩]) (rows2 := []) (rows1' := [⟨0, 3, 1, List.map eI q44.2⟩]) (rows2' := []) (st' := [⟨0, 25, 2, [(eRImage p0)]⟩, ⟨0, 3, 1, List.map eI q11⟩, ⟨0, 3, 1, List.map eI q44.2⟩]) (v' := (i64 q44.1)) [2] go0 hb13 (laws_markIntS_ok gq44) rfl (by decide) rfl rfl (.pure (pure_map fun _ => rfl) .nil) rfl rfl (.pure (pure_map fun _ => rfl) .nil) .nil rfl rfl (fun hln => ?_)
      have ln45 : List.length q44.2 = List.length q15 := by simpa only [List.length_map] using hln 0 _ _ rfl rfl rfl
      refine zq tb rfl ?_
      refine dn hK43 rfl ?_
      refine sr rfl fun K46 hK46 => ?_
      refine zq tb rfl ?_
      refine dn hK46 rfl ?_
      refine sr rfl fun K47 hK47 => ?_
      iterate 2 refine zq tb rfl ?_
      obtain ⟨q48, gq48, h0⟩ := Sh.bind_some h0
      refine ao_callb (v' := (i64 q48)) (st' := [⟨0, 25, 2, [(eRImage p0)]⟩, ⟨0, 3, 1, List.map eI q11⟩, ⟨0, 3, 1, List.map eI q44.2⟩]) go0 hb14 (laws_heldIntS_ok gq48) rfl (.own rfl (by first | (simp only [Sh.put_len]; done) | (simp only [Sh.put_len]; omega) | omega) (fun _ => rfl) (.val rfl .nil)) rfl trivial rfl rfl ?_
      refine zq tb rfl ?_
      refine dn hK47 rfl ?_
      refine AW.seq fun K49 hK49 => ?_
      refine sr rfl fun K50 hK50 => ?_
      iterate 2 refine zq tb rfl ?_
      refine dn hK50 rfl ?_
      refine ci h0 rfl ?_ ?_ <;> clear h0
      ·intro b51 h0
       refine sr rfl fun K52 hK52 => ?_
       refine zq tb rfl ?_
       refine dn hK52 rfl ?_
       replace h0 := Sh.some_eq h0
       subst r
       exact AW.ret (xr (Wk.d0 [(4, (.bool false))] rfl))
      ·intro b51 h0
       refine AW.skip (hK49 _ ?_)
       refine AW.seq fun K53 hK53 => ?_
       refine sr rfl fun K54 hK54 => ?_
       iterate 3 refine zq tb rfl ?_
       refine dn hK54 rfl ?_
       refine ci h0 rfl ?_ ?_ <;> clear h0
       ·intro b55 h0
        have b56 : decide (q48 = q44.1) = false := by simpa using b55
        refine sr rfl fun K57 hK57 => ?_
        refine zq tb rfl ?_
        refine dn hK57 rfl ?_
        replace h0 := Sh.some_eq h0
        subst r
        exact AW.ret (xr (Wk.d0 [(4, (.bool false))] rfl))
       ·intro b55 h0
        have b58 : decide (q48 = q44.1) = true := by simpa using b55
        refine AW.skip (hK53 _ ?_)
        refine sr rfl fun K59 hK59 => ?_
        refine zq tb rfl ?_
        obtain ⟨q60, gq60, h0⟩ := Sh.bind_some h0
        refine zc (v' := (.agg (eRImage q60))) hb8 (laws_toImage_ok gq60) rfl rfl rfl ?_
        refine zq tb rfl ?_
        obtain ⟨q61, gq61, h0⟩ := Sh.bind_some h0
        refine ao_call (v' := (.own 3 0 (List.length q61))) (st' := [⟨0, 25, 2, [(eRImage p0)]⟩, ⟨0, 3, 1, List.map eI q11⟩, ⟨0, 3, 1, List.map eI q44.2⟩, ⟨0, 3, 1, List.map eI q61⟩]) go0 hb9 (impl_ReachedCode_ok gq61) rfl rfl ⟨(pure_map' fun _ => rfl), trivial⟩ rfl rfl ?_
        refine zq tb rfl ?_
        refine dn hK59 rfl ?_
        refine AW.seq fun K62 hK62 => ?_
        refine sr rfl fun K63 hK63 => ?_
        iterate 2 refine zq tb rfl ?_
        refine AO.weaken (Wk.frz (L := [(8, (.own 2 0 (List.length q15))), (10, (i64 q44.1)), (62, (.sl (List.map eI q61))), (63, (.own 1 0 (List.length q11)))]) (st' := [⟨0, 25, 2, [(eRImage p0)]⟩, ⟨0, 3, 1, List.map eI q11⟩, ⟨0, 3, 1, List.map eI q44.2⟩, ⟨1, 3, 1, []⟩]) (id := 3) rfl (show 0 ≤ 3 by decide) (pure_map fun _ => rfl) ⟨.rfl, .rfl, (.frz rfl), .rfl, trivial⟩ rfl) ?_
        refine AO.weaken (Wk.frz (L := [(8, (.own 2 0 (List.length q15))), (10, (i64 q44.1)), (62, (.sl (List.map eI q61))), (63, (.sl (List.map eI q11)))]) (st' := [⟨0, 25, 2, [(eRImage p0)]⟩, ⟨1, 3, 1, []⟩, ⟨0, 3, 1, List.map eI q44.2⟩, ⟨1, 3, 1, []⟩]) (id := 1) rfl (show 0 ≤ 1 by decide) (pure_map fun _ => rfl) ⟨.rfl, .rfl, .rfl, (.frz rfl), trivial⟩ rfl) ?_
        obtain ⟨q64, gq64, h0⟩ := Sh.bind_some h0
        refine zc hb10 (laws_eqIntS_ok gq64) rfl rfl rfl ?_
        refine zq tb rfl ?_
        refine dn hK63 rfl ?_
        refine ci h0 rfl ?_ ?_ <;> clear h0
        ·intro b65 h0
         have b66 : q64 = false := by simpa using b65
         refine sr rfl fun K67 hK67 => ?_
         refine zq tb rfl ?_
         refine dn hK67 rfl ?_
         replace h0 := Sh.some_eq h0
         subst r
         exact AW.ret (xr (Wk.d0 [(4, (.bool false))] rfl))
        ·intro b65 h0
         have b68 : q64 = true := by simpa using b65
         refine AW.skip (hK62 _ ?_)
         refine sr rfl fun K69 hK69 => ?_
         refine zq tb rfl ?_
         refine dn hK69 rfl ?_
         refine sr rfl fun K70 hK70 => ?_
         iterate 2 refine zq tb rfl ?_
         refine AO.weaken (Wk.frz (L := [(10, (i64 q44.1)), (66, (.sl (List.map eI q44.2))), (67, (i64 1))]) (st' := [⟨0, 25, 2, [(eRImage p0)]⟩, ⟨1, 3, 1, []⟩, ⟨1, 3, 1, []⟩, ⟨1, 3, 1, []⟩]) (id := 2) rfl (show 0 ≤ 2 by decide) (pure_map fun _ => rfl) ⟨.rfl, (.frz (by first | (simp only [Sh.put_len]; done) | (simp only [Sh.put_len]; omega) | omega)), .rfl, trivial⟩ rfl) ?_
         obtain ⟨q71, gq71, h0⟩ := Sh.bind_some h0
         refine zc hb14 (laws_heldIntS_ok gq71) rfl rfl rfl ?_
         refine zq tb rfl ?_
         refine dn hK70 rfl ?_
         refine AW.seq fun K72 hK72 => ?_
         refine sr rfl fun K73 hK73 => ?_
         iterate 2 refine zq tb rfl ?_
         refine dn hK73 rfl ?_
         refine ci h0 rfl ?_ ?_ <;> clear h0
         ·intro b74 h0
          refine sr rfl fun K75 hK75 => ?_
          refine zq tb rfl ?_
          refine dn hK75 rfl ?_
          replace h0 := Sh.some_eq h0
          subst r
          exact AW.ret (xr (Wk.d0 [(4, (.bool false))] rfl))
         ·intro b74 h0
          refine AW.skip (hK72 _ ?_)
          refine AW.seq fun K76 hK76 => ?_
          refine sr rfl fun K77 hK77 => ?_
          iterate 3 refine zq tb rfl ?_
          refine dn hK77 rfl ?_
          refine ci h0 rfl ?_ ?_ <;> clear h0
          ·intro b78 h0
           have b79 : decide (q71 = q44.1) = false := by simpa using b78
           refine sr rfl fun K80 hK80 => ?_
           refine zq tb rfl ?_
           refine dn hK80 rfl ?_
           replace h0 := Sh.some_eq h0
           subst r
           exact AW.ret (xr (Wk.d0 [(4, (.bool false))] rfl))
          ·intro b78 h0
           have b81 : decide (q71 = q44.1) = true := by simpa using b78
           refine AW.skip (hK76 _ ?_)
           refine sr rfl fun K82 hK82 => ?_
           refine zq tb rfl ?_
           refine dn hK82 rfl ?_
           replace h0 := Sh.some_eq h0
           subst r
           exact AW.ret (xr (Wk.d0 [(4, (.bool true))] rfl))
    refine AW.regionO (by rfl) ?_
    iterate 3 refine zq tb rfl ?_
    rcases Sh.ite_some h1 with ⟨b83, h1⟩ | ⟨b83, h1⟩
    ·refine zs b83 rfl ?_
     iterate 3 refine zs b83 rfl ?_
     refine zt b83 rfl ?_
     exact AO.done (M39 true (Sh.some_eq h1).symm _ (by refine Wk.trans (Wk.steq (st := [⟨0, 25, 2, [(eRImage p0)]⟩, ⟨0, 3, 1, List.map eI q11⟩, ⟨0, 94, 3, List.map (eRDeclD 141 3) q33.2.1⟩, ⟨0, 55, 5, List.map (eRProcD 3 3 63 3 3) q33.2.2⟩, ⟨0, 32, 2, [[(.own 2 0 (List.length q13.decls)), (.own 3 0 (List.length q13.procs))]]⟩, ⟨0, 3, 1, List.map eI q15⟩]) (st' := [⟨0, 25, 2, [(eRImage p0)]⟩, ⟨0, 3, 1, List.map eI q11⟩, ⟨0, 94, 3, List.map (eRDeclD 141 3) q33.2.1⟩, ⟨0, 55, 5, List.map (eRProcD 3 3 63 3 3) q33.2.2⟩, ⟨0, 32, 2, [[(.own 2 0 (List.length q33.2.1)), (.own 3 0 (List.length q33.2.2))]]⟩, ⟨0, 3, 1, List.map eI q15⟩]) (by first | (simp only [Sh.put_len]; done) | simp only [Sh.put_len, ln34, ln35] | simp only [ln34, ln35])) ?_; exact Wk.permk (L := [(1, (i64 p1)), (2, (.ptr 0 0 0 0)), (6, (.own 1 0 (List.length q11))), (8, (.own 2 0 (List.length q15))), (46, (.bool true))]) (st' := [⟨0, 25, 2, [(eRImage p0)]⟩, ⟨0, 3, 1, List.map eI q11⟩, ⟨0, 3, 1, List.map eI q15⟩]) (st1 := [⟨0, 25, 2, [(eRImage p0)]⟩, ⟨0, 3, 1, List.map eI q11⟩, ⟨0, 3, 1, List.map eI q15⟩]) [0, 1, 5] rfl .nil (by decide) rfl rfl (.raw rfl rfl (.pure (pure_map fun _ => rfl) (.pure (pure_map fun _ => rfl) .nil))) ⟨.rfl, .rfl, .rfl, .rfl, .rfl, trivial⟩))
    ·refine zg tb b83 rfl ?_
     refine zg tb b83 rfl ?_
     obtain ⟨q84, gq84, h1⟩ := Sh.bind_some h1
     refine ao_callb (v' := (.bool q84)) (st' := [⟨0, 25, 2, [(eRImage p0)]⟩, ⟨0, 3, 1, List.map eI q11⟩, ⟨0, 94, 3, List.map (eRDeclD 141 3) q33.2.1⟩, ⟨0, 55, 5, List.map (eRProcD 3 3 63 3 3) q33.2.2⟩, ⟨0, 32, 2, [[(.own 2 0 (List.length q13.decls)), (.own 3 0 (List.length q13.procs))]]⟩, ⟨0, 3, 1, List.map eI q15⟩]) (go1 rfl rfl b83) hb10 (laws_eqIntS_ok gq84) rfl (.own rfl rfl (fun _ => rfl) (.own rfl rfl (fun _ => rfl) .nil)) rfl trivial rfl rfl ?_
     refine zg tb b83 rfl ?_
     refine zf b83 rfl ?_
     exact AO.done (M39 (!q84) (Sh.some_eq h1).symm _ (by refine Wk.trans (Wk.steq (st := [⟨0, 25, 2, [(eRImage p0)]⟩, ⟨0, 3, 1, List.map eI q11⟩, ⟨0, 94, 3, List.map (eRDeclD 141 3) q33.2.1⟩, ⟨0, 55, 5, List.map (eRProcD 3 3 63 3 3) q33.2.2⟩, ⟨0, 32, 2, [[(.own 2 0 (List.length q13.decls)), (.own 3 0 (List.length q13.procs))]]⟩, ⟨0, 3, 1, List.map eI q15⟩]) (st' := [⟨0, 25, 2, [(eRImage p0)]⟩, ⟨0, 3, 1, List.map eI q11⟩, ⟨0, 94, 3, List.map (eRDeclD 141 3) q33.2.1⟩, ⟨0, 55, 5, List.map (eRProcD 3 3 63 3 3) q33.2.2⟩, ⟨0, 32, 2, [[(.own 2 0 (List.length q33.2.1)), (.own 3 0 (List.length q33.2.2))]]⟩, ⟨0, 3, 1, List.map eI q15⟩]) (by first | (simp only [Sh.put_len]; done) | simp only [Sh.put_len, ln34, ln35] | simp only [ln34, ln35])) ?_; exact Wk.permk (L := [(1, (i64 p1)), (2, (.ptr 0 0 0 0)), (6, (.own 1 0 (List.length q11))), (8, (.own 2 0 (List.length q15))), (46, (.bool (!q84)))]) (st' := [⟨0, 25, 2, [(eRImage p0)]⟩, ⟨0, 3, 1, List.map eI q11⟩, ⟨0, 3, 1, List.map eI q15⟩]) (st1 := [⟨0, 25, 2, [(eRImage p0)]⟩, ⟨0, 3, 1, List.map eI q11⟩, ⟨0, 3, 1, List.map eI q15⟩]) [0, 1, 5] rfl .nil (by decide) rfl rfl (.raw rfl rfl (.pure (pure_map fun _ => rfl) (.pure (pure_map fun _ => rfl) .nil))) ⟨.rfl, .rfl, .rfl, .rfl, .rfl, trivial⟩))
end Go.Proofs.Ytgcghdgbahfcjaa

