import Derived.Test.YtgcghdgbahfcjaaGreatProg
import Derived.Test.YtgcghdgbahfcjaaGreatOCDefs
import Derived.Test.YtgcghdgbahfcjaaGreatOCWalkP1
namespace Go.Proofs.YtgcghdgbahfcjaaGreat
open Go Go.Abs RC
attribute [local irreducible] Go.Abs.dops
set_option maxRecDepth 100000
set_option maxHeartbeats 4000000

theorem hb100 : hasBody Tryz.prog 100 = true := by kernel_rfl
theorem hb101 : hasBody Tryz.prog 101 = true := by kernel_rfl
theorem hb102 : hasBody Tryz.prog 102 = true := by kernel_rfl
theorem hb110 : hasBody Tryz.prog 110 = true := by kernel_rfl
theorem hb111 : hasBody Tryz.prog 111 = true := by kernel_rfl
theorem hb12 : hasBody Tryz.prog 12 = true := by kernel_rfl
theorem hb128 : hasBody Tryz.prog 128 = true := by kernel_rfl
theorem hb130 : hasBody Tryz.prog 130 = true := by kernel_rfl
theorem hb131 : hasBody Tryz.prog 131 = true := by kernel_rfl
theorem hb146 : hasBody Tryz.prog 146 = true := by kernel_rfl
theorem hb17 : hasBody Tryz.prog 17 = true := by kernel_rfl
theorem hb35 : hasBody Tryz.prog 35 = true := by kernel_rfl
theorem hb36 : hasBody Tryz.prog 36 = true := by kernel_rfl
theorem hb37 : hasBody Tryz.prog 37 = true := by kernel_rfl
theorem hb38 : hasBody Tryz.prog 38 = true := by kernel_rfl
theorem hb39 : hasBody Tryz.prog 39 = true := by kernel_rfl
theorem hb40 : hasBody Tryz.prog 40 = true := by kernel_rfl
theorem hb65 : hasBody Tryz.prog 65 = true := by kernel_rfl
theorem hb66 : hasBody Tryz.prog 66 = true := by kernel_rfl
theorem hb67 : hasBody Tryz.prog 67 = true := by kernel_rfl
theorem hb68 : hasBody Tryz.prog 68 = true := by kernel_rfl
theorem hb69 : hasBody Tryz.prog 69 = true := by kernel_rfl
theorem hb70 : hasBody Tryz.prog 70 = true := by kernel_rfl
theorem hb71 : hasBody Tryz.prog 71 = true := by kernel_rfl
theorem hb72 : hasBody Tryz.prog 72 = true := by kernel_rfl
theorem hb93 : hasBody Tryz.prog 93 = true := by kernel_rfl
theorem hb94 : hasBody Tryz.prog 94 = true := by kernel_rfl
theorem hb95 : hasBody Tryz.prog 95 = true := by kernel_rfl
theorem hb96 : hasBody Tryz.prog 96 = true := by kernel_rfl
theorem hb98 : hasBody Tryz.prog 98 = true := by kernel_rfl
theorem hb99 : hasBody Tryz.prog 99 = true := by kernel_rfl
theorem sl35 : isSliceT Tryz.prog 35 = true := by kernel_rfl

theorem impl_ValidImage_ok {N : Nat} {p0 : RImage} {r : Bool} (h0 : impl_ValidImage N p0 = some r) : ACalls Tryz.prog 65 [(.agg (eRImage p0))] [] (fun v st => v = (.bool r) ∧ st = []) := by
 unfold impl_ValidImage at h0
 refine ai Tryz.func65 rfl rfl rfl rfl (sr rfl fun K1 hK1 => ao_box (m := 0) go0 rfl rfl rfl rfl rfl (zq tb rfl (dn hK1 rfl (sr rfl fun K2 hK2 => zq tb rfl (bs h0 fun q3 gq3 h0 => zc (v' := (.tup [(.agg (eRSignatures q3.1)), (.bool q3.2)])) hb93 (impl_imageSigs_ok gq3) rfl rfl rfl (zm tb 3 rfl (ao_alloc (m := 1) go0 zi134 rfl rfl (ao_str go0 ti134 rfl rfl rfl rfl rfl rfl (show 0 + 2 ≤ 2 by decide) rfl ?_))))))))
 refine zq tb rfl (dn hK2 rfl (AW.seq fun K4 hK4 => zr tb rfl rfl ?_))
 refine ci h0 rfl ?_ ?_ <;> clear h0
 ·intro b6 h0
  have b7 : q3.2 = false := by simpa using b6
  refine zr tb rfl rfl ?_
  replace h0 := Sh.some_eq h0
  subst r
  exact AW.ret (xr (Wk.d0 [(2, (.bool false))] rfl))
 ·intro b6 h0
  have b9 : q3.2 = true := by simpa using b6
  refine AW.skip (hK4 _ (AW.seq fun K10 hK10 => sr rfl fun K11 hK11 => zm tb 2 rfl (zl tb rfl rfl (zq tb rfl (dn hK11 rfl ?_)))))
  obtain ⟨o13, h1, h0⟩ := Sh.cont_some h0
  have M13 : ∀ (_ : Unit), o13 = Sum.inr () → ∀ s, Wk 0 s ⟨79, envL [], []⟩ → K10 s := by
   intro _ hq s hw
   subst o13
   try dsimp only at h0
   refine hK10 _ (AW.weaken hw (zr tb rfl rfl ?_))
   replace h0 := Sh.some_eq h0
   subst r
   exact AW.ret (xr (Wk.to (L := [(2, (.bool true))]) ⟨.rfl, trivial⟩))
  refine AW.block (AW.loopF (σ := Int) (fun n v => impl_ValidImage_L1 N p0 q3 n v = some o13) (fun t12 => ⟨79, envL [(3, (.ptr 0 0 0 0)), (18, (ls eRProc p0.procs)), (19, (i64 (Sh.len p0.procs))), (20, (i64 t12))], [⟨0, 134, 2, [(eRSignatures q3.1)]⟩]⟩) N 0 h1 (Wk.permk (L := [(3, (.ptr 0 0 0 0)), (18, (ls eRProc p0.procs)), (19, (i64 (Sh.len p0.procs))), (20, (i64 0))]) (st' := [⟨0, 134, 2, [(eRSignatures q3.1)]⟩]) (st1 := [⟨0, 134, 2, [(eRSignatures q3.1)]⟩]) [1] rfl .nil (by decide) rfl rfl (.raw rfl rfl .nil) ⟨.rfl, .rfl, .rfl, .rfl, trivial⟩) (fun _ hv => by rw [impl_ValidImage_L1] at hv; cases hv) ?_)
  rintro n t12 h1
  try dsimp only at h1 ⊢
  rw [impl_ValidImage_L1] at h1
  refine zr tb rfl rfl (AW.seq fun K16 hK16 => ?_)
  refine ci h1 rfl ?_ ?_ <;> clear h1
  ·intro b17 h1
   refine AW.skip (hK16 _ (AW.seq fun K18 hK18 => AW.block (sr rfl fun K19 hK19 => bs h1 fun c20 gc20 h1 => zx ei35 gc20 rfl rfl rfl (zq tb rfl (ao_alloc (m := 1) go0 zi102 rfl rfl (ao_str go0 ti102 rfl rfl rfl rfl rfl rfl (show 0 + 5 ≤ 5 by decide) rfl (dn hK19 rfl (AW.seq fun K21 hK21 => AW.seq fun K22 hK22 => ?_))))))))
   refine bs h1 fun o24 h2 h1 => ?_
   have M24 : ∀ (t23 : Bool), o24 = t23 → ∀ s, Wk 0 s ⟨79, envL [(3, (.ptr 0 0 0 0)), (6, (.ptr 1 0 0 0)), (18, (ls eRProc p0.procs)), (19, (i64 (Sh.len p0.procs))), (20, (i64 t12)), (47, (.bool t23))], [⟨0, 134, 2, [(eRSignatures q3.1)]⟩, ⟨0, 102, 5, [(eRProc c20)]⟩]⟩ → K22 s := by
    intro t23 hq s hw
    subst o24
    try dsimp only at h1
    refine hK22 _ (AW.weaken hw ?_)
    refine ci h1 rfl ?_ ?_ <;> clear h1
    ·intro b25 h1
     refine zr tb rfl rfl ?_
     replace h1 := Sh.some_eq h1
     subst o13
     try dsimp only [id] at h0
     replace h0 := Sh.some_eq h0
     subst r
     exact AW.ret (xr (Wk.d0 [(2, (.bool false))] rfl))
    ·intro b25 h1
     refine AW.skip (hK21 _ (AW.seq fun K27 hK27 => sr rfl fun K28 hK28 => zm tb 4 rfl (zl tb rfl rfl (zq tb rfl (bs h1 fun c29 gc29 h1 => zx ei100 gc29 rfl rfl rfl (zm tb 3 rfl (dn hK28 rfl (AW.seq fun K30 hK30 => bs h1 fun o32 h2 h1 => ?_))))))))
     have M32 : ∀ (t31 : Bool), o32 = t31 → ∀ s, Wk 0 s ⟨79, envL [(3, (.ptr 0 0 0 0)), (6, (.ptr 1 0 0 0)), (18, (ls eRProc p0.procs)), (19, (i64 (Sh.len p0.procs))), (20, (i64 t12)), (62, (.bool t31))], [⟨0, 134, 2, [(eRSignatures q3.1)]⟩, ⟨0, 102, 5, [(eRProc c20)]⟩]⟩ → K30 s := by
      intro t31 hq s hw
      subst o32
      try dsimp only at h1
      refine hK30 _ (AW.weaken hw ?_)
      refine ci h1 rfl ?_ ?_ <;> clear h1
      ·intro b33 h1
       refine zr tb rfl rfl ?_
       replace h1 := Sh.some_eq h1
       subst o13
       try dsimp only [id] at h0
       replace h0 := Sh.some_eq h0
       subst r
       exact AW.ret (xr (Wk.d0 [(2, (.bool false))] rfl))
      ·intro b33 h1
       refine AW.skip (hK27 _ (sr rfl fun K35 hK35 => zm tb 2 rfl (zl tb rfl rfl (zq tb rfl (dn hK35 rfl ?_)))))
       obtain ⟨o37, h2, h1⟩ := Sh.cont_some h1
       have M37 : ∀ (_ : Unit), o37 = Sum.inr () → ∀ s, Wk 0 s ⟨79, envL [(3, (.ptr 0 0 0 0)), (18, (ls eRProc p0.procs)), (19, (i64 (Sh.len p0.procs))), (20, (i64 t12))], [⟨0, 134, 2, [(eRSignatures q3.1)]⟩]⟩ → K18 s := by
        intro _ hq s hw
        subst o37
        try dsimp only at h1
        exact hK18 _ (AW.weaken hw (AW.regionO rfl (zm tb 2 rfl (AO.done (xi (Sh.w (t12 + 1)) h1 (Wk.tr rfl))))))
       refine AW.block (AW.loopF (σ := Int) (fun n v => impl_ValidImage_L2 N c20 q3 n v = some o37) (fun t36 => ⟨79, envL [(3, (.ptr 0 0 0 0)), (6, (.ptr 1 0 0 0)), (18, (ls eRProc p0.procs)), (19, (i64 (Sh.len p0.procs))), (20, (i64 t12)), (64, (ls eRInstr c20.code)), (65, (i64 (Sh.len c20.code))), (66, (i64 t36))], [⟨0, 134, 2, [(eRSignatures q3.1)]⟩, ⟨0, 102, 5, [(eRProc c20)]⟩]⟩) N 0 h2 (Wk.tr rfl) (fun _ hv => by rw [impl_ValidImage_L2] at hv; cases hv) ?_)
       rintro n t36 h2
       try dsimp only at h2 ⊢
       rw [impl_ValidImage_L2] at h2
       refine zr tb rfl rfl (AW.seq fun K39 hK39 => ?_)
       refine ci h2 rfl ?_ ?_ <;> clear h2
       ·intro b40 h2
        refine AW.skip (hK39 _ (AW.seq fun K41 hK41 => AW.block (sr rfl fun K42 hK42 => zq tb rfl (bs h2 fun c43 gc43 h2 => zx ei100 gc43 rfl rfl rfl (zq tb rfl (ao_alloc (m := 2) go0 zi138 rfl rfl (zq tb rfl (ao_str go0 ti138 rfl rfl rfl rfl rfl rfl (show 0 + 6 ≤ 6 by decide) rfl (dn hK42 rfl ?_)))))))))
        refine sr rfl fun K44 hK44 => zm tb 4 rfl (bs h2 fun q45 gq45 h2 => zc hb94 (impl_signatures_instrValid_ok gq45) rfl rfl rfl (zq tb rfl (dn hK44 rfl ?_)))
        refine ci h2 rfl ?_ ?_ <;> clear h2
        ·intro b46 h2
         have b47 : q45 = false := by simpa using b46
         refine zr tb rfl rfl ?_
         replace h2 := Sh.some_eq h2
         subst o37
         try dsimp only [id] at h1
         replace h1 := Sh.some_eq h1
         subst o13
         try dsimp only [id] at h0
         replace h0 := Sh.some_eq h0
         subst r
         exact AW.ret (xr (Wk.d0 [(2, (.bool false))] rfl))
        ·intro b46 h2
         have b49 : q45 = true := by simpa using b46
         refine AW.skip (hK41 _ (AW.regionO rfl (zm tb 2 rfl ?_)))
         exact AO.done (xi (Sh.w (t36 + 1)) h2 (Wk.permk (L := [(3, (.ptr 0 0 0 0)), (6, (.ptr 1 0 0 0)), (18, (ls eRProc p0.procs)), (19, (i64 (Sh.len p0.procs))), (20, (i64 t12)), (64, (ls eRInstr c20.code)), (65, (i64 (Sh.len c20.code))), (66, (i64 (Sh.w (t36 + 1))))]) (st' := [⟨0, 134, 2, [(eRSignatures q3.1)]⟩, ⟨0, 102, 5, [(eRProc c20)]⟩]) (st1 := [⟨0, 134, 2, [(eRSignatures q3.1)]⟩, ⟨0, 102, 5, [(eRProc c20)]⟩]) [0, 1] rfl .nil (by decide) rfl rfl (.raw rfl rfl (.raw rfl rfl .nil)) ⟨.rfl, .rfl, .rfl, .rfl, .rfl, .rfl, .rfl, .rfl, trivial⟩))
       ·intro b40 h2
        exact AW.exit (M37 () (Sh.some_eq h2).symm _ (Wk.permk (L := [(3, (.ptr 0 0 0 0)), (18, (ls eRProc p0.procs)), (19, (i64 (Sh.len p0.procs))), (20, (i64 t12))]) (st' := [⟨0, 134, 2, [(eRSignatures q3.1)]⟩]) (st1 := [⟨0, 134, 2, [(eRSignatures q3.1)]⟩]) [0] rfl .nil (by decide) rfl rfl (.raw rfl rfl .nil) ⟨.rfl, .rfl, .rfl, .rfl, trivial⟩))
     refine AW.regionO rfl (zm tb 3 rfl ?_)
     rcases Sh.ite_some h2 with ⟨b50, h2⟩ | ⟨b50, h2⟩
     ·exact zg tb b50 rfl (zg tb b50 rfl (zt b50 rfl (AO.done (M32 (!decide (c29.op = 24)) (Sh.some_eq h2).symm _ (Wk.tr rfl)))))
     ·exact zs b50 rfl (zs b50 rfl (zf b50 rfl (AO.done (M32 false (Sh.some_eq h2).symm _ (Wk.tr rfl)))))
   refine AW.regionO rfl (zm tb 4 rfl (zl tb rfl rfl (zz (i64 (if (Sh.len c20.params) > 1 then (Sh.len c20.params) else 1)) (aq_max rfl rfl) rfl (zm tb 2 rfl ?_))))
   rcases Sh.ite_some h2 with ⟨b51, h2⟩ | ⟨b51, h2⟩
   ·refine zs b51 rfl (zs b51 rfl (zs b51 rfl (zt b51 rfl (zq tb rfl ?_))))
    iterate 4 refine zs rfl rfl ?_
    refine zt rfl rfl (zq tb rfl ?_)
    iterate 4 refine zs rfl rfl ?_
    exact zt rfl rfl (AO.done (M24 true (Sh.some_eq h2).symm _ (Wk.tr rfl)))
   ·refine zg tb b51 rfl (zg tb b51 rfl (zg tb b51 rfl (zf b51 rfl (zq tb rfl ?_))))
    rcases Sh.ite_some h2 with ⟨b52, h2⟩ | ⟨b52, h2⟩
    ·refine zs b52 rfl ?_
     iterate 3 refine zs b52 rfl ?_
     refine zt b52 rfl (zq tb rfl ?_)
     iterate 4 refine zs rfl rfl ?_
     exact zt rfl rfl (AO.done (M24 true (Sh.some_eq h2).symm _ (Wk.tr rfl)))
    ·refine zg tb b52 rfl (zg tb b52 rfl (ao_q (v := (i64 (Sh.len c20.code))) (go1 rfl rfl b52) rfl (aq_lens sl100 rfl) (zg tb b52 rfl (zf b52 rfl (zq tb rfl ?_)))))
     rcases Sh.ite_some h2 with ⟨b53, h2⟩ | ⟨b53, h2⟩
     ·refine zs b53 rfl ?_
      iterate 3 refine zs b53 rfl ?_
      exact zt b53 rfl (AO.done (M24 true (Sh.some_eq h2).symm _ (Wk.tr rfl)))
     ·exact zg tb b53 rfl (zg tb b53 rfl (ao_q (v := (i64 (Sh.len c20.code))) (go1 rfl rfl b53) rfl (aq_lens sl100 rfl) (zg tb b53 rfl (zf b53 rfl (AO.done (M24 (decide (2000 < (Sh.len c20.code))) (Sh.some_eq h2).symm _ (Wk.tr rfl)))))))
  ·intro b17 h1
   exact AW.exit (M13 () (Sh.some_eq h1).symm _ (Wk.d0 _ rfl))
theorem impl_isInt_ok {p0 : Int} {r : Bool} (h0 : impl_isInt p0 = some r) : ACalls Tryz.prog 95 [(i64 p0)] [] (fun v st => v = (.bool r) ∧ st = []) := by
 unfold impl_isInt at h0
 refine ai Tryz.func95 rfl rfl rfl rfl (zr tb rfl rfl (AW.seq fun K2 hK2 => bs h0 fun o4 h1 h0 => ?_))
 have M4 : ∀ (t3 : Bool), o4 = t3 → ∀ s, Wk 0 s ⟨9, envL [(2, (.bool t3))], []⟩ → K2 s := by
  intro t3 hq s hw
  subst o4
  try dsimp only at h0
  refine hK2 _ (AW.weaken hw ?_)
  replace h0 := Sh.some_eq h0
  subst r
  exact AW.ret (xr (Wk.to (L := [(2, (.bool t3))]) ⟨.rfl, trivial⟩))
 refine AW.regionO rfl (zm tb 3 rfl ?_)
 rcases Sh.ite_some h1 with ⟨b5, h1⟩ | ⟨b5, h1⟩
 ·exact zg tb b5 rfl (zg tb b5 rfl (zt b5 rfl (zq tb rfl (AO.done (M4 (decide (p0 ≤ 999)) (Sh.some_eq h1).symm _ (Wk.tr rfl))))))
 ·exact zs b5 rfl (zs b5 rfl (zf b5 rfl (zq tb rfl (AO.done (M4 false (Sh.some_eq h1).symm _ (Wk.tr rfl))))))
theorem impl_liveAt_ok {p0 : (List Cell)} {p1 : Int} {r : Int × Bool} (h0 : impl_liveAt p0 p1 = some r) : ACalls Tryz.prog 111 [(ls eCell p0), (i64 p1)] [] (fun v st => v = (.tup [(i64 r.1), (.bool r.2)]) ∧ st = []) := by
 unfold impl_liveAt at h0
 refine ai Tryz.func111 rfl rfl rfl rfl ?_
 iterate 2 refine zr tb rfl rfl ?_
 refine AW.seq fun K3 hK3 => bs h0 fun o5 h1 h0 => ?_
 have M5 : ∀ (t4 : Bool), o5 = t4 → ∀ s, Wk 0 s ⟨26, envL [(4, (i64 (Sh.w (p1 - 1000)))), (5, (.bool t4))], []⟩ → K3 s := by
  intro t4 hq s hw
  subst o5
  try dsimp only at h0
  refine hK3 _ (AW.weaken hw ?_)
  replace h0 := Sh.some_eq h0
  subst r
  exact AW.ret (xr (Wk.to (L := [(4, (i64 (Sh.w (p1 - 1000)))), (5, (.bool t4))]) ⟨.rfl, .rfl, trivial⟩))
 refine AW.draw (by kernel_rfl) (by kernel_rfl) (by rfl) ?_
 iterate 4 refine yq tb rfl ?_
 rcases Sh.ite_some h1 with ⟨b6, h1⟩ | ⟨b6, h1⟩
 ·refine yg tb b6 rfl (yg tb b6 rfl (d_q (v := (i64 (Sh.len p0))) (go1 rfl rfl b6) rfl (aq_lens sl39 rfl) (yg tb b6 rfl (yt b6 rfl (yq tb rfl ?_)))))
  rcases Sh.ite_some h1 with ⟨b7, h1⟩ | ⟨b7, h1⟩
  ·refine yg tb b7 rfl (yg tb b7 rfl (bs h1 fun c8 gc8 h1 => d_q (v := (.iptr (eCell c8) 0)) (go1 rfl rfl b7) rfl (aq_ixs ei39 rfl rfl gc8 rfl) ?_))
   iterate 3 refine yg tb b7 rfl ?_
   refine yt b7 rfl ?_
   iterate 2 refine yq tb rfl ?_
   exact d_done (M5 (decide (0 < c8.count)) (Sh.some_eq h1).symm _ (Wk.tr rfl))
  ·refine ys b7 rfl ?_
   iterate 5 refine ys b7 rfl ?_
   refine yf b7 rfl ?_
   iterate 2 refine yq tb rfl ?_
   exact d_done (M5 false (Sh.some_eq h1).symm _ (Wk.tr rfl))
 ·refine ys b6 rfl ?_
  iterate 3 refine ys b6 rfl ?_
  refine yf b6 rfl (yq tb rfl ?_)
  iterate 6 refine ys rfl rfl ?_
  refine yf rfl rfl ?_
  iterate 2 refine yq tb rfl ?_
  exact d_done (M5 false (Sh.some_eq h1).symm _ (Wk.tr rfl))
theorem impl_wordValid_ok {p0 : (List Cell)} {p1 : Int} {r : Bool} (h0 : impl_wordValid p0 p1 = some r) : ACalls Tryz.prog 146 [(ls eCell p0), (i64 p1)] [] (fun v st => v = (.bool r) ∧ st = []) := by
 unfold impl_wordValid at h0
 refine ai Tryz.func146 rfl rfl rfl rfl (zr tb rfl rfl (sr rfl fun K2 hK2 => zm tb 2 rfl (bs h0 fun q3 gq3 h0 => zc (v' := (.tup [(i64 q3.1), (.bool q3.2)])) hb111 (impl_liveAt_ok gq3) rfl rfl rfl (zm tb 5 rfl (dn hK2 rfl (AW.seq fun K4 hK4 => bs h0 fun o6 h1 h0 => ?_))))))
 have M6 : ∀ (t5 : Bool), o6 = t5 → ∀ s, Wk 0 s ⟨18, envL [(4, (.bool t5))], []⟩ → K4 s := by
  intro t5 hq s hw
  subst o6
  try dsimp only at h0
  refine hK4 _ (AW.weaken hw ?_)
  replace h0 := Sh.some_eq h0
  subst r
  exact AW.ret (xr (Wk.to (L := [(4, (.bool t5))]) ⟨.rfl, trivial⟩))
 refine AW.regionO rfl (zm tb 2 rfl ?_)
 rcases Sh.ite_some h1 with ⟨b7, h1⟩ | ⟨b7, h1⟩
 ·exact zs b7 rfl (zs b7 rfl (zt b7 rfl (zq tb rfl (AO.done (M6 true (Sh.some_eq h1).symm _ (Wk.tr rfl))))))
 ·exact zg tb b7 rfl (bs h1 fun q8 gq8 h1 => zd b7 hb95 (impl_isInt_ok gq8) rfl rfl rfl rfl (zf b7 rfl (zq tb rfl (AO.done (M6 q8 (Sh.some_eq h1).symm _ (Wk.tr rfl))))))
theorem impl_cellValid_ok {N : Nat} {p0 : (List Cell)} {p1 : Cell} {r : Bool} (h0 : impl_cellValid N p0 p1 = some r) : ACalls Tryz.prog 128 [(ls eCell p0), (.agg (eCell p1))] [] (fun v st => v = (.bool r) ∧ st = []) := by
 unfold impl_cellValid at h0
 refine ai Tryz.func128 rfl rfl rfl rfl (sr rfl fun K1 hK1 => ao_box (m := 0) go0 rfl rfl rfl rfl rfl (zq tb rfl (dn hK1 rfl (AW.seq fun K2 hK2 => AW.seq fun K3 hK3 => bs h0 fun o5 h1 h0 => ?_))))
 have M5 : ∀ (t4 : Bool), o5 = t4 → ∀ s, Wk 0 s ⟨66, envL [(0, (ls eCell p0)), (3, (.ptr 0 0 0 0)), (25, (.bool t4))], [⟨0, 76, 3, [(eCell p1)]⟩]⟩ → K3 s := by
  intro t4 hq s hw
  subst o5
  try dsimp only at h0
  refine hK3 _ (AW.weaken hw ?_)
  refine ci h0 rfl ?_ ?_ <;> clear h0
  ·intro b6 h0
   refine zr tb rfl rfl ?_
   replace h0 := Sh.some_eq h0
   subst r
   exact AW.ret (xr (Wk.d0 [(4, (.bool false))] rfl))
  ·intro b6 h0
   refine AW.skip (hK2 _ (AW.seq fun K8 hK8 => AW.seq fun K9 hK9 => bs h0 fun o11 h1 h0 => ?_))
   have M11 : ∀ (t10 : Bool), o11 = t10 → ∀ s, Wk 0 s ⟨66, envL [(0, (ls eCell p0)), (3, (.ptr 0 0 0 0)), (44, (.bool t10))], [⟨0, 76, 3, [(eCell p1)]⟩]⟩ → K9 s := by
    intro t10 hq s hw
    subst o11
    try dsimp only at h0
    refine hK9 _ (AW.weaken hw ?_)
    refine ci h0 rfl ?_ ?_ <;> clear h0
    ·intro b12 h0
     refine zr tb rfl rfl ?_
     replace h0 := Sh.some_eq h0
     subst r
     exact AW.ret (xr (Wk.d0 [(4, (.bool false))] rfl))
    ·intro b12 h0
     refine AW.skip (hK8 _ (AW.seq fun K14 hK14 => sr rfl fun K15 hK15 => zm tb 2 rfl (zl tb rfl rfl (zq tb rfl (dn hK15 rfl ?_)))))
     obtain ⟨o17, h1, h0⟩ := Sh.cont_some h0
     have M17 : ∀ (_ : Unit), o17 = Sum.inr () → ∀ s, Wk 0 s ⟨66, envL [], []⟩ → K14 s := by
      intro _ hq s hw
      subst o17
      try dsimp only at h0
      refine hK14 _ (AW.weaken hw (zr tb rfl rfl ?_))
      replace h0 := Sh.some_eq h0
      subst r
      exact AW.ret (xr (Wk.to (L := [(4, (.bool true))]) ⟨.rfl, trivial⟩))
     refine AW.block (AW.loopF (σ := Int) (fun n v => impl_cellValid_L1 p0 p1 n v = some o17) (fun t16 => ⟨66, envL [(0, (ls eCell p0)), (3, (.ptr 0 0 0 0)), (46, (ls eI p1.fields)), (47, (i64 (Sh.len p1.fields))), (48, (i64 t16))], [⟨0, 76, 3, [(eCell p1)]⟩]⟩) N 0 h1 (Wk.tr rfl) (fun _ hv => by rw [impl_cellValid_L1] at hv; cases hv) ?_)
     rintro n t16 h1
     try dsimp only at h1 ⊢
     rw [impl_cellValid_L1] at h1
     refine zr tb rfl rfl (AW.seq fun K20 hK20 => ?_)
     refine ci h1 rfl ?_ ?_ <;> clear h1
     ·intro b21 h1
      refine AW.skip (hK20 _ (AW.seq fun K22 hK22 => AW.block (sr rfl fun K23 hK23 => bs h1 fun c24 gc24 h1 => zx ei26 gc24 rfl rfl rfl (zm tb 2 rfl (dn hK23 rfl (AW.seq fun K25 hK25 => bs h1 fun o27 h2 h1 => ?_))))))
      have M27 : ∀ (t26 : Bool), o27 = t26 → ∀ s, Wk 0 s ⟨66, envL [(0, (ls eCell p0)), (3, (.ptr 0 0 0 0)), (46, (ls eI p1.fields)), (47, (i64 (Sh.len p1.fields))), (48, (i64 t16)), (64, (.bool t26))], [⟨0, 76, 3, [(eCell p1)]⟩]⟩ → K25 s := by
       intro t26 hq s hw
       subst o27
       try dsimp only at h1
       refine hK25 _ (AW.weaken hw ?_)
       refine ci h1 rfl ?_ ?_ <;> clear h1
       ·intro b28 h1
        refine zr tb rfl rfl ?_
        replace h1 := Sh.some_eq h1
        subst o17
        try dsimp only [id] at h0
        replace h0 := Sh.some_eq h0
        subst r
        exact AW.ret (xr (Wk.d0 [(4, (.bool false))] rfl))
       ·intro b28 h1
        exact AW.skip (hK22 _ (AW.regionO rfl (zm tb 2 rfl (AO.done (xi (Sh.w (t16 + 1)) h1 (Wk.tr rfl))))))
      refine AW.regionO rfl (zm tb 2 rfl (bs h2 fun q30 gq30 h2 => zc hb146 (impl_wordValid_ok gq30) rfl rfl rfl (zm tb 2 rfl ?_)))
      rcases Sh.ite_some h2 with ⟨b31, h2⟩ | ⟨b31, h2⟩
      ·refine zs b31 rfl ?_
       iterate 3 refine zs b31 rfl ?_
       iterate 2 refine zn rfl ?_
       exact zs b31 rfl (zt b31 rfl (AO.done (M27 true (Sh.some_eq h2).symm _ (Wk.tr rfl))))
      ·refine zg tb b31 rfl ?_
       iterate 3 refine zg tb b31 rfl ?_
       rcases Sh.ite_some h2 with ⟨b32, h2⟩ | ⟨b32, h2⟩
       ·exact zg tb b32 rfl (zg tb b32 rfl (ao_q (v := (.bool (!decide (c24 = 0)))) (go1 rfl rfl b31) rfl (aq_pkt rfl b32 rfl) (zf b31 rfl (AO.done (M27 (!decide (c24 = 0)) (Sh.some_eq h2).symm _ (Wk.tr rfl))))))
       ·exact zs b32 rfl (zs b32 rfl (ao_q (v := (.bool false)) (go1 rfl rfl b31) rfl (aq_pkf rfl b32 rfl) (zf b31 rfl (AO.done (M27 false (Sh.some_eq h2).symm _ (Wk.tr rfl))))))
     ·intro b21 h1
      exact AW.exit (M17 () (Sh.some_eq h1).symm _ (Wk.d0 _ rfl))
   refine AW.regionO rfl (zm tb 4 rfl ?_)
   rcases Sh.ite_some h1 with ⟨b33, h1⟩ | ⟨b33, h1⟩
   ·refine zg tb b33 rfl (zg tb b33 rfl (zg tb b33 rfl (zt b33 rfl (zq tb rfl ?_))))
    rcases Sh.ite_some h1 with ⟨b34, h1⟩ | ⟨b34, h1⟩
    ·refine zs b34 rfl ?_
     iterate 3 refine zs b34 rfl ?_
     iterate 4 refine zn rfl ?_
     exact zs b34 rfl (zt b34 rfl (AO.done (M11 true (Sh.some_eq h1).symm _ (Wk.tr rfl))))
    ·refine zg tb b34 rfl ?_
     iterate 3 refine zg tb b34 rfl ?_
     rcases Sh.ite_some h1 with ⟨b35, h1⟩ | ⟨b35, h1⟩
     ·exact zg tb b35 rfl (zg tb b35 rfl (ao_q (v := (i64 (Sh.len p1.fields))) (go1 rfl rfl b35) rfl (aq_lens sl26 rfl) (zg tb b35 rfl (ao_q (v := (.bool (decide (0 < (Sh.len p1.fields))))) (go1 rfl rfl b34) rfl (aq_pkt rfl b35 rfl) (zf b34 rfl (AO.done (M11 (decide (0 < (Sh.len p1.fields))) (Sh.some_eq h1).symm _ (Wk.tr rfl))))))))
     ·refine zs b35 rfl ?_
      iterate 3 refine zs b35 rfl ?_
      exact ao_q (v := (.bool false)) (go1 rfl rfl b34) rfl (aq_pkf rfl b35 rfl) (zf b34 rfl (AO.done (M11 false (Sh.some_eq h1).symm _ (Wk.tr rfl))))
   ·refine zs b33 rfl (zs b33 rfl (zs b33 rfl (zf b33 rfl (zq tb rfl ?_))))
    iterate 4 refine zg tb rfl rfl ?_
    rcases Sh.ite_some h1 with ⟨b36, h1⟩ | ⟨b36, h1⟩
    ·exact zg tb b36 rfl (zg tb b36 rfl (ao_q (v := (i64 (Sh.len p1.fields))) (go1 rfl rfl b36) rfl (aq_lens sl26 rfl) (zg tb b36 rfl (ao_q (v := (.bool (decide (0 < (Sh.len p1.fields))))) (go1 rfl rfl rfl) rfl (aq_pkt rfl b36 rfl) (zf rfl rfl (AO.done (M11 (decide (0 < (Sh.len p1.fields))) (Sh.some_eq h1).symm _ (Wk.tr rfl))))))))
    ·refine zs b36 rfl ?_
     iterate 3 refine zs b36 rfl ?_
     exact ao_q (v := (.bool false)) (go1 rfl rfl rfl) rfl (aq_pkf rfl b36 rfl) (zf rfl rfl (AO.done (M11 false (Sh.some_eq h1).symm _ (Wk.tr rfl))))
 refine AW.regionO rfl (zm tb 4 rfl ?_)
 rcases Sh.ite_some h1 with ⟨b37, h1⟩ | ⟨b37, h1⟩
 ·refine zs b37 rfl (zs b37 rfl (zs b37 rfl (zt b37 rfl (zq tb rfl ?_))))
  iterate 3 refine zs rfl rfl ?_
  refine zt rfl rfl (zq tb rfl ?_)
  iterate 4 refine zs rfl rfl ?_
  exact zt rfl rfl (AO.done (M5 true (Sh.some_eq h1).symm _ (Wk.tr rfl)))
 ·refine zg tb b37 rfl (zg tb b37 rfl (zg tb b37 rfl (zf b37 rfl (zq tb rfl ?_))))
  rcases Sh.ite_some h1 with ⟨b38, h1⟩ | ⟨b38, h1⟩
  ·refine zs b38 rfl (zs b38 rfl (zs b38 rfl (zt b38 rfl (zq tb rfl ?_))))
   iterate 4 refine zs rfl rfl ?_
   exact zt rfl rfl (AO.done (M5 true (Sh.some_eq h1).symm _ (Wk.tr rfl)))
  ·refine zg tb b38 rfl (zg tb b38 rfl (zg tb b38 rfl (zf b38 rfl (zq tb rfl ?_))))
   rcases Sh.ite_some h1 with ⟨b39, h1⟩ | ⟨b39, h1⟩
   ·refine zs b39 rfl ?_
    iterate 3 refine zs b39 rfl ?_
    exact zt b39 rfl (AO.done (M5 true (Sh.some_eq h1).symm _ (Wk.tr rfl)))
   ·exact zg tb b39 rfl (zg tb b39 rfl (ao_q (v := (i64 (Sh.len p1.fields))) (go1 rfl rfl b39) rfl (aq_lens sl26 rfl) (zg tb b39 rfl (zf b39 rfl (AO.done (M5 (decide (3 < (Sh.len p1.fields))) (Sh.some_eq h1).symm _ (Wk.tr rfl)))))))
theorem slices_Clone_int_int_ok {p0 : (List Int)} {r : (List Int)} (h0 : slices_Clone_int_int p0 = some r) : ACalls Tryz.prog 110 [(ls eI p0)] [] (fun v st => v = (ow 0 0 r) ∧ st = [(ro 0 3 1 eI r)]) := by
 unfold slices_Clone_int_int at h0
 refine ai Tryz.func110 rfl rfl rfl rfl (zr tb rfl rfl (AW.seq fun K2 hK2 => sr rfl fun K3 hK3 => zq tb rfl ?_))
 refine ao_nil go0 sl26 rfl (fun hn => ?_) ?_
 ·subst hn
  replace h0 : some [] = some r := by rw [← h0]; first | rfl | simp [Sh.app]
  refine dn hK3 rfl (AW.cond' (b := true) rfl (fun _ => zr tb rfl rfl ?_) (fun q => nomatch (show true = false from (rfl : true = true).symm.trans q)))
  replace h0 := Sh.some_eq h0
  subst r
  exact AW.ret (Exists.intro _ (And.intro (((Wk.adopt (t := 2) rfl 3 (size := 1) (by decide)).trans (Wk.to (L := [(2, (.own 0 0 (List.length ([] : List Int))))]) ⟨.rfl, trivial⟩)).trans (Wk.to (L := [(2, (.own 0 0 (List.length ([] : List Int))))]) ⟨.rfl, trivial⟩)) (And.intro rfl rfl)))
 ·refine dn hK3 rfl (AW.cond' (b := false) rfl (fun q => nomatch (show false = true from (rfl : false = false).symm.trans q)) (fun _ => AW.skip (hK2 _ (sr rfl fun K5 hK5 => ?_))))
  refine ao_bs (m := 0) (l := ([] : List Int)) (enc := eI) go0 ei26 (by decide) rfl rfl rfl rfl rfl rfl ?_
  refine zq tb rfl (bs h0 fun l6 gl6 h0 => ao_apo (l2 := p0) go0 ei26 rfl rfl rfl rfl el_s (fun _ => rfl) gl6 rfl (zq tb rfl (dn hK5 rfl ?_)))
  replace h0 := Sh.some_eq h0
  subst r
  exact AW.ret (xr (Wk.rg (L := [(2, (ow 0 0 l6))]) (st' := [(ro 0 3 1 eI l6)]) (.pure (pure_map fun _ => rfl) .nil) ⟨.rfl, trivial⟩))
theorem impl_checkedHeap_ok {N : Nat} {p0 : (List Cell)} {r : (List Int) × Bool} (h0 : impl_checkedHeap N p0 = some r) : ACalls Tryz.prog 96 [(ls eCell p0)] [] (fun v st => v = (.tup [(ow 0 0 r.1), (.bool r.2)]) ∧ st = [(ro 0 3 1 eI r.1)]) := by
 unfold impl_checkedHeap at h0
 refine ai Tryz.func96 rfl rfl rfl rfl (zr tb rfl rfl (sr rfl fun K2 hK2 => zq tb rfl (zl tb rfl rfl (bs h0 fun l3 gl3 h0 => ao_make (m := 0) (enc := eI) (u := 0) go0 ei26 rfl rfl rfl gl3 rfl rfl (zq tb rfl (dn hK2 rfl (AW.seq fun K4 hK4 => sr rfl fun K5 hK5 => zq tb rfl ?_)))))))
 refine zl tb rfl rfl (zq tb rfl (dn hK5 rfl ?_))
 obtain ⟨o9, h1, h0⟩ := Sh.cont_some h0
 have M9 : ∀ (l8 : (List Int)), o9 = Sum.inr l8 → ∀ s, Wk 0 s ⟨159, envL [(0, (ls eCell p0)), (4, (ow 0 0 l8))], [(ro 0 3 1 eI l8)]⟩ → K4 s := by
  intro l8 hq s hw
  subst o9
  try dsimp only at h0
  refine hK4 _ (AW.weaken hw (AW.seq fun K10 hK10 => AW.seq fun K11 hK11 => bs h0 fun o13 h1 h0 => ?_))
  have M13 : ∀ (t12 : Bool), o13 = t12 → ∀ s, Wk 0 s ⟨159, envL [(0, (ls eCell p0)), (4, (ow 0 0 l8)), (68, (.bool t12))], [(ro 0 3 1 eI l8)]⟩ → K11 s := by
   intro t12 hq s hw
   subst o13
   try dsimp only at h0
   refine hK11 _ (AW.weaken hw ?_)
   refine ci h0 rfl ?_ ?_ <;> clear h0
   ·intro b14 h0
    refine zr tb rfl rfl ?_
    replace h0 := Sh.some_eq h0
    subst r
    exact AW.ret (Exists.intro _ (And.intro ((((Wk.adopt (t := 2) rfl 3 (size := 1) (by decide)).trans (Wk.to (L := [(2, (.own 1 0 (List.length ([] : List Int)))), (3, (.bool false))]) ⟨.rfl, .rfl, trivial⟩)).trans (Wk.permk (L := [(2, (.own 0 0 (List.length ([] : List Int)))), (3, (.bool false))]) (st' := [(ro 0 3 1 eI ([] : List Int))]) (st1 := [(ro 0 3 1 eI ([] : List Int))]) [1] rfl .nil (by decide) rfl rfl (.pure (pure_map fun _ => rfl) .nil) ⟨.rfl, .rfl, trivial⟩)).trans (Wk.to (L := [(2, (.own 0 0 (List.length ([] : List Int)))), (3, (.bool false))]) ⟨.rfl, .rfl, trivial⟩)) (And.intro rfl rfl)))
   ·intro b14 h0
    refine AW.skip (hK10 _ (sr rfl fun K16 hK16 => zq tb rfl (bs h0 fun q17 gq17 h0 => ao_callb (v' := (ow 1 0 q17)) go0 hb110 (slices_Clone_int_int_ok gq17) rfl (.own rfl rfl (fun _ => rfl) .nil) rfl (srow (fun _ => rfl) trivial) rfl rfl (zq tb rfl (dn hK16 rfl ?_)))))
    iterate 2 refine zr tb rfl rfl ?_
    refine AW.seq fun K20 hK20 => sr rfl fun K21 hK21 => zq tb rfl (zl tb rfl rfl (zq tb rfl (dn hK21 rfl ?_)))
    obtain ⟨o25, h1, h0⟩ := Sh.cont_some h0
    have M25 : ∀ (l24 : (List Int)), o25 = Sum.inr l24 → ∀ s, Wk 0 s ⟨159, envL [(0, (ls eCell p0)), (4, (ow 0 0 l8)), (11, (ow 1 0 q17)), (12, (ow 2 0 l24)), (13, (i64 0))], [(ro 0 3 1 eI l8), (ro 0 3 1 eI q17), (ro 0 3 1 eI l24)]⟩ → K20 s := by
     intro l24 hq s hw
     subst o25
     try dsimp only at h0
     refine hK20 _ (AW.weaken hw (AW.seq fun K26 hK26 => bs h0 fun o31 h1 h0 => ?_))
     have M31 : ∀ (many30 : Int), o31 = many30 → ∀ s, Wk 0 s ⟨159, envL [(0, (ls eCell p0)), (4, (ow 0 0 l8)), (13, (i64 many30))], [(ro 0 3 1 eI l8)]⟩ → K26 s := by
      intro many30 hq s hw
      subst o31
      try dsimp only at h0
      refine hK26 _ (AW.weaken hw (sr rfl fun K32 hK32 => zm tb 3 rfl (zl tb rfl rfl (zm tb 3 rfl (dn hK32 rfl ?_)))))
      replace h0 := Sh.some_eq h0
      subst r
      exact AW.ret (xr (Wk.to (L := [(2, (ow 0 0 l8)), (3, (.bool (decide (many30 = (Sh.len p0)))))]) ⟨.rfl, .rfl, trivial⟩))
     refine AW.block (AW.loopF (σ := Int × (List Int) × (List Int)) (fun n v => impl_checkedHeap_L3 N p0 n v.1 v.2.1 v.2.2 = some o31) (fun (many27, l28, l29) => ⟨159, envL [(0, (ls eCell p0)), (4, (ow 0 0 l8)), (11, (ow 1 0 l28)), (12, (ow 2 0 l29)), (13, (i64 many27))], [(ro 0 3 1 eI l8), (ro 0 3 1 eI l28), (ro 0 3 1 eI l29)]⟩) N (0, q17, l24) h1 (Wk.tr rfl) (fun _ hv => by rw [impl_checkedHeap_L3] at hv; cases hv) ?_)
     rintro n ⟨many27, l28, l29⟩ h1
     try dsimp only at h1 ⊢
     rw [impl_checkedHeap_L3] at h1
     refine AW.seq fun K33 hK33 => sr rfl fun K34 hK34 => zq tb rfl (zz (i64 (Sh.len l29)) (aq_leno sl26 rfl rfl rfl) rfl (zq tb rfl (dn hK34 rfl ?_)))
     refine ci h1 rfl ?_ ?_ <;> clear h1
     ·intro b35 h1
      refine AW.skip (hK33 _ (AW.seq fun K36 hK36 => AW.block (sr rfl fun K37 hK37 => zm tb 3 rfl (zz (i64 (Sh.len l29)) (aq_leno sl26 rfl rfl rfl) rfl (zq tb rfl (bs h1 fun c38 gc38 h1 => zz (.ptr 2 0 (Int.toNat (Sh.w ((Sh.len l29) - 1))) 0) (aq_ixo ei26 rfl rfl rfl rfl gc38) rfl (zz (i64 c38) (aq_ldp ti3 rfl rfl (map_get gc38) rfl) rfl (bs h1 fun c39 gc39 h1 => zx ei39 gc39 rfl rfl rfl ?_))))))))
      refine zq tb rfl (ao_alloc (m := 3) go0 zi76 rfl rfl (ao_str go0 ti76 rfl rfl rfl rfl rfl rfl (show 0 + 3 ≤ 3 by decide) rfl (dn hK37 rfl (sr rfl fun K40 hK40 => zm tb 2 rfl (zz (i64 (Sh.len l29)) (aq_leno sl26 rfl rfl rfl) rfl (zq tb rfl (bs h1 fun l41 gl41 h1 => ao_hio go0 ei26 rfl rfl rfl rfl gl41 rfl (zq tb rfl (dn hK40 rfl ?_)))))))))
      refine sr rfl fun K42 hK42 => zm tb 2 rfl (zl tb rfl rfl (zq tb rfl (dn hK42 rfl (bs h1 fun o48 h2 h1 => ?_))))
      have M48 : ∀ (l46 : (List Int)) (l47 : (List Int)), o48 = (l46, l47) → ∀ s, Wk 0 s ⟨159, envL [(0, (ls eCell p0)), (4, (ow 0 0 l8)), (11, (ow 1 0 l46)), (12, (ow 2 0 l47)), (13, (i64 many27))], [(ro 0 3 1 eI l8), (ro 0 3 1 eI l46), (ro 0 3 1 eI l47)]⟩ → K36 s := by
       intro l46 l47 hq s hw
       subst o48
       try dsimp only at h1
       exact hK36 _ (AW.weaken hw (AW.regionO rfl (zm tb 3 rfl (AO.done (xi (Sh.w (many27 + 1), l46, l47) h1 (Wk.tr rfl))))))
      refine AW.block (AW.loopF (σ := Int × (List Int) × (List Int)) (fun n v => impl_checkedHeap_L4 c39 p0 n v.1 v.2.1 v.2.2 = some o48) (fun (t43, l44, l45) => ⟨159, envL [(0, (ls eCell p0)), (4, (ow 0 0 l8)), (11, (ow 1 0 l44)), (12, (ow 2 0 l45)), (13, (i64 many27)), (125, (ls eI c39.fields)), (126, (i64 (Sh.len c39.fields))), (127, (i64 t43))], [(ro 0 3 1 eI l8), (ro 0 3 1 eI l44), (ro 0 3 1 eI l45)]⟩) N (0, l28, l41) h2 (by refine Wk.trans (Wk.rg (L := [(0, (ls eCell p0)), (4, (ow 0 0 l8)), (11, (ow 1 0 l28)), (12, (ow 2 0 l41)), (13, (i64 many27)), (125, (ls eI c39.fields)), (126, (i64 (Sh.len c39.fields))), (127, (i64 0))]) (st' := [(ro 0 3 1 eI l8), (ro 0 3 1 eI l28), (ro 0 3 1 eI l41), ⟨0, 76, 3, [(eCell c39)]⟩]) (.pure (pure_map fun _ => rfl) (.pure (pure_map fun _ => rfl) (.pure (pure_map fun _ => rfl) (.raw rfl rfl .nil)))) ⟨.rfl, .rfl, .rfl, .rfl, .rfl, .rfl, .rfl, .rfl, trivial⟩) ?_; exact Wk.permk (L := [(0, (ls eCell p0)), (4, (ow 0 0 l8)), (11, (ow 1 0 l28)), (12, (ow 2 0 l41)), (13, (i64 many27)), (125, (ls eI c39.fields)), (126, (i64 (Sh.len c39.fields))), (127, (i64 0))]) (st' := [(ro 0 3 1 eI l8), (ro 0 3 1 eI l28), (ro 0 3 1 eI l41)]) (st1 := [(ro 0 3 1 eI l8), (ro 0 3 1 eI l28), (ro 0 3 1 eI l41)]) [0, 1, 2] rfl .nil (by decide) rfl rfl (.pure (pure_map fun _ => rfl) (.pure (pure_map fun _ => rfl) (.pure (pure_map fun _ => rfl) .nil))) ⟨.rfl, .rfl, .rfl, .rfl, .rfl, .rfl, .rfl, .rfl, trivial⟩) (fun _ hv => by rw [impl_checkedHeap_L4] at hv; cases hv) ?_)
      rintro n ⟨t43, l44, l45⟩ h2
      try dsimp only at h2 ⊢
      rw [impl_checkedHeap_L4] at h2
      refine zr tb rfl rfl (AW.seq fun K50 hK50 => ?_)
      refine ci h2 rfl ?_ ?_ <;> clear h2
      ·intro b51 h2
       refine AW.skip (hK50 _ (AW.seq fun K52 hK52 => bs h2 fun o55 h3 h2 => ?_))
       have M55 : ∀ (l53 : (List Int)) (l54 : (List Int)), o55 = (l53, l54) → ∀ s, Wk 0 s ⟨159, envL [(0, (ls eCell p0)), (4, (ow 0 0 l8)), (11, (ow 1 0 l53)), (12, (ow 2 0 l54)), (13, (i64 many27)), (125, (ls eI c39.fields)), (126, (i64 (Sh.len c39.fields))), (127, (i64 t43))], [(ro 0 3 1 eI l8), (ro 0 3 1 eI l53), (ro 0 3 1 eI l54)]⟩ → K52 s := by
        intro l53 l54 hq s hw
        subst o55
        try dsimp only at h2
        exact hK52 _ (AW.weaken hw (AW.regionO rfl (zm tb 2 rfl (AO.done (xi (Sh.w (t43 + 1), l53, l54) h2 (Wk.tr rfl))))))
       refine AW.block (sr rfl fun K56 hK56 => bs h3 fun c57 gc57 h3 => zx ei26 gc57 rfl rfl rfl (zm tb 2 rfl (dn hK56 rfl (sr rfl fun K58 hK58 => zm tb 2 rfl (bs h3 fun q59 gq59 h3 => zc (v' := (.tup [(i64 q59.1), (.bool q59.2)])) hb111 (impl_liveAt_ok gq59) rfl rfl rfl (zm tb 5 rfl (dn hK58 rfl ?_)))))))
       refine zr tb rfl rfl ?_
       refine ci h3 rfl ?_ ?_ <;> clear h3
       ·intro b61 h3
        refine sr rfl fun K62 hK62 => zm tb 2 rfl (bs h3 fun c63 gc63 h3 => zz (.ptr 1 0 (Int.toNat q59.1) 0) (aq_ixo ei26 rfl rfl rfl rfl gc63) rfl (zz (i64 c63) (aq_ldp ti3 rfl rfl (map_get gc63) rfl) rfl (zq tb rfl (zz (.ptr 1 0 (Int.toNat q59.1) 0) (aq_ixo ei26 rfl rfl rfl rfl gc63) rfl (ao_stl (u' := Sh.w (c63 - 1)) go0 ti3 rfl rfl gc63 rfl rfl rfl (show 0 + 1 ≤ 1 by decide) rfl rfl (dn hK62 rfl (sr rfl fun K64 hK64 => zm tb 2 rfl (bs h3 fun c65 gc65 h3 => ?_))))))))
        refine zz (.ptr 1 0 (Int.toNat q59.1) 0) (aq_ixo ei26 rfl rfl rfl (by simp only [Sh.put_len]) gc65) rfl ?_
        refine zz (i64 c65) (aq_ldp ti3 rfl rfl (map_get gc65) rfl) rfl (zq tb rfl (dn hK64 rfl ?_))
        refine ci h3 rfl ?_ ?_ <;> clear h3
        ·intro b66 h3
         refine AW.regionO rfl (zm tb 2 rfl ?_)
         refine ao_bs (m := 3) (l := [q59.1]) (enc := eI) go0 ei26 (by decide) rfl rfl rfl rfl rfl rfl ?_
         refine bs h3 fun l67 gl67 h3 => ao_apo (l2 := [q59.1]) go0 ei26 rfl rfl rfl rfl (el_o rfl rfl) (fun _ => rfl) gl67 rfl (zq tb rfl ?_)
         exact AO.done (M55 (Sh.put l44 q59.1 (Sh.w (c63 - 1))) l67 (Sh.some_eq h3).symm _ (by refine Wk.trans (Wk.rg (L := [(0, (.sl (List.map eCell p0))), (4, (.own 0 0 (List.length l8))), (11, (.own 1 0 (List.length l44))), (12, (.own 2 0 (List.length l67))), (13, (i64 many27)), (125, (.sl (List.map eI c39.fields))), (126, (i64 (Sh.len c39.fields))), (127, (i64 t43))]) (st' := [⟨0, 3, 1, List.map eI l8⟩, ⟨0, 3, 1, List.map eI (Sh.put l44 q59.1 (Sh.w (c63 - 1)))⟩, ⟨0, 3, 1, List.map eI l67⟩, ⟨0, 3, 1, List.map eI [q59.1]⟩]) (.pure (pure_map fun _ => rfl) (.pure (pure_map fun _ => rfl) (.pure (pure_map fun _ => rfl) (.pure (pure_map fun _ => rfl) .nil)))) ⟨.rfl, .rfl, .rfl, .rfl, .rfl, .rfl, .rfl, .rfl, trivial⟩) ?_; refine Wk.trans (Wk.permk (L := [(0, (.sl (List.map eCell p0))), (4, (.own 0 0 (List.length l8))), (11, (.own 1 0 (List.length l44))), (12, (.own 2 0 (List.length l67))), (13, (i64 many27)), (125, (.sl (List.map eI c39.fields))), (126, (i64 (Sh.len c39.fields))), (127, (i64 t43))]) (st' := [⟨0, 3, 1, List.map eI l8⟩, ⟨0, 3, 1, List.map eI (Sh.put l44 q59.1 (Sh.w (c63 - 1)))⟩, ⟨0, 3, 1, List.map eI l67⟩]) (st1 := [⟨0, 3, 1, List.map eI l8⟩, ⟨0, 3, 1, List.map eI (Sh.put l44 q59.1 (Sh.w (c63 - 1)))⟩, ⟨0, 3, 1, List.map eI l67⟩]) [0, 1, 2] rfl .nil (by decide) rfl rfl (.pure (pure_map fun _ => rfl) (.pure (pure_map fun _ => rfl) (.pure (pure_map fun _ => rfl) .nil))) ⟨.rfl, .rfl, .rfl, .rfl, .rfl, .rfl, .rfl, .rfl, trivial⟩) ?_; exact Wk.to (L := [(0, (.sl (List.map eCell p0))), (4, (.own 0 0 (List.length l8))), (11, (.own 1 0 (List.length (Sh.put l44 q59.1 (Sh.w (c63 - 1)))))), (12, (.own 2 0 (List.length l67))), (13, (i64 many27)), (125, (.sl (List.map eI c39.fields))), (126, (i64 (Sh.len c39.fields))), (127, (i64 t43))]) ⟨.rfl, .rfl, (.len (by simp only [Sh.put_len])), .rfl, .rfl, .rfl, .rfl, .rfl, trivial⟩))
        ·intro b66 h3
         exact AW.skip (M55 (Sh.put l44 q59.1 (Sh.w (c63 - 1))) l45 (Sh.some_eq h3).symm _ (Wk.to (L := [(0, (.sl (List.map eCell p0))), (4, (.own 0 0 (List.length l8))), (11, (.own 1 0 (List.length (Sh.put l44 q59.1 (Sh.w (c63 - 1)))))), (12, (.own 2 0 (List.length l45))), (13, (i64 many27)), (125, (.sl (List.map eI c39.fields))), (126, (i64 (Sh.len c39.fields))), (127, (i64 t43))]) ⟨.rfl, .rfl, (.len (by simp only [Sh.put_len])), .rfl, .rfl, .rfl, .rfl, .rfl, trivial⟩))
       ·intro b61 h3
        exact AW.skip (M55 l44 l45 (Sh.some_eq h3).symm _ (Wk.tr rfl))
      ·intro b51 h2
       exact AW.exit (M48 l44 l45 (Sh.some_eq h2).symm _ (Wk.tr rfl))
     ·intro b35 h1
      exact AW.exit (M31 many27 (Sh.some_eq h1).symm _ (Wk.permk (L := [(0, (ls eCell p0)), (4, (ow 0 0 l8)), (13, (i64 many27))]) (st' := [(ro 0 3 1 eI l8)]) (st1 := [(ro 0 3 1 eI l8)]) [0] rfl .nil (by decide) rfl rfl (.pure (pure_map fun _ => rfl) .nil) ⟨.rfl, .rfl, .rfl, trivial⟩))
    refine AW.block (AW.loopF (σ := Int × (List Int)) (fun n v => impl_checkedHeap_L2 l8 p0 n v.1 v.2 = some o25) (fun (t22, l23) => ⟨159, envL [(0, (ls eCell p0)), (4, (ow 0 0 l8)), (11, (ow 1 0 q17)), (12, (ow 2 0 l23)), (13, (i64 0)), (71, (ls eCell p0)), (72, (i64 (Sh.len p0))), (73, (i64 t22))], [(ro 0 3 1 eI l8), (ro 0 3 1 eI q17), (ro 0 3 1 eI l23)]⟩) N (0, []) h1 ((Wk.adopt (t := 12) rfl 3 (size := 1) (by decide)).trans (Wk.to (L := [(0, (ls eCell p0)), (4, (ow 0 0 l8)), (11, (ow 1 0 q17)), (12, (.own 2 0 (List.length ([] : List Int)))), (13, (i64 0)), (71, (ls eCell p0)), (72, (i64 (Sh.len p0))), (73, (i64 0))]) ⟨.rfl, .rfl, .rfl, .rfl, .rfl, .rfl, .rfl, .rfl, trivial⟩)) (fun _ hv => by rw [impl_checkedHeap_L2] at hv; cases hv) ?_)
    rintro n ⟨t22, l23⟩ h1
    try dsimp only at h1 ⊢
    rw [impl_checkedHeap_L2] at h1
    refine zr tb rfl rfl (AW.seq fun K69 hK69 => ?_)
    refine ci h1 rfl ?_ ?_ <;> clear h1
    ·intro b70 h1
     refine AW.skip (hK69 _ (AW.seq fun K71 hK71 => ?_))
     obtain ⟨o73, h2, h1⟩ := Sh.cont_some h1
     have M73 : ∀ (l72 : (List Int)), o73 = Sum.inr l72 → ∀ s, Wk 0 s ⟨159, envL [(0, (ls eCell p0)), (4, (ow 0 0 l8)), (11, (ow 1 0 q17)), (12, (ow 2 0 l72)), (13, (i64 0)), (71, (ls eCell p0)), (72, (i64 (Sh.len p0))), (73, (i64 t22))], [(ro 0 3 1 eI l8), (ro 0 3 1 eI q17), (ro 0 3 1 eI l72)]⟩ → K71 s := by
      intro l72 hq s hw
      subst o73
      try dsimp only at h1
      exact hK71 _ (AW.weaken hw (AW.regionO rfl (zm tb 2 rfl (AO.done (xi (Sh.w (t22 + 1), l72) h1 (Wk.tr rfl))))))
     refine AW.block (sr rfl fun K74 hK74 => zq tb rfl (bs h2 fun c75 gc75 h2 => zx ei39 gc75 rfl rfl rfl (zq tb rfl (ao_alloc (m := 3) go0 zi76 rfl rfl (zq tb rfl (ao_str go0 ti76 rfl rfl rfl rfl rfl rfl (show 0 + 3 ≤ 3 by decide) rfl (dn hK74 rfl (AW.seq fun K76 hK76 => AW.seq fun K77 hK77 => ?_))))))))
     refine bs h2 fun o79 h3 h2 => ?_
     have M79 : ∀ (t78 : Bool), o79 = t78 → ∀ s, Wk 0 s ⟨159, envL [(0, (ls eCell p0)), (4, (ow 0 0 l8)), (11, (ow 1 0 q17)), (12, (ow 2 0 l23)), (13, (i64 0)), (14, (i64 t22)), (71, (ls eCell p0)), (72, (i64 (Sh.len p0))), (73, (i64 t22)), (94, (.bool t78))], [(ro 0 3 1 eI l8), (ro 0 3 1 eI q17), (ro 0 3 1 eI l23)]⟩ → K77 s := by
      intro t78 hq s hw
      subst o79
      try dsimp only at h2
      refine hK77 _ (AW.weaken hw ?_)
      refine ci h2 rfl ?_ ?_ <;> clear h2
      ·intro b80 h2
       refine zr tb rfl rfl ?_
       replace h2 := Sh.some_eq h2
       subst o73
       try dsimp only [id] at h1
       replace h1 := Sh.some_eq h1
       subst o25
       try dsimp only [id] at h0
       replace h0 := Sh.some_eq h0
       subst r
       exact AW.ret (Exists.intro _ (And.intro ((((Wk.adopt (t := 2) rfl 3 (size := 1) (by decide)).trans (Wk.to (L := [(2, (.own 3 0 (List.length ([] : List Int)))), (3, (.bool false))]) ⟨.rfl, .rfl, trivial⟩)).trans (Wk.permk (L := [(2, (.own 0 0 (List.length ([] : List Int)))), (3, (.bool false))]) (st' := [(ro 0 3 1 eI ([] : List Int))]) (st1 := [(ro 0 3 1 eI ([] : List Int))]) [3] rfl .nil (by decide) rfl rfl (.pure (pure_map fun _ => rfl) .nil) ⟨.rfl, .rfl, trivial⟩)).trans (Wk.to (L := [(2, (.own 0 0 (List.length ([] : List Int)))), (3, (.bool false))]) ⟨.rfl, .rfl, trivial⟩)) (And.intro rfl rfl)))
      ·intro b80 h2
       refine AW.skip (hK76 _ (sr rfl fun K82 hK82 => zm tb 2 rfl (bs h2 fun c83 gc83 h2 => zz (.ptr 0 0 (Int.toNat t22) 0) (aq_ixo ei26 rfl rfl rfl rfl gc83) rfl (zz (i64 c83) (aq_ldp ti3 rfl rfl (map_get gc83) rfl) rfl (zq tb rfl (dn hK82 rfl ?_))))))
       refine ci h2 rfl ?_ ?_ <;> clear h2
       ·intro b84 h2
        refine AW.regionO rfl (zm tb 2 rfl ?_)
        refine ao_bs (m := 3) (l := [t22]) (enc := eI) go0 ei26 (by decide) rfl rfl rfl rfl rfl rfl ?_
        refine bs h2 fun l85 gl85 h2 => ao_apo (l2 := [t22]) go0 ei26 rfl rfl rfl rfl (el_o rfl rfl) (fun _ => rfl) gl85 rfl (zq tb rfl ?_)
        exact AO.done (M73 l85 (Sh.some_eq h2).symm _ (by refine Wk.trans (Wk.rg (L := [(0, (ls eCell p0)), (4, (ow 0 0 l8)), (11, (ow 1 0 q17)), (12, (ow 2 0 l85)), (13, (i64 0)), (71, (ls eCell p0)), (72, (i64 (Sh.len p0))), (73, (i64 t22))]) (st' := [(ro 0 3 1 eI l8), (ro 0 3 1 eI q17), (ro 0 3 1 eI l85), (ro 0 3 1 eI [t22])]) (.pure (pure_map fun _ => rfl) (.pure (pure_map fun _ => rfl) (.pure (pure_map fun _ => rfl) (.pure (pure_map fun _ => rfl) .nil)))) ⟨.rfl, .rfl, .rfl, .rfl, .rfl, .rfl, .rfl, .rfl, trivial⟩) ?_; exact Wk.permk (L := [(0, (ls eCell p0)), (4, (ow 0 0 l8)), (11, (ow 1 0 q17)), (12, (ow 2 0 l85)), (13, (i64 0)), (71, (ls eCell p0)), (72, (i64 (Sh.len p0))), (73, (i64 t22))]) (st' := [(ro 0 3 1 eI l8), (ro 0 3 1 eI q17), (ro 0 3 1 eI l85)]) (st1 := [(ro 0 3 1 eI l8), (ro 0 3 1 eI q17), (ro 0 3 1 eI l85)]) [0, 1, 2] rfl .nil (by decide) rfl rfl (.pure (pure_map fun _ => rfl) (.pure (pure_map fun _ => rfl) (.pure (pure_map fun _ => rfl) .nil))) ⟨.rfl, .rfl, .rfl, .rfl, .rfl, .rfl, .rfl, .rfl, trivial⟩))
       ·intro b84 h2
        exact AW.skip (M73 l23 (Sh.some_eq h2).symm _ (Wk.tr rfl))
     refine AW.draw (by kernel_rfl) (by kernel_rfl) (by rfl) ?_
     iterate 4 refine yq tb rfl ?_
     rcases Sh.ite_some h3 with ⟨b86, h3⟩ | ⟨b86, h3⟩
     ·refine yg tb b86 rfl ?_
      iterate 3 refine yg tb b86 rfl ?_
      refine bs h3 fun c87 gc87 h3 => d_q (v := (.ptr 0 0 (Int.toNat t22) 0)) (go1 rfl rfl b86) rfl (aq_ixo ei26 rfl rfl rfl rfl gc87) (d_q (v := (i64 c87)) (go1 rfl rfl b86) rfl (aq_ldp ti3 rfl rfl (map_get gc87) rfl) ?_)
      iterate 2 refine yg tb b86 rfl ?_
      rcases Sh.ite_some h3 with ⟨b88, h3⟩ | ⟨b88, h3⟩
      ·refine ys b88 rfl ?_
       iterate 2 refine ys b88 rfl ?_
       refine d_q (v := (.bool true)) (go1 rfl rfl b86) rfl (aq_pkt rfl b88 rfl) (yt b86 rfl ?_)
       exact d_done (M79 true (Sh.some_eq h3).symm _ (Wk.permk (L := [(0, (ls eCell p0)), (4, (ow 0 0 l8)), (11, (ow 1 0 q17)), (12, (ow 2 0 l23)), (13, (i64 0)), (14, (i64 t22)), (71, (ls eCell p0)), (72, (i64 (Sh.len p0))), (73, (i64 t22)), (94, (.bool true))]) (st' := [(ro 0 3 1 eI l8), (ro 0 3 1 eI q17), (ro 0 3 1 eI l23)]) (st1 := [(ro 0 3 1 eI l8), (ro 0 3 1 eI q17), (ro 0 3 1 eI l23)]) [0, 1, 2] rfl .nil (by decide) rfl rfl (.pure (pure_map fun _ => rfl) (.pure (pure_map fun _ => rfl) (.pure (pure_map fun _ => rfl) .nil))) ⟨.rfl, .rfl, .rfl, .rfl, .rfl, .rfl, .rfl, .rfl, .rfl, .rfl, trivial⟩))
      ·refine yg tb b88 rfl ?_
       iterate 2 refine yg tb b88 rfl ?_
       refine d_q (v := (.bool (decide (999999 < c75.count)))) (go1 rfl rfl b86) rfl (aq_pkf rfl b88 rfl) (yt b86 rfl ?_)
       exact d_done (M79 (decide (999999 < c75.count)) (Sh.some_eq h3).symm _ (Wk.permk (L := [(0, (ls eCell p0)), (4, (ow 0 0 l8)), (11, (ow 1 0 q17)), (12, (ow 2 0 l23)), (13, (i64 0)), (14, (i64 t22)), (71, (ls eCell p0)), (72, (i64 (Sh.len p0))), (73, (i64 t22)), (94, (.bool (decide (999999 < c75.count))))]) (st' := [(ro 0 3 1 eI l8), (ro 0 3 1 eI q17), (ro 0 3 1 eI l23)]) (st1 := [(ro 0 3 1 eI l8), (ro 0 3 1 eI q17), (ro 0 3 1 eI l23)]) [0, 1, 2] rfl .nil (by decide) rfl rfl (.pure (pure_map fun _ => rfl) (.pure (pure_map fun _ => rfl) (.pure (pure_map fun _ => rfl) .nil))) ⟨.rfl, .rfl, .rfl, .rfl, .rfl, .rfl, .rfl, .rfl, .rfl, .rfl, trivial⟩))
     ·refine ys b86 rfl ?_
      iterate 7 refine ys b86 rfl ?_
      iterate 3 refine yn rfl ?_
      refine ys b86 rfl (yf b86 rfl ?_)
      exact d_done (M79 false (Sh.some_eq h3).symm _ (Wk.permk (L := [(0, (ls eCell p0)), (4, (ow 0 0 l8)), (11, (ow 1 0 q17)), (12, (ow 2 0 l23)), (13, (i64 0)), (14, (i64 t22)), (71, (ls eCell p0)), (72, (i64 (Sh.len p0))), (73, (i64 t22)), (94, (.bool false))]) (st' := [(ro 0 3 1 eI l8), (ro 0 3 1 eI q17), (ro 0 3 1 eI l23)]) (st1 := [(ro 0 3 1 eI l8), (ro 0 3 1 eI q17), (ro 0 3 1 eI l23)]) [0, 1, 2] rfl .nil (by decide) rfl rfl (.pure (pure_map fun _ => rfl) (.pure (pure_map fun _ => rfl) (.pure (pure_map fun _ => rfl) .nil))) ⟨.rfl, .rfl, .rfl, .rfl, .rfl, .rfl, .rfl, .rfl, .rfl, .rfl, trivial⟩))
    ·intro b70 h1
     exact AW.exit (M25 l23 (Sh.some_eq h1).symm _ (Wk.tr rfl))
  refine AW.regionO rfl (zq tb rfl (zl tb rfl rfl (zm tb 2 rfl ?_)))
  rcases Sh.ite_some h1 with ⟨b89, h1⟩ | ⟨b89, h1⟩
  ·refine zg tb b89 rfl (zg tb b89 rfl (ao_q (v := (i64 (Sh.len p0))) (go1 rfl rfl b89) rfl (aq_lens sl39 rfl) (zg tb b89 rfl (bs h1 fun c90 gc90 h1 => ao_q (v := (.iptr (eCell c90) 0)) (go1 rfl rfl b89) rfl (aq_ixs ei39 rfl rfl gc90 rfl) ?_))))
   iterate 3 refine zg tb b89 rfl ?_
   exact zt b89 rfl (AO.done (M13 (decide (c90.count = 0)) (Sh.some_eq h1).symm _ (Wk.tr rfl)))
  ·refine zs b89 rfl ?_
   iterate 7 refine zs b89 rfl ?_
   exact zf b89 rfl (AO.done (M13 false (Sh.some_eq h1).symm _ (Wk.tr rfl)))
 refine AW.block (AW.loopF (σ := Int × (List Int)) (fun n v => impl_checkedHeap_L1 N p0 n v.1 v.2 = some o9) (fun (t6, l7) => ⟨159, envL [(0, (ls eCell p0)), (4, (ow 0 0 l7)), (24, (ls eCell p0)), (25, (i64 (Sh.len p0))), (26, (i64 t6))], [(ro 0 3 1 eI l7)]⟩) N (0, l3) h1 (Wk.tr rfl) (fun _ hv => by rw [impl_checkedHeap_L1] at hv; cases hv) ?_)
 rintro n ⟨t6, l7⟩ h1
 try dsimp only at h1 ⊢
 rw [impl_checkedHeap_L1] at h1
 refine zr tb rfl rfl (AW.seq fun K92 hK92 => ?_)
 refine ci h1 rfl ?_ ?_ <;> clear h1
 ·intro b93 h1
  refine AW.skip (hK92 _ (AW.seq fun K94 hK94 => AW.block (sr rfl fun K95 hK95 => bs h1 fun c96 gc96 h1 => zx ei39 gc96 rfl rfl rfl (zq tb rfl (ao_alloc (m := 1) go0 zi76 rfl rfl (ao_str go0 ti76 rfl rfl rfl rfl rfl rfl (show 0 + 3 ≤ 3 by decide) rfl (dn hK95 rfl (AW.seq fun K97 hK97 => sr rfl fun K98 hK98 => ?_))))))))
  refine zm tb 2 rfl (bs h1 fun q99 gq99 h1 => zc hb128 (impl_cellValid_ok gq99) rfl rfl rfl (zq tb rfl (dn hK98 rfl ?_)))
  refine ci h1 rfl ?_ ?_ <;> clear h1
  ·intro b100 h1
   have b101 : q99 = false := by simpa using b100
   refine zr tb rfl rfl ?_
   replace h1 := Sh.some_eq h1
   subst o9
   try dsimp only [id] at h0
   replace h0 := Sh.some_eq h0
   subst r
   exact AW.ret (Exists.intro _ (And.intro ((((Wk.adopt (t := 2) rfl 3 (size := 1) (by decide)).trans (Wk.to (L := [(2, (.own 2 0 (List.length ([] : List Int)))), (3, (.bool false))]) ⟨.rfl, .rfl, trivial⟩)).trans (Wk.permk (L := [(2, (.own 0 0 (List.length ([] : List Int)))), (3, (.bool false))]) (st' := [(ro 0 3 1 eI ([] : List Int))]) (st1 := [(ro 0 3 1 eI ([] : List Int))]) [2] rfl .nil (by decide) rfl rfl (.pure (pure_map fun _ => rfl) .nil) ⟨.rfl, .rfl, trivial⟩)).trans (Wk.to (L := [(2, (.own 0 0 (List.length ([] : List Int)))), (3, (.bool false))]) ⟨.rfl, .rfl, trivial⟩)) (And.intro rfl rfl)))
  ·intro b100 h1
   have b103 : q99 = true := by simpa using b100
   refine AW.skip (hK97 _ (sr rfl fun K104 hK104 => zm tb 2 rfl (zl tb rfl rfl (zq tb rfl (dn hK104 rfl (bs h1 fun o108 h2 h1 => ?_))))))
   have M108 : ∀ (l107 : (List Int)), o108 = l107 → ∀ s, Wk 0 s ⟨159, envL [(0, (ls eCell p0)), (4, (ow 0 0 l107)), (24, (ls eCell p0)), (25, (i64 (Sh.len p0))), (26, (i64 t6))], [(ro 0 3 1 eI l107)]⟩ → K94 s := by
    intro l107 hq s hw
    subst o108
    try dsimp only at h1
    exact hK94 _ (AW.weaken hw (AW.regionO rfl (zm tb 2 rfl (AO.done (xi (Sh.w (t6 + 1), l107) h1 (Wk.tr rfl))))))
   refine AW.block (AW.loopF (σ := Int × (List Int)) (fun n v => impl_checkedHeap_L5 c96 p0 n v.1 v.2 = some o108) (fun (t105, l106) => ⟨159, envL [(0, (ls eCell p0)), (4, (ow 0 0 l106)), (24, (ls eCell p0)), (25, (i64 (Sh.len p0))), (26, (i64 t6)), (35, (ls eI c96.fields)), (36, (i64 (Sh.len c96.fields))), (37, (i64 t105))], [(ro 0 3 1 eI l106)]⟩) N (0, l7) h2 (Wk.permk (L := [(0, (ls eCell p0)), (4, (ow 0 0 l7)), (24, (ls eCell p0)), (25, (i64 (Sh.len p0))), (26, (i64 t6)), (35, (ls eI c96.fields)), (36, (i64 (Sh.len c96.fields))), (37, (i64 0))]) (st' := [(ro 0 3 1 eI l7)]) (st1 := [(ro 0 3 1 eI l7)]) [0] rfl .nil (by decide) rfl rfl (.pure (pure_map fun _ => rfl) .nil) ⟨.rfl, .rfl, .rfl, .rfl, .rfl, .rfl, .rfl, .rfl, trivial⟩) (fun _ hv => by rw [impl_checkedHeap_L5] at hv; cases hv) ?_)
   rintro n ⟨t105, l106⟩ h2
   try dsimp only at h2 ⊢
   rw [impl_checkedHeap_L5] at h2
   refine zr tb rfl rfl (AW.seq fun K110 hK110 => ?_)
   refine ci h2 rfl ?_ ?_ <;> clear h2
   ·intro b111 h2
    refine AW.skip (hK110 _ (AW.seq fun K112 hK112 => bs h2 fun o114 h3 h2 => ?_))
    have M114 : ∀ (l113 : (List Int)), o114 = l113 → ∀ s, Wk 0 s ⟨159, envL [(0, (ls eCell p0)), (4, (ow 0 0 l113)), (24, (ls eCell p0)), (25, (i64 (Sh.len p0))), (26, (i64 t6)), (35, (ls eI c96.fields)), (36, (i64 (Sh.len c96.fields))), (37, (i64 t105))], [(ro 0 3 1 eI l113)]⟩ → K112 s := by
     intro l113 hq s hw
     subst o114
     try dsimp only at h2
     exact hK112 _ (AW.weaken hw (AW.regionO rfl (zm tb 2 rfl (AO.done (xi (Sh.w (t105 + 1), l113) h2 (Wk.tr rfl))))))
    refine AW.block (sr rfl fun K115 hK115 => bs h3 fun c116 gc116 h3 => zx ei26 gc116 rfl rfl rfl (zm tb 2 rfl (dn hK115 rfl (sr rfl fun K117 hK117 => zm tb 2 rfl (bs h3 fun q118 gq118 h3 => zc (v' := (.tup [(i64 q118.1), (.bool q118.2)])) hb111 (impl_liveAt_ok gq118) rfl rfl rfl (zm tb 5 rfl (dn hK117 rfl ?_)))))))
    refine zr tb rfl rfl ?_
    refine ci h3 rfl ?_ ?_ <;> clear h3
    ·intro b120 h3
     refine AW.regionO rfl (zm tb 2 rfl (bs h3 fun c121 gc121 h3 => zz (.ptr 0 0 (Int.toNat q118.1) 0) (aq_ixo ei26 rfl rfl rfl rfl gc121) rfl (zz (i64 c121) (aq_ldp ti3 rfl rfl (map_get gc121) rfl) rfl (zq tb rfl (zz (.ptr 0 0 (Int.toNat q118.1) 0) (aq_ixo ei26 rfl rfl rfl rfl gc121) rfl (ao_stl (u' := Sh.w (c121 + 1)) go0 ti3 rfl rfl gc121 rfl rfl rfl (show 0 + 1 ≤ 1 by decide) rfl rfl ?_))))))
     exact AO.done (M114 (Sh.put l106 q118.1 (Sh.w (c121 + 1))) (Sh.some_eq h3).symm _ (Wk.to (L := [(0, (.sl (List.map eCell p0))), (4, (.own 0 0 (List.length (Sh.put l106 q118.1 (Sh.w (c121 + 1)))))), (24, (.sl (List.map eCell p0))), (25, (i64 (Sh.len p0))), (26, (i64 t6)), (35, (.sl (List.map eI c96.fields))), (36, (i64 (Sh.len c96.fields))), (37, (i64 t105))]) ⟨.rfl, (.len (by simp only [Sh.put_len])), .rfl, .rfl, .rfl, .rfl, .rfl, .rfl, trivial⟩))
    ·intro b120 h3
     exact AW.skip (M114 l106 (Sh.some_eq h3).symm _ (Wk.tr rfl))
   ·intro b111 h2
    exact AW.exit (M108 l106 (Sh.some_eq h2).symm _ (Wk.tr rfl))
 ·intro b93 h1
  exact AW.exit (M9 l7 (Sh.some_eq h1).symm _ (Wk.tr rfl))
theorem impl_stateValid_1_ok {p0 : Int} {r : Bool} (h0 : impl_stateValid_1 p0 = some r) : ACalls Tryz.prog 98 [(i64 p0)] [] (fun v st => v = (.bool r) ∧ st = []) := by
 unfold impl_stateValid_1 at h0
 refine ai Tryz.func98 rfl rfl rfl rfl (zr tb rfl rfl (sr rfl fun K2 hK2 => zq tb rfl (bs h0 fun q3 gq3 h0 => zc hb95 (impl_isInt_ok gq3) rfl rfl rfl (zm tb 2 rfl (dn hK2 rfl ?_)))))
 replace h0 := Sh.some_eq h0
 subst r
 exact AW.ret (xr (Wk.to (L := [(2, (.bool (!q3)))]) ⟨.rfl, trivial⟩))
theorem slices_IndexFunc_int_int_2_ok {N : Nat} {p0 : (List Int)} {r : Int} (h0 : slices_IndexFunc_int_int_2 N p0 = some r) : ACalls Tryz.prog 129 [(ls eI p0), (.fn 98 [])] [] (fun v st => v = (i64 r) ∧ st = []) := by
 unfold slices_IndexFunc_int_int_2 at h0
 refine ai Tryz.func129 rfl rfl rfl rfl (zr tb rfl rfl (AW.seq fun K2 hK2 => sr rfl fun K3 hK3 => zq tb rfl (zl tb rfl rfl (zq tb rfl (dn hK3 rfl ?_)))))
 obtain ⟨o5, h1, h0⟩ := Sh.cont_some h0
 have M5 : ∀ (_ : Unit), o5 = Sum.inr () → ∀ s, Wk 0 s ⟨19, envL [], []⟩ → K2 s := by
  intro _ hq s hw
  subst o5
  try dsimp only at h0
  refine hK2 _ (AW.weaken hw (zr tb rfl rfl ?_))
  replace h0 := Sh.some_eq h0
  subst r
  exact AW.ret (xr (Wk.to (L := [(4, (i64 (-1)))]) ⟨.rfl, trivial⟩))
 refine AW.block (AW.loopF (σ := Int) (fun n v => slices_IndexFunc_int_int_2_L1 p0 n v = some o5) (fun t4 => ⟨19, envL [(0, (ls eI p0)), (1, (.fn 98 [])), (7, (i64 (Sh.len p0))), (8, (i64 t4))], []⟩) N 0 h1 (Wk.tr rfl) (fun _ hv => by rw [slices_IndexFunc_int_int_2_L1] at hv; cases hv) ?_)
 rintro n t4 h1
 try dsimp only at h1 ⊢
 rw [slices_IndexFunc_int_int_2_L1] at h1
 refine zr tb rfl rfl (AW.seq fun K8 hK8 => ?_)
 refine ci h1 rfl ?_ ?_ <;> clear h1
 ·intro b9 h1
  refine AW.skip (hK8 _ (AW.seq fun K10 hK10 => AW.block (zr tb rfl rfl (sr rfl fun K12 hK12 => zm tb 3 rfl (bs h1 fun c13 gc13 h1 => zx ei26 gc13 rfl rfl rfl (zq tb rfl (bs h1 fun q14 gq14 h1 => ao_callt (v' := (.bool q14)) (st' := []) go0 rfl hb98 (impl_stateValid_1_ok gq14) rfl rfl trivial rfl rfl (dn hK12 rfl ?_))))))))
  refine ci h1 rfl ?_ ?_ <;> clear h1
  ·intro b15 h1
   refine zr tb rfl rfl ?_
   replace h1 := Sh.some_eq h1
   subst o5
   try dsimp only [id] at h0
   replace h0 := Sh.some_eq h0
   subst r
   exact AW.ret (xr (Wk.to (L := [(4, (i64 t4))]) ⟨.rfl, trivial⟩))
  ·intro b15 h1
   exact AW.skip (hK10 _ (AW.regionO rfl (zm tb 2 rfl (AO.done (xi (Sh.w (t4 + 1)) h1 (Wk.tr rfl))))))
 ·intro b9 h1
  exact AW.exit (M5 () (Sh.some_eq h1).symm _ (Wk.tr rfl))
theorem slices_ContainsFunc_int_int_2_ok {N : Nat} {p0 : (List Int)} {r : Bool} (h0 : slices_ContainsFunc_int_int_2 N p0 = some r) : ACalls Tryz.prog 97 [(ls eI p0), (.fn 98 [])] [] (fun v st => v = (.bool r) ∧ st = []) := by
 unfold slices_ContainsFunc_int_int_2 at h0
 refine ai Tryz.func97 rfl rfl rfl rfl (zr tb rfl rfl (sr rfl fun K2 hK2 => zm tb 2 rfl (bs h0 fun q3 gq3 h0 => zc hb129 (slices_IndexFunc_int_int_2_ok gq3) rfl rfl rfl (zm tb 2 rfl (dn hK2 rfl ?_)))))
 replace h0 := Sh.some_eq h0
 subst r
 exact AW.ret (xr (Wk.to (L := [(4, (.bool (decide (0 ≤ q3))))]) ⟨.rfl, trivial⟩))
theorem impl_frameValid_ok {N : Nat} {p0 : RImage} {p1 : RFrame} {r : Bool} (h0 : impl_frameValid N p0 p1 = some r) : ACalls Tryz.prog 99 [(.agg (eRImage p0)), (.agg (eRFrame p1))] [] (fun v st => v = (.bool r) ∧ st = []) := by
 unfold impl_frameValid at h0
 refine ai Tryz.func99 rfl rfl rfl rfl (sr rfl fun K1 hK1 => ao_box (m := 0) go0 rfl rfl rfl rfl rfl (ao_box (m := 1) go0 rfl rfl rfl rfl rfl (zq tb rfl (dn hK1 rfl (AW.seq fun K2 hK2 => AW.seq fun K3 hK3 => bs h0 fun o5 h1 h0 => ?_)))))
 have M5 : ∀ (t4 : Bool), o5 = t4 → ∀ s, Wk 0 s ⟨92, envL [(2, (.ptr 0 0 0 0)), (3, (.ptr 1 0 0 0)), (18, (.bool t4))], [⟨0, 37, 2, [(eRImage p0)]⟩, ⟨0, 64, 6, [(eRFrame p1)]⟩]⟩ → K3 s := by
  intro t4 hq s hw
  subst o5
  try dsimp only at h0
  refine hK3 _ (AW.weaken hw ?_)
  refine ci h0 rfl ?_ ?_ <;> clear h0
  ·intro b6 h0
   refine zr tb rfl rfl ?_
   replace h0 := Sh.some_eq h0
   subst r
   exact AW.ret (xr (Wk.d0 [(4, (.bool false))] rfl))
  ·intro b6 h0
   refine AW.skip (hK2 _ (sr rfl fun K8 hK8 => zm tb 4 rfl (bs h0 fun c9 gc9 h0 => zx ei35 gc9 rfl rfl rfl (zq tb rfl (ao_alloc (m := 2) go0 zi102 rfl rfl (ao_str go0 ti102 rfl rfl rfl rfl rfl rfl (show 0 + 5 ≤ 5 by decide) rfl (dn hK8 rfl (AW.seq fun K10 hK10 => AW.seq fun K11 hK11 => bs h0 fun o13 h1 h0 => ?_))))))))
   have M13 : ∀ (t12 : Bool), o13 = t12 → ∀ s, Wk 0 s ⟨92, envL [(3, (.ptr 0 0 0 0)), (59, (.bool t12))], [⟨0, 64, 6, [(eRFrame p1)]⟩]⟩ → K11 s := by
    intro t12 hq s hw
    subst o13
    try dsimp only at h0
    refine hK11 _ (AW.weaken hw ?_)
    refine ci h0 rfl ?_ ?_ <;> clear h0
    ·intro b14 h0
     refine zr tb rfl rfl ?_
     replace h0 := Sh.some_eq h0
     subst r
     exact AW.ret (xr (Wk.d0 [(4, (.bool false))] rfl))
    ·intro b14 h0
     refine AW.skip (hK10 _ (AW.seq fun K16 hK16 => sr rfl fun K17 hK17 => zm tb 2 rfl (zl tb rfl rfl (zq tb rfl (dn hK17 rfl ?_)))))
     obtain ⟨o19, h1, h0⟩ := Sh.cont_some h0
     have M19 : ∀ (_ : Unit), o19 = Sum.inr () → ∀ s, Wk 0 s ⟨92, envL [], []⟩ → K16 s := by
      intro _ hq s hw
      subst o19
      try dsimp only at h0
      refine hK16 _ (AW.weaken hw (zr tb rfl rfl ?_))
      replace h0 := Sh.some_eq h0
      subst r
      exact AW.ret (xr (Wk.to (L := [(4, (.bool true))]) ⟨.rfl, trivial⟩))
     refine AW.block (AW.loopF (σ := Int) (fun n v => impl_frameValid_L1 p1 n v = some o19) (fun t18 => ⟨92, envL [(3, (.ptr 0 0 0 0)), (61, (ls eI p1.regs)), (62, (i64 (Sh.len p1.regs))), (63, (i64 t18))], [⟨0, 64, 6, [(eRFrame p1)]⟩]⟩) N 0 h1 (Wk.tr rfl) (fun _ hv => by rw [impl_frameValid_L1] at hv; cases hv) ?_)
     rintro n t18 h1
     try dsimp only at h1 ⊢
     rw [impl_frameValid_L1] at h1
     refine zr tb rfl rfl (AW.seq fun K22 hK22 => ?_)
     refine ci h1 rfl ?_ ?_ <;> clear h1
     ·intro b23 h1
      refine AW.skip (hK22 _ (AW.seq fun K24 hK24 => AW.block (sr rfl fun K25 hK25 => zq tb rfl (bs h1 fun c26 gc26 h1 => zx ei26 gc26 rfl rfl rfl (zm tb 3 rfl (dn hK25 rfl (AW.seq fun K27 hK27 => bs h1 fun o29 h2 h1 => ?_)))))))
      have M29 : ∀ (t28 : Bool), o29 = t28 → ∀ s, Wk 0 s ⟨92, envL [(3, (.ptr 0 0 0 0)), (61, (ls eI p1.regs)), (62, (i64 (Sh.len p1.regs))), (63, (i64 t18)), (90, (.bool t28))], [⟨0, 64, 6, [(eRFrame p1)]⟩]⟩ → K27 s := by
       intro t28 hq s hw
       subst o29
       try dsimp only at h1
       refine hK27 _ (AW.weaken hw ?_)
       refine ci h1 rfl ?_ ?_ <;> clear h1
       ·intro b30 h1
        refine zr tb rfl rfl ?_
        replace h1 := Sh.some_eq h1
        subst o19
        try dsimp only [id] at h0
        replace h0 := Sh.some_eq h0
        subst r
        exact AW.ret (xr (Wk.d0 [(4, (.bool false))] rfl))
       ·intro b30 h1
        exact AW.skip (hK24 _ (AW.regionO rfl (zm tb 2 rfl (AO.done (xi (Sh.w (t18 + 1)) h1 (Wk.tr rfl))))))
      refine AW.regionO rfl (zq tb rfl (bs h2 fun q32 gq32 h2 => zc hb95 (impl_isInt_ok gq32) rfl rfl rfl (zm tb 2 rfl ?_)))
      rcases Sh.ite_some h2 with ⟨b33, h2⟩ | ⟨b33, h2⟩
      ·refine zg tb b33 rfl (zg tb b33 rfl (zt b33 rfl (zq tb rfl ?_)))
       rcases Sh.ite_some h2 with ⟨b34, h2⟩ | ⟨b34, h2⟩
       ·refine zs b34 rfl ?_
        iterate 5 refine zs b34 rfl ?_
        refine zt b34 rfl (zq tb rfl ?_)
        iterate 6 refine zs rfl rfl ?_
        exact zt rfl rfl (AO.done (M29 true (Sh.some_eq h2).symm _ (Wk.tr rfl)))
       ·refine zg tb b34 rfl (zg tb b34 rfl (zg tb b34 rfl (bs h2 fun c35 gc35 h2 => ao_q (v := (.iptr (eI c35) 0)) (go1 rfl rfl b34) rfl (aq_ixs ei26 rfl rfl gc35 rfl) (zg tb b34 rfl (zg tb b34 rfl (zf b34 rfl (zq tb rfl ?_)))))))
        rcases Sh.ite_some h2 with ⟨b36, h2⟩ | ⟨b36, h2⟩
        ·refine zs b36 rfl ?_
         iterate 5 refine zs b36 rfl ?_
         exact zt b36 rfl (AO.done (M29 true (Sh.some_eq h2).symm _ (Wk.tr rfl)))
        ·exact zg tb b36 rfl (zg tb b36 rfl (zg tb b36 rfl (ao_q (v := (.iptr (eI c35) 0)) (go1 rfl rfl b36) rfl (aq_ixs ei26 rfl rfl gc35 rfl) (zg tb b36 rfl (zg tb b36 rfl (zf b36 rfl (AO.done (M29 (decide (999999 < c35)) (Sh.some_eq h2).symm _ (Wk.tr rfl)))))))))
      ·refine zs b33 rfl (zs b33 rfl (zf b33 rfl (zq tb rfl ?_)))
       iterate 3 refine zg tb rfl rfl ?_
       refine bs h2 fun c37 gc37 h2 => ao_q (v := (.iptr (eI c37) 0)) (go1 rfl rfl rfl) rfl (aq_ixs ei26 rfl rfl gc37 rfl) (zg tb rfl rfl (zg tb rfl rfl (zf rfl rfl (zq tb rfl ?_))))
       rcases Sh.ite_some h2 with ⟨b38, h2⟩ | ⟨b38, h2⟩
       ·refine zs b38 rfl ?_
        iterate 5 refine zs b38 rfl ?_
        exact zt b38 rfl (AO.done (M29 true (Sh.some_eq h2).symm _ (Wk.tr rfl)))
       ·exact zg tb b38 rfl (zg tb b38 rfl (zg tb b38 rfl (ao_q (v := (.iptr (eI c37) 0)) (go1 rfl rfl b38) rfl (aq_ixs ei26 rfl rfl gc37 rfl) (zg tb b38 rfl (zg tb b38 rfl (zf b38 rfl (AO.done (M29 (decide (999999 < c37)) (Sh.some_eq h2).symm _ (Wk.tr rfl)))))))))
     ·intro b23 h1
      exact AW.exit (M19 () (Sh.some_eq h1).symm _ (Wk.d0 _ rfl))
   refine AW.regionO rfl (zm tb 4 rfl ?_)
   rcases Sh.ite_some h1 with ⟨b39, h1⟩ | ⟨b39, h1⟩
   ·refine zs b39 rfl ?_
    iterate 5 refine zs b39 rfl ?_
    refine zt b39 rfl (zq tb rfl ?_)
    iterate 6 refine zs rfl rfl ?_
    refine zt rfl rfl (zq tb rfl ?_)
    iterate 6 refine zs rfl rfl ?_
    refine zt rfl rfl (zq tb rfl ?_)
    iterate 6 refine zs rfl rfl ?_
    refine zt rfl rfl ?_
    exact AO.done (M13 true (Sh.some_eq h1).symm _ (Wk.permk (L := [(3, (.ptr 0 0 0 0)), (59, (.bool true))]) (st' := [⟨0, 64, 6, [(eRFrame p1)]⟩]) (st1 := [⟨0, 64, 6, [(eRFrame p1)]⟩]) [1] rfl .nil (by decide) rfl rfl (.raw rfl rfl .nil) ⟨.rfl, .rfl, trivial⟩))
   ·refine zg tb b39 rfl ?_
    iterate 3 refine zg tb b39 rfl ?_
    refine ao_q (v := (i64 (Sh.len c9.code))) (go1 rfl rfl b39) rfl (aq_lens sl100 rfl) (zg tb b39 rfl (zf b39 rfl (zq tb rfl ?_)))
    rcases Sh.ite_some h1 with ⟨b40, h1⟩ | ⟨b40, h1⟩
    ·refine zs b40 rfl ?_
     iterate 5 refine zs b40 rfl ?_
     refine zt b40 rfl (zq tb rfl ?_)
     iterate 6 refine zs rfl rfl ?_
     refine zt rfl rfl (zq tb rfl ?_)
     iterate 6 refine zs rfl rfl ?_
     refine zt rfl rfl ?_
     exact AO.done (M13 true (Sh.some_eq h1).symm _ (Wk.permk (L := [(3, (.ptr 0 0 0 0)), (59, (.bool true))]) (st' := [⟨0, 64, 6, [(eRFrame p1)]⟩]) (st1 := [⟨0, 64, 6, [(eRFrame p1)]⟩]) [1] rfl .nil (by decide) rfl rfl (.raw rfl rfl .nil) ⟨.rfl, .rfl, trivial⟩))
    ·refine zg tb b40 rfl (zg tb b40 rfl (ao_q (v := (i64 (Sh.len p1.regs))) (go1 rfl rfl b40) rfl (aq_lens sl26 rfl) ?_))
     iterate 3 refine zg tb b40 rfl ?_
     refine zf b40 rfl (zq tb rfl ?_)
     rcases Sh.ite_some h1 with ⟨b41, h1⟩ | ⟨b41, h1⟩
     ·refine zs b41 rfl ?_
      iterate 5 refine zs b41 rfl ?_
      refine zt b41 rfl (zq tb rfl ?_)
      iterate 6 refine zs rfl rfl ?_
      refine zt rfl rfl ?_
      exact AO.done (M13 true (Sh.some_eq h1).symm _ (Wk.permk (L := [(3, (.ptr 0 0 0 0)), (59, (.bool true))]) (st' := [⟨0, 64, 6, [(eRFrame p1)]⟩]) (st1 := [⟨0, 64, 6, [(eRFrame p1)]⟩]) [1] rfl .nil (by decide) rfl rfl (.raw rfl rfl .nil) ⟨.rfl, .rfl, trivial⟩))
     ·refine zg tb b41 rfl (zg tb b41 rfl (ao_q (v := (i64 (Sh.len p1.own))) (go1 rfl rfl b41) rfl (aq_lens sl26 rfl) ?_))
      iterate 3 refine zg tb b41 rfl ?_
      refine zf b41 rfl (zq tb rfl ?_)
      rcases Sh.ite_some h1 with ⟨b42, h1⟩ | ⟨b42, h1⟩
      ·refine zs b42 rfl ?_
       iterate 5 refine zs b42 rfl ?_
       refine zt b42 rfl ?_
       exact AO.done (M13 true (Sh.some_eq h1).symm _ (Wk.permk (L := [(3, (.ptr 0 0 0 0)), (59, (.bool true))]) (st' := [⟨0, 64, 6, [(eRFrame p1)]⟩]) (st1 := [⟨0, 64, 6, [(eRFrame p1)]⟩]) [1] rfl .nil (by decide) rfl rfl (.raw rfl rfl .nil) ⟨.rfl, .rfl, trivial⟩))
      ·refine zg tb b42 rfl (zg tb b42 rfl (ao_q (v := (i64 (Sh.len p1.held))) (go1 rfl rfl b42) rfl (aq_lens sl26 rfl) ?_))
       iterate 3 refine zg tb b42 rfl ?_
       refine zf b42 rfl ?_
       exact AO.done (M13 (!decide ((Sh.len p1.held) = c9.regs)) (Sh.some_eq h1).symm _ (Wk.permk (L := [(3, (.ptr 0 0 0 0)), (59, (.bool (!decide ((Sh.len p1.held) = c9.regs))))]) (st' := [⟨0, 64, 6, [(eRFrame p1)]⟩]) (st1 := [⟨0, 64, 6, [(eRFrame p1)]⟩]) [1] rfl .nil (by decide) rfl rfl (.raw rfl rfl .nil) ⟨.rfl, .rfl, trivial⟩))
 refine AW.regionO rfl (zm tb 4 rfl ?_)
 rcases Sh.ite_some h1 with ⟨b43, h1⟩ | ⟨b43, h1⟩
 ·refine zs b43 rfl ?_
  iterate 5 refine zs b43 rfl ?_
  exact zt b43 rfl (AO.done (M5 true (Sh.some_eq h1).symm _ (Wk.tr rfl)))
 ·refine zg tb b43 rfl ?_
  iterate 3 refine zg tb b43 rfl ?_
  exact ao_q (v := (i64 (Sh.len p0.procs))) (go1 rfl rfl b43) rfl (aq_lens sl35 rfl) (zg tb b43 rfl (zf b43 rfl (AO.done (M5 (decide ((Sh.len p0.procs) ≤ p1.proc)) (Sh.some_eq h1).symm _ (Wk.tr rfl)))))
theorem impl_Frame_tally_ok {N : Nat} {s0 : (List Int)} {s1 : (List Int)} {p0 : RFrame} {p1 : (List Cell)} {r : Bool × (List Int) × (List Int)} (h0 : impl_Frame_tally N s0 s1 p0 p1 = some r) : ACalls Tryz.prog 100 [(.agg (eRFrame p0)), (ls eCell p1), (ow 0 0 s0), (ow 1 0 s1)] [(ro 0 3 1 eI s0), (ro 0 3 1 eI s1)] (fun v st => v = (.bool r.1) ∧ st = [(ro 0 3 1 eI r.2.1), (ro 0 3 1 eI r.2.2)]) := by
 unfold impl_Frame_tally at h0
 refine ai Tryz.func100 rfl rfl rfl rfl (sr rfl fun K1 hK1 => ao_box (m := 2) go0 rfl rfl rfl rfl rfl (zq tb rfl (dn hK1 rfl (AW.seq fun K2 hK2 => sr rfl fun K3 hK3 => zm tb 2 rfl (zl tb rfl rfl (zq tb rfl (dn hK3 rfl ?_)))))))
 obtain ⟨o9, h1, h0⟩ := Sh.cont_some h0
 have M9 : ∀ (l7 : (List Int)) (l8 : (List Int)), o9 = Sum.inr (l7, l8) → ∀ s, Wk 2 s ⟨78, envL [], [(ro 0 3 1 eI l7), (ro 0 3 1 eI l8)]⟩ → K2 s := by
  intro l7 l8 hq s hw
  subst o9
  try dsimp only at h0
  refine hK2 _ (AW.weaken hw (zr tb rfl rfl ?_))
  replace h0 := Sh.some_eq h0
  subst r
  exact AW.ret (xr (Wk.to (L := [(8, (.bool true))]) ⟨.rfl, trivial⟩))
 refine AW.block (AW.loopF (σ := Int × (List Int) × (List Int)) (fun n v => impl_Frame_tally_L1 p0 p1 n v.1 v.2.1 v.2.2 = some o9) (fun (t4, l5, l6) => ⟨78, envL [(1, (ls eCell p1)), (2, (ow 0 0 l5)), (3, (ow 1 0 l6)), (4, (.ptr 2 0 0 0)), (15, (ls eI p0.own)), (16, (i64 (Sh.len p0.own))), (17, (i64 t4))], [(ro 0 3 1 eI l5), (ro 0 3 1 eI l6), ⟨0, 64, 6, [(eRFrame p0)]⟩]⟩) N (0, s0, s1) h1 (Wk.tr rfl) (fun _ hv => by rw [impl_Frame_tally_L1] at hv; cases hv) ?_)
 rintro n ⟨t4, l5, l6⟩ h1
 try dsimp only at h1 ⊢
 rw [impl_Frame_tally_L1] at h1
 refine zr tb rfl rfl (AW.seq fun K12 hK12 => ?_)
 refine ci h1 rfl ?_ ?_ <;> clear h1
 ·intro b13 h1
  refine AW.skip (hK12 _ (AW.seq fun K14 hK14 => ?_))
  obtain ⟨o17, h2, h1⟩ := Sh.cont_some h1
  have M17 : ∀ (l15 : (List Int)) (l16 : (List Int)), o17 = Sum.inr (l15, l16) → ∀ s, Wk 2 s ⟨78, envL [(1, (ls eCell p1)), (2, (ow 0 0 l15)), (3, (ow 1 0 l16)), (4, (.ptr 2 0 0 0)), (15, (ls eI p0.own)), (16, (i64 (Sh.len p0.own))), (17, (i64 t4))], [(ro 0 3 1 eI l15), (ro 0 3 1 eI l16), ⟨0, 64, 6, [(eRFrame p0)]⟩]⟩ → K14 s := by
   intro l15 l16 hq s hw
   subst o17
   try dsimp only at h1
   exact hK14 _ (AW.weaken hw (AW.regionO rfl (zm tb 2 rfl (AO.done (xi (Sh.w (t4 + 1), l15, l16) h1 (Wk.tr rfl))))))
  refine AW.block (sr rfl fun K18 hK18 => zq tb rfl (bs h2 fun c19 gc19 h2 => zx ei26 gc19 rfl rfl rfl (zm tb 3 rfl (dn hK18 rfl (AW.seq fun K20 hK20 => ?_)))))
  obtain ⟨o22, h3, h2⟩ := Sh.cont_some h2
  have M22 : ∀ (l21 : (List Int)), o22 = Sum.inr l21 → ∀ s, Wk 2 s ⟨78, envL [(1, (ls eCell p1)), (2, (ow 0 0 l21)), (3, (ow 1 0 l6)), (4, (.ptr 2 0 0 0)), (9, (i64 t4)), (15, (ls eI p0.own)), (16, (i64 (Sh.len p0.own))), (17, (i64 t4))], [(ro 0 3 1 eI l21), (ro 0 3 1 eI l6), ⟨0, 64, 6, [(eRFrame p0)]⟩]⟩ → K20 s := by
   intro l21 hq s hw
   subst o22
   try dsimp only at h2
   refine hK20 _ (AW.weaken hw (sr rfl fun K23 hK23 => zm tb 3 rfl (bs h2 fun c24 gc24 h2 => zx ei26 gc24 rfl rfl rfl (zm tb 2 rfl (dn hK23 rfl ?_)))))
   refine ci h2 rfl ?_ ?_ <;> clear h2
   ·intro b25 h2
    have b26 : decide (c24 = 0) = false := by simpa using b25
    refine sr rfl fun K27 hK27 => zm tb 3 rfl (zx ei26 gc24 rfl rfl rfl (zm tb 3 rfl (dn hK27 rfl (AW.seq fun K28 hK28 => AW.seq fun K29 hK29 => bs h2 fun o31 h3 h2 => ?_))))
    have M31 : ∀ (t30 : Bool), o31 = t30 → ∀ s, Wk 2 s ⟨78, envL [(1, (ls eCell p1)), (2, (ow 0 0 l21)), (3, (ow 1 0 l6)), (4, (.ptr 2 0 0 0)), (13, (i64 (Sh.w (c24 - 1000)))), (15, (ls eI p0.own)), (16, (i64 (Sh.len p0.own))), (17, (i64 t4)), (70, (.bool t30))], [(ro 0 3 1 eI l21), (ro 0 3 1 eI l6), ⟨0, 64, 6, [(eRFrame p0)]⟩]⟩ → K29 s := by
     intro t30 hq s hw
     subst o31
     try dsimp only at h2
     refine hK29 _ (AW.weaken hw ?_)
     refine ci h2 rfl ?_ ?_ <;> clear h2
     ·intro b32 h2
      refine zr tb rfl rfl ?_
      replace h2 := Sh.some_eq h2
      subst o17
      try dsimp only [id] at h1
      replace h1 := Sh.some_eq h1
      subst o9
      try dsimp only [id] at h0
      replace h0 := Sh.some_eq h0
      subst r
      exact AW.ret (xr (Wk.permk (L := [(8, (.bool false))]) (st' := [(ro 0 3 1 eI l21), (ro 0 3 1 eI l6)]) (st1 := [(ro 0 3 1 eI l21), (ro 0 3 1 eI l6)]) [0, 1] rfl (.pure (pure_map fun _ => rfl) (.pure (pure_map fun _ => rfl) .nil)) (by decide) rfl rfl (.pure (pure_map fun _ => rfl) (.pure (pure_map fun _ => rfl) .nil)) ⟨.rfl, trivial⟩))
     ·intro b32 h2
      refine AW.skip (hK28 _ (AW.regionO rfl (zm tb 2 rfl (bs h2 fun c34 gc34 h2 => zz (.ptr 1 0 (Int.toNat (Sh.w (c24 - 1000))) 0) (aq_ixo ei26 rfl rfl rfl rfl gc34) rfl (zz (i64 c34) (aq_ldp ti3 rfl rfl (map_get gc34) rfl) rfl (zq tb rfl (zz (.ptr 1 0 (Int.toNat (Sh.w (c24 - 1000))) 0) (aq_ixo ei26 rfl rfl rfl rfl gc34) rfl (ao_stl (u' := Sh.w (c34 + 1)) go0 ti3 rfl rfl gc34 rfl rfl rfl (show 0 + 1 ≤ 1 by decide) rfl rfl ?_))))))))
      exact AO.done (M17 l21 (Sh.put l6 (Sh.w (c24 - 1000)) (Sh.w (c34 + 1))) (Sh.some_eq h2).symm _ (Wk.to (L := [(1, (.sl (List.map eCell p1))), (2, (.own 0 0 (List.length l21))), (3, (.own 1 0 (List.length (Sh.put l6 (Sh.w (c24 - 1000)) (Sh.w (c34 + 1)))))), (4, (.ptr 2 0 0 0)), (15, (.sl (List.map eI p0.own))), (16, (i64 (Sh.len p0.own))), (17, (i64 t4))]) ⟨.rfl, .rfl, (.len (by simp only [Sh.put_len])), .rfl, .rfl, .rfl, .rfl, trivial⟩))
    refine AW.regionO rfl (zm tb 3 rfl ?_)
    rcases Sh.ite_some h3 with ⟨b35, h3⟩ | ⟨b35, h3⟩
    ·refine zs b35 rfl ?_
     iterate 3 refine zs b35 rfl ?_
     refine zt b35 rfl (zq tb rfl ?_)
     iterate 6 refine zs rfl rfl ?_
     exact zt rfl rfl (AO.done (M31 true (Sh.some_eq h3).symm _ (Wk.tr rfl)))
    ·refine zg tb b35 rfl (zg tb b35 rfl (ao_q (v := (i64 (Sh.len p1))) (go1 rfl rfl b35) rfl (aq_lens sl39 rfl) (zg tb b35 rfl (zf b35 rfl (zq tb rfl ?_)))))
     rcases Sh.ite_some h3 with ⟨b36, h3⟩ | ⟨b36, h3⟩
     ·refine zs b36 rfl ?_
      iterate 5 refine zs b36 rfl ?_
      exact zt b36 rfl (AO.done (M31 true (Sh.some_eq h3).symm _ (Wk.tr rfl)))
     ·refine zg tb b36 rfl (zg tb b36 rfl (bs h3 fun c37 gc37 h3 => ao_q (v := (.iptr (eCell c37) 0)) (go1 rfl rfl b36) rfl (aq_ixs ei39 rfl rfl gc37 rfl) ?_))
      iterate 3 refine zg tb b36 rfl ?_
      exact zf b36 rfl (AO.done (M31 (decide (0 ≤ c37.count)) (Sh.some_eq h3).symm _ (Wk.tr rfl)))
   ·intro b25 h2
    have b38 : decide (c24 = 0) = true := by simpa using b25
    exact AW.skip (M17 l21 l6 (Sh.some_eq h2).symm _ (Wk.tr rfl))
  refine zr tb rfl rfl ?_
  refine ci h3 rfl ?_ ?_ <;> clear h3
  ·intro b40 h3
   refine sr rfl fun K41 hK41 => zm tb 4 rfl (bs h3 fun c42 gc42 h3 => zx ei26 gc42 rfl rfl rfl (zq tb rfl (bs h3 fun q43 gq43 h3 => zc (v' := (.tup [(i64 q43.1), (.bool q43.2)])) hb111 (impl_liveAt_ok gq43) rfl rfl rfl (zm tb 5 rfl (dn hK41 rfl (AW.seq fun K44 hK44 => zr tb rfl rfl ?_))))))
   refine ci h3 rfl ?_ ?_ <;> clear h3
   ·intro b46 h3
    have b47 : q43.2 = false := by simpa using b46
    refine zr tb rfl rfl ?_
    replace h3 := Sh.some_eq h3
    subst o22
    try dsimp only [id] at h2
    replace h2 := Sh.some_eq h2
    subst o17
    try dsimp only [id] at h1
    replace h1 := Sh.some_eq h1
    subst o9
    try dsimp only [id] at h0
    replace h0 := Sh.some_eq h0
    subst r
    exact AW.ret (xr (Wk.permk (L := [(8, (.bool false))]) (st' := [(ro 0 3 1 eI l5), (ro 0 3 1 eI l6)]) (st1 := [(ro 0 3 1 eI l5), (ro 0 3 1 eI l6)]) [0, 1] rfl (.pure (pure_map fun _ => rfl) (.pure (pure_map fun _ => rfl) .nil)) (by decide) rfl rfl (.pure (pure_map fun _ => rfl) (.pure (pure_map fun _ => rfl) .nil)) ⟨.rfl, trivial⟩))
   ·intro b46 h3
    have b49 : q43.2 = true := by simpa using b46
    refine AW.skip (hK44 _ (AW.regionO rfl (zm tb 2 rfl (bs h3 fun c50 gc50 h3 => zz (.ptr 0 0 (Int.toNat q43.1) 0) (aq_ixo ei26 rfl rfl rfl rfl gc50) rfl (zz (i64 c50) (aq_ldp ti3 rfl rfl (map_get gc50) rfl) rfl (zm tb 2 rfl (zz (.ptr 0 0 (Int.toNat q43.1) 0) (aq_ixo ei26 rfl rfl rfl rfl gc50) rfl (ao_stl (u' := Sh.w (c50 + c19)) go0 ti3 rfl rfl gc50 rfl rfl rfl (show 0 + 1 ≤ 1 by decide) rfl rfl ?_))))))))
    exact AO.done (M22 (Sh.put l5 q43.1 (Sh.w (c50 + c19))) (Sh.some_eq h3).symm _ (Wk.to (L := [(1, (.sl (List.map eCell p1))), (2, (.own 0 0 (List.length (Sh.put l5 q43.1 (Sh.w (c50 + c19)))))), (3, (.own 1 0 (List.length l6))), (4, (.ptr 2 0 0 0)), (9, (i64 t4)), (15, (.sl (List.map eI p0.own))), (16, (i64 (Sh.len p0.own))), (17, (i64 t4))]) ⟨.rfl, (.len (by simp only [Sh.put_len])), .rfl, .rfl, .rfl, .rfl, .rfl, .rfl, trivial⟩))
  ·intro b40 h3
   exact AW.skip (M22 l5 (Sh.some_eq h3).symm _ (Wk.tr rfl))
 ·intro b13 h1
  exact AW.exit (M9 l5 l6 (Sh.some_eq h1).symm _ (Wk.permk (L := []) (st' := [(ro 0 3 1 eI l5), (ro 0 3 1 eI l6)]) (st1 := [(ro 0 3 1 eI l5), (ro 0 3 1 eI l6)]) [0, 1] rfl (.pure (pure_map fun _ => rfl) (.pure (pure_map fun _ => rfl) .nil)) (by decide) rfl rfl (.pure (pure_map fun _ => rfl) (.pure (pure_map fun _ => rfl) .nil)) trivial))
theorem impl_stateValid_ok {N : Nat} {p0 : RImage} {p1 : RState} {r : Bool} (h0 : impl_stateValid N p0 p1 = some r) : ACalls Tryz.prog 66 [(.agg (eRImage p0)), (.agg (eRState p1))] [] (fun v st => v = (.bool r) ∧ st = []) := by
 unfold impl_stateValid at h0
 refine ai Tryz.func66 rfl rfl rfl rfl (sr rfl fun K1 hK1 => ao_box (m := 0) go0 rfl rfl rfl rfl rfl (ao_box (m := 1) go0 rfl rfl rfl rfl rfl (zq tb rfl (dn hK1 rfl (AW.seq fun K2 hK2 => AW.seq fun K3 hK3 => bs h0 fun o5 h1 h0 => ?_)))))
 have M5 : ∀ (t4 : Bool), o5 = t4 → ∀ s, Wk 0 s ⟨188, envL [(2, (.ptr 0 0 0 0)), (3, (.ptr 1 0 0 0)), (45, (.bool t4))], [⟨0, 37, 2, [(eRImage p0)]⟩, ⟨0, 42, 7, [(eRState p1)]⟩]⟩ → K3 s := by
  intro t4 hq s hw
  subst o5
  try dsimp only at h0
  refine hK3 _ (AW.weaken hw ?_)
  refine ci h0 rfl ?_ ?_ <;> clear h0
  ·intro b6 h0
   refine zr tb rfl rfl ?_
   replace h0 := Sh.some_eq h0
   subst r
   exact AW.ret (xr (Wk.d0 [(4, (.bool false))] rfl))
  ·intro b6 h0
   refine AW.skip (hK2 _ (AW.seq fun K8 hK8 => AW.seq fun K9 hK9 => bs h0 fun o11 h1 h0 => ?_))
   have M11 : ∀ (t10 : Bool), o11 = t10 → ∀ s, Wk 0 s ⟨188, envL [(2, (.ptr 0 0 0 0)), (3, (.ptr 1 0 0 0)), (74, (.bool t10))], [⟨0, 37, 2, [(eRImage p0)]⟩, ⟨0, 42, 7, [(eRState p1)]⟩]⟩ → K9 s := by
    intro t10 hq s hw
    subst o11
    try dsimp only at h0
    refine hK9 _ (AW.weaken hw ?_)
    refine ci h0 rfl ?_ ?_ <;> clear h0
    ·intro b12 h0
     refine zr tb rfl rfl ?_
     replace h0 := Sh.some_eq h0
     subst r
     exact AW.ret (xr (Wk.d0 [(4, (.bool false))] rfl))
    ·intro b12 h0
     refine AW.skip (hK8 _ (sr rfl fun K14 hK14 => zm tb 2 rfl (bs h0 fun q15 gq15 h0 => ao_call (v' := (.tup [(ow 2 0 q15.1), (.bool q15.2)])) go0 hb96 (impl_checkedHeap_ok gq15) rfl rfl ⟨(pure_map' fun _ => rfl), trivial⟩ rfl rfl (zm tb 5 rfl (dn hK14 rfl (AW.seq fun K16 hK16 => AW.seq fun K17 hK17 => bs h0 fun o19 h1 h0 => ?_))))))
     have M19 : ∀ (t18 : Bool), o19 = t18 → ∀ s, Wk 0 s ⟨188, envL [(2, (.ptr 0 0 0 0)), (3, (.ptr 1 0 0 0)), (5, (ow 2 0 q15.1)), (87, (.bool t18))], [⟨0, 37, 2, [(eRImage p0)]⟩, ⟨0, 42, 7, [(eRState p1)]⟩, (ro 0 3 1 eI q15.1)]⟩ → K17 s := by
      intro t18 hq s hw
      subst o19
      try dsimp only at h0
      refine hK17 _ (AW.weaken hw ?_)
      refine ci h0 rfl ?_ ?_ <;> clear h0
      ·intro b20 h0
       refine zr tb rfl rfl ?_
       replace h0 := Sh.some_eq h0
       subst r
       exact AW.ret (xr (Wk.d0 [(4, (.bool false))] rfl))
      ·intro b20 h0
       refine AW.skip (hK16 _ (sr rfl fun K22 hK22 => zm tb 2 rfl (zl tb rfl rfl (bs h0 fun l23 gl23 h0 => ao_make (m := 3) (enc := eI) (u := 0) go0 ei26 rfl rfl rfl gl23 rfl rfl (zq tb rfl (dn hK22 rfl (AW.seq fun K24 hK24 => sr rfl fun K25 hK25 => zm tb 2 rfl (zl tb rfl rfl ?_))))))))
       refine zq tb rfl (dn hK25 rfl ?_)
       obtain ⟨o31, h1, h0⟩ := Sh.cont_some h0
       have M31 : ∀ (l29 : (List Int)) (l30 : (List Int)), o31 = Sum.inr (l29, l30) → ∀ s, Wk 0 s ⟨188, envL [(3, (.ptr 0 0 0 0)), (5, (ow 1 0 l29)), (7, (ow 2 0 l30))], [⟨0, 42, 7, [(eRState p1)]⟩, (ro 0 3 1 eI l29), (ro 0 3 1 eI l30)]⟩ → K24 s := by
        intro l29 l30 hq s hw
        subst o31
        try dsimp only at h0
        refine hK24 _ (AW.weaken hw (AW.seq fun K32 hK32 => sr rfl fun K33 hK33 => zm tb 2 rfl (zl tb rfl rfl (zq tb rfl (dn hK33 rfl ?_)))))
        obtain ⟨o35, h1, h0⟩ := Sh.cont_some h0
        have M35 : ∀ (_ : Unit), o35 = Sum.inr () → ∀ s, Wk 0 s ⟨188, envL [], []⟩ → K32 s := by
         intro _ hq s hw
         subst o35
         try dsimp only at h0
         refine hK32 _ (AW.weaken hw (zr tb rfl rfl ?_))
         replace h0 := Sh.some_eq h0
         subst r
         exact AW.ret (xr (Wk.to (L := [(4, (.bool true))]) ⟨.rfl, trivial⟩))
        refine AW.block (AW.loopF (σ := Int) (fun n v => impl_stateValid_L2 l29 l30 p1 n v = some o35) (fun t34 => ⟨188, envL [(5, (ow 0 0 l29)), (7, (ow 1 0 l30)), (156, (ls eCell p1.heap)), (157, (i64 (Sh.len p1.heap))), (158, (i64 t34))], [(ro 0 3 1 eI l29), (ro 0 3 1 eI l30)]⟩) N 0 h1 (Wk.permk (L := [(5, (ow 0 0 l29)), (7, (ow 1 0 l30)), (156, (ls eCell p1.heap)), (157, (i64 (Sh.len p1.heap))), (158, (i64 0))]) (st' := [(ro 0 3 1 eI l29), (ro 0 3 1 eI l30)]) (st1 := [(ro 0 3 1 eI l29), (ro 0 3 1 eI l30)]) [1, 2] rfl .nil (by decide) rfl rfl (.pure (pure_map fun _ => rfl) (.pure (pure_map fun _ => rfl) .nil)) ⟨.rfl, .rfl, .rfl, .rfl, .rfl, trivial⟩) (fun _ hv => by rw [impl_stateValid_L2] at hv; cases hv) ?_)
        rintro n t34 h1
        try dsimp only at h1 ⊢
        rw [impl_stateValid_L2] at h1
        refine zr tb rfl rfl (AW.seq fun K38 hK38 => ?_)
        refine ci h1 rfl ?_ ?_ <;> clear h1
        ·intro b39 h1
         refine AW.skip (hK38 _ (AW.seq fun K40 hK40 => AW.block (sr rfl fun K41 hK41 => zq tb rfl (bs h1 fun c42 gc42 h1 => zx ei39 gc42 rfl rfl rfl (zq tb rfl (ao_alloc (m := 2) go0 zi76 rfl rfl (zq tb rfl (ao_str go0 ti76 rfl rfl rfl rfl rfl rfl (show 0 + 3 ≤ 3 by decide) rfl (dn hK41 rfl ?_)))))))))
         refine AW.seq fun K43 hK43 => bs h1 fun o45 h2 h1 => ?_
         have M45 : ∀ (t44 : Bool), o45 = t44 → ∀ s, Wk 0 s ⟨188, envL [(5, (ow 0 0 l29)), (7, (ow 1 0 l30)), (156, (ls eCell p1.heap)), (157, (i64 (Sh.len p1.heap))), (158, (i64 t34)), (186, (.bool t44))], [(ro 0 3 1 eI l29), (ro 0 3 1 eI l30)]⟩ → K43 s := by
          intro t44 hq s hw
          subst o45
          try dsimp only at h1
          refine hK43 _ (AW.weaken hw ?_)
          refine ci h1 rfl ?_ ?_ <;> clear h1
          ·intro b46 h1
           refine zr tb rfl rfl ?_
           replace h1 := Sh.some_eq h1
           subst o35
           try dsimp only [id] at h0
           replace h0 := Sh.some_eq h0
           subst r
           exact AW.ret (xr (Wk.d0 [(4, (.bool false))] rfl))
          ·intro b46 h1
           exact AW.skip (hK40 _ (AW.regionO rfl (zm tb 2 rfl (AO.done (xi (Sh.w (t34 + 1)) h1 (Wk.tr rfl))))))
         refine AW.draw (by kernel_rfl) (by kernel_rfl) (by rfl) ?_
         iterate 4 refine yq tb rfl ?_
         rcases Sh.ite_some h2 with ⟨b48, h2⟩ | ⟨b48, h2⟩
         ·refine yg tb b48 rfl ?_
          iterate 3 refine yg tb b48 rfl ?_
          refine bs h2 fun c49 gc49 h2 => d_q (v := (.ptr 0 0 (Int.toNat t34) 0)) (go1 rfl rfl b48) rfl (aq_ixo ei26 rfl rfl rfl rfl gc49) (d_q (v := (i64 c49)) (go1 rfl rfl b48) rfl (aq_ldp ti3 rfl rfl (map_get gc49) rfl) (yg tb b48 rfl (yt b48 rfl (yq tb rfl ?_))))
          rcases Sh.ite_some h2 with ⟨b50, h2⟩ | ⟨b50, h2⟩
          ·refine ys b50 rfl ?_
           iterate 3 refine ys b50 rfl ?_
           iterate 5 refine yn rfl ?_
           refine ys b50 rfl (yt b50 rfl ?_)
           exact d_done (M45 true (Sh.some_eq h2).symm _ (Wk.permk (L := [(5, (ow 0 0 l29)), (7, (ow 1 0 l30)), (156, (ls eCell p1.heap)), (157, (i64 (Sh.len p1.heap))), (158, (i64 t34)), (186, (.bool true))]) (st' := [(ro 0 3 1 eI l29), (ro 0 3 1 eI l30)]) (st1 := [(ro 0 3 1 eI l29), (ro 0 3 1 eI l30)]) [0, 1] rfl .nil (by decide) rfl rfl (.pure (pure_map fun _ => rfl) (.pure (pure_map fun _ => rfl) .nil)) ⟨.rfl, .rfl, .rfl, .rfl, .rfl, .rfl, trivial⟩))
          ·refine yg tb b50 rfl ?_
           iterate 3 refine yg tb b50 rfl ?_
           rcases Sh.ite_some h2 with ⟨b51, h2⟩ | ⟨b51, h2⟩
           ·refine yg tb b51 rfl (yg tb b51 rfl (bs h2 fun c52 gc52 h2 => d_q (v := (.ptr 1 0 (Int.toNat t34) 0)) (go1 rfl rfl b51) rfl (aq_ixo ei26 rfl rfl rfl rfl gc52) (d_q (v := (i64 c52)) (go1 rfl rfl b51) rfl (aq_ldp ti3 rfl rfl (map_get gc52) rfl) (yg tb b51 rfl (d_q (v := (.bool (!decide (c52 = 1)))) (go1 rfl rfl b50) rfl (aq_pkt rfl b51 rfl) (yf b50 rfl ?_))))))
            exact d_done (M45 (!decide (c52 = 1)) (Sh.some_eq h2).symm _ (Wk.permk (L := [(5, (ow 0 0 l29)), (7, (ow 1 0 l30)), (156, (ls eCell p1.heap)), (157, (i64 (Sh.len p1.heap))), (158, (i64 t34)), (186, (.bool (!decide (c52 = 1))))]) (st' := [(ro 0 3 1 eI l29), (ro 0 3 1 eI l30)]) (st1 := [(ro 0 3 1 eI l29), (ro 0 3 1 eI l30)]) [0, 1] rfl .nil (by decide) rfl rfl (.pure (pure_map fun _ => rfl) (.pure (pure_map fun _ => rfl) .nil)) ⟨.rfl, .rfl, .rfl, .rfl, .rfl, .rfl, trivial⟩))
           ·refine ys b51 rfl ?_
            iterate 4 refine ys b51 rfl ?_
            refine d_q (v := (.bool false)) (go1 rfl rfl b50) rfl (aq_pkf rfl b51 rfl) (yf b50 rfl ?_)
            exact d_done (M45 false (Sh.some_eq h2).symm _ (Wk.permk (L := [(5, (ow 0 0 l29)), (7, (ow 1 0 l30)), (156, (ls eCell p1.heap)), (157, (i64 (Sh.len p1.heap))), (158, (i64 t34)), (186, (.bool false))]) (st' := [(ro 0 3 1 eI l29), (ro 0 3 1 eI l30)]) (st1 := [(ro 0 3 1 eI l29), (ro 0 3 1 eI l30)]) [0, 1] rfl .nil (by decide) rfl rfl (.pure (pure_map fun _ => rfl) (.pure (pure_map fun _ => rfl) .nil)) ⟨.rfl, .rfl, .rfl, .rfl, .rfl, .rfl, trivial⟩))
         ·refine ys b48 rfl ?_
          iterate 6 refine ys b48 rfl ?_
          refine yf b48 rfl (yq tb rfl ?_)
          iterate 4 refine yg tb rfl rfl ?_
          rcases Sh.ite_some h2 with ⟨b53, h2⟩ | ⟨b53, h2⟩
          ·refine yg tb b53 rfl (yg tb b53 rfl (bs h2 fun c54 gc54 h2 => d_q (v := (.ptr 1 0 (Int.toNat t34) 0)) (go1 rfl rfl b53) rfl (aq_ixo ei26 rfl rfl rfl rfl gc54) (d_q (v := (i64 c54)) (go1 rfl rfl b53) rfl (aq_ldp ti3 rfl rfl (map_get gc54) rfl) (yg tb b53 rfl (d_q (v := (.bool (!decide (c54 = 1)))) (go1 rfl rfl rfl) rfl (aq_pkt rfl b53 rfl) (yf rfl rfl ?_))))))
           exact d_done (M45 (!decide (c54 = 1)) (Sh.some_eq h2).symm _ (Wk.permk (L := [(5, (ow 0 0 l29)), (7, (ow 1 0 l30)), (156, (ls eCell p1.heap)), (157, (i64 (Sh.len p1.heap))), (158, (i64 t34)), (186, (.bool (!decide (c54 = 1))))]) (st' := [(ro 0 3 1 eI l29), (ro 0 3 1 eI l30)]) (st1 := [(ro 0 3 1 eI l29), (ro 0 3 1 eI l30)]) [0, 1] rfl .nil (by decide) rfl rfl (.pure (pure_map fun _ => rfl) (.pure (pure_map fun _ => rfl) .nil)) ⟨.rfl, .rfl, .rfl, .rfl, .rfl, .rfl, trivial⟩))
          ·refine ys b53 rfl ?_
           iterate 4 refine ys b53 rfl ?_
           refine d_q (v := (.bool false)) (go1 rfl rfl rfl) rfl (aq_pkf rfl b53 rfl) (yf rfl rfl ?_)
           exact d_done (M45 false (Sh.some_eq h2).symm _ (Wk.permk (L := [(5, (ow 0 0 l29)), (7, (ow 1 0 l30)), (156, (ls eCell p1.heap)), (157, (i64 (Sh.len p1.heap))), (158, (i64 t34)), (186, (.bool false))]) (st' := [(ro 0 3 1 eI l29), (ro 0 3 1 eI l30)]) (st1 := [(ro 0 3 1 eI l29), (ro 0 3 1 eI l30)]) [0, 1] rfl .nil (by decide) rfl rfl (.pure (pure_map fun _ => rfl) (.pure (pure_map fun _ => rfl) .nil)) ⟨.rfl, .rfl, .rfl, .rfl, .rfl, .rfl, trivial⟩))
        ·intro b39 h1
         exact AW.exit (M35 () (Sh.some_eq h1).symm _ (Wk.d0 _ rfl))
       refine AW.block (AW.loopF (σ := Int × (List Int) × (List Int)) (fun n v => impl_stateValid_L1 N p0 p1 n v.1 v.2.1 v.2.2 = some o31) (fun (t26, l27, l28) => ⟨188, envL [(2, (.ptr 0 0 0 0)), (3, (.ptr 1 0 0 0)), (5, (ow 2 0 l27)), (7, (ow 3 0 l28)), (93, (ls eRFrame p1.frames)), (94, (i64 (Sh.len p1.frames))), (95, (i64 t26))], [⟨0, 37, 2, [(eRImage p0)]⟩, ⟨0, 42, 7, [(eRState p1)]⟩, (ro 0 3 1 eI l27), (ro 0 3 1 eI l28)]⟩) N (0, q15.1, l23) h1 (Wk.tr rfl) (fun _ hv => by rw [impl_stateValid_L1] at hv; cases hv) ?_)
       rintro n ⟨t26, l27, l28⟩ h1
       try dsimp only at h1 ⊢
       rw [impl_stateValid_L1] at h1
       refine zr tb rfl rfl (AW.seq fun K56 hK56 => ?_)
       refine ci h1 rfl ?_ ?_ <;> clear h1
       ·intro b57 h1
        refine AW.skip (hK56 _ (AW.seq fun K58 hK58 => AW.block (sr rfl fun K59 hK59 => zq tb rfl (bs h1 fun c60 gc60 h1 => zx ei40 gc60 rfl rfl rfl (zq tb rfl (ao_alloc (m := 4) go0 zi64 rfl rfl (zq tb rfl (ao_str go0 ti64 rfl rfl rfl rfl rfl rfl (show 0 + 6 ≤ 6 by decide) rfl (dn hK59 rfl ?_)))))))))
        refine AW.seq fun K61 hK61 => sr rfl fun K62 hK62 => zm tb 2 rfl (bs h1 fun q63 gq63 h1 => zc hb99 (impl_frameValid_ok gq63) rfl rfl rfl (zq tb rfl (dn hK62 rfl ?_)))
        refine ci h1 rfl ?_ ?_ <;> clear h1
        ·intro b64 h1
         have b65 : q63 = false := by simpa using b64
         refine zr tb rfl rfl ?_
         replace h1 := Sh.some_eq h1
         subst o31
         try dsimp only [id] at h0
         replace h0 := Sh.some_eq h0
         subst r
         exact AW.ret (xr (Wk.d0 [(4, (.bool false))] rfl))
        ·intro b64 h1
         have b67 : q63 = true := by simpa using b64
         refine AW.skip (hK61 _ (AW.seq fun K68 hK68 => AW.seq fun K69 hK69 => bs h1 fun o71 h2 h1 => ?_))
         have M71 : ∀ (t70 : Bool), o71 = t70 → ∀ s, Wk 0 s ⟨188, envL [(2, (.ptr 0 0 0 0)), (3, (.ptr 1 0 0 0)), (5, (ow 2 0 l27)), (7, (ow 3 0 l28)), (9, (.ptr 4 0 0 0)), (93, (ls eRFrame p1.frames)), (94, (i64 (Sh.len p1.frames))), (95, (i64 t26)), (146, (.bool t70))], [⟨0, 37, 2, [(eRImage p0)]⟩, ⟨0, 42, 7, [(eRState p1)]⟩, (ro 0 3 1 eI l27), (ro 0 3 1 eI l28), ⟨0, 64, 6, [(eRFrame c60)]⟩]⟩ → K69 s := by
          intro t70 hq s hw
          subst o71
          try dsimp only at h1
          refine hK69 _ (AW.weaken hw ?_)
          refine ci h1 rfl ?_ ?_ <;> clear h1
          ·intro b72 h1
           refine zr tb rfl rfl ?_
           replace h1 := Sh.some_eq h1
           subst o31
           try dsimp only [id] at h0
           replace h0 := Sh.some_eq h0
           subst r
           exact AW.ret (xr (Wk.d0 [(4, (.bool false))] rfl))
          ·intro b72 h1
           refine AW.skip (hK68 _ (sr rfl fun K74 hK74 => zm tb 5 rfl (bs h1 fun q75 gq75 h1 => ?_)))
           refine ao_callsL (rowsP := [⟨0, 3, 1, List.map eI l27⟩, ⟨0, 3, 1, List.map eI l28⟩]) (rows0 := [⟨0, 3, 1, List.map eI l27⟩, ⟨0, 3, 1, List.map eI l28⟩]) (rows1 := [⟨0, 3, 1, List.map eI q75.2.1⟩, ⟨0, 3, 1, List.map eI q75.2.2⟩]) (rows2 := []) (rows1' := [⟨0, 3, 1, List.map eI q75.2.1⟩, ⟨0, 3, 1, List.map eI q75.2.2⟩]) (rows2' := []) (st' := [⟨0, 37, 2, [(eRImage p0)]⟩, ⟨0, 42, 7, [(eRState p1)]⟩, ⟨0, 3, 1, List.map eI q75.2.1⟩, ⟨0, 3, 1, List.map eI q75.2.2⟩, ⟨0, 64, 6, [(eRFrame c60)]⟩]) (v' := (.bool q75.1)) [2, 3] go0 hb100 (impl_Frame_tally_ok gq75) rfl (by decide) rfl rfl (.pure (pure_map fun _ => rfl) (.pure (pure_map fun _ => rfl) .nil)) rfl rfl (.pure (pure_map fun _ => rfl) (.pure (pure_map fun _ => rfl) .nil)) .nil rfl rfl (fun hln => ?_)
           have ln76 : List.length q75.2.1 = List.length l27 := by simpa only [List.length_map] using hln 0 _ _ rfl rfl rfl
           have ln77 : List.length q75.2.2 = List.length l28 := by simpa only [List.length_map] using hln 1 _ _ rfl rfl rfl
           refine zq tb rfl (dn hK74 rfl ?_)
           refine ci h1 rfl ?_ ?_ <;> clear h1
           ·intro b78 h1
            have b79 : q75.1 = false := by simpa using b78
            refine zr tb rfl rfl ?_
            replace h1 := Sh.some_eq h1
            subst o31
            try dsimp only [id] at h0
            replace h0 := Sh.some_eq h0
            subst r
            exact AW.ret (xr (Wk.d0 [(4, (.bool false))] rfl))
           ·intro b78 h1
            have b81 : q75.1 = true := by simpa using b78
            refine AW.skip (hK58 _ (AW.regionO rfl (zm tb 2 rfl ?_)))
            exact AO.done (xi (Sh.w (t26 + 1), q75.2.1, q75.2.2) h1 (by refine Wk.trans (Wk.permk (L := [(2, (.ptr 0 0 0 0)), (3, (.ptr 1 0 0 0)), (5, (.own 2 0 (List.length l27))), (7, (.own 3 0 (List.length l28))), (93, (.sl (List.map eRFrame p1.frames))), (94, (i64 (Sh.len p1.frames))), (95, (i64 (Sh.w (t26 + 1))))]) (st' := [⟨0, 37, 2, [(eRImage p0)]⟩, ⟨0, 42, 7, [(eRState p1)]⟩, ⟨0, 3, 1, List.map eI q75.2.1⟩, ⟨0, 3, 1, List.map eI q75.2.2⟩]) (st1 := [⟨0, 37, 2, [(eRImage p0)]⟩, ⟨0, 42, 7, [(eRState p1)]⟩, ⟨0, 3, 1, List.map eI q75.2.1⟩, ⟨0, 3, 1, List.map eI q75.2.2⟩]) [0, 1, 2, 3] rfl .nil (by decide) rfl rfl (.raw rfl rfl (.raw rfl rfl (.pure (pure_map fun _ => rfl) (.pure (pure_map fun _ => rfl) .nil)))) ⟨.rfl, .rfl, .rfl, .rfl, .rfl, .rfl, .rfl, trivial⟩) ?_; exact Wk.to (L := [(2, (.ptr 0 0 0 0)), (3, (.ptr 1 0 0 0)), (5, (.own 2 0 (List.length q75.2.1))), (7, (.own 3 0 (List.length q75.2.2))), (93, (.sl (List.map eRFrame p1.frames))), (94, (i64 (Sh.len p1.frames))), (95, (i64 (Sh.w (t26 + 1))))]) ⟨.rfl, .rfl, (.len (by first | (simp only [Sh.put_len]; done) | (simp only [Sh.put_len]; omega) | omega)), (.len (by first | (simp only [Sh.put_len]; done) | (simp only [Sh.put_len]; omega) | omega)), .rfl, .rfl, .rfl, trivial⟩))
         refine AW.draw (by kernel_rfl) (by kernel_rfl) (by rfl) ?_
         iterate 3 refine yq tb rfl ?_
         rcases Sh.ite_some h2 with ⟨b82, h2⟩ | ⟨b82, h2⟩
         ·refine yg tb b82 rfl ?_
          iterate 2 refine yg tb b82 rfl ?_
          refine yt b82 rfl (yq tb rfl ?_)
          rcases Sh.ite_some h2 with ⟨b83, h2⟩ | ⟨b83, h2⟩
          ·refine ys b83 rfl ?_
           iterate 2 refine ys b83 rfl ?_
           iterate 30 refine yn rfl ?_
           exact ys b83 rfl (yt b83 rfl (d_done (M71 true (Sh.some_eq h2).symm _ (Wk.tr rfl))))
          ·refine yg tb b83 rfl ?_
           iterate 2 refine yg tb b83 rfl ?_
           rcases Sh.ite_some h2 with ⟨b84, h2⟩ | ⟨b84, h2⟩
           ·refine yg tb b84 rfl ?_
            iterate 3 refine yg tb b84 rfl ?_
            rcases Sh.ite_some h2 with ⟨b85, h2⟩ | ⟨b85, h2⟩
            ·refine ys b85 rfl ?_
             iterate 10 refine ys b85 rfl ?_
             refine d_q (v := (.bool true)) (go1 rfl rfl b84) rfl (aq_pkt rfl b85 rfl) (yg tb b84 rfl ?_)
             iterate 12 refine ys rfl rfl ?_
             exact d_q (v := (.bool true)) (go1 rfl rfl b84) rfl (aq_pkt rfl rfl rfl) (d_q (v := (.bool true)) (go1 rfl rfl b83) rfl (aq_pkt rfl b84 rfl) (yf b83 rfl (d_done (M71 true (Sh.some_eq h2).symm _ (Wk.tr rfl)))))
            ·refine yg tb b85 rfl ?_
             iterate 5 refine yg tb b85 rfl ?_
             refine bs h2 fun c86 gc86 h2 => d_q (v := (.iptr (eRFrame c86) 0)) (go1 rfl rfl b85) rfl (aq_ixs ei40 rfl rfl gc86 rfl) ?_
             iterate 2 refine yg tb b85 rfl ?_
             refine d_q (v := (i64 (Sh.len c86.own))) (go1 rfl rfl b85) rfl (aq_lens sl26 rfl) (yg tb b85 rfl (d_q (v := (.bool (decide ((Sh.len c86.own) ≤ c60.dst)))) (go1 rfl rfl b84) rfl (aq_pkf rfl b85 rfl) (yg tb b84 rfl ?_)))
             rcases Sh.ite_some h2 with ⟨b87, h2⟩ | ⟨b87, h2⟩
             ·refine ys b87 rfl ?_
              iterate 11 refine ys b87 rfl ?_
              exact d_q (v := (.bool true)) (go1 rfl rfl b84) rfl (aq_pkt rfl b87 rfl) (d_q (v := (.bool true)) (go1 rfl rfl b83) rfl (aq_pkt rfl b84 rfl) (yf b83 rfl (d_done (M71 true (Sh.some_eq h2).symm _ (Wk.tr rfl)))))
             ·refine yg tb b87 rfl ?_
              iterate 3 refine yg tb b87 rfl ?_
              refine d_q (v := (.iptr (eRFrame c86) 0)) (go1 rfl rfl b87) rfl (aq_ixs ei40 rfl rfl gc86 rfl) ?_
              iterate 4 refine yg tb b87 rfl ?_
              refine bs h2 fun c88 gc88 h2 => d_q (v := (.iptr (eI c88) 0)) (go1 rfl rfl b87) rfl (aq_ixs ei26 rfl rfl gc88 rfl) ?_
              iterate 2 refine yg tb b87 rfl ?_
              exact d_q (v := (.bool (!decide (c88 = 0)))) (go1 rfl rfl b84) rfl (aq_pkf rfl b87 rfl) (d_q (v := (.bool (!decide (c88 = 0)))) (go1 rfl rfl b83) rfl (aq_pkt rfl b84 rfl) (yf b83 rfl (d_done (M71 (!decide (c88 = 0)) (Sh.some_eq h2).symm _ (Wk.tr rfl)))))
           ·refine ys b84 rfl ?_
            iterate 3 refine ys b84 rfl ?_
            iterate 11 refine yn rfl ?_
            iterate 2 refine ys b84 rfl ?_
            iterate 12 refine yn rfl ?_
            exact ys b84 rfl (d_q (v := (.bool false)) (go1 rfl rfl b83) rfl (aq_pkf rfl b84 rfl) (yf b83 rfl (d_done (M71 false (Sh.some_eq h2).symm _ (Wk.tr rfl)))))
         ·refine ys b82 rfl ?_
          iterate 2 refine ys b82 rfl ?_
          refine yf b82 rfl (yq tb rfl ?_)
          iterate 3 refine yg tb rfl rfl ?_
          rcases Sh.ite_some h2 with ⟨b89, h2⟩ | ⟨b89, h2⟩
          ·refine yg tb b89 rfl ?_
           iterate 3 refine yg tb b89 rfl ?_
           rcases Sh.ite_some h2 with ⟨b90, h2⟩ | ⟨b90, h2⟩
           ·refine ys b90 rfl ?_
            iterate 10 refine ys b90 rfl ?_
            refine d_q (v := (.bool true)) (go1 rfl rfl b89) rfl (aq_pkt rfl b90 rfl) (yg tb b89 rfl ?_)
            iterate 12 refine ys rfl rfl ?_
            exact d_q (v := (.bool true)) (go1 rfl rfl b89) rfl (aq_pkt rfl rfl rfl) (d_q (v := (.bool true)) (go1 rfl rfl rfl) rfl (aq_pkt rfl b89 rfl) (yf rfl rfl (d_done (M71 true (Sh.some_eq h2).symm _ (Wk.tr rfl)))))
           ·refine yg tb b90 rfl ?_
            iterate 5 refine yg tb b90 rfl ?_
            refine bs h2 fun c91 gc91 h2 => d_q (v := (.iptr (eRFrame c91) 0)) (go1 rfl rfl b90) rfl (aq_ixs ei40 rfl rfl gc91 rfl) ?_
            iterate 2 refine yg tb b90 rfl ?_
            refine d_q (v := (i64 (Sh.len c91.own))) (go1 rfl rfl b90) rfl (aq_lens sl26 rfl) (yg tb b90 rfl (d_q (v := (.bool (decide ((Sh.len c91.own) ≤ c60.dst)))) (go1 rfl rfl b89) rfl (aq_pkf rfl b90 rfl) (yg tb b89 rfl ?_)))
            rcases Sh.ite_some h2 with ⟨b92, h2⟩ | ⟨b92, h2⟩
            ·refine ys b92 rfl ?_
             iterate 11 refine ys b92 rfl ?_
             exact d_q (v := (.bool true)) (go1 rfl rfl b89) rfl (aq_pkt rfl b92 rfl) (d_q (v := (.bool true)) (go1 rfl rfl rfl) rfl (aq_pkt rfl b89 rfl) (yf rfl rfl (d_done (M71 true (Sh.some_eq h2).symm _ (Wk.tr rfl)))))
            ·refine yg tb b92 rfl ?_
             iterate 3 refine yg tb b92 rfl ?_
             refine d_q (v := (.iptr (eRFrame c91) 0)) (go1 rfl rfl b92) rfl (aq_ixs ei40 rfl rfl gc91 rfl) ?_
             iterate 4 refine yg tb b92 rfl ?_
             refine bs h2 fun c93 gc93 h2 => d_q (v := (.iptr (eI c93) 0)) (go1 rfl rfl b92) rfl (aq_ixs ei26 rfl rfl gc93 rfl) ?_
             iterate 2 refine yg tb b92 rfl ?_
             exact d_q (v := (.bool (!decide (c93 = 0)))) (go1 rfl rfl b89) rfl (aq_pkf rfl b92 rfl) (d_q (v := (.bool (!decide (c93 = 0)))) (go1 rfl rfl rfl) rfl (aq_pkt rfl b89 rfl) (yf rfl rfl (d_done (M71 (!decide (c93 = 0)) (Sh.some_eq h2).symm _ (Wk.tr rfl)))))
          ·refine ys b89 rfl ?_
           iterate 3 refine ys b89 rfl ?_
           iterate 11 refine yn rfl ?_
           iterate 2 refine ys b89 rfl ?_
           iterate 12 refine yn rfl ?_
           exact ys b89 rfl (d_q (v := (.bool false)) (go1 rfl rfl rfl) rfl (aq_pkf rfl b89 rfl) (yf rfl rfl (d_done (M71 false (Sh.some_eq h2).symm _ (Wk.tr rfl)))))
       ·intro b57 h1
        exact AW.exit (M31 l27 l28 (Sh.some_eq h1).symm _ (Wk.permk (L := [(3, (.ptr 0 0 0 0)), (5, (ow 1 0 l27)), (7, (ow 2 0 l28))]) (st' := [⟨0, 42, 7, [(eRState p1)]⟩, (ro 0 3 1 eI l27), (ro 0 3 1 eI l28)]) (st1 := [⟨0, 42, 7, [(eRState p1)]⟩, (ro 0 3 1 eI l27), (ro 0 3 1 eI l28)]) [1, 2, 3] rfl .nil (by decide) rfl rfl (.raw rfl rfl (.pure (pure_map fun _ => rfl) (.pure (pure_map fun _ => rfl) .nil))) ⟨.rfl, .rfl, .rfl, trivial⟩))
     refine AW.regionO rfl (zm tb 3 rfl ?_)
     rcases Sh.ite_some h1 with ⟨b94, h1⟩ | ⟨b94, h1⟩
     ·exact zs b94 rfl (zs b94 rfl (zs b94 rfl (zt b94 rfl (AO.done (M19 true (Sh.some_eq h1).symm _ (Wk.tr rfl))))))
     ·exact zg tb b94 rfl (zg tb b94 rfl (bs h1 fun q95 gq95 h1 => zd b94 hb97 (slices_ContainsFunc_int_int_2_ok gq95) rfl rfl rfl rfl (zf b94 rfl (AO.done (M19 q95 (Sh.some_eq h1).symm _ (Wk.tr rfl))))))
   refine AW.regionO rfl (zm tb 4 rfl ?_)
   rcases Sh.ite_some h1 with ⟨b96, h1⟩ | ⟨b96, h1⟩
   ·refine zs b96 rfl (zs b96 rfl (zs b96 rfl (zt b96 rfl (zq tb rfl ?_))))
    iterate 3 refine zs rfl rfl ?_
    refine zt rfl rfl (zq tb rfl ?_)
    iterate 5 refine zs rfl rfl ?_
    refine zt rfl rfl (zq tb rfl ?_)
    iterate 7 refine zs rfl rfl ?_
    exact zt rfl rfl (AO.done (M11 true (Sh.some_eq h1).symm _ (Wk.tr rfl)))
   ·refine zg tb b96 rfl (zg tb b96 rfl (zg tb b96 rfl (zf b96 rfl (zq tb rfl ?_))))
    rcases Sh.ite_some h1 with ⟨b97, h1⟩ | ⟨b97, h1⟩
    ·refine zs b97 rfl (zs b97 rfl (zs b97 rfl (zt b97 rfl (zq tb rfl ?_))))
     iterate 5 refine zs rfl rfl ?_
     refine zt rfl rfl (zq tb rfl ?_)
     iterate 7 refine zs rfl rfl ?_
     exact zt rfl rfl (AO.done (M11 true (Sh.some_eq h1).symm _ (Wk.tr rfl)))
    ·refine zg tb b97 rfl (zg tb b97 rfl (zg tb b97 rfl (zf b97 rfl (zq tb rfl ?_))))
     rcases Sh.ite_some h1 with ⟨b98, h1⟩ | ⟨b98, h1⟩
     ·refine zs b98 rfl ?_
      iterate 4 refine zs b98 rfl ?_
      refine zt b98 rfl (zq tb rfl ?_)
      iterate 7 refine zs rfl rfl ?_
      exact zt rfl rfl (AO.done (M11 true (Sh.some_eq h1).symm _ (Wk.tr rfl)))
     ·refine zg tb b98 rfl ?_
      iterate 4 refine zg tb b98 rfl ?_
      refine zf b98 rfl (zq tb rfl ?_)
      rcases Sh.ite_some h1 with ⟨b99, h1⟩ | ⟨b99, h1⟩
      ·refine zs b99 rfl ?_
       iterate 6 refine zs b99 rfl ?_
       exact zt b99 rfl (AO.done (M11 true (Sh.some_eq h1).symm _ (Wk.tr rfl)))
      ·refine zg tb b99 rfl (zg tb b99 rfl (ao_q (v := (i64 (Sh.len p1.frames))) (go1 rfl rfl b99) rfl (aq_lens sl40 rfl) ?_))
       iterate 4 refine zg tb b99 rfl ?_
       exact zf b99 rfl (AO.done (M11 (decide ((Sh.w (p1.calls + 1)) < (Sh.len p1.frames))) (Sh.some_eq h1).symm _ (Wk.tr rfl)))
 refine AW.regionO rfl (zm tb 4 rfl ?_)
 rcases Sh.ite_some h1 with ⟨b100, h1⟩ | ⟨b100, h1⟩
 ·refine zs b100 rfl (zs b100 rfl (zs b100 rfl (zt b100 rfl (zq tb rfl ?_))))
  iterate 8 refine zs rfl rfl ?_
  refine zt rfl rfl (zq tb rfl ?_)
  iterate 4 refine zs rfl rfl ?_
  refine zt rfl rfl (zq tb rfl ?_)
  iterate 4 refine zs rfl rfl ?_
  iterate 3 refine zn rfl ?_
  exact zs rfl rfl (zt rfl rfl (AO.done (M5 true (Sh.some_eq h1).symm _ (Wk.tr rfl))))
 ·refine zg tb b100 rfl (zg tb b100 rfl (zg tb b100 rfl (zf b100 rfl (zq tb rfl ?_))))
  rcases Sh.ite_some h1 with ⟨b101, h1⟩ | ⟨b101, h1⟩
  ·refine zs b101 rfl ?_
   iterate 7 refine zs b101 rfl ?_
   refine zt b101 rfl (zq tb rfl ?_)
   iterate 4 refine zs rfl rfl ?_
   refine zt rfl rfl (zq tb rfl ?_)
   iterate 4 refine zs rfl rfl ?_
   iterate 3 refine zn rfl ?_
   exact zs rfl rfl (zt rfl rfl (AO.done (M5 true (Sh.some_eq h1).symm _ (Wk.tr rfl))))
  ·refine zg tb b101 rfl ?_
   iterate 4 refine zg tb b101 rfl ?_
   refine ao_q (v := (i64 (Sh.len p1.frames))) (go1 rfl rfl b101) rfl (aq_lens sl40 rfl) (zg tb b101 rfl (zg tb b101 rfl (zf b101 rfl (zq tb rfl ?_))))
   rcases Sh.ite_some h1 with ⟨b102, h1⟩ | ⟨b102, h1⟩
   ·refine zs b102 rfl ?_
    iterate 3 refine zs b102 rfl ?_
    refine zt b102 rfl (zq tb rfl ?_)
    iterate 4 refine zs rfl rfl ?_
    iterate 3 refine zn rfl ?_
    exact zs rfl rfl (zt rfl rfl (AO.done (M5 true (Sh.some_eq h1).symm _ (Wk.tr rfl))))
   ·refine zg tb b102 rfl (zg tb b102 rfl (bs h1 fun q103 gq103 h1 => zd b102 hb95 (impl_isInt_ok gq103) rfl rfl rfl rfl (zg tb b102 rfl (zf b102 rfl (zq tb rfl ?_)))))
    rcases Sh.ite_some h1 with ⟨b104, h1⟩ | ⟨b104, h1⟩
    ·refine zs b104 rfl ?_
     iterate 3 refine zs b104 rfl ?_
     iterate 3 refine zn rfl ?_
     exact zs b104 rfl (zt b104 rfl (AO.done (M5 true (Sh.some_eq h1).symm _ (Wk.tr rfl))))
    ·refine zg tb b104 rfl ?_
     iterate 3 refine zg tb b104 rfl ?_
     rcases Sh.ite_some h1 with ⟨b105, h1⟩ | ⟨b105, h1⟩
     ·exact zg tb b105 rfl (zg tb b105 rfl (zg tb b105 rfl (ao_q (v := (.bool (!decide (p1.status = 0)))) (go1 rfl rfl b104) rfl (aq_pkt rfl b105 rfl) (zf b104 rfl (AO.done (M5 (!decide (p1.status = 0)) (Sh.some_eq h1).symm _ (Wk.tr rfl)))))))
     ·exact zs b105 rfl (zs b105 rfl (zs b105 rfl (ao_q (v := (.bool false)) (go1 rfl rfl b104) rfl (aq_pkf rfl b105 rfl) (zf b104 rfl (AO.done (M5 false (Sh.some_eq h1).symm _ (Wk.tr rfl)))))))
theorem impl_ValidState_ok {N : Nat} {p0 : RImage} {p1 : RState} {r : Bool} (h0 : impl_ValidState N p0 p1 = some r) : ACalls Tryz.prog 35 [(.agg (eRImage p0)), (.agg (eRState p1))] [] (fun v st => v = (.bool r) ∧ st = []) := by
 unfold impl_ValidState at h0
 refine ai Tryz.func35 rfl rfl rfl rfl (sr rfl fun K1 hK1 => ao_box (m := 0) go0 rfl rfl rfl rfl rfl (ao_box (m := 1) go0 rfl rfl rfl rfl rfl (zq tb rfl (dn hK1 rfl (AW.seq fun K2 hK2 => bs h0 fun o4 h1 h0 => ?_)))))
 have M4 : ∀ (t3 : Bool), o4 = t3 → ∀ s, Wk 0 s ⟨12, envL [(4, (.bool t3))], []⟩ → K2 s := by
  intro t3 hq s hw
  subst o4
  try dsimp only at h0
  refine hK2 _ (AW.weaken hw ?_)
  replace h0 := Sh.some_eq h0
  subst r
  exact AW.ret (xr (Wk.to (L := [(4, (.bool t3))]) ⟨.rfl, trivial⟩))
 refine AW.regionO rfl (zq tb rfl (bs h1 fun q5 gq5 h1 => zc hb65 (impl_ValidImage_ok gq5) rfl rfl rfl (zq tb rfl ?_)))
 rcases Sh.ite_some h1 with ⟨b6, h1⟩ | ⟨b6, h1⟩
 ·exact zg tb b6 rfl (zg tb b6 rfl (bs h1 fun q7 gq7 h1 => zd b6 hb66 (impl_stateValid_ok gq7) rfl rfl rfl rfl (zt b6 rfl (zq tb rfl (AO.done (M4 q7 (Sh.some_eq h1).symm _ (Wk.d0 _ rfl)))))))
 ·exact zs b6 rfl (zs b6 rfl (zs b6 rfl (zf b6 rfl (zq tb rfl (AO.done (M4 false (Sh.some_eq h1).symm _ (Wk.d0 _ rfl)))))))
theorem impl_indicesOf_ok {N : Nat} {p0 : (List Bool)} {r : (List Int)} (h0 : impl_indicesOf N p0 = some r) : ACalls Tryz.prog 36 [(ls eB p0)] [] (fun v st => v = (ow 0 0 r) ∧ st = [(ro 0 3 1 eI r)]) := by
 unfold impl_indicesOf at h0
 refine ai Tryz.func36 rfl rfl rfl rfl ?_
 iterate 2 refine zr tb rfl rfl ?_
 refine AW.seq fun K3 hK3 => sr rfl fun K4 hK4 => zq tb rfl (zl tb rfl rfl (zq tb rfl (dn hK4 rfl (bs h0 fun o8 h1 h0 => ?_))))
 have M8 : ∀ (l7 : (List Int)), o8 = l7 → ∀ s, Wk 0 s ⟨20, envL [(3, (ow 0 0 l7))], [(ro 0 3 1 eI l7)]⟩ → K3 s := by
  intro l7 hq s hw
  subst o8
  try dsimp only at h0
  refine hK3 _ (AW.weaken hw (zr tb rfl rfl ?_))
  replace h0 := Sh.some_eq h0
  subst r
  exact AW.ret (xr (Wk.to (L := [(2, (ow 0 0 l7))]) ⟨.rfl, trivial⟩))
 refine AW.block (AW.loopF (σ := Int × (List Int)) (fun n v => impl_indicesOf_L1 p0 n v.1 v.2 = some o8) (fun (t5, l6) => ⟨20, envL [(3, (ow 0 0 l6)), (6, (ls eB p0)), (7, (i64 (Sh.len p0))), (8, (i64 t5))], [(ro 0 3 1 eI l6)]⟩) N (0, []) h1 ((Wk.adopt (t := 3) rfl 3 (size := 1) (by decide)).trans (Wk.to (L := [(3, (.own 0 0 (List.length ([] : List Int)))), (6, (ls eB p0)), (7, (i64 (Sh.len p0))), (8, (i64 0))]) ⟨.rfl, .rfl, .rfl, .rfl, trivial⟩)) (fun _ hv => by rw [impl_indicesOf_L1] at hv; cases hv) ?_)
 rintro n ⟨t5, l6⟩ h1
 try dsimp only at h1 ⊢
 rw [impl_indicesOf_L1] at h1
 refine zr tb rfl rfl (AW.seq fun K11 hK11 => ?_)
 refine ci h1 rfl ?_ ?_ <;> clear h1
 ·intro b12 h1
  refine AW.skip (hK11 _ (AW.seq fun K13 hK13 => bs h1 fun o15 h2 h1 => ?_))
  have M15 : ∀ (l14 : (List Int)), o15 = l14 → ∀ s, Wk 0 s ⟨20, envL [(3, (ow 0 0 l14)), (6, (ls eB p0)), (7, (i64 (Sh.len p0))), (8, (i64 t5))], [(ro 0 3 1 eI l14)]⟩ → K13 s := by
   intro l14 hq s hw
   subst o15
   try dsimp only at h1
   exact hK13 _ (AW.weaken hw (AW.regionO rfl (zm tb 2 rfl (AO.done (xi (Sh.w (t5 + 1), l14) h1 (Wk.tr rfl))))))
  refine AW.block (sr rfl fun K16 hK16 => zq tb rfl (bs h2 fun c17 gc17 h2 => zx ei62 gc17 rfl rfl rfl (zm tb 3 rfl (dn hK16 rfl (zr tb rfl rfl ?_)))))
  refine ci h2 rfl ?_ ?_ <;> clear h2
  ·intro b19 h2
   refine AW.regionO rfl (zm tb 2 rfl ?_)
   refine ao_bs (m := 1) (l := [t5]) (enc := eI) go0 ei26 (by decide) rfl rfl rfl rfl rfl rfl ?_
   refine bs h2 fun l20 gl20 h2 => ao_apo (l2 := [t5]) go0 ei26 rfl rfl rfl rfl (el_o rfl rfl) (fun _ => rfl) gl20 rfl (zq tb rfl ?_)
   exact AO.done (M15 l20 (Sh.some_eq h2).symm _ (by refine Wk.trans (Wk.rg (L := [(3, (ow 0 0 l20)), (6, (ls eB p0)), (7, (i64 (Sh.len p0))), (8, (i64 t5))]) (st' := [(ro 0 3 1 eI l20), (ro 0 3 1 eI [t5])]) (.pure (pure_map fun _ => rfl) (.pure (pure_map fun _ => rfl) .nil)) ⟨.rfl, .rfl, .rfl, .rfl, trivial⟩) ?_; exact Wk.permk (L := [(3, (ow 0 0 l20)), (6, (ls eB p0)), (7, (i64 (Sh.len p0))), (8, (i64 t5))]) (st' := [(ro 0 3 1 eI l20)]) (st1 := [(ro 0 3 1 eI l20)]) [0] rfl .nil (by decide) rfl rfl (.pure (pure_map fun _ => rfl) .nil) ⟨.rfl, .rfl, .rfl, .rfl, trivial⟩))
  ·intro b19 h2
   exact AW.skip (M15 l6 (Sh.some_eq h2).symm _ (Wk.tr rfl))
 ·intro b12 h1
  exact AW.exit (M8 l6 (Sh.some_eq h1).symm _ (Wk.tr rfl))
theorem impl_OwnedCells_ok {N : Nat} {p0 : RImage} {p1 : RState} {r : (List Int)} (h0 : impl_OwnedCells N p0 p1 = some r) : ACalls Tryz.prog 11 [(.agg (eRImage p0)), (.agg (eRState p1))] [] (fun v st => v = (ow 0 0 r) ∧ st = [(ro 0 3 1 eI r)]) := by
 unfold impl_OwnedCells at h0
 refine ai Tryz.func11 rfl rfl rfl rfl (sr rfl fun K1 hK1 => ao_box (m := 0) go0 rfl rfl rfl rfl rfl (ao_box (m := 1) go0 rfl rfl rfl rfl rfl (zq tb rfl (dn hK1 rfl (AW.seq fun K2 hK2 => sr rfl fun K3 hK3 => zm tb 2 rfl (bs h0 fun q4 gq4 h0 => zc hb35 (impl_ValidState_ok gq4) rfl rfl rfl (zq tb rfl ?_)))))))
 refine dn hK3 rfl ?_
 refine ci h0 rfl ?_ ?_ <;> clear h0
 ·intro b5 h0
  have b6 : q4 = false := by simpa using b5
  refine zr tb rfl rfl ?_
  replace h0 := Sh.some_eq h0
  subst r
  exact AW.ret (Exists.intro _ (And.intro ((((Wk.adopt (t := 4) rfl 3 (size := 1) (by decide)).trans (Wk.to (L := [(4, (.own 2 0 (List.length ([] : List Int))))]) ⟨.rfl, trivial⟩)).trans (Wk.permk (L := [(4, (.own 0 0 (List.length ([] : List Int))))]) (st' := [(ro 0 3 1 eI ([] : List Int))]) (st1 := [(ro 0 3 1 eI ([] : List Int))]) [2] rfl .nil (by decide) rfl rfl (.pure (pure_map fun _ => rfl) .nil) ⟨.rfl, trivial⟩)).trans (Wk.to (L := [(4, (.own 0 0 (List.length ([] : List Int))))]) ⟨.rfl, trivial⟩)) (And.intro rfl rfl)))
 ·intro b5 h0
  have b8 : q4 = true := by simpa using b5
  refine AW.skip (hK2 _ (sr rfl fun K9 hK9 => zm tb 2 rfl (zl tb rfl rfl (bs h0 fun l10 gl10 h0 => ao_make (m := 2) (enc := eB) (u := false) go0 ei62 rfl rfl rfl gl10 rfl rfl (zq tb rfl (dn hK9 rfl (AW.seq fun K11 hK11 => sr rfl fun K12 hK12 => zm tb 2 rfl (zl tb rfl rfl ?_))))))))
  refine zq tb rfl (dn hK12 rfl (bs h0 fun o16 h1 h0 => ?_))
  have M16 : ∀ (l15 : (List Bool)), o16 = l15 → ∀ s, Wk 0 s ⟨47, envL [(5, (ow 0 0 l15))], [(ro 0 4 1 eB l15)]⟩ → K11 s := by
   intro l15 hq s hw
   subst o16
   try dsimp only at h0
   refine hK11 _ (AW.weaken hw (sr rfl fun K17 hK17 => zq tb rfl (AO.weaken (Wk.frz (L := [(45, (ls eB l15))]) (st' := [⟨1, 4, 1, []⟩]) (id := 0) rfl (show 0 ≤ 0 by decide) (pure_map fun _ => rfl) ⟨(.frz rfl), trivial⟩ rfl) (bs h0 fun q18 gq18 h0 => ao_call (v' := (ow 1 0 q18)) go0 hb36 (impl_indicesOf_ok gq18) rfl rfl ⟨(pure_map' fun _ => rfl), trivial⟩ rfl rfl (zq tb rfl (dn hK17 rfl ?_))))))
   replace h0 := Sh.some_eq h0
   subst r
   exact AW.ret (xr (Wk.permk (L := [(4, (ow 0 0 q18))]) (st' := [(ro 0 3 1 eI q18)]) (st1 := [(ro 0 3 1 eI q18)]) [1] rfl .nil (by decide) rfl rfl (.pure (pure_map fun _ => rfl) .nil) ⟨.rfl, trivial⟩))
  refine AW.block (AW.loopF (σ := Int × (List Bool)) (fun n v => impl_OwnedCells_L1 N p1 n v.1 v.2 = some o16) (fun (t13, l14) => ⟨47, envL [(5, (ow 0 0 l14)), (19, (ls eRFrame p1.frames)), (20, (i64 (Sh.len p1.frames))), (21, (i64 t13))], [(ro 0 4 1 eB l14)]⟩) N (0, l10) h1 (Wk.permk (L := [(5, (ow 0 0 l10)), (19, (ls eRFrame p1.frames)), (20, (i64 (Sh.len p1.frames))), (21, (i64 0))]) (st' := [(ro 0 4 1 eB l10)]) (st1 := [(ro 0 4 1 eB l10)]) [2] rfl .nil (by decide) rfl rfl (.pure (pure_map fun _ => rfl) .nil) ⟨.rfl, .rfl, .rfl, .rfl, trivial⟩) (fun _ hv => by rw [impl_OwnedCells_L1] at hv; cases hv) ?_)
  rintro n ⟨t13, l14⟩ h1
  try dsimp only at h1 ⊢
  rw [impl_OwnedCells_L1] at h1
  refine zr tb rfl rfl (AW.seq fun K20 hK20 => ?_)
  refine ci h1 rfl ?_ ?_ <;> clear h1
  ·intro b21 h1
   refine AW.skip (hK20 _ (AW.seq fun K22 hK22 => AW.block (sr rfl fun K23 hK23 => bs h1 fun c24 gc24 h1 => zx ei40 gc24 rfl rfl rfl (zq tb rfl (ao_alloc (m := 1) go0 zi64 rfl rfl (ao_str go0 ti64 rfl rfl rfl rfl rfl rfl (show 0 + 6 ≤ 6 by decide) rfl (dn hK23 rfl (sr rfl fun K25 hK25 => zm tb 2 rfl ?_))))))))
   refine zl tb rfl rfl (zq tb rfl (dn hK25 rfl (bs h1 fun o29 h2 h1 => ?_)))
   have M29 : ∀ (l28 : (List Bool)), o29 = l28 → ∀ s, Wk 0 s ⟨47, envL [(5, (ow 0 0 l28)), (19, (ls eRFrame p1.frames)), (20, (i64 (Sh.len p1.frames))), (21, (i64 t13))], [(ro 0 4 1 eB l28)]⟩ → K22 s := by
    intro l28 hq s hw
    subst o29
    try dsimp only at h1
    exact hK22 _ (AW.weaken hw (AW.regionO rfl (zm tb 2 rfl (AO.done (xi (Sh.w (t13 + 1), l28) h1 (Wk.tr rfl))))))
   refine AW.block (AW.loopF (σ := Int × (List Bool)) (fun n v => impl_OwnedCells_L2 c24 n v.1 v.2 = some o29) (fun (t26, l27) => ⟨47, envL [(5, (ow 0 0 l27)), (7, (.ptr 1 0 0 0)), (19, (ls eRFrame p1.frames)), (20, (i64 (Sh.len p1.frames))), (21, (i64 t13)), (26, (ls eI c24.own)), (27, (i64 (Sh.len c24.own))), (28, (i64 t26))], [(ro 0 4 1 eB l27), ⟨0, 64, 6, [(eRFrame c24)]⟩]⟩) N (0, l14) h2 (Wk.tr rfl) (fun _ hv => by rw [impl_OwnedCells_L2] at hv; cases hv) ?_)
   rintro n ⟨t26, l27⟩ h2
   try dsimp only at h2 ⊢
   rw [impl_OwnedCells_L2] at h2
   refine zr tb rfl rfl (AW.seq fun K31 hK31 => ?_)
   refine ci h2 rfl ?_ ?_ <;> clear h2
   ·intro b32 h2
    refine AW.skip (hK31 _ (AW.seq fun K33 hK33 => bs h2 fun o35 h3 h2 => ?_))
    have M35 : ∀ (l34 : (List Bool)), o35 = l34 → ∀ s, Wk 0 s ⟨47, envL [(5, (ow 0 0 l34)), (7, (.ptr 1 0 0 0)), (19, (ls eRFrame p1.frames)), (20, (i64 (Sh.len p1.frames))), (21, (i64 t13)), (26, (ls eI c24.own)), (27, (i64 (Sh.len c24.own))), (28, (i64 t26))], [(ro 0 4 1 eB l34), ⟨0, 64, 6, [(eRFrame c24)]⟩]⟩ → K33 s := by
     intro l34 hq s hw
     subst o35
     try dsimp only at h2
     exact hK33 _ (AW.weaken hw (AW.regionO rfl (zm tb 2 rfl (AO.done (xi (Sh.w (t26 + 1), l34) h2 (Wk.tr rfl))))))
    refine AW.block (sr rfl fun K36 hK36 => zq tb rfl (bs h3 fun c37 gc37 h3 => zx ei26 gc37 rfl rfl rfl (zm tb 3 rfl (dn hK36 rfl (zr tb rfl rfl ?_)))))
    refine ci h3 rfl ?_ ?_ <;> clear h3
    ·intro b39 h3
     refine AW.regionO rfl (zm tb 4 rfl (bs h3 fun c40 gc40 h3 => zx ei26 gc40 rfl rfl rfl (zm tb 2 rfl (bs h3 fun c41 gc41 h3 => zz (.ptr 0 0 (Int.toNat (Sh.w (c40 - 1000))) 0) (aq_ixo ei62 rfl rfl rfl rfl gc41) rfl (ao_stl (u' := true) go0 ti4 rfl rfl gc41 rfl rfl rfl (show 0 + 1 ≤ 1 by decide) rfl rfl ?_)))))
     exact AO.done (M35 (Sh.put l27 (Sh.w (c40 - 1000)) true) (Sh.some_eq h3).symm _ (Wk.to (L := [(5, (.own 0 0 (List.length (Sh.put l27 (Sh.w (c40 - 1000)) true)))), (7, (.ptr 1 0 0 0)), (19, (.sl (List.map eRFrame p1.frames))), (20, (i64 (Sh.len p1.frames))), (21, (i64 t13)), (26, (.sl (List.map eI c24.own))), (27, (i64 (Sh.len c24.own))), (28, (i64 t26))]) ⟨(.len (by simp only [Sh.put_len])), .rfl, .rfl, .rfl, .rfl, .rfl, .rfl, .rfl, trivial⟩))
    ·intro b39 h3
     exact AW.skip (M35 l27 (Sh.some_eq h3).symm _ (Wk.tr rfl))
   ·intro b32 h2
    exact AW.exit (M29 l27 (Sh.some_eq h2).symm _ (Wk.permk (L := [(5, (ow 0 0 l27)), (19, (ls eRFrame p1.frames)), (20, (i64 (Sh.len p1.frames))), (21, (i64 t13))]) (st' := [(ro 0 4 1 eB l27)]) (st1 := [(ro 0 4 1 eB l27)]) [0] rfl .nil (by decide) rfl rfl (.pure (pure_map fun _ => rfl) .nil) ⟨.rfl, .rfl, .rfl, .rfl, trivial⟩))
  ·intro b21 h1
   exact AW.exit (M16 l14 (Sh.some_eq h1).symm _ (Wk.tr rfl))
theorem laws_eqIntS_ok {N : Nat} {p0 : (List Int)} {p1 : (List Int)} {r : Bool} (h0 : laws_eqIntS N p0 p1 = some r) : ACalls Tryz.prog 12 [(ls eI p0), (ls eI p1)] [] (fun v st => v = (.bool r) ∧ st = []) := by
 unfold laws_eqIntS at h0
 refine ai Tryz.func12 rfl rfl rfl rfl (zr tb rfl rfl (AW.seq fun K2 hK2 => sr rfl fun K3 hK3 => zq tb rfl (zl tb rfl rfl (zq tb rfl (zl tb rfl rfl (zq tb rfl (dn hK3 rfl ?_)))))))
 refine ci h0 rfl ?_ ?_ <;> clear h0
 ·intro b4 h0
  have b5 : decide ((Sh.len p0) = (Sh.len p1)) = false := by simpa using b4
  refine zr tb rfl rfl ?_
  replace h0 := Sh.some_eq h0
  subst r
  exact AW.ret (xr (Wk.to (L := [(4, (.bool false))]) ⟨.rfl, trivial⟩))
 ·intro b4 h0
  have b7 : decide ((Sh.len p0) = (Sh.len p1)) = true := by simpa using b4
  refine AW.skip (hK2 _ (AW.seq fun K8 hK8 => zr tb rfl rfl ?_))
  obtain ⟨o11, h1, h0⟩ := Sh.cont_some h0
  have M11 : ∀ (_ : Unit), o11 = Sum.inr () → ∀ s, Wk 0 s ⟨26, envL [], []⟩ → K8 s := by
   intro _ hq s hw
   subst o11
   try dsimp only at h0
   refine hK8 _ (AW.weaken hw (zr tb rfl rfl ?_))
   replace h0 := Sh.some_eq h0
   subst r
   exact AW.ret (xr (Wk.to (L := [(4, (.bool true))]) ⟨.rfl, trivial⟩))
  refine AW.block (AW.loopF (σ := Int) (fun n v => laws_eqIntS_L1 p0 p1 n v = some o11) (fun i10 => ⟨26, envL [(0, (ls eI p0)), (1, (ls eI p1)), (5, (i64 i10))], []⟩) N 0 h1 (Wk.tr rfl) (fun _ hv => by rw [laws_eqIntS_L1] at hv; cases hv) ?_)
  rintro n i10 h1
  try dsimp only at h1 ⊢
  rw [laws_eqIntS_L1] at h1
  refine AW.seq fun K13 hK13 => sr rfl fun K14 hK14 => zm tb 2 rfl (zl tb rfl rfl (zq tb rfl (dn hK14 rfl ?_)))
  refine ci h1 rfl ?_ ?_ <;> clear h1
  ·intro b15 h1
   refine AW.skip (hK13 _ (AW.seq fun K16 hK16 => AW.block (AW.seq fun K17 hK17 => ?_)))
   refine AW.draw (by kernel_rfl) (by kernel_rfl) (by rfl) ?_
   iterate 2 refine yq tb rfl ?_
   refine bs h1 fun c18 gc18 h1 => yx ei26 gc18 rfl rfl rfl ?_
   iterate 3 refine yq tb rfl ?_
   refine bs h1 fun c19 gc19 h1 => yx ei26 gc19 rfl rfl rfl ?_
   iterate 2 refine yq tb rfl ?_
   refine d_done (hK17 _ ?_)
   refine ci h1 rfl ?_ ?_ <;> clear h1
   ·intro b20 h1
    have b21 : decide (c18 = c19) = false := by simpa using b20
    refine zr tb rfl rfl ?_
    replace h1 := Sh.some_eq h1
    subst o11
    try dsimp only [id] at h0
    replace h0 := Sh.some_eq h0
    subst r
    exact AW.ret (xr (Wk.to (L := [(4, (.bool false))]) ⟨.rfl, trivial⟩))
   ·intro b20 h1
    have b23 : decide (c18 = c19) = true := by simpa using b20
    exact AW.skip (hK16 _ (AW.regionO rfl (zm tb 3 rfl (AO.done (xi (Sh.w (i10 + 1)) h1 (Wk.tr rfl))))))
  ·intro b15 h1
   exact AW.exit (M11 () (Sh.some_eq h1).symm _ (Wk.tr rfl))
theorem laws_eqCon_ok {N : Nat} {p0 : RCon} {p1 : RCon} {r : Bool} (h0 : laws_eqCon N p0 p1 = some r) : ACalls Tryz.prog 130 [(.agg (eRCon p0)), (.agg (eRCon p1))] [] (fun v st => v = (.bool r) ∧ st = []) := by
 unfold laws_eqCon at h0
 refine ai Tryz.func130 rfl rfl rfl rfl (sr rfl fun K1 hK1 => ao_box (m := 0) go0 rfl rfl rfl rfl rfl (ao_box (m := 1) go0 rfl rfl rfl rfl rfl (zq tb rfl (dn hK1 rfl (AW.seq fun K2 hK2 => sr rfl fun K3 hK3 => zm tb 4 rfl (bs h0 fun q4 gq4 h0 => zc hb12 (laws_eqIntS_ok gq4) rfl rfl rfl (zq tb rfl ?_)))))))
 refine dn hK3 rfl ?_
 refine ci h0 rfl ?_ ?_ <;> clear h0
 ·intro b5 h0
  have b6 : q4 = false := by simpa using b5
  refine zr tb rfl rfl ?_
  replace h0 := Sh.some_eq h0
  subst r
  exact AW.ret (xr (Wk.d0 [(4, (.bool false))] rfl))
 ·intro b5 h0
  have b8 : q4 = true := by simpa using b5
  refine AW.skip (hK2 _ (zr tb rfl rfl ?_))
  replace h0 := Sh.some_eq h0
  subst r
  exact AW.ret (xr (Wk.d0 [(4, (.bool true))] rfl))
theorem laws_eqConS_ok {N : Nat} {p0 : (List RCon)} {p1 : (List RCon)} {r : Bool} (h0 : laws_eqConS N p0 p1 = some r) : ACalls Tryz.prog 101 [(ls eRCon p0), (ls eRCon p1)] [] (fun v st => v = (.bool r) ∧ st = []) := by
 unfold laws_eqConS at h0
 refine ai Tryz.func101 rfl rfl rfl rfl (zr tb rfl rfl (AW.seq fun K2 hK2 => sr rfl fun K3 hK3 => zq tb rfl (zl tb rfl rfl (zq tb rfl (zl tb rfl rfl (zq tb rfl (dn hK3 rfl ?_)))))))
 refine ci h0 rfl ?_ ?_ <;> clear h0
 ·intro b4 h0
  have b5 : decide ((Sh.len p0) = (Sh.len p1)) = false := by simpa using b4
  refine zr tb rfl rfl ?_
  replace h0 := Sh.some_eq h0
  subst r
  exact AW.ret (xr (Wk.to (L := [(4, (.bool false))]) ⟨.rfl, trivial⟩))
 ·intro b4 h0
  have b7 : decide ((Sh.len p0) = (Sh.len p1)) = true := by simpa using b4
  refine AW.skip (hK2 _ (AW.seq fun K8 hK8 => zr tb rfl rfl ?_))
  obtain ⟨o11, h1, h0⟩ := Sh.cont_some h0
  have M11 : ∀ (_ : Unit), o11 = Sum.inr () → ∀ s, Wk 0 s ⟨27, envL [], []⟩ → K8 s := by
   intro _ hq s hw
   subst o11
   try dsimp only at h0
   refine hK8 _ (AW.weaken hw (zr tb rfl rfl ?_))
   replace h0 := Sh.some_eq h0
   subst r
   exact AW.ret (xr (Wk.to (L := [(4, (.bool true))]) ⟨.rfl, trivial⟩))
  refine AW.block (AW.loopF (σ := Int) (fun n v => laws_eqConS_L1 N p0 p1 n v = some o11) (fun i10 => ⟨27, envL [(0, (ls eRCon p0)), (1, (ls eRCon p1)), (5, (i64 i10))], []⟩) N 0 h1 (Wk.tr rfl) (fun _ hv => by rw [laws_eqConS_L1] at hv; cases hv) ?_)
  rintro n i10 h1
  try dsimp only at h1 ⊢
  rw [laws_eqConS_L1] at h1
  refine AW.seq fun K13 hK13 => sr rfl fun K14 hK14 => zm tb 2 rfl (zl tb rfl rfl (zq tb rfl (dn hK14 rfl ?_)))
  refine ci h1 rfl ?_ ?_ <;> clear h1
  ·intro b15 h1
   refine AW.skip (hK13 _ (AW.seq fun K16 hK16 => AW.block (AW.seq fun K17 hK17 => ?_)))
   refine AW.draw (by kernel_rfl) (by kernel_rfl) (by rfl) ?_
   iterate 2 refine yq tb rfl ?_
   refine bs h1 fun c18 gc18 h1 => yx ei96 gc18 rfl rfl rfl ?_
   iterate 3 refine yq tb rfl ?_
   refine bs h1 fun c19 gc19 h1 => yx ei96 gc19 rfl rfl rfl (yq tb rfl (bs h1 fun q20 gq20 h1 => d_call (v := (.bool q20)) go0 hb130 (laws_eqCon_ok gq20) rfl rfl rfl (yq tb rfl (d_done (hK17 _ ?_)))))
   refine ci h1 rfl ?_ ?_ <;> clear h1
   ·intro b21 h1
    have b22 : q20 = false := by simpa using b21
    refine zr tb rfl rfl ?_
    replace h1 := Sh.some_eq h1
    subst o11
    try dsimp only [id] at h0
    replace h0 := Sh.some_eq h0
    subst r
    exact AW.ret (xr (Wk.to (L := [(4, (.bool false))]) ⟨.rfl, trivial⟩))
   ·intro b21 h1
    have b24 : q20 = true := by simpa using b21
    exact AW.skip (hK16 _ (AW.regionO rfl (zm tb 3 rfl (AO.done (xi (Sh.w (i10 + 1)) h1 (Wk.tr rfl))))))
  ·intro b15 h1
   exact AW.exit (M11 () (Sh.some_eq h1).symm _ (Wk.tr rfl))
theorem laws_eqDecl_ok {N : Nat} {p0 : RDecl} {p1 : RDecl} {r : Bool} (h0 : laws_eqDecl N p0 p1 = some r) : ACalls Tryz.prog 67 [(.agg (eRDecl p0)), (.agg (eRDecl p1))] [] (fun v st => v = (.bool r) ∧ st = []) := by
 unfold laws_eqDecl at h0
 refine ai Tryz.func67 rfl rfl rfl rfl (sr rfl fun K1 hK1 => ao_box (m := 0) go0 rfl rfl rfl rfl rfl (ao_box (m := 1) go0 rfl rfl rfl rfl rfl (zq tb rfl (dn hK1 rfl (AW.seq fun K2 hK2 => zr tb rfl rfl ?_)))))
 refine ci h0 rfl ?_ ?_ <;> clear h0
 ·intro b4 h0
  have b5 : decide (p0.from_ = p1.from_) = false := by simpa using b4
  refine zr tb rfl rfl ?_
  replace h0 := Sh.some_eq h0
  subst r
  exact AW.ret (xr (Wk.d0 [(4, (.bool false))] rfl))
 ·intro b4 h0
  have b7 : decide (p0.from_ = p1.from_) = true := by simpa using b4
  refine AW.skip (hK2 _ (AW.seq fun K8 hK8 => zr tb rfl rfl ?_))
  refine ci h0 rfl ?_ ?_ <;> clear h0
  ·intro b10 h0
   have b11 : decide (p0.to = p1.to) = false := by simpa using b10
   refine zr tb rfl rfl ?_
   replace h0 := Sh.some_eq h0
   subst r
   exact AW.ret (xr (Wk.d0 [(4, (.bool false))] rfl))
  ·intro b10 h0
   have b13 : decide (p0.to = p1.to) = true := by simpa using b10
   refine AW.skip (hK8 _ (AW.seq fun K14 hK14 => sr rfl fun K15 hK15 => zm tb 4 rfl (bs h0 fun q16 gq16 h0 => zc hb101 (laws_eqConS_ok gq16) rfl rfl rfl (zq tb rfl (dn hK15 rfl ?_)))))
   refine ci h0 rfl ?_ ?_ <;> clear h0
   ·intro b17 h0
    have b18 : q16 = false := by simpa using b17
    refine zr tb rfl rfl ?_
    replace h0 := Sh.some_eq h0
    subst r
    exact AW.ret (xr (Wk.d0 [(4, (.bool false))] rfl))
   ·intro b17 h0
    have b20 : q16 = true := by simpa using b17
    refine AW.skip (hK14 _ (zr tb rfl rfl ?_))
    replace h0 := Sh.some_eq h0
    subst r
    exact AW.ret (xr (Wk.d0 [(4, (.bool true))] rfl))
theorem laws_eqDeclS_ok {N : Nat} {p0 : (List RDecl)} {p1 : (List RDecl)} {r : Bool} (h0 : laws_eqDeclS N p0 p1 = some r) : ACalls Tryz.prog 37 [(ls eRDecl p0), (ls eRDecl p1)] [] (fun v st => v = (.bool r) ∧ st = []) := by
 unfold laws_eqDeclS at h0
 refine ai Tryz.func37 rfl rfl rfl rfl (zr tb rfl rfl (AW.seq fun K2 hK2 => sr rfl fun K3 hK3 => zq tb rfl (zl tb rfl rfl (zq tb rfl (zl tb rfl rfl (zq tb rfl (dn hK3 rfl ?_)))))))
 refine ci h0 rfl ?_ ?_ <;> clear h0
 ·intro b4 h0
  have b5 : decide ((Sh.len p0) = (Sh.len p1)) = false := by simpa using b4
  refine zr tb rfl rfl ?_
  replace h0 := Sh.some_eq h0
  subst r
  exact AW.ret (xr (Wk.to (L := [(4, (.bool false))]) ⟨.rfl, trivial⟩))
 ·intro b4 h0
  have b7 : decide ((Sh.len p0) = (Sh.len p1)) = true := by simpa using b4
  refine AW.skip (hK2 _ (AW.seq fun K8 hK8 => zr tb rfl rfl ?_))
  obtain ⟨o11, h1, h0⟩ := Sh.cont_some h0
  have M11 : ∀ (_ : Unit), o11 = Sum.inr () → ∀ s, Wk 0 s ⟨27, envL [], []⟩ → K8 s := by
   intro _ hq s hw
   subst o11
   try dsimp only at h0
   refine hK8 _ (AW.weaken hw (zr tb rfl rfl ?_))
   replace h0 := Sh.some_eq h0
   subst r
   exact AW.ret (xr (Wk.to (L := [(4, (.bool true))]) ⟨.rfl, trivial⟩))
  refine AW.block (AW.loopF (σ := Int) (fun n v => laws_eqDeclS_L1 N p0 p1 n v = some o11) (fun i10 => ⟨27, envL [(0, (ls eRDecl p0)), (1, (ls eRDecl p1)), (5, (i64 i10))], []⟩) N 0 h1 (Wk.tr rfl) (fun _ hv => by rw [laws_eqDeclS_L1] at hv; cases hv) ?_)
  rintro n i10 h1
  try dsimp only at h1 ⊢
  rw [laws_eqDeclS_L1] at h1
  refine AW.seq fun K13 hK13 => sr rfl fun K14 hK14 => zm tb 2 rfl (zl tb rfl rfl (zq tb rfl (dn hK14 rfl ?_)))
  refine ci h1 rfl ?_ ?_ <;> clear h1
  ·intro b15 h1
   refine AW.skip (hK13 _ (AW.seq fun K16 hK16 => AW.block (AW.seq fun K17 hK17 => ?_)))
   refine AW.draw (by kernel_rfl) (by kernel_rfl) (by rfl) ?_
   iterate 2 refine yq tb rfl ?_
   refine bs h1 fun c18 gc18 h1 => yx ei34 gc18 rfl rfl rfl ?_
   iterate 3 refine yq tb rfl ?_
   refine bs h1 fun c19 gc19 h1 => yx ei34 gc19 rfl rfl rfl (yq tb rfl (bs h1 fun q20 gq20 h1 => d_call (v := (.bool q20)) go0 hb67 (laws_eqDecl_ok gq20) rfl rfl rfl (yq tb rfl (d_done (hK17 _ ?_)))))
   refine ci h1 rfl ?_ ?_ <;> clear h1
   ·intro b21 h1
    have b22 : q20 = false := by simpa using b21
    refine zr tb rfl rfl ?_
    replace h1 := Sh.some_eq h1
    subst o11
    try dsimp only [id] at h0
    replace h0 := Sh.some_eq h0
    subst r
    exact AW.ret (xr (Wk.to (L := [(4, (.bool false))]) ⟨.rfl, trivial⟩))
   ·intro b21 h1
    have b24 : q20 = true := by simpa using b21
    exact AW.skip (hK16 _ (AW.regionO rfl (zm tb 3 rfl (AO.done (xi (Sh.w (i10 + 1)) h1 (Wk.tr rfl))))))
  ·intro b15 h1
   exact AW.exit (M11 () (Sh.some_eq h1).symm _ (Wk.tr rfl))
theorem laws_eqInstr_ok {N : Nat} {p0 : RInstr} {p1 : RInstr} {r : Bool} (h0 : laws_eqInstr N p0 p1 = some r) : ACalls Tryz.prog 131 [(.agg (eRInstr p0)), (.agg (eRInstr p1))] [] (fun v st => v = (.bool r) ∧ st = []) := by
 unfold laws_eqInstr at h0
 refine ai Tryz.func131 rfl rfl rfl rfl (sr rfl fun K1 hK1 => ao_box (m := 0) go0 rfl rfl rfl rfl rfl (ao_box (m := 1) go0 rfl rfl rfl rfl rfl (zq tb rfl (dn hK1 rfl (AW.seq fun K2 hK2 => zr tb rfl rfl ?_)))))
 refine ci h0 rfl ?_ ?_ <;> clear h0
 ·intro b4 h0
  have b5 : decide (p0.op = p1.op) = false := by simpa using b4
  refine zr tb rfl rfl ?_
  replace h0 := Sh.some_eq h0
  subst r
  exact AW.ret (xr (Wk.d0 [(4, (.bool false))] rfl))
 ·intro b4 h0
  have b7 : decide (p0.op = p1.op) = true := by simpa using b4
  refine AW.skip (hK2 _ (AW.seq fun K8 hK8 => zr tb rfl rfl ?_))
  refine ci h0 rfl ?_ ?_ <;> clear h0
  ·intro b10 h0
   have b11 : decide (p0.dst = p1.dst) = false := by simpa using b10
   refine zr tb rfl rfl ?_
   replace h0 := Sh.some_eq h0
   subst r
   exact AW.ret (xr (Wk.d0 [(4, (.bool false))] rfl))
  ·intro b10 h0
   have b13 : decide (p0.dst = p1.dst) = true := by simpa using b10
   refine AW.skip (hK8 _ (AW.seq fun K14 hK14 => zr tb rfl rfl ?_))
   refine ci h0 rfl ?_ ?_ <;> clear h0
   ·intro b16 h0
    have b17 : decide (p0.num = p1.num) = false := by simpa using b16
    refine zr tb rfl rfl ?_
    replace h0 := Sh.some_eq h0
    subst r
    exact AW.ret (xr (Wk.d0 [(4, (.bool false))] rfl))
   ·intro b16 h0
    have b19 : decide (p0.num = p1.num) = true := by simpa using b16
    refine AW.skip (hK14 _ (AW.seq fun K20 hK20 => zr tb rfl rfl ?_))
    refine ci h0 rfl ?_ ?_ <;> clear h0
    ·intro b22 h0
     have b23 : decide (p0.into = p1.into) = false := by simpa using b22
     refine zr tb rfl rfl ?_
     replace h0 := Sh.some_eq h0
     subst r
     exact AW.ret (xr (Wk.d0 [(4, (.bool false))] rfl))
    ·intro b22 h0
     have b25 : decide (p0.into = p1.into) = true := by simpa using b22
     refine AW.skip (hK20 _ (AW.seq fun K26 hK26 => sr rfl fun K27 hK27 => zm tb 4 rfl (bs h0 fun q28 gq28 h0 => zc hb12 (laws_eqIntS_ok gq28) rfl rfl rfl (zq tb rfl (dn hK27 rfl ?_)))))
     refine ci h0 rfl ?_ ?_ <;> clear h0
     ·intro b29 h0
      have b30 : q28 = false := by simpa using b29
      refine zr tb rfl rfl ?_
      replace h0 := Sh.some_eq h0
      subst r
      exact AW.ret (xr (Wk.d0 [(4, (.bool false))] rfl))
     ·intro b29 h0
      have b32 : q28 = true := by simpa using b29
      refine AW.skip (hK26 _ (AW.seq fun K33 hK33 => sr rfl fun K34 hK34 => zm tb 4 rfl (bs h0 fun q35 gq35 h0 => zc hb12 (laws_eqIntS_ok gq35) rfl rfl rfl (zq tb rfl (dn hK34 rfl ?_)))))
      refine ci h0 rfl ?_ ?_ <;> clear h0
      ·intro b36 h0
       have b37 : q35 = false := by simpa using b36
       refine zr tb rfl rfl ?_
       replace h0 := Sh.some_eq h0
       subst r
       exact AW.ret (xr (Wk.d0 [(4, (.bool false))] rfl))
      ·intro b36 h0
       have b39 : q35 = true := by simpa using b36
       refine AW.skip (hK33 _ (zr tb rfl rfl ?_))
       replace h0 := Sh.some_eq h0
       subst r
       exact AW.ret (xr (Wk.d0 [(4, (.bool true))] rfl))
theorem laws_eqInstrS_ok {N : Nat} {p0 : (List RInstr)} {p1 : (List RInstr)} {r : Bool} (h0 : laws_eqInstrS N p0 p1 = some r) : ACalls Tryz.prog 102 [(ls eRInstr p0), (ls eRInstr p1)] [] (fun v st => v = (.bool r) ∧ st = []) := by
 unfold laws_eqInstrS at h0
 refine ai Tryz.func102 rfl rfl rfl rfl (zr tb rfl rfl (AW.seq fun K2 hK2 => sr rfl fun K3 hK3 => zq tb rfl (zl tb rfl rfl (zq tb rfl (zl tb rfl rfl (zq tb rfl (dn hK3 rfl ?_)))))))
 refine ci h0 rfl ?_ ?_ <;> clear h0
 ·intro b4 h0
  have b5 : decide ((Sh.len p0) = (Sh.len p1)) = false := by simpa using b4
  refine zr tb rfl rfl ?_
  replace h0 := Sh.some_eq h0
  subst r
  exact AW.ret (xr (Wk.to (L := [(4, (.bool false))]) ⟨.rfl, trivial⟩))
 ·intro b4 h0
  have b7 : decide ((Sh.len p0) = (Sh.len p1)) = true := by simpa using b4
  refine AW.skip (hK2 _ (AW.seq fun K8 hK8 => zr tb rfl rfl ?_))
  obtain ⟨o11, h1, h0⟩ := Sh.cont_some h0
  have M11 : ∀ (_ : Unit), o11 = Sum.inr () → ∀ s, Wk 0 s ⟨27, envL [], []⟩ → K8 s := by
   intro _ hq s hw
   subst o11
   try dsimp only at h0
   refine hK8 _ (AW.weaken hw (zr tb rfl rfl ?_))
   replace h0 := Sh.some_eq h0
   subst r
   exact AW.ret (xr (Wk.to (L := [(4, (.bool true))]) ⟨.rfl, trivial⟩))
  refine AW.block (AW.loopF (σ := Int) (fun n v => laws_eqInstrS_L1 N p0 p1 n v = some o11) (fun i10 => ⟨27, envL [(0, (ls eRInstr p0)), (1, (ls eRInstr p1)), (5, (i64 i10))], []⟩) N 0 h1 (Wk.tr rfl) (fun _ hv => by rw [laws_eqInstrS_L1] at hv; cases hv) ?_)
  rintro n i10 h1
  try dsimp only at h1 ⊢
  rw [laws_eqInstrS_L1] at h1
  refine AW.seq fun K13 hK13 => sr rfl fun K14 hK14 => zm tb 2 rfl (zl tb rfl rfl (zq tb rfl (dn hK14 rfl ?_)))
  refine ci h1 rfl ?_ ?_ <;> clear h1
  ·intro b15 h1
   refine AW.skip (hK13 _ (AW.seq fun K16 hK16 => AW.block (AW.seq fun K17 hK17 => ?_)))
   refine AW.draw (by kernel_rfl) (by kernel_rfl) (by rfl) ?_
   iterate 2 refine yq tb rfl ?_
   refine bs h1 fun c18 gc18 h1 => yx ei100 gc18 rfl rfl rfl ?_
   iterate 3 refine yq tb rfl ?_
   refine bs h1 fun c19 gc19 h1 => yx ei100 gc19 rfl rfl rfl (yq tb rfl (bs h1 fun q20 gq20 h1 => d_call (v := (.bool q20)) go0 hb131 (laws_eqInstr_ok gq20) rfl rfl rfl (yq tb rfl (d_done (hK17 _ ?_)))))
   refine ci h1 rfl ?_ ?_ <;> clear h1
   ·intro b21 h1
    have b22 : q20 = false := by simpa using b21
    refine zr tb rfl rfl ?_
    replace h1 := Sh.some_eq h1
    subst o11
    try dsimp only [id] at h0
    replace h0 := Sh.some_eq h0
    subst r
    exact AW.ret (xr (Wk.to (L := [(4, (.bool false))]) ⟨.rfl, trivial⟩))
   ·intro b21 h1
    have b24 : q20 = true := by simpa using b21
    exact AW.skip (hK16 _ (AW.regionO rfl (zm tb 3 rfl (AO.done (xi (Sh.w (i10 + 1)) h1 (Wk.tr rfl))))))
  ·intro b15 h1
   exact AW.exit (M11 () (Sh.some_eq h1).symm _ (Wk.tr rfl))
theorem laws_eqProc_ok {N : Nat} {p0 : RProc} {p1 : RProc} {r : Bool} (h0 : laws_eqProc N p0 p1 = some r) : ACalls Tryz.prog 68 [(.agg (eRProc p0)), (.agg (eRProc p1))] [] (fun v st => v = (.bool r) ∧ st = []) := by
 unfold laws_eqProc at h0
 refine ai Tryz.func68 rfl rfl rfl rfl (sr rfl fun K1 hK1 => ao_box (m := 0) go0 rfl rfl rfl rfl rfl (ao_box (m := 1) go0 rfl rfl rfl rfl rfl (zq tb rfl (dn hK1 rfl (AW.seq fun K2 hK2 => sr rfl fun K3 hK3 => zm tb 4 rfl (bs h0 fun q4 gq4 h0 => zc hb12 (laws_eqIntS_ok gq4) rfl rfl rfl (zq tb rfl ?_)))))))
 refine dn hK3 rfl ?_
 refine ci h0 rfl ?_ ?_ <;> clear h0
 ·intro b5 h0
  have b6 : q4 = false := by simpa using b5
  refine zr tb rfl rfl ?_
  replace h0 := Sh.some_eq h0
  subst r
  exact AW.ret (xr (Wk.d0 [(4, (.bool false))] rfl))
 ·intro b5 h0
  have b8 : q4 = true := by simpa using b5
  refine AW.skip (hK2 _ (AW.seq fun K9 hK9 => sr rfl fun K10 hK10 => zm tb 4 rfl (bs h0 fun q11 gq11 h0 => zc hb12 (laws_eqIntS_ok gq11) rfl rfl rfl (zq tb rfl (dn hK10 rfl ?_)))))
  refine ci h0 rfl ?_ ?_ <;> clear h0
  ·intro b12 h0
   have b13 : q11 = false := by simpa using b12
   refine zr tb rfl rfl ?_
   replace h0 := Sh.some_eq h0
   subst r
   exact AW.ret (xr (Wk.d0 [(4, (.bool false))] rfl))
  ·intro b12 h0
   have b15 : q11 = true := by simpa using b12
   refine AW.skip (hK9 _ (AW.seq fun K16 hK16 => zr tb rfl rfl ?_))
   refine ci h0 rfl ?_ ?_ <;> clear h0
   ·intro b18 h0
    have b19 : decide (p0.result = p1.result) = false := by simpa using b18
    refine zr tb rfl rfl ?_
    replace h0 := Sh.some_eq h0
    subst r
    exact AW.ret (xr (Wk.d0 [(4, (.bool false))] rfl))
   ·intro b18 h0
    have b21 : decide (p0.result = p1.result) = true := by simpa using b18
    refine AW.skip (hK16 _ (AW.seq fun K22 hK22 => zr tb rfl rfl ?_))
    refine ci h0 rfl ?_ ?_ <;> clear h0
    ·intro b24 h0
     have b25 : decide (p0.regs = p1.regs) = false := by simpa using b24
     refine zr tb rfl rfl ?_
     replace h0 := Sh.some_eq h0
     subst r
     exact AW.ret (xr (Wk.d0 [(4, (.bool false))] rfl))
    ·intro b24 h0
     have b27 : decide (p0.regs = p1.regs) = true := by simpa using b24
     refine AW.skip (hK22 _ (AW.seq fun K28 hK28 => sr rfl fun K29 hK29 => zm tb 4 rfl (bs h0 fun q30 gq30 h0 => zc hb102 (laws_eqInstrS_ok gq30) rfl rfl rfl (zq tb rfl (dn hK29 rfl ?_)))))
     refine ci h0 rfl ?_ ?_ <;> clear h0
     ·intro b31 h0
      have b32 : q30 = false := by simpa using b31
      refine zr tb rfl rfl ?_
      replace h0 := Sh.some_eq h0
      subst r
      exact AW.ret (xr (Wk.d0 [(4, (.bool false))] rfl))
     ·intro b31 h0
      have b34 : q30 = true := by simpa using b31
      refine AW.skip (hK28 _ (zr tb rfl rfl ?_))
      replace h0 := Sh.some_eq h0
      subst r
      exact AW.ret (xr (Wk.d0 [(4, (.bool true))] rfl))
theorem laws_eqProcS_ok {N : Nat} {p0 : (List RProc)} {p1 : (List RProc)} {r : Bool} (h0 : laws_eqProcS N p0 p1 = some r) : ACalls Tryz.prog 38 [(ls eRProc p0), (ls eRProc p1)] [] (fun v st => v = (.bool r) ∧ st = []) := by
 unfold laws_eqProcS at h0
 refine ai Tryz.func38 rfl rfl rfl rfl (zr tb rfl rfl (AW.seq fun K2 hK2 => sr rfl fun K3 hK3 => zq tb rfl (zl tb rfl rfl (zq tb rfl (zl tb rfl rfl (zq tb rfl (dn hK3 rfl ?_)))))))
 refine ci h0 rfl ?_ ?_ <;> clear h0
 ·intro b4 h0
  have b5 : decide ((Sh.len p0) = (Sh.len p1)) = false := by simpa using b4
  refine zr tb rfl rfl ?_
  replace h0 := Sh.some_eq h0
  subst r
  exact AW.ret (xr (Wk.to (L := [(4, (.bool false))]) ⟨.rfl, trivial⟩))
 ·intro b4 h0
  have b7 : decide ((Sh.len p0) = (Sh.len p1)) = true := by simpa using b4
  refine AW.skip (hK2 _ (AW.seq fun K8 hK8 => zr tb rfl rfl ?_))
  obtain ⟨o11, h1, h0⟩ := Sh.cont_some h0
  have M11 : ∀ (_ : Unit), o11 = Sum.inr () → ∀ s, Wk 0 s ⟨27, envL [], []⟩ → K8 s := by
   intro _ hq s hw
   subst o11
   try dsimp only at h0
   refine hK8 _ (AW.weaken hw (zr tb rfl rfl ?_))
   replace h0 := Sh.some_eq h0
   subst r
   exact AW.ret (xr (Wk.to (L := [(4, (.bool true))]) ⟨.rfl, trivial⟩))
  refine AW.block (AW.loopF (σ := Int) (fun n v => laws_eqProcS_L1 N p0 p1 n v = some o11) (fun i10 => ⟨27, envL [(0, (ls eRProc p0)), (1, (ls eRProc p1)), (5, (i64 i10))], []⟩) N 0 h1 (Wk.tr rfl) (fun _ hv => by rw [laws_eqProcS_L1] at hv; cases hv) ?_)
  rintro n i10 h1
  try dsimp only at h1 ⊢
  rw [laws_eqProcS_L1] at h1
  refine AW.seq fun K13 hK13 => sr rfl fun K14 hK14 => zm tb 2 rfl (zl tb rfl rfl (zq tb rfl (dn hK14 rfl ?_)))
  refine ci h1 rfl ?_ ?_ <;> clear h1
  ·intro b15 h1
   refine AW.skip (hK13 _ (AW.seq fun K16 hK16 => AW.block (AW.seq fun K17 hK17 => ?_)))
   refine AW.draw (by kernel_rfl) (by kernel_rfl) (by rfl) ?_
   iterate 2 refine yq tb rfl ?_
   refine bs h1 fun c18 gc18 h1 => yx ei35 gc18 rfl rfl rfl ?_
   iterate 3 refine yq tb rfl ?_
   refine bs h1 fun c19 gc19 h1 => yx ei35 gc19 rfl rfl rfl (yq tb rfl (bs h1 fun q20 gq20 h1 => d_call (v := (.bool q20)) go0 hb68 (laws_eqProc_ok gq20) rfl rfl rfl (yq tb rfl (d_done (hK17 _ ?_)))))
   refine ci h1 rfl ?_ ?_ <;> clear h1
   ·intro b21 h1
    have b22 : q20 = false := by simpa using b21
    refine zr tb rfl rfl ?_
    replace h1 := Sh.some_eq h1
    subst o11
    try dsimp only [id] at h0
    replace h0 := Sh.some_eq h0
    subst r
    exact AW.ret (xr (Wk.to (L := [(4, (.bool false))]) ⟨.rfl, trivial⟩))
   ·intro b21 h1
    have b24 : q20 = true := by simpa using b21
    exact AW.skip (hK16 _ (AW.regionO rfl (zm tb 3 rfl (AO.done (xi (Sh.w (i10 + 1)) h1 (Wk.tr rfl))))))
  ·intro b15 h1
   exact AW.exit (M11 () (Sh.some_eq h1).symm _ (Wk.tr rfl))
theorem laws_eqImage_ok {N : Nat} {p0 : RImage} {p1 : RImage} {r : Bool} (h0 : laws_eqImage N p0 p1 = some r) : ACalls Tryz.prog 13 [(.agg (eRImage p0)), (.agg (eRImage p1))] [] (fun v st => v = (.bool r) ∧ st = []) := by
 unfold laws_eqImage at h0
 refine ai Tryz.func13 rfl rfl rfl rfl (sr rfl fun K1 hK1 => ao_box (m := 0) go0 rfl rfl rfl rfl rfl (ao_box (m := 1) go0 rfl rfl rfl rfl rfl (zq tb rfl (dn hK1 rfl (AW.seq fun K2 hK2 => sr rfl fun K3 hK3 => zm tb 4 rfl (bs h0 fun q4 gq4 h0 => zc hb37 (laws_eqDeclS_ok gq4) rfl rfl rfl (zq tb rfl ?_)))))))
 refine dn hK3 rfl ?_
 refine ci h0 rfl ?_ ?_ <;> clear h0
 ·intro b5 h0
  have b6 : q4 = false := by simpa using b5
  refine zr tb rfl rfl ?_
  replace h0 := Sh.some_eq h0
  subst r
  exact AW.ret (xr (Wk.d0 [(4, (.bool false))] rfl))
 ·intro b5 h0
  have b8 : q4 = true := by simpa using b5
  refine AW.skip (hK2 _ (AW.seq fun K9 hK9 => sr rfl fun K10 hK10 => zm tb 4 rfl (bs h0 fun q11 gq11 h0 => zc hb38 (laws_eqProcS_ok gq11) rfl rfl rfl (zq tb rfl (dn hK10 rfl ?_)))))
  refine ci h0 rfl ?_ ?_ <;> clear h0
  ·intro b12 h0
   have b13 : q11 = false := by simpa using b12
   refine zr tb rfl rfl ?_
   replace h0 := Sh.some_eq h0
   subst r
   exact AW.ret (xr (Wk.d0 [(4, (.bool false))] rfl))
  ·intro b12 h0
   have b15 : q11 = true := by simpa using b12
   refine AW.skip (hK9 _ (zr tb rfl rfl ?_))
   replace h0 := Sh.some_eq h0
   subst r
   exact AW.ret (xr (Wk.d0 [(4, (.bool true))] rfl))
theorem laws_eqCell_ok {N : Nat} {p0 : Cell} {p1 : Cell} {r : Bool} (h0 : laws_eqCell N p0 p1 = some r) : ACalls Tryz.prog 69 [(.agg (eCell p0)), (.agg (eCell p1))] [] (fun v st => v = (.bool r) ∧ st = []) := by
 unfold laws_eqCell at h0
 refine ai Tryz.func69 rfl rfl rfl rfl (sr rfl fun K1 hK1 => ao_box (m := 0) go0 rfl rfl rfl rfl rfl (ao_box (m := 1) go0 rfl rfl rfl rfl rfl (zq tb rfl (dn hK1 rfl (AW.seq fun K2 hK2 => zr tb rfl rfl ?_)))))
 refine ci h0 rfl ?_ ?_ <;> clear h0
 ·intro b4 h0
  have b5 : decide (p0.count = p1.count) = false := by simpa using b4
  refine zr tb rfl rfl ?_
  replace h0 := Sh.some_eq h0
  subst r
  exact AW.ret (xr (Wk.d0 [(4, (.bool false))] rfl))
 ·intro b4 h0
  have b7 : decide (p0.count = p1.count) = true := by simpa using b4
  refine AW.skip (hK2 _ (AW.seq fun K8 hK8 => zr tb rfl rfl ?_))
  refine ci h0 rfl ?_ ?_ <;> clear h0
  ·intro b10 h0
   have b11 : decide (p0.tag = p1.tag) = false := by simpa using b10
   refine zr tb rfl rfl ?_
   replace h0 := Sh.some_eq h0
   subst r
   exact AW.ret (xr (Wk.d0 [(4, (.bool false))] rfl))
  ·intro b10 h0
   have b13 : decide (p0.tag = p1.tag) = true := by simpa using b10
   refine AW.skip (hK8 _ (AW.seq fun K14 hK14 => sr rfl fun K15 hK15 => zm tb 4 rfl (bs h0 fun q16 gq16 h0 => zc hb12 (laws_eqIntS_ok gq16) rfl rfl rfl (zq tb rfl (dn hK15 rfl ?_)))))
   refine ci h0 rfl ?_ ?_ <;> clear h0
   ·intro b17 h0
    have b18 : q16 = false := by simpa using b17
    refine zr tb rfl rfl ?_
    replace h0 := Sh.some_eq h0
    subst r
    exact AW.ret (xr (Wk.d0 [(4, (.bool false))] rfl))
   ·intro b17 h0
    have b20 : q16 = true := by simpa using b17
    refine AW.skip (hK14 _ (zr tb rfl rfl ?_))
    replace h0 := Sh.some_eq h0
    subst r
    exact AW.ret (xr (Wk.d0 [(4, (.bool true))] rfl))
theorem laws_eqCellS_ok {N : Nat} {p0 : (List Cell)} {p1 : (List Cell)} {r : Bool} (h0 : laws_eqCellS N p0 p1 = some r) : ACalls Tryz.prog 39 [(ls eCell p0), (ls eCell p1)] [] (fun v st => v = (.bool r) ∧ st = []) := by
 unfold laws_eqCellS at h0
 refine ai Tryz.func39 rfl rfl rfl rfl (zr tb rfl rfl (AW.seq fun K2 hK2 => sr rfl fun K3 hK3 => zq tb rfl (zl tb rfl rfl (zq tb rfl (zl tb rfl rfl (zq tb rfl (dn hK3 rfl ?_)))))))
 refine ci h0 rfl ?_ ?_ <;> clear h0
 ·intro b4 h0
  have b5 : decide ((Sh.len p0) = (Sh.len p1)) = false := by simpa using b4
  refine zr tb rfl rfl ?_
  replace h0 := Sh.some_eq h0
  subst r
  exact AW.ret (xr (Wk.to (L := [(4, (.bool false))]) ⟨.rfl, trivial⟩))
 ·intro b4 h0
  have b7 : decide ((Sh.len p0) = (Sh.len p1)) = true := by simpa using b4
  refine AW.skip (hK2 _ (AW.seq fun K8 hK8 => zr tb rfl rfl ?_))
  obtain ⟨o11, h1, h0⟩ := Sh.cont_some h0
  have M11 : ∀ (_ : Unit), o11 = Sum.inr () → ∀ s, Wk 0 s ⟨27, envL [], []⟩ → K8 s := by
   intro _ hq s hw
   subst o11
   try dsimp only at h0
   refine hK8 _ (AW.weaken hw (zr tb rfl rfl ?_))
   replace h0 := Sh.some_eq h0
   subst r
   exact AW.ret (xr (Wk.to (L := [(4, (.bool true))]) ⟨.rfl, trivial⟩))
  refine AW.block (AW.loopF (σ := Int) (fun n v => laws_eqCellS_L1 N p0 p1 n v = some o11) (fun i10 => ⟨27, envL [(0, (ls eCell p0)), (1, (ls eCell p1)), (5, (i64 i10))], []⟩) N 0 h1 (Wk.tr rfl) (fun _ hv => by rw [laws_eqCellS_L1] at hv; cases hv) ?_)
  rintro n i10 h1
  try dsimp only at h1 ⊢
  rw [laws_eqCellS_L1] at h1
  refine AW.seq fun K13 hK13 => sr rfl fun K14 hK14 => zm tb 2 rfl (zl tb rfl rfl (zq tb rfl (dn hK14 rfl ?_)))
  refine ci h1 rfl ?_ ?_ <;> clear h1
  ·intro b15 h1
   refine AW.skip (hK13 _ (AW.seq fun K16 hK16 => AW.block (AW.seq fun K17 hK17 => ?_)))
   refine AW.draw (by kernel_rfl) (by kernel_rfl) (by rfl) ?_
   iterate 2 refine yq tb rfl ?_
   refine bs h1 fun c18 gc18 h1 => yx ei39 gc18 rfl rfl rfl ?_
   iterate 3 refine yq tb rfl ?_
   refine bs h1 fun c19 gc19 h1 => yx ei39 gc19 rfl rfl rfl (yq tb rfl (bs h1 fun q20 gq20 h1 => d_call (v := (.bool q20)) go0 hb69 (laws_eqCell_ok gq20) rfl rfl rfl (yq tb rfl (d_done (hK17 _ ?_)))))
   refine ci h1 rfl ?_ ?_ <;> clear h1
   ·intro b21 h1
    have b22 : q20 = false := by simpa using b21
    refine zr tb rfl rfl ?_
    replace h1 := Sh.some_eq h1
    subst o11
    try dsimp only [id] at h0
    replace h0 := Sh.some_eq h0
    subst r
    exact AW.ret (xr (Wk.to (L := [(4, (.bool false))]) ⟨.rfl, trivial⟩))
   ·intro b21 h1
    have b24 : q20 = true := by simpa using b21
    exact AW.skip (hK16 _ (AW.regionO rfl (zm tb 3 rfl (AO.done (xi (Sh.w (i10 + 1)) h1 (Wk.tr rfl))))))
  ·intro b15 h1
   exact AW.exit (M11 () (Sh.some_eq h1).symm _ (Wk.tr rfl))
theorem laws_eqFrame_ok {N : Nat} {p0 : RFrame} {p1 : RFrame} {r : Bool} (h0 : laws_eqFrame N p0 p1 = some r) : ACalls Tryz.prog 70 [(.agg (eRFrame p0)), (.agg (eRFrame p1))] [] (fun v st => v = (.bool r) ∧ st = []) := by
 unfold laws_eqFrame at h0
 refine ai Tryz.func70 rfl rfl rfl rfl (sr rfl fun K1 hK1 => ao_box (m := 0) go0 rfl rfl rfl rfl rfl (ao_box (m := 1) go0 rfl rfl rfl rfl rfl (zq tb rfl (dn hK1 rfl (AW.seq fun K2 hK2 => zr tb rfl rfl ?_)))))
 refine ci h0 rfl ?_ ?_ <;> clear h0
 ·intro b4 h0
  have b5 : decide (p0.proc = p1.proc) = false := by simpa using b4
  refine zr tb rfl rfl ?_
  replace h0 := Sh.some_eq h0
  subst r
  exact AW.ret (xr (Wk.d0 [(4, (.bool false))] rfl))
 ·intro b4 h0
  have b7 : decide (p0.proc = p1.proc) = true := by simpa using b4
  refine AW.skip (hK2 _ (AW.seq fun K8 hK8 => zr tb rfl rfl ?_))
  refine ci h0 rfl ?_ ?_ <;> clear h0
  ·intro b10 h0
   have b11 : decide (p0.at_ = p1.at_) = false := by simpa using b10
   refine zr tb rfl rfl ?_
   replace h0 := Sh.some_eq h0
   subst r
   exact AW.ret (xr (Wk.d0 [(4, (.bool false))] rfl))
  ·intro b10 h0
   have b13 : decide (p0.at_ = p1.at_) = true := by simpa using b10
   refine AW.skip (hK8 _ (AW.seq fun K14 hK14 => zr tb rfl rfl ?_))
   refine ci h0 rfl ?_ ?_ <;> clear h0
   ·intro b16 h0
    have b17 : decide (p0.dst = p1.dst) = false := by simpa using b16
    refine zr tb rfl rfl ?_
    replace h0 := Sh.some_eq h0
    subst r
    exact AW.ret (xr (Wk.d0 [(4, (.bool false))] rfl))
   ·intro b16 h0
    have b19 : decide (p0.dst = p1.dst) = true := by simpa using b16
    refine AW.skip (hK14 _ (AW.seq fun K20 hK20 => sr rfl fun K21 hK21 => zm tb 4 rfl (bs h0 fun q22 gq22 h0 => zc hb12 (laws_eqIntS_ok gq22) rfl rfl rfl (zq tb rfl (dn hK21 rfl ?_)))))
    refine ci h0 rfl ?_ ?_ <;> clear h0
    ·intro b23 h0
     have b24 : q22 = false := by simpa using b23
     refine zr tb rfl rfl ?_
     replace h0 := Sh.some_eq h0
     subst r
     exact AW.ret (xr (Wk.d0 [(4, (.bool false))] rfl))
    ·intro b23 h0
     have b26 : q22 = true := by simpa using b23
     refine AW.skip (hK20 _ (AW.seq fun K27 hK27 => sr rfl fun K28 hK28 => zm tb 4 rfl (bs h0 fun q29 gq29 h0 => zc hb12 (laws_eqIntS_ok gq29) rfl rfl rfl (zq tb rfl (dn hK28 rfl ?_)))))
     refine ci h0 rfl ?_ ?_ <;> clear h0
     ·intro b30 h0
      have b31 : q29 = false := by simpa using b30
      refine zr tb rfl rfl ?_
      replace h0 := Sh.some_eq h0
      subst r
      exact AW.ret (xr (Wk.d0 [(4, (.bool false))] rfl))
     ·intro b30 h0
      have b33 : q29 = true := by simpa using b30
      refine AW.skip (hK27 _ (AW.seq fun K34 hK34 => sr rfl fun K35 hK35 => zm tb 4 rfl (bs h0 fun q36 gq36 h0 => zc hb12 (laws_eqIntS_ok gq36) rfl rfl rfl (zq tb rfl (dn hK35 rfl ?_)))))
      refine ci h0 rfl ?_ ?_ <;> clear h0
      ·intro b37 h0
       have b38 : q36 = false := by simpa using b37
       refine zr tb rfl rfl ?_
       replace h0 := Sh.some_eq h0
       subst r
       exact AW.ret (xr (Wk.d0 [(4, (.bool false))] rfl))
      ·intro b37 h0
       have b40 : q36 = true := by simpa using b37
       refine AW.skip (hK34 _ (zr tb rfl rfl ?_))
       replace h0 := Sh.some_eq h0
       subst r
       exact AW.ret (xr (Wk.d0 [(4, (.bool true))] rfl))
theorem laws_eqFrameS_ok {N : Nat} {p0 : (List RFrame)} {p1 : (List RFrame)} {r : Bool} (h0 : laws_eqFrameS N p0 p1 = some r) : ACalls Tryz.prog 40 [(ls eRFrame p0), (ls eRFrame p1)] [] (fun v st => v = (.bool r) ∧ st = []) := by
 unfold laws_eqFrameS at h0
 refine ai Tryz.func40 rfl rfl rfl rfl (zr tb rfl rfl (AW.seq fun K2 hK2 => sr rfl fun K3 hK3 => zq tb rfl (zl tb rfl rfl (zq tb rfl (zl tb rfl rfl (zq tb rfl (dn hK3 rfl ?_)))))))
 refine ci h0 rfl ?_ ?_ <;> clear h0
 ·intro b4 h0
  have b5 : decide ((Sh.len p0) = (Sh.len p1)) = false := by simpa using b4
  refine zr tb rfl rfl ?_
  replace h0 := Sh.some_eq h0
  subst r
  exact AW.ret (xr (Wk.to (L := [(4, (.bool false))]) ⟨.rfl, trivial⟩))
 ·intro b4 h0
  have b7 : decide ((Sh.len p0) = (Sh.len p1)) = true := by simpa using b4
  refine AW.skip (hK2 _ (AW.seq fun K8 hK8 => zr tb rfl rfl ?_))
  obtain ⟨o11, h1, h0⟩ := Sh.cont_some h0
  have M11 : ∀ (_ : Unit), o11 = Sum.inr () → ∀ s, Wk 0 s ⟨27, envL [], []⟩ → K8 s := by
   intro _ hq s hw
   subst o11
   try dsimp only at h0
   refine hK8 _ (AW.weaken hw (zr tb rfl rfl ?_))
   replace h0 := Sh.some_eq h0
   subst r
   exact AW.ret (xr (Wk.to (L := [(4, (.bool true))]) ⟨.rfl, trivial⟩))
  refine AW.block (AW.loopF (σ := Int) (fun n v => laws_eqFrameS_L1 N p0 p1 n v = some o11) (fun i10 => ⟨27, envL [(0, (ls eRFrame p0)), (1, (ls eRFrame p1)), (5, (i64 i10))], []⟩) N 0 h1 (Wk.tr rfl) (fun _ hv => by rw [laws_eqFrameS_L1] at hv; cases hv) ?_)
  rintro n i10 h1
  try dsimp only at h1 ⊢
  rw [laws_eqFrameS_L1] at h1
  refine AW.seq fun K13 hK13 => sr rfl fun K14 hK14 => zm tb 2 rfl (zl tb rfl rfl (zq tb rfl (dn hK14 rfl ?_)))
  refine ci h1 rfl ?_ ?_ <;> clear h1
  ·intro b15 h1
   refine AW.skip (hK13 _ (AW.seq fun K16 hK16 => AW.block (AW.seq fun K17 hK17 => ?_)))
   refine AW.draw (by kernel_rfl) (by kernel_rfl) (by rfl) ?_
   iterate 2 refine yq tb rfl ?_
   refine bs h1 fun c18 gc18 h1 => yx ei40 gc18 rfl rfl rfl ?_
   iterate 3 refine yq tb rfl ?_
   refine bs h1 fun c19 gc19 h1 => yx ei40 gc19 rfl rfl rfl (yq tb rfl (bs h1 fun q20 gq20 h1 => d_call (v := (.bool q20)) go0 hb70 (laws_eqFrame_ok gq20) rfl rfl rfl (yq tb rfl (d_done (hK17 _ ?_)))))
   refine ci h1 rfl ?_ ?_ <;> clear h1
   ·intro b21 h1
    have b22 : q20 = false := by simpa using b21
    refine zr tb rfl rfl ?_
    replace h1 := Sh.some_eq h1
    subst o11
    try dsimp only [id] at h0
    replace h0 := Sh.some_eq h0
    subst r
    exact AW.ret (xr (Wk.to (L := [(4, (.bool false))]) ⟨.rfl, trivial⟩))
   ·intro b21 h1
    have b24 : q20 = true := by simpa using b21
    exact AW.skip (hK16 _ (AW.regionO rfl (zm tb 3 rfl (AO.done (xi (Sh.w (i10 + 1)) h1 (Wk.tr rfl))))))
  ·intro b15 h1
   exact AW.exit (M11 () (Sh.some_eq h1).symm _ (Wk.tr rfl))
theorem laws_eqState_ok {N : Nat} {p0 : RState} {p1 : RState} {r : Bool} (h0 : laws_eqState N p0 p1 = some r) : ACalls Tryz.prog 14 [(.agg (eRState p0)), (.agg (eRState p1))] [] (fun v st => v = (.bool r) ∧ st = []) := by
 unfold laws_eqState at h0
 refine ai Tryz.func14 rfl rfl rfl rfl (sr rfl fun K1 hK1 => ao_box (m := 0) go0 rfl rfl rfl rfl rfl (ao_box (m := 1) go0 rfl rfl rfl rfl rfl (zq tb rfl (dn hK1 rfl (AW.seq fun K2 hK2 => zr tb rfl rfl ?_)))))
 refine ci h0 rfl ?_ ?_ <;> clear h0
 ·intro b4 h0
  have b5 : decide (p0.status = p1.status) = false := by simpa using b4
  refine zr tb rfl rfl ?_
  replace h0 := Sh.some_eq h0
  subst r
  exact AW.ret (xr (Wk.d0 [(4, (.bool false))] rfl))
 ·intro b4 h0
  have b7 : decide (p0.status = p1.status) = true := by simpa using b4
  refine AW.skip (hK2 _ (AW.seq fun K8 hK8 => zr tb rfl rfl ?_))
  refine ci h0 rfl ?_ ?_ <;> clear h0
  ·intro b10 h0
   have b11 : decide (p0.value = p1.value) = false := by simpa using b10
   refine zr tb rfl rfl ?_
   replace h0 := Sh.some_eq h0
   subst r
   exact AW.ret (xr (Wk.d0 [(4, (.bool false))] rfl))
  ·intro b10 h0
   have b13 : decide (p0.value = p1.value) = true := by simpa using b10
   refine AW.skip (hK8 _ (AW.seq fun K14 hK14 => zr tb rfl rfl ?_))
   refine ci h0 rfl ?_ ?_ <;> clear h0
   ·intro b16 h0
    have b17 : decide (p0.calls = p1.calls) = false := by simpa using b16
    refine zr tb rfl rfl ?_
    replace h0 := Sh.some_eq h0
    subst r
    exact AW.ret (xr (Wk.d0 [(4, (.bool false))] rfl))
   ·intro b16 h0
    have b19 : decide (p0.calls = p1.calls) = true := by simpa using b16
    refine AW.skip (hK14 _ (AW.seq fun K20 hK20 => zr tb rfl rfl ?_))
    refine ci h0 rfl ?_ ?_ <;> clear h0
    ·intro b22 h0
     have b23 : decide (p0.most = p1.most) = false := by simpa using b22
     refine zr tb rfl rfl ?_
     replace h0 := Sh.some_eq h0
     subst r
     exact AW.ret (xr (Wk.d0 [(4, (.bool false))] rfl))
    ·intro b22 h0
     have b25 : decide (p0.most = p1.most) = true := by simpa using b22
     refine AW.skip (hK20 _ (AW.seq fun K26 hK26 => sr rfl fun K27 hK27 => zm tb 4 rfl (bs h0 fun q28 gq28 h0 => zc hb12 (laws_eqIntS_ok gq28) rfl rfl rfl (zq tb rfl (dn hK27 rfl ?_)))))
     refine ci h0 rfl ?_ ?_ <;> clear h0
     ·intro b29 h0
      have b30 : q28 = false := by simpa using b29
      refine zr tb rfl rfl ?_
      replace h0 := Sh.some_eq h0
      subst r
      exact AW.ret (xr (Wk.d0 [(4, (.bool false))] rfl))
     ·intro b29 h0
      have b32 : q28 = true := by simpa using b29
      refine AW.skip (hK26 _ (AW.seq fun K33 hK33 => sr rfl fun K34 hK34 => zm tb 4 rfl (bs h0 fun q35 gq35 h0 => zc hb39 (laws_eqCellS_ok gq35) rfl rfl rfl (zq tb rfl (dn hK34 rfl ?_)))))
      refine ci h0 rfl ?_ ?_ <;> clear h0
      ·intro b36 h0
       have b37 : q35 = false := by simpa using b36
       refine zr tb rfl rfl ?_
       replace h0 := Sh.some_eq h0
       subst r
       exact AW.ret (xr (Wk.d0 [(4, (.bool false))] rfl))
      ·intro b36 h0
       have b39 : q35 = true := by simpa using b36
       refine AW.skip (hK33 _ (AW.seq fun K40 hK40 => sr rfl fun K41 hK41 => zm tb 4 rfl (bs h0 fun q42 gq42 h0 => zc hb40 (laws_eqFrameS_ok gq42) rfl rfl rfl (zq tb rfl (dn hK41 rfl ?_)))))
       refine ci h0 rfl ?_ ?_ <;> clear h0
       ·intro b43 h0
        have b44 : q42 = false := by simpa using b43
        refine zr tb rfl rfl ?_
        replace h0 := Sh.some_eq h0
        subst r
        exact AW.ret (xr (Wk.d0 [(4, (.bool false))] rfl))
       ·intro b43 h0
        have b46 : q42 = true := by simpa using b43
        refine AW.skip (hK40 _ (zr tb rfl rfl ?_))
        replace h0 := Sh.some_eq h0
        subst r
        exact AW.ret (xr (Wk.d0 [(4, (.bool true))] rfl))
theorem laws_markIntS_ok {N : Nat} {s0 : (List Int)} {p1 : Int} {r : Int × (List Int)} (h0 : laws_markIntS N s0 p1 = some r) : ACalls Tryz.prog 17 [(ow 0 0 s0), (i64 p1)] [(ro 0 3 1 eI s0)] (fun v st => v = (i64 r.1) ∧ st = [(ro 0 3 1 eI r.2)]) := by
 unfold laws_markIntS at h0
 refine ai Tryz.func17 rfl rfl rfl rfl (zr tb rfl rfl (AW.seq fun K2 hK2 => zr tb rfl rfl (bs h0 fun o9 h1 h0 => ?_)))
 have M9 : ∀ (k7 : Int) (l8 : (List Int)), o9 = (k7, l8) → ∀ s, Wk 1 s ⟨19, envL [(1, (i64 k7))], [(ro 0 3 1 eI l8)]⟩ → K2 s := by
  intro k7 l8 hq s hw
  subst o9
  try dsimp only at h0
  refine hK2 _ (AW.weaken hw (zr tb rfl rfl ?_))
  replace h0 := Sh.some_eq h0
  subst r
  exact AW.ret (xr (Wk.to (L := [(4, (i64 k7))]) ⟨.rfl, trivial⟩))
 refine AW.block (AW.loopF (σ := Int × Int × (List Int)) (fun n v => laws_markIntS_L1  n v.1 v.2.1 v.2.2 = some o9) (fun (k4, i5, l6) => ⟨19, envL [(0, (ow 0 0 l6)), (1, (i64 k4)), (5, (i64 i5))], [(ro 0 3 1 eI l6)]⟩) N (p1, 0, s0) h1 (Wk.tr rfl) (fun _ hv => by rw [laws_markIntS_L1] at hv; cases hv) ?_)
 rintro n ⟨k4, i5, l6⟩ h1
 try dsimp only at h1 ⊢
 rw [laws_markIntS_L1] at h1
 refine AW.seq fun K11 hK11 => sr rfl fun K12 hK12 => zm tb 2 rfl (zz (i64 (Sh.len l6)) (aq_leno sl26 rfl rfl rfl) rfl (zq tb rfl (dn hK12 rfl ?_)))
 refine ci h1 rfl ?_ ?_ <;> clear h1
 ·intro b13 h1
  refine AW.skip (hK11 _ (AW.seq fun K14 hK14 => AW.block (sr rfl fun K15 hK15 => zm tb 3 rfl (bs h1 fun c16 gc16 h1 => zz (.ptr 0 0 (Int.toNat i5) 0) (aq_ixo ei26 rfl rfl rfl rfl gc16) rfl (ao_stl (u' := k4) go0 ti3 rfl rfl gc16 rfl rfl rfl (show 0 + 1 ≤ 1 by decide) rfl rfl (dn hK15 rfl (AW.regionO rfl (zm tb 3 rfl (dn hK14 rfl ?_)))))))))
  refine AW.regionO rfl (zm tb 3 rfl ?_)
  exact AO.done (xi (Sh.w (k4 + 1), Sh.w (i5 + 1), Sh.put l6 i5 k4) h1 (Wk.to (L := [(0, (.own 0 0 (List.length (Sh.put l6 i5 k4)))), (1, (i64 (Sh.w (k4 + 1)))), (5, (i64 (Sh.w (i5 + 1))))]) ⟨(.len (by simp only [Sh.put_len])), .rfl, .rfl, trivial⟩))
 ·intro b13 h1
  exact AW.exit (M9 k4 l6 (Sh.some_eq h1).symm _ (Wk.tr rfl))
theorem laws_markConS_ok {N : Nat} {s0 : (List RCon)} {p1 : Int} {r : Int × (List RCon)} (h0 : laws_markConS N s0 p1 = some r) : ACalls Tryz.prog 71 [(ow 0 0 s0), (i64 p1)] [(ro 0 148 1 (eRConD 3) s0)] (fun v st => v = (i64 r.1) ∧ st = [(ro 0 148 1 (eRConD 3) r.2)]) := by
 unfold laws_markConS at h0
 refine ai Tryz.func71 rfl rfl rfl rfl (zr tb rfl rfl (AW.seq fun K2 hK2 => zr tb rfl rfl (bs h0 fun o9 h1 h0 => ?_)))
 have M9 : ∀ (k7 : Int) (l8 : (List RCon)), o9 = (k7, l8) → ∀ s, Wk 1 s ⟨20, envL [(1, (i64 k7))], [(ro 0 148 1 (eRConD 3) l8)]⟩ → K2 s := by
  intro k7 l8 hq s hw
  subst o9
  try dsimp only at h0
  refine hK2 _ (AW.weaken hw (zr tb rfl rfl ?_))
  replace h0 := Sh.some_eq h0
  subst r
  exact AW.ret (xr (Wk.to (L := [(4, (i64 k7))]) ⟨.rfl, trivial⟩))
 refine AW.block (AW.loopF (σ := Int × Int × (List RCon)) (fun n v => laws_markConS_L1 N n v.1 v.2.1 v.2.2 = some o9) (fun (k4, i5, l6) => ⟨20, envL [(0, (ow 0 0 l6)), (1, (i64 k4)), (5, (i64 i5))], [(ro 0 148 1 (eRConD 3) l6)]⟩) N (p1, 0, s0) h1 (Wk.tr rfl) (fun _ hv => by rw [laws_markConS_L1] at hv; cases hv) ?_)
 rintro n ⟨k4, i5, l6⟩ h1
 try dsimp only at h1 ⊢
 rw [laws_markConS_L1] at h1
 refine AW.seq fun K11 hK11 => sr rfl fun K12 hK12 => zm tb 2 rfl (zz (i64 (Sh.len l6)) (aq_leno sl96 rfl rfl rfl) rfl (zq tb rfl (dn hK12 rfl ?_)))
 refine ci h1 rfl ?_ ?_ <;> clear h1
 ·intro b13 h1
  refine AW.skip (hK11 _ (AW.seq fun K14 hK14 => AW.block (AW.regionO rfl (zm tb 2 rfl (bs h1 fun c15 gc15 h1 => zz (.ptr 0 0 (Int.toNat i5) 0) (aq_ixo ei96 rfl rfl rfl rfl gc15) rfl (zq tb rfl (AO.weaken (Wk.expel (id := 0) (j := 0) (i := i5) (c := c15) (ys := c15.fields) (encY := eI) rfl gc15 rfl rfl rfl rfl rfl) (zz (ow 1 0 c15.fields) (aq_ldp ti26 rfl rfl (hole_get gc15) rfl) rfl (zq tb rfl (bs h1 fun q16 gq16 h1 => ?_))))))))))
  refine ao_callsL (rowsP := [⟨0, 3, 1, List.map eI c15.fields⟩]) (rows0 := [⟨0, 3, 1, List.map eI c15.fields⟩]) (rows1 := [⟨0, 3, 1, List.map eI q16.2⟩]) (rows2 := []) (rows1' := [⟨0, 3, 1, List.map eI q16.2⟩]) (rows2' := []) (st' := [⟨0, 148, 1, hole l6 (eRConD 3) i5 [(.own 1 0 (List.length c15.fields))]⟩, ⟨0, 3, 1, List.map eI q16.2⟩]) (v' := (i64 q16.1)) [1] go0 hb17 (laws_markIntS_ok gq16) rfl (by decide) rfl rfl (.pure (pure_map fun _ => rfl) .nil) rfl rfl (.pure (pure_map fun _ => rfl) .nil) .nil rfl rfl (fun hln => ?_)
  have ln17 : List.length q16.2 = List.length c15.fields := by simpa only [List.length_map] using hln 0 _ _ rfl rfl rfl
  refine AO.weaken (Wk.take (id := 0) (m := 1) (j := 0) (i := i5) (c := c15) (ys := q16.2) (encY := eI) rfl gc15 rfl rfl (by first | (simp only [Sh.put_len]; done) | (simp only [Sh.put_len]; omega) | omega) (by decide) (show 1 ≤ 1 by decide) (fun _ => rfl) rfl rfl) ?_
  refine AO.weaken (Wk.filled (id := 0) (i := i5) (u := (RCon.mk q16.2)) rfl rfl rfl) ?_
  generalize hg901 : Sh.put l6 i5 (RCon.mk q16.2) = lg901 at h1 ⊢
  have ln901 := congrArg List.length hg901
  simp only [Sh.put_len] at ln901
  refine zq tb rfl (dn hK14 rfl (AW.regionO rfl (zm tb 3 rfl ?_)))
  exact AO.done (xi (q16.1, Sh.w (i5 + 1), lg901) h1 (by refine Wk.trans (Wk.permk (L := [(0, (.own 0 0 (List.length l6))), (1, (i64 q16.1)), (5, (i64 (Sh.w (i5 + 1))))]) (st' := [⟨0, 148, 1, List.map (eRConD 3) lg901⟩]) (st1 := [⟨0, 148, 1, List.map (eRConD 3) lg901⟩]) [0] rfl (.deep (pure_mapD fun _ => rfl) .nil) (by decide) rfl rfl (.deep (pure_mapD fun _ => rfl) .nil) ⟨.rfl, .rfl, .rfl, trivial⟩) ?_; exact Wk.to (L := [(0, (.own 0 0 (List.length lg901))), (1, (i64 q16.1)), (5, (i64 (Sh.w (i5 + 1))))]) ⟨(.len (by first | (simp only [Sh.put_len]; done) | (simp only [Sh.put_len]; omega) | omega)), .rfl, .rfl, trivial⟩))
 ·intro b13 h1
  exact AW.exit (M9 k4 l6 (Sh.some_eq h1).symm _ (Wk.tr rfl))
theorem laws_markDeclS_ok {N : Nat} {s0 : (List RDecl)} {p1 : Int} {r : Int × (List RDecl)} (h0 : laws_markDeclS N s0 p1 = some r) : ACalls Tryz.prog 41 [(ow 0 0 s0), (i64 p1)] [(ro 0 98 3 (eRDeclD 148 3) s0)] (fun v st => v = (i64 r.1) ∧ st = [(ro 0 98 3 (eRDeclD 148 3) r.2)]) := by
 unfold laws_markDeclS at h0
 refine ai Tryz.func41 rfl rfl rfl rfl (zr tb rfl rfl (AW.seq fun K2 hK2 => zr tb rfl rfl (bs h0 fun o9 h1 h0 => ?_)))
 have M9 : ∀ (k7 : Int) (l8 : (List RDecl)), o9 = (k7, l8) → ∀ s, Wk 1 s ⟨34, envL [(1, (i64 k7))], [(ro 0 98 3 (eRDeclD 148 3) l8)]⟩ → K2 s := by
  intro k7 l8 hq s hw
  subst o9
  try dsimp only at h0
  refine hK2 _ (AW.weaken hw (zr tb rfl rfl ?_))
  replace h0 := Sh.some_eq h0
  subst r
  exact AW.ret (xr (Wk.to (L := [(4, (i64 k7))]) ⟨.rfl, trivial⟩))
 refine AW.block (AW.loopF (σ := Int × Int × (List RDecl)) (fun n v => laws_markDeclS_L1 N n v.1 v.2.1 v.2.2 = some o9) (fun (k4, i5, l6) => ⟨34, envL [(0, (ow 0 0 l6)), (1, (i64 k4)), (5, (i64 i5))], [(ro 0 98 3 (eRDeclD 148 3) l6)]⟩) N (p1, 0, s0) h1 (Wk.tr rfl) (fun _ hv => by rw [laws_markDeclS_L1] at hv; cases hv) ?_)
 rintro n ⟨k4, i5, l6⟩ h1
 try dsimp only at h1 ⊢
 rw [laws_markDeclS_L1] at h1
 refine AW.seq fun K11 hK11 => sr rfl fun K12 hK12 => zm tb 2 rfl (zz (i64 (Sh.len l6)) (aq_leno sl34 rfl rfl rfl) rfl (zq tb rfl (dn hK12 rfl ?_)))
 refine ci h1 rfl ?_ ?_ <;> clear h1
 ·intro b13 h1
  refine AW.skip (hK11 _ (AW.seq fun K14 hK14 => AW.block (sr rfl fun K15 hK15 => zm tb 3 rfl (bs h1 fun c16 gc16 h1 => zz (.ptr 0 0 (Int.toNat i5) 0) (aq_ixo ei34 rfl rfl rfl rfl gc16) rfl (zq tb rfl (ao_stl (u' := (RDecl.mk k4 c16.to c16.cons)) go0 ti3 rfl rfl gc16 rfl rfl rfl (show 0 + 1 ≤ 3 by decide) rfl rfl ?_))))))
  generalize hg901 : Sh.put l6 i5 (RDecl.mk k4 c16.to c16.cons) = lg901 at h1 ⊢
  have ln901 := congrArg List.length hg901
  simp only [Sh.put_len] at ln901
  refine dn hK15 rfl (zr tb rfl rfl (sr rfl fun K18 hK18 => zm tb 3 rfl (bs h1 fun c19 gc19 h1 => ?_)))
  refine zz (.ptr 0 0 (Int.toNat i5) 0) (aq_ixo ei34 rfl rfl rfl (by first | (simp only [Sh.put_len]; done) | omega) gc19) rfl ?_
  refine zq tb rfl (ao_stl (u' := (RDecl.mk c19.from_ (Sh.w (k4 + 1)) c19.cons)) go0 ti3 rfl rfl gc19 rfl rfl rfl (show 1 + 1 ≤ 3 by decide) rfl rfl ?_)
  generalize hg902 : Sh.put lg901 i5 (RDecl.mk c19.from_ (Sh.w (k4 + 1)) c19.cons) = lg902 at h1 ⊢
  have ln902 := congrArg List.length hg902
  simp only [Sh.put_len] at ln902
  refine dn hK18 rfl (zr tb rfl rfl (AW.regionO rfl (zm tb 2 rfl (bs h1 fun c21 gc21 h1 => ?_))))
  refine zz (.ptr 0 0 (Int.toNat i5) 0) (aq_ixo ei34 rfl rfl rfl (by first | (simp only [Sh.put_len]; done) | omega) gc21) rfl ?_
  refine zq tb rfl (AO.weaken (Wk.expel (id := 0) (j := 2) (i := i5) (c := c21) (ys := c21.cons) (encY := (eRConD 3)) rfl gc21 rfl rfl rfl rfl rfl) (zz (ow 1 0 c21.cons) (aq_ldp ti96 rfl rfl (hole_get gc21) rfl) rfl (zq tb rfl (bs h1 fun q22 gq22 h1 => ?_))))
  refine ao_callsL (rowsP := [⟨0, 148, 1, List.map (eRConD 3) c21.cons⟩]) (rows0 := [⟨0, 148, 1, List.map (eRConD 3) c21.cons⟩]) (rows1 := [⟨0, 148, 1, List.map (eRConD 3) q22.2⟩]) (rows2 := []) (rows1' := [⟨0, 148, 1, List.map (eRConD 3) q22.2⟩]) (rows2' := []) (st' := [⟨0, 98, 3, hole lg902 (eRDeclD 148 3) i5 [(i64 c21.from_), (i64 c21.to), (.own 1 0 (List.length c21.cons))]⟩, ⟨0, 148, 1, List.map (eRConD 3) q22.2⟩]) (v' := (i64 q22.1)) [1] go0 hb71 (laws_markConS_ok gq22) rfl (by decide) rfl rfl (.deep (pure_mapD fun _ => rfl) .nil) rfl rfl (.deep (pure_mapD fun _ => rfl) .nil) .nil rfl rfl (fun hln => ?_)
  have ln23 : List.length q22.2 = List.length c21.cons := by simpa only [List.length_map] using hln 0 _ _ rfl rfl rfl
  refine AO.weaken (Wk.take (id := 0) (m := 1) (j := 2) (i := i5) (c := c21) (ys := q22.2) (encY := (eRConD 3)) rfl gc21 rfl rfl (by first | (simp only [Sh.put_len]; done) | (simp only [Sh.put_len]; omega) | omega) (by decide) (show 1 ≤ 1 by decide) (fun _ => rfl) rfl rfl) ?_
  refine AO.weaken (Wk.filled (id := 0) (i := i5) (u := (RDecl.mk c21.from_ c21.to q22.2)) rfl rfl rfl) ?_
  generalize hg903 : Sh.put lg902 i5 (RDecl.mk c21.from_ c21.to q22.2) = lg903 at h1 ⊢
  have ln903 := congrArg List.length hg903
  simp only [Sh.put_len] at ln903
  refine zq tb rfl (dn hK14 rfl (AW.regionO rfl (zm tb 3 rfl ?_)))
  exact AO.done (xi (q22.1, Sh.w (i5 + 1), lg903) h1 (by refine Wk.trans (Wk.permk (L := [(0, (.own 0 0 (List.length l6))), (1, (i64 q22.1)), (5, (i64 (Sh.w (i5 + 1))))]) (st' := [⟨0, 98, 3, List.map (eRDeclD 148 3) lg903⟩]) (st1 := [⟨0, 98, 3, List.map (eRDeclD 148 3) lg903⟩]) [0] rfl (.deep (pure_mapD fun _ => rfl) .nil) (by decide) rfl rfl (.deep (pure_mapD fun _ => rfl) .nil) ⟨.rfl, .rfl, .rfl, trivial⟩) ?_; exact Wk.to (L := [(0, (.own 0 0 (List.length lg903))), (1, (i64 q22.1)), (5, (i64 (Sh.w (i5 + 1))))]) ⟨(.len (by first | (simp only [Sh.put_len]; done) | (simp only [Sh.put_len]; omega) | omega)), .rfl, .rfl, trivial⟩))
 ·intro b13 h1
  exact AW.exit (M9 k4 l6 (Sh.some_eq h1).symm _ (Wk.tr rfl))
theorem laws_markInstrS_ok {N : Nat} {s0 : (List RInstr)} {p1 : Int} {r : Int × (List RInstr)} (h0 : laws_markInstrS N s0 p1 = some r) : ACalls Tryz.prog 72 [(ow 0 0 s0), (i64 p1)] [(ro 0 138 6 (eRInstrD 3 3) s0)] (fun v st => v = (i64 r.1) ∧ st = [(ro 0 138 6 (eRInstrD 3 3) r.2)]) := by
 unfold laws_markInstrS at h0
 refine ai Tryz.func72 rfl rfl rfl rfl (zr tb rfl rfl (AW.seq fun K2 hK2 => zr tb rfl rfl (bs h0 fun o9 h1 h0 => ?_)))
 have M9 : ∀ (k7 : Int) (l8 : (List RInstr)), o9 = (k7, l8) → ∀ s, Wk 1 s ⟨55, envL [(1, (i64 k7))], [(ro 0 138 6 (eRInstrD 3 3) l8)]⟩ → K2 s := by
  intro k7 l8 hq s hw
  subst o9
  try dsimp only at h0
  refine hK2 _ (AW.weaken hw (zr tb rfl rfl ?_))
  replace h0 := Sh.some_eq h0
  subst r
  exact AW.ret (xr (Wk.to (L := [(4, (i64 k7))]) ⟨.rfl, trivial⟩))
 refine AW.block (AW.loopF (σ := Int × Int × (List RInstr)) (fun n v => laws_markInstrS_L1 N n v.1 v.2.1 v.2.2 = some o9) (fun (k4, i5, l6) => ⟨55, envL [(0, (ow 0 0 l6)), (1, (i64 k4)), (5, (i64 i5))], [(ro 0 138 6 (eRInstrD 3 3) l6)]⟩) N (p1, 0, s0) h1 (Wk.tr rfl) (fun _ hv => by rw [laws_markInstrS_L1] at hv; cases hv) ?_)
 rintro n ⟨k4, i5, l6⟩ h1
 try dsimp only at h1 ⊢
 rw [laws_markInstrS_L1] at h1
 refine AW.seq fun K11 hK11 => sr rfl fun K12 hK12 => zm tb 2 rfl (zz (i64 (Sh.len l6)) (aq_leno sl100 rfl rfl rfl) rfl (zq tb rfl (dn hK12 rfl ?_)))
 refine ci h1 rfl ?_ ?_ <;> clear h1
 ·intro b13 h1
  refine AW.skip (hK11 _ (AW.seq fun K14 hK14 => AW.block (sr rfl fun K15 hK15 => zm tb 3 rfl (bs h1 fun c16 gc16 h1 => zz (.ptr 0 0 (Int.toNat i5) 0) (aq_ixo ei100 rfl rfl rfl rfl gc16) rfl (zq tb rfl (ao_stl (u' := (RInstr.mk k4 c16.dst c16.num c16.into c16.args c16.jumps)) go0 ti3 rfl rfl gc16 rfl rfl rfl (show 0 + 1 ≤ 6 by decide) rfl rfl ?_))))))
  generalize hg901 : Sh.put l6 i5 (RInstr.mk k4 c16.dst c16.num c16.into c16.args c16.jumps) = lg901 at h1 ⊢
  have ln901 := congrArg List.length hg901
  simp only [Sh.put_len] at ln901
  refine dn hK15 rfl (zr tb rfl rfl (sr rfl fun K18 hK18 => zm tb 3 rfl (bs h1 fun c19 gc19 h1 => ?_)))
  refine zz (.ptr 0 0 (Int.toNat i5) 0) (aq_ixo ei100 rfl rfl rfl (by first | (simp only [Sh.put_len]; done) | omega) gc19) rfl ?_
  refine zq tb rfl (ao_stl (u' := (RInstr.mk c19.op (Sh.w (k4 + 1)) c19.num c19.into c19.args c19.jumps)) go0 ti3 rfl rfl gc19 rfl rfl rfl (show 1 + 1 ≤ 6 by decide) rfl rfl ?_)
  generalize hg902 : Sh.put lg901 i5 (RInstr.mk c19.op (Sh.w (k4 + 1)) c19.num c19.into c19.args c19.jumps) = lg902 at h1 ⊢
  have ln902 := congrArg List.length hg902
  simp only [Sh.put_len] at ln902
  refine dn hK18 rfl (zr tb rfl rfl (sr rfl fun K21 hK21 => zm tb 3 rfl (bs h1 fun c22 gc22 h1 => ?_)))
  refine zz (.ptr 0 0 (Int.toNat i5) 0) (aq_ixo ei100 rfl rfl rfl (by first | (simp only [Sh.put_len]; done) | omega) gc22) rfl ?_
  refine zq tb rfl (ao_stl (u' := (RInstr.mk c22.op c22.dst (Sh.w ((Sh.w (k4 + 1)) + 1)) c22.into c22.args c22.jumps)) go0 ti3 rfl rfl gc22 rfl rfl rfl (show 2 + 1 ≤ 6 by decide) rfl rfl ?_)
  generalize hg903 : Sh.put lg902 i5 (RInstr.mk c22.op c22.dst (Sh.w ((Sh.w (k4 + 1)) + 1)) c22.into c22.args c22.jumps) = lg903 at h1 ⊢
  have ln903 := congrArg List.length hg903
  simp only [Sh.put_len] at ln903
  refine dn hK21 rfl (zr tb rfl rfl (sr rfl fun K24 hK24 => zm tb 3 rfl (bs h1 fun c25 gc25 h1 => ?_)))
  refine zz (.ptr 0 0 (Int.toNat i5) 0) (aq_ixo ei100 rfl rfl rfl (by first | (simp only [Sh.put_len]; done) | omega) gc25) rfl ?_
  refine zq tb rfl (ao_stl (u' := (RInstr.mk c25.op c25.dst c25.num (Sh.w ((Sh.w ((Sh.w (k4 + 1)) + 1)) + 1)) c25.args c25.jumps)) go0 ti3 rfl rfl gc25 rfl rfl rfl (show 3 + 1 ≤ 6 by decide) rfl rfl ?_)
  generalize hg904 : Sh.put lg903 i5 (RInstr.mk c25.op c25.dst c25.num (Sh.w ((Sh.w ((Sh.w (k4 + 1)) + 1)) + 1)) c25.args c25.jumps) = lg904 at h1 ⊢
  have ln904 := congrArg List.length hg904
  simp only [Sh.put_len] at ln904
  refine dn hK24 rfl (zr tb rfl rfl (sr rfl fun K27 hK27 => zm tb 2 rfl (bs h1 fun c28 gc28 h1 => ?_)))
  refine zz (.ptr 0 0 (Int.toNat i5) 0) (aq_ixo ei100 rfl rfl rfl (by first | (simp only [Sh.put_len]; done) | omega) gc28) rfl ?_
  refine zq tb rfl (AO.weaken (Wk.expel (id := 0) (j := 4) (i := i5) (c := c28) (ys := c28.args) (encY := eI) rfl gc28 rfl rfl rfl rfl rfl) (zz (ow 1 0 c28.args) (aq_ldp ti26 rfl rfl (hole_get gc28) rfl) rfl (zq tb rfl (bs h1 fun q29 gq29 h1 => ?_))))
  refine ao_callsL (rowsP := [⟨0, 3, 1, List.map eI c28.args⟩]) (rows0 := [⟨0, 3, 1, List.map eI c28.args⟩]) (rows1 := [⟨0, 3, 1, List.map eI q29.2⟩]) (rows2 := []) (rows1' := [⟨0, 3, 1, List.map eI q29.2⟩]) (rows2' := []) (st' := [⟨0, 138, 6, hole lg904 (eRInstrD 3 3) i5 [(i64 c28.op), (i64 c28.dst), (i64 c28.num), (i64 c28.into), (.own 1 0 (List.length c28.args)), (.dv 3 1 (List.map eI c28.jumps))]⟩, ⟨0, 3, 1, List.map eI q29.2⟩]) (v' := (i64 q29.1)) [1] go0 hb17 (laws_markIntS_ok gq29) rfl (by decide) rfl rfl (.pure (pure_map fun _ => rfl) .nil) rfl rfl (.pure (pure_map fun _ => rfl) .nil) .nil rfl rfl (fun hln => ?_)
  have ln30 : List.length q29.2 = List.length c28.args := by simpa only [List.length_map] using hln 0 _ _ rfl rfl rfl
  refine AO.weaken (Wk.take (id := 0) (m := 1) (j := 4) (i := i5) (c := c28) (ys := q29.2) (encY := eI) rfl gc28 rfl rfl (by first | (simp only [Sh.put_len]; done) | (simp only [Sh.put_len]; omega) | omega) (by decide) (show 1 ≤ 1 by decide) (fun _ => rfl) rfl rfl) ?_
  refine AO.weaken (Wk.filled (id := 0) (i := i5) (u := (RInstr.mk c28.op c28.dst c28.num c28.into q29.2 c28.jumps)) rfl rfl rfl) ?_
  generalize hg905 : Sh.put lg904 i5 (RInstr.mk c28.op c28.dst c28.num c28.into q29.2 c28.jumps) = lg905 at h1 ⊢
  have ln905 := congrArg List.length hg905
  simp only [Sh.put_len] at ln905
  refine zq tb rfl (dn hK27 rfl (AW.regionO rfl (zm tb 2 rfl (bs h1 fun c31 gc31 h1 => ?_))))
  refine zz (.ptr 0 0 (Int.toNat i5) 0) (aq_ixo ei100 rfl rfl rfl (by first | (simp only [Sh.put_len]; done) | (simp only [Sh.put_len]; omega) | omega) gc31) rfl ?_
  refine zq tb rfl (AO.weaken (Wk.expel (id := 0) (j := 5) (i := i5) (c := c31) (ys := c31.jumps) (encY := eI) rfl gc31 rfl rfl rfl rfl rfl) (zz (ow 2 0 c31.jumps) (aq_ldp ti26 rfl rfl (hole_get gc31) rfl) rfl (zq tb rfl (bs h1 fun q32 gq32 h1 => ?_))))
  refine ao_callsL (rowsP := [⟨0, 3, 1, List.map eI c31.jumps⟩]) (rows0 := [⟨0, 3, 1, List.map eI c31.jumps⟩]) (rows1 := [⟨0, 3, 1, List.map eI q32.2⟩]) (rows2 := []) (rows1' := [⟨0, 3, 1, List.map eI q32.2⟩]) (rows2' := []) (st' := [⟨0, 138, 6, hole lg905 (eRInstrD 3 3) i5 [(i64 c31.op), (i64 c31.dst), (i64 c31.num), (i64 c31.into), (.dv 3 1 (List.map eI c31.args)), (.own 2 0 (List.length c31.jumps))]⟩, ⟨1, 3, 1, []⟩, ⟨0, 3, 1, List.map eI q32.2⟩]) (v' := (i64 q32.1)) [2] go0 hb17 (laws_markIntS_ok gq32) rfl (by decide) rfl rfl (.pure (pure_map fun _ => rfl) .nil) rfl rfl (.pure (pure_map fun _ => rfl) .nil) .nil rfl rfl (fun hln => ?_)
  have ln33 : List.length q32.2 = List.length c31.jumps := by simpa only [List.length_map] using hln 0 _ _ rfl rfl rfl
  refine AO.weaken (Wk.take (id := 0) (m := 2) (j := 5) (i := i5) (c := c31) (ys := q32.2) (encY := eI) rfl gc31 rfl rfl (by first | (simp only [Sh.put_len]; done) | (simp only [Sh.put_len]; omega) | omega) (by decide) (show 1 ≤ 2 by decide) (fun _ => rfl) rfl rfl) ?_
  refine AO.weaken (Wk.filled (id := 0) (i := i5) (u := (RInstr.mk c31.op c31.dst c31.num c31.into c31.args q32.2)) rfl rfl rfl) ?_
  generalize hg906 : Sh.put lg905 i5 (RInstr.mk c31.op c31.dst c31.num c31.into c31.args q32.2) = lg906 at h1 ⊢
  have ln906 := congrArg List.length hg906
  simp only [Sh.put_len] at ln906
  refine zq tb rfl (dn hK14 rfl (AW.regionO rfl (zm tb 3 rfl ?_)))
  exact AO.done (xi (q32.1, Sh.w (i5 + 1), lg906) h1 (by refine Wk.trans (Wk.permk (L := [(0, (.own 0 0 (List.length l6))), (1, (i64 q32.1)), (5, (i64 (Sh.w (i5 + 1))))]) (st' := [⟨0, 138, 6, List.map (eRInstrD 3 3) lg906⟩]) (st1 := [⟨0, 138, 6, List.map (eRInstrD 3 3) lg906⟩]) [0] rfl (.deep (pure_mapD fun _ => rfl) .nil) (by decide) rfl rfl (.deep (pure_mapD fun _ => rfl) .nil) ⟨.rfl, .rfl, .rfl, trivial⟩) ?_; exact Wk.to (L := [(0, (.own 0 0 (List.length lg906))), (1, (i64 q32.1)), (5, (i64 (Sh.w (i5 + 1))))]) ⟨(.len (by first | (simp only [Sh.put_len]; done) | (simp only [Sh.put_len]; omega) | omega)), .rfl, .rfl, trivial⟩))
 ·intro b13 h1
  exact AW.exit (M9 k4 l6 (Sh.some_eq h1).symm _ (Wk.tr rfl))
theorem laws_markProcS_ok {N : Nat} {s0 : (List RProc)} {p1 : Int} {r : Int × (List RProc)} (h0 : laws_markProcS N s0 p1 = some r) : ACalls Tryz.prog 42 [(ow 0 0 s0), (i64 p1)] [(ro 0 102 5 (eRProcD 3 3 138 3 3) s0)] (fun v st => v = (i64 r.1) ∧ st = [(ro 0 102 5 (eRProcD 3 3 138 3 3) r.2)]) := by
 unfold laws_markProcS at h0
 refine ai Tryz.func42 rfl rfl rfl rfl (zr tb rfl rfl (AW.seq fun K2 hK2 => zr tb rfl rfl (bs h0 fun o9 h1 h0 => ?_)))
 have M9 : ∀ (k7 : Int) (l8 : (List RProc)), o9 = (k7, l8) → ∀ s, Wk 1 s ⟨48, envL [(1, (i64 k7))], [(ro 0 102 5 (eRProcD 3 3 138 3 3) l8)]⟩ → K2 s := by
  intro k7 l8 hq s hw
  subst o9
  try dsimp only at h0
  refine hK2 _ (AW.weaken hw (zr tb rfl rfl ?_))
  replace h0 := Sh.some_eq h0
  subst r
  exact AW.ret (xr (Wk.to (L := [(4, (i64 k7))]) ⟨.rfl, trivial⟩))
 refine AW.block (AW.loopF (σ := Int × Int × (List RProc)) (fun n v => laws_markProcS_L1 N n v.1 v.2.1 v.2.2 = some o9) (fun (k4, i5, l6) => ⟨48, envL [(0, (ow 0 0 l6)), (1, (i64 k4)), (5, (i64 i5))], [(ro 0 102 5 (eRProcD 3 3 138 3 3) l6)]⟩) N (p1, 0, s0) h1 (Wk.tr rfl) (fun _ hv => by rw [laws_markProcS_L1] at hv; cases hv) ?_)
 rintro n ⟨k4, i5, l6⟩ h1
 try dsimp only at h1 ⊢
 rw [laws_markProcS_L1] at h1
 refine AW.seq fun K11 hK11 => sr rfl fun K12 hK12 => zm tb 2 rfl (zz (i64 (Sh.len l6)) (aq_leno sl35 rfl rfl rfl) rfl (zq tb rfl (dn hK12 rfl ?_)))
 refine ci h1 rfl ?_ ?_ <;> clear h1
 ·intro b13 h1
  refine AW.skip (hK11 _ (AW.seq fun K14 hK14 => AW.block (sr rfl fun K15 hK15 => zm tb 2 rfl (bs h1 fun c16 gc16 h1 => zz (.ptr 0 0 (Int.toNat i5) 0) (aq_ixo ei35 rfl rfl rfl rfl gc16) rfl (zq tb rfl (AO.weaken (Wk.expel (id := 0) (j := 0) (i := i5) (c := c16) (ys := c16.params) (encY := eI) rfl gc16 rfl rfl rfl rfl rfl) (zz (ow 1 0 c16.params) (aq_ldp ti26 rfl rfl (hole_get gc16) rfl) rfl (zq tb rfl (bs h1 fun q17 gq17 h1 => ?_)))))))))
  refine ao_callsL (rowsP := [⟨0, 3, 1, List.map eI c16.params⟩]) (rows0 := [⟨0, 3, 1, List.map eI c16.params⟩]) (rows1 := [⟨0, 3, 1, List.map eI q17.2⟩]) (rows2 := []) (rows1' := [⟨0, 3, 1, List.map eI q17.2⟩]) (rows2' := []) (st' := [⟨0, 102, 5, hole l6 (eRProcD 3 3 138 3 3) i5 [(.own 1 0 (List.length c16.params)), (.dv 3 1 (List.map eI c16.lent)), (i64 c16.result), (i64 c16.regs), (.dv 138 6 (List.map (eRInstrD 3 3) c16.code))]⟩, ⟨0, 3, 1, List.map eI q17.2⟩]) (v' := (i64 q17.1)) [1] go0 hb17 (laws_markIntS_ok gq17) rfl (by decide) rfl rfl (.pure (pure_map fun _ => rfl) .nil) rfl rfl (.pure (pure_map fun _ => rfl) .nil) .nil rfl rfl (fun hln => ?_)
  have ln18 : List.length q17.2 = List.length c16.params := by simpa only [List.length_map] using hln 0 _ _ rfl rfl rfl
  refine AO.weaken (Wk.take (id := 0) (m := 1) (j := 0) (i := i5) (c := c16) (ys := q17.2) (encY := eI) rfl gc16 rfl rfl (by first | (simp only [Sh.put_len]; done) | (simp only [Sh.put_len]; omega) | omega) (by decide) (show 1 ≤ 1 by decide) (fun _ => rfl) rfl rfl) ?_
  refine AO.weaken (Wk.filled (id := 0) (i := i5) (u := (RProc.mk q17.2 c16.lent c16.result c16.regs c16.code)) rfl rfl rfl) ?_
  generalize hg901 : Sh.put l6 i5 (RProc.mk q17.2 c16.lent c16.result c16.regs c16.code) = lg901 at h1 ⊢
  have ln901 := congrArg List.length hg901
  simp only [Sh.put_len] at ln901
  refine zq tb rfl (dn hK15 rfl (sr rfl fun K19 hK19 => zm tb 2 rfl (bs h1 fun c20 gc20 h1 => ?_)))
  refine zz (.ptr 0 0 (Int.toNat i5) 0) (aq_ixo ei35 rfl rfl rfl (by first | (simp only [Sh.put_len]; done) | (simp only [Sh.put_len]; omega) | omega) gc20) rfl ?_
  refine zq tb rfl (AO.weaken (Wk.expel (id := 0) (j := 1) (i := i5) (c := c20) (ys := c20.lent) (encY := eI) rfl gc20 rfl rfl rfl rfl rfl) (zz (ow 2 0 c20.lent) (aq_ldp ti26 rfl rfl (hole_get gc20) rfl) rfl (zq tb rfl (bs h1 fun q21 gq21 h1 => ?_))))
  refine ao_callsL (rowsP := [⟨0, 3, 1, List.map eI c20.lent⟩]) (rows0 := [⟨0, 3, 1, List.map eI c20.lent⟩]) (rows1 := [⟨0, 3, 1, List.map eI q21.2⟩]) (rows2 := []) (rows1' := [⟨0, 3, 1, List.map eI q21.2⟩]) (rows2' := []) (st' := [⟨0, 102, 5, hole lg901 (eRProcD 3 3 138 3 3) i5 [(.dv 3 1 (List.map eI c20.params)), (.own 2 0 (List.length c20.lent)), (i64 c20.result), (i64 c20.regs), (.dv 138 6 (List.map (eRInstrD 3 3) c20.code))]⟩, ⟨1, 3, 1, []⟩, ⟨0, 3, 1, List.map eI q21.2⟩]) (v' := (i64 q21.1)) [2] go0 hb17 (laws_markIntS_ok gq21) rfl (by decide) rfl rfl (.pure (pure_map fun _ => rfl) .nil) rfl rfl (.pure (pure_map fun _ => rfl) .nil) .nil rfl rfl (fun hln => ?_)
  have ln22 : List.length q21.2 = List.length c20.lent := by simpa only [List.length_map] using hln 0 _ _ rfl rfl rfl
  refine AO.weaken (Wk.take (id := 0) (m := 2) (j := 1) (i := i5) (c := c20) (ys := q21.2) (encY := eI) rfl gc20 rfl rfl (by first | (simp only [Sh.put_len]; done) | (simp only [Sh.put_len]; omega) | omega) (by decide) (show 1 ≤ 2 by decide) (fun _ => rfl) rfl rfl) ?_
  refine AO.weaken (Wk.filled (id := 0) (i := i5) (u := (RProc.mk c20.params q21.2 c20.result c20.regs c20.code)) rfl rfl rfl) ?_
  generalize hg902 : Sh.put lg901 i5 (RProc.mk c20.params q21.2 c20.result c20.regs c20.code) = lg902 at h1 ⊢
  have ln902 := congrArg List.length hg902
  simp only [Sh.put_len] at ln902
  refine zq tb rfl (dn hK19 rfl (sr rfl fun K23 hK23 => zm tb 3 rfl (bs h1 fun c24 gc24 h1 => ?_)))
  refine zz (.ptr 0 0 (Int.toNat i5) 0) (aq_ixo ei35 rfl rfl rfl (by first | (simp only [Sh.put_len]; done) | (simp only [Sh.put_len]; omega) | omega) gc24) rfl ?_
  refine zq tb rfl (ao_stl (u' := (RProc.mk c24.params c24.lent q21.1 c24.regs c24.code)) go0 ti3 rfl rfl gc24 rfl rfl rfl (show 2 + 1 ≤ 5 by decide) rfl rfl ?_)
  generalize hg903 : Sh.put lg902 i5 (RProc.mk c24.params c24.lent q21.1 c24.regs c24.code) = lg903 at h1 ⊢
  have ln903 := congrArg List.length hg903
  simp only [Sh.put_len] at ln903
  refine dn hK23 rfl (zr tb rfl rfl (sr rfl fun K26 hK26 => zm tb 3 rfl (bs h1 fun c27 gc27 h1 => ?_)))
  refine zz (.ptr 0 0 (Int.toNat i5) 0) (aq_ixo ei35 rfl rfl rfl (by first | (simp only [Sh.put_len]; done) | (simp only [Sh.put_len]; omega) | omega) gc27) rfl ?_
  refine zq tb rfl (ao_stl (u' := (RProc.mk c27.params c27.lent c27.result (Sh.w (q21.1 + 1)) c27.code)) go0 ti3 rfl rfl gc27 rfl rfl rfl (show 3 + 1 ≤ 5 by decide) rfl rfl ?_)
  generalize hg904 : Sh.put lg903 i5 (RProc.mk c27.params c27.lent c27.result (Sh.w (q21.1 + 1)) c27.code) = lg904 at h1 ⊢
  have ln904 := congrArg List.length hg904
  simp only [Sh.put_len] at ln904
  refine dn hK26 rfl (zr tb rfl rfl (AW.regionO rfl (zm tb 2 rfl (bs h1 fun c29 gc29 h1 => ?_))))
  refine zz (.ptr 0 0 (Int.toNat i5) 0) (aq_ixo ei35 rfl rfl rfl (by first | (simp only [Sh.put_len]; done) | (simp only [Sh.put_len]; omega) | omega) gc29) rfl ?_
  refine zq tb rfl (AO.weaken (Wk.expel (id := 0) (j := 4) (i := i5) (c := c29) (ys := c29.code) (encY := (eRInstrD 3 3)) rfl gc29 rfl rfl rfl rfl rfl) (zz (ow 3 0 c29.code) (aq_ldp ti100 rfl rfl (hole_get gc29) rfl) rfl (zq tb rfl (bs h1 fun q30 gq30 h1 => ?_))))
  refine ao_callsL (rowsP := [⟨0, 138, 6, List.map (eRInstrD 3 3) c29.code⟩]) (rows0 := [⟨0, 138, 6, List.map (eRInstrD 3 3) c29.code⟩]) (rows1 := [⟨0, 138, 6, List.map (eRInstrD 3 3) q30.2⟩]) (rows2 := []) (rows1' := [⟨0, 138, 6, List.map (eRInstrD 3 3) q30.2⟩]) (rows2' := []) (st' := [⟨0, 102, 5, hole lg904 (eRProcD 3 3 138 3 3) i5 [(.dv 3 1 (List.map eI c29.params)), (.dv 3 1 (List.map eI c29.lent)), (i64 c29.result), (i64 c29.regs), (.own 3 0 (List.length c29.code))]⟩, ⟨1, 3, 1, []⟩, ⟨1, 3, 1, []⟩, ⟨0, 138, 6, List.map (eRInstrD 3 3) q30.2⟩]) (v' := (i64 q30.1)) [3] go0 hb72 (laws_markInstrS_ok gq30) rfl (by decide) rfl rfl (.deep (pure_mapD fun _ => rfl) .nil) rfl rfl (.deep (pure_mapD fun _ => rfl) .nil) .nil rfl rfl (fun hln => ?_)
  have ln31 : List.length q30.2 = List.length c29.code := by simpa only [List.length_map] using hln 0 _ _ rfl rfl rfl
  refine AO.weaken (Wk.take (id := 0) (m := 3) (j := 4) (i := i5) (c := c29) (ys := q30.2) (encY := (eRInstrD 3 3)) rfl gc29 rfl rfl (by first | (simp only [Sh.put_len]; done) | (simp only [Sh.put_len]; omega) | omega) (by decide) (show 1 ≤ 3 by decide) (fun _ => rfl) rfl rfl) ?_
  refine AO.weaken (Wk.filled (id := 0) (i := i5) (u := (RProc.mk c29.params c29.lent c29.result c29.regs q30.2)) rfl rfl rfl) ?_
  generalize hg905 : Sh.put lg904 i5 (RProc.mk c29.params c29.lent c29.result c29.regs q30.2) = lg905 at h1 ⊢
  have ln905 := congrArg List.length hg905
  simp only [Sh.put_len] at ln905
  refine zq tb rfl (dn hK14 rfl (AW.regionO rfl (zm tb 3 rfl ?_)))
  exact AO.done (xi (q30.1, Sh.w (i5 + 1), lg905) h1 (by refine Wk.trans (Wk.permk (L := [(0, (.own 0 0 (List.length l6))), (1, (i64 q30.1)), (5, (i64 (Sh.w (i5 + 1))))]) (st' := [⟨0, 102, 5, List.map (eRProcD 3 3 138 3 3) lg905⟩]) (st1 := [⟨0, 102, 5, List.map (eRProcD 3 3 138 3 3) lg905⟩]) [0] rfl (.deep (pure_mapD fun _ => rfl) .nil) (by decide) rfl rfl (.deep (pure_mapD fun _ => rfl) .nil) ⟨.rfl, .rfl, .rfl, trivial⟩) ?_; exact Wk.to (L := [(0, (.own 0 0 (List.length lg905))), (1, (i64 q30.1)), (5, (i64 (Sh.w (i5 + 1))))]) ⟨(.len (by first | (simp only [Sh.put_len]; done) | (simp only [Sh.put_len]; omega) | omega)), .rfl, .rfl, trivial⟩))
 ·intro b13 h1
  exact AW.exit (M9 k4 l6 (Sh.some_eq h1).symm _ (Wk.tr rfl))
end Go.Proofs.YtgcghdgbahfcjaaGreat

