import Derived.Test.YtobjlimoekffaaaProg
import Derived.Test.YtobjlimoekffaaaGEncCToLRDefs
import Derived.Test.YtobjlimoekffaaaLRWalkP1
namespace Go.Proofs.Ytobjlimoekffaaa
open Go Go.Abs RC
attribute [local irreducible] Go.Abs.dops
set_option maxRecDepth 100000
set_option maxHeartbeats 4000000

theorem ei87 : einfo Try.prog 87 = some ⟨88, 1, 24, [.sl []]⟩ := by kernel_rfl
theorem hb10 : hasBody Try.prog 10 = true := by kernel_rfl
theorem hb11 : hasBody Try.prog 11 = true := by kernel_rfl
theorem hb12 : hasBody Try.prog 12 = true := by kernel_rfl
theorem hb21 : hasBody Try.prog 21 = true := by kernel_rfl
theorem hb22 : hasBody Try.prog 22 = true := by kernel_rfl
theorem hb23 : hasBody Try.prog 23 = true := by kernel_rfl
theorem hb24 : hasBody Try.prog 24 = true := by kernel_rfl
theorem hb25 : hasBody Try.prog 25 = true := by kernel_rfl
theorem hb26 : hasBody Try.prog 26 = true := by kernel_rfl
theorem hb4 : hasBody Try.prog 4 = true := by kernel_rfl
theorem hb41 : hasBody Try.prog 41 = true := by kernel_rfl
theorem hb43 : hasBody Try.prog 43 = true := by kernel_rfl
theorem hb44 : hasBody Try.prog 44 = true := by kernel_rfl
theorem hb45 : hasBody Try.prog 45 = true := by kernel_rfl
theorem hb46 : hasBody Try.prog 46 = true := by kernel_rfl
theorem hb47 : hasBody Try.prog 47 = true := by kernel_rfl
theorem hb5 : hasBody Try.prog 5 = true := by kernel_rfl
theorem hb6 : hasBody Try.prog 6 = true := by kernel_rfl
theorem hb66 : hasBody Try.prog 66 = true := by kernel_rfl
theorem hb67 : hasBody Try.prog 67 = true := by kernel_rfl
theorem hb7 : hasBody Try.prog 7 = true := by kernel_rfl
theorem hb8 : hasBody Try.prog 8 = true := by kernel_rfl
theorem hb85 : hasBody Try.prog 85 = true := by kernel_rfl
theorem hb86 : hasBody Try.prog 86 = true := by kernel_rfl
theorem hb9 : hasBody Try.prog 9 = true := by kernel_rfl
theorem ti4 : tinfo Try.prog 4 = some (false, 1) := by kernel_rfl
theorem ti88 : tinfo Try.prog 88 = some (false, 1) := by kernel_rfl

theorem impl_liveRegs_ok {N : Nat} {p0 : RImage} {p1 : Int} {p2 : Int} {r : (List Int)} (h0 : impl_liveRegs N p0 p1 p2 = some r) : ACalls Try.prog 22 [(.agg (eRImage p0)), (i64 p1), (i64 p2)] [] (fun v st => v = (ow 0 0 r) ∧ st = [(ro 0 3 1 eI r)]) := by
 unfold impl_liveRegs at h0
 refine ai Try.func22 rfl rfl rfl rfl (sr rfl fun K1 hK1 => ao_box (m := 0) (st' := [⟨0, 32, 2, [(eRImage p0)]⟩]) go0 rfl rfl rfl rfl rfl (zq tb rfl (dn hK1 rfl (sr rfl fun K2 hK2 => zm tb 3 rfl (bs h0 fun c3 gc3 h0 => zx ei30 gc3 rfl rfl rfl (zq tb rfl (ao_alloc (m := 1) (st' := [⟨0, 32, 2, [(eRImage p0)]⟩, ⟨0, 45, 5, [[.zc, .zc, (i64 0), (i64 0), .zc]]⟩]) go0 zi45 rfl rfl (ao_str (st' := [⟨0, 32, 2, [(eRImage p0)]⟩, ⟨0, 45, 5, [(eRProc c3)]⟩]) go0 ti45 rfl rfl rfl rfl rfl rfl (show 0 + 5 ≤ 5 by decide) rfl ?_))))))))
 refine dn hK2 rfl (sr rfl fun K4 hK4 => zm tb 2 rfl (zl tb rfl rfl (bs h0 fun l5 gl5 h0 => ao_make (m := 2) (st' := [⟨0, 32, 2, [(eRImage p0)]⟩, ⟨0, 45, 5, [(eRProc c3)]⟩, (ro 0 88 1 (eS eB) l5)]) (enc := (eS eB)) (u := []) go0 ei87 rfl rfl rfl gl5 rfl rfl (zq tb rfl (dn hK4 rfl (AW.seq fun K6 hK6 => sr rfl fun K7 hK7 => zm tb 2 rfl (zl tb rfl rfl ?_)))))))
 refine zm tb 2 rfl (dn hK7 rfl (bs h0 fun o11 h1 h0 => ?_))
 have M11 : ∀ (l10 : (List (List Bool))), o11 = l10 → ∀ s, Wk 0 s ⟨119, envL [(2, (i64 p2)), (8, (ow 0 0 l10))], [(ro 0 88 1 (eS eB) l10)]⟩ → K6 s := by
  intro l10 hq s hw
  subst o11
  try dsimp only at h0
  refine hK6 _ (AW.weaken hw (sr rfl fun K12 hK12 => zm tb 2 rfl (bs h0 fun c13 gc13 h0 => zz (.ptr 0 0 (Int.toNat p2) 0) (aq_ixo ei87 rfl rfl rfl rfl gc13) rfl (zz (ls eB c13) (aq_ldp ti88 rfl rfl (map_get gc13) rfl) rfl (bs h0 fun q14 gq14 h0 => ao_call (v' := (ow 1 0 q14)) (st' := [(ro 0 88 1 (eS eB) l10), (ro 0 3 1 eI q14)]) go0 hb43 (impl_indicesOf_ok gq14) rfl rfl ⟨(pure_map' fun _ => rfl), trivial⟩ rfl rfl (zq tb rfl (dn hK12 rfl ?_)))))))
  replace h0 := Sh.some_eq h0
  subst r
  exact AW.ret (xr (Wk.permk (L := [(6, (ow 0 0 q14))]) (st' := [(ro 0 3 1 eI q14)]) (st1 := [(ro 0 3 1 eI q14)]) [1] rfl .nil (by decide) rfl rfl (.pure (pure_map fun _ => rfl) .nil) ⟨.rfl, trivial⟩))
 refine AW.block (AW.loopF (σ := Int × (List (List Bool))) (fun n v => impl_liveRegs_L1 N c3 p2 n v.1 v.2 = some o11) (fun (k8, l9) => ⟨119, envL [(2, (i64 p2)), (7, (.ptr 0 0 0 0)), (8, (ow 1 0 l9)), (9, (i64 k8))], [⟨0, 45, 5, [(eRProc c3)]⟩, (ro 0 88 1 (eS eB) l9)]⟩) N (Sh.w ((Sh.len c3.code) - 1), l5) h1 (Wk.permk (L := [(2, (i64 p2)), (7, (.ptr 0 0 0 0)), (8, (ow 1 0 l5)), (9, (i64 (Sh.w ((Sh.len c3.code) - 1))))]) (st' := [⟨0, 45, 5, [(eRProc c3)]⟩, (ro 0 88 1 (eS eB) l5)]) (st1 := [⟨0, 45, 5, [(eRProc c3)]⟩, (ro 0 88 1 (eS eB) l5)]) [1, 2] rfl .nil (by decide) rfl rfl (.raw rfl rfl (.pure (pure_map fun _ => rfl) .nil)) ⟨.rfl, .rfl, .rfl, .rfl, trivial⟩) (fun _ hv => by rw [impl_liveRegs_L1] at hv; cases hv) ?_)
 rintro n ⟨k8, l9⟩ h1
 try dsimp only at h1 ⊢
 rw [impl_liveRegs_L1] at h1
 refine AW.seq fun K15 hK15 => zr tb rfl rfl ?_
 refine ci h1 rfl ?_ ?_ <;> clear h1
 ·intro b17 h1
  refine AW.skip (hK15 _ (AW.seq fun K18 hK18 => bs h1 fun o20 h2 h1 => ?_))
  have M20 : ∀ (l19 : (List Bool)), o20 = l19 → ∀ s, Wk 0 s ⟨119, envL [(2, (i64 p2)), (7, (.ptr 0 0 0 0)), (8, (ow 1 0 l9)), (9, (i64 k8))], [⟨0, 45, 5, [(eRProc c3)]⟩, ⟨0, 88, 1, hole l9 (eS eB) k8 [(ow 2 0 l19)]⟩, (ro 0 4 1 eB l19)]⟩ → K18 s := by
   intro l19 hq s hw
   subst o20
   try dsimp only at h1
   refine hK18 _ (AW.weaken hw (bs h1 fun c21 gc21 h1 => AW.regionO rfl (zm tb 3 rfl ?_)))
   exact AO.done (xi (Sh.w (k8 - 1), Sh.put l9 k8 l19) h1 (by refine Wk.trans (Wk.frzIn (id := 1) (m := 2) (i := k8) (c := c21) (ys := l19) (encY := eB) (u := l19) (st' := [⟨0, 45, 5, [(eRProc c3)]⟩, ⟨0, 88, 1, List.map (eS eB) (Sh.put l9 k8 l19)⟩, ⟨1, 4, 1, []⟩]) rfl gc21 rfl rfl (by decide) (show 0 ≤ 2 by decide) (pure_map fun _ => rfl) rfl rfl) ?_; refine Wk.trans (Wk.permk (L := [(2, (i64 p2)), (7, (.ptr 0 0 0 0)), (8, (.own 1 0 (List.length l9))), (9, (i64 (Sh.w (k8 - 1))))]) (st' := [⟨0, 45, 5, [(eRProc c3)]⟩, ⟨0, 88, 1, List.map (eS eB) (Sh.put l9 k8 l19)⟩]) (st1 := [⟨0, 45, 5, [(eRProc c3)]⟩, ⟨0, 88, 1, List.map (eS eB) (Sh.put l9 k8 l19)⟩]) [0, 1] rfl .nil (by decide) rfl rfl (.raw rfl rfl (.pure (pure_map fun _ => rfl) .nil)) ⟨.rfl, .rfl, .rfl, .rfl, trivial⟩) ?_; exact Wk.to (L := [(2, (i64 p2)), (7, (.ptr 0 0 0 0)), (8, (.own 1 0 (List.length (Sh.put l9 k8 l19)))), (9, (i64 (Sh.w (k8 - 1))))]) ⟨.rfl, .rfl, (.len (by simp only [Sh.put_len])), .rfl, trivial⟩))
  refine AW.block (sr rfl fun K22 hK22 => zm tb 3 rfl (bs h2 fun c23 gc23 h2 => zx ei43 gc23 rfl rfl rfl (zq tb rfl (ao_alloc (m := 2) (st' := [⟨0, 45, 5, [(eRProc c3)]⟩, (ro 0 88 1 (eS eB) l9), ⟨0, 73, 6, [[(i64 0), (i64 0), (i64 0), (i64 0), .zc, .zc]]⟩]) go0 zi73 rfl rfl (ao_str (st' := [⟨0, 45, 5, [(eRProc c3)]⟩, (ro 0 88 1 (eS eB) l9), ⟨0, 73, 6, [(eRInstr c23)]⟩]) go0 ti73 rfl rfl rfl rfl rfl rfl (show 0 + 6 ≤ 6 by decide) rfl (dn hK22 rfl (sr rfl fun K24 hK24 => zm tb 4 rfl (bs h2 fun l25 gl25 h2 => ?_))))))))
  refine ao_make (m := 3) (st' := [⟨0, 45, 5, [(eRProc c3)]⟩, (ro 0 88 1 (eS eB) l9), ⟨0, 73, 6, [(eRInstr c23)]⟩, (ro 0 4 1 eB l25)]) (enc := eB) (u := false) go0 ei88 rfl rfl rfl gl25 rfl rfl (bs h2 fun c26 gc26 h2 => zz (.ptr 1 0 (Int.toNat k8) 0) (aq_ixo ei87 rfl rfl rfl rfl gc26) rfl (ao_sth (st' := [⟨0, 45, 5, [(eRProc c3)]⟩, ⟨0, 88, 1, hole l9 (eS eB) k8 [(ow 3 0 l25)]⟩, ⟨0, 73, 6, [(eRInstr c23)]⟩, (ro 0 4 1 eB l25)]) go0 ti88 rfl rfl gc26 rfl rfl rfl (show 1 ≤ 1 by decide) rfl rfl (dn hK24 rfl (AW.seq fun K27 hK27 => sr rfl fun K28 hK28 => zm tb 2 rfl (bs h2 fun q29 gq29 h2 => zc hb41 (impl_Instr_nexts_ok gq29) rfl rfl rfl (zl tb rfl rfl (zq tb rfl ?_)))))))
  refine dn hK28 rfl (bs h2 fun o33 h3 h2 => ?_)
  have M33 : ∀ (l32 : (List Bool)), o33 = l32 → ∀ s, Wk 0 s ⟨119, envL [(2, (i64 p2)), (7, (.ptr 0 0 0 0)), (8, (ow 1 0 l9)), (9, (i64 k8)), (10, (.ptr 2 0 0 0))], [⟨0, 45, 5, [(eRProc c3)]⟩, ⟨0, 88, 1, hole l9 (eS eB) k8 [(ow 3 0 l32)]⟩, ⟨0, 73, 6, [(eRInstr c23)]⟩, (ro 0 4 1 eB l32)]⟩ → K27 s := by
   intro l32 hq s hw
   subst o33
   try dsimp only at h2
   refine hK27 _ (AW.weaken hw (AW.seq fun K34 hK34 => bs h2 fun o36 h3 h2 => ?_))
   have M36 : ∀ (l35 : (List Bool)), o36 = l35 → ∀ s, Wk 0 s ⟨119, envL [(2, (i64 p2)), (7, (.ptr 0 0 0 0)), (8, (ow 1 0 l9)), (9, (i64 k8)), (10, (.ptr 2 0 0 0))], [⟨0, 45, 5, [(eRProc c3)]⟩, ⟨0, 88, 1, hole l9 (eS eB) k8 [(ow 3 0 l35)]⟩, ⟨0, 73, 6, [(eRInstr c23)]⟩, (ro 0 4 1 eB l35)]⟩ → K34 s := by
    intro l35 hq s hw
    subst o36
    try dsimp only at h2
    refine hK34 _ (AW.weaken hw (AW.seq fun K37 hK37 => bs h2 fun o39 h3 h2 => ?_))
    have M39 : ∀ (t38 : Bool), o39 = t38 → ∀ s, Wk 0 s ⟨119, envL [(2, (i64 p2)), (7, (.ptr 0 0 0 0)), (8, (ow 1 0 l9)), (9, (i64 k8)), (10, (.ptr 2 0 0 0)), (99, (.bool t38))], [⟨0, 45, 5, [(eRProc c3)]⟩, ⟨0, 88, 1, hole l9 (eS eB) k8 [(ow 3 0 l35)]⟩, ⟨0, 73, 6, [(eRInstr c23)]⟩, (ro 0 4 1 eB l35)]⟩ → K37 s := by
     intro t38 hq s hw
     subst o39
     try dsimp only at h2
     refine hK37 _ (AW.weaken hw ?_)
     refine ci h2 rfl ?_ ?_ <;> clear h2
     ·intro b40 h2
      refine sr rfl fun K41 hK41 => zm tb 2 rfl (zl tb rfl rfl (zq tb rfl (dn hK41 rfl (AW.fin fun K42 hK42 => bs h2 fun o46 h3 h2 => ?_))))
      have M46 : ∀ (l45 : (List Bool)), o46 = l45 → ∀ s, Wk 0 s ⟨119, envL [(2, (i64 p2)), (7, (.ptr 0 0 0 0)), (8, (ow 1 0 l9)), (9, (i64 k8))], [⟨0, 45, 5, [(eRProc c3)]⟩, ⟨0, 88, 1, hole l9 (eS eB) k8 [(ow 2 0 l45)]⟩, (ro 0 4 1 eB l45)]⟩ → K42 s := by
       intro l45 hq s hw
       subst o46
       try dsimp only at h2
       exact hK42 _ (M20 l45 (Sh.some_eq h2).symm _ (hw.trans (Wk.to (L := [(2, (i64 p2)), (7, (.ptr 0 0 0 0)), (8, (ow 1 0 l9)), (9, (i64 k8))]) ⟨.rfl, .rfl, .rfl, .rfl, trivial⟩)))
      refine AW.block (AW.loopF (σ := Int × (List Bool)) (fun n v => impl_liveRegs_L3 c23 n v.1 v.2 = some o46) (fun (t43, l44) => ⟨119, envL [(2, (i64 p2)), (7, (.ptr 0 0 0 0)), (8, (ow 1 0 l9)), (9, (i64 k8)), (101, (ls eI c23.args)), (102, (i64 (Sh.len c23.args))), (103, (i64 t43))], [⟨0, 45, 5, [(eRProc c3)]⟩, ⟨0, 88, 1, hole l9 (eS eB) k8 [(ow 2 0 l44)]⟩, (ro 0 4 1 eB l44)]⟩) N (0, l35) h3 (Wk.permk (L := [(2, (i64 p2)), (7, (.ptr 0 0 0 0)), (8, (ow 1 0 l9)), (9, (i64 k8)), (101, (ls eI c23.args)), (102, (i64 (Sh.len c23.args))), (103, (i64 0))]) (st' := [⟨0, 45, 5, [(eRProc c3)]⟩, ⟨0, 88, 1, hole l9 (eS eB) k8 [(ow 2 0 l35)]⟩, (ro 0 4 1 eB l35)]) (st1 := [⟨0, 45, 5, [(eRProc c3)]⟩, ⟨0, 88, 1, hole l9 (eS eB) k8 [(ow 3 0 l35)]⟩, (ro 0 4 1 eB l35)]) [0, 1, 3] rfl .nil (by decide) rfl rfl (.raw rfl rfl (.hol (pure_map' fun _ => rfl) (kept_map fun _ => rfl) rfl rfl (.pure (pure_map fun _ => rfl) .nil))) ⟨.rfl, .rfl, .rfl, .rfl, .rfl, .rfl, .rfl, trivial⟩) (fun _ hv => by rw [impl_liveRegs_L3] at hv; cases hv) ?_)
      rintro n ⟨t43, l44⟩ h3
      try dsimp only at h3 ⊢
      rw [impl_liveRegs_L3] at h3
      refine zr tb rfl rfl (AW.seq fun K48 hK48 => ?_)
      refine ci h3 rfl ?_ ?_ <;> clear h3
      ·intro b49 h3
       refine AW.skip (hK48 _ (AW.seq fun K50 hK50 => AW.block (sr rfl fun K51 hK51 => bs h3 fun c52 gc52 h3 => zx ei27 gc52 rfl rfl rfl (zm tb 2 rfl (dn hK51 rfl (AW.regionO rfl (zm tb 2 rfl (zz (.ptr 1 0 (Int.toNat k8) 0) (aq_ixh ei87 rfl rfl rfl rfl gc26) rfl (zz (ow 2 0 l44) (aq_ldp ti88 rfl rfl (hole_get gc26) rfl) rfl ?_)))))))))
       refine zq tb rfl (bs h3 fun c53 gc53 h3 => zz (.ptr 2 0 (Int.toNat c52) 0) (aq_ixo ei88 rfl rfl rfl rfl gc53) rfl (ao_stl (st' := [⟨0, 45, 5, [(eRProc c3)]⟩, ⟨0, 88, 1, hole l9 (eS eB) k8 [(ow 2 0 l44)]⟩, (ro 0 4 1 eB (Sh.put l44 c52 true))]) (u' := true) go0 ti4 rfl rfl gc53 rfl rfl rfl (show 0 + 1 ≤ 1 by decide) rfl rfl (dn hK50 rfl (AW.regionO rfl (zm tb 2 rfl ?_)))))
       exact AO.done (xi (Sh.w (t43 + 1), Sh.put l44 c52 true) h3 (by refine Wk.trans (Wk.steq (st := [⟨0, 45, 5, [(eRProc c3)]⟩, ⟨0, 88, 1, hole l9 (eS eB) k8 [(.own 2 0 (List.length l44))]⟩, ⟨0, 4, 1, List.map eB (Sh.put l44 c52 true)⟩]) (st' := [⟨0, 45, 5, [(eRProc c3)]⟩, ⟨0, 88, 1, hole l9 (eS eB) k8 [(.own 2 0 (List.length (Sh.put l44 c52 true)))]⟩, ⟨0, 4, 1, List.map eB (Sh.put l44 c52 true)⟩]) (by simp only [Sh.put_len])) ?_; exact Wk.tr rfl))
      ·intro b49 h3
       exact AW.exit (M46 l44 (Sh.some_eq h3).symm _ (Wk.tr rfl))
     ·intro b40 h2
      exact AW.skip (M20 l35 (Sh.some_eq h2).symm _ (Wk.permk (L := [(2, (i64 p2)), (7, (.ptr 0 0 0 0)), (8, (ow 1 0 l9)), (9, (i64 k8))]) (st' := [⟨0, 45, 5, [(eRProc c3)]⟩, ⟨0, 88, 1, hole l9 (eS eB) k8 [(ow 2 0 l35)]⟩, (ro 0 4 1 eB l35)]) (st1 := [⟨0, 45, 5, [(eRProc c3)]⟩, ⟨0, 88, 1, hole l9 (eS eB) k8 [(ow 3 0 l35)]⟩, (ro 0 4 1 eB l35)]) [0, 1, 3] rfl .nil (by decide) rfl rfl (.raw rfl rfl (.hol (pure_map' fun _ => rfl) (kept_map fun _ => rfl) rfl rfl (.pure (pure_map fun _ => rfl) .nil))) ⟨.rfl, .rfl, .rfl, .rfl, trivial⟩))
    refine AW.regionO rfl (zm tb 4 rfl ?_)
    rcases Sh.ite_some h3 with ⟨b54, h3⟩ | ⟨b54, h3⟩
    ·exact zg tb b54 rfl (zg tb b54 rfl (zg tb b54 rfl (zt b54 rfl (AO.done (M39 (!decide (c23.op = 15)) (Sh.some_eq h3).symm _ (Wk.tr rfl))))))
    ·exact zs b54 rfl (zs b54 rfl (zs b54 rfl (zf b54 rfl (AO.done (M39 false (Sh.some_eq h3).symm _ (Wk.tr rfl))))))
   refine sr rfl fun K55 hK55 => zm tb 2 rfl (bs h3 fun q56 gq56 h3 => zc hb42 (impl_setsRegister_ok gq56) rfl rfl rfl (dn hK55 rfl ?_))
   refine ci h3 rfl ?_ ?_ <;> clear h3
   ·intro b57 h3
    refine AW.drawTailO 7 (by kernel_rfl) (by kernel_rfl) (by rfl) ?_
    iterate 2 refine yq tb rfl ?_
    refine yz (.ptr 1 0 (Int.toNat k8) 0) (aq_ixh ei87 rfl rfl rfl rfl gc26) rfl (yz (ow 3 0 l32) (aq_ldp ti88 rfl rfl (hole_get gc26) rfl) rfl ?_)
    iterate 2 refine yq tb rfl ?_
    refine bs h3 fun c58 gc58 h3 => yz (.ptr 3 0 (Int.toNat c23.dst) 0) (aq_ixo ei88 rfl rfl rfl rfl gc58) rfl (d_done (ao_stl (st' := [⟨0, 45, 5, [(eRProc c3)]⟩, ⟨0, 88, 1, hole l9 (eS eB) k8 [(ow 3 0 l32)]⟩, ⟨0, 73, 6, [(eRInstr c23)]⟩, (ro 0 4 1 eB (Sh.put l32 c23.dst false))]) (u' := false) go0 ti4 rfl rfl gc58 rfl rfl rfl (show 0 + 1 ≤ 1 by decide) rfl rfl ?_))
    exact AO.done (M36 (Sh.put l32 c23.dst false) (Sh.some_eq h3).symm _ (by refine Wk.trans (Wk.steq (st := [⟨0, 45, 5, [(eRProc c3)]⟩, ⟨0, 88, 1, hole l9 (eS eB) k8 [(.own 3 0 (List.length l32))]⟩, ⟨0, 73, 6, [(eRInstr c23)]⟩, ⟨0, 4, 1, List.map eB (Sh.put l32 c23.dst false)⟩]) (st' := [⟨0, 45, 5, [(eRProc c3)]⟩, ⟨0, 88, 1, hole l9 (eS eB) k8 [(.own 3 0 (List.length (Sh.put l32 c23.dst false)))]⟩, ⟨0, 73, 6, [(eRInstr c23)]⟩, ⟨0, 4, 1, List.map eB (Sh.put l32 c23.dst false)⟩]) (by simp only [Sh.put_len])) ?_; exact Wk.tr rfl))
   ·intro b57 h3
    exact AW.skip (M36 l32 (Sh.some_eq h3).symm _ (Wk.tr rfl))
  refine AW.block (AW.loopF (σ := Int × (List Bool)) (fun n v => impl_liveRegs_L2 N k8 l9 q29 n v.1 v.2 = some o33) (fun (t30, l31) => ⟨119, envL [(2, (i64 p2)), (7, (.ptr 0 0 0 0)), (8, (ow 1 0 l9)), (9, (i64 k8)), (10, (.ptr 2 0 0 0)), (48, (ls eI q29)), (49, (i64 (Sh.len q29))), (50, (i64 t30))], [⟨0, 45, 5, [(eRProc c3)]⟩, ⟨0, 88, 1, hole l9 (eS eB) k8 [(ow 3 0 l31)]⟩, ⟨0, 73, 6, [(eRInstr c23)]⟩, (ro 0 4 1 eB l31)]⟩) N (0, l25) h3 (Wk.tr rfl) (fun _ hv => by rw [impl_liveRegs_L2] at hv; cases hv) ?_)
  rintro n ⟨t30, l31⟩ h3
  try dsimp only at h3 ⊢
  rw [impl_liveRegs_L2] at h3
  refine zr tb rfl rfl (AW.seq fun K60 hK60 => ?_)
  refine ci h3 rfl ?_ ?_ <;> clear h3
  ·intro b61 h3
   refine AW.skip (hK60 _ (AW.seq fun K62 hK62 => AW.block (sr rfl fun K63 hK63 => bs h3 fun c64 gc64 h3 => zx ei27 gc64 rfl rfl rfl (zm tb 2 rfl (dn hK63 rfl (sr rfl fun K65 hK65 => zm tb 2 rfl (bs h3 fun c66 gc66 h3 => zz (.ptr 1 0 (Int.toNat c64) 0) (aq_ixh ei87 rfl rfl rfl rfl gc66) rfl ?_)))))))
   refine bs h3 fun u67 gu67 h3 => zz (ls eB c66) (aq_ldp ti88 rfl rfl (hole_ne gc26 gu67 gc66) rfl) rfl (zl tb rfl rfl (zq tb rfl (dn hK65 rfl (bs h3 fun o71 h4 h3 => ?_))))
   have M71 : ∀ (l70 : (List Bool)), o71 = l70 → ∀ s, Wk 0 s ⟨119, envL [(2, (i64 p2)), (7, (.ptr 0 0 0 0)), (8, (ow 1 0 l9)), (9, (i64 k8)), (10, (.ptr 2 0 0 0)), (48, (ls eI q29)), (49, (i64 (Sh.len q29))), (50, (i64 t30))], [⟨0, 45, 5, [(eRProc c3)]⟩, ⟨0, 88, 1, hole l9 (eS eB) k8 [(ow 3 0 l70)]⟩, ⟨0, 73, 6, [(eRInstr c23)]⟩, (ro 0 4 1 eB l70)]⟩ → K62 s := by
    intro l70 hq s hw
    subst o71
    try dsimp only at h3
    exact hK62 _ (AW.weaken hw (AW.regionO rfl (zm tb 2 rfl (AO.done (xi (Sh.w (t30 + 1), l70) h3 (Wk.tr rfl))))))
   refine AW.block (AW.loopF (σ := Int × (List Bool)) (fun n v => impl_liveRegs_L4 c66 n v.1 v.2 = some o71) (fun (t68, l69) => ⟨119, envL [(2, (i64 p2)), (7, (.ptr 0 0 0 0)), (8, (ow 1 0 l9)), (9, (i64 k8)), (10, (.ptr 2 0 0 0)), (48, (ls eI q29)), (49, (i64 (Sh.len q29))), (50, (i64 t30)), (57, (ls eB c66)), (58, (i64 (Sh.len c66))), (59, (i64 t68))], [⟨0, 45, 5, [(eRProc c3)]⟩, ⟨0, 88, 1, hole l9 (eS eB) k8 [(ow 3 0 l69)]⟩, ⟨0, 73, 6, [(eRInstr c23)]⟩, (ro 0 4 1 eB l69)]⟩) N (0, l31) h4 (Wk.tr rfl) (fun _ hv => by rw [impl_liveRegs_L4] at hv; cases hv) ?_)
   rintro n ⟨t68, l69⟩ h4
   try dsimp only at h4 ⊢
   rw [impl_liveRegs_L4] at h4
   refine zr tb rfl rfl (AW.seq fun K73 hK73 => ?_)
   refine ci h4 rfl ?_ ?_ <;> clear h4
   ·intro b74 h4
    refine AW.skip (hK73 _ (AW.seq fun K75 hK75 => bs h4 fun o77 h5 h4 => ?_))
    have M77 : ∀ (l76 : (List Bool)), o77 = l76 → ∀ s, Wk 0 s ⟨119, envL [(2, (i64 p2)), (7, (.ptr 0 0 0 0)), (8, (ow 1 0 l9)), (9, (i64 k8)), (10, (.ptr 2 0 0 0)), (48, (ls eI q29)), (49, (i64 (Sh.len q29))), (50, (i64 t30)), (57, (ls eB c66)), (58, (i64 (Sh.len c66))), (59, (i64 t68))], [⟨0, 45, 5, [(eRProc c3)]⟩, ⟨0, 88, 1, hole l9 (eS eB) k8 [(ow 3 0 l76)]⟩, ⟨0, 73, 6, [(eRInstr c23)]⟩, (ro 0 4 1 eB l76)]⟩ → K75 s := by
     intro l76 hq s hw
     subst o77
     try dsimp only at h4
     exact hK75 _ (AW.weaken hw (AW.regionO rfl (zm tb 2 rfl (AO.done (xi (Sh.w (t68 + 1), l76) h4 (Wk.tr rfl))))))
    refine AW.block (sr rfl fun K78 hK78 => zq tb rfl (bs h5 fun c79 gc79 h5 => zx ei88 gc79 rfl rfl rfl (zm tb 3 rfl (dn hK78 rfl ?_))))
    refine AW.drawTailO 16 (by kernel_rfl) (by kernel_rfl) (by rfl) ?_
    iterate 2 refine yq tb rfl ?_
    refine yz (.ptr 1 0 (Int.toNat k8) 0) (aq_ixh ei87 rfl rfl rfl rfl gc26) rfl (yz (ow 3 0 l69) (aq_ldp ti88 rfl rfl (hole_get gc26) rfl) rfl ?_)
    iterate 3 refine yq tb rfl ?_
    refine yz (.ptr 1 0 (Int.toNat k8) 0) (aq_ixh ei87 rfl rfl rfl rfl gc26) rfl (yz (ow 3 0 l69) (aq_ldp ti88 rfl rfl (hole_get gc26) rfl) rfl (yq tb rfl (bs h5 fun c80 gc80 h5 => yz (.ptr 3 0 (Int.toNat t68) 0) (aq_ixo ei88 rfl rfl rfl rfl gc80) rfl (yz (.bool c80) (aq_ldp ti4 rfl rfl (map_get gc80) rfl) rfl (yq tb rfl ?_)))))
    rcases Sh.ite_some h5 with ⟨b81, h5⟩ | ⟨b81, h5⟩
    ·refine ys b81 rfl (yt b81 rfl (yz (.ptr 3 0 (Int.toNat t68) 0) (aq_ixo ei88 rfl rfl rfl rfl gc80) rfl (d_done (ao_stl (st' := [⟨0, 45, 5, [(eRProc c3)]⟩, ⟨0, 88, 1, hole l9 (eS eB) k8 [(ow 3 0 l69)]⟩, ⟨0, 73, 6, [(eRInstr c23)]⟩, (ro 0 4 1 eB (Sh.put l69 t68 true))]) (u' := true) go0 ti4 rfl rfl gc80 rfl rfl rfl (show 0 + 1 ≤ 1 by decide) rfl rfl ?_))))
     exact AO.done (M77 (Sh.put l69 t68 true) (Sh.some_eq h5).symm _ (by refine Wk.trans (Wk.steq (st := [⟨0, 45, 5, [(eRProc c3)]⟩, ⟨0, 88, 1, hole l9 (eS eB) k8 [(.own 3 0 (List.length l69))]⟩, ⟨0, 73, 6, [(eRInstr c23)]⟩, ⟨0, 4, 1, List.map eB (Sh.put l69 t68 true)⟩]) (st' := [⟨0, 45, 5, [(eRProc c3)]⟩, ⟨0, 88, 1, hole l9 (eS eB) k8 [(.own 3 0 (List.length (Sh.put l69 t68 true)))]⟩, ⟨0, 73, 6, [(eRInstr c23)]⟩, ⟨0, 4, 1, List.map eB (Sh.put l69 t68 true)⟩]) (by simp only [Sh.put_len])) ?_; exact Wk.tr rfl))
    ·refine yg tb b81 rfl (yf b81 rfl (yz (.ptr 3 0 (Int.toNat t68) 0) (aq_ixo ei88 rfl rfl rfl rfl gc80) rfl (d_done (ao_stl (st' := [⟨0, 45, 5, [(eRProc c3)]⟩, ⟨0, 88, 1, hole l9 (eS eB) k8 [(ow 3 0 l69)]⟩, ⟨0, 73, 6, [(eRInstr c23)]⟩, (ro 0 4 1 eB (Sh.put l69 t68 c79))]) (u' := c79) go0 ti4 rfl rfl gc80 rfl rfl rfl (show 0 + 1 ≤ 1 by decide) rfl rfl ?_))))
     exact AO.done (M77 (Sh.put l69 t68 c79) (Sh.some_eq h5).symm _ (by refine Wk.trans (Wk.steq (st := [⟨0, 45, 5, [(eRProc c3)]⟩, ⟨0, 88, 1, hole l9 (eS eB) k8 [(.own 3 0 (List.length l69))]⟩, ⟨0, 73, 6, [(eRInstr c23)]⟩, ⟨0, 4, 1, List.map eB (Sh.put l69 t68 c79)⟩]) (st' := [⟨0, 45, 5, [(eRProc c3)]⟩, ⟨0, 88, 1, hole l9 (eS eB) k8 [(.own 3 0 (List.length (Sh.put l69 t68 c79)))]⟩, ⟨0, 73, 6, [(eRInstr c23)]⟩, ⟨0, 4, 1, List.map eB (Sh.put l69 t68 c79)⟩]) (by simp only [Sh.put_len])) ?_; exact Wk.tr rfl))
   ·intro b74 h4
    exact AW.exit (M71 l69 (Sh.some_eq h4).symm _ (Wk.tr rfl))
  ·intro b61 h3
   exact AW.exit (M33 l31 (Sh.some_eq h3).symm _ (Wk.tr rfl))
 ·intro b17 h1
  exact AW.exit (M11 l9 (Sh.some_eq h1).symm _ (Wk.permk (L := [(2, (i64 p2)), (8, (ow 0 0 l9))]) (st' := [(ro 0 88 1 (eS eB) l9)]) (st1 := [(ro 0 88 1 (eS eB) l9)]) [1] rfl .nil (by decide) rfl rfl (.pure (pure_map fun _ => rfl) .nil) ⟨.rfl, .rfl, trivial⟩))
theorem impl_LiveRegs_ok {N : Nat} {p0 : RImage} {p1 : Int} {p2 : Int} {r : (List Int)} (h0 : impl_LiveRegs N p0 p1 p2 = some r) : ACalls Try.prog 7 [(.agg (eRImage p0)), (i64 p1), (i64 p2)] [] (fun v st => v = (ow 0 0 r) ∧ st = [(ro 0 3 1 eI r)]) := by
 unfold impl_LiveRegs at h0
 refine ai Try.func7 rfl rfl rfl rfl (sr rfl fun K1 hK1 => ao_box (m := 0) (st' := [⟨0, 32, 2, [(eRImage p0)]⟩]) go0 rfl rfl rfl rfl rfl (zq tb rfl (dn hK1 rfl (AW.seq fun K2 hK2 => AW.seq fun K3 hK3 => bs h0 fun o5 h1 h0 => ?_))))
 have M5 : ∀ (t4 : Bool), o5 = t4 → ∀ s, Wk 0 s ⟨40, envL [(1, (i64 p1)), (2, (i64 p2)), (3, (.ptr 0 0 0 0)), (35, (.bool t4))], [⟨0, 32, 2, [(eRImage p0)]⟩]⟩ → K3 s := by
  intro t4 hq s hw
  subst o5
  try dsimp only at h0
  refine hK3 _ (AW.weaken hw ?_)
  refine ci h0 rfl ?_ ?_ <;> clear h0
  ·intro b6 h0
   refine zr tb rfl rfl ?_
   replace h0 := Sh.some_eq h0
   subst r
   exact AW.ret (Exists.intro _ (And.intro ((((Wk.adopt (t := 6) rfl 3 (size := 1) (by decide)).trans (Wk.to (L := [(6, (.own 1 0 (List.length ([] : List Int))))]) ⟨.rfl, trivial⟩)).trans (Wk.permk (L := [(6, (.own 0 0 (List.length ([] : List Int))))]) (st' := [(ro 0 3 1 eI ([] : List Int))]) (st1 := [(ro 0 3 1 eI ([] : List Int))]) [1] rfl .nil (by decide) rfl rfl (.pure (pure_map fun _ => rfl) .nil) ⟨.rfl, trivial⟩)).trans (Wk.to (L := [(6, (.own 0 0 (List.length ([] : List Int))))]) ⟨.rfl, trivial⟩)) (And.intro rfl rfl)))
  ·intro b6 h0
   refine AW.skip (hK2 _ (sr rfl fun K8 hK8 => zm tb 3 rfl (bs h0 fun q9 gq9 h0 => ao_call (v' := (ow 1 0 q9)) (st' := [⟨0, 32, 2, [(eRImage p0)]⟩, (ro 0 3 1 eI q9)]) go0 hb22 (impl_liveRegs_ok gq9) rfl rfl ⟨(pure_map' fun _ => rfl), trivial⟩ rfl rfl (zq tb rfl (dn hK8 rfl ?_)))))
   replace h0 := Sh.some_eq h0
   subst r
   exact AW.ret (xr (Wk.permk (L := [(6, (ow 0 0 q9))]) (st' := [(ro 0 3 1 eI q9)]) (st1 := [(ro 0 3 1 eI q9)]) [1] rfl .nil (by decide) rfl rfl (.pure (pure_map fun _ => rfl) .nil) ⟨.rfl, trivial⟩))
 refine AW.regionO rfl (zq tb rfl (bs h1 fun q10 gq10 h1 => zc hb21 (impl_ValidImage_ok gq10) rfl rfl rfl (zm tb 2 rfl ?_)))
 rcases Sh.ite_some h1 with ⟨b11, h1⟩ | ⟨b11, h1⟩
 ·refine zs b11 rfl (zs b11 rfl (zt b11 rfl (zq tb rfl ?_)))
  iterate 5 refine zs rfl rfl ?_
  refine zt rfl rfl (zq tb rfl (zs rfl rfl (zs rfl rfl (zt rfl rfl (zq tb rfl ?_)))))
  iterate 9 refine zs rfl rfl ?_
  exact zt rfl rfl (AO.done (M5 true (Sh.some_eq h1).symm _ (Wk.tr rfl)))
 ·refine zg tb b11 rfl (zg tb b11 rfl (zf b11 rfl (zq tb rfl ?_)))
  rcases Sh.ite_some h1 with ⟨b12, h1⟩ | ⟨b12, h1⟩
  ·refine zs b12 rfl ?_
   iterate 4 refine zs b12 rfl ?_
   refine zt b12 rfl (zq tb rfl (zs rfl rfl (zs rfl rfl (zt rfl rfl (zq tb rfl ?_)))))
   iterate 9 refine zs rfl rfl ?_
   exact zt rfl rfl (AO.done (M5 true (Sh.some_eq h1).symm _ (Wk.tr rfl)))
  ·refine zg tb b12 rfl (zg tb b12 rfl (zg tb b12 rfl (ao_q (v := (i64 (Sh.len p0.procs))) (go1 rfl rfl b12) rfl (aq_lens sl30 rfl) (zg tb b12 rfl (zf b12 rfl (zq tb rfl ?_))))))
   rcases Sh.ite_some h1 with ⟨b13, h1⟩ | ⟨b13, h1⟩
   ·refine zs b13 rfl (zs b13 rfl (zt b13 rfl (zq tb rfl ?_)))
    iterate 9 refine zs rfl rfl ?_
    exact zt rfl rfl (AO.done (M5 true (Sh.some_eq h1).symm _ (Wk.tr rfl)))
   ·refine zg tb b13 rfl (zg tb b13 rfl (zf b13 rfl (zq tb rfl ?_)))
    rcases Sh.ite_some h1 with ⟨b14, h1⟩ | ⟨b14, h1⟩
    ·refine zs b14 rfl ?_
     iterate 8 refine zs b14 rfl ?_
     exact zt b14 rfl (AO.done (M5 true (Sh.some_eq h1).symm _ (Wk.tr rfl)))
    ·refine zg tb b14 rfl ?_
     iterate 3 refine zg tb b14 rfl ?_
     exact bs h1 fun c15 gc15 h1 => ao_q (v := (.iptr (eRProc c15) 0)) (go1 rfl rfl b14) rfl (aq_ixs ei30 rfl rfl gc15 rfl) (zg tb b14 rfl (zg tb b14 rfl (ao_q (v := (i64 (Sh.len c15.code))) (go1 rfl rfl b14) rfl (aq_lens sl43 rfl) (zg tb b14 rfl (zf b14 rfl (AO.done (M5 (decide ((Sh.len c15.code) ≤ p2)) (Sh.some_eq h1).symm _ (Wk.tr rfl))))))))
theorem laws_eqIntS_ok {N : Nat} {p0 : (List Int)} {p1 : (List Int)} {r : Bool} (h0 : laws_eqIntS N p0 p1 = some r) : ACalls Try.prog 8 [(ls eI p0), (ls eI p1)] [] (fun v st => v = (.bool r) ∧ st = []) := by
 unfold laws_eqIntS at h0
 refine ai Try.func8 rfl rfl rfl rfl (zr tb rfl rfl (AW.seq fun K2 hK2 => sr rfl fun K3 hK3 => zq tb rfl (zl tb rfl rfl (zq tb rfl (zl tb rfl rfl (zq tb rfl (dn hK3 rfl ?_)))))))
 refine ci h0 rfl ?_ ?_ <;> clear h0
 ·intro b4 h0
  have b5 : decide ((Sh.len p0) = (Sh.len p1)) = false := by simpa using b4
  refine zr tb rfl rfl ?_
  replace h0 := Sh.some_eq h0
  subst r
  exact AW.ret (xr (Wk.to (L := [(4, (.bool false))]) ⟨.rfl, trivial⟩))
 ·intro b4 h0
  have b7 : decide ((Sh.len p0) = (Sh.len p1)) = true := by simpa using b4
  refine AW.skip (hK2 _ (AW.seq fun K8 hK8 => zr tb rfl rfl ?_))
  obtain ⟨o11, h1, h0⟩ := Sh.cont_some h0
  have M11 : ∀ (_ : Unit), o11 = Sum.inr () → ∀ s, Wk 0 s ⟨26, envL [], []⟩ → K8 s := by
   intro _ hq s hw
   subst o11
   try dsimp only at h0
   refine hK8 _ (AW.weaken hw (zr tb rfl rfl ?_))
   replace h0 := Sh.some_eq h0
   subst r
   exact AW.ret (xr (Wk.to (L := [(4, (.bool true))]) ⟨.rfl, trivial⟩))
  refine AW.block (AW.loopF (σ := Int) (fun n v => laws_eqIntS_L1 p0 p1 n v = some o11) (fun i10 => ⟨26, envL [(0, (ls eI p0)), (1, (ls eI p1)), (5, (i64 i10))], []⟩) N 0 h1 (Wk.tr rfl) (fun _ hv => by rw [laws_eqIntS_L1] at hv; cases hv) ?_)
  rintro n i10 h1
  try dsimp only at h1 ⊢
  rw [laws_eqIntS_L1] at h1
  refine AW.seq fun K13 hK13 => sr rfl fun K14 hK14 => zm tb 2 rfl (zl tb rfl rfl (zq tb rfl (dn hK14 rfl ?_)))
  refine ci h1 rfl ?_ ?_ <;> clear h1
  ·intro b15 h1
   refine AW.skip (hK13 _ (AW.seq fun K16 hK16 => AW.block (AW.seq fun K17 hK17 => ?_)))
   refine AW.draw (by kernel_rfl) (by kernel_rfl) (by rfl) ?_
   iterate 2 refine yq tb rfl ?_
   refine bs h1 fun c18 gc18 h1 => yx ei27 gc18 rfl rfl rfl ?_
   iterate 3 refine yq tb rfl ?_
   refine bs h1 fun c19 gc19 h1 => yx ei27 gc19 rfl rfl rfl ?_
   iterate 2 refine yq tb rfl ?_
   refine d_done (hK17 _ ?_)
   refine ci h1 rfl ?_ ?_ <;> clear h1
   ·intro b20 h1
    have b21 : decide (c18 = c19) = false := by simpa using b20
    refine zr tb rfl rfl ?_
    replace h1 := Sh.some_eq h1
    subst o11
    try dsimp only [id] at h0
    replace h0 := Sh.some_eq h0
    subst r
    exact AW.ret (xr (Wk.to (L := [(4, (.bool false))]) ⟨.rfl, trivial⟩))
   ·intro b20 h1
    have b23 : decide (c18 = c19) = true := by simpa using b20
    exact AW.skip (hK16 _ (AW.regionO rfl (zm tb 3 rfl (AO.done (xi (Sh.w (i10 + 1)) h1 (Wk.tr rfl))))))
  ·intro b15 h1
   exact AW.exit (M11 () (Sh.some_eq h1).symm _ (Wk.tr rfl))
theorem laws_eqCon_ok {N : Nat} {p0 : RCon} {p1 : RCon} {r : Bool} (h0 : laws_eqCon N p0 p1 = some r) : ACalls Try.prog 85 [(.agg (eRCon p0)), (.agg (eRCon p1))] [] (fun v st => v = (.bool r) ∧ st = []) := by
 unfold laws_eqCon at h0
 refine ai Try.func85 rfl rfl rfl rfl (sr rfl fun K1 hK1 => ao_box (m := 0) (st' := [⟨0, 117, 1, [(eRCon p0)]⟩]) go0 rfl rfl rfl rfl rfl (ao_box (m := 1) (st' := [⟨0, 117, 1, [(eRCon p0)]⟩, ⟨0, 117, 1, [(eRCon p1)]⟩]) go0 rfl rfl rfl rfl rfl (zq tb rfl (dn hK1 rfl (AW.seq fun K2 hK2 => sr rfl fun K3 hK3 => zm tb 4 rfl (bs h0 fun q4 gq4 h0 => zc hb8 (laws_eqIntS_ok gq4) rfl rfl rfl (zq tb rfl ?_)))))))
 refine dn hK3 rfl ?_
 refine ci h0 rfl ?_ ?_ <;> clear h0
 ·intro b5 h0
  have b6 : q4 = false := by simpa using b5
  refine zr tb rfl rfl ?_
  replace h0 := Sh.some_eq h0
  subst r
  exact AW.ret (xr (Wk.d0 [(4, (.bool false))] rfl))
 ·intro b5 h0
  have b8 : q4 = true := by simpa using b5
  refine AW.skip (hK2 _ (zr tb rfl rfl ?_))
  replace h0 := Sh.some_eq h0
  subst r
  exact AW.ret (xr (Wk.d0 [(4, (.bool true))] rfl))
theorem laws_eqConS_ok {N : Nat} {p0 : (List RCon)} {p1 : (List RCon)} {r : Bool} (h0 : laws_eqConS N p0 p1 = some r) : ACalls Try.prog 66 [(ls eRCon p0), (ls eRCon p1)] [] (fun v st => v = (.bool r) ∧ st = []) := by
 unfold laws_eqConS at h0
 refine ai Try.func66 rfl rfl rfl rfl (zr tb rfl rfl (AW.seq fun K2 hK2 => sr rfl fun K3 hK3 => zq tb rfl (zl tb rfl rfl (zq tb rfl (zl tb rfl rfl (zq tb rfl (dn hK3 rfl ?_)))))))
 refine ci h0 rfl ?_ ?_ <;> clear h0
 ·intro b4 h0
  have b5 : decide ((Sh.len p0) = (Sh.len p1)) = false := by simpa using b4
  refine zr tb rfl rfl ?_
  replace h0 := Sh.some_eq h0
  subst r
  exact AW.ret (xr (Wk.to (L := [(4, (.bool false))]) ⟨.rfl, trivial⟩))
 ·intro b4 h0
  have b7 : decide ((Sh.len p0) = (Sh.len p1)) = true := by simpa using b4
  refine AW.skip (hK2 _ (AW.seq fun K8 hK8 => zr tb rfl rfl ?_))
  obtain ⟨o11, h1, h0⟩ := Sh.cont_some h0
  have M11 : ∀ (_ : Unit), o11 = Sum.inr () → ∀ s, Wk 0 s ⟨27, envL [], []⟩ → K8 s := by
   intro _ hq s hw
   subst o11
   try dsimp only at h0
   refine hK8 _ (AW.weaken hw (zr tb rfl rfl ?_))
   replace h0 := Sh.some_eq h0
   subst r
   exact AW.ret (xr (Wk.to (L := [(4, (.bool true))]) ⟨.rfl, trivial⟩))
  refine AW.block (AW.loopF (σ := Int) (fun n v => laws_eqConS_L1 N p0 p1 n v = some o11) (fun i10 => ⟨27, envL [(0, (ls eRCon p0)), (1, (ls eRCon p1)), (5, (i64 i10))], []⟩) N 0 h1 (Wk.tr rfl) (fun _ hv => by rw [laws_eqConS_L1] at hv; cases hv) ?_)
  rintro n i10 h1
  try dsimp only at h1 ⊢
  rw [laws_eqConS_L1] at h1
  refine AW.seq fun K13 hK13 => sr rfl fun K14 hK14 => zm tb 2 rfl (zl tb rfl rfl (zq tb rfl (dn hK14 rfl ?_)))
  refine ci h1 rfl ?_ ?_ <;> clear h1
  ·intro b15 h1
   refine AW.skip (hK13 _ (AW.seq fun K16 hK16 => AW.block (AW.seq fun K17 hK17 => ?_)))
   refine AW.draw (by kernel_rfl) (by kernel_rfl) (by rfl) ?_
   iterate 2 refine yq tb rfl ?_
   refine bs h1 fun c18 gc18 h1 => yx ei76 gc18 rfl rfl rfl ?_
   iterate 3 refine yq tb rfl ?_
   refine bs h1 fun c19 gc19 h1 => yx ei76 gc19 rfl rfl rfl (yq tb rfl (bs h1 fun q20 gq20 h1 => d_call (v := (.bool q20)) go0 hb85 (laws_eqCon_ok gq20) rfl rfl rfl (yq tb rfl (d_done (hK17 _ ?_)))))
   refine ci h1 rfl ?_ ?_ <;> clear h1
   ·intro b21 h1
    have b22 : q20 = false := by simpa using b21
    refine zr tb rfl rfl ?_
    replace h1 := Sh.some_eq h1
    subst o11
    try dsimp only [id] at h0
    replace h0 := Sh.some_eq h0
    subst r
    exact AW.ret (xr (Wk.to (L := [(4, (.bool false))]) ⟨.rfl, trivial⟩))
   ·intro b21 h1
    have b24 : q20 = true := by simpa using b21
    exact AW.skip (hK16 _ (AW.regionO rfl (zm tb 3 rfl (AO.done (xi (Sh.w (i10 + 1)) h1 (Wk.tr rfl))))))
  ·intro b15 h1
   exact AW.exit (M11 () (Sh.some_eq h1).symm _ (Wk.tr rfl))
theorem laws_eqDecl_ok {N : Nat} {p0 : RDecl} {p1 : RDecl} {r : Bool} (h0 : laws_eqDecl N p0 p1 = some r) : ACalls Try.prog 44 [(.agg (eRDecl p0)), (.agg (eRDecl p1))] [] (fun v st => v = (.bool r) ∧ st = []) := by
 unfold laws_eqDecl at h0
 refine ai Try.func44 rfl rfl rfl rfl (sr rfl fun K1 hK1 => ao_box (m := 0) (st' := [⟨0, 78, 3, [(eRDecl p0)]⟩]) go0 rfl rfl rfl rfl rfl (ao_box (m := 1) (st' := [⟨0, 78, 3, [(eRDecl p0)]⟩, ⟨0, 78, 3, [(eRDecl p1)]⟩]) go0 rfl rfl rfl rfl rfl (zq tb rfl (dn hK1 rfl (AW.seq fun K2 hK2 => zr tb rfl rfl ?_)))))
 refine ci h0 rfl ?_ ?_ <;> clear h0
 ·intro b4 h0
  have b5 : decide (p0.from_ = p1.from_) = false := by simpa using b4
  refine zr tb rfl rfl ?_
  replace h0 := Sh.some_eq h0
  subst r
  exact AW.ret (xr (Wk.d0 [(4, (.bool false))] rfl))
 ·intro b4 h0
  have b7 : decide (p0.from_ = p1.from_) = true := by simpa using b4
  refine AW.skip (hK2 _ (AW.seq fun K8 hK8 => zr tb rfl rfl ?_))
  refine ci h0 rfl ?_ ?_ <;> clear h0
  ·intro b10 h0
   have b11 : decide (p0.to = p1.to) = false := by simpa using b10
   refine zr tb rfl rfl ?_
   replace h0 := Sh.some_eq h0
   subst r
   exact AW.ret (xr (Wk.d0 [(4, (.bool false))] rfl))
  ·intro b10 h0
   have b13 : decide (p0.to = p1.to) = true := by simpa using b10
   refine AW.skip (hK8 _ (AW.seq fun K14 hK14 => sr rfl fun K15 hK15 => zm tb 4 rfl (bs h0 fun q16 gq16 h0 => zc hb66 (laws_eqConS_ok gq16) rfl rfl rfl (zq tb rfl (dn hK15 rfl ?_)))))
   refine ci h0 rfl ?_ ?_ <;> clear h0
   ·intro b17 h0
    have b18 : q16 = false := by simpa using b17
    refine zr tb rfl rfl ?_
    replace h0 := Sh.some_eq h0
    subst r
    exact AW.ret (xr (Wk.d0 [(4, (.bool false))] rfl))
   ·intro b17 h0
    have b20 : q16 = true := by simpa using b17
    refine AW.skip (hK14 _ (zr tb rfl rfl ?_))
    replace h0 := Sh.some_eq h0
    subst r
    exact AW.ret (xr (Wk.d0 [(4, (.bool true))] rfl))
theorem laws_eqDeclS_ok {N : Nat} {p0 : (List RDecl)} {p1 : (List RDecl)} {r : Bool} (h0 : laws_eqDeclS N p0 p1 = some r) : ACalls Try.prog 23 [(ls eRDecl p0), (ls eRDecl p1)] [] (fun v st => v = (.bool r) ∧ st = []) := by
 unfold laws_eqDeclS at h0
 refine ai Try.func23 rfl rfl rfl rfl (zr tb rfl rfl (AW.seq fun K2 hK2 => sr rfl fun K3 hK3 => zq tb rfl (zl tb rfl rfl (zq tb rfl (zl tb rfl rfl (zq tb rfl (dn hK3 rfl ?_)))))))
 refine ci h0 rfl ?_ ?_ <;> clear h0
 ·intro b4 h0
  have b5 : decide ((Sh.len p0) = (Sh.len p1)) = false := by simpa using b4
  refine zr tb rfl rfl ?_
  replace h0 := Sh.some_eq h0
  subst r
  exact AW.ret (xr (Wk.to (L := [(4, (.bool false))]) ⟨.rfl, trivial⟩))
 ·intro b4 h0
  have b7 : decide ((Sh.len p0) = (Sh.len p1)) = true := by simpa using b4
  refine AW.skip (hK2 _ (AW.seq fun K8 hK8 => zr tb rfl rfl ?_))
  obtain ⟨o11, h1, h0⟩ := Sh.cont_some h0
  have M11 : ∀ (_ : Unit), o11 = Sum.inr () → ∀ s, Wk 0 s ⟨27, envL [], []⟩ → K8 s := by
   intro _ hq s hw
   subst o11
   try dsimp only at h0
   refine hK8 _ (AW.weaken hw (zr tb rfl rfl ?_))
   replace h0 := Sh.some_eq h0
   subst r
   exact AW.ret (xr (Wk.to (L := [(4, (.bool true))]) ⟨.rfl, trivial⟩))
  refine AW.block (AW.loopF (σ := Int) (fun n v => laws_eqDeclS_L1 N p0 p1 n v = some o11) (fun i10 => ⟨27, envL [(0, (ls eRDecl p0)), (1, (ls eRDecl p1)), (5, (i64 i10))], []⟩) N 0 h1 (Wk.tr rfl) (fun _ hv => by rw [laws_eqDeclS_L1] at hv; cases hv) ?_)
  rintro n i10 h1
  try dsimp only at h1 ⊢
  rw [laws_eqDeclS_L1] at h1
  refine AW.seq fun K13 hK13 => sr rfl fun K14 hK14 => zm tb 2 rfl (zl tb rfl rfl (zq tb rfl (dn hK14 rfl ?_)))
  refine ci h1 rfl ?_ ?_ <;> clear h1
  ·intro b15 h1
   refine AW.skip (hK13 _ (AW.seq fun K16 hK16 => AW.block (AW.seq fun K17 hK17 => ?_)))
   refine AW.draw (by kernel_rfl) (by kernel_rfl) (by rfl) ?_
   iterate 2 refine yq tb rfl ?_
   refine bs h1 fun c18 gc18 h1 => yx ei29 gc18 rfl rfl rfl ?_
   iterate 3 refine yq tb rfl ?_
   refine bs h1 fun c19 gc19 h1 => yx ei29 gc19 rfl rfl rfl (yq tb rfl (bs h1 fun q20 gq20 h1 => d_call (v := (.bool q20)) go0 hb44 (laws_eqDecl_ok gq20) rfl rfl rfl (yq tb rfl (d_done (hK17 _ ?_)))))
   refine ci h1 rfl ?_ ?_ <;> clear h1
   ·intro b21 h1
    have b22 : q20 = false := by simpa using b21
    refine zr tb rfl rfl ?_
    replace h1 := Sh.some_eq h1
    subst o11
    try dsimp only [id] at h0
    replace h0 := Sh.some_eq h0
    subst r
    exact AW.ret (xr (Wk.to (L := [(4, (.bool false))]) ⟨.rfl, trivial⟩))
   ·intro b21 h1
    have b24 : q20 = true := by simpa using b21
    exact AW.skip (hK16 _ (AW.regionO rfl (zm tb 3 rfl (AO.done (xi (Sh.w (i10 + 1)) h1 (Wk.tr rfl))))))
  ·intro b15 h1
   exact AW.exit (M11 () (Sh.some_eq h1).symm _ (Wk.tr rfl))
theorem laws_eqInstr_ok {N : Nat} {p0 : RInstr} {p1 : RInstr} {r : Bool} (h0 : laws_eqInstr N p0 p1 = some r) : ACalls Try.prog 86 [(.agg (eRInstr p0)), (.agg (eRInstr p1))] [] (fun v st => v = (.bool r) ∧ st = []) := by
 unfold laws_eqInstr at h0
 refine ai Try.func86 rfl rfl rfl rfl (sr rfl fun K1 hK1 => ao_box (m := 0) (st' := [⟨0, 73, 6, [(eRInstr p0)]⟩]) go0 rfl rfl rfl rfl rfl (ao_box (m := 1) (st' := [⟨0, 73, 6, [(eRInstr p0)]⟩, ⟨0, 73, 6, [(eRInstr p1)]⟩]) go0 rfl rfl rfl rfl rfl (zq tb rfl (dn hK1 rfl (AW.seq fun K2 hK2 => zr tb rfl rfl ?_)))))
 refine ci h0 rfl ?_ ?_ <;> clear h0
 ·intro b4 h0
  have b5 : decide (p0.op = p1.op) = false := by simpa using b4
  refine zr tb rfl rfl ?_
  replace h0 := Sh.some_eq h0
  subst r
  exact AW.ret (xr (Wk.d0 [(4, (.bool false))] rfl))
 ·intro b4 h0
  have b7 : decide (p0.op = p1.op) = true := by simpa using b4
  refine AW.skip (hK2 _ (AW.seq fun K8 hK8 => zr tb rfl rfl ?_))
  refine ci h0 rfl ?_ ?_ <;> clear h0
  ·intro b10 h0
   have b11 : decide (p0.dst = p1.dst) = false := by simpa using b10
   refine zr tb rfl rfl ?_
   replace h0 := Sh.some_eq h0
   subst r
   exact AW.ret (xr (Wk.d0 [(4, (.bool false))] rfl))
  ·intro b10 h0
   have b13 : decide (p0.dst = p1.dst) = true := by simpa using b10
   refine AW.skip (hK8 _ (AW.seq fun K14 hK14 => zr tb rfl rfl ?_))
   refine ci h0 rfl ?_ ?_ <;> clear h0
   ·intro b16 h0
    have b17 : decide (p0.num = p1.num) = false := by simpa using b16
    refine zr tb rfl rfl ?_
    replace h0 := Sh.some_eq h0
    subst r
    exact AW.ret (xr (Wk.d0 [(4, (.bool false))] rfl))
   ·intro b16 h0
    have b19 : decide (p0.num = p1.num) = true := by simpa using b16
    refine AW.skip (hK14 _ (AW.seq fun K20 hK20 => zr tb rfl rfl ?_))
    refine ci h0 rfl ?_ ?_ <;> clear h0
    ·intro b22 h0
     have b23 : decide (p0.into = p1.into) = false := by simpa using b22
     refine zr tb rfl rfl ?_
     replace h0 := Sh.some_eq h0
     subst r
     exact AW.ret (xr (Wk.d0 [(4, (.bool false))] rfl))
    ·intro b22 h0
     have b25 : decide (p0.into = p1.into) = true := by simpa using b22
     refine AW.skip (hK20 _ (AW.seq fun K26 hK26 => sr rfl fun K27 hK27 => zm tb 4 rfl (bs h0 fun q28 gq28 h0 => zc hb8 (laws_eqIntS_ok gq28) rfl rfl rfl (zq tb rfl (dn hK27 rfl ?_)))))
     refine ci h0 rfl ?_ ?_ <;> clear h0
     ·intro b29 h0
      have b30 : q28 = false := by simpa using b29
      refine zr tb rfl rfl ?_
      replace h0 := Sh.some_eq h0
      subst r
      exact AW.ret (xr (Wk.d0 [(4, (.bool false))] rfl))
     ·intro b29 h0
      have b32 : q28 = true := by simpa using b29
      refine AW.skip (hK26 _ (AW.seq fun K33 hK33 => sr rfl fun K34 hK34 => zm tb 4 rfl (bs h0 fun q35 gq35 h0 => zc hb8 (laws_eqIntS_ok gq35) rfl rfl rfl (zq tb rfl (dn hK34 rfl ?_)))))
      refine ci h0 rfl ?_ ?_ <;> clear h0
      ·intro b36 h0
       have b37 : q35 = false := by simpa using b36
       refine zr tb rfl rfl ?_
       replace h0 := Sh.some_eq h0
       subst r
       exact AW.ret (xr (Wk.d0 [(4, (.bool false))] rfl))
      ·intro b36 h0
       have b39 : q35 = true := by simpa using b36
       refine AW.skip (hK33 _ (zr tb rfl rfl ?_))
       replace h0 := Sh.some_eq h0
       subst r
       exact AW.ret (xr (Wk.d0 [(4, (.bool true))] rfl))
theorem laws_eqInstrS_ok {N : Nat} {p0 : (List RInstr)} {p1 : (List RInstr)} {r : Bool} (h0 : laws_eqInstrS N p0 p1 = some r) : ACalls Try.prog 67 [(ls eRInstr p0), (ls eRInstr p1)] [] (fun v st => v = (.bool r) ∧ st = []) := by
 unfold laws_eqInstrS at h0
 refine ai Try.func67 rfl rfl rfl rfl (zr tb rfl rfl (AW.seq fun K2 hK2 => sr rfl fun K3 hK3 => zq tb rfl (zl tb rfl rfl (zq tb rfl (zl tb rfl rfl (zq tb rfl (dn hK3 rfl ?_)))))))
 refine ci h0 rfl ?_ ?_ <;> clear h0
 ·intro b4 h0
  have b5 : decide ((Sh.len p0) = (Sh.len p1)) = false := by simpa using b4
  refine zr tb rfl rfl ?_
  replace h0 := Sh.some_eq h0
  subst r
  exact AW.ret (xr (Wk.to (L := [(4, (.bool false))]) ⟨.rfl, trivial⟩))
 ·intro b4 h0
  have b7 : decide ((Sh.len p0) = (Sh.len p1)) = true := by simpa using b4
  refine AW.skip (hK2 _ (AW.seq fun K8 hK8 => zr tb rfl rfl ?_))
  obtain ⟨o11, h1, h0⟩ := Sh.cont_some h0
  have M11 : ∀ (_ : Unit), o11 = Sum.inr () → ∀ s, Wk 0 s ⟨27, envL [], []⟩ → K8 s := by
   intro _ hq s hw
   subst o11
   try dsimp only at h0
   refine hK8 _ (AW.weaken hw (zr tb rfl rfl ?_))
   replace h0 := Sh.some_eq h0
   subst r
   exact AW.ret (xr (Wk.to (L := [(4, (.bool true))]) ⟨.rfl, trivial⟩))
  refine AW.block (AW.loopF (σ := Int) (fun n v => laws_eqInstrS_L1 N p0 p1 n v = some o11) (fun i10 => ⟨27, envL [(0, (ls eRInstr p0)), (1, (ls eRInstr p1)), (5, (i64 i10))], []⟩) N 0 h1 (Wk.tr rfl) (fun _ hv => by rw [laws_eqInstrS_L1] at hv; cases hv) ?_)
  rintro n i10 h1
  try dsimp only at h1 ⊢
  rw [laws_eqInstrS_L1] at h1
  refine AW.seq fun K13 hK13 => sr rfl fun K14 hK14 => zm tb 2 rfl (zl tb rfl rfl (zq tb rfl (dn hK14 rfl ?_)))
  refine ci h1 rfl ?_ ?_ <;> clear h1
  ·intro b15 h1
   refine AW.skip (hK13 _ (AW.seq fun K16 hK16 => AW.block (AW.seq fun K17 hK17 => ?_)))
   refine AW.draw (by kernel_rfl) (by kernel_rfl) (by rfl) ?_
   iterate 2 refine yq tb rfl ?_
   refine bs h1 fun c18 gc18 h1 => yx ei43 gc18 rfl rfl rfl ?_
   iterate 3 refine yq tb rfl ?_
   refine bs h1 fun c19 gc19 h1 => yx ei43 gc19 rfl rfl rfl (yq tb rfl (bs h1 fun q20 gq20 h1 => d_call (v := (.bool q20)) go0 hb86 (laws_eqInstr_ok gq20) rfl rfl rfl (yq tb rfl (d_done (hK17 _ ?_)))))
   refine ci h1 rfl ?_ ?_ <;> clear h1
   ·intro b21 h1
    have b22 : q20 = false := by simpa using b21
    refine zr tb rfl rfl ?_
    replace h1 := Sh.some_eq h1
    subst o11
    try dsimp only [id] at h0
    replace h0 := Sh.some_eq h0
    subst r
    exact AW.ret (xr (Wk.to (L := [(4, (.bool false))]) ⟨.rfl, trivial⟩))
   ·intro b21 h1
    have b24 : q20 = true := by simpa using b21
    exact AW.skip (hK16 _ (AW.regionO rfl (zm tb 3 rfl (AO.done (xi (Sh.w (i10 + 1)) h1 (Wk.tr rfl))))))
  ·intro b15 h1
   exact AW.exit (M11 () (Sh.some_eq h1).symm _ (Wk.tr rfl))
theorem laws_eqProc_ok {N : Nat} {p0 : RProc} {p1 : RProc} {r : Bool} (h0 : laws_eqProc N p0 p1 = some r) : ACalls Try.prog 45 [(.agg (eRProc p0)), (.agg (eRProc p1))] [] (fun v st => v = (.bool r) ∧ st = []) := by
 unfold laws_eqProc at h0
 refine ai Try.func45 rfl rfl rfl rfl (sr rfl fun K1 hK1 => ao_box (m := 0) (st' := [⟨0, 45, 5, [(eRProc p0)]⟩]) go0 rfl rfl rfl rfl rfl (ao_box (m := 1) (st' := [⟨0, 45, 5, [(eRProc p0)]⟩, ⟨0, 45, 5, [(eRProc p1)]⟩]) go0 rfl rfl rfl rfl rfl (zq tb rfl (dn hK1 rfl (AW.seq fun K2 hK2 => sr rfl fun K3 hK3 => zm tb 4 rfl (bs h0 fun q4 gq4 h0 => zc hb8 (laws_eqIntS_ok gq4) rfl rfl rfl (zq tb rfl ?_)))))))
 refine dn hK3 rfl ?_
 refine ci h0 rfl ?_ ?_ <;> clear h0
 ·intro b5 h0
  have b6 : q4 = false := by simpa using b5
  refine zr tb rfl rfl ?_
  replace h0 := Sh.some_eq h0
  subst r
  exact AW.ret (xr (Wk.d0 [(4, (.bool false))] rfl))
 ·intro b5 h0
  have b8 : q4 = true := by simpa using b5
  refine AW.skip (hK2 _ (AW.seq fun K9 hK9 => sr rfl fun K10 hK10 => zm tb 4 rfl (bs h0 fun q11 gq11 h0 => zc hb8 (laws_eqIntS_ok gq11) rfl rfl rfl (zq tb rfl (dn hK10 rfl ?_)))))
  refine ci h0 rfl ?_ ?_ <;> clear h0
  ·intro b12 h0
   have b13 : q11 = false := by simpa using b12
   refine zr tb rfl rfl ?_
   replace h0 := Sh.some_eq h0
   subst r
   exact AW.ret (xr (Wk.d0 [(4, (.bool false))] rfl))
  ·intro b12 h0
   have b15 : q11 = true := by simpa using b12
   refine AW.skip (hK9 _ (AW.seq fun K16 hK16 => zr tb rfl rfl ?_))
   refine ci h0 rfl ?_ ?_ <;> clear h0
   ·intro b18 h0
    have b19 : decide (p0.result = p1.result) = false := by simpa using b18
    refine zr tb rfl rfl ?_
    replace h0 := Sh.some_eq h0
    subst r
    exact AW.ret (xr (Wk.d0 [(4, (.bool false))] rfl))
   ·intro b18 h0
    have b21 : decide (p0.result = p1.result) = true := by simpa using b18
    refine AW.skip (hK16 _ (AW.seq fun K22 hK22 => zr tb rfl rfl ?_))
    refine ci h0 rfl ?_ ?_ <;> clear h0
    ·intro b24 h0
     have b25 : decide (p0.regs = p1.regs) = false := by simpa using b24
     refine zr tb rfl rfl ?_
     replace h0 := Sh.some_eq h0
     subst r
     exact AW.ret (xr (Wk.d0 [(4, (.bool false))] rfl))
    ·intro b24 h0
     have b27 : decide (p0.regs = p1.regs) = true := by simpa using b24
     refine AW.skip (hK22 _ (AW.seq fun K28 hK28 => sr rfl fun K29 hK29 => zm tb 4 rfl (bs h0 fun q30 gq30 h0 => zc hb67 (laws_eqInstrS_ok gq30) rfl rfl rfl (zq tb rfl (dn hK29 rfl ?_)))))
     refine ci h0 rfl ?_ ?_ <;> clear h0
     ·intro b31 h0
      have b32 : q30 = false := by simpa using b31
      refine zr tb rfl rfl ?_
      replace h0 := Sh.some_eq h0
      subst r
      exact AW.ret (xr (Wk.d0 [(4, (.bool false))] rfl))
     ·intro b31 h0
      have b34 : q30 = true := by simpa using b31
      refine AW.skip (hK28 _ (zr tb rfl rfl ?_))
      replace h0 := Sh.some_eq h0
      subst r
      exact AW.ret (xr (Wk.d0 [(4, (.bool true))] rfl))
theorem laws_eqProcS_ok {N : Nat} {p0 : (List RProc)} {p1 : (List RProc)} {r : Bool} (h0 : laws_eqProcS N p0 p1 = some r) : ACalls Try.prog 24 [(ls eRProc p0), (ls eRProc p1)] [] (fun v st => v = (.bool r) ∧ st = []) := by
 unfold laws_eqProcS at h0
 refine ai Try.func24 rfl rfl rfl rfl (zr tb rfl rfl (AW.seq fun K2 hK2 => sr rfl fun K3 hK3 => zq tb rfl (zl tb rfl rfl (zq tb rfl (zl tb rfl rfl (zq tb rfl (dn hK3 rfl ?_)))))))
 refine ci h0 rfl ?_ ?_ <;> clear h0
 ·intro b4 h0
  have b5 : decide ((Sh.len p0) = (Sh.len p1)) = false := by simpa using b4
  refine zr tb rfl rfl ?_
  replace h0 := Sh.some_eq h0
  subst r
  exact AW.ret (xr (Wk.to (L := [(4, (.bool false))]) ⟨.rfl, trivial⟩))
 ·intro b4 h0
  have b7 : decide ((Sh.len p0) = (Sh.len p1)) = true := by simpa using b4
  refine AW.skip (hK2 _ (AW.seq fun K8 hK8 => zr tb rfl rfl ?_))
  obtain ⟨o11, h1, h0⟩ := Sh.cont_some h0
  have M11 : ∀ (_ : Unit), o11 = Sum.inr () → ∀ s, Wk 0 s ⟨27, envL [], []⟩ → K8 s := by
   intro _ hq s hw
   subst o11
   try dsimp only at h0
   refine hK8 _ (AW.weaken hw (zr tb rfl rfl ?_))
   replace h0 := Sh.some_eq h0
   subst r
   exact AW.ret (xr (Wk.to (L := [(4, (.bool true))]) ⟨.rfl, trivial⟩))
  refine AW.block (AW.loopF (σ := Int) (fun n v => laws_eqProcS_L1 N p0 p1 n v = some o11) (fun i10 => ⟨27, envL [(0, (ls eRProc p0)), (1, (ls eRProc p1)), (5, (i64 i10))], []⟩) N 0 h1 (Wk.tr rfl) (fun _ hv => by rw [laws_eqProcS_L1] at hv; cases hv) ?_)
  rintro n i10 h1
  try dsimp only at h1 ⊢
  rw [laws_eqProcS_L1] at h1
  refine AW.seq fun K13 hK13 => sr rfl fun K14 hK14 => zm tb 2 rfl (zl tb rfl rfl (zq tb rfl (dn hK14 rfl ?_)))
  refine ci h1 rfl ?_ ?_ <;> clear h1
  ·intro b15 h1
   refine AW.skip (hK13 _ (AW.seq fun K16 hK16 => AW.block (AW.seq fun K17 hK17 => ?_)))
   refine AW.draw (by kernel_rfl) (by kernel_rfl) (by rfl) ?_
   iterate 2 refine yq tb rfl ?_
   refine bs h1 fun c18 gc18 h1 => yx ei30 gc18 rfl rfl rfl ?_
   iterate 3 refine yq tb rfl ?_
   refine bs h1 fun c19 gc19 h1 => yx ei30 gc19 rfl rfl rfl (yq tb rfl (bs h1 fun q20 gq20 h1 => d_call (v := (.bool q20)) go0 hb45 (laws_eqProc_ok gq20) rfl rfl rfl (yq tb rfl (d_done (hK17 _ ?_)))))
   refine ci h1 rfl ?_ ?_ <;> clear h1
   ·intro b21 h1
    have b22 : q20 = false := by simpa using b21
    refine zr tb rfl rfl ?_
    replace h1 := Sh.some_eq h1
    subst o11
    try dsimp only [id] at h0
    replace h0 := Sh.some_eq h0
    subst r
    exact AW.ret (xr (Wk.to (L := [(4, (.bool false))]) ⟨.rfl, trivial⟩))
   ·intro b21 h1
    have b24 : q20 = true := by simpa using b21
    exact AW.skip (hK16 _ (AW.regionO rfl (zm tb 3 rfl (AO.done (xi (Sh.w (i10 + 1)) h1 (Wk.tr rfl))))))
  ·intro b15 h1
   exact AW.exit (M11 () (Sh.some_eq h1).symm _ (Wk.tr rfl))
theorem laws_eqImage_ok {N : Nat} {p0 : RImage} {p1 : RImage} {r : Bool} (h0 : laws_eqImage N p0 p1 = some r) : ACalls Try.prog 9 [(.agg (eRImage p0)), (.agg (eRImage p1))] [] (fun v st => v = (.bool r) ∧ st = []) := by
 unfold laws_eqImage at h0
 refine ai Try.func9 rfl rfl rfl rfl (sr rfl fun K1 hK1 => ao_box (m := 0) (st' := [⟨0, 32, 2, [(eRImage p0)]⟩]) go0 rfl rfl rfl rfl rfl (ao_box (m := 1) (st' := [⟨0, 32, 2, [(eRImage p0)]⟩, ⟨0, 32, 2, [(eRImage p1)]⟩]) go0 rfl rfl rfl rfl rfl (zq tb rfl (dn hK1 rfl (AW.seq fun K2 hK2 => sr rfl fun K3 hK3 => zm tb 4 rfl (bs h0 fun q4 gq4 h0 => zc hb23 (laws_eqDeclS_ok gq4) rfl rfl rfl (zq tb rfl ?_)))))))
 refine dn hK3 rfl ?_
 refine ci h0 rfl ?_ ?_ <;> clear h0
 ·intro b5 h0
  have b6 : q4 = false := by simpa using b5
  refine zr tb rfl rfl ?_
  replace h0 := Sh.some_eq h0
  subst r
  exact AW.ret (xr (Wk.d0 [(4, (.bool false))] rfl))
 ·intro b5 h0
  have b8 : q4 = true := by simpa using b5
  refine AW.skip (hK2 _ (AW.seq fun K9 hK9 => sr rfl fun K10 hK10 => zm tb 4 rfl (bs h0 fun q11 gq11 h0 => zc hb24 (laws_eqProcS_ok gq11) rfl rfl rfl (zq tb rfl (dn hK10 rfl ?_)))))
  refine ci h0 rfl ?_ ?_ <;> clear h0
  ·intro b12 h0
   have b13 : q11 = false := by simpa using b12
   refine zr tb rfl rfl ?_
   replace h0 := Sh.some_eq h0
   subst r
   exact AW.ret (xr (Wk.d0 [(4, (.bool false))] rfl))
  ·intro b12 h0
   have b15 : q11 = true := by simpa using b12
   refine AW.skip (hK9 _ (zr tb rfl rfl ?_))
   replace h0 := Sh.some_eq h0
   subst r
   exact AW.ret (xr (Wk.d0 [(4, (.bool true))] rfl))
theorem laws_markIntS_ok {N : Nat} {s0 : (List Int)} {p1 : Int} {r : Int × (List Int)} (h0 : laws_markIntS N s0 p1 = some r) : ACalls Try.prog 11 [(ow 0 0 s0), (i64 p1)] [(ro 0 3 1 eI s0)] (fun v st => v = (i64 r.1) ∧ st = [(ro 0 3 1 eI r.2)]) := by
 unfold laws_markIntS at h0
 refine ai Try.func11 rfl rfl rfl rfl (zr tb rfl rfl (AW.seq fun K2 hK2 => zr tb rfl rfl (bs h0 fun o9 h1 h0 => ?_)))
 have M9 : ∀ (k7 : Int) (l8 : (List Int)), o9 = (k7, l8) → ∀ s, Wk 1 s ⟨19, envL [(1, (i64 k7))], [(ro 0 3 1 eI l8)]⟩ → K2 s := by
  intro k7 l8 hq s hw
  subst o9
  try dsimp only at h0
  refine hK2 _ (AW.weaken hw (zr tb rfl rfl ?_))
  replace h0 := Sh.some_eq h0
  subst r
  exact AW.ret (xr (Wk.to (L := [(4, (i64 k7))]) ⟨.rfl, trivial⟩))
 refine AW.block (AW.loopF (σ := Int × Int × (List Int)) (fun n v => laws_markIntS_L1  n v.1 v.2.1 v.2.2 = some o9) (fun (k4, i5, l6) => ⟨19, envL [(0, (ow 0 0 l6)), (1, (i64 k4)), (5, (i64 i5))], [(ro 0 3 1 eI l6)]⟩) N (p1, 0, s0) h1 (Wk.tr rfl) (fun _ hv => by rw [laws_markIntS_L1] at hv; cases hv) ?_)
 rintro n ⟨k4, i5, l6⟩ h1
 try dsimp only at h1 ⊢
 rw [laws_markIntS_L1] at h1
 refine AW.seq fun K11 hK11 => sr rfl fun K12 hK12 => zm tb 2 rfl (zz (i64 (Sh.len l6)) (aq_leno sl27 rfl rfl rfl) rfl (zq tb rfl (dn hK12 rfl ?_)))
 refine ci h1 rfl ?_ ?_ <;> clear h1
 ·intro b13 h1
  refine AW.skip (hK11 _ (AW.seq fun K14 hK14 => AW.block (sr rfl fun K15 hK15 => zm tb 3 rfl (bs h1 fun c16 gc16 h1 => zz (.ptr 0 0 (Int.toNat i5) 0) (aq_ixo ei27 rfl rfl rfl rfl gc16) rfl (ao_stl (st' := [(ro 0 3 1 eI (Sh.put l6 i5 k4))]) (u' := k4) go0 ti3 rfl rfl gc16 rfl rfl rfl (show 0 + 1 ≤ 1 by decide) rfl rfl (dn hK15 rfl (AW.regionO rfl (zm tb 3 rfl (dn hK14 rfl ?_)))))))))
  refine AW.regionO rfl (zm tb 3 rfl ?_)
  exact AO.done (xi (Sh.w (k4 + 1), Sh.w (i5 + 1), Sh.put l6 i5 k4) h1 (Wk.to (L := [(0, (.own 0 0 (List.length (Sh.put l6 i5 k4)))), (1, (i64 (Sh.w (k4 + 1)))), (5, (i64 (Sh.w (i5 + 1))))]) ⟨(.len (by simp only [Sh.put_len])), .rfl, .rfl, trivial⟩))
 ·intro b13 h1
  exact AW.exit (M9 k4 l6 (Sh.some_eq h1).symm _ (Wk.tr rfl))
theorem laws_markConS_ok {N : Nat} {s0 : (List RCon)} {p1 : Int} {r : Int × (List RCon)} (h0 : laws_markConS N s0 p1 = some r) : ACalls Try.prog 46 [(ow 0 0 s0), (i64 p1)] [(ro 0 117 1 (eRConD 3) s0)] (fun v st => v = (i64 r.1) ∧ st = [(ro 0 117 1 (eRConD 3) r.2)]) := by
 unfold laws_markConS at h0
 refine ai Try.func46 rfl rfl rfl rfl (zr tb rfl rfl (AW.seq fun K2 hK2 => zr tb rfl rfl (bs h0 fun o9 h1 h0 => ?_)))
 have M9 : ∀ (k7 : Int) (l8 : (List RCon)), o9 = (k7, l8) → ∀ s, Wk 1 s ⟨20, envL [(1, (i64 k7))], [(ro 0 117 1 (eRConD 3) l8)]⟩ → K2 s := by
  intro k7 l8 hq s hw
  subst o9
  try dsimp only at h0
  refine hK2 _ (AW.weaken hw (zr tb rfl rfl ?_))
  replace h0 := Sh.some_eq h0
  subst r
  exact AW.ret (xr (Wk.to (L := [(4, (i64 k7))]) ⟨.rfl, trivial⟩))
 refine AW.block (AW.loopF (σ := Int × Int × (List RCon)) (fun n v => laws_markConS_L1 N n v.1 v.2.1 v.2.2 = some o9) (fun (k4, i5, l6) => ⟨20, envL [(0, (ow 0 0 l6)), (1, (i64 k4)), (5, (i64 i5))], [(ro 0 117 1 (eRConD 3) l6)]⟩) N (p1, 0, s0) h1 (Wk.tr rfl) (fun _ hv => by rw [laws_markConS_L1] at hv; cases hv) ?_)
 rintro n ⟨k4, i5, l6⟩ h1
 try dsimp only at h1 ⊢
 rw [laws_markConS_L1] at h1
 refine AW.seq fun K11 hK11 => sr rfl fun K12 hK12 => zm tb 2 rfl (zz (i64 (Sh.len l6)) (aq_leno sl76 rfl rfl rfl) rfl (zq tb rfl (dn hK12 rfl ?_)))
 refine ci h1 rfl ?_ ?_ <;> clear h1
 ·intro b13 h1
  refine AW.skip (hK11 _ (AW.seq fun K14 hK14 => AW.block (AW.regionO rfl (zm tb 2 rfl (bs h1 fun c15 gc15 h1 => zz (.ptr 0 0 (Int.toNat i5) 0) (aq_ixo ei76 rfl rfl rfl rfl gc15) rfl (zq tb rfl (AO.weaken (Wk.expel (id := 0) (j := 0) (i := i5) (c := c15) (ys := c15.fields) (encY := eI) (x := [(.dv 3 1 (List.map eI c15.fields))]) (x' := [(ow 1 0 c15.fields)]) (st' := [⟨0, 117, 1, hole l6 (eRConD 3) i5 [(ow 1 0 c15.fields)]⟩, (ro 0 3 1 eI c15.fields)]) rfl gc15 rfl rfl rfl rfl rfl) (zz (ow 1 0 c15.fields) (aq_ldp ti27 rfl rfl (hole_get gc15) rfl) rfl (zq tb rfl (bs h1 fun q16 gq16 h1 => ?_))))))))))
  refine ao_callsL (rowsP := [⟨0, 3, 1, List.map eI c15.fields⟩]) (rows0 := [⟨0, 3, 1, List.map eI c15.fields⟩]) (rows1 := [⟨0, 3, 1, List.map eI q16.2⟩]) (rows2 := []) (rows1' := [⟨0, 3, 1, List.map eI q16.2⟩]) (rows2' := []) (st' := [⟨0, 117, 1, hole l6 (eRConD 3) i5 [(.own 1 0 (List.length c15.fields))]⟩, ⟨0, 3, 1, List.map eI q16.2⟩]) (v' := (i64 q16.1)) [1] go0 hb11 (laws_markIntS_ok gq16) rfl (by decide) rfl rfl (.pure (pure_map fun _ => rfl) .nil) rfl rfl (.pure (pure_map fun _ => rfl) .nil) .nil rfl rfl (fun hln => ?_)
  have ln17 : List.length q16.2 = List.length c15.fields := by simpa only [List.length_map] using hln 0 _ _ rfl rfl rfl
  refine AO.weaken (Wk.take (id := 0) (m := 1) (j := 0) (i := i5) (c := c15) (ys := q16.2) (encY := eI) (x' := [(.dv 3 1 (List.map eI q16.2))]) (st' := [⟨0, 117, 1, hole l6 (eRConD 3) i5 [(.dv 3 1 (List.map eI q16.2))]⟩, ⟨1, 3, 1, []⟩]) rfl gc15 rfl rfl (by first | (simp only [Sh.put_len]; done) | (simp only [Sh.put_len]; omega) | omega) (by decide) (show 1 ≤ 1 by decide) (fun _ => rfl) rfl rfl) ?_
  refine AO.weaken (Wk.filled (id := 0) (i := i5) (u := (RCon.mk q16.2)) (st' := [(ro 0 117 1 (eRConD 3) (Sh.put l6 i5 (RCon.mk q16.2))), ⟨1, 3, 1, []⟩]) rfl rfl rfl) (zq tb rfl (dn hK14 rfl (AW.regionO rfl (zm tb 3 rfl ?_))))
  exact AO.done (xi (q16.1, Sh.w (i5 + 1), Sh.put l6 i5 (RCon.mk q16.2)) h1 (by refine Wk.trans (Wk.permk (L := [(0, (.own 0 0 (List.length l6))), (1, (i64 q16.1)), (5, (i64 (Sh.w (i5 + 1))))]) (st' := [⟨0, 117, 1, List.map (eRConD 3) (Sh.put l6 i5 (RCon.mk q16.2))⟩]) (st1 := [⟨0, 117, 1, List.map (eRConD 3) (Sh.put l6 i5 (RCon.mk q16.2))⟩]) [0] rfl (.deep (pure_mapD fun _ => rfl) .nil) (by decide) rfl rfl (.deep (pure_mapD fun _ => rfl) .nil) ⟨.rfl, .rfl, .rfl, trivial⟩) ?_; exact Wk.to (L := [(0, (.own 0 0 (List.length (Sh.put l6 i5 (RCon.mk q16.2))))), (1, (i64 q16.1)), (5, (i64 (Sh.w (i5 + 1))))]) ⟨(.len (by first | (simp only [Sh.put_len]; done) | (simp only [Sh.put_len]; omega) | omega)), .rfl, .rfl, trivial⟩))
 ·intro b13 h1
  exact AW.exit (M9 k4 l6 (Sh.some_eq h1).symm _ (Wk.tr rfl))
theorem laws_markDeclS_ok {N : Nat} {s0 : (List RDecl)} {p1 : Int} {r : Int × (List RDecl)} (h0 : laws_markDeclS N s0 p1 = some r) : ACalls Try.prog 25 [(ow 0 0 s0), (i64 p1)] [(ro 0 78 3 (eRDeclD 117 3) s0)] (fun v st => v = (i64 r.1) ∧ st = [(ro 0 78 3 (eRDeclD 117 3) r.2)]) := by
 unfold laws_markDeclS at h0
 refine ai Try.func25 rfl rfl rfl rfl (zr tb rfl rfl (AW.seq fun K2 hK2 => zr tb rfl rfl (bs h0 fun o9 h1 h0 => ?_)))
 have M9 : ∀ (k7 : Int) (l8 : (List RDecl)), o9 = (k7, l8) → ∀ s, Wk 1 s ⟨34, envL [(1, (i64 k7))], [(ro 0 78 3 (eRDeclD 117 3) l8)]⟩ → K2 s := by
  intro k7 l8 hq s hw
  subst o9
  try dsimp only at h0
  refine hK2 _ (AW.weaken hw (zr tb rfl rfl ?_))
  replace h0 := Sh.some_eq h0
  subst r
  exact AW.ret (xr (Wk.to (L := [(4, (i64 k7))]) ⟨.rfl, trivial⟩))
 refine AW.block (AW.loopF (σ := Int × Int × (List RDecl)) (fun n v => laws_markDeclS_L1 N n v.1 v.2.1 v.2.2 = some o9) (fun (k4, i5, l6) => ⟨34, envL [(0, (ow 0 0 l6)), (1, (i64 k4)), (5, (i64 i5))], [(ro 0 78 3 (eRDeclD 117 3) l6)]⟩) N (p1, 0, s0) h1 (Wk.tr rfl) (fun _ hv => by rw [laws_markDeclS_L1] at hv; cases hv) ?_)
 rintro n ⟨k4, i5, l6⟩ h1
 try dsimp only at h1 ⊢
 rw [laws_markDeclS_L1] at h1
 refine AW.seq fun K11 hK11 => sr rfl fun K12 hK12 => zm tb 2 rfl (zz (i64 (Sh.len l6)) (aq_leno sl29 rfl rfl rfl) rfl (zq tb rfl (dn hK12 rfl ?_)))
 refine ci h1 rfl ?_ ?_ <;> clear h1
 ·intro b13 h1
  refine AW.skip (hK11 _ (AW.seq fun K14 hK14 => AW.block (sr rfl fun K15 hK15 => zm tb 3 rfl (bs h1 fun c16 gc16 h1 => zz (.ptr 0 0 (Int.toNat i5) 0) (aq_ixo ei29 rfl rfl rfl rfl gc16) rfl (zq tb rfl (ao_stl (st' := [(ro 0 78 3 (eRDeclD 117 3) (Sh.put l6 i5 (RDecl.mk k4 c16.to c16.cons)))]) (u' := (RDecl.mk k4 c16.to c16.cons)) go0 ti3 rfl rfl gc16 rfl rfl rfl (show 0 + 1 ≤ 3 by decide) rfl rfl (dn hK15 rfl (zr tb rfl rfl (sr rfl fun K18 hK18 => ?_)))))))))
  refine zm tb 3 rfl (bs h1 fun c19 gc19 h1 => ?_)
  refine zz (.ptr 0 0 (Int.toNat i5) 0) (aq_ixo ei29 rfl rfl rfl (by simp only [Sh.put_len]) gc19) rfl ?_
  refine zq tb rfl (ao_stl (st' := [(ro 0 78 3 (eRDeclD 117 3) (Sh.put (Sh.put l6 i5 (RDecl.mk k4 c16.to c16.cons)) i5 (RDecl.mk c19.from_ (Sh.w (k4 + 1)) c19.cons)))]) (u' := (RDecl.mk c19.from_ (Sh.w (k4 + 1)) c19.cons)) go0 ti3 rfl rfl gc19 rfl rfl rfl (show 1 + 1 ≤ 3 by decide) rfl rfl (dn hK18 rfl (zr tb rfl rfl (AW.regionO rfl (zm tb 2 rfl (bs h1 fun c21 gc21 h1 => ?_))))))
  refine zz (.ptr 0 0 (Int.toNat i5) 0) (aq_ixo ei29 rfl rfl rfl (by simp only [Sh.put_len]) gc21) rfl ?_
  refine zq tb rfl (AO.weaken (Wk.expel (id := 0) (j := 2) (i := i5) (c := c21) (ys := c21.cons) (encY := (eRConD 3)) (x := [(i64 c21.from_), (i64 c21.to), (.dv 117 1 (List.map (eRConD 3) c21.cons))]) (x' := [(i64 c21.from_), (i64 c21.to), (ow 1 0 c21.cons)]) (st' := [⟨0, 78, 3, hole (Sh.put (Sh.put l6 i5 (RDecl.mk k4 c16.to c16.cons)) i5 (RDecl.mk c19.from_ (Sh.w (k4 + 1)) c19.cons)) (eRDeclD 117 3) i5 [(i64 c21.from_), (i64 c21.to), (ow 1 0 c21.cons)]⟩, (ro 0 117 1 (eRConD 3) c21.cons)]) rfl gc21 rfl rfl rfl rfl rfl) (zz (ow 1 0 c21.cons) (aq_ldp ti76 rfl rfl (hole_get gc21) rfl) rfl (zq tb rfl (bs h1 fun q22 gq22 h1 => ?_))))
  refine ao_callsL (rowsP := [⟨0, 117, 1, List.map (eRConD 3) c21.cons⟩]) (rows0 := [⟨0, 117, 1, List.map (eRConD 3) c21.cons⟩]) (rows1 := [⟨0, 117, 1, List.map (eRConD 3) q22.2⟩]) (rows2 := []) (rows1' := [⟨0, 117, 1, List.map (eRConD 3) q22.2⟩]) (rows2' := []) (st' := [⟨0, 78, 3, hole (Sh.put (Sh.put l6 i5 (RDecl.mk k4 c16.to c16.cons)) i5 (RDecl.mk c19.from_ (Sh.w (k4 + 1)) c19.cons)) (eRDeclD 117 3) i5 [(i64 c21.from_), (i64 c21.to), (.own 1 0 (List.length c21.cons))]⟩, ⟨0, 117, 1, List.map (eRConD 3) q22.2⟩]) (v' := (i64 q22.1)) [1] go0 hb46 (laws_markConS_ok gq22) rfl (by decide) rfl rfl (.deep (pure_mapD fun _ => rfl) .nil) rfl rfl (.deep (pure_mapD fun _ => rfl) .nil) .nil rfl rfl (fun hln => ?_)
  have ln23 : List.length q22.2 = List.length c21.cons := by simpa only [List.length_map] using hln 0 _ _ rfl rfl rfl
  refine AO.weaken (Wk.take (id := 0) (m := 1) (j := 2) (i := i5) (c := c21) (ys := q22.2) (encY := (eRConD 3)) (x' := [(i64 c21.from_), (i64 c21.to), (.dv 117 1 (List.map (eRConD 3) q22.2))]) (st' := [⟨0, 78, 3, hole (Sh.put (Sh.put l6 i5 (RDecl.mk k4 c16.to c16.cons)) i5 (RDecl.mk c19.from_ (Sh.w (k4 + 1)) c19.cons)) (eRDeclD 117 3) i5 [(i64 c21.from_), (i64 c21.to), (.dv 117 1 (List.map (eRConD 3) q22.2))]⟩, ⟨1, 117, 1, []⟩]) rfl gc21 rfl rfl (by first | (simp only [Sh.put_len]; done) | (simp only [Sh.put_len]; omega) | omega) (by decide) (show 1 ≤ 1 by decide) (fun _ => rfl) rfl rfl) ?_
  refine AO.weaken (Wk.filled (id := 0) (i := i5) (u := (RDecl.mk c21.from_ c21.to q22.2)) (st' := [(ro 0 78 3 (eRDeclD 117 3) (Sh.put (Sh.put (Sh.put l6 i5 (RDecl.mk k4 c16.to c16.cons)) i5 (RDecl.mk c19.from_ (Sh.w (k4 + 1)) c19.cons)) i5 (RDecl.mk c21.from_ c21.to q22.2))), ⟨1, 117, 1, []⟩]) rfl rfl rfl) (zq tb rfl (dn hK14 rfl (AW.regionO rfl (zm tb 3 rfl ?_))))
  exact AO.done (xi (q22.1, Sh.w (i5 + 1), Sh.put (Sh.put (Sh.put l6 i5 (RDecl.mk k4 c16.to c16.cons)) i5 (RDecl.mk c19.from_ (Sh.w (k4 + 1)) c19.cons)) i5 (RDecl.mk c21.from_ c21.to q22.2)) h1 (by refine Wk.trans (Wk.permk (L := [(0, (.own 0 0 (List.length l6))), (1, (i64 q22.1)), (5, (i64 (Sh.w (i5 + 1))))]) (st' := [⟨0, 78, 3, List.map (eRDeclD 117 3) (Sh.put (Sh.put (Sh.put l6 i5 (RDecl.mk k4 c16.to c16.cons)) i5 (RDecl.mk c19.from_ (Sh.w (k4 + 1)) c19.cons)) i5 (RDecl.mk c21.from_ c21.to q22.2))⟩]) (st1 := [⟨0, 78, 3, List.map (eRDeclD 117 3) (Sh.put (Sh.put (Sh.put l6 i5 (RDecl.mk k4 c16.to c16.cons)) i5 (RDecl.mk c19.from_ (Sh.w (k4 + 1)) c19.cons)) i5 (RDecl.mk c21.from_ c21.to q22.2))⟩]) [0] rfl (.deep (pure_mapD fun _ => rfl) .nil) (by decide) rfl rfl (.deep (pure_mapD fun _ => rfl) .nil) ⟨.rfl, .rfl, .rfl, trivial⟩) ?_; exact Wk.to (L := [(0, (.own 0 0 (List.length (Sh.put (Sh.put (Sh.put l6 i5 (RDecl.mk k4 c16.to c16.cons)) i5 (RDecl.mk c19.from_ (Sh.w (k4 + 1)) c19.cons)) i5 (RDecl.mk c21.from_ c21.to q22.2))))), (1, (i64 q22.1)), (5, (i64 (Sh.w (i5 + 1))))]) ⟨(.len (by first | (simp only [Sh.put_len]; done) | (simp only [Sh.put_len]; omega) | omega)), .rfl, .rfl, trivial⟩))
 ·intro b13 h1
  exact AW.exit (M9 k4 l6 (Sh.some_eq h1).symm _ (Wk.tr rfl))
theorem laws_markInstrS_ok {N : Nat} {s0 : (List RInstr)} {p1 : Int} {r : Int × (List RInstr)} (h0 : laws_markInstrS N s0 p1 = some r) : ACalls Try.prog 47 [(ow 0 0 s0), (i64 p1)] [(ro 0 73 6 (eRInstrD 3 3) s0)] (fun v st => v = (i64 r.1) ∧ st = [(ro 0 73 6 (eRInstrD 3 3) r.2)]) := by
 unfold laws_markInstrS at h0
 refine ai Try.func47 rfl rfl rfl rfl (zr tb rfl rfl (AW.seq fun K2 hK2 => zr tb rfl rfl (bs h0 fun o9 h1 h0 => ?_)))
 have M9 : ∀ (k7 : Int) (l8 : (List RInstr)), o9 = (k7, l8) → ∀ s, Wk 1 s ⟨55, envL [(1, (i64 k7))], [(ro 0 73 6 (eRInstrD 3 3) l8)]⟩ → K2 s := by
  intro k7 l8 hq s hw
  subst o9
  try dsimp only at h0
  refine hK2 _ (AW.weaken hw (zr tb rfl rfl ?_))
  replace h0 := Sh.some_eq h0
  subst r
  exact AW.ret (xr (Wk.to (L := [(4, (i64 k7))]) ⟨.rfl, trivial⟩))
 refine AW.block (AW.loopF (σ := Int × Int × (List RInstr)) (fun n v => laws_markInstrS_L1 N n v.1 v.2.1 v.2.2 = some o9) (fun (k4, i5, l6) => ⟨55, envL [(0, (ow 0 0 l6)), (1, (i64 k4)), (5, (i64 i5))], [(ro 0 73 6 (eRInstrD 3 3) l6)]⟩) N (p1, 0, s0) h1 (Wk.tr rfl) (fun _ hv => by rw [laws_markInstrS_L1] at hv; cases hv) ?_)
 rintro n ⟨k4, i5, l6⟩ h1
 try dsimp only at h1 ⊢
 rw [laws_markInstrS_L1] at h1
 refine AW.seq fun K11 hK11 => sr rfl fun K12 hK12 => zm tb 2 rfl (zz (i64 (Sh.len l6)) (aq_leno sl43 rfl rfl rfl) rfl (zq tb rfl (dn hK12 rfl ?_)))
 refine ci h1 rfl ?_ ?_ <;> clear h1
 ·intro b13 h1
  refine AW.skip (hK11 _ (AW.seq fun K14 hK14 => AW.block (sr rfl fun K15 hK15 => zm tb 3 rfl (bs h1 fun c16 gc16 h1 => zz (.ptr 0 0 (Int.toNat i5) 0) (aq_ixo ei43 rfl rfl rfl rfl gc16) rfl (zq tb rfl (ao_stl (st' := [(ro 0 73 6 (eRInstrD 3 3) (Sh.put l6 i5 (RInstr.mk k4 c16.dst c16.num c16.into c16.args c16.jumps)))]) (u' := (RInstr.mk k4 c16.dst c16.num c16.into c16.args c16.jumps)) go0 ti3 rfl rfl gc16 rfl rfl rfl (show 0 + 1 ≤ 6 by decide) rfl rfl (dn hK15 rfl (zr tb rfl rfl (sr rfl fun K18 hK18 => ?_)))))))))
  refine zm tb 3 rfl (bs h1 fun c19 gc19 h1 => ?_)
  refine zz (.ptr 0 0 (Int.toNat i5) 0) (aq_ixo ei43 rfl rfl rfl (by simp only [Sh.put_len]) gc19) rfl ?_
  refine zq tb rfl (ao_stl (st' := [(ro 0 73 6 (eRInstrD 3 3) (Sh.put (Sh.put l6 i5 (RInstr.mk k4 c16.dst c16.num c16.into c16.args c16.jumps)) i5 (RInstr.mk c19.op (Sh.w (k4 + 1)) c19.num c19.into c19.args c19.jumps)))]) (u' := (RInstr.mk c19.op (Sh.w (k4 + 1)) c19.num c19.into c19.args c19.jumps)) go0 ti3 rfl rfl gc19 rfl rfl rfl (show 1 + 1 ≤ 6 by decide) rfl rfl (dn hK18 rfl (zr tb rfl rfl (sr rfl fun K21 hK21 => zm tb 3 rfl (bs h1 fun c22 gc22 h1 => ?_)))))
  refine zz (.ptr 0 0 (Int.toNat i5) 0) (aq_ixo ei43 rfl rfl rfl (by simp only [Sh.put_len]) gc22) rfl ?_
  refine zq tb rfl (ao_stl (st' := [(ro 0 73 6 (eRInstrD 3 3) (Sh.put (Sh.put (Sh.put l6 i5 (RInstr.mk k4 c16.dst c16.num c16.into c16.args c16.jumps)) i5 (RInstr.mk c19.op (Sh.w (k4 + 1)) c19.num c19.into c19.args c19.jumps)) i5 (RInstr.mk c22.op c22.dst (Sh.w ((Sh.w (k4 + 1)) + 1)) c22.into c22.args c22.jumps)))]) (u' := (RInstr.mk c22.op c22.dst (Sh.w ((Sh.w (k4 + 1)) + 1)) c22.into c22.args c22.jumps)) go0 ti3 rfl rfl gc22 rfl rfl rfl (show 2 + 1 ≤ 6 by decide) rfl rfl (dn hK21 rfl (zr tb rfl rfl (sr rfl fun K24 hK24 => zm tb 3 rfl (bs h1 fun c25 gc25 h1 => ?_)))))
  refine zz (.ptr 0 0 (Int.toNat i5) 0) (aq_ixo ei43 rfl rfl rfl (by simp only [Sh.put_len]) gc25) rfl ?_
  refine zq tb rfl (ao_stl (st' := [(ro 0 73 6 (eRInstrD 3 3) (Sh.put (Sh.put (Sh.put (Sh.put l6 i5 (RInstr.mk k4 c16.dst c16.num c16.into c16.args c16.jumps)) i5 (RInstr.mk c19.op (Sh.w (k4 + 1)) c19.num c19.into c19.args c19.jumps)) i5 (RInstr.mk c22.op c22.dst (Sh.w ((Sh.w (k4 + 1)) + 1)) c22.into c22.args c22.jumps)) i5 (RInstr.mk c25.op c25.dst c25.num (Sh.w ((Sh.w ((Sh.w (k4 + 1)) + 1)) + 1)) c25.args c25.jumps)))]) (u' := (RInstr.mk c25.op c25.dst c25.num (Sh.w ((Sh.w ((Sh.w (k4 + 1)) + 1)) + 1)) c25.args c25.jumps)) go0 ti3 rfl rfl gc25 rfl rfl rfl (show 3 + 1 ≤ 6 by decide) rfl rfl (dn hK24 rfl (zr tb rfl rfl (sr rfl fun K27 hK27 => zm tb 2 rfl (bs h1 fun c28 gc28 h1 => ?_)))))
  refine zz (.ptr 0 0 (Int.toNat i5) 0) (aq_ixo ei43 rfl rfl rfl (by simp only [Sh.put_len]) gc28) rfl ?_
  refine zq tb rfl (AO.weaken (Wk.expel (id := 0) (j := 4) (i := i5) (c := c28) (ys := c28.args) (encY := eI) (x := [(i64 c28.op), (i64 c28.dst), (i64 c28.num), (i64 c28.into), (.dv 3 1 (List.map eI c28.args)), (.dv 3 1 (List.map eI c28.jumps))]) (x' := [(i64 c28.op), (i64 c28.dst), (i64 c28.num), (i64 c28.into), (ow 1 0 c28.args), (.dv 3 1 (List.map eI c28.jumps))]) (st' := [⟨0, 73, 6, hole (Sh.put (Sh.put (Sh.put (Sh.put l6 i5 (RInstr.mk k4 c16.dst c16.num c16.into c16.args c16.jumps)) i5 (RInstr.mk c19.op (Sh.w (k4 + 1)) c19.num c19.into c19.args c19.jumps)) i5 (RInstr.mk c22.op c22.dst (Sh.w ((Sh.w (k4 + 1)) + 1)) c22.into c22.args c22.jumps)) i5 (RInstr.mk c25.op c25.dst c25.num (Sh.w ((Sh.w ((Sh.w (k4 + 1)) + 1)) + 1)) c25.args c25.jumps)) (eRInstrD 3 3) i5 [(i64 c28.op), (i64 c28.dst), (i64 c28.num), (i64 c28.into), (ow 1 0 c28.args), (.dv 3 1 (List.map eI c28.jumps))]⟩, (ro 0 3 1 eI c28.args)]) rfl gc28 rfl rfl rfl rfl rfl) (zz (ow 1 0 c28.args) (aq_ldp ti27 rfl rfl (hole_get gc28) rfl) rfl (zq tb rfl (bs h1 fun q29 gq29 h1 => ?_))))
  refine ao_callsL (rowsP := [⟨0, 3, 1, List.map eI c28.args⟩]) (rows0 := [⟨0, 3, 1, List.map eI c28.args⟩]) (rows1 := [⟨0, 3, 1, List.map eI q29.2⟩]) (rows2 := []) (rows1' := [⟨0, 3, 1, List.map eI q29.2⟩]) (rows2' := []) (st' := [⟨0, 73, 6, hole (Sh.put (Sh.put (Sh.put (Sh.put l6 i5 (RInstr.mk k4 c16.dst c16.num c16.into c16.args c16.jumps)) i5 (RInstr.mk c19.op (Sh.w (k4 + 1)) c19.num c19.into c19.args c19.jumps)) i5 (RInstr.mk c22.op c22.dst (Sh.w ((Sh.w (k4 + 1)) + 1)) c22.into c22.args c22.jumps)) i5 (RInstr.mk c25.op c25.dst c25.num (Sh.w ((Sh.w ((Sh.w (k4 + 1)) + 1)) + 1)) c25.args c25.jumps)) (eRInstrD 3 3) i5 [(i64 c28.op), (i64 c28.dst), (i64 c28.num), (i64 c28.into), (.own 1 0 (List.length c28.args)), (.dv 3 1 (List.map eI c28.jumps))]⟩, ⟨0, 3, 1, List.map eI q29.2⟩]) (v' := (i64 q29.1)) [1] go0 hb11 (laws_markIntS_ok gq29) rfl (by decide) rfl rfl (.pure (pure_map fun _ => rfl) .nil) rfl rfl (.pure (pure_map fun _ => rfl) .nil) .nil rfl rfl (fun hln => ?_)
  have ln30 : List.length q29.2 = List.length c28.args := by simpa only [List.length_map] using hln 0 _ _ rfl rfl rfl
  refine AO.weaken (Wk.take (id := 0) (m := 1) (j := 4) (i := i5) (c := c28) (ys := q29.2) (encY := eI) (x' := [(i64 c28.op), (i64 c28.dst), (i64 c28.num), (i64 c28.into), (.dv 3 1 (List.map eI q29.2)), (.dv 3 1 (List.map eI c28.jumps))]) (st' := [⟨0, 73, 6, hole (Sh.put (Sh.put (Sh.put (Sh.put l6 i5 (RInstr.mk k4 c16.dst c16.num c16.into c16.args c16.jumps)) i5 (RInstr.mk c19.op (Sh.w (k4 + 1)) c19.num c19.into c19.args c19.jumps)) i5 (RInstr.mk c22.op c22.dst (Sh.w ((Sh.w (k4 + 1)) + 1)) c22.into c22.args c22.jumps)) i5 (RInstr.mk c25.op c25.dst c25.num (Sh.w ((Sh.w ((Sh.w (k4 + 1)) + 1)) + 1)) c25.args c25.jumps)) (eRInstrD 3 3) i5 [(i64 c28.op), (i64 c28.dst), (i64 c28.num), (i64 c28.into), (.dv 3 1 (List.map eI q29.2)), (.dv 3 1 (List.map eI c28.jumps))]⟩, ⟨1, 3, 1, []⟩]) rfl gc28 rfl rfl (by first | (simp only [Sh.put_len]; done) | (simp only [Sh.put_len]; omega) | omega) (by decide) (show 1 ≤ 1 by decide) (fun _ => rfl) rfl rfl) ?_
  refine AO.weaken (Wk.filled (id := 0) (i := i5) (u := (RInstr.mk c28.op c28.dst c28.num c28.into q29.2 c28.jumps)) (st' := [(ro 0 73 6 (eRInstrD 3 3) (Sh.put (Sh.put (Sh.put (Sh.put (Sh.put l6 i5 (RInstr.mk k4 c16.dst c16.num c16.into c16.args c16.jumps)) i5 (RInstr.mk c19.op (Sh.w (k4 + 1)) c19.num c19.into c19.args c19.jumps)) i5 (RInstr.mk c22.op c22.dst (Sh.w ((Sh.w (k4 + 1)) + 1)) c22.into c22.args c22.jumps)) i5 (RInstr.mk c25.op c25.dst c25.num (Sh.w ((Sh.w ((Sh.w (k4 + 1)) + 1)) + 1)) c25.args c25.jumps)) i5 (RInstr.mk c28.op c28.dst c28.num c28.into q29.2 c28.jumps))), ⟨1, 3, 1, []⟩]) rfl rfl rfl) (zq tb rfl (dn hK27 rfl (AW.regionO rfl (zm tb 2 rfl (bs h1 fun c31 gc31 h1 => ?_)))))
  refine zz (.ptr 0 0 (Int.toNat i5) 0) (aq_ixo ei43 rfl rfl rfl (by first | (simp only [Sh.put_len]; done) | (simp only [Sh.put_len]; omega) | omega) gc31) rfl ?_
  refine zq tb rfl (AO.weaken (Wk.expel (id := 0) (j := 5) (i := i5) (c := c31) (ys := c31.jumps) (encY := eI) (x := [(i64 c31.op), (i64 c31.dst), (i64 c31.num), (i64 c31.into), (.dv 3 1 (List.map eI c31.args)), (.dv 3 1 (List.map eI c31.jumps))]) (x' := [(i64 c31.op), (i64 c31.dst), (i64 c31.num), (i64 c31.into), (.dv 3 1 (List.map eI c31.args)), (ow 2 0 c31.jumps)]) (st' := [⟨0, 73, 6, hole (Sh.put (Sh.put (Sh.put (Sh.put (Sh.put l6 i5 (RInstr.mk k4 c16.dst c16.num c16.into c16.args c16.jumps)) i5 (RInstr.mk c19.op (Sh.w (k4 + 1)) c19.num c19.into c19.args c19.jumps)) i5 (RInstr.mk c22.op c22.dst (Sh.w ((Sh.w (k4 + 1)) + 1)) c22.into c22.args c22.jumps)) i5 (RInstr.mk c25.op c25.dst c25.num (Sh.w ((Sh.w ((Sh.w (k4 + 1)) + 1)) + 1)) c25.args c25.jumps)) i5 (RInstr.mk c28.op c28.dst c28.num c28.into q29.2 c28.jumps)) (eRInstrD 3 3) i5 [(i64 c31.op), (i64 c31.dst), (i64 c31.num), (i64 c31.into), (.dv 3 1 (List.map eI c31.args)), (ow 2 0 c31.jumps)]⟩, ⟨1, 3, 1, []⟩, (ro 0 3 1 eI c31.jumps)]) rfl gc31 rfl rfl rfl rfl rfl) (zz (ow 2 0 c31.jumps) (aq_ldp ti27 rfl rfl (hole_get gc31) rfl) rfl (zq tb rfl (bs h1 fun q32 gq32 h1 => ?_))))
  refine ao_callsL (rowsP := [⟨0, 3, 1, List.map eI c31.jumps⟩]) (rows0 := [⟨0, 3, 1, List.map eI c31.jumps⟩]) (rows1 := [⟨0, 3, 1, List.map eI q32.2⟩]) (rows2 := []) (rows1' := [⟨0, 3, 1, List.map eI q32.2⟩]) (rows2' := []) (st' := [⟨0, 73, 6, hole (Sh.put (Sh.put (Sh.put (Sh.put (Sh.put l6 i5 (RInstr.mk k4 c16.dst c16.num c16.into c16.args c16.jumps)) i5 (RInstr.mk c19.op (Sh.w (k4 + 1)) c19.num c19.into c19.args c19.jumps)) i5 (RInstr.mk c22.op c22.dst (Sh.w ((Sh.w (k4 + 1)) + 1)) c22.into c22.args c22.jumps)) i5 (RInstr.mk c25.op c25.dst c25.num (Sh.w ((Sh.w ((Sh.w (k4 + 1)) + 1)) + 1)) c25.args c25.jumps)) i5 (RInstr.mk c28.op c28.dst c28.num c28.into q29.2 c28.jumps)) (eRInstrD 3 3) i5 [(i64 c31.op), (i64 c31.dst), (i64 c31.num), (i64 c31.into), (.dv 3 1 (List.map eI c31.args)), (.own 2 0 (List.length c31.jumps))]⟩, ⟨1, 3, 1, []⟩, ⟨0, 3, 1, List.map eI q32.2⟩]) (v' := (i64 q32.1)) [2] go0 hb11 (laws_markIntS_ok gq32) rfl (by decide) rfl rfl (.pure (pure_map fun _ => rfl) .nil) rfl rfl (.pure (pure_map fun _ => rfl) .nil) .nil rfl rfl (fun hln => ?_)
  have ln33 : List.length q32.2 = List.length c31.jumps := by simpa only [List.length_map] using hln 0 _ _ rfl rfl rfl
  refine AO.weaken (Wk.take (id := 0) (m := 2) (j := 5) (i := i5) (c := c31) (ys := q32.2) (encY := eI) (x' := [(i64 c31.op), (i64 c31.dst), (i64 c31.num), (i64 c31.into), (.dv 3 1 (List.map eI c31.args)), (.dv 3 1 (List.map eI q32.2))]) (st' := [⟨0, 73, 6, hole (Sh.put (Sh.put (Sh.put (Sh.put (Sh.put l6 i5 (RInstr.mk k4 c16.dst c16.num c16.into c16.args c16.jumps)) i5 (RInstr.mk c19.op (Sh.w (k4 + 1)) c19.num c19.into c19.args c19.jumps)) i5 (RInstr.mk c22.op c22.dst (Sh.w ((Sh.w (k4 + 1)) + 1)) c22.into c22.args c22.jumps)) i5 (RInstr.mk c25.op c25.dst c25.num (Sh.w ((Sh.w ((Sh.w (k4 + 1)) + 1)) + 1)) c25.args c25.jumps)) i5 (RInstr.mk c28.op c28.dst c28.num c28.into q29.2 c28.jumps)) (eRInstrD 3 3) i5 [(i64 c31.op), (i64 c31.dst), (i64 c31.num), (i64 c31.into), (.dv 3 1 (List.map eI c31.args)), (.dv 3 1 (List.map eI q32.2))]⟩, ⟨1, 3, 1, []⟩, ⟨1, 3, 1, []⟩]) rfl gc31 rfl rfl (by first | (simp only [Sh.put_len]; done) | (simp only [Sh.put_len]; omega) | omega) (by decide) (show 1 ≤ 2 by decide) (fun _ => rfl) rfl rfl) ?_
  refine AO.weaken (Wk.filled (id := 0) (i := i5) (u := (RInstr.mk c31.op c31.dst c31.num c31.into c31.args q32.2)) (st' := [(ro 0 73 6 (eRInstrD 3 3) (Sh.put (Sh.put (Sh.put (Sh.put (Sh.put (Sh.put l6 i5 (RInstr.mk k4 c16.dst c16.num c16.into c16.args c16.jumps)) i5 (RInstr.mk c19.op (Sh.w (k4 + 1)) c19.num c19.into c19.args c19.jumps)) i5 (RInstr.mk c22.op c22.dst (Sh.w ((Sh.w (k4 + 1)) + 1)) c22.into c22.args c22.jumps)) i5 (RInstr.mk c25.op c25.dst c25.num (Sh.w ((Sh.w ((Sh.w (k4 + 1)) + 1)) + 1)) c25.args c25.jumps)) i5 (RInstr.mk c28.op c28.dst c28.num c28.into q29.2 c28.jumps)) i5 (RInstr.mk c31.op c31.dst c31.num c31.into c31.args q32.2))), ⟨1, 3, 1, []⟩, ⟨1, 3, 1, []⟩]) rfl rfl rfl) (zq tb rfl (dn hK14 rfl (AW.regionO rfl (zm tb 3 rfl ?_))))
  exact AO.done (xi (q32.1, Sh.w (i5 + 1), Sh.put (Sh.put (Sh.put (Sh.put (Sh.put (Sh.put l6 i5 (RInstr.mk k4 c16.dst c16.num c16.into c16.args c16.jumps)) i5 (RInstr.mk c19.op (Sh.w (k4 + 1)) c19.num c19.into c19.args c19.jumps)) i5 (RInstr.mk c22.op c22.dst (Sh.w ((Sh.w (k4 + 1)) + 1)) c22.into c22.args c22.jumps)) i5 (RInstr.mk c25.op c25.dst c25.num (Sh.w ((Sh.w ((Sh.w (k4 + 1)) + 1)) + 1)) c25.args c25.jumps)) i5 (RInstr.mk c28.op c28.dst c28.num c28.into q29.2 c28.jumps)) i5 (RInstr.mk c31.op c31.dst c31.num c31.into c31.args q32.2)) h1 (by refine Wk.trans (Wk.permk (L := [(0, (.own 0 0 (List.length l6))), (1, (i64 q32.1)), (5, (i64 (Sh.w (i5 + 1))))]) (st' := [⟨0, 73, 6, List.map (eRInstrD 3 3) (Sh.put (Sh.put (Sh.put (Sh.put (Sh.put (Sh.put l6 i5 (RInstr.mk k4 c16.dst c16.num c16.into c16.args c16.jumps)) i5 (RInstr.mk c19.op (Sh.w (k4 + 1)) c19.num c19.into c19.args c19.jumps)) i5 (RInstr.mk c22.op c22.dst (Sh.w ((Sh.w (k4 + 1)) + 1)) c22.into c22.args c22.jumps)) i5 (RInstr.mk c25.op c25.dst c25.num (Sh.w ((Sh.w ((Sh.w (k4 + 1)) + 1)) + 1)) c25.args c25.jumps)) i5 (RInstr.mk c28.op c28.dst c28.num c28.into q29.2 c28.jumps)) i5 (RInstr.mk c31.op c31.dst c31.num c31.into c31.args q32.2))⟩]) (st1 := [⟨0, 73, 6, List.map (eRInstrD 3 3) (Sh.put (Sh.put (Sh.put (Sh.put (Sh.put (Sh.put l6 i5 (RInstr.mk k4 c16.dst c16.num c16.into c16.args c16.jumps)) i5 (RInstr.mk c19.op (Sh.w (k4 + 1)) c19.num c19.into c19.args c19.jumps)) i5 (RInstr.mk c22.op c22.dst (Sh.w ((Sh.w (k4 + 1)) + 1)) c22.into c22.args c22.jumps)) i5 (RInstr.mk c25.op c25.dst c25.num (Sh.w ((Sh.w ((Sh.w (k4 + 1)) + 1)) + 1)) c25.args c25.jumps)) i5 (RInstr.mk c28.op c28.dst c28.num c28.into q29.2 c28.jumps)) i5 (RInstr.mk c31.op c31.dst c31.num c31.into c31.args q32.2))⟩]) [0] rfl (.deep (pure_mapD fun _ => rfl) .nil) (by decide) rfl rfl (.deep (pure_mapD fun _ => rfl) .nil) ⟨.rfl, .rfl, .rfl, trivial⟩) ?_; exact Wk.to (L := [(0, (.own 0 0 (List.length (Sh.put (Sh.put (Sh.put (Sh.put (Sh.put (Sh.put l6 i5 (RInstr.mk k4 c16.dst c16.num c16.into c16.args c16.jumps)) i5 (RInstr.mk c19.op (Sh.w (k4 + 1)) c19.num c19.into c19.args c19.jumps)) i5 (RInstr.mk c22.op c22.dst (Sh.w ((Sh.w (k4 + 1)) + 1)) c22.into c22.args c22.jumps)) i5 (RInstr.mk c25.op c25.dst c25.num (Sh.w ((Sh.w ((Sh.w (k4 + 1)) + 1)) + 1)) c25.args c25.jumps)) i5 (RInstr.mk c28.op c28.dst c28.num c28.into q29.2 c28.jumps)) i5 (RInstr.mk c31.op c31.dst c31.num c31.into c31.args q32.2))))), (1, (i64 q32.1)), (5, (i64 (Sh.w (i5 + 1))))]) ⟨(.len (by first | (simp only [Sh.put_len]; done) | (simp only [Sh.put_len]; omega) | omega)), .rfl, .rfl, trivial⟩))
 ·intro b13 h1
  exact AW.exit (M9 k4 l6 (Sh.some_eq h1).symm _ (Wk.tr rfl))
theorem laws_markProcS_ok {N : Nat} {s0 : (List RProc)} {p1 : Int} {r : Int × (List RProc)} (h0 : laws_markProcS N s0 p1 = some r) : ACalls Try.prog 26 [(ow 0 0 s0), (i64 p1)] [(ro 0 45 5 (eRProcD 3 3 73 3 3) s0)] (fun v st => v = (i64 r.1) ∧ st = [(ro 0 45 5 (eRProcD 3 3 73 3 3) r.2)]) := by
 unfold laws_markProcS at h0
 refine ai Try.func26 rfl rfl rfl rfl (zr tb rfl rfl (AW.seq fun K2 hK2 => zr tb rfl rfl (bs h0 fun o9 h1 h0 => ?_)))
 have M9 : ∀ (k7 : Int) (l8 : (List RProc)), o9 = (k7, l8) → ∀ s, Wk 1 s ⟨48, envL [(1, (i64 k7))], [(ro 0 45 5 (eRProcD 3 3 73 3 3) l8)]⟩ → K2 s := by
  intro k7 l8 hq s hw
  subst o9
  try dsimp only at h0
  refine hK2 _ (AW.weaken hw (zr tb rfl rfl ?_))
  replace h0 := Sh.some_eq h0
  subst r
  exact AW.ret (xr (Wk.to (L := [(4, (i64 k7))]) ⟨.rfl, trivial⟩))
 refine AW.block (AW.loopF (σ := Int × Int × (List RProc)) (fun n v => laws_markProcS_L1 N n v.1 v.2.1 v.2.2 = some o9) (fun (k4, i5, l6) => ⟨48, envL [(0, (ow 0 0 l6)), (1, (i64 k4)), (5, (i64 i5))], [(ro 0 45 5 (eRProcD 3 3 73 3 3) l6)]⟩) N (p1, 0, s0) h1 (Wk.tr rfl) (fun _ hv => by rw [laws_markProcS_L1] at hv; cases hv) ?_)
 rintro n ⟨k4, i5, l6⟩ h1
 try dsimp only at h1 ⊢
 rw [laws_markProcS_L1] at h1
 refine AW.seq fun K11 hK11 => sr rfl fun K12 hK12 => zm tb 2 rfl (zz (i64 (Sh.len l6)) (aq_leno sl30 rfl rfl rfl) rfl (zq tb rfl (dn hK12 rfl ?_)))
 refine ci h1 rfl ?_ ?_ <;> clear h1
 ·intro b13 h1
  refine AW.skip (hK11 _ (AW.seq fun K14 hK14 => AW.block (sr rfl fun K15 hK15 => zm tb 2 rfl (bs h1 fun c16 gc16 h1 => zz (.ptr 0 0 (Int.toNat i5) 0) (aq_ixo ei30 rfl rfl rfl rfl gc16) rfl (zq tb rfl (AO.weaken (Wk.expel (id := 0) (j := 0) (i := i5) (c := c16) (ys := c16.params) (encY := eI) (x := [(.dv 3 1 (List.map eI c16.params)), (.dv 3 1 (List.map eI c16.lent)), (i64 c16.result), (i64 c16.regs), (.dv 73 6 (List.map (eRInstrD 3 3) c16.code))]) (x' := [(ow 1 0 c16.params), (.dv 3 1 (List.map eI c16.lent)), (i64 c16.result), (i64 c16.regs), (.dv 73 6 (List.map (eRInstrD 3 3) c16.code))]) (st' := [⟨0, 45, 5, hole l6 (eRProcD 3 3 73 3 3) i5 [(ow 1 0 c16.params), (.dv 3 1 (List.map eI c16.lent)), (i64 c16.result), (i64 c16.regs), (.dv 73 6 (List.map (eRInstrD 3 3) c16.code))]⟩, (ro 0 3 1 eI c16.params)]) rfl gc16 rfl rfl rfl rfl rfl) (zz (ow 1 0 c16.params) (aq_ldp ti27 rfl rfl (hole_get gc16) rfl) rfl (zq tb rfl (bs h1 fun q17 gq17 h1 => ?_)))))))))
  refine ao_callsL (rowsP := [⟨0, 3, 1, List.map eI c16.params⟩]) (rows0 := [⟨0, 3, 1, List.map eI c16.params⟩]) (rows1 := [⟨0, 3, 1, List.map eI q17.2⟩]) (rows2 := []) (rows1' := [⟨0, 3, 1, List.map eI q17.2⟩]) (rows2' := []) (st' := [⟨0, 45, 5, hole l6 (eRProcD 3 3 73 3 3) i5 [(.own 1 0 (List.length c16.params)), (.dv 3 1 (List.map eI c16.lent)), (i64 c16.result), (i64 c16.regs), (.dv 73 6 (List.map (eRInstrD 3 3) c16.code))]⟩, ⟨0, 3, 1, List.map eI q17.2⟩]) (v' := (i64 q17.1)) [1] go0 hb11 (laws_markIntS_ok gq17) rfl (by decide) rfl rfl (.pure (pure_map fun _ => rfl) .nil) rfl rfl (.pure (pure_map fun _ => rfl) .nil) .nil rfl rfl (fun hln => ?_)
  have ln18 : List.length q17.2 = List.length c16.params := by simpa only [List.length_map] using hln 0 _ _ rfl rfl rfl
  refine AO.weaken (Wk.take (id := 0) (m := 1) (j := 0) (i := i5) (c := c16) (ys := q17.2) (encY := eI) (x' := [(.dv 3 1 (List.map eI q17.2)), (.dv 3 1 (List.map eI c16.lent)), (i64 c16.result), (i64 c16.regs), (.dv 73 6 (List.map (eRInstrD 3 3) c16.code))]) (st' := [⟨0, 45, 5, hole l6 (eRProcD 3 3 73 3 3) i5 [(.dv 3 1 (List.map eI q17.2)), (.dv 3 1 (List.map eI c16.lent)), (i64 c16.result), (i64 c16.regs), (.dv 73 6 (List.map (eRInstrD 3 3) c16.code))]⟩, ⟨1, 3, 1, []⟩]) rfl gc16 rfl rfl (by first | (simp only [Sh.put_len]; done) | (simp only [Sh.put_len]; omega) | omega) (by decide) (show 1 ≤ 1 by decide) (fun _ => rfl) rfl rfl) ?_
  refine AO.weaken (Wk.filled (id := 0) (i := i5) (u := (RProc.mk q17.2 c16.lent c16.result c16.regs c16.code)) (st' := [(ro 0 45 5 (eRProcD 3 3 73 3 3) (Sh.put l6 i5 (RProc.mk q17.2 c16.lent c16.result c16.regs c16.code))), ⟨1, 3, 1, []⟩]) rfl rfl rfl) (zq tb rfl (dn hK15 rfl (sr rfl fun K19 hK19 => zm tb 2 rfl (bs h1 fun c20 gc20 h1 => ?_))))
  refine zz (.ptr 0 0 (Int.toNat i5) 0) (aq_ixo ei30 rfl rfl rfl (by first | (simp only [Sh.put_len]; done) | (simp only [Sh.put_len]; omega) | omega) gc20) rfl ?_
  refine zq tb rfl (AO.weaken (Wk.expel (id := 0) (j := 1) (i := i5) (c := c20) (ys := c20.lent) (encY := eI) (x := [(.dv 3 1 (List.map eI c20.params)), (.dv 3 1 (List.map eI c20.lent)), (i64 c20.result), (i64 c20.regs), (.dv 73 6 (List.map (eRInstrD 3 3) c20.code))]) (x' := [(.dv 3 1 (List.map eI c20.params)), (ow 2 0 c20.lent), (i64 c20.result), (i64 c20.regs), (.dv 73 6 (List.map (eRInstrD 3 3) c20.code))]) (st' := [⟨0, 45, 5, hole (Sh.put l6 i5 (RProc.mk q17.2 c16.lent c16.result c16.regs c16.code)) (eRProcD 3 3 73 3 3) i5 [(.dv 3 1 (List.map eI c20.params)), (ow 2 0 c20.lent), (i64 c20.result), (i64 c20.regs), (.dv 73 6 (List.map (eRInstrD 3 3) c20.code))]⟩, ⟨1, 3, 1, []⟩, (ro 0 3 1 eI c20.lent)]) rfl gc20 rfl rfl rfl rfl rfl) (zz (ow 2 0 c20.lent) (aq_ldp ti27 rfl rfl (hole_get gc20) rfl) rfl (zq tb rfl (bs h1 fun q21 gq21 h1 => ?_))))
  refine ao_callsL (rowsP := [⟨0, 3, 1, List.map eI c20.lent⟩]) (rows0 := [⟨0, 3, 1, List.map eI c20.lent⟩]) (rows1 := [⟨0, 3, 1, List.map eI q21.2⟩]) (rows2 := []) (rows1' := [⟨0, 3, 1, List.map eI q21.2⟩]) (rows2' := []) (st' := [⟨0, 45, 5, hole (Sh.put l6 i5 (RProc.mk q17.2 c16.lent c16.result c16.regs c16.code)) (eRProcD 3 3 73 3 3) i5 [(.dv 3 1 (List.map eI c20.params)), (.own 2 0 (List.length c20.lent)), (i64 c20.result), (i64 c20.regs), (.dv 73 6 (List.map (eRInstrD 3 3) c20.code))]⟩, ⟨1, 3, 1, []⟩, ⟨0, 3, 1, List.map eI q21.2⟩]) (v' := (i64 q21.1)) [2] go0 hb11 (laws_markIntS_ok gq21) rfl (by decide) rfl rfl (.pure (pure_map fun _ => rfl) .nil) rfl rfl (.pure (pure_map fun _ => rfl) .nil) .nil rfl rfl (fun hln => ?_)
  have ln22 : List.length q21.2 = List.length c20.lent := by simpa only [List.length_map] using hln 0 _ _ rfl rfl rfl
  refine AO.weaken (Wk.take (id := 0) (m := 2) (j := 1) (i := i5) (c := c20) (ys := q21.2) (encY := eI) (x' := [(.dv 3 1 (List.map eI c20.params)), (.dv 3 1 (List.map eI q21.2)), (i64 c20.result), (i64 c20.regs), (.dv 73 6 (List.map (eRInstrD 3 3) c20.code))]) (st' := [⟨0, 45, 5, hole (Sh.put l6 i5 (RProc.mk q17.2 c16.lent c16.result c16.regs c16.code)) (eRProcD 3 3 73 3 3) i5 [(.dv 3 1 (List.map eI c20.params)), (.dv 3 1 (List.map eI q21.2)), (i64 c20.result), (i64 c20.regs), (.dv 73 6 (List.map (eRInstrD 3 3) c20.code))]⟩, ⟨1, 3, 1, []⟩, ⟨1, 3, 1, []⟩]) rfl gc20 rfl rfl (by first | (simp only [Sh.put_len]; done) | (simp only [Sh.put_len]; omega) | omega) (by decide) (show 1 ≤ 2 by decide) (fun _ => rfl) rfl rfl) ?_
  refine AO.weaken (Wk.filled (id := 0) (i := i5) (u := (RProc.mk c20.params q21.2 c20.result c20.regs c20.code)) (st' := [(ro 0 45 5 (eRProcD 3 3 73 3 3) (Sh.put (Sh.put l6 i5 (RProc.mk q17.2 c16.lent c16.result c16.regs c16.code)) i5 (RProc.mk c20.params q21.2 c20.result c20.regs c20.code))), ⟨1, 3, 1, []⟩, ⟨1, 3, 1, []⟩]) rfl rfl rfl) (zq tb rfl (dn hK19 rfl (sr rfl fun K23 hK23 => zm tb 3 rfl (bs h1 fun c24 gc24 h1 => ?_))))
  refine zz (.ptr 0 0 (Int.toNat i5) 0) (aq_ixo ei30 rfl rfl rfl (by first | (simp only [Sh.put_len]; done) | (simp only [Sh.put_len]; omega) | omega) gc24) rfl ?_
  refine zq tb rfl (ao_stl (st' := [(ro 0 45 5 (eRProcD 3 3 73 3 3) (Sh.put (Sh.put (Sh.put l6 i5 (RProc.mk q17.2 c16.lent c16.result c16.regs c16.code)) i5 (RProc.mk c20.params q21.2 c20.result c20.regs c20.code)) i5 (RProc.mk c24.params c24.lent q21.1 c24.regs c24.code))), ⟨1, 3, 1, []⟩, ⟨1, 3, 1, []⟩]) (u' := (RProc.mk c24.params c24.lent q21.1 c24.regs c24.code)) go0 ti3 rfl rfl gc24 rfl rfl rfl (show 2 + 1 ≤ 5 by decide) rfl rfl (dn hK23 rfl (zr tb rfl rfl (sr rfl fun K26 hK26 => zm tb 3 rfl (bs h1 fun c27 gc27 h1 => ?_)))))
  refine zz (.ptr 0 0 (Int.toNat i5) 0) (aq_ixo ei30 rfl rfl rfl (by first | (simp only [Sh.put_len]; done) | (simp only [Sh.put_len]; omega) | omega) gc27) rfl ?_
  refine zq tb rfl (ao_stl (st' := [(ro 0 45 5 (eRProcD 3 3 73 3 3) (Sh.put (Sh.put (Sh.put (Sh.put l6 i5 (RProc.mk q17.2 c16.lent c16.result c16.regs c16.code)) i5 (RProc.mk c20.params q21.2 c20.result c20.regs c20.code)) i5 (RProc.mk c24.params c24.lent q21.1 c24.regs c24.code)) i5 (RProc.mk c27.params c27.lent c27.result (Sh.w (q21.1 + 1)) c27.code))), ⟨1, 3, 1, []⟩, ⟨1, 3, 1, []⟩]) (u' := (RProc.mk c27.params c27.lent c27.result (Sh.w (q21.1 + 1)) c27.code)) go0 ti3 rfl rfl gc27 rfl rfl rfl (show 3 + 1 ≤ 5 by decide) rfl rfl (dn hK26 rfl (zr tb rfl rfl (AW.regionO rfl (zm tb 2 rfl (bs h1 fun c29 gc29 h1 => ?_))))))
  refine zz (.ptr 0 0 (Int.toNat i5) 0) (aq_ixo ei30 rfl rfl rfl (by first | (simp only [Sh.put_len]; done) | (simp only [Sh.put_len]; omega) | omega) gc29) rfl ?_
  refine zq tb rfl (AO.weaken (Wk.expel (id := 0) (j := 4) (i := i5) (c := c29) (ys := c29.code) (encY := (eRInstrD 3 3)) (x := [(.dv 3 1 (List.map eI c29.params)), (.dv 3 1 (List.map eI c29.lent)), (i64 c29.result), (i64 c29.regs), (.dv 73 6 (List.map (eRInstrD 3 3) c29.code))]) (x' := [(.dv 3 1 (List.map eI c29.params)), (.dv 3 1 (List.map eI c29.lent)), (i64 c29.result), (i64 c29.regs), (ow 3 0 c29.code)]) (st' := [⟨0, 45, 5, hole (Sh.put (Sh.put (Sh.put (Sh.put l6 i5 (RProc.mk q17.2 c16.lent c16.result c16.regs c16.code)) i5 (RProc.mk c20.params q21.2 c20.result c20.regs c20.code)) i5 (RProc.mk c24.params c24.lent q21.1 c24.regs c24.code)) i5 (RProc.mk c27.params c27.lent c27.result (Sh.w (q21.1 + 1)) c27.code)) (eRProcD 3 3 73 3 3) i5 [(.dv 3 1 (List.map eI c29.params)), (.dv 3 1 (List.map eI c29.lent)), (i64 c29.result), (i64 c29.regs), (ow 3 0 c29.code)]⟩, ⟨1, 3, 1, []⟩, ⟨1, 3, 1, []⟩, (ro 0 73 6 (eRInstrD 3 3) c29.code)]) rfl gc29 rfl rfl rfl rfl rfl) (zz (ow 3 0 c29.code) (aq_ldp ti43 rfl rfl (hole_get gc29) rfl) rfl (zq tb rfl (bs h1 fun q30 gq30 h1 => ?_))))
  refine ao_callsL (rowsP := [⟨0, 73, 6, List.map (eRInstrD 3 3) c29.code⟩]) (rows0 := [⟨0, 73, 6, List.map (eRInstrD 3 3) c29.code⟩]) (rows1 := [⟨0, 73, 6, List.map (eRInstrD 3 3) q30.2⟩]) (rows2 := []) (rows1' := [⟨0, 73, 6, List.map (eRInstrD 3 3) q30.2⟩]) (rows2' := []) (st' := [⟨0, 45, 5, hole (Sh.put (Sh.put (Sh.put (Sh.put l6 i5 (RProc.mk q17.2 c16.lent c16.result c16.regs c16.code)) i5 (RProc.mk c20.params q21.2 c20.result c20.regs c20.code)) i5 (RProc.mk c24.params c24.lent q21.1 c24.regs c24.code)) i5 (RProc.mk c27.params c27.lent c27.result (Sh.w (q21.1 + 1)) c27.code)) (eRProcD 3 3 73 3 3) i5 [(.dv 3 1 (List.map eI c29.params)), (.dv 3 1 (List.map eI c29.lent)), (i64 c29.result), (i64 c29.regs), (.own 3 0 (List.length c29.code))]⟩, ⟨1, 3, 1, []⟩, ⟨1, 3, 1, []⟩, ⟨0, 73, 6, List.map (eRInstrD 3 3) q30.2⟩]) (v' := (i64 q30.1)) [3] go0 hb47 (laws_markInstrS_ok gq30) rfl (by decide) rfl rfl (.deep (pure_mapD fun _ => rfl) .nil) rfl rfl (.deep (pure_mapD fun _ => rfl) .nil) .nil rfl rfl (fun hln => ?_)
  have ln31 : List.length q30.2 = List.length c29.code := by simpa only [List.length_map] using hln 0 _ _ rfl rfl rfl
  refine AO.weaken (Wk.take (id := 0) (m := 3) (j := 4) (i := i5) (c := c29) (ys := q30.2) (encY := (eRInstrD 3 3)) (x' := [(.dv 3 1 (List.map eI c29.params)), (.dv 3 1 (List.map eI c29.lent)), (i64 c29.result), (i64 c29.regs), (.dv 73 6 (List.map (eRInstrD 3 3) q30.2))]) (st' := [⟨0, 45, 5, hole (Sh.put (Sh.put (Sh.put (Sh.put l6 i5 (RProc.mk q17.2 c16.lent c16.result c16.regs c16.code)) i5 (RProc.mk c20.params q21.2 c20.result c20.regs c20.code)) i5 (RProc.mk c24.params c24.lent q21.1 c24.regs c24.code)) i5 (RProc.mk c27.params c27.lent c27.result (Sh.w (q21.1 + 1)) c27.code)) (eRProcD 3 3 73 3 3) i5 [(.dv 3 1 (List.map eI c29.params)), (.dv 3 1 (List.map eI c29.lent)), (i64 c29.result), (i64 c29.regs), (.dv 73 6 (List.map (eRInstrD 3 3) q30.2))]⟩, ⟨1, 3, 1, []⟩, ⟨1, 3, 1, []⟩, ⟨1, 73, 6, []⟩]) rfl gc29 rfl rfl (by first | (simp only [Sh.put_len]; done) | (simp only [Sh.put_len]; omega) | omega) (by decide) (show 1 ≤ 3 by decide) (fun _ => rfl) rfl rfl) ?_
  refine AO.weaken (Wk.filled (id := 0) (i := i5) (u := (RProc.mk c29.params c29.lent c29.result c29.regs q30.2)) (st' := [(ro 0 45 5 (eRProcD 3 3 73 3 3) (Sh.put (Sh.put (Sh.put (Sh.put (Sh.put l6 i5 (RProc.mk q17.2 c16.lent c16.result c16.regs c16.code)) i5 (RProc.mk c20.params q21.2 c20.result c20.regs c20.code)) i5 (RProc.mk c24.params c24.lent q21.1 c24.regs c24.code)) i5 (RProc.mk c27.params c27.lent c27.result (Sh.w (q21.1 + 1)) c27.code)) i5 (RProc.mk c29.params c29.lent c29.result c29.regs q30.2))), ⟨1, 3, 1, []⟩, ⟨1, 3, 1, []⟩, ⟨1, 73, 6, []⟩]) rfl rfl rfl) (zq tb rfl (dn hK14 rfl (AW.regionO rfl (zm tb 3 rfl ?_))))
  exact AO.done (xi (q30.1, Sh.w (i5 + 1), Sh.put (Sh.put (Sh.put (Sh.put (Sh.put l6 i5 (RProc.mk q17.2 c16.lent c16.result c16.regs c16.code)) i5 (RProc.mk c20.params q21.2 c20.result c20.regs c20.code)) i5 (RProc.mk c24.params c24.lent q21.1 c24.regs c24.code)) i5 (RProc.mk c27.params c27.lent c27.result (Sh.w (q21.1 + 1)) c27.code)) i5 (RProc.mk c29.params c29.lent c29.result c29.regs q30.2)) h1 (by refine Wk.trans (Wk.permk (L := [(0, (.own 0 0 (List.length l6))), (1, (i64 q30.1)), (5, (i64 (Sh.w (i5 + 1))))]) (st' := [⟨0, 45, 5, List.map (eRProcD 3 3 73 3 3) (Sh.put (Sh.put (Sh.put (Sh.put (Sh.put l6 i5 (RProc.mk q17.2 c16.lent c16.result c16.regs c16.code)) i5 (RProc.mk c20.params q21.2 c20.result c20.regs c20.code)) i5 (RProc.mk c24.params c24.lent q21.1 c24.regs c24.code)) i5 (RProc.mk c27.params c27.lent c27.result (Sh.w (q21.1 + 1)) c27.code)) i5 (RProc.mk c29.params c29.lent c29.result c29.regs q30.2))⟩]) (st1 := [⟨0, 45, 5, List.map (eRProcD 3 3 73 3 3) (Sh.put (Sh.put (Sh.put (Sh.put (Sh.put l6 i5 (RProc.mk q17.2 c16.lent c16.result c16.regs c16.code)) i5 (RProc.mk c20.params q21.2 c20.result c20.regs c20.code)) i5 (RProc.mk c24.params c24.lent q21.1 c24.regs c24.code)) i5 (RProc.mk c27.params c27.lent c27.result (Sh.w (q21.1 + 1)) c27.code)) i5 (RProc.mk c29.params c29.lent c29.result c29.regs q30.2))⟩]) [0] rfl (.deep (pure_mapD fun _ => rfl) .nil) (by decide) rfl rfl (.deep (pure_mapD fun _ => rfl) .nil) ⟨.rfl, .rfl, .rfl, trivial⟩) ?_; exact Wk.to (L := [(0, (.own 0 0 (List.length (Sh.put (Sh.put (Sh.put (Sh.put (Sh.put l6 i5 (RProc.mk q17.2 c16.lent c16.result c16.regs c16.code)) i5 (RProc.mk c20.params q21.2 c20.result c20.regs c20.code)) i5 (RProc.mk c24.params c24.lent q21.1 c24.regs c24.code)) i5 (RProc.mk c27.params c27.lent c27.result (Sh.w (q21.1 + 1)) c27.code)) i5 (RProc.mk c29.params c29.lent c29.result c29.regs q30.2))))), (1, (i64 q30.1)), (5, (i64 (Sh.w (i5 + 1))))]) ⟨(.len (by first | (simp only [Sh.put_len]; done) | (simp only [Sh.put_len]; omega) | omega)), .rfl, .rfl, trivial⟩))
 ·intro b13 h1
  exact AW.exit (M9 k4 l6 (Sh.some_eq h1).symm _ (Wk.tr rfl))
theorem laws_markImage_ok {N : Nat} {s0 : (List RDecl)} {s1 : (List RProc)} {p1 : Int} {r : Int × (List RDecl) × (List RProc)} (h0 : laws_markImage N s0 s1 p1 = some r) : ACalls Try.prog 10 [(.agg [(ow 0 0 s0), (ow 1 0 s1)]), (i64 p1)] [(ro 0 78 3 (eRDeclD 117 3) s0), (ro 0 45 5 (eRProcD 3 3 73 3 3) s1)] (fun v st => v = (i64 r.1) ∧ st = [(ro 0 78 3 (eRDeclD 117 3) r.2.1), (ro 0 45 5 (eRProcD 3 3 73 3 3) r.2.2)]) := by
 unfold laws_markImage at h0
 refine ai Try.func10 rfl rfl rfl rfl (sr rfl fun K1 hK1 => ao_box (m := 2) (st' := [(ro 0 78 3 (eRDeclD 117 3) s0), (ro 0 45 5 (eRProcD 3 3 73 3 3) s1), ⟨0, 32, 2, [[(ow 0 0 s0), (ow 1 0 s1)]]⟩]) go0 rfl rfl rfl rfl rfl (zq tb rfl (dn hK1 rfl (sr rfl fun K2 hK2 => zm tb 3 rfl (bs h0 fun q3 gq3 h0 => ?_)))))
 refine ao_callsL (rowsP := [⟨0, 78, 3, List.map (eRDeclD 117 3) s0⟩]) (rows0 := [⟨0, 78, 3, List.map (eRDeclD 117 3) s0⟩]) (rows1 := [⟨0, 78, 3, List.map (eRDeclD 117 3) q3.2⟩]) (rows2 := []) (rows1' := [⟨0, 78, 3, List.map (eRDeclD 117 3) q3.2⟩]) (rows2' := []) (st' := [⟨0, 78, 3, List.map (eRDeclD 117 3) q3.2⟩, ⟨0, 45, 5, List.map (eRProcD 3 3 73 3 3) s1⟩, ⟨0, 32, 2, [[(.own 0 0 (List.length s0)), (.own 1 0 (List.length s1))]]⟩]) (v' := (i64 q3.1)) [0] go0 hb25 (laws_markDeclS_ok gq3) rfl (by decide) rfl rfl (.deep (pure_mapD fun _ => rfl) .nil) rfl rfl (.deep (pure_mapD fun _ => rfl) .nil) .nil rfl rfl (fun hln => ?_)
 have ln4 : List.length q3.2 = List.length s0 := by simpa only [List.length_map] using hln 0 _ _ rfl rfl rfl
 refine zq tb rfl (dn hK2 rfl (sr rfl fun K5 hK5 => zm tb 3 rfl (bs h0 fun q6 gq6 h0 => ?_)))
 refine ao_callsL (rowsP := [⟨0, 45, 5, List.map (eRProcD 3 3 73 3 3) s1⟩]) (rows0 := [⟨0, 45, 5, List.map (eRProcD 3 3 73 3 3) s1⟩]) (rows1 := [⟨0, 45, 5, List.map (eRProcD 3 3 73 3 3) q6.2⟩]) (rows2 := []) (rows1' := [⟨0, 45, 5, List.map (eRProcD 3 3 73 3 3) q6.2⟩]) (rows2' := []) (st' := [⟨0, 78, 3, List.map (eRDeclD 117 3) q3.2⟩, ⟨0, 45, 5, List.map (eRProcD 3 3 73 3 3) q6.2⟩, ⟨0, 32, 2, [[(.own 0 0 (List.length s0)), (.own 1 0 (List.length s1))]]⟩]) (v' := (i64 q6.1)) [1] go0 hb26 (laws_markProcS_ok gq6) rfl (by decide) rfl rfl (.deep (pure_mapD fun _ => rfl) .nil) rfl rfl (.deep (pure_mapD fun _ => rfl) .nil) .nil rfl rfl (fun hln => ?_)
 have ln7 : List.length q6.2 = List.length s1 := by simpa only [List.length_map] using hln 0 _ _ rfl rfl rfl
 refine zq tb rfl (dn hK5 rfl (zr tb rfl rfl ?_))
 replace h0 := Sh.some_eq h0
 subst r
 exact AW.ret (Exists.intro _ (And.intro (((Wk.steq (st := [⟨0, 78, 3, List.map (eRDeclD 117 3) q3.2⟩, ⟨0, 45, 5, List.map (eRProcD 3 3 73 3 3) q6.2⟩, ⟨0, 32, 2, [[(.own 0 0 (List.length s0)), (.own 1 0 (List.length s1))]]⟩]) (st' := [⟨0, 78, 3, List.map (eRDeclD 117 3) q3.2⟩, ⟨0, 45, 5, List.map (eRProcD 3 3 73 3 3) q6.2⟩, ⟨0, 32, 2, [[(.own 0 0 (List.length q3.2)), (.own 1 0 (List.length q6.2))]]⟩]) (by first | (simp only [Sh.put_len]; done) | simp only [Sh.put_len, ln4, ln7] | simp only [ln4, ln7])).trans (Wk.permk (L := [(4, (i64 q6.1))]) (st' := [⟨0, 78, 3, List.map (eRDeclD 117 3) q3.2⟩, ⟨0, 45, 5, List.map (eRProcD 3 3 73 3 3) q6.2⟩]) (st1 := [⟨0, 78, 3, List.map (eRDeclD 117 3) q3.2⟩, ⟨0, 45, 5, List.map (eRProcD 3 3 73 3 3) q6.2⟩]) [0, 1] rfl (.deep (pure_mapD fun _ => rfl) (.deep (pure_mapD fun _ => rfl) .nil)) (by decide) rfl rfl (.deep (pure_mapD fun _ => rfl) (.deep (pure_mapD fun _ => rfl) .nil)) ⟨.rfl, trivial⟩)).trans (Wk.to (L := [(4, (i64 q6.1))]) ⟨.rfl, trivial⟩)) (And.intro rfl rfl)))
theorem laws_heldIntS_ok {N : Nat} {p0 : (List Int)} {p1 : Int} {r : Int} (h0 : laws_heldIntS N p0 p1 = some r) : ACalls Try.prog 12 [(ls eI p0), (i64 p1)] [] (fun v st => v = (i64 r) ∧ st = []) := by
 unfold laws_heldIntS at h0
 refine ai Try.func12 rfl rfl rfl rfl (zr tb rfl rfl (AW.seq fun K2 hK2 => zr tb rfl rfl ?_))
 obtain ⟨o7, h1, h0⟩ := Sh.cont_some h0
 have M7 : ∀ (k6 : Int), o7 = Sum.inr k6 → ∀ s, Wk 0 s ⟨21, envL [(1, (i64 k6))], []⟩ → K2 s := by
  intro k6 hq s hw
  subst o7
  try dsimp only at h0
  refine hK2 _ (AW.weaken hw (zr tb rfl rfl ?_))
  replace h0 := Sh.some_eq h0
  subst r
  exact AW.ret (xr (Wk.to (L := [(4, (i64 k6))]) ⟨.rfl, trivial⟩))
 refine AW.block (AW.loopF (σ := Int × Int) (fun n v => laws_heldIntS_L1 p0 n v.1 v.2 = some o7) (fun (k4, i5) => ⟨21, envL [(0, (ls eI p0)), (1, (i64 k4)), (5, (i64 i5))], []⟩) N (p1, 0) h1 (Wk.tr rfl) (fun _ hv => by rw [laws_heldIntS_L1] at hv; cases hv) ?_)
 rintro n ⟨k4, i5⟩ h1
 try dsimp only at h1 ⊢
 rw [laws_heldIntS_L1] at h1
 refine AW.seq fun K9 hK9 => sr rfl fun K10 hK10 => zm tb 2 rfl (zl tb rfl rfl (zq tb rfl (dn hK10 rfl ?_)))
 refine ci h1 rfl ?_ ?_ <;> clear h1
 ·intro b11 h1
  refine AW.skip (hK9 _ (AW.seq fun K12 hK12 => AW.block (AW.seq fun K13 hK13 => sr rfl fun K14 hK14 => zm tb 2 rfl (bs h1 fun c15 gc15 h1 => zx ei27 gc15 rfl rfl rfl (zm tb 3 rfl (dn hK14 rfl ?_))))))
  refine ci h1 rfl ?_ ?_ <;> clear h1
  ·intro b16 h1
   have b17 : decide (c15 = k4) = false := by simpa using b16
   refine zr tb rfl rfl ?_
   replace h1 := Sh.some_eq h1
   subst o7
   try dsimp only [id] at h0
   replace h0 := Sh.some_eq h0
   subst r
   exact AW.ret (xr (Wk.to (L := [(4, (i64 (-1)))]) ⟨.rfl, trivial⟩))
  ·intro b16 h1
   have b19 : decide (c15 = k4) = true := by simpa using b16
   exact AW.skip (hK13 _ (AW.regionO rfl (zm tb 3 rfl (dn hK12 rfl (AW.regionO rfl (zm tb 3 rfl (AO.done (xi (Sh.w (k4 + 1), Sh.w (i5 + 1)) h1 (Wk.tr rfl)))))))))
 ·intro b11 h1
  exact AW.exit (M7 k4 (Sh.some_eq h1).symm _ (Wk.tr rfl))
theorem laws_FnExactLiveRegs_ok {N : Nat} {p0 : RImage} {p1 : Int} {p2 : Int} {r : Bool} (h0 : laws_FnExactLiveRegs N p0 p1 p2 = some r) : ACalls Try.prog 3 [(.agg (eRImage p0)), (i64 p1), (i64 p2)] [] (fun v st => v = (.bool r) ∧ st = []) := by
 unfold laws_FnExactLiveRegs at h0
 refine ai Try.func3 rfl rfl rfl rfl (sr rfl fun K1 hK1 => ao_box (m := 0) (st' := [⟨0, 25, 2, [(eRImage p0)]⟩]) go0 rfl rfl rfl rfl rfl (zq tb rfl (dn hK1 rfl (zr tb rfl rfl (sr rfl fun K3 hK3 => zm tb 2 rfl (bs h0 fun q4 gq4 h0 => zc hb4 (laws_szImage_ok gq4) rfl rfl rfl (zq tb rfl (dn hK3 rfl ?_))))))))
 refine AW.seq fun K5 hK5 => zr tb rfl rfl ?_
 refine ci h0 rfl ?_ ?_ <;> clear h0
 ·intro b7 h0
  refine zr tb rfl rfl ?_
  replace h0 := Sh.some_eq h0
  subst r
  exact AW.ret (xr (Wk.d0 [(6, (.bool true))] rfl))
 ·intro b7 h0
  refine AW.skip (hK5 _ (sr rfl fun K9 hK9 => zq tb rfl (bs h0 fun q10 gq10 h0 => zc (v' := (.agg (eRImage q10))) hb6 (laws_toImage_ok gq10) rfl rfl rfl (zm tb 2 rfl (bs h0 fun q11 gq11 h0 => ao_call (v' := (ow 1 0 q11)) (st' := [⟨0, 25, 2, [(eRImage p0)]⟩, (ro 0 3 1 eI q11)]) go0 hb5 (spec_LiveRegs_ok gq11) rfl rfl ⟨(pure_map' fun _ => rfl), trivial⟩ rfl rfl (zq tb rfl (dn hK9 rfl (sr rfl fun K12 hK12 => zq tb rfl ?_))))))))
  refine bs h0 fun q13 gq13 h0 => ao_call (v' := (.agg [(ow 2 0 q13.decls), (ow 3 0 q13.procs)])) (st' := [⟨0, 25, 2, [(eRImage p0)]⟩, (ro 0 3 1 eI q11), (ro 0 78 3 (eRDeclD 117 3) q13.decls), (ro 0 45 5 (eRProcD 3 3 73 3 3) q13.procs)]) go0 hb6 (laws_toImage_2_ok gq13) rfl rfl ⟨(pure_mapD fun _ => rfl), ⟨(pure_mapD fun _ => rfl), trivial⟩⟩ rfl rfl (ao_alloc (m := 4) (st' := [⟨0, 25, 2, [(eRImage p0)]⟩, (ro 0 3 1 eI q11), (ro 0 78 3 (eRDeclD 117 3) q13.decls), (ro 0 45 5 (eRProcD 3 3 73 3 3) q13.procs), ⟨0, 32, 2, [[.zc, .zc]]⟩]) go0 zi32 rfl rfl (ao_str (st' := [⟨0, 25, 2, [(eRImage p0)]⟩, (ro 0 3 1 eI q11), (ro 0 78 3 (eRDeclD 117 3) q13.decls), (ro 0 45 5 (eRProcD 3 3 73 3 3) q13.procs), ⟨0, 32, 2, [[(ow 2 0 q13.decls), (ow 3 0 q13.procs)]]⟩]) go0 ti32 rfl rfl rfl rfl rfl rfl (show 0 + 2 ≤ 2 by decide) rfl (dn hK12 rfl (sr rfl fun K14 hK14 => zm tb 3 rfl (bs h0 fun q15 gq15 h0 => ao_callb (v' := (ow 5 0 q15)) (st' := [⟨0, 25, 2, [(eRImage p0)]⟩, (ro 0 3 1 eI q11), (ro 0 78 3 (eRDeclD 117 3) q13.decls), (ro 0 45 5 (eRProcD 3 3 73 3 3) q13.procs), ⟨0, 32, 2, [[(ow 2 0 q13.decls), (ow 3 0 q13.procs)]]⟩, (ro 0 3 1 eI q15)]) go0 hb7 (impl_LiveRegs_ok gq15) rfl (.agg (.ownD rfl rfl (fun _ => rfl) (fun x => eRDeclD_und x) (.ownD rfl rfl (fun _ => rfl) (fun x => eRProcD_und x) .nil)) (.val rfl (.val rfl .nil))) rfl (srow (fun _ => rfl) trivial) rfl rfl (zq tb rfl (dn hK14 rfl (AW.seq fun K16 hK16 => ?_))))))))
  refine sr rfl fun K17 hK17 => zm tb 2 rfl (bs h0 fun q18 gq18 h0 => ao_callb (v' := (.bool q18)) (st' := [⟨0, 25, 2, [(eRImage p0)]⟩, (ro 0 3 1 eI q11), (ro 0 78 3 (eRDeclD 117 3) q13.decls), (ro 0 45 5 (eRProcD 3 3 73 3 3) q13.procs), ⟨0, 32, 2, [[(ow 2 0 q13.decls), (ow 3 0 q13.procs)]]⟩, (ro 0 3 1 eI q15)]) go0 hb8 (laws_eqIntS_ok gq18) rfl (.own rfl rfl (fun _ => rfl) (.own rfl rfl (fun _ => rfl) .nil)) rfl trivial rfl rfl (zq tb rfl (dn hK17 rfl ?_)))
  refine ci h0 rfl ?_ ?_ <;> clear h0
  ·intro b19 h0
   have b20 : q18 = false := by simpa using b19
   refine zr tb rfl rfl ?_
   replace h0 := Sh.some_eq h0
   subst r
   exact AW.ret (xr (Wk.d0 [(6, (.bool false))] rfl))
  ·intro b19 h0
   have b22 : q18 = true := by simpa using b19
   refine AW.skip (hK16 _ (AW.seq fun K23 hK23 => AW.seq fun K24 hK24 => ?_))
   refine AW.draw (by kernel_rfl) (by kernel_rfl) (by rfl) ?_
   iterate 2 refine yq tb rfl ?_
   refine bs h0 fun q25 gq25 h0 => d_call (v := (.agg (eRImage q25))) go0 hb6 (laws_toImage_ok gq25) rfl rfl rfl (bs h0 fun q26 gq26 h0 => d_callb (v' := (.bool q26)) go0 hb9 (laws_eqImage_ok gq26) rfl (.agg (.ownD rfl rfl (fun _ => rfl) (fun x => eRDeclD_und x) (.ownD rfl rfl (fun _ => rfl) (fun x => eRProcD_und x) .nil)) (.val rfl .nil)) rfl rfl (yq tb rfl (d_done (hK24 _ ?_))))
   refine ci h0 rfl ?_ ?_ <;> clear h0
   ·intro b27 h0
    have b28 : q26 = false := by simpa using b27
    refine zr tb rfl rfl ?_
    replace h0 := Sh.some_eq h0
    subst r
    exact AW.ret (xr (Wk.d0 [(6, (.bool false))] rfl))
   ·intro b27 h0
    have b30 : q26 = true := by simpa using b27
    refine AW.skip (hK23 _ (zr tb rfl rfl (sr rfl fun K32 hK32 => zm tb 2 rfl (bs h0 fun q33 gq33 h0 => ?_))))
    refine ao_callsL (rowsP := [⟨0, 78, 3, List.map (eRDeclD 117 3) q13.decls⟩, ⟨0, 45, 5, List.map (eRProcD 3 3 73 3 3) q13.procs⟩]) (rows0 := [⟨0, 78, 3, List.map (eRDeclD 117 3) q13.decls⟩, ⟨0, 45, 5, List.map (eRProcD 3 3 73 3 3) q13.procs⟩]) (rows1 := [⟨0, 78, 3, List.map (eRDeclD 117 3) q33.2.1⟩, ⟨0, 45, 5, List.map (eRProcD 3 3 73 3 3) q33.2.2⟩]) (rows2 := []) (rows1' := [⟨0, 78, 3, List.map (eRDeclD 117 3) q33.2.1⟩, ⟨0, 45, 5, List.map (eRProcD 3 3 73 3 3) q33.2.2⟩]) (rows2' := []) (st' := [⟨0, 25, 2, [(eRImage p0)]⟩, ⟨0, 3, 1, List.map eI q11⟩, ⟨0, 78, 3, List.map (eRDeclD 117 3) q33.2.1⟩, ⟨0, 45, 5, List.map (eRProcD 3 3 73 3 3) q33.2.2⟩, ⟨0, 32, 2, [[(.own 2 0 (List.length q13.decls)), (.own 3 0 (List.length q13.procs))]]⟩, ⟨0, 3, 1, List.map eI q15⟩]) (v' := (i64 q33.1)) [2, 3] go0 hb10 (laws_markImage_ok gq33) rfl (by decide) rfl rfl (.deep (pure_mapD fun _ => rfl) (.deep (pure_mapD fun _ => rfl) .nil)) rfl rfl (.deep (pure_mapD fun _ => rfl) (.deep (pure_mapD fun _ => rfl) .nil)) .nil rfl rfl (fun hln => ?_)
    have ln34 : List.length q33.2.1 = List.length q13.decls := by simpa only [List.length_map] using hln 0 _ _ rfl rfl rfl
    have ln35 : List.length q33.2.2 = List.length q13.procs := by simpa only [List.length_map] using hln 1 _ _ rfl rfl rfl
    refine zq tb rfl (dn hK32 rfl (AW.seq fun K36 hK36 => AW.seq fun K37 hK37 => bs h0 fun o39 h1 h0 => ?_))
    have M39 : ∀ (t38 : Bool), o39 = t38 → ∀ s, Wk 0 s ⟨79, envL [(1, (i64 p1)), (2, (i64 p2)), (3, (.ptr 0 0 0 0)), (8, (ow 1 0 q11)), (10, (ow 2 0 q15)), (50, (.bool t38))], [⟨0, 25, 2, [(eRImage p0)]⟩, (ro 0 3 1 eI q11), (ro 0 3 1 eI q15)]⟩ → K37 s := by
     intro t38 hq s hw
     subst o39
     try dsimp only at h0
     refine hK37 _ (AW.weaken hw ?_)
     refine ci h0 rfl ?_ ?_ <;> clear h0
     ·intro b40 h0
      refine zr tb rfl rfl ?_
      replace h0 := Sh.some_eq h0
      subst r
      exact AW.ret (xr (Wk.d0 [(6, (.bool false))] rfl))
     ·intro b40 h0
      refine AW.skip (hK36 _ (zr tb rfl rfl (sr rfl fun K43 hK43 => zm tb 2 rfl (bs h0 fun q44 gq44 h0 => ?_))))
      refine ao_callsL (rowsP := [⟨0, 3, 1, List.map eI q15⟩]) (rows0 := [⟨0, 3, 1, List.map eI q15⟩]) (rows1 := [⟨0, 3, 1, List.map eI q44.2⟩]) (rows2 := []) (rows1' := [⟨0, 3, 1, List.map eI q44.2⟩]) (rows2' := []) (st' := [⟨0, 25, 2, [(eRImage p0)]⟩, ⟨0, 3, 1, List.map eI q11⟩, ⟨0, 3, 1, List.map eI q44.2⟩]) (v' := (i64 q44.1)) [2] go0 hb11 (laws_markIntS_ok gq44) rfl (by decide) rfl rfl (.pure (pure_map fun _ => rfl) .nil) rfl rfl (.pure (pure_map fun _ => rfl) .nil) .nil rfl rfl (fun hln => ?_)
      have ln45 : List.length q44.2 = List.length q15 := by simpa only [List.length_map] using hln 0 _ _ rfl rfl rfl
      refine zq tb rfl (dn hK43 rfl (zr tb rfl rfl (sr rfl fun K47 hK47 => zm tb 2 rfl (bs h0 fun q48 gq48 h0 => ?_))))
      refine ao_callb (v' := (i64 q48)) (st' := [⟨0, 25, 2, [(eRImage p0)]⟩, ⟨0, 3, 1, List.map eI q11⟩, ⟨0, 3, 1, List.map eI q44.2⟩]) go0 hb12 (laws_heldIntS_ok gq48) rfl (.own rfl (by first | (simp only [Sh.put_len]; done) | (simp only [Sh.put_len]; omega) | omega) (fun _ => rfl) (.val rfl .nil)) rfl trivial rfl rfl ?_
      refine zq tb rfl (dn hK47 rfl (AW.seq fun K49 hK49 => zr tb rfl rfl ?_))
      refine ci h0 rfl ?_ ?_ <;> clear h0
      ·intro b51 h0
       refine zr tb rfl rfl ?_
       replace h0 := Sh.some_eq h0
       subst r
       exact AW.ret (xr (Wk.d0 [(6, (.bool false))] rfl))
      ·intro b51 h0
       refine AW.skip (hK49 _ (AW.seq fun K53 hK53 => zr tb rfl rfl ?_))
       refine ci h0 rfl ?_ ?_ <;> clear h0
       ·intro b55 h0
        have b56 : decide (q48 = q44.1) = false := by simpa using b55
        refine zr tb rfl rfl ?_
        replace h0 := Sh.some_eq h0
        subst r
        exact AW.ret (xr (Wk.d0 [(6, (.bool false))] rfl))
       ·intro b55 h0
        have b58 : decide (q48 = q44.1) = true := by simpa using b55
        refine AW.skip (hK53 _ (sr rfl fun K59 hK59 => zq tb rfl (bs h0 fun q60 gq60 h0 => zc (v' := (.agg (eRImage q60))) hb6 (laws_toImage_ok gq60) rfl rfl rfl (zm tb 2 rfl (bs h0 fun q61 gq61 h0 => ao_call (v' := (ow 3 0 q61)) (st' := [⟨0, 25, 2, [(eRImage p0)]⟩, (ro 0 3 1 eI q11), (ro 0 3 1 eI q44.2), (ro 0 3 1 eI q61)]) go0 hb7 (impl_LiveRegs_ok gq61) rfl rfl ⟨(pure_map' fun _ => rfl), trivial⟩ rfl rfl (zq tb rfl (dn hK59 rfl (AW.seq fun K62 hK62 => sr rfl fun K63 hK63 => ?_))))))))
        refine zm tb 2 rfl (AO.weaken (Wk.frz (L := [(10, (ow 2 0 q15)), (12, (i64 q44.1)), (67, (ls eI q61)), (68, (ow 1 0 q11))]) (st' := [⟨0, 25, 2, [(eRImage p0)]⟩, (ro 0 3 1 eI q11), (ro 0 3 1 eI q44.2), ⟨1, 3, 1, []⟩]) (id := 3) rfl (show 0 ≤ 3 by decide) (pure_map fun _ => rfl) ⟨.rfl, .rfl, (.frz rfl), .rfl, trivial⟩ rfl) (AO.weaken (Wk.frz (L := [(10, (ow 2 0 q15)), (12, (i64 q44.1)), (67, (ls eI q61)), (68, (ls eI q11))]) (st' := [⟨0, 25, 2, [(eRImage p0)]⟩, ⟨1, 3, 1, []⟩, (ro 0 3 1 eI q44.2), ⟨1, 3, 1, []⟩]) (id := 1) rfl (show 0 ≤ 1 by decide) (pure_map fun _ => rfl) ⟨.rfl, .rfl, .rfl, (.frz rfl), trivial⟩ rfl) (bs h0 fun q64 gq64 h0 => zc hb8 (laws_eqIntS_ok gq64) rfl rfl rfl (zq tb rfl (dn hK63 rfl ?_)))))
        refine ci h0 rfl ?_ ?_ <;> clear h0
        ·intro b65 h0
         have b66 : q64 = false := by simpa using b65
         refine zr tb rfl rfl ?_
         replace h0 := Sh.some_eq h0
         subst r
         exact AW.ret (xr (Wk.d0 [(6, (.bool false))] rfl))
        ·intro b65 h0
         have b68 : q64 = true := by simpa using b65
         refine AW.skip (hK62 _ (zr tb rfl rfl (sr rfl fun K70 hK70 => zm tb 2 rfl ?_)))
         refine AO.weaken (Wk.frz (L := [(12, (i64 q44.1)), (71, (.sl (List.map eI q44.2))), (72, (i64 1))]) (st' := [⟨0, 25, 2, [(eRImage p0)]⟩, ⟨1, 3, 1, []⟩, ⟨1, 3, 1, []⟩, ⟨1, 3, 1, []⟩]) (id := 2) rfl (show 0 ≤ 2 by decide) (pure_map fun _ => rfl) ⟨.rfl, (.frz (by first | (simp only [Sh.put_len]; done) | (simp only [Sh.put_len]; omega) | omega)), .rfl, trivial⟩ rfl) ?_
         refine bs h0 fun q71 gq71 h0 => zc hb12 (laws_heldIntS_ok gq71) rfl rfl rfl (zq tb rfl (dn hK70 rfl (AW.seq fun K72 hK72 => zr tb rfl rfl ?_)))
         refine ci h0 rfl ?_ ?_ <;> clear h0
         ·intro b74 h0
          refine zr tb rfl rfl ?_
          replace h0 := Sh.some_eq h0
          subst r
          exact AW.ret (xr (Wk.d0 [(6, (.bool false))] rfl))
         ·intro b74 h0
          refine AW.skip (hK72 _ (AW.seq fun K76 hK76 => zr tb rfl rfl ?_))
          refine ci h0 rfl ?_ ?_ <;> clear h0
          ·intro b78 h0
           have b79 : decide (q71 = q44.1) = false := by simpa using b78
           refine zr tb rfl rfl ?_
           replace h0 := Sh.some_eq h0
           subst r
           exact AW.ret (xr (Wk.d0 [(6, (.bool false))] rfl))
          ·intro b78 h0
           have b81 : decide (q71 = q44.1) = true := by simpa using b78
           refine AW.skip (hK76 _ (zr tb rfl rfl ?_))
           replace h0 := Sh.some_eq h0
           subst r
           exact AW.ret (xr (Wk.d0 [(6, (.bool true))] rfl))
    refine AW.regionO rfl (zm tb 3 rfl ?_)
    rcases Sh.ite_some h1 with ⟨b83, h1⟩ | ⟨b83, h1⟩
    ·refine zs b83 rfl ?_
     iterate 3 refine zs b83 rfl ?_
     refine zt b83 rfl ?_
     exact AO.done (M39 true (Sh.some_eq h1).symm _ (by refine Wk.trans (Wk.steq (st := [⟨0, 25, 2, [(eRImage p0)]⟩, ⟨0, 3, 1, List.map eI q11⟩, ⟨0, 78, 3, List.map (eRDeclD 117 3) q33.2.1⟩, ⟨0, 45, 5, List.map (eRProcD 3 3 73 3 3) q33.2.2⟩, ⟨0, 32, 2, [[(.own 2 0 (List.length q13.decls)), (.own 3 0 (List.length q13.procs))]]⟩, ⟨0, 3, 1, List.map eI q15⟩]) (st' := [⟨0, 25, 2, [(eRImage p0)]⟩, ⟨0, 3, 1, List.map eI q11⟩, ⟨0, 78, 3, List.map (eRDeclD 117 3) q33.2.1⟩, ⟨0, 45, 5, List.map (eRProcD 3 3 73 3 3) q33.2.2⟩, ⟨0, 32, 2, [[(.own 2 0 (List.length q33.2.1)), (.own 3 0 (List.length q33.2.2))]]⟩, ⟨0, 3, 1, List.map eI q15⟩]) (by first | (simp only [Sh.put_len]; done) | simp only [Sh.put_len, ln34, ln35] | simp only [ln34, ln35])) ?_; exact Wk.permk (L := [(1, (i64 p1)), (2, (i64 p2)), (3, (.ptr 0 0 0 0)), (8, (.own 1 0 (List.length q11))), (10, (.own 2 0 (List.length q15))), (50, (.bool true))]) (st' := [⟨0, 25, 2, [(eRImage p0)]⟩, ⟨0, 3, 1, List.map eI q11⟩, ⟨0, 3, 1, List.map eI q15⟩]) (st1 := [⟨0, 25, 2, [(eRImage p0)]⟩, ⟨0, 3, 1, List.map eI q11⟩, ⟨0, 3, 1, List.map eI q15⟩]) [0, 1, 5] rfl .nil (by decide) rfl rfl (.raw rfl rfl (.pure (pure_map fun _ => rfl) (.pure (pure_map fun _ => rfl) .nil))) ⟨.rfl, .rfl, .rfl, .rfl, .rfl, .rfl, trivial⟩))
    ·refine zg tb b83 rfl (zg tb b83 rfl (bs h1 fun q84 gq84 h1 => ao_callb (v' := (.bool q84)) (st' := [⟨0, 25, 2, [(eRImage p0)]⟩, (ro 0 3 1 eI q11), (ro 0 78 3 (eRDeclD 117 3) q33.2.1), (ro 0 45 5 (eRProcD 3 3 73 3 3) q33.2.2), ⟨0, 32, 2, [[(ow 2 0 q13.decls), (ow 3 0 q13.procs)]]⟩, (ro 0 3 1 eI q15)]) (go1 rfl rfl b83) hb8 (laws_eqIntS_ok gq84) rfl (.own rfl rfl (fun _ => rfl) (.own rfl rfl (fun _ => rfl) .nil)) rfl trivial rfl rfl (zg tb b83 rfl (zf b83 rfl ?_))))
     exact AO.done (M39 (!q84) (Sh.some_eq h1).symm _ (by refine Wk.trans (Wk.steq (st := [⟨0, 25, 2, [(eRImage p0)]⟩, ⟨0, 3, 1, List.map eI q11⟩, ⟨0, 78, 3, List.map (eRDeclD 117 3) q33.2.1⟩, ⟨0, 45, 5, List.map (eRProcD 3 3 73 3 3) q33.2.2⟩, ⟨0, 32, 2, [[(.own 2 0 (List.length q13.decls)), (.own 3 0 (List.length q13.procs))]]⟩, ⟨0, 3, 1, List.map eI q15⟩]) (st' := [⟨0, 25, 2, [(eRImage p0)]⟩, ⟨0, 3, 1, List.map eI q11⟩, ⟨0, 78, 3, List.map (eRDeclD 117 3) q33.2.1⟩, ⟨0, 45, 5, List.map (eRProcD 3 3 73 3 3) q33.2.2⟩, ⟨0, 32, 2, [[(.own 2 0 (List.length q33.2.1)), (.own 3 0 (List.length q33.2.2))]]⟩, ⟨0, 3, 1, List.map eI q15⟩]) (by first | (simp only [Sh.put_len]; done) | simp only [Sh.put_len, ln34, ln35] | simp only [ln34, ln35])) ?_; exact Wk.permk (L := [(1, (i64 p1)), (2, (i64 p2)), (3, (.ptr 0 0 0 0)), (8, (.own 1 0 (List.length q11))), (10, (.own 2 0 (List.length q15))), (50, (.bool (!q84)))]) (st' := [⟨0, 25, 2, [(eRImage p0)]⟩, ⟨0, 3, 1, List.map eI q11⟩, ⟨0, 3, 1, List.map eI q15⟩]) (st1 := [⟨0, 25, 2, [(eRImage p0)]⟩, ⟨0, 3, 1, List.map eI q11⟩, ⟨0, 3, 1, List.map eI q15⟩]) [0, 1, 5] rfl .nil (by decide) rfl rfl (.raw rfl rfl (.pure (pure_map fun _ => rfl) (.pure (pure_map fun _ => rfl) .nil))) ⟨.rfl, .rfl, .rfl, .rfl, .rfl, .rfl, trivial⟩))
end Go.Proofs.Ytobjlimoekffaaa

