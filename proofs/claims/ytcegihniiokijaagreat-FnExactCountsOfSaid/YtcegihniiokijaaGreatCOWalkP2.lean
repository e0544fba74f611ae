import Derived.Test.YtcegihniiokijaaGreatProg
import Derived.Test.YtcegihniiokijaaGreatCODefs
import Derived.Test.YtcegihniiokijaaGreatCOWalkP1
namespace Go.Proofs.YtcegihniiokijaaGreat
open Go Go.Abs RC
attribute [local irreducible] Go.Abs.dops
set_option maxRecDepth 100000
set_option maxHeartbeats 4000000

theorem ai102 : allInfo Tryz.prog 102 = true := by kernel_rfl
theorem ai134 : allInfo Tryz.prog 134 = true := by kernel_rfl
theorem ai49 : allInfo Tryz.prog 49 = true := by kernel_rfl
theorem ai98 : allInfo Tryz.prog 98 = true := by kernel_rfl
theorem bi102 : finfos Tryz.prog 102 = some [(0, 1), (1, 1), (2, 1)] := by kernel_rfl
theorem bi134 : finfos Tryz.prog 134 = some [(0, 1)] := by kernel_rfl
theorem bi49 : finfos Tryz.prog 49 = some [(0, 1), (1, 1)] := by kernel_rfl
theorem bi98 : finfos Tryz.prog 98 = some [(0, 1), (1, 1), (2, 1)] := by kernel_rfl
theorem ei47 : einfo Tryz.prog 47 = some ⟨102, 3, 56, [.sl [], .sl [], .int .i64 0]⟩ := by kernel_rfl
theorem ei74 : einfo Tryz.prog 74 = some ⟨37, 1, 24, [.sl []]⟩ := by kernel_rfl
theorem hb102 : hasBody Tryz.prog 102 = true := by kernel_rfl
theorem hb124 : hasBody Tryz.prog 124 = true := by kernel_rfl
theorem hb125 : hasBody Tryz.prog 125 = true := by kernel_rfl
theorem hb126 : hasBody Tryz.prog 126 = true := by kernel_rfl
theorem hb133 : hasBody Tryz.prog 133 = true := by kernel_rfl
theorem hb134 : hasBody Tryz.prog 134 = true := by kernel_rfl
theorem hb135 : hasBody Tryz.prog 135 = true := by kernel_rfl
theorem hb137 : hasBody Tryz.prog 137 = true := by kernel_rfl
theorem hb140 : hasBody Tryz.prog 140 = true := by kernel_rfl
theorem hb181 : hasBody Tryz.prog 181 = true := by kernel_rfl
theorem hb182 : hasBody Tryz.prog 182 = true := by kernel_rfl
theorem hb183 : hasBody Tryz.prog 183 = true := by kernel_rfl
theorem hb185 : hasBody Tryz.prog 185 = true := by kernel_rfl
theorem hb186 : hasBody Tryz.prog 186 = true := by kernel_rfl
theorem hb75 : hasBody Tryz.prog 75 = true := by kernel_rfl
theorem iT3 : Program.underlying Tryz.prog 3 = some (.int .i64) := by kernel_rfl
theorem sl47 : isSliceT Tryz.prog 47 = true := by kernel_rfl
theorem ti102 : tinfo Tryz.prog 102 = some (true, 3) := by kernel_rfl
theorem ti47 : tinfo Tryz.prog 47 = some (false, 1) := by kernel_rfl
theorem ti49 : tinfo Tryz.prog 49 = some (true, 2) := by kernel_rfl
theorem zi102 : zinfo Tryz.prog 102 = some [.zc, .zc, .int .i64 0] := by kernel_rfl
theorem zi3 : zinfo Tryz.prog 3 = some [.int .i64 0] := by kernel_rfl
theorem zi49 : zinfo Tryz.prog 49 = some [.zc, .zc] := by kernel_rfl

noncomputable abbrev wD0 (p0 : RRoutine) : Go.Abs.Row := ⟨0, 89, 5, [[(ls eI p0.params), (ls eI p0.lent), (i64 p0.result), (ls eStep p0.body.steps), (i64 p0.body.result)]]⟩
noncomputable abbrev wD1 : Go.Abs.Row := ⟨0, 57, 5, [[.zc, .zc, (i64 0), .zc, (i64 0)]]⟩
theorem laws_toRoutine_2_ok {N : Nat} {p0 : RRoutine} {r : RRoutine} (h0 : laws_toRoutine_2 N p0 = some r) : ACalls Tryz.prog 73 [(.agg [(ls eI p0.params), (ls eI p0.lent), (i64 p0.result), (ls eStep p0.body.steps), (i64 p0.body.result)])] [] (fun v st => v = (.agg [(ow 0 0 r.params), (ow 1 0 r.lent), (i64 r.result), (ow 2 0 r.body.steps), (i64 r.body.result)]) ∧ st = [(ro 0 3 1 eI r.params), (ro 0 3 1 eI r.lent), (ro 0 71 5 (eStepD 3 55 71) r.body.steps)]) := by
 unfold laws_toRoutine_2 at h0
 refine ACalls.wk (r0 := (.agg [(ow 0 0 r.params), (ow 1 0 r.lent), (i64 r.result), (ow 2 0 r.body.steps), (i64 r.body.result)])) (st0 := [(ro 0 3 1 eI r.params), (ro 0 3 1 eI r.lent), (ro 0 71 5 (eStepD 3 55 71) r.body.steps), ⟨0, 57, 5, [[(ow 0 0 r.params), (ow 1 0 r.lent), (i64 r.result), (ow 2 0 r.body.steps), (i64 r.body.result)]]⟩]) ?_ (Wk.sel (L := [(0, (.agg [(ow 0 0 r.params), (ow 1 0 r.lent), (i64 r.result), (ow 2 0 r.body.steps), (i64 r.body.result)]))]) (st' := [(ro 0 3 1 eI r.params), (ro 0 3 1 eI r.lent), (ro 0 71 5 (eStepD 3 55 71) r.body.steps)]) [0, 1, 2] rfl (by decide) rfl rfl (.pure (pure_map fun _ => rfl) (.pure (pure_map fun _ => rfl) (.deep (pure_mapD eStepD_pure) trivial))) ⟨.rfl, trivial⟩)
 refine ai Tryz.func73 rfl rfl rfl rfl (sr rfl fun K1 hK1 => ao_box (m := 0) (st' := [(wD0 p0)]) go0 rfl rfl rfl rfl rfl (ao_alloc (m := 1) (st' := [(wD0 p0), wD1]) go0 zi57 rfl rfl (dn hK1 rfl (sr rfl fun K2 hK2 => ao_alloc (m := 2) (st' := [(wD0 p0), wD1, wD1]) go0 zi57 rfl rfl (dn hK2 rfl (sr rfl fun K3 hK3 => zm tb 2 rfl (bs h0 fun q4 gq4 h0 => ao_call (v' := (ow 3 0 q4)) (st' := [(wD0 p0), wD1, wD1, (ro 0 3 1 eI q4)]) go0 hb121 (laws_toIntS_ok gq4) rfl rfl ⟨(pure_map' fun _ => rfl), trivial⟩ rfl rfl ?_)))))))
 refine zq tb rfl (ao_str (st' := [(wD0 p0), wD1, ⟨0, 57, 5, [[(ow 3 0 q4), .zc, (i64 0), .zc, (i64 0)]]⟩, (ro 0 3 1 eI q4)]) go0 ti37 rfl rfl rfl rfl rfl rfl (show 0 + 1 ≤ 5 by decide) rfl (dn hK3 rfl (sr rfl fun K5 hK5 => zm tb 2 rfl (bs h0 fun q6 gq6 h0 => ao_call (v' := (ow 4 0 q6)) (st' := [(wD0 p0), wD1, ⟨0, 57, 5, [[(ow 3 0 q4), .zc, (i64 0), .zc, (i64 0)]]⟩, (ro 0 3 1 eI q4), (ro 0 3 1 eI q6)]) go0 hb121 (laws_toIntS_ok gq6) rfl rfl ⟨(pure_map' fun _ => rfl), trivial⟩ rfl rfl (zq tb rfl (ao_str (st' := [(wD0 p0), wD1, ⟨0, 57, 5, [[(ow 3 0 q4), (ow 4 0 q6), (i64 0), .zc, (i64 0)]]⟩, (ro 0 3 1 eI q4), (ro 0 3 1 eI q6)]) go0 ti37 rfl rfl rfl rfl rfl rfl (show 1 + 1 ≤ 5 by decide) rfl (dn hK5 rfl (sr rfl fun K7 hK7 => zm tb 3 rfl ?_))))))))
 refine ao_str (st' := [(wD0 p0), wD1, ⟨0, 57, 5, [[(ow 3 0 q4), (ow 4 0 q6), (i64 p0.result), .zc, (i64 0)]]⟩, (ro 0 3 1 eI q4), (ro 0 3 1 eI q6)]) go0 ti3 rfl rfl rfl rfl rfl rfl (show 2 + 1 ≤ 5 by decide) rfl (dn hK7 rfl (sr rfl fun K8 hK8 => zm tb 2 rfl (bs h0 fun q9 gq9 h0 => ao_call (v' := (.agg [(ow 5 0 q9.steps), (i64 q9.result)])) (st' := [(wD0 p0), wD1, ⟨0, 57, 5, [[(ow 3 0 q4), (ow 4 0 q6), (i64 p0.result), .zc, (i64 0)]]⟩, (ro 0 3 1 eI q4), (ro 0 3 1 eI q6), (ro 0 71 5 (eStepD 3 55 71) q9.steps)]) go0 hb122 (laws_toBlock_2_ok gq9) rfl rfl ⟨(pure_mapD eStepD_pure), trivial⟩ rfl rfl (zq tb rfl (ao_str (st' := [(wD0 p0), wD1, ⟨0, 57, 5, [[(ow 3 0 q4), (ow 4 0 q6), (i64 p0.result), (ow 5 0 q9.steps), (i64 q9.result)]]⟩, (ro 0 3 1 eI q4), (ro 0 3 1 eI q6), (ro 0 71 5 (eStepD 3 55 71) q9.steps)]) go0 ti55 rfl rfl rfl rfl rfl rfl (show 3 + 2 ≤ 5 by decide) rfl (dn hK8 rfl (sr rfl fun K10 hK10 => zq tb rfl (ao_str (st' := [(wD0 p0), ⟨0, 57, 5, [[(ow 3 0 q4), (ow 4 0 q6), (i64 p0.result), (ow 5 0 q9.steps), (i64 q9.result)]]⟩, ⟨0, 57, 5, [[(ow 3 0 q4), (ow 4 0 q6), (i64 p0.result), (ow 5 0 q9.steps), (i64 q9.result)]]⟩, (ro 0 3 1 eI q4), (ro 0 3 1 eI q6), (ro 0 71 5 (eStepD 3 55 71) q9.steps)]) go0 ti57 rfl rfl rfl rfl rfl rfl (show 0 + 5 ≤ 5 by decide) rfl ?_))))))))
 refine dn hK10 rfl ?_
 replace h0 := Sh.some_eq h0
 subst r
 exact AW.ret (Exists.intro _ (And.intro ((Wk.permk (L := [(2, (.ptr 3 0 0 0))]) (st' := [(ro 0 3 1 eI q4), (ro 0 3 1 eI q6), (ro 0 71 5 (eStepD 3 55 71) q9.steps), ⟨0, 57, 5, [[(ow 0 0 q4), (ow 1 0 q6), (i64 p0.result), (ow 2 0 q9.steps), (i64 q9.result)]]⟩]) (st1 := [(ro 0 3 1 eI q4), (ro 0 3 1 eI q6), (ro 0 71 5 (eStepD 3 55 71) q9.steps), ⟨0, 57, 5, [[(ow 3 0 q4), (ow 4 0 q6), (i64 p0.result), (ow 5 0 q9.steps), (i64 q9.result)]]⟩]) [3, 4, 5, 1] rfl .nil (by decide) rfl rfl (.pure (pure_map fun _ => rfl) (.pure (pure_map fun _ => rfl) (.deep (pure_mapD eStepD_pure) (.raw rfl rfl .nil)))) ⟨.rfl, trivial⟩).trans (Wk.to (L := [(2, (.ptr 3 0 0 0))]) ⟨.rfl, trivial⟩)) (aq_ldpa (x := .tmp 2) (off := 0) (cs := [(ow 0 0 q4), (ow 1 0 q6), (i64 p0.result), (ow 2 0 q9.steps), (i64 q9.result)]) (vs := [(ow 0 0 q4), (ow 1 0 q6), (i64 p0.result), (ow 2 0 q9.steps), (i64 q9.result)]) ti57 rfl rfl rfl (show 0 + 5 ≤ 5 by decide) rfl _ ⟨rfl, rfl⟩)))
theorem laws_toRoutineS_2_ok {N : Nat} {p0 : (List RRoutine)} {r : (List RRoutine)} (h0 : laws_toRoutineS_2 N p0 = some r) : ACalls Tryz.prog 32 [(ls eRRoutine p0)] [] (fun v st => v = (ow 0 0 r) ∧ st = [(ro 0 57 5 (eRRoutineD 3 3 3 55 71) r)]) := by
 unfold laws_toRoutineS_2 at h0
 refine ai Tryz.func32 rfl rfl rfl rfl (zr tb rfl rfl (sr rfl fun K2 hK2 => zq tb rfl (zl tb rfl rfl (bs h0 fun l3 gl3 h0 => ao_maked (m := 0) (st' := [(ro 0 57 5 (eRRoutineD 3 3 3 55 71) l3)]) (enc := (eRRoutineD 3 3 3 55 71)) (u := (RRoutine.mk [] [] 0 (Block.mk [] 0))) ei28 rfl rfl ⟨.inr ⟨rfl, _, _, rfl, by decide⟩, ⟨.inr ⟨rfl, _, _, rfl, by decide⟩, ⟨.inl ⟨rfl, rfl⟩, ⟨.inr ⟨rfl, _, _, rfl, by decide⟩, ⟨.inl ⟨rfl, rfl⟩, trivial⟩⟩⟩⟩⟩ gl3 rfl rfl (zq tb rfl (dn hK2 rfl (AW.seq fun K4 hK4 => zr tb rfl rfl (bs h0 fun o9 h1 h0 => ?_))))))))
 have M9 : ∀ (l8 : (List RRoutine)), o9 = l8 → ∀ s, Wk 0 s ⟨23, envL [(3, (ow 0 0 l8))], [(ro 0 57 5 (eRRoutineD 3 3 3 55 71) l8)]⟩ → K4 s := by
  intro l8 hq s hw
  subst o9
  try dsimp only at h0
  refine hK4 _ (AW.weaken hw (zr tb rfl rfl ?_))
  replace h0 := Sh.some_eq h0
  subst r
  exact AW.ret (xr (Wk.to (L := [(2, (ow 0 0 l8))]) ⟨.rfl, trivial⟩))
 refine AW.block (AW.loopF (σ := Int × (List RRoutine)) (fun n v => laws_toRoutineS_2_L1 N p0 n v.1 v.2 = some o9) (fun (i6, l7) => ⟨23, envL [(0, (ls eRRoutine p0)), (3, (ow 0 0 l7)), (4, (i64 i6))], [(ro 0 57 5 (eRRoutineD 3 3 3 55 71) l7)]⟩) N (0, l3) h1 (Wk.tr rfl) (fun _ hv => by rw [laws_toRoutineS_2_L1] at hv; cases hv) ?_)
 rintro n ⟨i6, l7⟩ h1
 try dsimp only at h1 ⊢
 rw [laws_toRoutineS_2_L1] at h1
 refine AW.seq fun K11 hK11 => sr rfl fun K12 hK12 => zm tb 2 rfl (zl tb rfl rfl (zq tb rfl (dn hK12 rfl ?_)))
 refine ci h1 rfl ?_ ?_ <;> clear h1
 ·intro b13 h1
  refine AW.skip (hK11 _ (AW.seq fun K14 hK14 => AW.block (AW.regionO rfl (zm tb 4 rfl (bs h1 fun c15 gc15 h1 => zx ei23 gc15 rfl rfl rfl (zq tb rfl (bs h1 fun q16 gq16 h1 => ao_call (v' := (.agg [(ow 1 0 q16.params), (ow 2 0 q16.lent), (i64 q16.result), (ow 3 0 q16.body.steps), (i64 q16.body.result)])) (st' := [(ro 0 57 5 (eRRoutineD 3 3 3 55 71) l7), (ro 0 3 1 eI q16.params), (ro 0 3 1 eI q16.lent), (ro 0 71 5 (eStepD 3 55 71) q16.body.steps)]) go0 hb73 (laws_toRoutine_2_ok gq16) rfl rfl ⟨(pure_map' fun _ => rfl), ⟨(pure_map' fun _ => rfl), ⟨(pure_mapD eStepD_pure), trivial⟩⟩⟩ rfl rfl (bs h1 fun c17 gc17 h1 => zz (.ptr 0 0 (Int.toNat i6) 0) (aq_ixo ei28 rfl rfl rfl rfl gc17) rfl ?_))))))))
  refine ao_sth (st' := [⟨0, 57, 5, hole l7 (eRRoutineD 3 3 3 55 71) i6 [(ow 1 0 q16.params), (ow 2 0 q16.lent), (i64 q16.result), (ow 3 0 q16.body.steps), (i64 q16.body.result)]⟩, (ro 0 3 1 eI q16.params), (ro 0 3 1 eI q16.lent), (ro 0 71 5 (eStepD 3 55 71) q16.body.steps)]) go0 ti57 rfl rfl gc17 rfl rfl rfl (show 5 ≤ 5 by decide) rfl rfl ?_
  refine AO.weaken (Wk.take (id := 0) (m := 1) (j := 0) (i := i6) (c := c17) (ys := q16.params) (encY := eI) (x' := [(.dv 3 1 (List.map eI q16.params)), (ow 2 0 q16.lent), (i64 q16.result), (ow 3 0 q16.body.steps), (i64 q16.body.result)]) (st' := [⟨0, 57, 5, hole l7 (eRRoutineD 3 3 3 55 71) i6 [(.dv 3 1 (List.map eI q16.params)), (ow 2 0 q16.lent), (i64 q16.result), (ow 3 0 q16.body.steps), (i64 q16.body.result)]⟩, ⟨1, 3, 1, []⟩, (ro 0 3 1 eI q16.lent), (ro 0 71 5 (eStepD 3 55 71) q16.body.steps)]) rfl gc17 rfl rfl rfl (by decide) (show 0 ≤ 1 by decide) (fun _ => rfl) rfl rfl) ?_
  refine AO.weaken (Wk.take (id := 0) (m := 2) (j := 1) (i := i6) (c := c17) (ys := q16.lent) (encY := eI) (x' := [(.dv 3 1 (List.map eI q16.params)), (.dv 3 1 (List.map eI q16.lent)), (i64 q16.result), (ow 3 0 q16.body.steps), (i64 q16.body.result)]) (st' := [⟨0, 57, 5, hole l7 (eRRoutineD 3 3 3 55 71) i6 [(.dv 3 1 (List.map eI q16.params)), (.dv 3 1 (List.map eI q16.lent)), (i64 q16.result), (ow 3 0 q16.body.steps), (i64 q16.body.result)]⟩, ⟨1, 3, 1, []⟩, ⟨1, 3, 1, []⟩, (ro 0 71 5 (eStepD 3 55 71) q16.body.steps)]) rfl gc17 rfl rfl rfl (by decide) (show 0 ≤ 2 by decide) (fun _ => rfl) rfl rfl) ?_
  refine AO.weaken (Wk.take (id := 0) (m := 3) (j := 3) (i := i6) (c := c17) (ys := q16.body.steps) (encY := (eStepD 3 55 71)) (x' := [(.dv 3 1 (List.map eI q16.params)), (.dv 3 1 (List.map eI q16.lent)), (i64 q16.result), (.dv 71 5 (List.map (eStepD 3 55 71) q16.body.steps)), (i64 q16.body.result)]) (st' := [⟨0, 57, 5, hole l7 (eRRoutineD 3 3 3 55 71) i6 [(.dv 3 1 (List.map eI q16.params)), (.dv 3 1 (List.map eI q16.lent)), (i64 q16.result), (.dv 71 5 (List.map (eStepD 3 55 71) q16.body.steps)), (i64 q16.body.result)]⟩, ⟨1, 3, 1, []⟩, ⟨1, 3, 1, []⟩, ⟨1, 71, 5, []⟩]) rfl gc17 rfl rfl rfl (by decide) (show 0 ≤ 3 by decide) eStepD_deep rfl rfl) ?_
  refine AO.weaken (Wk.filled (id := 0) (i := i6) (u := q16) (st' := [(ro 0 57 5 (eRRoutineD 3 3 3 55 71) (Sh.put l7 i6 q16)), ⟨1, 3, 1, []⟩, ⟨1, 3, 1, []⟩, ⟨1, 71, 5, []⟩]) rfl rfl rfl) (dn hK14 rfl (AW.regionO rfl (zm tb 3 rfl ?_)))
  exact AO.done (xi (Sh.w (i6 + 1), Sh.put l7 i6 q16) h1 (by refine Wk.trans (Wk.permk (L := [(0, (.sl (List.map eRRoutine p0))), (3, (.own 0 0 (List.length l7))), (4, (i64 (Sh.w (i6 + 1))))]) (st' := [⟨0, 57, 5, List.map (eRRoutineD 3 3 3 55 71) (Sh.put l7 i6 q16)⟩]) (st1 := [⟨0, 57, 5, List.map (eRRoutineD 3 3 3 55 71) (Sh.put l7 i6 q16)⟩]) [0] rfl .nil (by decide) rfl rfl (.deep (pure_mapD fun _ => rfl) .nil) ⟨.rfl, .rfl, .rfl, trivial⟩) ?_; exact Wk.to (L := [(0, (.sl (List.map eRRoutine p0))), (3, (.own 0 0 (List.length (Sh.put l7 i6 q16)))), (4, (i64 (Sh.w (i6 + 1))))]) ⟨.rfl, (.len (by simp only [Sh.put_len])), .rfl, trivial⟩))
 ·intro b13 h1
  exact AW.exit (M9 l7 (Sh.some_eq h1).symm _ (Wk.tr rfl))
noncomputable abbrev wD2 (p0 : RNormal) : Go.Abs.Row := ⟨0, 25, 2, [[(ls eRDecl p0.decls), (ls eRRoutine p0.routines)]]⟩
theorem laws_toNormal_2_ok {N : Nat} {p0 : RNormal} {r : RNormal} (h0 : laws_toNormal_2 N p0 = some r) : ACalls Tryz.prog 10 [(.agg [(ls eRDecl p0.decls), (ls eRRoutine p0.routines)])] [] (fun v st => v = (.agg [(ow 0 0 r.decls), (ow 1 0 r.routines)]) ∧ st = [(ro 0 98 3 (eRDeclD 134 3) r.decls), (ro 0 57 5 (eRRoutineD 3 3 3 55 71) r.routines)]) := by
 unfold laws_toNormal_2 at h0
 refine ACalls.wk (r0 := (.agg [(ow 0 0 r.decls), (ow 1 0 r.routines)])) (st0 := [(ro 0 98 3 (eRDeclD 134 3) r.decls), (ro 0 57 5 (eRRoutineD 3 3 3 55 71) r.routines), ⟨0, 30, 2, [[(ow 0 0 r.decls), (ow 1 0 r.routines)]]⟩]) ?_ (Wk.sel (L := [(0, (.agg [(ow 0 0 r.decls), (ow 1 0 r.routines)]))]) (st' := [(ro 0 98 3 (eRDeclD 134 3) r.decls), (ro 0 57 5 (eRRoutineD 3 3 3 55 71) r.routines)]) [0, 1] rfl (by decide) rfl rfl (.deep (pure_mapD fun _ => rfl) (.deep (pure_mapD fun _ => rfl) trivial)) ⟨.rfl, trivial⟩)
 refine ai Tryz.func10 rfl rfl rfl rfl (sr rfl fun K1 hK1 => ao_box (m := 0) (st' := [(wD2 p0)]) go0 rfl rfl rfl rfl rfl (ao_alloc (m := 1) (st' := [(wD2 p0), ⟨0, 30, 2, [[.zc, .zc]]⟩]) go0 zi30 rfl rfl (dn hK1 rfl (sr rfl fun K2 hK2 => ao_alloc (m := 2) (st' := [(wD2 p0), ⟨0, 30, 2, [[.zc, .zc]]⟩, ⟨0, 30, 2, [[.zc, .zc]]⟩]) go0 zi30 rfl rfl (dn hK2 rfl (sr rfl fun K3 hK3 => zm tb 2 rfl (bs h0 fun q4 gq4 h0 => ao_call (v' := (ow 3 0 q4)) (st' := [(wD2 p0), ⟨0, 30, 2, [[.zc, .zc]]⟩, ⟨0, 30, 2, [[.zc, .zc]]⟩, (ro 0 98 3 (eRDeclD 134 3) q4)]) go0 hb31 (laws_toDeclS_2_ok gq4) rfl rfl ⟨(pure_mapD fun _ => rfl), trivial⟩ rfl rfl ?_)))))))
 refine zq tb rfl (ao_str (st' := [(wD2 p0), ⟨0, 30, 2, [[.zc, .zc]]⟩, ⟨0, 30, 2, [[(ow 3 0 q4), .zc]]⟩, (ro 0 98 3 (eRDeclD 134 3) q4)]) go0 ti27 rfl rfl rfl rfl rfl rfl (show 0 + 1 ≤ 2 by decide) rfl (dn hK3 rfl (sr rfl fun K5 hK5 => zm tb 2 rfl (bs h0 fun q6 gq6 h0 => ao_call (v' := (ow 4 0 q6)) (st' := [(wD2 p0), ⟨0, 30, 2, [[.zc, .zc]]⟩, ⟨0, 30, 2, [[(ow 3 0 q4), .zc]]⟩, (ro 0 98 3 (eRDeclD 134 3) q4), (ro 0 57 5 (eRRoutineD 3 3 3 55 71) q6)]) go0 hb32 (laws_toRoutineS_2_ok gq6) rfl rfl ⟨(pure_mapD fun _ => rfl), trivial⟩ rfl rfl (zq tb rfl (ao_str (st' := [(wD2 p0), ⟨0, 30, 2, [[.zc, .zc]]⟩, ⟨0, 30, 2, [[(ow 3 0 q4), (ow 4 0 q6)]]⟩, (ro 0 98 3 (eRDeclD 134 3) q4), (ro 0 57 5 (eRRoutineD 3 3 3 55 71) q6)]) go0 ti28 rfl rfl rfl rfl rfl rfl (show 1 + 1 ≤ 2 by decide) rfl (dn hK5 rfl (sr rfl fun K7 hK7 => zq tb rfl ?_))))))))
 refine ao_str (st' := [(wD2 p0), ⟨0, 30, 2, [[(ow 3 0 q4), (ow 4 0 q6)]]⟩, ⟨0, 30, 2, [[(ow 3 0 q4), (ow 4 0 q6)]]⟩, (ro 0 98 3 (eRDeclD 134 3) q4), (ro 0 57 5 (eRRoutineD 3 3 3 55 71) q6)]) go0 ti30 rfl rfl rfl rfl rfl rfl (show 0 + 2 ≤ 2 by decide) rfl (dn hK7 rfl ?_)
 replace h0 := Sh.some_eq h0
 subst r
 exact AW.ret (Exists.intro _ (And.intro ((Wk.permk (L := [(2, (.ptr 2 0 0 0))]) (st' := [(ro 0 98 3 (eRDeclD 134 3) q4), (ro 0 57 5 (eRRoutineD 3 3 3 55 71) q6), ⟨0, 30, 2, [[(ow 0 0 q4), (ow 1 0 q6)]]⟩]) (st1 := [(ro 0 98 3 (eRDeclD 134 3) q4), (ro 0 57 5 (eRRoutineD 3 3 3 55 71) q6), ⟨0, 30, 2, [[(ow 3 0 q4), (ow 4 0 q6)]]⟩]) [3, 4, 1] rfl .nil (by decide) rfl rfl (.deep (pure_mapD fun _ => rfl) (.deep (pure_mapD fun _ => rfl) (.raw rfl rfl .nil))) ⟨.rfl, trivial⟩).trans (Wk.to (L := [(2, (.ptr 2 0 0 0))]) ⟨.rfl, trivial⟩)) (aq_ldpa (x := .tmp 2) (off := 0) (cs := [(ow 0 0 q4), (ow 1 0 q6)]) (vs := [(ow 0 0 q4), (ow 1 0 q6)]) ti30 rfl rfl rfl (show 0 + 2 ≤ 2 by decide) rfl _ ⟨rfl, rfl⟩)))
theorem impl_isType_ok {p0 : (List RDecl)} {p1 : Int} {r : Bool} (h0 : impl_isType p0 p1 = some r) : ACalls Tryz.prog 126 [(ls eRDecl p0), (i64 p1)] [] (fun v st => v = (.bool r) ∧ st = []) := by
 unfold impl_isType at h0
 refine ai Tryz.func126 rfl rfl rfl rfl (zr tb rfl rfl (AW.seq fun K2 hK2 => bs h0 fun o4 h1 h0 => ?_))
 have M4 : ∀ (t3 : Bool), o4 = t3 → ∀ s, Wk 0 s ⟨13, envL [(4, (.bool t3))], []⟩ → K2 s := by
  intro t3 hq s hw
  subst o4
  try dsimp only at h0
  refine hK2 _ (AW.weaken hw ?_)
  replace h0 := Sh.some_eq h0
  subst r
  exact AW.ret (xr (Wk.to (L := [(4, (.bool t3))]) ⟨.rfl, trivial⟩))
 refine AW.regionO rfl (zm tb 3 rfl ?_)
 rcases Sh.ite_some h1 with ⟨b5, h1⟩ | ⟨b5, h1⟩
 ·exact zg tb b5 rfl (zg tb b5 rfl (ao_q (v := (i64 (Sh.len p0))) (go1 rfl rfl b5) rfl (aq_lens sl27 rfl) (zg tb b5 rfl (zt b5 rfl (zq tb rfl (AO.done (M4 (decide (p1 ≤ (Sh.len p0))) (Sh.some_eq h1).symm _ (Wk.tr rfl))))))))
 ·refine zs b5 rfl ?_
  iterate 3 refine zs b5 rfl ?_
  exact zf b5 rfl (zq tb rfl (AO.done (M4 false (Sh.some_eq h1).symm _ (Wk.tr rfl))))
theorem impl_allTypes_ok {N : Nat} {p0 : (List RDecl)} {p1 : (List Int)} {r : Bool} (h0 : impl_allTypes N p0 p1 = some r) : ACalls Tryz.prog 125 [(ls eRDecl p0), (ls eI p1)] [] (fun v st => v = (.bool r) ∧ st = []) := by
 unfold impl_allTypes at h0
 refine ai Tryz.func125 rfl rfl rfl rfl (zr tb rfl rfl (AW.seq fun K2 hK2 => sr rfl fun K3 hK3 => zq tb rfl (zl tb rfl rfl (zq tb rfl (dn hK3 rfl ?_)))))
 obtain ⟨o5, h1, h0⟩ := Sh.cont_some h0
 have M5 : ∀ (_ : Unit), o5 = Sum.inr () → ∀ s, Wk 0 s ⟨18, envL [], []⟩ → K2 s := by
  intro _ hq s hw
  subst o5
  try dsimp only at h0
  refine hK2 _ (AW.weaken hw (zr tb rfl rfl ?_))
  replace h0 := Sh.some_eq h0
  subst r
  exact AW.ret (xr (Wk.to (L := [(4, (.bool true))]) ⟨.rfl, trivial⟩))
 refine AW.block (AW.loopF (σ := Int) (fun n v => impl_allTypes_L1 p0 p1 n v = some o5) (fun t4 => ⟨18, envL [(0, (ls eRDecl p0)), (7, (ls eI p1)), (8, (i64 (Sh.len p1))), (9, (i64 t4))], []⟩) N 0 h1 (Wk.tr rfl) (fun _ hv => by rw [impl_allTypes_L1] at hv; cases hv) ?_)
 rintro n t4 h1
 try dsimp only at h1 ⊢
 rw [impl_allTypes_L1] at h1
 refine zr tb rfl rfl (AW.seq fun K8 hK8 => ?_)
 refine ci h1 rfl ?_ ?_ <;> clear h1
 ·intro b9 h1
  refine AW.skip (hK8 _ (AW.seq fun K10 hK10 => AW.block (sr rfl fun K11 hK11 => bs h1 fun c12 gc12 h1 => zx ei37 gc12 rfl rfl rfl (zm tb 2 rfl (dn hK11 rfl (sr rfl fun K13 hK13 => zm tb 2 rfl (bs h1 fun q14 gq14 h1 => zc hb126 (impl_isType_ok gq14) rfl rfl rfl ?_)))))))
  refine zq tb rfl (dn hK13 rfl ?_)
  refine ci h1 rfl ?_ ?_ <;> clear h1
  ·intro b15 h1
   have b16 : q14 = false := by simpa using b15
   refine zr tb rfl rfl ?_
   replace h1 := Sh.some_eq h1
   subst o5
   try dsimp only [id] at h0
   replace h0 := Sh.some_eq h0
   subst r
   exact AW.ret (xr (Wk.to (L := [(4, (.bool false))]) ⟨.rfl, trivial⟩))
  ·intro b15 h1
   have b18 : q14 = true := by simpa using b15
   exact AW.skip (hK10 _ (AW.regionO rfl (zm tb 2 rfl (AO.done (xi (Sh.w (t4 + 1)) h1 (Wk.tr rfl))))))
 ·intro b9 h1
  exact AW.exit (M5 () (Sh.some_eq h1).symm _ (Wk.tr rfl))
theorem impl_ValidTypes_ok {N : Nat} {p0 : (List RDecl)} {r : Bool} (h0 : impl_ValidTypes N p0 = some r) : ACalls Tryz.prog 124 [(ls eRDecl p0)] [] (fun v st => v = (.bool r) ∧ st = []) := by
 unfold impl_ValidTypes at h0
 refine ai Tryz.func124 rfl rfl rfl rfl (zr tb rfl rfl (AW.seq fun K2 hK2 => sr rfl fun K3 hK3 => zq tb rfl (zl tb rfl rfl (zq tb rfl (dn hK3 rfl ?_)))))
 refine ci h0 rfl ?_ ?_ <;> clear h0
 ·intro b4 h0
  refine zr tb rfl rfl ?_
  replace h0 := Sh.some_eq h0
  subst r
  exact AW.ret (xr (Wk.to (L := [(2, (.bool false))]) ⟨.rfl, trivial⟩))
 ·intro b4 h0
  refine AW.skip (hK2 _ (AW.seq fun K6 hK6 => sr rfl fun K7 hK7 => zq tb rfl (zl tb rfl rfl (zq tb rfl (dn hK7 rfl ?_)))))
  obtain ⟨o9, h1, h0⟩ := Sh.cont_some h0
  have M9 : ∀ (_ : Unit), o9 = Sum.inr () → ∀ s, Wk 0 s ⟨106, envL [], []⟩ → K6 s := by
   intro _ hq s hw
   subst o9
   try dsimp only at h0
   refine hK6 _ (AW.weaken hw (zr tb rfl rfl ?_))
   replace h0 := Sh.some_eq h0
   subst r
   exact AW.ret (xr (Wk.to (L := [(2, (.bool true))]) ⟨.rfl, trivial⟩))
  refine AW.block (AW.loopF (σ := Int) (fun n v => impl_ValidTypes_L1 N p0 n v = some o9) (fun t8 => ⟨106, envL [(0, (ls eRDecl p0)), (12, (ls eRDecl p0)), (13, (i64 (Sh.len p0))), (14, (i64 t8))], []⟩) N 0 h1 (Wk.tr rfl) (fun _ hv => by rw [impl_ValidTypes_L1] at hv; cases hv) ?_)
  rintro n t8 h1
  try dsimp only at h1 ⊢
  rw [impl_ValidTypes_L1] at h1
  refine zr tb rfl rfl (AW.seq fun K12 hK12 => ?_)
  refine ci h1 rfl ?_ ?_ <;> clear h1
  ·intro b13 h1
   refine AW.skip (hK12 _ (AW.seq fun K14 hK14 => AW.block (sr rfl fun K15 hK15 => zq tb rfl (bs h1 fun c16 gc16 h1 => zx ei27 gc16 rfl rfl rfl (zq tb rfl (ao_alloc (m := 0) (st' := [⟨0, 98, 3, [[(i64 0), (i64 0), .zc]]⟩]) go0 zi98 rfl rfl (zq tb rfl (ao_str (st' := [⟨0, 98, 3, [(eRDecl c16)]⟩]) go0 ti98 rfl rfl rfl rfl rfl rfl (show 0 + 3 ≤ 3 by decide) rfl (dn hK15 rfl ?_)))))))))
   refine AW.seq fun K17 hK17 => AW.seq fun K18 hK18 => bs h1 fun o20 h2 h1 => ?_
   have M20 : ∀ (t19 : Bool), o20 = t19 → ∀ s, Wk 0 s ⟨106, envL [(0, (ls eRDecl p0)), (3, (i64 t8)), (4, (.ptr 0 0 0 0)), (12, (ls eRDecl p0)), (13, (i64 (Sh.len p0))), (14, (i64 t8)), (52, (.bool t19))], [⟨0, 98, 3, [(eRDecl c16)]⟩]⟩ → K18 s := by
    intro t19 hq s hw
    subst o20
    try dsimp only at h1
    refine hK18 _ (AW.weaken hw ?_)
    refine ci h1 rfl ?_ ?_ <;> clear h1
    ·intro b21 h1
     refine zr tb rfl rfl ?_
     replace h1 := Sh.some_eq h1
     subst o9
     try dsimp only [id] at h0
     replace h0 := Sh.some_eq h0
     subst r
     exact AW.ret (xr (Wk.d0 [(2, (.bool false))] rfl))
    ·intro b21 h1
     refine AW.skip (hK17 _ (AW.seq fun K23 hK23 => sr rfl fun K24 hK24 => zm tb 2 rfl (zl tb rfl rfl (zq tb rfl (dn hK24 rfl ?_)))))
     obtain ⟨o26, h2, h1⟩ := Sh.cont_some h1
     have M26 : ∀ (_ : Unit), o26 = Sum.inr () → ∀ s, Wk 0 s ⟨106, envL [(0, (ls eRDecl p0)), (3, (i64 t8)), (4, (.ptr 0 0 0 0)), (12, (ls eRDecl p0)), (13, (i64 (Sh.len p0))), (14, (i64 t8))], [⟨0, 98, 3, [(eRDecl c16)]⟩]⟩ → K23 s := by
      intro _ hq s hw
      subst o26
      try dsimp only at h1
      refine hK23 _ (AW.weaken hw (sr rfl fun K27 hK27 => zm tb 2 rfl (bs h1 fun l28 gl28 h1 => ao_sls (i := 0) (j := t8) go0 ei27 rfl rfl rfl (fun _ => rfl) gl28 (zl tb rfl rfl (zq tb rfl (dn hK27 rfl ?_))))))
      obtain ⟨o30, h2, h1⟩ := Sh.cont_some h1
      have M30 : ∀ (_ : Unit), o30 = Sum.inr () → ∀ s, Wk 0 s ⟨106, envL [(0, (ls eRDecl p0)), (12, (ls eRDecl p0)), (13, (i64 (Sh.len p0))), (14, (i64 t8))], []⟩ → K14 s := by
       intro _ hq s hw
       subst o30
       try dsimp only at h1
       exact hK14 _ (AW.weaken hw (AW.regionO rfl (zm tb 2 rfl (AO.done (xi (Sh.w (t8 + 1)) h1 (Wk.tr rfl))))))
      refine AW.block (AW.loopF (σ := Int) (fun n v => impl_ValidTypes_L3 c16 l28 n v = some o30) (fun t29 => ⟨106, envL [(0, (ls eRDecl p0)), (4, (.ptr 0 0 0 0)), (12, (ls eRDecl p0)), (13, (i64 (Sh.len p0))), (14, (i64 t8)), (74, (ls eRDecl l28)), (75, (i64 (Sh.len l28))), (76, (i64 t29))], [⟨0, 98, 3, [(eRDecl c16)]⟩]⟩) N 0 h2 (Wk.tr rfl) (fun _ hv => by rw [impl_ValidTypes_L3] at hv; cases hv) ?_)
      rintro n t29 h2
      try dsimp only at h2 ⊢
      rw [impl_ValidTypes_L3] at h2
      refine zr tb rfl rfl (AW.seq fun K32 hK32 => ?_)
      refine ci h2 rfl ?_ ?_ <;> clear h2
      ·intro b33 h2
       refine AW.skip (hK32 _ (AW.seq fun K34 hK34 => AW.block (sr rfl fun K35 hK35 => bs h2 fun c36 gc36 h2 => zx ei27 gc36 rfl rfl rfl (zq tb rfl (ao_alloc (m := 1) (st' := [⟨0, 98, 3, [(eRDecl c16)]⟩, ⟨0, 98, 3, [[(i64 0), (i64 0), .zc]]⟩]) go0 zi98 rfl rfl (ao_str (st' := [⟨0, 98, 3, [(eRDecl c16)]⟩, ⟨0, 98, 3, [(eRDecl c36)]⟩]) go0 ti98 rfl rfl rfl rfl rfl rfl (show 0 + 3 ≤ 3 by decide) rfl (dn hK35 rfl (AW.seq fun K37 hK37 => bs h2 fun o39 h3 h2 => ?_))))))))
       have M39 : ∀ (t38 : Bool), o39 = t38 → ∀ s, Wk 0 s ⟨106, envL [(0, (ls eRDecl p0)), (4, (.ptr 0 0 0 0)), (12, (ls eRDecl p0)), (13, (i64 (Sh.len p0))), (14, (i64 t8)), (74, (ls eRDecl l28)), (75, (i64 (Sh.len l28))), (76, (i64 t29)), (103, (.bool t38))], [⟨0, 98, 3, [(eRDecl c16)]⟩]⟩ → K37 s := by
        intro t38 hq s hw
        subst o39
        try dsimp only at h2
        refine hK37 _ (AW.weaken hw ?_)
        refine ci h2 rfl ?_ ?_ <;> clear h2
        ·intro b40 h2
         refine zr tb rfl rfl ?_
         replace h2 := Sh.some_eq h2
         subst o30
         try dsimp only [id] at h1
         replace h1 := Sh.some_eq h1
         subst o9
         try dsimp only [id] at h0
         replace h0 := Sh.some_eq h0
         subst r
         exact AW.ret (xr (Wk.d0 [(2, (.bool false))] rfl))
        ·intro b40 h2
         exact AW.skip (hK34 _ (AW.regionO rfl (zm tb 2 rfl (AO.done (xi (Sh.w (t29 + 1)) h2 (Wk.tr rfl))))))
       refine AW.regionO rfl (zm tb 2 rfl (zl tb rfl rfl (zm tb 2 rfl ?_)))
       rcases Sh.ite_some h3 with ⟨b42, h3⟩ | ⟨b42, h3⟩
       ·refine zg tb b42 rfl (zg tb b42 rfl (ao_q (v := (i64 (Sh.len c36.cons))) (go1 rfl rfl b42) rfl (aq_lens sl96 rfl) (zg tb b42 rfl (zt b42 rfl (zq tb rfl ?_)))))
        rcases Sh.ite_some h3 with ⟨b43, h3⟩ | ⟨b43, h3⟩
        ·refine zg tb b43 rfl ?_
         iterate 4 refine zg tb b43 rfl ?_
         refine zt b43 rfl (zq tb rfl ?_)
         rcases Sh.ite_some h3 with ⟨b44, h3⟩ | ⟨b44, h3⟩
         ·refine zg tb b44 rfl ?_
          iterate 4 refine zg tb b44 rfl ?_
          refine zt b44 rfl ?_
          exact AO.done (M39 (decide (c36.to = c16.to)) (Sh.some_eq h3).symm _ (Wk.permk (L := [(0, (ls eRDecl p0)), (4, (.ptr 0 0 0 0)), (12, (ls eRDecl p0)), (13, (i64 (Sh.len p0))), (14, (i64 t8)), (74, (ls eRDecl l28)), (75, (i64 (Sh.len l28))), (76, (i64 t29)), (103, (.bool (decide (c36.to = c16.to))))]) (st' := [⟨0, 98, 3, [(eRDecl c16)]⟩]) (st1 := [⟨0, 98, 3, [(eRDecl c16)]⟩]) [0] rfl .nil (by decide) rfl rfl (.raw rfl rfl .nil) ⟨.rfl, .rfl, .rfl, .rfl, .rfl, .rfl, .rfl, .rfl, .rfl, trivial⟩))
         ·refine zs b44 rfl ?_
          iterate 4 refine zs b44 rfl ?_
          refine zf b44 rfl ?_
          exact AO.done (M39 false (Sh.some_eq h3).symm _ (Wk.permk (L := [(0, (ls eRDecl p0)), (4, (.ptr 0 0 0 0)), (12, (ls eRDecl p0)), (13, (i64 (Sh.len p0))), (14, (i64 t8)), (74, (ls eRDecl l28)), (75, (i64 (Sh.len l28))), (76, (i64 t29)), (103, (.bool false))]) (st' := [⟨0, 98, 3, [(eRDecl c16)]⟩]) (st1 := [⟨0, 98, 3, [(eRDecl c16)]⟩]) [0] rfl .nil (by decide) rfl rfl (.raw rfl rfl .nil) ⟨.rfl, .rfl, .rfl, .rfl, .rfl, .rfl, .rfl, .rfl, .rfl, trivial⟩))
        ·refine zs b43 rfl ?_
         iterate 4 refine zs b43 rfl ?_
         refine zf b43 rfl (zq tb rfl ?_)
         iterate 5 refine zs rfl rfl ?_
         refine zf rfl rfl ?_
         exact AO.done (M39 false (Sh.some_eq h3).symm _ (Wk.permk (L := [(0, (ls eRDecl p0)), (4, (.ptr 0 0 0 0)), (12, (ls eRDecl p0)), (13, (i64 (Sh.len p0))), (14, (i64 t8)), (74, (ls eRDecl l28)), (75, (i64 (Sh.len l28))), (76, (i64 t29)), (103, (.bool false))]) (st' := [⟨0, 98, 3, [(eRDecl c16)]⟩]) (st1 := [⟨0, 98, 3, [(eRDecl c16)]⟩]) [0] rfl .nil (by decide) rfl rfl (.raw rfl rfl .nil) ⟨.rfl, .rfl, .rfl, .rfl, .rfl, .rfl, .rfl, .rfl, .rfl, trivial⟩))
       ·refine zs b42 rfl ?_
        iterate 3 refine zs b42 rfl ?_
        refine zf b42 rfl (zq tb rfl ?_)
        iterate 5 refine zs rfl rfl ?_
        refine zf rfl rfl (zq tb rfl ?_)
        iterate 5 refine zs rfl rfl ?_
        refine zf rfl rfl ?_
        exact AO.done (M39 false (Sh.some_eq h3).symm _ (Wk.permk (L := [(0, (ls eRDecl p0)), (4, (.ptr 0 0 0 0)), (12, (ls eRDecl p0)), (13, (i64 (Sh.len p0))), (14, (i64 t8)), (74, (ls eRDecl l28)), (75, (i64 (Sh.len l28))), (76, (i64 t29)), (103, (.bool false))]) (st' := [⟨0, 98, 3, [(eRDecl c16)]⟩]) (st1 := [⟨0, 98, 3, [(eRDecl c16)]⟩]) [0] rfl .nil (by decide) rfl rfl (.raw rfl rfl .nil) ⟨.rfl, .rfl, .rfl, .rfl, .rfl, .rfl, .rfl, .rfl, .rfl, trivial⟩))
      ·intro b33 h2
       exact AW.exit (M30 () (Sh.some_eq h2).symm _ (Wk.d0 _ rfl))
     refine AW.block (AW.loopF (σ := Int) (fun n v => impl_ValidTypes_L2 N c16 p0 n v = some o26) (fun t25 => ⟨106, envL [(0, (ls eRDecl p0)), (3, (i64 t8)), (4, (.ptr 0 0 0 0)), (12, (ls eRDecl p0)), (13, (i64 (Sh.len p0))), (14, (i64 t8)), (54, (ls eRCon c16.cons)), (55, (i64 (Sh.len c16.cons))), (56, (i64 t25))], [⟨0, 98, 3, [(eRDecl c16)]⟩]⟩) N 0 h2 (Wk.tr rfl) (fun _ hv => by rw [impl_ValidTypes_L2] at hv; cases hv) ?_)
     rintro n t25 h2
     try dsimp only at h2 ⊢
     rw [impl_ValidTypes_L2] at h2
     refine zr tb rfl rfl (AW.seq fun K46 hK46 => ?_)
     refine ci h2 rfl ?_ ?_ <;> clear h2
     ·intro b47 h2
      refine AW.skip (hK46 _ (AW.seq fun K48 hK48 => AW.block (sr rfl fun K49 hK49 => bs h2 fun c50 gc50 h2 => zx ei96 gc50 rfl rfl rfl (zq tb rfl (ao_alloc (m := 1) (st' := [⟨0, 98, 3, [(eRDecl c16)]⟩, ⟨0, 134, 1, [[.zc]]⟩]) go0 zi134 rfl rfl (ao_str (st' := [⟨0, 98, 3, [(eRDecl c16)]⟩, ⟨0, 134, 1, [(eRCon c50)]⟩]) go0 ti134 rfl rfl rfl rfl rfl rfl (show 0 + 1 ≤ 1 by decide) rfl (dn hK49 rfl (AW.seq fun K51 hK51 => bs h2 fun o53 h3 h2 => ?_))))))))
      have M53 : ∀ (t52 : Bool), o53 = t52 → ∀ s, Wk 0 s ⟨106, envL [(0, (ls eRDecl p0)), (3, (i64 t8)), (4, (.ptr 0 0 0 0)), (12, (ls eRDecl p0)), (13, (i64 (Sh.len p0))), (14, (i64 t8)), (54, (ls eRCon c16.cons)), (55, (i64 (Sh.len c16.cons))), (56, (i64 t25)), (70, (.bool t52))], [⟨0, 98, 3, [(eRDecl c16)]⟩]⟩ → K51 s := by
       intro t52 hq s hw
       subst o53
       try dsimp only at h2
       refine hK51 _ (AW.weaken hw ?_)
       refine ci h2 rfl ?_ ?_ <;> clear h2
       ·intro b54 h2
        refine zr tb rfl rfl ?_
        replace h2 := Sh.some_eq h2
        subst o26
        try dsimp only [id] at h1
        replace h1 := Sh.some_eq h1
        subst o9
        try dsimp only [id] at h0
        replace h0 := Sh.some_eq h0
        subst r
        exact AW.ret (xr (Wk.d0 [(2, (.bool false))] rfl))
       ·intro b54 h2
        exact AW.skip (hK48 _ (AW.regionO rfl (zm tb 2 rfl (AO.done (xi (Sh.w (t25 + 1)) h2 (Wk.tr rfl))))))
      refine AW.regionO rfl (zm tb 2 rfl (zl tb rfl rfl (zm tb 2 rfl ?_)))
      rcases Sh.ite_some h3 with ⟨b56, h3⟩ | ⟨b56, h3⟩
      ·refine zs b56 rfl ?_
       iterate 4 refine zs b56 rfl ?_
       refine zt b56 rfl ?_
       exact AO.done (M53 true (Sh.some_eq h3).symm _ (Wk.permk (L := [(0, (ls eRDecl p0)), (3, (i64 t8)), (4, (.ptr 0 0 0 0)), (12, (ls eRDecl p0)), (13, (i64 (Sh.len p0))), (14, (i64 t8)), (54, (ls eRCon c16.cons)), (55, (i64 (Sh.len c16.cons))), (56, (i64 t25)), (70, (.bool true))]) (st' := [⟨0, 98, 3, [(eRDecl c16)]⟩]) (st1 := [⟨0, 98, 3, [(eRDecl c16)]⟩]) [0] rfl .nil (by decide) rfl rfl (.raw rfl rfl .nil) ⟨.rfl, .rfl, .rfl, .rfl, .rfl, .rfl, .rfl, .rfl, .rfl, .rfl, trivial⟩))
      ·refine zg tb b56 rfl (zg tb b56 rfl (zg tb b56 rfl (bs h3 fun q57 gq57 h3 => zd b56 hb125 (impl_allTypes_ok gq57) rfl rfl rfl rfl (zg tb b56 rfl (zf b56 rfl ?_)))))
       exact AO.done (M53 (!q57) (Sh.some_eq h3).symm _ (Wk.permk (L := [(0, (ls eRDecl p0)), (3, (i64 t8)), (4, (.ptr 0 0 0 0)), (12, (ls eRDecl p0)), (13, (i64 (Sh.len p0))), (14, (i64 t8)), (54, (ls eRCon c16.cons)), (55, (i64 (Sh.len c16.cons))), (56, (i64 t25)), (70, (.bool (!q57)))]) (st' := [⟨0, 98, 3, [(eRDecl c16)]⟩]) (st1 := [⟨0, 98, 3, [(eRDecl c16)]⟩]) [0] rfl .nil (by decide) rfl rfl (.raw rfl rfl .nil) ⟨.rfl, .rfl, .rfl, .rfl, .rfl, .rfl, .rfl, .rfl, .rfl, .rfl, trivial⟩))
     ·intro b47 h2
      exact AW.exit (M26 () (Sh.some_eq h2).symm _ (Wk.tr rfl))
   refine AW.regionO rfl (zm tb 3 rfl (bs h2 fun q58 gq58 h2 => zc hb126 (impl_isType_ok gq58) rfl rfl rfl (zm tb 2 rfl ?_)))
   rcases Sh.ite_some h2 with ⟨b59, h2⟩ | ⟨b59, h2⟩
   ·refine zs b59 rfl ?_
    iterate 4 refine zs b59 rfl ?_
    refine zt b59 rfl (zq tb rfl ?_)
    iterate 4 refine zs rfl rfl ?_
    refine zt rfl rfl (zq tb rfl ?_)
    iterate 5 refine zs rfl rfl ?_
    iterate 8 refine zn rfl ?_
    exact zs rfl rfl (zt rfl rfl (AO.done (M20 true (Sh.some_eq h2).symm _ (Wk.tr rfl))))
   ·refine zg tb b59 rfl (zg tb b59 rfl (zg tb b59 rfl (bs h2 fun q60 gq60 h2 => zd b59 hb126 (impl_isType_ok gq60) rfl rfl rfl rfl (zg tb b59 rfl (zf b59 rfl (zq tb rfl ?_))))))
    rcases Sh.ite_some h2 with ⟨b61, h2⟩ | ⟨b61, h2⟩
    ·refine zs b61 rfl ?_
     iterate 3 refine zs b61 rfl ?_
     refine zt b61 rfl (zq tb rfl ?_)
     iterate 5 refine zs rfl rfl ?_
     iterate 8 refine zn rfl ?_
     exact zs rfl rfl (zt rfl rfl (AO.done (M20 true (Sh.some_eq h2).symm _ (Wk.tr rfl))))
    ·refine zg tb b61 rfl (zg tb b61 rfl (ao_q (v := (i64 (Sh.len c16.cons))) (go1 rfl rfl b61) rfl (aq_lens sl96 rfl) (zg tb b61 rfl (zf b61 rfl (zq tb rfl ?_)))))
     rcases Sh.ite_some h2 with ⟨b62, h2⟩ | ⟨b62, h2⟩
     ·refine zs b62 rfl ?_
      iterate 4 refine zs b62 rfl ?_
      iterate 8 refine zn rfl ?_
      exact zs b62 rfl (zt b62 rfl (AO.done (M20 true (Sh.some_eq h2).symm _ (Wk.tr rfl))))
     ·refine zg tb b62 rfl (zg tb b62 rfl (ao_q (v := (i64 (Sh.len c16.cons))) (go1 rfl rfl b62) rfl (aq_lens sl96 rfl) (zg tb b62 rfl (zg tb b62 rfl ?_))))
      rcases Sh.ite_some h2 with ⟨b63, h2⟩ | ⟨b63, h2⟩
      ·refine zg tb b63 rfl ?_
       iterate 3 refine zg tb b63 rfl ?_
       rcases Sh.ite_some h2 with ⟨b64, h2⟩ | ⟨b64, h2⟩
       ·exact zs b64 rfl (zs b64 rfl (zs b64 rfl (ao_q (v := (.bool true)) (go1 rfl rfl b63) rfl (aq_pkt rfl b64 rfl) (ao_q (v := (.bool true)) (go1 rfl rfl b62) rfl (aq_pkt rfl b63 rfl) (zf b62 rfl (AO.done (M20 true (Sh.some_eq h2).symm _ (Wk.tr rfl))))))))
       ·exact zg tb b64 rfl (zg tb b64 rfl (zg tb b64 rfl (ao_q (v := (.bool (!decide (c16.to = 0)))) (go1 rfl rfl b63) rfl (aq_pkf rfl b64 rfl) (ao_q (v := (.bool (!decide (c16.to = 0)))) (go1 rfl rfl b62) rfl (aq_pkt rfl b63 rfl) (zf b62 rfl (AO.done (M20 (!decide (c16.to = 0)) (Sh.some_eq h2).symm _ (Wk.tr rfl))))))))
      ·refine zs b63 rfl ?_
       iterate 3 refine zs b63 rfl ?_
       iterate 3 refine zn rfl ?_
       exact zs b63 rfl (ao_q (v := (.bool false)) (go1 rfl rfl b62) rfl (aq_pkf rfl b63 rfl) (zf b62 rfl (AO.done (M20 false (Sh.some_eq h2).symm _ (Wk.tr rfl)))))
  ·intro b13 h1
   exact AW.exit (M9 () (Sh.some_eq h1).symm _ (Wk.tr rfl))
theorem impl_validSigs_ok {N : Nat} {p0 : (List RDecl)} {p1 : (List RSignature)} {r : Bool} (h0 : impl_validSigs N p0 p1 = some r) : ACalls Tryz.prog 75 [(ls eRDecl p0), (ls eRSignature p1)] [] (fun v st => v = (.bool r) ∧ st = []) := by
 unfold impl_validSigs at h0
 refine ai Tryz.func75 rfl rfl rfl rfl (zr tb rfl rfl (AW.seq fun K2 hK2 => AW.seq fun K3 hK3 => bs h0 fun o5 h1 h0 => ?_))
 have M5 : ∀ (t4 : Bool), o5 = t4 → ∀ s, Wk 0 s ⟨102, envL [(0, (ls eRDecl p0)), (1, (ls eRSignature p1)), (36, (.bool t4))], []⟩ → K3 s := by
  intro t4 hq s hw
  subst o5
  try dsimp only at h0
  refine hK3 _ (AW.weaken hw ?_)
  refine ci h0 rfl ?_ ?_ <;> clear h0
  ·intro b6 h0
   refine zr tb rfl rfl ?_
   replace h0 := Sh.some_eq h0
   subst r
   exact AW.ret (xr (Wk.to (L := [(4, (.bool false))]) ⟨.rfl, trivial⟩))
  ·intro b6 h0
   refine AW.skip (hK2 _ (AW.seq fun K8 hK8 => sr rfl fun K9 hK9 => zq tb rfl (zl tb rfl rfl (zq tb rfl (dn hK9 rfl ?_)))))
   obtain ⟨o11, h1, h0⟩ := Sh.cont_some h0
   have M11 : ∀ (_ : Unit), o11 = Sum.inr () → ∀ s, Wk 0 s ⟨102, envL [], []⟩ → K8 s := by
    intro _ hq s hw
    subst o11
    try dsimp only at h0
    refine hK8 _ (AW.weaken hw (zr tb rfl rfl ?_))
    replace h0 := Sh.some_eq h0
    subst r
    exact AW.ret (xr (Wk.to (L := [(4, (.bool true))]) ⟨.rfl, trivial⟩))
   refine AW.block (AW.loopF (σ := Int) (fun n v => impl_validSigs_L1 N p0 p1 n v = some o11) (fun t10 => ⟨102, envL [(0, (ls eRDecl p0)), (37, (ls eRSignature p1)), (38, (i64 (Sh.len p1))), (39, (i64 t10))], []⟩) N 0 h1 (Wk.tr rfl) (fun _ hv => by rw [impl_validSigs_L1] at hv; cases hv) ?_)
   rintro n t10 h1
   try dsimp only at h1 ⊢
   rw [impl_validSigs_L1] at h1
   refine zr tb rfl rfl (AW.seq fun K14 hK14 => ?_)
   refine ci h1 rfl ?_ ?_ <;> clear h1
   ·intro b15 h1
    refine AW.skip (hK14 _ (AW.seq fun K16 hK16 => AW.block (sr rfl fun K17 hK17 => bs h1 fun c18 gc18 h1 => zx ei47 gc18 rfl rfl rfl (zq tb rfl (ao_alloc (m := 0) (st' := [⟨0, 102, 3, [[.zc, .zc, (i64 0)]]⟩]) go0 zi102 rfl rfl (ao_str (st' := [⟨0, 102, 3, [[(ls eI c18.params), (ls eI c18.lent), (i64 c18.result)]]⟩]) go0 ti102 rfl rfl rfl rfl rfl rfl (show 0 + 3 ≤ 3 by decide) rfl (dn hK17 rfl (AW.seq fun K19 hK19 => AW.seq fun K20 hK20 => ?_))))))))
    refine bs h1 fun o22 h2 h1 => ?_
    have M22 : ∀ (t21 : Bool), o22 = t21 → ∀ s, Wk 0 s ⟨102, envL [(0, (ls eRDecl p0)), (6, (.ptr 0 0 0 0)), (37, (ls eRSignature p1)), (38, (i64 (Sh.len p1))), (39, (i64 t10)), (60, (.bool t21))], [⟨0, 102, 3, [[(ls eI c18.params), (ls eI c18.lent), (i64 c18.result)]]⟩]⟩ → K20 s := by
     intro t21 hq s hw
     subst o22
     try dsimp only at h1
     refine hK20 _ (AW.weaken hw ?_)
     refine ci h1 rfl ?_ ?_ <;> clear h1
     ·intro b23 h1
      refine zr tb rfl rfl ?_
      replace h1 := Sh.some_eq h1
      subst o11
      try dsimp only [id] at h0
      replace h0 := Sh.some_eq h0
      subst r
      exact AW.ret (xr (Wk.d0 [(4, (.bool false))] rfl))
     ·intro b23 h1
      refine AW.skip (hK19 _ (sr rfl fun K25 hK25 => zm tb 2 rfl (zl tb rfl rfl (zq tb rfl (dn hK25 rfl ?_)))))
      obtain ⟨o27, h2, h1⟩ := Sh.cont_some h1
      have M27 : ∀ (_ : Unit), o27 = Sum.inr () → ∀ s, Wk 0 s ⟨102, envL [(0, (ls eRDecl p0)), (37, (ls eRSignature p1)), (38, (i64 (Sh.len p1))), (39, (i64 t10))], []⟩ → K16 s := by
       intro _ hq s hw
       subst o27
       try dsimp only at h1
       exact hK16 _ (AW.weaken hw (AW.regionO rfl (zm tb 2 rfl (AO.done (xi (Sh.w (t10 + 1)) h1 (Wk.tr rfl))))))
      refine AW.block (AW.loopF (σ := Int) (fun n v => impl_validSigs_L2 c18 n v = some o27) (fun t26 => ⟨102, envL [(0, (ls eRDecl p0)), (6, (.ptr 0 0 0 0)), (37, (ls eRSignature p1)), (38, (i64 (Sh.len p1))), (39, (i64 t10)), (62, (ls eI c18.lent)), (63, (i64 (Sh.len c18.lent))), (64, (i64 t26))], [⟨0, 102, 3, [[(ls eI c18.params), (ls eI c18.lent), (i64 c18.result)]]⟩]⟩) N 0 h2 (Wk.tr rfl) (fun _ hv => by rw [impl_validSigs_L2] at hv; cases hv) ?_)
      rintro n t26 h2
      try dsimp only at h2 ⊢
      rw [impl_validSigs_L2] at h2
      refine zr tb rfl rfl (AW.seq fun K29 hK29 => ?_)
      refine ci h2 rfl ?_ ?_ <;> clear h2
      ·intro b30 h2
       refine AW.skip (hK29 _ (AW.seq fun K31 hK31 => AW.block (sr rfl fun K32 hK32 => zq tb rfl (bs h2 fun c33 gc33 h2 => zx ei37 gc33 rfl rfl rfl (zm tb 3 rfl (dn hK32 rfl (AW.seq fun K34 hK34 => bs h2 fun o36 h3 h2 => ?_)))))))
       have M36 : ∀ (t35 : Bool), o36 = t35 → ∀ s, Wk 0 s ⟨102, envL [(0, (ls eRDecl p0)), (6, (.ptr 0 0 0 0)), (37, (ls eRSignature p1)), (38, (i64 (Sh.len p1))), (39, (i64 t10)), (62, (ls eI c18.lent)), (63, (i64 (Sh.len c18.lent))), (64, (i64 t26)), (99, (.bool t35))], [⟨0, 102, 3, [[(ls eI c18.params), (ls eI c18.lent), (i64 c18.result)]]⟩]⟩ → K34 s := by
        intro t35 hq s hw
        subst o36
        try dsimp only at h2
        refine hK34 _ (AW.weaken hw ?_)
        refine ci h2 rfl ?_ ?_ <;> clear h2
        ·intro b37 h2
         refine zr tb rfl rfl ?_
         replace h2 := Sh.some_eq h2
         subst o27
         try dsimp only [id] at h1
         replace h1 := Sh.some_eq h1
         subst o11
         try dsimp only [id] at h0
         replace h0 := Sh.some_eq h0
         subst r
         exact AW.ret (xr (Wk.d0 [(4, (.bool false))] rfl))
        ·intro b37 h2
         exact AW.skip (hK31 _ (AW.regionO rfl (zm tb 2 rfl (AO.done (xi (Sh.w (t26 + 1)) h2 (Wk.tr rfl))))))
       refine AW.regionO rfl (zm tb 3 rfl ?_)
       rcases Sh.ite_some h3 with ⟨b39, h3⟩ | ⟨b39, h3⟩
       ·refine zs b39 rfl ?_
        iterate 4 refine zs b39 rfl ?_
        refine zt b39 rfl (zq tb rfl ?_)
        iterate 6 refine zs rfl rfl ?_
        refine zt rfl rfl (zq tb rfl ?_)
        iterate 3 refine zs rfl rfl ?_
        iterate 8 refine zn rfl ?_
        exact zs rfl rfl (zt rfl rfl (AO.done (M36 true (Sh.some_eq h3).symm _ (Wk.tr rfl))))
       ·refine zg tb b39 rfl (zg tb b39 rfl (zg tb b39 rfl (ao_q (v := (i64 (Sh.len c18.params))) (go1 rfl rfl b39) rfl (aq_lens sl37 rfl) (zg tb b39 rfl (zf b39 rfl (zq tb rfl ?_))))))
        rcases Sh.ite_some h3 with ⟨b40, h3⟩ | ⟨b40, h3⟩
        ·refine zs b40 rfl ?_
         iterate 5 refine zs b40 rfl ?_
         refine zt b40 rfl (zq tb rfl ?_)
         iterate 3 refine zs rfl rfl ?_
         iterate 8 refine zn rfl ?_
         exact zs rfl rfl (zt rfl rfl (AO.done (M36 true (Sh.some_eq h3).symm _ (Wk.tr rfl))))
        ·refine zg tb b40 rfl (zg tb b40 rfl (zg tb b40 rfl (bs h3 fun c41 gc41 h3 => ao_q (v := (.iptr (eI c41) 0)) (go1 rfl rfl b40) rfl (aq_ixs ei37 rfl rfl gc41 rfl) (zg tb b40 rfl (zg tb b40 rfl (zf b40 rfl (zq tb rfl ?_)))))))
         rcases Sh.ite_some h3 with ⟨b42, h3⟩ | ⟨b42, h3⟩
         ·refine zs b42 rfl (zs b42 rfl (zs b42 rfl ?_))
          iterate 8 refine zn rfl ?_
          exact zs b42 rfl (zt b42 rfl (AO.done (M36 true (Sh.some_eq h3).symm _ (Wk.tr rfl))))
         ·refine zg tb b42 rfl (zg tb b42 rfl (zg tb b42 rfl ?_))
          rcases Sh.ite_some h3 with ⟨b43, h3⟩ | ⟨b43, h3⟩
          ·refine zg tb b43 rfl ?_
           iterate 4 refine zg tb b43 rfl ?_
           exact bs h3 fun c44 gc44 h3 => ao_q (v := (.iptr (eI c44) 0)) (go1 rfl rfl b43) rfl (aq_ixs ei37 rfl rfl gc44 rfl) (zg tb b43 rfl (zg tb b43 rfl (ao_q (v := (.bool (decide (c33 ≤ c44)))) (go1 rfl rfl b42) rfl (aq_pkt rfl b43 rfl) (zf b42 rfl (AO.done (M36 (decide (c33 ≤ c44)) (Sh.some_eq h3).symm _ (Wk.tr rfl)))))))
          ·refine zs b43 rfl ?_
           iterate 7 refine zs b43 rfl ?_
           exact ao_q (v := (.bool false)) (go1 rfl rfl b42) rfl (aq_pkf rfl b43 rfl) (zf b42 rfl (AO.done (M36 false (Sh.some_eq h3).symm _ (Wk.tr rfl))))
      ·intro b30 h2
       exact AW.exit (M27 () (Sh.some_eq h2).symm _ (Wk.d0 _ rfl))
    refine AW.regionO rfl (zm tb 2 rfl (zl tb rfl rfl (zm tb 2 rfl ?_)))
    rcases Sh.ite_some h2 with ⟨b45, h2⟩ | ⟨b45, h2⟩
    ·refine zs b45 rfl ?_
     iterate 4 refine zs b45 rfl ?_
     refine zt b45 rfl (zq tb rfl ?_)
     iterate 5 refine zs rfl rfl ?_
     exact zt rfl rfl (AO.done (M22 true (Sh.some_eq h2).symm _ (Wk.tr rfl)))
    ·refine zg tb b45 rfl (zg tb b45 rfl (zg tb b45 rfl (bs h2 fun q46 gq46 h2 => zd b45 hb125 (impl_allTypes_ok gq46) rfl rfl rfl rfl (zg tb b45 rfl (zf b45 rfl (zq tb rfl ?_))))))
     rcases Sh.ite_some h2 with ⟨b47, h2⟩ | ⟨b47, h2⟩
     ·refine zs b47 rfl ?_
      iterate 4 refine zs b47 rfl ?_
      exact zt b47 rfl (AO.done (M22 true (Sh.some_eq h2).symm _ (Wk.tr rfl)))
     ·exact zg tb b47 rfl (zg tb b47 rfl (zg tb b47 rfl (bs h2 fun q48 gq48 h2 => zd b47 hb126 (impl_isType_ok gq48) rfl rfl rfl rfl (zg tb b47 rfl (zf b47 rfl (AO.done (M22 (!q48) (Sh.some_eq h2).symm _ (Wk.tr rfl))))))))
   ·intro b15 h1
    exact AW.exit (M11 () (Sh.some_eq h1).symm _ (Wk.tr rfl))
 refine AW.regionO rfl (zq tb rfl (bs h1 fun q49 gq49 h1 => zc hb124 (impl_ValidTypes_ok gq49) rfl rfl rfl (zm tb 2 rfl ?_)))
 rcases Sh.ite_some h1 with ⟨b50, h1⟩ | ⟨b50, h1⟩
 ·refine zs b50 rfl (zs b50 rfl (zs b50 rfl (zt b50 rfl (zq tb rfl ?_))))
  iterate 3 refine zs rfl rfl ?_
  refine zt rfl rfl (zq tb rfl ?_)
  iterate 6 refine zs rfl rfl ?_
  refine zt rfl rfl (zq tb rfl ?_)
  iterate 5 refine zs rfl rfl ?_
  exact zt rfl rfl (AO.done (M5 true (Sh.some_eq h1).symm _ (Wk.tr rfl)))
 ·refine zg tb b50 rfl (ao_q (v := (i64 (Sh.len p1))) (go1 rfl rfl b50) rfl (aq_lens sl47 rfl) (zg tb b50 rfl (zf b50 rfl (zq tb rfl ?_))))
  rcases Sh.ite_some h1 with ⟨b51, h1⟩ | ⟨b51, h1⟩
  ·refine zs b51 rfl (zs b51 rfl (zs b51 rfl (zt b51 rfl (zq tb rfl ?_))))
   iterate 6 refine zs rfl rfl ?_
   refine zt rfl rfl (zq tb rfl ?_)
   iterate 5 refine zs rfl rfl ?_
   exact zt rfl rfl (AO.done (M5 true (Sh.some_eq h1).symm _ (Wk.tr rfl)))
  ·refine zg tb b51 rfl (ao_q (v := (i64 (Sh.len p1))) (go1 rfl rfl b51) rfl (aq_lens sl47 rfl) (zg tb b51 rfl (zf b51 rfl (zq tb rfl ?_))))
   rcases Sh.ite_some h1 with ⟨b52, h1⟩ | ⟨b52, h1⟩
   ·refine zs b52 rfl ?_
    iterate 5 refine zs b52 rfl ?_
    refine zt b52 rfl (zq tb rfl ?_)
    iterate 5 refine zs rfl rfl ?_
    exact zt rfl rfl (AO.done (M5 true (Sh.some_eq h1).symm _ (Wk.tr rfl)))
   ·refine zg tb b52 rfl (bs h1 fun c53 gc53 h1 => ao_q (v := (.iptr (eRSignature c53) 0)) (go1 rfl rfl b52) rfl (aq_ixs ei47 rfl rfl gc53 rfl) (zg tb b52 rfl (zg tb b52 rfl (ao_q (v := (i64 (Sh.len c53.params))) (go1 rfl rfl b52) rfl (aq_lens sl37 rfl) (zg tb b52 rfl (zf b52 rfl (zq tb rfl ?_)))))))
    rcases Sh.ite_some h1 with ⟨b54, h1⟩ | ⟨b54, h1⟩
    ·refine zs b54 rfl ?_
     iterate 4 refine zs b54 rfl ?_
     exact zt b54 rfl (AO.done (M5 true (Sh.some_eq h1).symm _ (Wk.tr rfl)))
    ·refine zg tb b54 rfl (ao_q (v := (.iptr (eRSignature c53) 0)) (go1 rfl rfl b54) rfl (aq_ixs ei47 rfl rfl gc53 rfl) ?_)
     iterate 3 refine zg tb b54 rfl ?_
     exact zf b54 rfl (AO.done (M5 (!decide (c53.result = 0)) (Sh.some_eq h1).symm _ (Wk.tr rfl)))
noncomputable abbrev wD3 (p0 : RNormal) : Go.Abs.Row := ⟨0, 30, 2, [[(ls eRDecl p0.decls), (ls eRRoutine p0.routines)]]⟩
theorem impl_normalSigs_ok {N : Nat} {p0 : RNormal} {r : RSignatures × Bool} (h0 : impl_normalSigs N p0 = some r) : ACalls Tryz.prog 34 [(.agg [(ls eRDecl p0.decls), (ls eRRoutine p0.routines)])] [] (fun v st => v = (.tup [(.agg (eRSignatures r.1)), (.bool r.2)]) ∧ st = []) := by
 unfold impl_normalSigs at h0
 refine ACalls.flat rfl (ai Tryz.func34 rfl rfl rfl rfl (sr rfl fun K1 hK1 => ao_box (m := 0) (st' := [(wD3 p0)]) go0 rfl rfl rfl rfl rfl (ao_alloc (m := 1) (st' := [(wD3 p0), ⟨0, 49, 2, [[.zc, .zc]]⟩]) go0 zi49 rfl rfl (zq tb rfl (dn hK1 rfl (AW.seq fun K2 hK2 => sr rfl fun K3 hK3 => zm tb 2 rfl (zl tb rfl rfl (zq tb rfl ?_))))))))
 refine dn hK3 rfl ?_
 refine ci h0 rfl ?_ ?_ <;> clear h0
 ·intro b4 h0
  refine sr rfl fun K5 hK5 => zz (.agg [.zc, .zc]) (aq_bd ai49 bi49 zi49 rfl rfl) rfl (ao_str (st' := [(wD3 p0), ⟨0, 49, 2, [[.zc, .zc]]⟩]) go0 ti49 rfl rfl rfl rfl rfl rfl (show 0 + 2 ≤ 2 by decide) rfl (zq tb rfl (dn hK5 rfl ?_)))
  replace h0 := Sh.some_eq h0
  subst r
  exact AW.ret (Exists.intro _ (And.intro ((((Wk.cellLe (id := 1) (cs := [.zc, .zc]) (cs' := [(.sl (List.map eRDecl [])), .zc]) (st' := [(wD3 p0), ⟨0, 49, 2, [[(.sl (List.map eRDecl [])), .zc]]⟩]) rfl ⟨le.zc, le.rfl, trivial⟩ rfl rfl).trans (Wk.cellLe (id := 1) (cs := [(.sl (List.map eRDecl [])), .zc]) (cs' := [(.sl (List.map eRDecl [])), (.sl (List.map eRSignature []))]) (st' := [(wD3 p0), ⟨0, 49, 2, [[(.sl (List.map eRDecl [])), (.sl (List.map eRSignature []))]]⟩]) rfl ⟨le.rfl, le.zc, trivial⟩ rfl rfl)).trans (Wk.permk (L := [(2, (.ptr 0 0 0 0)), (3, (.bool false))]) (st' := [⟨0, 49, 2, [[(.sl (List.map eRDecl [])), (.sl (List.map eRSignature []))]]⟩]) (st1 := [⟨0, 49, 2, [[(.sl (List.map eRDecl [])), (.sl (List.map eRSignature []))]]⟩]) [1] rfl .nil (by decide) rfl rfl (.raw rfl rfl .nil) ⟨.rfl, .rfl, trivial⟩)).trans (Wk.to (L := [(2, (.ptr 0 0 0 0)), (3, (.bool false))]) ⟨.rfl, .rfl, trivial⟩)) (aq_ldpa (x := .tmp 2) (off := 0) (cs := [(.sl (List.map eRDecl [])), (.sl (List.map eRSignature []))]) (vs := [(.sl (List.map eRDecl [])), (.sl (List.map eRSignature []))]) ti49 rfl rfl rfl (show 0 + 2 ≤ 2 by decide) rfl _ rfl)))
 ·intro b4 h0
  refine AW.skip (hK2 _ (sr rfl fun K6 hK6 => zm tb 2 rfl (zz (.agg [(ls eRDecl p0.decls), .zc]) (aq_bd ai49 bi49 zi49 rfl rfl) rfl (ao_alloc (m := 2) (st' := [(wD3 p0), ⟨0, 49, 2, [[.zc, .zc]]⟩, ⟨0, 49, 2, [[.zc, .zc]]⟩]) go0 zi49 rfl rfl (ao_str (st' := [(wD3 p0), ⟨0, 49, 2, [[.zc, .zc]]⟩, ⟨0, 49, 2, [[(ls eRDecl p0.decls), .zc]]⟩]) go0 ti49 rfl rfl rfl rfl rfl rfl (show 0 + 2 ≤ 2 by decide) rfl (dn hK6 rfl (AW.seq fun K7 hK7 => sr rfl fun K8 hK8 => zm tb 2 rfl (zl tb rfl rfl (zq tb rfl ?_)))))))))
  refine dn hK8 rfl (bs h0 fun o12 h1 h0 => ?_)
  have M12 : ∀ (l11 : (List RSignature)), o12 = l11 → ∀ s, Wk 0 s ⟨41, envL [(1, (.ptr 0 0 0 0)), (2, (.ptr 1 0 0 0)), (4, (.ptr 2 0 0 0))], [(wD3 p0), ⟨0, 49, 2, [[.zc, .zc]]⟩, ⟨0, 49, 2, [[(ls eRDecl p0.decls), (ow 3 0 l11)]]⟩, (ro 0 102 3 eRSignature l11)]⟩ → K7 s := by
   intro l11 hq s hw
   subst o12
   try dsimp only at h0
   refine hK7 _ (AW.weaken hw (AW.seq fun K13 hK13 => ?_))
   refine AW.drawTailO 6 (by kernel_rfl) (by kernel_rfl) (by rfl) ?_
   iterate 5 refine yq tb rfl ?_
   refine bs h0 fun q14 gq14 h0 => d_callb (v' := (.bool q14)) go0 hb75 (impl_validSigs_ok gq14) rfl (.val rfl (.own rfl rfl (fun _ => rfl) .nil)) rfl rfl (d_done (AO.weaken (Wk.frz (L := [(2, (.ptr 1 0 0 0)), (35, (.agg [(ls eRDecl p0.decls), (ls eRSignature l11)])), (40, (.bool q14))]) (st' := [(wD3 p0), ⟨0, 49, 2, [[.zc, .zc]]⟩, ⟨0, 49, 2, [[(ls eRDecl p0.decls), (ow 3 0 l11)]]⟩, ⟨1, 102, 3, []⟩]) (id := 3) rfl (show 0 ≤ 3 by decide) (pure_map fun _ => rfl) ⟨.rfl, (.agg ⟨.rfl, (.frz1 rfl), trivial⟩), .rfl, trivial⟩ rfl) (ao_str (st' := [(wD3 p0), ⟨0, 49, 2, [[(ls eRDecl p0.decls), (ls eRSignature l11)]]⟩, ⟨0, 49, 2, [[(ls eRDecl p0.decls), (ow 3 0 l11)]]⟩, ⟨1, 102, 3, []⟩]) go0 ti49 rfl rfl rfl rfl rfl rfl (show 0 + 2 ≤ 2 by decide) rfl (zq tb rfl (dn hK13 rfl ?_)))))
   replace h0 := Sh.some_eq h0
   subst r
   exact AW.ret (Exists.intro _ (And.intro ((Wk.permk (L := [(2, (.ptr 0 0 0 0)), (3, (.bool q14))]) (st' := [⟨0, 49, 2, [[(ls eRDecl p0.decls), (ls eRSignature l11)]]⟩]) (st1 := [⟨0, 49, 2, [[(ls eRDecl p0.decls), (ls eRSignature l11)]]⟩]) [1] rfl .nil (by decide) rfl rfl (.raw rfl rfl .nil) ⟨.rfl, .rfl, trivial⟩).trans (Wk.to (L := [(2, (.ptr 0 0 0 0)), (3, (.bool q14))]) ⟨.rfl, .rfl, trivial⟩)) (aq_ldpa (x := .tmp 2) (off := 0) (cs := [(ls eRDecl p0.decls), (ls eRSignature l11)]) (vs := [(ls eRDecl p0.decls), (ls eRSignature l11)]) ti49 rfl rfl rfl (show 0 + 2 ≤ 2 by decide) rfl _ rfl)))
  refine AW.block (AW.loopF (σ := Int × (List RSignature)) (fun n v => impl_normalSigs_L1 p0 n v.1 v.2 = some o12) (fun (t9, l10) => ⟨41, envL [(1, (.ptr 0 0 0 0)), (2, (.ptr 1 0 0 0)), (4, (.ptr 2 0 0 0)), (16, (ls eRRoutine p0.routines)), (17, (i64 (Sh.len p0.routines))), (18, (i64 t9))], [(wD3 p0), ⟨0, 49, 2, [[.zc, .zc]]⟩, ⟨0, 49, 2, [[(ls eRDecl p0.decls), (ow 3 0 l10)]]⟩, (ro 0 102 3 eRSignature l10)]⟩) N (0, []) h1 (by refine Wk.trans (Wk.adoptC (id := 2) (st' := [(wD3 p0), ⟨0, 49, 2, [[.zc, .zc]]⟩, ⟨0, 49, 2, [[(ls eRDecl p0.decls), (.own 3 0 (List.length ([] : List RSignature)))]]⟩, (ro 0 102 3 eRSignature ([] : List RSignature))]) (j := 1) rfl rfl 102 (size' := 3) (by decide) rfl rfl rfl rfl) ?_; exact Wk.tr rfl) (fun _ hv => by rw [impl_normalSigs_L1] at hv; cases hv) ?_)
  rintro n ⟨t9, l10⟩ h1
  try dsimp only at h1 ⊢
  rw [impl_normalSigs_L1] at h1
  refine zr tb rfl rfl (AW.seq fun K16 hK16 => ?_)
  refine ci h1 rfl ?_ ?_ <;> clear h1
  ·intro b17 h1
   refine AW.skip (hK16 _ (AW.seq fun K18 hK18 => AW.block (sr rfl fun K19 hK19 => bs h1 fun c20 gc20 h1 => zx ei28 gc20 rfl rfl rfl (zq tb rfl (ao_alloc (m := 4) (st' := [(wD3 p0), ⟨0, 49, 2, [[.zc, .zc]]⟩, ⟨0, 49, 2, [[(ls eRDecl p0.decls), (ow 3 0 l10)]]⟩, (ro 0 102 3 eRSignature l10), wD1]) go0 zi57 rfl rfl (ao_str (st' := [(wD3 p0), ⟨0, 49, 2, [[.zc, .zc]]⟩, ⟨0, 49, 2, [[(ls eRDecl p0.decls), (ow 3 0 l10)]]⟩, (ro 0 102 3 eRSignature l10), ⟨0, 57, 5, [[(ls eI c20.params), (ls eI c20.lent), (i64 c20.result), (ls eStep c20.body.steps), (i64 c20.body.result)]]⟩]) go0 ti57 rfl rfl rfl rfl rfl rfl (show 0 + 5 ≤ 5 by decide) rfl (dn hK19 rfl (AW.regionO rfl (zm tb 8 rfl ?_)))))))))
   refine zz (.agg [(ls eI c20.params), (ls eI c20.lent), (i64 c20.result)]) (aq_bd ai102 bi102 zi102 rfl rfl) rfl ?_
   refine ao_bs (m := 5) (st' := [(wD3 p0), ⟨0, 49, 2, [[.zc, .zc]]⟩, ⟨0, 49, 2, [[(ls eRDecl p0.decls), (ow 3 0 l10)]]⟩, (ro 0 102 3 eRSignature l10), ⟨0, 57, 5, [[(ls eI c20.params), (ls eI c20.lent), (i64 c20.result), (ls eStep c20.body.steps), (i64 c20.body.result)]]⟩, (ro 0 102 3 eRSignature [(RSignature.mk c20.params c20.lent c20.result)])]) (l := [(RSignature.mk c20.params c20.lent c20.result)]) (enc := eRSignature) go0 ei47 (by decide) rfl rfl rfl rfl rfl rfl ?_
   refine bs h1 fun l21 gl21 h1 => ao_apo (st' := [(wD3 p0), ⟨0, 49, 2, [[.zc, .zc]]⟩, ⟨0, 49, 2, [[(ls eRDecl p0.decls), (ow 3 0 l10)]]⟩, (ro 1 102 3 eRSignature l21), ⟨0, 57, 5, [[(ls eI c20.params), (ls eI c20.lent), (i64 c20.result), (ls eStep c20.body.steps), (i64 c20.body.result)]]⟩, (ro 0 102 3 eRSignature [(RSignature.mk c20.params c20.lent c20.result)])]) (l2 := [(RSignature.mk c20.params c20.lent c20.result)]) go0 ei47 rfl rfl rfl rfl (el_o rfl rfl) (fun _ => rfl) gl21 rfl (zq tb rfl (ao_str (st' := [(wD3 p0), ⟨0, 49, 2, [[.zc, .zc]]⟩, ⟨0, 49, 2, [[(ls eRDecl p0.decls), (ow 3 1 l21)]]⟩, (ro 1 102 3 eRSignature l21), ⟨0, 57, 5, [[(ls eI c20.params), (ls eI c20.lent), (i64 c20.result), (ls eStep c20.body.steps), (i64 c20.body.result)]]⟩, (ro 0 102 3 eRSignature [(RSignature.mk c20.params c20.lent c20.result)])]) go0 ti47 rfl rfl rfl rfl rfl rfl (show 1 + 1 ≤ 2 by decide) rfl (dn hK18 rfl (AW.regionO rfl (zm tb 2 rfl ?_)))))
   exact AO.done (xi (Sh.w (t9 + 1), l21) h1 (by refine Wk.trans (Wk.rg (L := [(1, (.ptr 0 0 0 0)), (2, (.ptr 1 0 0 0)), (4, (.ptr 2 0 0 0)), (16, (ls eRRoutine p0.routines)), (17, (i64 (Sh.len p0.routines))), (18, (i64 (Sh.w (t9 + 1))))]) (st' := [(wD3 p0), ⟨0, 49, 2, [[.zc, .zc]]⟩, ⟨0, 49, 2, [[(ls eRDecl p0.decls), (ow 3 0 l21)]]⟩, (ro 0 102 3 eRSignature l21), ⟨0, 57, 5, [[(ls eI c20.params), (ls eI c20.lent), (i64 c20.result), (ls eStep c20.body.steps), (i64 c20.body.result)]]⟩, (ro 0 102 3 eRSignature [(RSignature.mk c20.params c20.lent c20.result)])]) (.raw rfl rfl (.raw rfl rfl (.raw rfl rfl (.pure (pure_map fun _ => rfl) (.raw rfl rfl (.pure (pure_map fun _ => rfl) .nil)))))) ⟨.rfl, .rfl, .rfl, .rfl, .rfl, .rfl, trivial⟩) ?_; exact Wk.permk (L := [(1, (.ptr 0 0 0 0)), (2, (.ptr 1 0 0 0)), (4, (.ptr 2 0 0 0)), (16, (ls eRRoutine p0.routines)), (17, (i64 (Sh.len p0.routines))), (18, (i64 (Sh.w (t9 + 1))))]) (st' := [(wD3 p0), ⟨0, 49, 2, [[.zc, .zc]]⟩, ⟨0, 49, 2, [[(ls eRDecl p0.decls), (ow 3 0 l21)]]⟩, (ro 0 102 3 eRSignature l21)]) (st1 := [(wD3 p0), ⟨0, 49, 2, [[.zc, .zc]]⟩, ⟨0, 49, 2, [[(ls eRDecl p0.decls), (ow 3 0 l21)]]⟩, (ro 0 102 3 eRSignature l21)]) [0, 1, 2, 3] rfl .nil (by decide) rfl rfl (.raw rfl rfl (.raw rfl rfl (.raw rfl rfl (.pure (pure_map fun _ => rfl) .nil)))) ⟨.rfl, .rfl, .rfl, .rfl, .rfl, .rfl, trivial⟩))
  ·intro b17 h1
   exact AW.exit (M12 l10 (Sh.some_eq h1).symm _ (Wk.tr rfl))
theorem impl_countSteps_B_ok {N : Nat} {rec_impl_countSteps : Int → Block → Option (Bool × Int)} (hrec_impl_countSteps : ∀ {s0_0 : Int} {p0 : Block} {r : Bool × Int}, rec_impl_countSteps s0_0 p0 = some r → ACalls Tryz.prog 140 [(.agg [(ls eStep p0.steps), (i64 p0.result)]), (.ptr 0 0 0 0)] [⟨0, 3, 1, [[(i64 s0_0)]]⟩] (fun v st => v = (.bool r.1) ∧ st = [⟨0, 3, 1, [[(i64 r.2)]]⟩])) {s0_0 : Int} {p0 : Block} {r : Bool × Int} (h0 : impl_countSteps_B N rec_impl_countSteps s0_0 p0 = some r) : ACalls Tryz.prog 140 [(.agg [(ls eStep p0.steps), (i64 p0.result)]), (.ptr 0 0 0 0)] [⟨0, 3, 1, [[(i64 s0_0)]]⟩] (fun v st => v = (.bool r.1) ∧ st = [⟨0, 3, 1, [[(i64 r.2)]]⟩]) := by
 unfold impl_countSteps_B at h0
 refine ai Tryz.func140 rfl rfl rfl rfl (sr rfl fun K1 hK1 => ao_box (m := 1) (st' := [⟨0, 3, 1, [[(i64 s0_0)]]⟩, ⟨0, 55, 2, [[(ls eStep p0.steps), (i64 p0.result)]]⟩]) go0 rfl rfl rfl rfl rfl (zq tb rfl (dn hK1 rfl (AW.seq fun K2 hK2 => sr rfl fun K3 hK3 => zm tb 2 rfl (zl tb rfl rfl (zq tb rfl (dn hK3 rfl ?_)))))))
 obtain ⟨o7, h1, h0⟩ := Sh.cont_some h0
 have M7 : ∀ (f6 : Int), o7 = Sum.inr f6 → ∀ s, Wk 1 s ⟨38, envL [], [⟨0, 3, 1, [[(i64 f6)]]⟩]⟩ → K2 s := by
  intro f6 hq s hw
  subst o7
  try dsimp only at h0
  refine hK2 _ (AW.weaken hw (zr tb rfl rfl ?_))
  replace h0 := Sh.some_eq h0
  subst r
  exact AW.ret (xr (Wk.to (L := [(4, (.bool true))]) ⟨.rfl, trivial⟩))
 refine AW.block (AW.loopF (σ := Int × Int) (fun n v => impl_countSteps_B_L1 N p0 rec_impl_countSteps n v.1 v.2 = some o7) (fun (t4, f5) => ⟨38, envL [(1, (.ptr 0 0 0 0)), (10, (ls eStep p0.steps)), (11, (i64 (Sh.len p0.steps))), (12, (i64 t4))], [⟨0, 3, 1, [[(i64 f5)]]⟩]⟩) N (0, s0_0) h1 (Wk.permk (L := [(1, (.ptr 0 0 0 0)), (10, (ls eStep p0.steps)), (11, (i64 (Sh.len p0.steps))), (12, (i64 0))]) (st' := [⟨0, 3, 1, [[(i64 s0_0)]]⟩]) (st1 := [⟨0, 3, 1, [[(i64 s0_0)]]⟩]) [0] rfl (.raw rfl rfl .nil) (by decide) rfl rfl (.raw rfl rfl .nil) ⟨.rfl, .rfl, .rfl, .rfl, trivial⟩) (fun _ hv => by rw [impl_countSteps_B_L1] at hv; cases hv) ?_)
 rintro n ⟨t4, f5⟩ h1
 try dsimp only at h1 ⊢
 rw [impl_countSteps_B_L1] at h1
 refine zr tb rfl rfl (AW.seq fun K10 hK10 => ?_)
 refine ci h1 rfl ?_ ?_ <;> clear h1
 ·intro b11 h1
  refine AW.skip (hK10 _ (AW.seq fun K12 hK12 => AW.block (sr rfl fun K13 hK13 => bs h1 fun c14 gc14 h1 => zz (.iptr [(i64 c14.op), (i64 c14.num), (i64 c14.into), (ls eI c14.args), (ls eBlock c14.kids)] 0) (aq_ixsE ei53 rfl rfl gc14 (eStep_eq _) rfl) rfl (zq tb rfl (ao_alloc (m := 1) (st' := [⟨0, 3, 1, [[(i64 f5)]]⟩, ⟨0, 71, 5, [[(i64 0), (i64 0), (i64 0), .zc, .zc]]⟩]) go0 zi71 rfl rfl (ao_str (st' := [⟨0, 3, 1, [[(i64 f5)]]⟩, ⟨0, 71, 5, [[(i64 c14.op), (i64 c14.num), (i64 c14.into), (ls eI c14.args), (ls eBlock c14.kids)]]⟩]) go0 ti71 rfl rfl rfl rfl rfl rfl (show 0 + 5 ≤ 5 by decide) rfl (dn hK13 rfl (AW.seq fun K15 hK15 => sr rfl fun K16 hK16 => ?_))))))))
  refine zm tb 5 rfl (ao_str (st' := [⟨0, 3, 1, [[(i64 (Sh.w (f5 + 1)))]]⟩, ⟨0, 71, 5, [[(i64 c14.op), (i64 c14.num), (i64 c14.into), (ls eI c14.args), (ls eBlock c14.kids)]]⟩]) go0 ti3 rfl rfl rfl rfl rfl rfl (show 0 + 1 ≤ 1 by decide) rfl (dn hK16 rfl (zr tb rfl rfl ?_)))
  refine ci h1 rfl ?_ ?_ <;> clear h1
  ·intro b18 h1
   refine zr tb rfl rfl ?_
   replace h1 := Sh.some_eq h1
   subst o7
   try dsimp only [id] at h0
   replace h0 := Sh.some_eq h0
   subst r
   exact AW.ret (xr (Wk.permk (L := [(4, (.bool false))]) (st' := [⟨0, 3, 1, [[(i64 (Sh.w (f5 + 1)))]]⟩]) (st1 := [⟨0, 3, 1, [[(i64 (Sh.w (f5 + 1)))]]⟩]) [0] rfl (.raw rfl rfl .nil) (by decide) rfl rfl (.raw rfl rfl .nil) ⟨.rfl, trivial⟩))
  ·intro b18 h1
   refine AW.skip (hK15 _ (sr rfl fun K20 hK20 => zm tb 2 rfl (zl tb rfl rfl (zq tb rfl (dn hK20 rfl ?_)))))
   obtain ⟨o24, h2, h1⟩ := Sh.cont_some h1
   have M24 : ∀ (f23 : Int), o24 = Sum.inr f23 → ∀ s, Wk 1 s ⟨38, envL [(1, (.ptr 0 0 0 0)), (10, (ls eStep p0.steps)), (11, (i64 (Sh.len p0.steps))), (12, (i64 t4))], [⟨0, 3, 1, [[(i64 f23)]]⟩]⟩ → K12 s := by
    intro f23 hq s hw
    subst o24
    try dsimp only at h1
    exact hK12 _ (AW.weaken hw (AW.regionO rfl (zm tb 2 rfl (AO.done (xi (Sh.w (t4 + 1), f23) h1 (Wk.tr rfl))))))
   refine AW.block (AW.loopF (σ := Int × Int) (fun n v => impl_countSteps_B_L2 c14 rec_impl_countSteps n v.1 v.2 = some o24) (fun (t21, f22) => ⟨38, envL [(1, (.ptr 0 0 0 0)), (10, (ls eStep p0.steps)), (11, (i64 (Sh.len p0.steps))), (12, (i64 t4)), (26, (ls eBlock c14.kids)), (27, (i64 (Sh.len c14.kids))), (28, (i64 t21))], [⟨0, 3, 1, [[(i64 f22)]]⟩]⟩) N (0, Sh.w (f5 + 1)) h2 (Wk.permk (L := [(1, (.ptr 0 0 0 0)), (10, (ls eStep p0.steps)), (11, (i64 (Sh.len p0.steps))), (12, (i64 t4)), (26, (ls eBlock c14.kids)), (27, (i64 (Sh.len c14.kids))), (28, (i64 0))]) (st' := [⟨0, 3, 1, [[(i64 (Sh.w (f5 + 1)))]]⟩]) (st1 := [⟨0, 3, 1, [[(i64 (Sh.w (f5 + 1)))]]⟩]) [0] rfl (.raw rfl rfl .nil) (by decide) rfl rfl (.raw rfl rfl .nil) ⟨.rfl, .rfl, .rfl, .rfl, .rfl, .rfl, .rfl, trivial⟩) (fun _ hv => by rw [impl_countSteps_B_L2] at hv; cases hv) ?_)
   rintro n ⟨t21, f22⟩ h2
   try dsimp only at h2 ⊢
   rw [impl_countSteps_B_L2] at h2
   refine zr tb rfl rfl (AW.seq fun K26 hK26 => ?_)
   refine ci h2 rfl ?_ ?_ <;> clear h2
   ·intro b27 h2
    refine AW.skip (hK26 _ (AW.seq fun K28 hK28 => AW.block (sr rfl fun K29 hK29 => bs h2 fun c30 gc30 h2 => zx ei69 gc30 rfl rfl rfl (zq tb rfl (ao_alloc (m := 1) (st' := [⟨0, 3, 1, [[(i64 f22)]]⟩, ⟨0, 55, 2, [[.zc, (i64 0)]]⟩]) go0 zi55 rfl rfl (ao_str (st' := [⟨0, 3, 1, [[(i64 f22)]]⟩, ⟨0, 55, 2, [[(ls eStep c30.steps), (i64 c30.result)]]⟩]) go0 ti55 rfl rfl rfl rfl rfl rfl (show 0 + 2 ≤ 2 by decide) rfl (dn hK29 rfl (sr rfl fun K31 hK31 => zm tb 2 rfl ?_))))))))
    refine bs h2 fun q32 gq32 h2 => ?_
    refine ao_calls (rowsP := [⟨0, 3, 1, [[(i64 f22)]]⟩]) (rows0 := [⟨0, 3, 1, [[(i64 f22)]]⟩]) (rows1 := [⟨0, 3, 1, [[(i64 q32.2)]]⟩]) (rows2 := []) (rows1' := [⟨0, 3, 1, [[(i64 q32.2)]]⟩]) (rows2' := []) (st' := [⟨0, 3, 1, [[(i64 q32.2)]]⟩, ⟨0, 55, 2, [[(ls eStep c30.steps), (i64 c30.result)]]⟩]) (v' := (.bool q32.1)) [0] go0 hb140 (hrec_impl_countSteps gq32) rfl (by decide) rfl rfl (.raw rfl rfl .nil) rfl rfl (.raw rfl rfl .nil) .nil rfl rfl ?_
    refine zq tb rfl (dn hK31 rfl ?_)
    refine ci h2 rfl ?_ ?_ <;> clear h2
    ·intro b33 h2
     have b34 : q32.1 = false := by simpa using b33
     refine zr tb rfl rfl ?_
     replace h2 := Sh.some_eq h2
     subst o24
     try dsimp only [id] at h1
     replace h1 := Sh.some_eq h1
     subst o7
     try dsimp only [id] at h0
     replace h0 := Sh.some_eq h0
     subst r
     exact AW.ret (xr (Wk.permk (L := [(4, (.bool false))]) (st' := [⟨0, 3, 1, [[(i64 q32.2)]]⟩]) (st1 := [⟨0, 3, 1, [[(i64 q32.2)]]⟩]) [0] rfl (.raw rfl rfl .nil) (by decide) rfl rfl (.raw rfl rfl .nil) ⟨.rfl, trivial⟩))
    ·intro b33 h2
     have b36 : q32.1 = true := by simpa using b33
     refine AW.skip (hK28 _ (AW.regionO rfl (zm tb 2 rfl ?_)))
     exact AO.done (xi (Sh.w (t21 + 1), q32.2) h2 (Wk.permk (L := [(1, (.ptr 0 0 0 0)), (10, (ls eStep p0.steps)), (11, (i64 (Sh.len p0.steps))), (12, (i64 t4)), (26, (ls eBlock c14.kids)), (27, (i64 (Sh.len c14.kids))), (28, (i64 (Sh.w (t21 + 1))))]) (st' := [⟨0, 3, 1, [[(i64 q32.2)]]⟩]) (st1 := [⟨0, 3, 1, [[(i64 q32.2)]]⟩]) [0] rfl (.raw rfl rfl .nil) (by decide) rfl rfl (.raw rfl rfl .nil) ⟨.rfl, .rfl, .rfl, .rfl, .rfl, .rfl, .rfl, trivial⟩))
   ·intro b27 h2
    exact AW.exit (M24 f22 (Sh.some_eq h2).symm _ (Wk.tr rfl))
 ·intro b11 h1
  exact AW.exit (M7 f5 (Sh.some_eq h1).symm _ (Wk.tr rfl))

theorem impl_countSteps_F_ok {N : Nat} : ∀ (n : Nat), ∀ {s0_0 : Int} {p0 : Block} {r : Bool × Int}, impl_countSteps_F N n s0_0 p0 = some r → ACalls Tryz.prog 140 [(.agg [(ls eStep p0.steps), (i64 p0.result)]), (.ptr 0 0 0 0)] [⟨0, 3, 1, [[(i64 s0_0)]]⟩] (fun v st => v = (.bool r.1) ∧ st = [⟨0, 3, 1, [[(i64 r.2)]]⟩]) := by
 intro n
 induction n with
 | zero => intro s0_0 p0 r h0; cases h0
 | succ n ih =>
  intro s0_0 p0 r h0
  rw [impl_countSteps_F] at h0
  exact impl_countSteps_B_ok (fun h => ih h) h0
theorem impl_countSteps_ok {N : Nat} : ∀ {s0_0 : Int} {p0 : Block} {r : Bool × Int}, impl_countSteps N s0_0 p0 = some r → ACalls Tryz.prog 140 [(.agg [(ls eStep p0.steps), (i64 p0.result)]), (.ptr 0 0 0 0)] [⟨0, 3, 1, [[(i64 s0_0)]]⟩] (fun v st => v = (.bool r.1) ∧ st = [⟨0, 3, 1, [[(i64 r.2)]]⟩]) := by
 intro s0_0 p0 r h0
 exact impl_countSteps_F_ok N h0
noncomputable abbrev wD4 (p0 : Block) : Go.Abs.Row := ⟨0, 55, 2, [[(ls eStep p0.steps), (i64 p0.result)]]⟩
theorem impl_StepsOf_ok {N : Nat} {p0 : Block} {r : Int} (h0 : impl_StepsOf N p0 = some r) : ACalls Tryz.prog 88 [(.agg [(ls eStep p0.steps), (i64 p0.result)])] [] (fun v st => v = (i64 r) ∧ st = []) := by
 unfold impl_StepsOf at h0
 refine ai Tryz.func88 rfl rfl rfl rfl (sr rfl fun K1 hK1 => ao_box (m := 0) (st' := [(wD4 p0)]) go0 rfl rfl rfl rfl rfl (zq tb rfl (dn hK1 rfl (sr rfl fun K2 hK2 => ao_alloc (m := 1) (st' := [(wD4 p0), ⟨0, 3, 1, [[(i64 0)]]⟩]) go0 zi3 rfl rfl (ao_str (st' := [(wD4 p0), ⟨0, 3, 1, [[(i64 0)]]⟩]) go0 ti3 rfl rfl rfl rfl rfl rfl (show 0 + 1 ≤ 1 by decide) rfl (dn hK2 rfl (AW.seq fun K3 hK3 => sr rfl fun K4 hK4 => zq tb rfl ?_)))))))
 refine bs h0 fun q5 gq5 h0 => ?_
 refine ao_calls (rowsP := [⟨0, 3, 1, [[(i64 0)]]⟩]) (rows0 := [⟨0, 3, 1, [[(i64 0)]]⟩]) (rows1 := [⟨0, 3, 1, [[(i64 q5.2)]]⟩]) (rows2 := []) (rows1' := [⟨0, 3, 1, [[(i64 q5.2)]]⟩]) (rows2' := []) (st' := [(wD4 p0), ⟨0, 3, 1, [[(i64 q5.2)]]⟩]) (v' := (.bool q5.1)) [1] go0 hb140 (impl_countSteps_ok gq5) rfl (by decide) rfl rfl (.raw rfl rfl .nil) rfl rfl (.raw rfl rfl .nil) .nil rfl rfl ?_
 refine zq tb rfl (dn hK4 rfl ?_)
 refine ci h0 rfl ?_ ?_ <;> clear h0
 ·intro b6 h0
  have b7 : q5.1 = false := by simpa using b6
  refine zr tb rfl rfl ?_
  replace h0 := Sh.some_eq h0
  subst r
  exact AW.ret (xr (Wk.d0 [(2, (i64 (-1)))] rfl))
 ·intro b6 h0
  have b9 : q5.1 = true := by simpa using b6
  refine AW.skip (hK3 _ (zr tb rfl rfl ?_))
  replace h0 := Sh.some_eq h0
  subst r
  exact AW.ret (xr (Wk.d0 [(2, (i64 q5.2))] rfl))
theorem slices_Clone_int_int_ok {p0 : (List Int)} {r : (List Int)} (h0 : slices_Clone_int_int p0 = some r) : ACalls Tryz.prog 77 [(ls eI p0)] [] (fun v st => v = (ow 0 0 r) ∧ st = [(ro 0 3 1 eI r)]) := by
 unfold slices_Clone_int_int at h0
 refine ai Tryz.func77 rfl rfl rfl rfl (zr tb rfl rfl (AW.seq fun K2 hK2 => sr rfl fun K3 hK3 => zq tb rfl ?_))
 refine ao_nil go0 sl37 rfl (fun hn => ?_) ?_
 ·subst hn
  replace h0 : some [] = some r := by rw [← h0]; first | rfl | simp [Sh.app]
  refine dn hK3 rfl (AW.cond' (b := true) rfl (fun _ => zr tb rfl rfl ?_) (fun q => nomatch (show true = false from (rfl : true = true).symm.trans q)))
  replace h0 := Sh.some_eq h0
  subst r
  exact AW.ret (Exists.intro _ (And.intro (((Wk.adopt (t := 2) rfl 3 (size := 1) (by decide)).trans (Wk.to (L := [(2, (.own 0 0 (List.length ([] : List Int))))]) ⟨.rfl, trivial⟩)).trans (Wk.to (L := [(2, (.own 0 0 (List.length ([] : List Int))))]) ⟨.rfl, trivial⟩)) (And.intro rfl rfl)))
 ·refine dn hK3 rfl (AW.cond' (b := false) rfl (fun q => nomatch (show false = true from (rfl : false = false).symm.trans q)) (fun _ => AW.skip (hK2 _ (sr rfl fun K5 hK5 => ?_))))
  refine ao_bs (m := 0) (st' := [(ro 0 3 1 eI ([] : List Int))]) (l := ([] : List Int)) (enc := eI) go0 ei37 (by decide) rfl rfl rfl rfl rfl rfl ?_
  refine zq tb rfl (bs h0 fun l6 gl6 h0 => ao_apo (st' := [(ro 1 3 1 eI l6)]) (l2 := p0) go0 ei37 rfl rfl rfl rfl el_s (fun _ => rfl) gl6 rfl (zq tb rfl (dn hK5 rfl ?_)))
  replace h0 := Sh.some_eq h0
  subst r
  exact AW.ret (xr (Wk.rg (L := [(2, (ow 0 0 l6))]) (st' := [(ro 0 3 1 eI l6)]) (.pure (pure_map fun _ => rfl) .nil) ⟨.rfl, trivial⟩))
theorem impl_isCounting_ok {p0 : Int} {r : Bool} (h0 : impl_isCounting p0 = some r) : ACalls Tryz.prog 54 [(i64 p0)] [] (fun v st => v = (.bool r) ∧ st = []) := by
 unfold impl_isCounting at h0
 refine ai Tryz.func54 rfl rfl rfl rfl (zr tb rfl rfl (AW.seq fun K2 hK2 => bs h0 fun o4 h1 h0 => ?_))
 have M4 : ∀ (t3 : Bool), o4 = t3 → ∀ s, Wk 0 s ⟨9, envL [(2, (.bool t3))], []⟩ → K2 s := by
  intro t3 hq s hw
  subst o4
  try dsimp only at h0
  refine hK2 _ (AW.weaken hw ?_)
  replace h0 := Sh.some_eq h0
  subst r
  exact AW.ret (xr (Wk.to (L := [(2, (.bool t3))]) ⟨.rfl, trivial⟩))
 refine AW.regionO rfl (zm tb 3 rfl ?_)
 rcases Sh.ite_some h1 with ⟨b5, h1⟩ | ⟨b5, h1⟩
 ·exact zg tb b5 rfl (zg tb b5 rfl (zt b5 rfl (zq tb rfl (AO.done (M4 (decide (p0 ≤ 17)) (Sh.some_eq h1).symm _ (Wk.tr rfl))))))
 ·exact zs b5 rfl (zs b5 rfl (zf b5 rfl (zq tb rfl (AO.done (M4 false (Sh.some_eq h1).symm _ (Wk.tr rfl))))))
noncomputable abbrev wD5 : Go.Abs.Row := ⟨0, 98, 3, [[(i64 0), (i64 0), .zc]]⟩
theorem impl_arrowAt_ok {p0 : (List RDecl)} {p1 : Int} {r : RDecl × Bool} (h0 : impl_arrowAt p0 p1 = some r) : ACalls Tryz.prog 137 [(ls eRDecl p0), (i64 p1)] [] (fun v st => v = (.tup [(.agg (eRDecl r.1)), (.bool r.2)]) ∧ st = []) := by
 unfold impl_arrowAt at h0
 refine ACalls.flat rfl (ai Tryz.func137 rfl rfl rfl rfl (sr rfl fun K1 hK1 => ao_alloc (m := 0) (st' := [wD5]) go0 zi98 rfl rfl (zq tb rfl (dn hK1 rfl (AW.seq fun K2 hK2 => AW.seq fun K3 hK3 => bs h0 fun o5 h1 h0 => ?_)))))
 have M5 : ∀ (t4 : Bool), o5 = t4 → ∀ s, Wk 0 s ⟨30, envL [(0, (ls eRDecl p0)), (1, (i64 p1)), (4, (.ptr 0 0 0 0)), (23, (.bool t4))], [wD5]⟩ → K3 s := by
  intro t4 hq s hw
  subst o5
  try dsimp only at h0
  refine hK3 _ (AW.weaken hw ?_)
  refine ci h0 rfl ?_ ?_ <;> clear h0
  ·intro b6 h0
   refine sr rfl fun K7 hK7 => zz (.agg [(i64 0), (i64 0), .zc]) (aq_bd ai98 bi98 zi98 rfl rfl) rfl (ao_str (st' := [wD5]) go0 ti98 rfl rfl rfl rfl rfl rfl (show 0 + 3 ≤ 3 by decide) rfl (zq tb rfl (dn hK7 rfl ?_)))
   replace h0 := Sh.some_eq h0
   subst r
   exact AW.ret (Exists.intro _ (And.intro ((Wk.cellLe (id := 0) (cs := [(i64 0), (i64 0), .zc]) (cs' := [(i64 0), (i64 0), (.sl (List.map eRCon []))]) (st' := [⟨0, 98, 3, [[(i64 0), (i64 0), (.sl (List.map eRCon []))]]⟩]) rfl ⟨le.rfl, le.rfl, le.zc, trivial⟩ rfl rfl).trans (Wk.to (L := [(4, (.ptr 0 0 0 0)), (5, (.bool false))]) ⟨.rfl, .rfl, trivial⟩)) (aq_ldpa (x := .tmp 4) (off := 0) (cs := [(i64 0), (i64 0), (.sl (List.map eRCon []))]) (vs := [(i64 0), (i64 0), (.sl (List.map eRCon []))]) ti98 rfl rfl rfl (show 0 + 3 ≤ 3 by decide) rfl _ rfl)))
  ·intro b6 h0
   refine AW.skip (hK2 _ (sr rfl fun K8 hK8 => zm tb 3 rfl (bs h0 fun c9 gc9 h0 => zx ei27 gc9 rfl rfl rfl (zq tb rfl (ao_str (st' := [⟨0, 98, 3, [(eRDecl c9)]⟩]) go0 ti98 rfl rfl rfl rfl rfl rfl (show 0 + 3 ≤ 3 by decide) rfl (zq tb rfl (dn hK8 rfl ?_)))))))
   replace h0 := Sh.some_eq h0
   subst r
   exact AW.ret (Exists.intro _ (And.intro (Wk.to (L := [(4, (.ptr 0 0 0 0)), (5, (.bool true))]) ⟨.rfl, .rfl, trivial⟩) (aq_ldpa (x := .tmp 4) (off := 0) (cs := (eRDecl c9)) (vs := (eRDecl c9)) ti98 rfl rfl rfl (show 0 + 3 ≤ 3 by decide) rfl _ rfl)))
 refine AW.regionO rfl (zm tb 3 rfl ?_)
 rcases Sh.ite_some h1 with ⟨b10, h1⟩ | ⟨b10, h1⟩
 ·refine zs b10 rfl ?_
  iterate 3 refine zs b10 rfl ?_
  refine zt b10 rfl (zq tb rfl ?_)
  iterate 8 refine zs rfl rfl ?_
  exact zt rfl rfl (AO.done (M5 true (Sh.some_eq h1).symm _ (Wk.tr rfl)))
 ·refine zg tb b10 rfl (zg tb b10 rfl (ao_q (v := (i64 (Sh.len p0))) (go1 rfl rfl b10) rfl (aq_lens sl27 rfl) (zg tb b10 rfl (zf b10 rfl (zq tb rfl ?_)))))
  rcases Sh.ite_some h1 with ⟨b11, h1⟩ | ⟨b11, h1⟩
  ·refine zs b11 rfl ?_
   iterate 7 refine zs b11 rfl ?_
   exact zt b11 rfl (AO.done (M5 true (Sh.some_eq h1).symm _ (Wk.tr rfl)))
  ·exact zg tb b11 rfl (zg tb b11 rfl (zg tb b11 rfl (bs h1 fun c12 gc12 h1 => ao_q (v := (.iptr (eRDecl c12) 0)) (go1 rfl rfl b11) rfl (aq_ixs ei27 rfl rfl gc12 rfl) (zg tb b11 rfl (zg tb b11 rfl (ao_q (v := (i64 (Sh.len c12.cons))) (go1 rfl rfl b11) rfl (aq_lens sl96 rfl) (zg tb b11 rfl (zf b11 rfl (AO.done (M5 (decide (0 < (Sh.len c12.cons))) (Sh.some_eq h1).symm _ (Wk.tr rfl)))))))))))
theorem slices_Grow_int_int_ok {p1 : Int} {r : (List Int)} (h0 : slices_Grow_int_int p1 = some r) : ACalls Tryz.prog 183 [.zc, (i64 p1)] [] (fun v st => v = (ow 0 0 r) ∧ st = [(ro 0 3 1 eI r)]) := by
 unfold slices_Grow_int_int at h0
 refine ai Tryz.func183 rfl rfl rfl rfl (zr tb rfl rfl (AW.seq fun K2 hK2 => zr tb rfl rfl ?_))
 refine ci h0 rfl ?_ ?_ <;> clear h0
 ·intro b4 h0
  refine AW.regionO rfl ?_
  cases h0
 ·intro b4 h0
  refine AW.skip (hK2 _ (AW.seq fun K5 hK5 => bs h0 fun o7 h1 h0 => ?_))
  have M7 : ∀ (l6 : (List Int)), o7 = l6 → ∀ s, Wk 0 s ⟨27, envL [(0, (ow 0 0 l6))], [(ro 0 3 1 eI l6)]⟩ → K5 s := by
   intro l6 hq s hw
   subst o7
   try dsimp only at h0
   refine hK5 _ (AW.weaken hw (zr tb rfl rfl ?_))
   replace h0 := Sh.some_eq h0
   subst r
   exact AW.ret (xr (Wk.to (L := [(4, (ow 0 0 l6))]) ⟨.rfl, trivial⟩))
  refine sr rfl fun K9 hK9 => zm tb 2 rfl (ao_capz sl37 rfl (zq tb rfl (zz (i64 0) (aq_lenz sl37 rfl) rfl (zm tb 3 rfl (dn hK9 rfl (zr tb rfl rfl ?_))))))
  refine ci h1 rfl ?_ ?_ <;> clear h1
  ·intro b11 h1
   refine AW.regionO rfl (zm tb 2 rfl (ao_capz sl37 rfl (ao_slz ei37 rfl rfl (zq tb rfl (bs h1 fun l12 gl12 h1 => ao_apmk (u := 0) (enc := eI) (m := 0) (st' := [(ro 0 3 1 eI l12)]) ei37 iT3 rfl rfl b11 rfl gl12 rfl rfl (zq tb rfl (zz (i64 0) (aq_lenz sl37 rfl) rfl (bs h1 fun l13 gl13 h1 => ao_hio (st' := [(ro 1 3 1 eI l13)]) go0 ei37 rfl rfl rfl rfl gl13 rfl (zq tb rfl ?_)))))))))
   exact AO.done (M7 l13 (Sh.some_eq h1).symm _ (Wk.rg (L := [(0, (ow 0 0 l13))]) (st' := [(ro 0 3 1 eI l13)]) (.pure (pure_map fun _ => rfl) .nil) ⟨.rfl, trivial⟩))
  ·intro b11 h1
   exact AW.skip (M7 [] (Sh.some_eq h1).symm _ ((Wk.adopt (t := 0) rfl 3 (size := 1) (by decide)).trans (Wk.to (L := [(0, (.own 0 0 (List.length ([] : List Int))))]) ⟨.rfl, trivial⟩)))
theorem slices_Concat_int_int_ok {N : Nat} {p0 : (List (List Int))} {r : (List Int)} (h0 : slices_Concat_int_int N p0 = some r) : ACalls Tryz.prog 135 [(ls (eS eI) p0)] [] (fun v st => v = (ow 0 0 r) ∧ st = [(ro 0 3 1 eI r)]) := by
 unfold slices_Concat_int_int at h0
 refine ai Tryz.func135 rfl rfl rfl rfl ?_
 iterate 2 refine zr tb rfl rfl ?_
 refine AW.seq fun K3 hK3 => sr rfl fun K4 hK4 => zq tb rfl (zl tb rfl rfl (zq tb rfl (dn hK4 rfl (bs h0 fun o8 h1 h0 => ?_))))
 have M8 : ∀ (size7 : Int), o8 = size7 → ∀ s, Wk 0 s ⟨36, envL [(0, (ls (eS eI) p0)), (3, (i64 size7))], []⟩ → K3 s := by
  intro size7 hq s hw
  subst o8
  try dsimp only at h0
  refine hK3 _ (AW.weaken hw (sr rfl fun K9 hK9 => zq tb rfl (bs h0 fun q10 gq10 h0 => ao_call (v' := (ow 0 0 q10)) (st' := [(ro 0 3 1 eI q10)]) go0 hb183 (slices_Grow_int_int_ok gq10) rfl rfl ⟨(pure_map' fun _ => rfl), trivial⟩ rfl rfl (zq tb rfl (dn hK9 rfl (AW.seq fun K11 hK11 => sr rfl fun K12 hK12 => zq tb rfl (zl tb rfl rfl (zq tb rfl ?_))))))))
  refine dn hK12 rfl (bs h0 fun o16 h1 h0 => ?_)
  have M16 : ∀ (l15 : (List Int)), o16 = l15 → ∀ s, Wk 0 s ⟨36, envL [(6, (ow 0 0 l15))], [(ro 0 3 1 eI l15)]⟩ → K11 s := by
   intro l15 hq s hw
   subst o16
   try dsimp only at h0
   refine hK11 _ (AW.weaken hw (zr tb rfl rfl ?_))
   replace h0 := Sh.some_eq h0
   subst r
   exact AW.ret (xr (Wk.to (L := [(2, (ow 0 0 l15))]) ⟨.rfl, trivial⟩))
  refine AW.block (AW.loopF (σ := Int × (List Int)) (fun n v => slices_Concat_int_int_L2 p0 n v.1 v.2 = some o16) (fun (t13, l14) => ⟨36, envL [(6, (ow 0 0 l14)), (25, (ls (eS eI) p0)), (26, (i64 (Sh.len p0))), (27, (i64 t13))], [(ro 0 3 1 eI l14)]⟩) N (0, q10) h1 (Wk.tr rfl) (fun _ hv => by rw [slices_Concat_int_int_L2] at hv; cases hv) ?_)
  rintro n ⟨t13, l14⟩ h1
  try dsimp only at h1 ⊢
  rw [slices_Concat_int_int_L2] at h1
  refine zr tb rfl rfl (AW.seq fun K19 hK19 => ?_)
  refine ci h1 rfl ?_ ?_ <;> clear h1
  ·intro b20 h1
   refine AW.skip (hK19 _ (AW.seq fun K21 hK21 => AW.block (sr rfl fun K22 hK22 => bs h1 fun c23 gc23 h1 => zx ei74 gc23 rfl rfl rfl (zm tb 2 rfl (dn hK22 rfl (AW.regionO rfl (zm tb 2 rfl (bs h1 fun l24 gl24 h1 => ao_apo (st' := [(ro 1 3 1 eI l24)]) (l2 := c23) go0 ei37 rfl rfl rfl rfl el_s (fun _ => rfl) gl24 rfl ?_))))))))
   exact zq tb rfl (dn hK21 rfl (AW.regionO rfl (zm tb 2 rfl (AO.done (xi (Sh.w (t13 + 1), l24) h1 (Wk.rg (L := [(6, (ow 0 0 l24)), (25, (ls (eS eI) p0)), (26, (i64 (Sh.len p0))), (27, (i64 (Sh.w (t13 + 1))))]) (st' := [(ro 0 3 1 eI l24)]) (.pure (pure_map fun _ => rfl) .nil) ⟨.rfl, .rfl, .rfl, .rfl, trivial⟩))))))
  ·intro b20 h1
   exact AW.exit (M16 l14 (Sh.some_eq h1).symm _ (Wk.tr rfl))
 refine AW.block (AW.loopF (σ := Int × Int) (fun n v => slices_Concat_int_int_L1 p0 n v.1 v.2 = some o8) (fun (size5, t6) => ⟨36, envL [(0, (ls (eS eI) p0)), (3, (i64 size5)), (9, (ls (eS eI) p0)), (10, (i64 (Sh.len p0))), (11, (i64 t6))], []⟩) N (0, 0) h1 (Wk.tr rfl) (fun _ hv => by rw [slices_Concat_int_int_L1] at hv; cases hv) ?_)
 rintro n ⟨size5, t6⟩ h1
 try dsimp only at h1 ⊢
 rw [slices_Concat_int_int_L1] at h1
 refine zr tb rfl rfl (AW.seq fun K26 hK26 => ?_)
 refine ci h1 rfl ?_ ?_ <;> clear h1
 ·intro b27 h1
  refine AW.skip (hK26 _ (AW.seq fun K28 hK28 => AW.block (sr rfl fun K29 hK29 => bs h1 fun c30 gc30 h1 => zx ei74 gc30 rfl rfl rfl (zm tb 2 rfl (dn hK29 rfl (sr rfl fun K31 hK31 => zm tb 2 rfl (zl tb rfl rfl (zm tb 2 rfl ?_))))))))
  refine dn hK31 rfl (zr tb rfl rfl ?_)
  refine ci h1 rfl ?_ ?_ <;> clear h1
  ·intro b33 h1
   refine AW.regionO rfl ?_
   cases h1
  ·intro b33 h1
   exact AW.skip (hK28 _ (AW.regionO rfl (zm tb 2 rfl (AO.done (xi (Sh.w (size5 + (Sh.len c30)), Sh.w (t6 + 1)) h1 (Wk.tr rfl))))))
 ·intro b27 h1
  exact AW.exit (M8 size5 (Sh.some_eq h1).symm _ (Wk.tr rfl))
theorem impl_signatures_kidsType_ok {N : Nat} {rec_impl_signatures_blockType : RSignatures → (List Int) → Block → Option (Int)} (hrec_impl_signatures_blockType : ∀ {p0 : RSignatures} {p1 : (List Int)} {p2 : Block} {r : Int}, rec_impl_signatures_blockType p0 p1 p2 = some r → ACalls Tryz.prog 102 [(.agg (eRSignatures p0)), (ls eI p1), (.agg [(ls eStep p2.steps), (i64 p2.result)])] [] (fun v st => v = (i64 r) ∧ st = [])) {p0 : RSignatures} {p1 : (List Int)} {p2 : (List Block)} {p3 : (List (List Int))} {r : Int × Bool} (h0 : impl_signatures_kidsType N rec_impl_signatures_blockType p0 p1 p2 p3 = some r) : ACalls Tryz.prog 138 [(.agg (eRSignatures p0)), (ls eI p1), (ls eBlock p2), (ls (eS eI) p3)] [] (fun v st => v = (.tup [(i64 r.1), (.bool r.2)]) ∧ st = []) := by
 unfold impl_signatures_kidsType at h0
 refine ai Tryz.func138 rfl rfl rfl rfl (sr rfl fun K1 hK1 => ao_box (m := 0) (st' := [⟨0, 49, 2, [(eRSignatures p0)]⟩]) go0 rfl rfl rfl rfl rfl (zm tb 2 rfl (dn hK1 rfl (zr tb rfl rfl (AW.seq fun K3 hK3 => sr rfl fun K4 hK4 => zq tb rfl (zl tb rfl rfl (zq tb rfl (dn hK4 rfl ?_))))))))
 obtain ⟨o8, h1, h0⟩ := Sh.cont_some h0
 have M8 : ∀ (result7 : Int), o8 = Sum.inr result7 → ∀ s, Wk 0 s ⟨45, envL [(10, (i64 result7))], []⟩ → K3 s := by
  intro result7 hq s hw
  subst o8
  try dsimp only at h0
  refine hK3 _ (AW.weaken hw (zr tb rfl rfl ?_))
  replace h0 := Sh.some_eq h0
  subst r
  exact AW.ret (xr (Wk.to (L := [(8, (i64 result7)), (9, (.bool true))]) ⟨.rfl, .rfl, trivial⟩))
 refine AW.block (AW.loopF (σ := Int × Int) (fun n v => impl_signatures_kidsType_L1 N p0 p1 p2 p3 rec_impl_signatures_blockType n v.1 v.2 = some o8) (fun (result5, t6) => ⟨45, envL [(1, (ls eI p1)), (3, (ls (eS eI) p3)), (4, (.ptr 0 0 0 0)), (10, (i64 result5)), (14, (ls eBlock p2)), (15, (i64 (Sh.len p2))), (16, (i64 t6))], [⟨0, 49, 2, [(eRSignatures p0)]⟩]⟩) N (-1, 0) h1 (Wk.tr rfl) (fun _ hv => by rw [impl_signatures_kidsType_L1] at hv; cases hv) ?_)
 rintro n ⟨result5, t6⟩ h1
 try dsimp only at h1 ⊢
 rw [impl_signatures_kidsType_L1] at h1
 refine zr tb rfl rfl (AW.seq fun K11 hK11 => ?_)
 refine ci h1 rfl ?_ ?_ <;> clear h1
 ·intro b12 h1
  refine AW.skip (hK11 _ (AW.seq fun K13 hK13 => AW.block (sr rfl fun K14 hK14 => zq tb rfl (bs h1 fun c15 gc15 h1 => zx ei69 gc15 rfl rfl rfl (zq tb rfl (ao_alloc (m := 1) (st' := [⟨0, 49, 2, [(eRSignatures p0)]⟩, ⟨0, 55, 2, [[.zc, (i64 0)]]⟩]) go0 zi55 rfl rfl (zq tb rfl (ao_str (st' := [⟨0, 49, 2, [(eRSignatures p0)]⟩, ⟨0, 55, 2, [[(ls eStep c15.steps), (i64 c15.result)]]⟩]) go0 ti55 rfl rfl rfl rfl rfl rfl (show 0 + 2 ≤ 2 by decide) rfl (dn hK14 rfl ?_)))))))))
  refine AW.seq fun K16 hK16 => ?_
  refine AW.drawTailO 10 (by kernel_rfl) (by kernel_rfl) (by rfl) ?_
  iterate 4 refine yq tb rfl ?_
  refine bs h1 fun c17 gc17 h1 => yx ei74 gc17 rfl rfl rfl (yq tb rfl ?_)
  refine d_bs (l := [p1, c17]) (enc := (eS eI)) go0 ei74 (by decide) rfl rfl rfl rfl rfl (pure_map fun _ => rfl) ?_
  refine bs h1 fun q18 gq18 h1 => ?_
  refine d_call (v := (ls eI q18)) go0 hb135 (ACalls.wk (slices_Concat_int_int_ok gq18) (by refine Wk.trans (Wk.frz (L := [(0, (ls eI q18))]) (st' := [⟨1, 3, 1, []⟩]) (id := 0) rfl (show 0 ≤ 0 by decide) (pure_map fun _ => rfl) ⟨(.frz rfl), trivial⟩ rfl) ?_; refine Wk.trans (Wk.permk (L := [(0, (ls eI q18))]) (st' := []) (st1 := []) [] rfl .nil (by decide) rfl rfl .nil ⟨.rfl, trivial⟩) ?_; exact Wk.to (L := [(0, (ls eI q18))]) ⟨.rfl, trivial⟩)) rfl rfl rfl ?_
  refine yq tb rfl (bs h1 fun q19 gq19 h1 => d_call (v := (i64 q19)) go0 hb102 (hrec_impl_signatures_blockType gq19) rfl rfl rfl (d_done (zq tb rfl (dn hK16 rfl (AW.seq fun K20 hK20 => AW.seq fun K21 hK21 => bs h1 fun o23 h2 h1 => ?_)))))
  have M23 : ∀ (t22 : Bool), o23 = t22 → ∀ s, Wk 0 s ⟨45, envL [(1, (ls eI p1)), (3, (ls (eS eI) p3)), (4, (.ptr 0 0 0 0)), (13, (i64 q19)), (14, (ls eBlock p2)), (15, (i64 (Sh.len p2))), (16, (i64 t6)), (41, (.bool t22))], [⟨0, 49, 2, [(eRSignatures p0)]⟩]⟩ → K21 s := by
   intro t22 hq s hw
   subst o23
   try dsimp only at h1
   refine hK21 _ (AW.weaken hw ?_)
   refine ci h1 rfl ?_ ?_ <;> clear h1
   ·intro b24 h1
    refine zr tb rfl rfl ?_
    replace h1 := Sh.some_eq h1
    subst o8
    try dsimp only [id] at h0
    replace h0 := Sh.some_eq h0
    subst r
    exact AW.ret (xr (Wk.d0 [(8, (i64 (-1))), (9, (.bool false))] rfl))
   ·intro b24 h1
    exact AW.skip (hK20 _ (AW.regionO rfl (zm tb 2 rfl (dn hK13 rfl (AW.regionO rfl (zm tb 2 rfl (AO.done (xi (q19, Sh.w (t6 + 1)) h1 (Wk.tr rfl)))))))))
  refine AW.regionO rfl (zm tb 3 rfl ?_)
  rcases Sh.ite_some h2 with ⟨b26, h2⟩ | ⟨b26, h2⟩
  ·refine zs b26 rfl (zs b26 rfl (zs b26 rfl ?_))
   iterate 3 refine zn rfl ?_
   refine zs b26 rfl (zt b26 rfl ?_)
   exact AO.done (M23 true (Sh.some_eq h2).symm _ (Wk.permk (L := [(1, (ls eI p1)), (3, (ls (eS eI) p3)), (4, (.ptr 0 0 0 0)), (13, (i64 q19)), (14, (ls eBlock p2)), (15, (i64 (Sh.len p2))), (16, (i64 t6)), (41, (.bool true))]) (st' := [⟨0, 49, 2, [(eRSignatures p0)]⟩]) (st1 := [⟨0, 49, 2, [(eRSignatures p0)]⟩]) [0] rfl .nil (by decide) rfl rfl (.raw rfl rfl .nil) ⟨.rfl, .rfl, .rfl, .rfl, .rfl, .rfl, .rfl, .rfl, trivial⟩))
  ·refine zg tb b26 rfl (zg tb b26 rfl (zg tb b26 rfl ?_))
   rcases Sh.ite_some h2 with ⟨b27, h2⟩ | ⟨b27, h2⟩
   ·refine zg tb b27 rfl (zg tb b27 rfl (zg tb b27 rfl (ao_q (v := (.bool (!decide (q19 = result5)))) (go1 rfl rfl b26) rfl (aq_pkt rfl b27 rfl) (zf b26 rfl ?_))))
    exact AO.done (M23 (!decide (q19 = result5)) (Sh.some_eq h2).symm _ (Wk.permk (L := [(1, (ls eI p1)), (3, (ls (eS eI) p3)), (4, (.ptr 0 0 0 0)), (13, (i64 q19)), (14, (ls eBlock p2)), (15, (i64 (Sh.len p2))), (16, (i64 t6)), (41, (.bool (!decide (q19 = result5))))]) (st' := [⟨0, 49, 2, [(eRSignatures p0)]⟩]) (st1 := [⟨0, 49, 2, [(eRSignatures p0)]⟩]) [0] rfl .nil (by decide) rfl rfl (.raw rfl rfl .nil) ⟨.rfl, .rfl, .rfl, .rfl, .rfl, .rfl, .rfl, .rfl, trivial⟩))
   ·refine zs b27 rfl (zs b27 rfl (zs b27 rfl (ao_q (v := (.bool false)) (go1 rfl rfl b26) rfl (aq_pkf rfl b27 rfl) (zf b26 rfl ?_))))
    exact AO.done (M23 false (Sh.some_eq h2).symm _ (Wk.permk (L := [(1, (ls eI p1)), (3, (ls (eS eI) p3)), (4, (.ptr 0 0 0 0)), (13, (i64 q19)), (14, (ls eBlock p2)), (15, (i64 (Sh.len p2))), (16, (i64 t6)), (41, (.bool false))]) (st' := [⟨0, 49, 2, [(eRSignatures p0)]⟩]) (st1 := [⟨0, 49, 2, [(eRSignatures p0)]⟩]) [0] rfl .nil (by decide) rfl rfl (.raw rfl rfl .nil) ⟨.rfl, .rfl, .rfl, .rfl, .rfl, .rfl, .rfl, .rfl, trivial⟩))
 ·intro b12 h1
  exact AW.exit (M8 result5 (Sh.some_eq h1).symm _ (Wk.d0 _ rfl))
theorem impl_conCount_ok {N : Nat} {p0 : (List RDecl)} {r : Int} (h0 : impl_conCount N p0 = some r) : ACalls Tryz.prog 181 [(ls eRDecl p0)] [] (fun v st => v = (i64 r) ∧ st = []) := by
 unfold impl_conCount at h0
 refine ai Tryz.func181 rfl rfl rfl rfl ?_
 iterate 2 refine zr tb rfl rfl ?_
 refine AW.seq fun K3 hK3 => sr rfl fun K4 hK4 => zq tb rfl (zl tb rfl rfl (zq tb rfl (dn hK4 rfl (bs h0 fun o8 h1 h0 => ?_))))
 have M8 : ∀ (n7 : Int), o8 = n7 → ∀ s, Wk 0 s ⟨19, envL [(3, (i64 n7))], []⟩ → K3 s := by
  intro n7 hq s hw
  subst o8
  try dsimp only at h0
  refine hK3 _ (AW.weaken hw (zr tb rfl rfl ?_))
  replace h0 := Sh.some_eq h0
  subst r
  exact AW.ret (xr (Wk.to (L := [(2, (i64 n7))]) ⟨.rfl, trivial⟩))
 refine AW.block (AW.loopF (σ := Int × Int) (fun n v => impl_conCount_L1 p0 n v.1 v.2 = some o8) (fun (n5, t6) => ⟨19, envL [(3, (i64 n5)), (6, (ls eRDecl p0)), (7, (i64 (Sh.len p0))), (8, (i64 t6))], []⟩) N (0, 0) h1 (Wk.tr rfl) (fun _ hv => by rw [impl_conCount_L1] at hv; cases hv) ?_)
 rintro n ⟨n5, t6⟩ h1
 try dsimp only at h1 ⊢
 rw [impl_conCount_L1] at h1
 refine zr tb rfl rfl (AW.seq fun K11 hK11 => ?_)
 refine ci h1 rfl ?_ ?_ <;> clear h1
 ·intro b12 h1
  refine AW.skip (hK11 _ (AW.seq fun K13 hK13 => AW.block (sr rfl fun K14 hK14 => bs h1 fun c15 gc15 h1 => zx ei27 gc15 rfl rfl rfl (zq tb rfl (ao_alloc (m := 0) (st' := [wD5]) go0 zi98 rfl rfl (ao_str (st' := [⟨0, 98, 3, [(eRDecl c15)]⟩]) go0 ti98 rfl rfl rfl rfl rfl rfl (show 0 + 3 ≤ 3 by decide) rfl (dn hK14 rfl (AW.regionO rfl (zm tb 3 rfl ?_)))))))))
  exact zl tb rfl rfl (zm tb 2 rfl (dn hK13 rfl (AW.regionO rfl (zm tb 2 rfl (AO.done (xi (Sh.w (n5 + (Sh.len c15.cons)), Sh.w (t6 + 1)) h1 (Wk.d0 _ rfl)))))))
 ·intro b12 h1
  exact AW.exit (M8 n5 (Sh.some_eq h1).symm _ (Wk.tr rfl))
theorem impl_consOf_ok {N : Nat} {p0 : (List RDecl)} {p1 : Int} {r : (List Int)} (h0 : impl_consOf N p0 p1 = some r) : ACalls Tryz.prog 133 [(ls eRDecl p0), (i64 p1)] [] (fun v st => v = (ow 0 0 r) ∧ st = [(ro 0 3 1 eI r)]) := by
 unfold impl_consOf at h0
 refine ai Tryz.func133 rfl rfl rfl rfl (zr tb rfl rfl (AW.seq fun K2 hK2 => AW.seq fun K3 hK3 => bs h0 fun o5 h1 h0 => ?_))
 have M5 : ∀ (t4 : Bool), o5 = t4 → ∀ s, Wk 0 s ⟨39, envL [(0, (ls eRDecl p0)), (1, (i64 p1)), (15, (.bool t4))], []⟩ → K3 s := by
  intro t4 hq s hw
  subst o5
  try dsimp only at h0
  refine hK3 _ (AW.weaken hw ?_)
  refine ci h0 rfl ?_ ?_ <;> clear h0
  ·intro b6 h0
   refine zr tb rfl rfl ?_
   replace h0 := Sh.some_eq h0
   subst r
   exact AW.ret (Exists.intro _ (And.intro (((Wk.adopt (t := 4) rfl 3 (size := 1) (by decide)).trans (Wk.to (L := [(4, (.own 0 0 (List.length ([] : List Int))))]) ⟨.rfl, trivial⟩)).trans (Wk.to (L := [(4, (.own 0 0 (List.length ([] : List Int))))]) ⟨.rfl, trivial⟩)) (And.intro rfl rfl)))
  ·intro b6 h0
   refine AW.skip (hK2 _ (sr rfl fun K8 hK8 => zm tb 3 rfl (bs h0 fun l9 gl9 h0 => ao_sls (i := 0) (j := Sh.w (p1 - 1)) go0 ei27 rfl rfl rfl (fun _ => rfl) gl9 (bs h0 fun q10 gq10 h0 => zc hb181 (impl_conCount_ok gq10) rfl rfl rfl (zq tb rfl (dn hK8 rfl (zr tb rfl rfl (AW.seq fun K12 hK12 => sr rfl fun K13 hK13 => ?_))))))))
   refine zm tb 3 rfl (bs h0 fun c14 gc14 h0 => zx ei27 gc14 rfl rfl rfl (zm tb 2 rfl (zl tb rfl rfl (zq tb rfl (dn hK13 rfl (bs h0 fun o18 h1 h0 => ?_))))))
   have M18 : ∀ (l17 : (List Int)), o18 = l17 → ∀ s, Wk 0 s ⟨39, envL [(6, (ow 0 0 l17))], [(ro 0 3 1 eI l17)]⟩ → K12 s := by
    intro l17 hq s hw
    subst o18
    try dsimp only at h0
    refine hK12 _ (AW.weaken hw (zr tb rfl rfl ?_))
    replace h0 := Sh.some_eq h0
    subst r
    exact AW.ret (xr (Wk.to (L := [(4, (ow 0 0 l17))]) ⟨.rfl, trivial⟩))
   refine AW.block (AW.loopF (σ := Int × (List Int)) (fun n v => impl_consOf_L1 c14 q10 n v.1 v.2 = some o18) (fun (t15, l16) => ⟨39, envL [(5, (i64 q10)), (6, (ow 0 0 l16)), (27, (i64 (Sh.len c14.cons))), (28, (i64 t15))], [(ro 0 3 1 eI l16)]⟩) N (0, []) h1 ((Wk.adopt (t := 6) rfl 3 (size := 1) (by decide)).trans (Wk.to (L := [(5, (i64 q10)), (6, (.own 0 0 (List.length ([] : List Int)))), (27, (i64 (Sh.len c14.cons))), (28, (i64 0))]) ⟨.rfl, .rfl, .rfl, .rfl, trivial⟩)) (fun _ hv => by rw [impl_consOf_L1] at hv; cases hv) ?_)
   rintro n ⟨t15, l16⟩ h1
   try dsimp only at h1 ⊢
   rw [impl_consOf_L1] at h1
   refine zr tb rfl rfl (AW.seq fun K21 hK21 => ?_)
   refine ci h1 rfl ?_ ?_ <;> clear h1
   ·intro b22 h1
    refine AW.skip (hK21 _ (AW.seq fun K23 hK23 => AW.block (zr tb rfl rfl (AW.regionO rfl (zm tb 4 rfl ?_)))))
    refine ao_bs (m := 1) (st' := [(ro 0 3 1 eI l16), (ro 0 3 1 eI [Sh.w (q10 + t15)])]) (l := [Sh.w (q10 + t15)]) (enc := eI) go0 ei37 (by decide) rfl rfl rfl rfl rfl rfl ?_
    refine bs h1 fun l25 gl25 h1 => ao_apo (st' := [(ro 1 3 1 eI l25), (ro 0 3 1 eI [Sh.w (q10 + t15)])]) (l2 := [Sh.w (q10 + t15)]) go0 ei37 rfl rfl rfl rfl (el_o rfl rfl) (fun _ => rfl) gl25 rfl (zq tb rfl (dn hK23 rfl (AW.regionO rfl (zm tb 2 rfl ?_))))
    exact AO.done (xi (Sh.w (t15 + 1), l25) h1 (by refine Wk.trans (Wk.rg (L := [(5, (i64 q10)), (6, (ow 0 0 l25)), (27, (i64 (Sh.len c14.cons))), (28, (i64 (Sh.w (t15 + 1))))]) (st' := [(ro 0 3 1 eI l25), (ro 0 3 1 eI [Sh.w (q10 + t15)])]) (.pure (pure_map fun _ => rfl) (.pure (pure_map fun _ => rfl) .nil)) ⟨.rfl, .rfl, .rfl, .rfl, trivial⟩) ?_; exact Wk.permk (L := [(5, (i64 q10)), (6, (ow 0 0 l25)), (27, (i64 (Sh.len c14.cons))), (28, (i64 (Sh.w (t15 + 1))))]) (st' := [(ro 0 3 1 eI l25)]) (st1 := [(ro 0 3 1 eI l25)]) [0] rfl .nil (by decide) rfl rfl (.pure (pure_map fun _ => rfl) .nil) ⟨.rfl, .rfl, .rfl, .rfl, trivial⟩))
   ·intro b22 h1
    exact AW.exit (M18 l16 (Sh.some_eq h1).symm _ (Wk.tr rfl))
 refine AW.regionO rfl (zm tb 3 rfl ?_)
 rcases Sh.ite_some h1 with ⟨b26, h1⟩ | ⟨b26, h1⟩
 ·refine zs b26 rfl ?_
  iterate 3 refine zs b26 rfl ?_
  exact zt b26 rfl (AO.done (M5 true (Sh.some_eq h1).symm _ (Wk.tr rfl)))
 ·exact zg tb b26 rfl (zg tb b26 rfl (ao_q (v := (i64 (Sh.len p0))) (go1 rfl rfl b26) rfl (aq_lens sl27 rfl) (zg tb b26 rfl (zf b26 rfl (AO.done (M5 (decide ((Sh.len p0) < p1)) (Sh.some_eq h1).symm _ (Wk.tr rfl)))))))
theorem impl_conAt_ok {N : Nat} {p0 : (List RDecl)} {p1 : Int} {r : Int × RCon} (h0 : impl_conAt N p0 p1 = some r) : ACalls Tryz.prog 182 [(ls eRDecl p0), (i64 p1)] [] (fun v st => v = (.tup [(i64 r.1), (.agg (eRCon r.2))]) ∧ st = []) := by
 unfold impl_conAt at h0
 refine ACalls.flat rfl (ai Tryz.func182 rfl rfl rfl rfl (sr rfl fun K1 hK1 => zq tb rfl (ao_alloc (m := 0) (st' := [⟨0, 134, 1, [[.zc]]⟩]) go0 zi134 rfl rfl (dn hK1 rfl (AW.seq fun K2 hK2 => sr rfl fun K3 hK3 => zq tb rfl (zl tb rfl rfl (zq tb rfl (dn hK3 rfl ?_))))))))
 obtain ⟨o6, h1, h0⟩ := Sh.cont_some h0
 have M6 : ∀ (_ : Unit), o6 = Sum.inr () → ∀ s, Wk 0 s ⟨38, envL [(5, (.ptr 0 0 0 0))], [⟨0, 134, 1, [[.zc]]⟩]⟩ → K2 s := by
  intro _ hq s hw
  subst o6
  try dsimp only at h0
  refine hK2 _ (AW.weaken hw (sr rfl fun K7 hK7 => zz (.agg [.zc]) (aq_bd ai134 bi134 zi134 rfl rfl) rfl (zq tb rfl (ao_str (st' := [⟨0, 134, 1, [[.zc]]⟩]) go0 ti134 rfl rfl rfl rfl rfl rfl (show 0 + 1 ≤ 1 by decide) rfl (dn hK7 rfl ?_)))))
  replace h0 := Sh.some_eq h0
  subst r
  exact AW.ret (Exists.intro _ (And.intro ((Wk.cellLe (id := 0) (cs := [.zc]) (cs' := [(.sl (List.map eI []))]) (st' := [⟨0, 134, 1, [[(.sl (List.map eI []))]]⟩]) rfl ⟨le.zc, trivial⟩ rfl rfl).trans (Wk.to (L := [(4, (i64 (-1))), (5, (.ptr 0 0 0 0))]) ⟨.rfl, .rfl, trivial⟩)) (aq_ldpa (x := .tmp 5) (off := 0) (cs := [(.sl (List.map eI []))]) (vs := [(.sl (List.map eI []))]) ti134 rfl rfl rfl (show 0 + 1 ≤ 1 by decide) rfl _ rfl)))
 refine AW.block (AW.loopF (σ := Int × Int) (fun n v => impl_conAt_L1 p0 n v.1 v.2 = some o6) (fun (c4, t5) => ⟨38, envL [(1, (i64 c4)), (5, (.ptr 0 0 0 0)), (8, (ls eRDecl p0)), (9, (i64 (Sh.len p0))), (10, (i64 t5))], [⟨0, 134, 1, [[.zc]]⟩]⟩) N (p1, 0) h1 (Wk.tr rfl) (fun _ hv => by rw [impl_conAt_L1] at hv; cases hv) ?_)
 rintro n ⟨c4, t5⟩ h1
 try dsimp only at h1 ⊢
 rw [impl_conAt_L1] at h1
 refine zr tb rfl rfl (AW.seq fun K9 hK9 => ?_)
 refine ci h1 rfl ?_ ?_ <;> clear h1
 ·intro b10 h1
  refine AW.skip (hK9 _ (AW.seq fun K11 hK11 => AW.block (sr rfl fun K12 hK12 => zq tb rfl (bs h1 fun c13 gc13 h1 => zx ei27 gc13 rfl rfl rfl (zq tb rfl (ao_alloc (m := 1) (st' := [⟨0, 134, 1, [[.zc]]⟩, wD5]) go0 zi98 rfl rfl (zq tb rfl (ao_str (st' := [⟨0, 134, 1, [[.zc]]⟩, ⟨0, 98, 3, [(eRDecl c13)]⟩]) go0 ti98 rfl rfl rfl rfl rfl rfl (show 0 + 3 ≤ 3 by decide) rfl (dn hK12 rfl ?_)))))))))
  refine AW.seq fun K14 hK14 => AW.seq fun K15 hK15 => bs h1 fun o17 h2 h1 => ?_
  have M17 : ∀ (t16 : Bool), o17 = t16 → ∀ s, Wk 0 s ⟨38, envL [(1, (i64 c4)), (5, (.ptr 0 0 0 0)), (6, (i64 t5)), (7, (.ptr 1 0 0 0)), (8, (ls eRDecl p0)), (9, (i64 (Sh.len p0))), (10, (i64 t5)), (23, (.bool t16))], [⟨0, 134, 1, [[.zc]]⟩, ⟨0, 98, 3, [(eRDecl c13)]⟩]⟩ → K15 s := by
   intro t16 hq s hw
   subst o17
   try dsimp only at h1
   refine hK15 _ (AW.weaken hw ?_)
   refine ci h1 rfl ?_ ?_ <;> clear h1
   ·intro b18 h1
    refine AW.seq fun K19 hK19 => ?_
    refine AW.drawTailO 8 (by kernel_rfl) (by kernel_rfl) (by rfl) ?_
    iterate 5 refine yq tb rfl ?_
    refine bs h1 fun c20 gc20 h1 => yx ei96 gc20 rfl rfl rfl ?_
    iterate 2 refine yq tb rfl ?_
    refine d_done (ao_str (st' := [⟨0, 134, 1, [(eRCon c20)]⟩, ⟨0, 98, 3, [(eRDecl c13)]⟩]) go0 ti134 rfl rfl rfl rfl rfl rfl (show 0 + 1 ≤ 1 by decide) rfl (dn hK19 rfl ?_))
    replace h1 := Sh.some_eq h1
    subst o6
    try dsimp only [id] at h0
    replace h0 := Sh.some_eq h0
    subst r
    exact AW.ret (Exists.intro _ (And.intro ((Wk.permk (L := [(4, (i64 (Sh.w (t5 + 1)))), (5, (.ptr 0 0 0 0))]) (st' := [⟨0, 134, 1, [(eRCon c20)]⟩]) (st1 := [⟨0, 134, 1, [(eRCon c20)]⟩]) [0] rfl .nil (by decide) rfl rfl (.raw rfl rfl .nil) ⟨.rfl, .rfl, trivial⟩).trans (Wk.to (L := [(4, (i64 (Sh.w (t5 + 1)))), (5, (.ptr 0 0 0 0))]) ⟨.rfl, .rfl, trivial⟩)) (aq_ldpa (x := .tmp 5) (off := 0) (cs := (eRCon c20)) (vs := (eRCon c20)) ti134 rfl rfl rfl (show 0 + 1 ≤ 1 by decide) rfl _ rfl)))
   ·intro b18 h1
    refine AW.skip (hK14 _ (AW.regionO rfl (zm tb 3 rfl (zl tb rfl rfl (zm tb 2 rfl (dn hK11 rfl (AW.regionO rfl (zm tb 2 rfl ?_))))))))
    exact AO.done (xi (Sh.w (c4 - (Sh.len c13.cons)), Sh.w (t5 + 1)) h1 (Wk.permk (L := [(1, (i64 (Sh.w (c4 - (Sh.len c13.cons))))), (5, (.ptr 0 0 0 0)), (8, (ls eRDecl p0)), (9, (i64 (Sh.len p0))), (10, (i64 (Sh.w (t5 + 1))))]) (st' := [⟨0, 134, 1, [[.zc]]⟩]) (st1 := [⟨0, 134, 1, [[.zc]]⟩]) [0] rfl .nil (by decide) rfl rfl (.raw rfl rfl .nil) ⟨.rfl, .rfl, .rfl, .rfl, .rfl, trivial⟩))
  refine AW.regionO rfl (zm tb 3 rfl ?_)
  rcases Sh.ite_some h2 with ⟨b21, h2⟩ | ⟨b21, h2⟩
  ·exact zg tb b21 rfl (zg tb b21 rfl (zg tb b21 rfl (ao_q (v := (i64 (Sh.len c13.cons))) (go1 rfl rfl b21) rfl (aq_lens sl96 rfl) (zg tb b21 rfl (zt b21 rfl (AO.done (M17 (decide (c4 < (Sh.len c13.cons))) (Sh.some_eq h2).symm _ (Wk.tr rfl))))))))
  ·refine zs b21 rfl ?_
   iterate 4 refine zs b21 rfl ?_
   exact zf b21 rfl (AO.done (M17 false (Sh.some_eq h2).symm _ (Wk.tr rfl)))
 ·intro b10 h1
  exact AW.exit (M6 () (Sh.some_eq h1).symm _ (Wk.tr rfl))
theorem impl_fieldsOf_ok {N : Nat} {p0 : (List RDecl)} {p1 : Int} {r : (List Int)} (h0 : impl_fieldsOf N p0 p1 = some r) : ACalls Tryz.prog 134 [(ls eRDecl p0), (i64 p1)] [] (fun v st => v = (ls eI r) ∧ st = []) := by
 unfold impl_fieldsOf at h0
 refine ai Tryz.func134 rfl rfl rfl rfl (zr tb rfl rfl (sr rfl fun K2 hK2 => zm tb 2 rfl (bs h0 fun q3 gq3 h0 => zc (v' := (.tup [(i64 q3.1), (.agg (eRCon q3.2))])) hb182 (impl_conAt_ok gq3) rfl rfl rfl (zm tb 3 rfl (ao_alloc (m := 0) (st' := [⟨0, 134, 1, [[.zc]]⟩]) go0 zi134 rfl rfl (zq tb rfl (ao_str (st' := [⟨0, 134, 1, [(eRCon q3.2)]⟩]) go0 ti134 rfl rfl rfl rfl rfl rfl (show 0 + 1 ≤ 1 by decide) rfl (dn hK2 rfl (zr tb rfl rfl ?_)))))))))
 replace h0 := Sh.some_eq h0
 subst r
 exact AW.ret (xr (Wk.d0 [(4, (ls eI q3.2.fields))] rfl))
theorem impl_signatures_armFields_ok {N : Nat} {p0 : RSignatures} {p1 : Int} {r : (List (List Int))} (h0 : impl_signatures_armFields N p0 p1 = some r) : ACalls Tryz.prog 84 [(.agg (eRSignatures p0)), (i64 p1)] [] (fun v st => v = (ow 0 0 r) ∧ st = [(ro 0 37 1 (eS eI) r)]) := by
 unfold impl_signatures_armFields at h0
 refine ai Tryz.func84 rfl rfl rfl rfl (sr rfl fun K1 hK1 => ao_box (m := 0) (st' := [⟨0, 49, 2, [(eRSignatures p0)]⟩]) go0 rfl rfl rfl rfl rfl (zq tb rfl (dn hK1 rfl (zr tb rfl rfl (AW.seq fun K3 hK3 => sr rfl fun K4 hK4 => zm tb 3 rfl (bs h0 fun q5 gq5 h0 => ao_call (v' := (ow 1 0 q5)) (st' := [⟨0, 49, 2, [(eRSignatures p0)]⟩, (ro 0 3 1 eI q5)]) go0 hb133 (impl_consOf_ok gq5) rfl rfl ⟨(pure_map' fun _ => rfl), trivial⟩ rfl rfl (zz (i64 (Sh.len q5)) (aq_leno sl37 rfl rfl rfl) rfl ?_)))))))
 refine zq tb rfl (dn hK4 rfl (bs h0 fun o9 h1 h0 => ?_))
 have M9 : ∀ (l8 : (List (List Int))), o9 = l8 → ∀ s, Wk 0 s ⟨26, envL [(5, (ow 0 0 l8))], [(ro 0 37 1 (eS eI) l8)]⟩ → K3 s := by
  intro l8 hq s hw
  subst o9
  try dsimp only at h0
  refine hK3 _ (AW.weaken hw (zr tb rfl rfl ?_))
  replace h0 := Sh.some_eq h0
  subst r
  exact AW.ret (xr (Wk.to (L := [(4, (ow 0 0 l8))]) ⟨.rfl, trivial⟩))
 refine AW.block (AW.loopF (σ := Int × (List (List Int))) (fun n v => impl_signatures_armFields_L1 N p0 q5 n v.1 v.2 = some o9) (fun (t6, l7) => ⟨26, envL [(2, (.ptr 0 0 0 0)), (5, (ow 2 0 l7)), (11, (ow 1 0 q5)), (12, (i64 (Sh.len q5))), (13, (i64 t6))], [⟨0, 49, 2, [(eRSignatures p0)]⟩, (ro 0 3 1 eI q5), (ro 0 37 1 (eS eI) l7)]⟩) N (0, []) h1 ((Wk.adopt (t := 5) rfl 37 (size := 1) (by decide)).trans (Wk.to (L := [(2, (.ptr 0 0 0 0)), (5, (.own 2 0 (List.length ([] : List (List Int))))), (11, (ow 1 0 q5)), (12, (i64 (Sh.len q5))), (13, (i64 0))]) ⟨.rfl, .rfl, .rfl, .rfl, .rfl, trivial⟩)) (fun _ hv => by rw [impl_signatures_armFields_L1] at hv; cases hv) ?_)
 rintro n ⟨t6, l7⟩ h1
 try dsimp only at h1 ⊢
 rw [impl_signatures_armFields_L1] at h1
 refine zr tb rfl rfl (AW.seq fun K12 hK12 => ?_)
 refine ci h1 rfl ?_ ?_ <;> clear h1
 ·intro b13 h1
  refine AW.skip (hK12 _ (AW.seq fun K14 hK14 => AW.block (sr rfl fun K15 hK15 => bs h1 fun c16 gc16 h1 => zz (.ptr 1 0 (Int.toNat t6) 0) (aq_ixo ei37 rfl rfl rfl rfl gc16) rfl (zz (i64 c16) (aq_ldp ti3 rfl rfl (map_get gc16) rfl) rfl (zq tb rfl (dn hK15 rfl (AW.regionO rfl (zm tb 4 rfl (bs h1 fun q17 gq17 h1 => ?_)))))))))
  refine zc hb134 (impl_fieldsOf_ok gq17) rfl rfl rfl ?_
  refine ao_bs (m := 3) (st' := [⟨0, 49, 2, [(eRSignatures p0)]⟩, (ro 0 3 1 eI q5), (ro 0 37 1 (eS eI) l7), (ro 0 37 1 (eS eI) [q17])]) (l := [q17]) (enc := (eS eI)) go0 ei74 (by decide) rfl rfl rfl rfl rfl rfl ?_
  refine bs h1 fun l18 gl18 h1 => ao_apo (st' := [⟨0, 49, 2, [(eRSignatures p0)]⟩, (ro 0 3 1 eI q5), (ro 1 37 1 (eS eI) l18), (ro 0 37 1 (eS eI) [q17])]) (l2 := [q17]) go0 ei74 rfl rfl rfl rfl (el_o rfl rfl) (fun _ => rfl) gl18 rfl (zq tb rfl (dn hK14 rfl (AW.regionO rfl (zm tb 2 rfl ?_))))
  exact AO.done (xi (Sh.w (t6 + 1), l18) h1 (by refine Wk.trans (Wk.rg (L := [(2, (.ptr 0 0 0 0)), (5, (ow 2 0 l18)), (11, (ow 1 0 q5)), (12, (i64 (Sh.len q5))), (13, (i64 (Sh.w (t6 + 1))))]) (st' := [⟨0, 49, 2, [(eRSignatures p0)]⟩, (ro 0 3 1 eI q5), (ro 0 37 1 (eS eI) l18), (ro 0 37 1 (eS eI) [q17])]) (.raw rfl rfl (.pure (pure_map fun _ => rfl) (.pure (pure_map fun _ => rfl) (.pure (pure_map fun _ => rfl) .nil)))) ⟨.rfl, .rfl, .rfl, .rfl, .rfl, trivial⟩) ?_; exact Wk.permk (L := [(2, (.ptr 0 0 0 0)), (5, (ow 2 0 l18)), (11, (ow 1 0 q5)), (12, (i64 (Sh.len q5))), (13, (i64 (Sh.w (t6 + 1))))]) (st' := [⟨0, 49, 2, [(eRSignatures p0)]⟩, (ro 0 3 1 eI q5), (ro 0 37 1 (eS eI) l18)]) (st1 := [⟨0, 49, 2, [(eRSignatures p0)]⟩, (ro 0 3 1 eI q5), (ro 0 37 1 (eS eI) l18)]) [0, 1, 2] rfl .nil (by decide) rfl rfl (.raw rfl rfl (.pure (pure_map fun _ => rfl) (.pure (pure_map fun _ => rfl) .nil))) ⟨.rfl, .rfl, .rfl, .rfl, .rfl, trivial⟩))
 ·intro b13 h1
  exact AW.exit (M9 l7 (Sh.some_eq h1).symm _ (Wk.permk (L := [(5, (ow 0 0 l7))]) (st' := [(ro 0 37 1 (eS eI) l7)]) (st1 := [(ro 0 37 1 (eS eI) l7)]) [2] rfl .nil (by decide) rfl rfl (.pure (pure_map fun _ => rfl) .nil) ⟨.rfl, trivial⟩))
theorem slices_Equal_int_int_ok {N : Nat} {p0 : (List Int)} {p1 : (List Int)} {r : Bool} (h0 : slices_Equal_int_int N p0 p1 = some r) : ACalls Tryz.prog 185 [(ls eI p0), (ls eI p1)] [] (fun v st => v = (.bool r) ∧ st = []) := by
 unfold slices_Equal_int_int at h0
 refine ai Tryz.func185 rfl rfl rfl rfl (zr tb rfl rfl (AW.seq fun K2 hK2 => sr rfl fun K3 hK3 => zq tb rfl (zl tb rfl rfl (zq tb rfl (zl tb rfl rfl (zq tb rfl (dn hK3 rfl ?_)))))))
 refine ci h0 rfl ?_ ?_ <;> clear h0
 ·intro b4 h0
  have b5 : decide ((Sh.len p0) = (Sh.len p1)) = false := by simpa using b4
  refine zr tb rfl rfl ?_
  replace h0 := Sh.some_eq h0
  subst r
  exact AW.ret (xr (Wk.to (L := [(4, (.bool false))]) ⟨.rfl, trivial⟩))
 ·intro b4 h0
  have b7 : decide ((Sh.len p0) = (Sh.len p1)) = true := by simpa using b4
  refine AW.skip (hK2 _ (AW.seq fun K8 hK8 => sr rfl fun K9 hK9 => zq tb rfl (zl tb rfl rfl (zq tb rfl (dn hK9 rfl ?_)))))
  obtain ⟨o11, h1, h0⟩ := Sh.cont_some h0
  have M11 : ∀ (_ : Unit), o11 = Sum.inr () → ∀ s, Wk 0 s ⟨26, envL [], []⟩ → K8 s := by
   intro _ hq s hw
   subst o11
   try dsimp only at h0
   refine hK8 _ (AW.weaken hw (zr tb rfl rfl ?_))
   replace h0 := Sh.some_eq h0
   subst r
   exact AW.ret (xr (Wk.to (L := [(4, (.bool true))]) ⟨.rfl, trivial⟩))
  refine AW.block (AW.loopF (σ := Int) (fun n v => slices_Equal_int_int_L1 p0 p1 n v = some o11) (fun t10 => ⟨26, envL [(0, (ls eI p0)), (1, (ls eI p1)), (12, (i64 (Sh.len p0))), (13, (i64 t10))], []⟩) N 0 h1 (Wk.tr rfl) (fun _ hv => by rw [slices_Equal_int_int_L1] at hv; cases hv) ?_)
  rintro n t10 h1
  try dsimp only at h1 ⊢
  rw [slices_Equal_int_int_L1] at h1
  refine zr tb rfl rfl (AW.seq fun K14 hK14 => ?_)
  refine ci h1 rfl ?_ ?_ <;> clear h1
  ·intro b15 h1
   refine AW.skip (hK14 _ (AW.seq fun K16 hK16 => AW.block (zr tb rfl rfl (AW.seq fun K18 hK18 => ?_))))
   refine AW.draw (by kernel_rfl) (by kernel_rfl) (by rfl) ?_
   iterate 2 refine yq tb rfl ?_
   refine bs h1 fun c19 gc19 h1 => yx ei37 gc19 rfl rfl rfl ?_
   iterate 3 refine yq tb rfl ?_
   refine bs h1 fun c20 gc20 h1 => yx ei37 gc20 rfl rfl rfl ?_
   iterate 2 refine yq tb rfl ?_
   refine d_done (hK18 _ ?_)
   refine ci h1 rfl ?_ ?_ <;> clear h1
   ·intro b21 h1
    have b22 : decide (c19 = c20) = false := by simpa using b21
    refine zr tb rfl rfl ?_
    replace h1 := Sh.some_eq h1
    subst o11
    try dsimp only [id] at h0
    replace h0 := Sh.some_eq h0
    subst r
    exact AW.ret (xr (Wk.to (L := [(4, (.bool false))]) ⟨.rfl, trivial⟩))
   ·intro b21 h1
    have b24 : decide (c19 = c20) = true := by simpa using b21
    exact AW.skip (hK16 _ (AW.regionO rfl (zm tb 2 rfl (AO.done (xi (Sh.w (t10 + 1)) h1 (Wk.tr rfl))))))
  ·intro b15 h1
   exact AW.exit (M11 () (Sh.some_eq h1).symm _ (Wk.tr rfl))
theorem impl_arrowOf_ok {N : Nat} {p0 : (List RDecl)} {p1 : Int} {p2 : Int} {r : Int} (h0 : impl_arrowOf N p0 p1 p2 = some r) : ACalls Tryz.prog 186 [(ls eRDecl p0), (i64 p1), (i64 p2)] [] (fun v st => v = (i64 r) ∧ st = []) := by
 unfold impl_arrowOf at h0
 refine ai Tryz.func186 rfl rfl rfl rfl (zr tb rfl rfl (AW.seq fun K2 hK2 => sr rfl fun K3 hK3 => zq tb rfl (zl tb rfl rfl (zq tb rfl (dn hK3 rfl ?_)))))
 obtain ⟨o5, h1, h0⟩ := Sh.cont_some h0
 have M5 : ∀ (_ : Unit), o5 = Sum.inr () → ∀ s, Wk 0 s ⟨35, envL [], []⟩ → K2 s := by
  intro _ hq s hw
  subst o5
  try dsimp only at h0
  refine hK2 _ (AW.weaken hw (zr tb rfl rfl ?_))
  replace h0 := Sh.some_eq h0
  subst r
  exact AW.ret (xr (Wk.to (L := [(6, (i64 (-1)))]) ⟨.rfl, trivial⟩))
 refine AW.block (AW.loopF (σ := Int) (fun n v => impl_arrowOf_L1 p0 p1 p2 n v = some o5) (fun t4 => ⟨35, envL [(1, (i64 p1)), (2, (i64 p2)), (9, (ls eRDecl p0)), (10, (i64 (Sh.len p0))), (11, (i64 t4))], []⟩) N 0 h1 (Wk.tr rfl) (fun _ hv => by rw [impl_arrowOf_L1] at hv; cases hv) ?_)
 rintro n t4 h1
 try dsimp only at h1 ⊢
 rw [impl_arrowOf_L1] at h1
 refine zr tb rfl rfl (AW.seq fun K8 hK8 => ?_)
 refine ci h1 rfl ?_ ?_ <;> clear h1
 ·intro b9 h1
  refine AW.skip (hK8 _ (AW.seq fun K10 hK10 => AW.block (sr rfl fun K11 hK11 => zq tb rfl (bs h1 fun c12 gc12 h1 => zx ei27 gc12 rfl rfl rfl (zq tb rfl (ao_alloc (m := 0) (st' := [wD5]) go0 zi98 rfl rfl (zq tb rfl (ao_str (st' := [⟨0, 98, 3, [(eRDecl c12)]⟩]) go0 ti98 rfl rfl rfl rfl rfl rfl (show 0 + 3 ≤ 3 by decide) rfl (dn hK11 rfl ?_)))))))))
  refine AW.seq fun K13 hK13 => bs h1 fun o15 h2 h1 => ?_
  have M15 : ∀ (t14 : Bool), o15 = t14 → ∀ s, Wk 0 s ⟨35, envL [(1, (i64 p1)), (2, (i64 p2)), (7, (i64 t4)), (9, (ls eRDecl p0)), (10, (i64 (Sh.len p0))), (11, (i64 t4)), (31, (.bool t14))], []⟩ → K13 s := by
   intro t14 hq s hw
   subst o15
   try dsimp only at h1
   refine hK13 _ (AW.weaken hw ?_)
   refine ci h1 rfl ?_ ?_ <;> clear h1
   ·intro b16 h1
    refine zr tb rfl rfl ?_
    replace h1 := Sh.some_eq h1
    subst o5
    try dsimp only [id] at h0
    replace h0 := Sh.some_eq h0
    subst r
    exact AW.ret (xr (Wk.to (L := [(6, (i64 (Sh.w (t4 + 1))))]) ⟨.rfl, trivial⟩))
   ·intro b16 h1
    exact AW.skip (hK10 _ (AW.regionO rfl (zm tb 2 rfl (AO.done (xi (Sh.w (t4 + 1)) h1 (Wk.tr rfl))))))
  refine AW.regionO rfl (zm tb 2 rfl (zl tb rfl rfl (zm tb 2 rfl ?_)))
  rcases Sh.ite_some h2 with ⟨b18, h2⟩ | ⟨b18, h2⟩
  ·refine zg tb b18 rfl ?_
   iterate 3 refine zg tb b18 rfl ?_
   refine zt b18 rfl (zq tb rfl ?_)
   rcases Sh.ite_some h2 with ⟨b19, h2⟩ | ⟨b19, h2⟩
   ·refine zg tb b19 rfl ?_
    iterate 3 refine zg tb b19 rfl ?_
    exact zt b19 rfl (AO.done (M15 (decide (c12.to = p2)) (Sh.some_eq h2).symm _ (Wk.d0 _ rfl)))
   ·refine zs b19 rfl ?_
    iterate 3 refine zs b19 rfl ?_
    exact zf b19 rfl (AO.done (M15 false (Sh.some_eq h2).symm _ (Wk.d0 _ rfl)))
  ·refine zs b18 rfl ?_
   iterate 3 refine zs b18 rfl ?_
   refine zf b18 rfl (zq tb rfl ?_)
   iterate 4 refine zs rfl rfl ?_
   exact zf rfl rfl (AO.done (M15 false (Sh.some_eq h2).symm _ (Wk.d0 _ rfl)))
 ·intro b9 h1
  exact AW.exit (M5 () (Sh.some_eq h1).symm _ (Wk.tr rfl))
noncomputable abbrev wD6 (c34 : Int) (p2 : Int) (p3 : (List Int)) : List (Nat × Go.Abs.AV) := [(2, (i64 p2)), (3, (ls eI p3)), (12, (.ptr 0 0 0 0)), (47, (.ptr 1 0 0 0)), (50, (.iptr (eI c34) 0))]
noncomputable abbrev wD7 (c34 : Int) (p2 : Int) (p3 : (List Int)) : List (Nat × Go.Abs.AV) := [(2, (i64 p2)), (3, (ls eI p3)), (12, (.ptr 0 0 0 0)), (47, (.ptr 1 0 0 0)), (51, (i64 c34))]
noncomputable abbrev wD8 (c34 : Int) (p0 : RSignatures) (p2 : Int) (p3 : (List Int)) : List (Nat × Go.Abs.AV) := [(2, (i64 p2)), (3, (ls eI p3)), (12, (.ptr 0 0 0 0)), (48, (ls eRDecl p0.decls)), (50, (.iptr (eI c34) 0))]
noncomputable abbrev wD9 (c34 : Int) (p0 : RSignatures) (p2 : Int) (p3 : (List Int)) : List (Nat × Go.Abs.AV) := [(2, (i64 p2)), (3, (ls eI p3)), (12, (.ptr 0 0 0 0)), (48, (ls eRDecl p0.decls)), (51, (i64 c34))]
noncomputable abbrev wD10 (p2 : Int) (p3 : (List Int)) : List (Nat × Go.Abs.AV) := [(2, (i64 p2)), (3, (ls eI p3)), (12, (.ptr 0 0 0 0)), (47, (.ptr 1 0 0 0)), (49, (ls eI p3))]
noncomputable abbrev wD11 (p1 : Int) (p2 : Int) (p3 : (List Int)) : List (Nat × Go.Abs.AV) := [(1, (i64 p1)), (2, (i64 p2)), (3, (ls eI p3)), (4, (.ptr 0 0 0 0)), (11, (i64 0)), (18, (i64 p1)), (32, (.bool true))]
noncomputable abbrev wD12 (p0 : RSignatures) (p2 : Int) (p3 : (List Int)) : List (Nat × Go.Abs.AV) := [(2, (i64 p2)), (3, (ls eI p3)), (12, (.ptr 0 0 0 0)), (48, (ls eRDecl p0.decls)), (49, (ls eI p3))]
noncomputable abbrev wD13 (c34 : Int) (p0 : RSignatures) (p2 : Int) (p3 : (List Int)) : List (Nat × Go.Abs.AV) := [(2, (i64 p2)), (3, (ls eI p3)), (48, (ls eRDecl p0.decls)), (50, (.iptr (eI c34) 0))]
theorem impl_signatures_simpleType_ok {N : Nat} {p0 : RSignatures} {p1 : Int} {p2 : Int} {p3 : (List Int)} {r : Int × Bool} (h0 : impl_signatures_simpleType N p0 p1 p2 p3 = some r) : ACalls Tryz.prog 139 [(.agg (eRSignatures p0)), (i64 p1), (i64 p2), (ls eI p3)] [] (fun v st => v = (.tup [(i64 r.1), (.bool r.2)]) ∧ st = []) := by
 unfold impl_signatures_simpleType at h0
 refine ai Tryz.func139 rfl rfl rfl rfl (sr rfl fun K1 hK1 => ao_box (m := 0) (st' := [⟨0, 49, 2, [(eRSignatures p0)]⟩]) go0 rfl rfl rfl rfl rfl (zm tb 2 rfl (dn hK1 rfl (zr tb rfl rfl (AW.seq fun K3 hK3 => ?_)))))
 obtain ⟨o5, h1, h0⟩ := Sh.cont_some h0
 have M5 : ∀ (l4 : (List Int)), o5 = Sum.inr l4 → ∀ s, Wk 0 s ⟨149, envL [(2, (i64 p2)), (3, (ls eI p3)), (10, (ow 0 0 l4)), (11, (i64 0))], [(ro 0 3 1 eI l4)]⟩ → K3 s := by
  intro l4 hq s hw
  subst o5
  try dsimp only at h0
  refine hK3 _ (AW.weaken hw (AW.seq fun K6 hK6 => bs h0 fun o8 h1 h0 => ?_))
  have M8 : ∀ (t7 : Bool), o8 = t7 → ∀ s, Wk 0 s ⟨149, envL [(8, (i64 0)), (9, (.bool t7))], []⟩ → K6 s := by
   intro t7 hq s hw
   subst o8
   try dsimp only at h0
   refine hK6 _ (AW.weaken hw ?_)
   replace h0 := Sh.some_eq h0
   subst r
   exact AW.ret (xr (Wk.to (L := [(8, (i64 0)), (9, (.bool t7))]) ⟨.rfl, .rfl, trivial⟩))
  refine AW.regionO rfl (zm tb 4 rfl ?_)
  rcases Sh.ite_some h1 with ⟨b9, h1⟩ | ⟨b9, h1⟩
  ·exact zg tb b9 rfl (zg tb b9 rfl (AO.weaken (Wk.frz (L := [(141, (i64 0)), (144, (.bool (decide (p2 = 0)))), (145, (ls eI p3)), (146, (ls eI l4))]) (st' := [⟨1, 3, 1, []⟩]) (id := 0) rfl (show 0 ≤ 0 by decide) (pure_map fun _ => rfl) ⟨.rfl, .rfl, .rfl, (.frz rfl), trivial⟩ rfl) (bs h1 fun q10 gq10 h1 => zd b9 hb185 (slices_Equal_int_int_ok gq10) rfl rfl rfl rfl (zt b9 rfl (zm tb 2 rfl (AO.done (M8 q10 (Sh.some_eq h1).symm _ (Wk.d0 _ rfl))))))))
  ·exact zs b9 rfl (zs b9 rfl (zs b9 rfl (zf b9 rfl (zm tb 2 rfl (AO.done (M8 false (Sh.some_eq h1).symm _ (Wk.d0 _ rfl)))))))
 refine zr tb rfl rfl (AW.block (zr tb rfl rfl ?_))
 refine ci h1 rfl ?_ ?_ <;> clear h1
 ·intro b13 h1
  refine AW.seq fun K14 hK14 => bs h1 fun o16 h2 h1 => ?_
  have M16 : ∀ (t15 : Bool), o16 = t15 → ∀ s, Wk 0 s ⟨149, envL [(8, (i64 0)), (9, (.bool t15))], []⟩ → K14 s := by
   intro t15 hq s hw
   subst o16
   try dsimp only at h1
   refine hK14 _ (AW.weaken hw ?_)
   replace h1 := Sh.some_eq h1
   subst o5
   try dsimp only [id] at h0
   replace h0 := Sh.some_eq h0
   subst r
   exact AW.ret (xr (Wk.to (L := [(8, (i64 0)), (9, (.bool t15))]) ⟨.rfl, .rfl, trivial⟩))
  refine AW.regionO rfl (zm tb 3 rfl ?_)
  rcases Sh.ite_some h2 with ⟨b17, h2⟩ | ⟨b17, h2⟩
  ·refine zg tb b17 rfl (zg tb b17 rfl (zt b17 rfl (zq tb rfl ?_)))
   rcases Sh.ite_some h2 with ⟨b18, h2⟩ | ⟨b18, h2⟩
   ·exact zg tb b18 rfl (ao_q (v := (i64 (Sh.len p3))) (go1 rfl rfl b18) rfl (aq_lens sl37 rfl) (zg tb b18 rfl (zt b18 rfl (zm tb 2 rfl (AO.done (M16 (decide ((Sh.len p3) = 0)) (Sh.some_eq h2).symm _ (Wk.d0 _ rfl)))))))
   ·exact zs b18 rfl (zs b18 rfl (zs b18 rfl (zf b18 rfl (zm tb 2 rfl (AO.done (M16 false (Sh.some_eq h2).symm _ (Wk.d0 _ rfl)))))))
  ·refine zs b17 rfl (zs b17 rfl (zf b17 rfl (zq tb rfl ?_)))
   iterate 3 refine zs rfl rfl ?_
   exact zf rfl rfl (zm tb 2 rfl (AO.done (M16 false (Sh.some_eq h2).symm _ (Wk.d0 _ rfl))))
 ·intro b13 h1
  refine AW.seq fun K19 hK19 => bs h1 fun o21 h2 h1 => ?_
  have M21 : ∀ (t20 : Bool), o21 = t20 → ∀ s, Wk 0 s ⟨149, envL [(1, (i64 p1)), (2, (i64 p2)), (3, (ls eI p3)), (4, (.ptr 0 0 0 0)), (11, (i64 0)), (18, (i64 p1)), (32, (.bool t20))], [⟨0, 49, 2, [(eRSignatures p0)]⟩]⟩ → K19 s := by
   intro t20 hq s hw
   subst o21
   try dsimp only at h1
   refine hK19 _ (AW.weaken hw ?_)
   refine ci h1 rfl ?_ ?_ <;> clear h1
   ·intro b22 h1
    refine AW.regionO rfl ?_
    refine ao_bs (m := 1) (st' := [⟨0, 49, 2, [(eRSignatures p0)]⟩, (ro 0 3 1 eI [(0 : Int), 0])]) (l := [(0 : Int), 0]) (enc := eI) go0 ei37 (by decide) rfl rfl rfl rfl rfl rfl ?_
    refine zq tb rfl ?_
    exact AO.done (M5 [(0 : Int), 0] (Sh.some_eq h1).symm _ (Wk.permk (L := [(2, (i64 p2)), (3, (ls eI p3)), (10, (ow 0 0 [(0 : Int), 0])), (11, (i64 0))]) (st' := [(ro 0 3 1 eI [(0 : Int), 0])]) (st1 := [(ro 0 3 1 eI [(0 : Int), 0])]) [1] rfl .nil (by decide) rfl rfl (.pure (pure_map fun _ => rfl) .nil) ⟨.rfl, .rfl, .rfl, .rfl, trivial⟩))
   ·intro b22 h1
    refine zr tb rfl rfl ?_
    refine ci h1 rfl ?_ ?_ <;> clear h1
    ·intro b24 h1
     refine AW.regionO rfl ?_
     refine ao_bs (m := 1) (st' := [⟨0, 49, 2, [(eRSignatures p0)]⟩, (ro 0 3 1 eI [(0 : Int)])]) (l := [(0 : Int)]) (enc := eI) go0 ei37 (by decide) rfl rfl rfl rfl rfl rfl ?_
     refine zq tb rfl ?_
     exact AO.done (M5 [(0 : Int)] (Sh.some_eq h1).symm _ (Wk.permk (L := [(2, (i64 p2)), (3, (ls eI p3)), (10, (ow 0 0 [(0 : Int)])), (11, (i64 0))]) (st' := [(ro 0 3 1 eI [(0 : Int)])]) (st1 := [(ro 0 3 1 eI [(0 : Int)])]) [1] rfl .nil (by decide) rfl rfl (.pure (pure_map fun _ => rfl) .nil) ⟨.rfl, .rfl, .rfl, .rfl, trivial⟩))
    ·intro b24 h1
     refine zr tb rfl rfl ?_
     refine ci h1 rfl ?_ ?_ <;> clear h1
     ·intro b26 h1
      refine AW.seq fun K27 hK27 => sr rfl fun K28 hK28 => zq tb rfl (zl tb rfl rfl (zq tb rfl (dn hK28 rfl ?_)))
      refine ci h1 rfl ?_ ?_ <;> clear h1
      ·intro b29 h1
       have b30 : decide ((Sh.len p3) = 2) = false := by simpa using b29
       refine zr tb rfl rfl ?_
       replace h1 := Sh.some_eq h1
       subst o5
       try dsimp only [id] at h0
       replace h0 := Sh.some_eq h0
       subst r
       exact AW.ret (xr (Wk.d0 [(8, (i64 (-1))), (9, (.bool false))] rfl))
      ·intro b29 h1
       have b32 : decide ((Sh.len p3) = 2) = true := by simpa using b29
       refine AW.skip (hK27 _ (AW.seq fun K33 hK33 => ?_))
       refine AW.drawX (by kernel_rfl) ?_
       refine bs h1 fun c34 gc34 h1 => bs h1 fun q35 gq35 h1 => AX.one fun A36 hA36 => ?_
       have A36_0123456789ab : A36 0 #[true, true, true, true, true, true, true, true, true, true, true, true] ⟨149, envL [(2, (i64 p2)), (3, (ls eI p3)), (12, (.ptr 0 0 0 0)), (13, (.bool q35.2))], [⟨0, 98, 3, [(eRDecl q35.1)]⟩]⟩ := (hA36 _ _ _).2 (by
        refine AX.done rfl (by kernel_rfl) ?_
        refine hK33 _ (AW.seq fun K37 hK37 => bs h1 fun o39 h2 h1 => ?_)
        have M39 : ∀ (t38 : Bool), o39 = t38 → ∀ s, Wk 0 s ⟨149, envL [(8, (i64 q35.1.to)), (9, (.bool t38))], []⟩ → K37 s := by
         intro t38 hq s hw
         subst o39
         try dsimp only at h1
         refine hK37 _ (AW.weaken hw ?_)
         replace h1 := Sh.some_eq h1
         subst o5
         try dsimp only [id] at h0
         replace h0 := Sh.some_eq h0
         subst r
         exact AW.ret (xr (Wk.to (L := [(8, (i64 q35.1.to)), (9, (.bool t38))]) ⟨.rfl, .rfl, trivial⟩))
        refine AW.draw (by kernel_rfl) (by kernel_rfl) (by rfl) ?_
        iterate 4 refine yq tb rfl ?_
        rcases Sh.ite_some h2 with ⟨b40, h2⟩ | ⟨b40, h2⟩
        ·refine yg tb b40 rfl (bs h2 fun c41 gc41 h2 => d_q (v := (.iptr (eI c41) 0)) (go1 rfl rfl b40) rfl (aq_ixs ei37 rfl rfl gc41 rfl) ?_)
         iterate 4 refine yg tb b40 rfl ?_
         refine yt b40 rfl (yq tb rfl ?_)
         rcases Sh.ite_some h2 with ⟨b42, h2⟩ | ⟨b42, h2⟩
         ·refine yg tb b42 rfl (yg tb b42 rfl (yt b42 rfl ?_))
          iterate 2 refine yq tb rfl ?_
          exact d_done (M39 (decide (p2 = 0)) (Sh.some_eq h2).symm _ (Wk.d0 _ rfl))
         ·refine ys b42 rfl (ys b42 rfl (yf b42 rfl ?_))
          iterate 2 refine yq tb rfl ?_
          exact d_done (M39 false (Sh.some_eq h2).symm _ (Wk.d0 _ rfl))
        ·refine ys b40 rfl ?_
         iterate 5 refine ys b40 rfl ?_
         refine yf b40 rfl (yq tb rfl ?_)
         iterate 2 refine ys rfl rfl ?_
         refine yf rfl rfl ?_
         iterate 2 refine yq tb rfl ?_
         exact d_done (M39 false (Sh.some_eq h2).symm _ (by refine Wk.trans (Wk.permk (L := [(8, (i64 q35.1.to)), (9, (.bool false))]) (st' := []) (st1 := []) [] rfl .nil (by decide) rfl rfl .nil ⟨.rfl, .rfl, trivial⟩) ?_; exact Wk.to (L := [(8, (i64 q35.1.to)), (9, (.bool false))]) ⟨.rfl, .rfl, trivial⟩)))
       have A36_0123456789a : A36 1 #[true, true, true, true, true, true, true, true, true, true, true, false] ⟨149, envL [(2, (i64 p2)), (3, (ls eI p3)), (12, (.ptr 0 0 0 0)), (54, (.bool q35.2))], [⟨0, 98, 3, [(eRDecl q35.1)]⟩]⟩ := (hA36 _ _ _).2 (by
        refine AX.hoist 11 (v := (.bool q35.2)) rfl rfl (by kernel_rfl) (by kernel_rfl) (by kernel_rfl) rfl (hoist_as rfl) ?_
        exact AX.weaken (Wk.to (L := [(2, (i64 p2)), (3, (ls eI p3)), (12, (.ptr 0 0 0 0)), (13, (.bool q35.2))]) ⟨.rfl, .rfl, .rfl, .rfl, trivial⟩) (AX.lst (by kernel_rfl) ((hA36 _ _ _).1 A36_0123456789ab)) rfl)
       have A36_0123456789 : A36 2 #[true, true, true, true, true, true, true, true, true, true, false, false] ⟨149, envL [(2, (i64 p2)), (3, (ls eI p3)), (12, (.ptr 0 0 0 0)), (53, (.agg (eRDecl q35.1))), (54, (.bool q35.2))], [wD5]⟩ := (hA36 _ _ _).2 (by
        refine AX.all [10] rfl (by kernel_rfl) (by decide) ⟨?_, trivial⟩
        ·refine AXs.of (i := 10) rfl rfl (by rfl) ?_
         refine ao_str (st' := [⟨0, 98, 3, [(eRDecl q35.1)]⟩]) go0 ti98 rfl rfl rfl rfl rfl rfl (show 0 + 3 ≤ 3 by decide) rfl (AO.done ⟨rfl, ?_⟩)
         exact AX.weaken (Wk.to (L := [(2, (i64 p2)), (3, (ls eI p3)), (12, (.ptr 0 0 0 0)), (54, (.bool q35.2))]) ⟨.rfl, .rfl, .rfl, .rfl, trivial⟩) (AX.lst (by kernel_rfl) ((hA36 _ _ _).1 A36_0123456789a)) rfl)
       have A36_012345678 : A36 3 #[true, true, true, true, true, true, true, true, true, false, false, false] ⟨149, envL [(2, (i64 p2)), (3, (ls eI p3)), (53, (.agg (eRDecl q35.1))), (54, (.bool q35.2))], []⟩ := (hA36 _ _ _).2 (by
        refine AX.all [9] rfl (by kernel_rfl) (by decide) ⟨?_, trivial⟩
        ·refine AXs.of (i := 9) rfl rfl (by rfl) ?_
         refine ao_alloc (m := 0) (st' := [wD5]) go0 zi98 rfl rfl (AO.done ⟨rfl, ?_⟩)
         exact AX.weaken (Wk.to (L := [(2, (i64 p2)), (3, (ls eI p3)), (12, (.ptr 0 0 0 0)), (53, (.agg (eRDecl q35.1))), (54, (.bool q35.2))]) ⟨.rfl, .rfl, .rfl, .rfl, .rfl, trivial⟩) (AX.lst (by kernel_rfl) ((hA36 _ _ _).1 A36_0123456789)) rfl)
       have A36_012345679a : A36 2 #[true, true, true, true, true, true, true, true, false, true, true, false] ⟨149, envL [(2, (i64 p2)), (3, (ls eI p3)), (12, (.ptr 0 0 0 0)), (46, (.tup [(.agg (eRDecl q35.1)), (.bool q35.2)]))], [⟨0, 98, 3, [(eRDecl q35.1)]⟩]⟩ := (hA36 _ _ _).2 (by
        refine AX.all [8] rfl (by kernel_rfl) (by decide) ⟨?_, trivial⟩
        ·refine AXs.of (i := 8) rfl rfl (by rfl) ?_
         refine zq tb rfl (AO.done ⟨rfl, ?_⟩)
         exact AX.weaken (Wk.to (L := [(2, (i64 p2)), (3, (ls eI p3)), (12, (.ptr 0 0 0 0)), (54, (.bool q35.2))]) ⟨.rfl, .rfl, .rfl, .rfl, trivial⟩) (AX.lst (by kernel_rfl) ((hA36 _ _ _).1 A36_0123456789a)) rfl)
       have A36_012345679 : A36 3 #[true, true, true, true, true, true, true, true, false, true, false, false] ⟨149, envL [(2, (i64 p2)), (3, (ls eI p3)), (12, (.ptr 0 0 0 0)), (46, (.tup [(.agg (eRDecl q35.1)), (.bool q35.2)])), (53, (.agg (eRDecl q35.1)))], [wD5]⟩ := (hA36 _ _ _).2 (by
        refine AX.all [8, 10] rfl (by kernel_rfl) (by decide) ⟨?_, ?_, trivial⟩
        ·refine AXs.of (i := 8) rfl rfl (by rfl) ?_
         refine zq tb rfl (AO.done ⟨rfl, ?_⟩)
         exact AX.weaken (Wk.to (L := [(2, (i64 p2)), (3, (ls eI p3)), (12, (.ptr 0 0 0 0)), (53, (.agg (eRDecl q35.1))), (54, (.bool q35.2))]) ⟨.rfl, .rfl, .rfl, .rfl, .rfl, trivial⟩) (AX.lst (by kernel_rfl) ((hA36 _ _ _).1 A36_0123456789)) rfl
        ·refine AXs.of (i := 10) rfl rfl (by rfl) ?_
         refine ao_str (st' := [⟨0, 98, 3, [(eRDecl q35.1)]⟩]) go0 ti98 rfl rfl rfl rfl rfl rfl (show 0 + 3 ≤ 3 by decide) rfl (AO.done ⟨rfl, ?_⟩)
         exact AX.weaken (Wk.to (L := [(2, (i64 p2)), (3, (ls eI p3)), (12, (.ptr 0 0 0 0)), (46, (.tup [(.agg (eRDecl q35.1)), (.bool q35.2)]))]) ⟨.rfl, .rfl, .rfl, .rfl, trivial⟩) (AX.lst (by kernel_rfl) ((hA36 _ _ _).1 A36_012345679a)) rfl)
       have A36_01234567 : A36 4 #[true, true, true, true, true, true, true, true, false, false, false, false] ⟨149, envL [(2, (i64 p2)), (3, (ls eI p3)), (46, (.tup [(.agg (eRDecl q35.1)), (.bool q35.2)])), (53, (.agg (eRDecl q35.1)))], []⟩ := (hA36 _ _ _).2 (by
        refine AX.all [8, 9] rfl (by kernel_rfl) (by decide) ⟨?_, ?_, trivial⟩
        ·refine AXs.of (i := 8) rfl rfl (by rfl) ?_
         refine zq tb rfl (AO.done ⟨rfl, ?_⟩)
         exact AX.weaken (Wk.to (L := [(2, (i64 p2)), (3, (ls eI p3)), (53, (.agg (eRDecl q35.1))), (54, (.bool q35.2))]) ⟨.rfl, .rfl, .rfl, .rfl, trivial⟩) (AX.lst (by kernel_rfl) ((hA36 _ _ _).1 A36_012345678)) rfl
        ·refine AXs.of (i := 9) rfl rfl (by rfl) ?_
         refine ao_alloc (m := 0) (st' := [wD5]) go0 zi98 rfl rfl (AO.done ⟨rfl, ?_⟩)
         exact AX.weaken (Wk.to (L := [(2, (i64 p2)), (3, (ls eI p3)), (12, (.ptr 0 0 0 0)), (46, (.tup [(.agg (eRDecl q35.1)), (.bool q35.2)])), (53, (.agg (eRDecl q35.1)))]) ⟨.rfl, .rfl, .rfl, .rfl, .rfl, trivial⟩) (AX.lst (by kernel_rfl) ((hA36 _ _ _).1 A36_012345679)) rfl)
       have A36_012345689 : A36 3 #[true, true, true, true, true, true, true, false, true, true, false, false] ⟨149, envL [(2, (i64 p2)), (3, (ls eI p3)), (12, (.ptr 0 0 0 0)), (46, (.tup [(.agg (eRDecl q35.1)), (.bool q35.2)])), (54, (.bool q35.2))], [wD5]⟩ := (hA36 _ _ _).2 (by
        refine AX.all [7] rfl (by kernel_rfl) (by decide) ⟨?_, trivial⟩
        ·refine AXs.of (i := 7) rfl rfl (by rfl) ?_
         refine zq tb rfl (AO.done ⟨rfl, ?_⟩)
         exact AX.weaken (Wk.to (L := [(2, (i64 p2)), (3, (ls eI p3)), (12, (.ptr 0 0 0 0)), (53, (.agg (eRDecl q35.1))), (54, (.bool q35.2))]) ⟨.rfl, .rfl, .rfl, .rfl, .rfl, trivial⟩) (AX.lst (by kernel_rfl) ((hA36 _ _ _).1 A36_0123456789)) rfl)
       have A36_01234568 : A36 4 #[true, true, true, true, true, true, true, false, true, false, false, false] ⟨149, envL [(2, (i64 p2)), (3, (ls eI p3)), (46, (.tup [(.agg (eRDecl q35.1)), (.bool q35.2)])), (54, (.bool q35.2))], []⟩ := (hA36 _ _ _).2 (by
        refine AX.all [7, 9] rfl (by kernel_rfl) (by decide) ⟨?_, ?_, trivial⟩
        ·refine AXs.of (i := 7) rfl rfl (by rfl) ?_
         refine zq tb rfl (AO.done ⟨rfl, ?_⟩)
         exact AX.weaken (Wk.to (L := [(2, (i64 p2)), (3, (ls eI p3)), (53, (.agg (eRDecl q35.1))), (54, (.bool q35.2))]) ⟨.rfl, .rfl, .rfl, .rfl, trivial⟩) (AX.lst (by kernel_rfl) ((hA36 _ _ _).1 A36_012345678)) rfl
        ·refine AXs.of (i := 9) rfl rfl (by rfl) ?_
         refine ao_alloc (m := 0) (st' := [wD5]) go0 zi98 rfl rfl (AO.done ⟨rfl, ?_⟩)
         exact AX.weaken (Wk.to (L := [(2, (i64 p2)), (3, (ls eI p3)), (12, (.ptr 0 0 0 0)), (46, (.tup [(.agg (eRDecl q35.1)), (.bool q35.2)])), (54, (.bool q35.2))]) ⟨.rfl, .rfl, .rfl, .rfl, .rfl, trivial⟩) (AX.lst (by kernel_rfl) ((hA36 _ _ _).1 A36_012345689)) rfl)
       have A36_01234569 : A36 4 #[true, true, true, true, true, true, true, false, false, true, false, false] ⟨149, envL [(2, (i64 p2)), (3, (ls eI p3)), (12, (.ptr 0 0 0 0)), (46, (.tup [(.agg (eRDecl q35.1)), (.bool q35.2)]))], [wD5]⟩ := (hA36 _ _ _).2 (by
        refine AX.all [7, 8] rfl (by kernel_rfl) (by decide) ⟨?_, ?_, trivial⟩
        ·refine AXs.of (i := 7) rfl rfl (by rfl) ?_
         refine zq tb rfl (AO.done ⟨rfl, ?_⟩)
         exact AX.weaken (Wk.to (L := [(2, (i64 p2)), (3, (ls eI p3)), (12, (.ptr 0 0 0 0)), (46, (.tup [(.agg (eRDecl q35.1)), (.bool q35.2)])), (53, (.agg (eRDecl q35.1)))]) ⟨.rfl, .rfl, .rfl, .rfl, .rfl, trivial⟩) (AX.lst (by kernel_rfl) ((hA36 _ _ _).1 A36_012345679)) rfl
        ·refine AXs.of (i := 8) rfl rfl (by rfl) ?_
         refine zq tb rfl (AO.done ⟨rfl, ?_⟩)
         exact AX.weaken (Wk.to (L := [(2, (i64 p2)), (3, (ls eI p3)), (12, (.ptr 0 0 0 0)), (46, (.tup [(.agg (eRDecl q35.1)), (.bool q35.2)])), (54, (.bool q35.2))]) ⟨.rfl, .rfl, .rfl, .rfl, .rfl, trivial⟩) (AX.lst (by kernel_rfl) ((hA36 _ _ _).1 A36_012345689)) rfl)
       have A36_0123456 : A36 5 #[true, true, true, true, true, true, true, false, false, false, false, false] ⟨149, envL [(2, (i64 p2)), (3, (ls eI p3)), (46, (.tup [(.agg (eRDecl q35.1)), (.bool q35.2)]))], []⟩ := (hA36 _ _ _).2 (by
        refine AX.all [7, 8, 9] rfl (by kernel_rfl) (by decide) ⟨?_, ?_, ?_, trivial⟩
        ·refine AXs.of (i := 7) rfl rfl (by rfl) ?_
         refine zq tb rfl (AO.done ⟨rfl, ?_⟩)
         exact AX.weaken (Wk.to (L := [(2, (i64 p2)), (3, (ls eI p3)), (46, (.tup [(.agg (eRDecl q35.1)), (.bool q35.2)])), (53, (.agg (eRDecl q35.1)))]) ⟨.rfl, .rfl, .rfl, .rfl, trivial⟩) (AX.lst (by kernel_rfl) ((hA36 _ _ _).1 A36_01234567)) rfl
        ·refine AXs.of (i := 8) rfl rfl (by rfl) ?_
         refine zq tb rfl (AO.done ⟨rfl, ?_⟩)
         exact AX.weaken (Wk.to (L := [(2, (i64 p2)), (3, (ls eI p3)), (46, (.tup [(.agg (eRDecl q35.1)), (.bool q35.2)])), (54, (.bool q35.2))]) ⟨.rfl, .rfl, .rfl, .rfl, trivial⟩) (AX.lst (by kernel_rfl) ((hA36 _ _ _).1 A36_01234568)) rfl
        ·refine AXs.of (i := 9) rfl rfl (by rfl) ?_
         refine ao_alloc (m := 0) (st' := [wD5]) go0 zi98 rfl rfl (AO.done ⟨rfl, ?_⟩)
         exact AX.weaken (Wk.to (L := [(2, (i64 p2)), (3, (ls eI p3)), (12, (.ptr 0 0 0 0)), (46, (.tup [(.agg (eRDecl q35.1)), (.bool q35.2)]))]) ⟨.rfl, .rfl, .rfl, .rfl, trivial⟩) (AX.lst (by kernel_rfl) ((hA36 _ _ _).1 A36_01234569)) rfl)
       have A36_012345 : A36 6 #[true, true, true, true, true, true, false, false, false, false, false, false] ⟨149, envL [(2, (i64 p2)), (3, (ls eI p3)), (52, (.tup [(.agg (eRDecl q35.1)), (.bool q35.2)]))], []⟩ := (hA36 _ _ _).2 (by
        refine AX.hoist 6 (v := (.tup [(.agg (eRDecl q35.1)), (.bool q35.2)])) rfl rfl (by kernel_rfl) (by kernel_rfl) (by kernel_rfl) rfl (hoist_mv rfl) ?_
        exact AX.weaken (Wk.to (L := [(2, (i64 p2)), (3, (ls eI p3)), (46, (.tup [(.agg (eRDecl q35.1)), (.bool q35.2)]))]) ⟨.rfl, .rfl, .rfl, trivial⟩) (AX.lst (by kernel_rfl) ((hA36 _ _ _).1 A36_0123456)) rfl)
       have A36_0123459 : A36 5 #[true, true, true, true, true, true, false, false, false, true, false, false] ⟨149, envL [(2, (i64 p2)), (3, (ls eI p3)), (12, (.ptr 0 0 0 0)), (52, (.tup [(.agg (eRDecl q35.1)), (.bool q35.2)]))], [wD5]⟩ := (hA36 _ _ _).2 (by
        refine AX.hoist 6 (v := (.tup [(.agg (eRDecl q35.1)), (.bool q35.2)])) rfl rfl (by kernel_rfl) (by kernel_rfl) (by kernel_rfl) rfl (hoist_mv rfl) ?_
        exact AX.weaken (Wk.to (L := [(2, (i64 p2)), (3, (ls eI p3)), (12, (.ptr 0 0 0 0)), (46, (.tup [(.agg (eRDecl q35.1)), (.bool q35.2)]))]) ⟨.rfl, .rfl, .rfl, .rfl, trivial⟩) (AX.lst (by kernel_rfl) ((hA36 _ _ _).1 A36_01234569)) rfl)
       have A36_012349 : A36 6 #[true, true, true, true, true, false, false, false, false, true, false, false] ⟨149, envL (wD9 c34 p0 p2 p3), [wD5]⟩ := (hA36 _ _ _).2 (by
        refine AX.all [5] rfl (by kernel_rfl) (by decide) ⟨?_, trivial⟩
        ·refine AXs.of (i := 5) rfl rfl (by rfl) ?_
         refine zc (v' := (.tup [(.agg (eRDecl q35.1)), (.bool q35.2)])) hb137 (impl_arrowAt_ok gq35) rfl rfl rfl (AO.done ⟨rfl, ?_⟩)
         exact AX.weaken (Wk.to (L := [(2, (i64 p2)), (3, (ls eI p3)), (12, (.ptr 0 0 0 0)), (52, (.tup [(.agg (eRDecl q35.1)), (.bool q35.2)]))]) ⟨.rfl, .rfl, .rfl, .rfl, trivial⟩) (AX.lst (by kernel_rfl) ((hA36 _ _ _).1 A36_0123459)) rfl)
       have A36_01234 : A36 7 #[true, true, true, true, true, false, false, false, false, false, false, false] ⟨149, envL [(2, (i64 p2)), (3, (ls eI p3)), (48, (ls eRDecl p0.decls)), (51, (i64 c34))], []⟩ := (hA36 _ _ _).2 (by
        refine AX.all [5, 9] rfl (by kernel_rfl) (by decide) ⟨?_, ?_, trivial⟩
        ·refine AXs.of (i := 5) rfl rfl (by rfl) ?_
         refine zc (v' := (.tup [(.agg (eRDecl q35.1)), (.bool q35.2)])) hb137 (impl_arrowAt_ok gq35) rfl rfl rfl (AO.done ⟨rfl, ?_⟩)
         exact AX.weaken (Wk.to (L := [(2, (i64 p2)), (3, (ls eI p3)), (52, (.tup [(.agg (eRDecl q35.1)), (.bool q35.2)]))]) ⟨.rfl, .rfl, .rfl, trivial⟩) (AX.lst (by kernel_rfl) ((hA36 _ _ _).1 A36_012345)) rfl
        ·refine AXs.of (i := 9) rfl rfl (by rfl) ?_
         refine ao_alloc (m := 0) (st' := [wD5]) go0 zi98 rfl rfl (AO.done ⟨rfl, ?_⟩)
         exact AX.weaken (Wk.to (L := (wD9 c34 p0 p2 p3)) ⟨.rfl, .rfl, .rfl, .rfl, .rfl, trivial⟩) (AX.lst (by kernel_rfl) ((hA36 _ _ _).1 A36_012349)) rfl)
       have A36_01239 : A36 7 #[true, true, true, true, false, false, false, false, false, true, false, false] ⟨149, envL (wD8 c34 p0 p2 p3), [wD5]⟩ := (hA36 _ _ _).2 (by
        refine AX.all [4] rfl (by kernel_rfl) (by decide) ⟨?_, trivial⟩
        ·refine AXs.of (i := 4) rfl rfl (by rfl) ?_
         refine zq tb rfl (AO.done ⟨rfl, ?_⟩)
         exact AX.weaken (Wk.to (L := (wD9 c34 p0 p2 p3)) ⟨.rfl, .rfl, .rfl, .rfl, .rfl, trivial⟩) (AX.lst (by kernel_rfl) ((hA36 _ _ _).1 A36_012349)) rfl)
       have A36_0123 : A36 8 #[true, true, true, true, false, false, false, false, false, false, false, false] ⟨149, envL (wD13 c34 p0 p2 p3), []⟩ := (hA36 _ _ _).2 (by
        refine AX.all [4, 9] rfl (by kernel_rfl) (by decide) ⟨?_, ?_, trivial⟩
        ·refine AXs.of (i := 4) rfl rfl (by rfl) ?_
         refine zq tb rfl (AO.done ⟨rfl, ?_⟩)
         exact AX.weaken (Wk.to (L := [(2, (i64 p2)), (3, (ls eI p3)), (48, (ls eRDecl p0.decls)), (51, (i64 c34))]) ⟨.rfl, .rfl, .rfl, .rfl, trivial⟩) (AX.lst (by kernel_rfl) ((hA36 _ _ _).1 A36_01234)) rfl
        ·refine AXs.of (i := 9) rfl rfl (by rfl) ?_
         refine ao_alloc (m := 0) (st' := [wD5]) go0 zi98 rfl rfl (AO.done ⟨rfl, ?_⟩)
         exact AX.weaken (Wk.to (L := (wD8 c34 p0 p2 p3)) ⟨.rfl, .rfl, .rfl, .rfl, .rfl, trivial⟩) (AX.lst (by kernel_rfl) ((hA36 _ _ _).1 A36_01239)) rfl)
       have A36_0129 : A36 8 #[true, true, true, false, false, false, false, false, false, true, false, false] ⟨149, envL (wD12 p0 p2 p3), [wD5]⟩ := (hA36 _ _ _).2 (by
        refine AX.all [3] rfl (by kernel_rfl) (by decide) ⟨?_, trivial⟩
        ·refine AXs.of (i := 3) rfl rfl (by rfl) ?_
         refine zx ei37 gc34 rfl rfl rfl (AO.done ⟨rfl, ?_⟩)
         exact AX.weaken (Wk.to (L := (wD8 c34 p0 p2 p3)) ⟨.rfl, .rfl, .rfl, .rfl, .rfl, trivial⟩) (AX.lst (by kernel_rfl) ((hA36 _ _ _).1 A36_01239)) rfl)
       have A36_012 : A36 9 #[true, true, true, false, false, false, false, false, false, false, false, false] ⟨149, envL [(2, (i64 p2)), (3, (ls eI p3)), (48, (ls eRDecl p0.decls)), (49, (ls eI p3))], []⟩ := (hA36 _ _ _).2 (by
        refine AX.all [3, 9] rfl (by kernel_rfl) (by decide) ⟨?_, ?_, trivial⟩
        ·refine AXs.of (i := 3) rfl rfl (by rfl) ?_
         refine zx ei37 gc34 rfl rfl rfl (AO.done ⟨rfl, ?_⟩)
         exact AX.weaken (Wk.to (L := (wD13 c34 p0 p2 p3)) ⟨.rfl, .rfl, .rfl, .rfl, trivial⟩) (AX.lst (by kernel_rfl) ((hA36 _ _ _).1 A36_0123)) rfl
        ·refine AXs.of (i := 9) rfl rfl (by rfl) ?_
         refine ao_alloc (m := 0) (st' := [wD5]) go0 zi98 rfl rfl (AO.done ⟨rfl, ?_⟩)
         exact AX.weaken (Wk.to (L := (wD12 p0 p2 p3)) ⟨.rfl, .rfl, .rfl, .rfl, .rfl, trivial⟩) (AX.lst (by kernel_rfl) ((hA36 _ _ _).1 A36_0129)) rfl)
       have A36_02349 : A36 7 #[true, false, true, true, true, false, false, false, false, true, false, false] ⟨149, envL (wD7 c34 p2 p3), [wD5, ⟨0, 49, 2, [(eRSignatures p0)]⟩]⟩ := (hA36 _ _ _).2 (by
        refine AX.all [1] rfl (by kernel_rfl) (by decide) ⟨?_, trivial⟩
        ·refine AXs.of (i := 1) rfl rfl (by rfl) ?_
         refine zq tb rfl (AO.done ⟨rfl, ?_⟩)
         exact AX.weaken (by refine Wk.trans (Wk.permk (L := (wD9 c34 p0 p2 p3)) (st' := [wD5]) (st1 := [wD5]) [0] rfl .nil (by decide) rfl rfl (.raw rfl rfl .nil) ⟨.rfl, .rfl, .rfl, .rfl, .rfl, trivial⟩) ?_; exact Wk.to (L := (wD9 c34 p0 p2 p3)) ⟨.rfl, .rfl, .rfl, .rfl, .rfl, trivial⟩) (AX.lst (by kernel_rfl) ((hA36 _ _ _).1 A36_012349)) rfl)
       have A36_0234 : A36 8 #[true, false, true, true, true, false, false, false, false, false, false, false] ⟨149, envL [(2, (i64 p2)), (3, (ls eI p3)), (47, (.ptr 0 0 0 0)), (51, (i64 c34))], [⟨0, 49, 2, [(eRSignatures p0)]⟩]⟩ := (hA36 _ _ _).2 (by
        refine AX.all [1, 9] rfl (by kernel_rfl) (by decide) ⟨?_, ?_, trivial⟩
        ·refine AXs.of (i := 1) rfl rfl (by rfl) ?_
         refine zq tb rfl (AO.done ⟨rfl, ?_⟩)
         exact AX.weaken (by refine Wk.trans (Wk.permk (L := [(2, (i64 p2)), (3, (ls eI p3)), (48, (ls eRDecl p0.decls)), (51, (i64 c34))]) (st' := []) (st1 := []) [] rfl .nil (by decide) rfl rfl .nil ⟨.rfl, .rfl, .rfl, .rfl, trivial⟩) ?_; exact Wk.to (L := [(2, (i64 p2)), (3, (ls eI p3)), (48, (ls eRDecl p0.decls)), (51, (i64 c34))]) ⟨.rfl, .rfl, .rfl, .rfl, trivial⟩) (AX.lst (by kernel_rfl) ((hA36 _ _ _).1 A36_01234)) rfl
        ·refine AXs.of (i := 9) rfl rfl (by rfl) ?_
         refine ao_alloc (m := 1) (st' := [⟨0, 49, 2, [(eRSignatures p0)]⟩, wD5]) go0 zi98 rfl rfl (AO.done ⟨rfl, ?_⟩)
         exact AX.weaken (by refine Wk.trans (Wk.permk (L := (wD7 c34 p2 p3)) (st' := [wD5, ⟨0, 49, 2, [(eRSignatures p0)]⟩]) (st1 := [wD5, ⟨0, 49, 2, [(eRSignatures p0)]⟩]) [1, 0] rfl .nil (by decide) rfl rfl (.raw rfl rfl (.raw rfl rfl .nil)) ⟨.rfl, .rfl, .rfl, .rfl, .rfl, trivial⟩) ?_; exact Wk.to (L := (wD7 c34 p2 p3)) ⟨.rfl, .rfl, .rfl, .rfl, .rfl, trivial⟩) (AX.lst (by kernel_rfl) ((hA36 _ _ _).1 A36_02349)) rfl)
       have A36_0239 : A36 8 #[true, false, true, true, false, false, false, false, false, true, false, false] ⟨149, envL (wD6 c34 p2 p3), [wD5, ⟨0, 49, 2, [(eRSignatures p0)]⟩]⟩ := (hA36 _ _ _).2 (by
        refine AX.all [1, 4] rfl (by kernel_rfl) (by decide) ⟨?_, ?_, trivial⟩
        ·refine AXs.of (i := 1) rfl rfl (by rfl) ?_
         refine zq tb rfl (AO.done ⟨rfl, ?_⟩)
         exact AX.weaken (by refine Wk.trans (Wk.permk (L := (wD8 c34 p0 p2 p3)) (st' := [wD5]) (st1 := [wD5]) [0] rfl .nil (by decide) rfl rfl (.raw rfl rfl .nil) ⟨.rfl, .rfl, .rfl, .rfl, .rfl, trivial⟩) ?_; exact Wk.to (L := (wD8 c34 p0 p2 p3)) ⟨.rfl, .rfl, .rfl, .rfl, .rfl, trivial⟩) (AX.lst (by kernel_rfl) ((hA36 _ _ _).1 A36_01239)) rfl
        ·refine AXs.of (i := 4) rfl rfl (by rfl) ?_
         refine zq tb rfl (AO.done ⟨rfl, ?_⟩)
         exact AX.weaken (Wk.to (L := (wD7 c34 p2 p3)) ⟨.rfl, .rfl, .rfl, .rfl, .rfl, trivial⟩) (AX.lst (by kernel_rfl) ((hA36 _ _ _).1 A36_02349)) rfl)
       have A36_023 : A36 9 #[true, false, true, true, false, false, false, false, false, false, false, false] ⟨149, envL [(2, (i64 p2)), (3, (ls eI p3)), (47, (.ptr 0 0 0 0)), (50, (.iptr (eI c34) 0))], [⟨0, 49, 2, [(eRSignatures p0)]⟩]⟩ := (hA36 _ _ _).2 (by
        refine AX.all [1, 4, 9] rfl (by kernel_rfl) (by decide) ⟨?_, ?_, ?_, trivial⟩
        ·refine AXs.of (i := 1) rfl rfl (by rfl) ?_
         refine zq tb rfl (AO.done ⟨rfl, ?_⟩)
         exact AX.weaken (by refine Wk.trans (Wk.permk (L := (wD13 c34 p0 p2 p3)) (st' := []) (st1 := []) [] rfl .nil (by decide) rfl rfl .nil ⟨.rfl, .rfl, .rfl, .rfl, trivial⟩) ?_; exact Wk.to (L := (wD13 c34 p0 p2 p3)) ⟨.rfl, .rfl, .rfl, .rfl, trivial⟩) (AX.lst (by kernel_rfl) ((hA36 _ _ _).1 A36_0123)) rfl
        ·refine AXs.of (i := 4) rfl rfl (by rfl) ?_
         refine zq tb rfl (AO.done ⟨rfl, ?_⟩)
         exact AX.weaken (Wk.to (L := [(2, (i64 p2)), (3, (ls eI p3)), (47, (.ptr 0 0 0 0)), (51, (i64 c34))]) ⟨.rfl, .rfl, .rfl, .rfl, trivial⟩) (AX.lst (by kernel_rfl) ((hA36 _ _ _).1 A36_0234)) rfl
        ·refine AXs.of (i := 9) rfl rfl (by rfl) ?_
         refine ao_alloc (m := 1) (st' := [⟨0, 49, 2, [(eRSignatures p0)]⟩, wD5]) go0 zi98 rfl rfl (AO.done ⟨rfl, ?_⟩)
         exact AX.weaken (by refine Wk.trans (Wk.permk (L := (wD6 c34 p2 p3)) (st' := [wD5, ⟨0, 49, 2, [(eRSignatures p0)]⟩]) (st1 := [wD5, ⟨0, 49, 2, [(eRSignatures p0)]⟩]) [1, 0] rfl .nil (by decide) rfl rfl (.raw rfl rfl (.raw rfl rfl .nil)) ⟨.rfl, .rfl, .rfl, .rfl, .rfl, trivial⟩) ?_; exact Wk.to (L := (wD6 c34 p2 p3)) ⟨.rfl, .rfl, .rfl, .rfl, .rfl, trivial⟩) (AX.lst (by kernel_rfl) ((hA36 _ _ _).1 A36_0239)) rfl)
       have A36_029 : A36 9 #[true, false, true, false, false, false, false, false, false, true, false, false] ⟨149, envL (wD10 p2 p3), [wD5, ⟨0, 49, 2, [(eRSignatures p0)]⟩]⟩ := (hA36 _ _ _).2 (by
        refine AX.all [1, 3] rfl (by kernel_rfl) (by decide) ⟨?_, ?_, trivial⟩
        ·refine AXs.of (i := 1) rfl rfl (by rfl) ?_
         refine zq tb rfl (AO.done ⟨rfl, ?_⟩)
         exact AX.weaken (by refine Wk.trans (Wk.permk (L := (wD12 p0 p2 p3)) (st' := [wD5]) (st1 := [wD5]) [0] rfl .nil (by decide) rfl rfl (.raw rfl rfl .nil) ⟨.rfl, .rfl, .rfl, .rfl, .rfl, trivial⟩) ?_; exact Wk.to (L := (wD12 p0 p2 p3)) ⟨.rfl, .rfl, .rfl, .rfl, .rfl, trivial⟩) (AX.lst (by kernel_rfl) ((hA36 _ _ _).1 A36_0129)) rfl
        ·refine AXs.of (i := 3) rfl rfl (by rfl) ?_
         refine zx ei37 gc34 rfl rfl rfl (AO.done ⟨rfl, ?_⟩)
         exact AX.weaken (Wk.to (L := (wD6 c34 p2 p3)) ⟨.rfl, .rfl, .rfl, .rfl, .rfl, trivial⟩) (AX.lst (by kernel_rfl) ((hA36 _ _ _).1 A36_0239)) rfl)
       have A36_02 : A36 10 #[true, false, true, false, false, false, false, false, false, false, false, false] ⟨149, envL [(2, (i64 p2)), (3, (ls eI p3)), (47, (.ptr 0 0 0 0)), (49, (ls eI p3))], [⟨0, 49, 2, [(eRSignatures p0)]⟩]⟩ := (hA36 _ _ _).2 (by
        refine AX.all [1, 3, 9] rfl (by kernel_rfl) (by decide) ⟨?_, ?_, ?_, trivial⟩
        ·refine AXs.of (i := 1) rfl rfl (by rfl) ?_
         refine zq tb rfl (AO.done ⟨rfl, ?_⟩)
         exact AX.weaken (by refine Wk.trans (Wk.permk (L := [(2, (i64 p2)), (3, (ls eI p3)), (48, (ls eRDecl p0.decls)), (49, (ls eI p3))]) (st' := []) (st1 := []) [] rfl .nil (by decide) rfl rfl .nil ⟨.rfl, .rfl, .rfl, .rfl, trivial⟩) ?_; exact Wk.to (L := [(2, (i64 p2)), (3, (ls eI p3)), (48, (ls eRDecl p0.decls)), (49, (ls eI p3))]) ⟨.rfl, .rfl, .rfl, .rfl, trivial⟩) (AX.lst (by kernel_rfl) ((hA36 _ _ _).1 A36_012)) rfl
        ·refine AXs.of (i := 3) rfl rfl (by rfl) ?_
         refine zx ei37 gc34 rfl rfl rfl (AO.done ⟨rfl, ?_⟩)
         exact AX.weaken (Wk.to (L := [(2, (i64 p2)), (3, (ls eI p3)), (47, (.ptr 0 0 0 0)), (50, (.iptr (eI c34) 0))]) ⟨.rfl, .rfl, .rfl, .rfl, trivial⟩) (AX.lst (by kernel_rfl) ((hA36 _ _ _).1 A36_023)) rfl
        ·refine AXs.of (i := 9) rfl rfl (by rfl) ?_
         refine ao_alloc (m := 1) (st' := [⟨0, 49, 2, [(eRSignatures p0)]⟩, wD5]) go0 zi98 rfl rfl (AO.done ⟨rfl, ?_⟩)
         exact AX.weaken (by refine Wk.trans (Wk.permk (L := (wD10 p2 p3)) (st' := [wD5, ⟨0, 49, 2, [(eRSignatures p0)]⟩]) (st1 := [wD5, ⟨0, 49, 2, [(eRSignatures p0)]⟩]) [1, 0] rfl .nil (by decide) rfl rfl (.raw rfl rfl (.raw rfl rfl .nil)) ⟨.rfl, .rfl, .rfl, .rfl, .rfl, trivial⟩) ?_; exact Wk.to (L := (wD10 p2 p3)) ⟨.rfl, .rfl, .rfl, .rfl, .rfl, trivial⟩) (AX.lst (by kernel_rfl) ((hA36 _ _ _).1 A36_029)) rfl)
       have A36_2349 : A36 8 #[false, false, true, true, true, false, false, false, false, true, false, false] ⟨149, envL [(2, (i64 p2)), (3, (ls eI p3)), (4, (.ptr 0 0 0 0)), (12, (.ptr 1 0 0 0)), (51, (i64 c34))], [⟨0, 49, 2, [(eRSignatures p0)]⟩, wD5]⟩ := (hA36 _ _ _).2 (by
        refine AX.all [0] rfl (by kernel_rfl) (by decide) ⟨?_, trivial⟩
        ·refine AXs.of (i := 0) rfl rfl (by rfl) ?_
         refine zq tb rfl (AO.done ⟨rfl, ?_⟩)
         exact AX.weaken (by refine Wk.trans (Wk.permk (L := (wD7 c34 p2 p3)) (st' := [wD5, ⟨0, 49, 2, [(eRSignatures p0)]⟩]) (st1 := [wD5, ⟨0, 49, 2, [(eRSignatures p0)]⟩]) [1, 0] rfl .nil (by decide) rfl rfl (.raw rfl rfl (.raw rfl rfl .nil)) ⟨.rfl, .rfl, .rfl, .rfl, .rfl, trivial⟩) ?_; exact Wk.to (L := (wD7 c34 p2 p3)) ⟨.rfl, .rfl, .rfl, .rfl, .rfl, trivial⟩) (AX.lst (by kernel_rfl) ((hA36 _ _ _).1 A36_02349)) rfl)
       have A36_234 : A36 9 #[false, false, true, true, true, false, false, false, false, false, false, false] ⟨149, envL [(2, (i64 p2)), (3, (ls eI p3)), (4, (.ptr 0 0 0 0)), (51, (i64 c34))], [⟨0, 49, 2, [(eRSignatures p0)]⟩]⟩ := (hA36 _ _ _).2 (by
        refine AX.all [0, 9] rfl (by kernel_rfl) (by decide) ⟨?_, ?_, trivial⟩
        ·refine AXs.of (i := 0) rfl rfl (by rfl) ?_
         refine zq tb rfl (AO.done ⟨rfl, ?_⟩)
         exact AX.weaken (Wk.to (L := [(2, (i64 p2)), (3, (ls eI p3)), (47, (.ptr 0 0 0 0)), (51, (i64 c34))]) ⟨.rfl, .rfl, .rfl, .rfl, trivial⟩) (AX.lst (by kernel_rfl) ((hA36 _ _ _).1 A36_0234)) rfl
        ·refine AXs.of (i := 9) rfl rfl (by rfl) ?_
         refine ao_alloc (m := 1) (st' := [⟨0, 49, 2, [(eRSignatures p0)]⟩, wD5]) go0 zi98 rfl rfl (AO.done ⟨rfl, ?_⟩)
         exact AX.weaken (Wk.to (L := [(2, (i64 p2)), (3, (ls eI p3)), (4, (.ptr 0 0 0 0)), (12, (.ptr 1 0 0 0)), (51, (i64 c34))]) ⟨.rfl, .rfl, .rfl, .rfl, .rfl, trivial⟩) (AX.lst (by kernel_rfl) ((hA36 _ _ _).1 A36_2349)) rfl)
       have A36_239 : A36 9 #[false, false, true, true, false, false, false, false, false, true, false, false] ⟨149, envL [(2, (i64 p2)), (3, (ls eI p3)), (4, (.ptr 0 0 0 0)), (12, (.ptr 1 0 0 0)), (50, (.iptr (eI c34) 0))], [⟨0, 49, 2, [(eRSignatures p0)]⟩, wD5]⟩ := (hA36 _ _ _).2 (by
        refine AX.all [0, 4] rfl (by kernel_rfl) (by decide) ⟨?_, ?_, trivial⟩
        ·refine AXs.of (i := 0) rfl rfl (by rfl) ?_
         refine zq tb rfl (AO.done ⟨rfl, ?_⟩)
         exact AX.weaken (by refine Wk.trans (Wk.permk (L := (wD6 c34 p2 p3)) (st' := [wD5, ⟨0, 49, 2, [(eRSignatures p0)]⟩]) (st1 := [wD5, ⟨0, 49, 2, [(eRSignatures p0)]⟩]) [1, 0] rfl .nil (by decide) rfl rfl (.raw rfl rfl (.raw rfl rfl .nil)) ⟨.rfl, .rfl, .rfl, .rfl, .rfl, trivial⟩) ?_; exact Wk.to (L := (wD6 c34 p2 p3)) ⟨.rfl, .rfl, .rfl, .rfl, .rfl, trivial⟩) (AX.lst (by kernel_rfl) ((hA36 _ _ _).1 A36_0239)) rfl
        ·refine AXs.of (i := 4) rfl rfl (by rfl) ?_
         refine zq tb rfl (AO.done ⟨rfl, ?_⟩)
         exact AX.weaken (Wk.to (L := [(2, (i64 p2)), (3, (ls eI p3)), (4, (.ptr 0 0 0 0)), (12, (.ptr 1 0 0 0)), (51, (i64 c34))]) ⟨.rfl, .rfl, .rfl, .rfl, .rfl, trivial⟩) (AX.lst (by kernel_rfl) ((hA36 _ _ _).1 A36_2349)) rfl)
       have A36_23 : A36 10 #[false, false, true, true, false, false, false, false, false, false, false, false] ⟨149, envL [(2, (i64 p2)), (3, (ls eI p3)), (4, (.ptr 0 0 0 0)), (50, (.iptr (eI c34) 0))], [⟨0, 49, 2, [(eRSignatures p0)]⟩]⟩ := (hA36 _ _ _).2 (by
        refine AX.all [0, 4, 9] rfl (by kernel_rfl) (by decide) ⟨?_, ?_, ?_, trivial⟩
        ·refine AXs.of (i := 0) rfl rfl (by rfl) ?_
         refine zq tb rfl (AO.done ⟨rfl, ?_⟩)
         exact AX.weaken (Wk.to (L := [(2, (i64 p2)), (3, (ls eI p3)), (47, (.ptr 0 0 0 0)), (50, (.iptr (eI c34) 0))]) ⟨.rfl, .rfl, .rfl, .rfl, trivial⟩) (AX.lst (by kernel_rfl) ((hA36 _ _ _).1 A36_023)) rfl
        ·refine AXs.of (i := 4) rfl rfl (by rfl) ?_
         refine zq tb rfl (AO.done ⟨rfl, ?_⟩)
         exact AX.weaken (Wk.to (L := [(2, (i64 p2)), (3, (ls eI p3)), (4, (.ptr 0 0 0 0)), (51, (i64 c34))]) ⟨.rfl, .rfl, .rfl, .rfl, trivial⟩) (AX.lst (by kernel_rfl) ((hA36 _ _ _).1 A36_234)) rfl
        ·refine AXs.of (i := 9) rfl rfl (by rfl) ?_
         refine ao_alloc (m := 1) (st' := [⟨0, 49, 2, [(eRSignatures p0)]⟩, wD5]) go0 zi98 rfl rfl (AO.done ⟨rfl, ?_⟩)
         exact AX.weaken (Wk.to (L := [(2, (i64 p2)), (3, (ls eI p3)), (4, (.ptr 0 0 0 0)), (12, (.ptr 1 0 0 0)), (50, (.iptr (eI c34) 0))]) ⟨.rfl, .rfl, .rfl, .rfl, .rfl, trivial⟩) (AX.lst (by kernel_rfl) ((hA36 _ _ _).1 A36_239)) rfl)
       have A36_29 : A36 10 #[false, false, true, false, false, false, false, false, false, true, false, false] ⟨149, envL [(2, (i64 p2)), (3, (ls eI p3)), (4, (.ptr 0 0 0 0)), (12, (.ptr 1 0 0 0)), (49, (ls eI p3))], [⟨0, 49, 2, [(eRSignatures p0)]⟩, wD5]⟩ := (hA36 _ _ _).2 (by
        refine AX.all [0, 3] rfl (by kernel_rfl) (by decide) ⟨?_, ?_, trivial⟩
        ·refine AXs.of (i := 0) rfl rfl (by rfl) ?_
         refine zq tb rfl (AO.done ⟨rfl, ?_⟩)
         exact AX.weaken (by refine Wk.trans (Wk.permk (L := (wD10 p2 p3)) (st' := [wD5, ⟨0, 49, 2, [(eRSignatures p0)]⟩]) (st1 := [wD5, ⟨0, 49, 2, [(eRSignatures p0)]⟩]) [1, 0] rfl .nil (by decide) rfl rfl (.raw rfl rfl (.raw rfl rfl .nil)) ⟨.rfl, .rfl, .rfl, .rfl, .rfl, trivial⟩) ?_; exact Wk.to (L := (wD10 p2 p3)) ⟨.rfl, .rfl, .rfl, .rfl, .rfl, trivial⟩) (AX.lst (by kernel_rfl) ((hA36 _ _ _).1 A36_029)) rfl
        ·refine AXs.of (i := 3) rfl rfl (by rfl) ?_
         refine zx ei37 gc34 rfl rfl rfl (AO.done ⟨rfl, ?_⟩)
         exact AX.weaken (Wk.to (L := [(2, (i64 p2)), (3, (ls eI p3)), (4, (.ptr 0 0 0 0)), (12, (.ptr 1 0 0 0)), (50, (.iptr (eI c34) 0))]) ⟨.rfl, .rfl, .rfl, .rfl, .rfl, trivial⟩) (AX.lst (by kernel_rfl) ((hA36 _ _ _).1 A36_239)) rfl)
       have A36_2 : A36 11 #[false, false, true, false, false, false, false, false, false, false, false, false] ⟨149, envL [(2, (i64 p2)), (3, (ls eI p3)), (4, (.ptr 0 0 0 0)), (49, (ls eI p3))], [⟨0, 49, 2, [(eRSignatures p0)]⟩]⟩ := (hA36 _ _ _).2 (by
        refine AX.all [0, 3, 9] rfl (by kernel_rfl) (by decide) ⟨?_, ?_, ?_, trivial⟩
        ·refine AXs.of (i := 0) rfl rfl (by rfl) ?_
         refine zq tb rfl (AO.done ⟨rfl, ?_⟩)
         exact AX.weaken (Wk.to (L := [(2, (i64 p2)), (3, (ls eI p3)), (47, (.ptr 0 0 0 0)), (49, (ls eI p3))]) ⟨.rfl, .rfl, .rfl, .rfl, trivial⟩) (AX.lst (by kernel_rfl) ((hA36 _ _ _).1 A36_02)) rfl
        ·refine AXs.of (i := 3) rfl rfl (by rfl) ?_
         refine zx ei37 gc34 rfl rfl rfl (AO.done ⟨rfl, ?_⟩)
         exact AX.weaken (Wk.to (L := [(2, (i64 p2)), (3, (ls eI p3)), (4, (.ptr 0 0 0 0)), (50, (.iptr (eI c34) 0))]) ⟨.rfl, .rfl, .rfl, .rfl, trivial⟩) (AX.lst (by kernel_rfl) ((hA36 _ _ _).1 A36_23)) rfl
        ·refine AXs.of (i := 9) rfl rfl (by rfl) ?_
         refine ao_alloc (m := 1) (st' := [⟨0, 49, 2, [(eRSignatures p0)]⟩, wD5]) go0 zi98 rfl rfl (AO.done ⟨rfl, ?_⟩)
         exact AX.weaken (Wk.to (L := [(2, (i64 p2)), (3, (ls eI p3)), (4, (.ptr 0 0 0 0)), (12, (.ptr 1 0 0 0)), (49, (ls eI p3))]) ⟨.rfl, .rfl, .rfl, .rfl, .rfl, trivial⟩) (AX.lst (by kernel_rfl) ((hA36 _ _ _).1 A36_29)) rfl)
       have A36_e : A36 12 #[false, false, false, false, false, false, false, false, false, false, false, false] ⟨149, envL [(2, (i64 p2)), (3, (ls eI p3)), (4, (.ptr 0 0 0 0))], [⟨0, 49, 2, [(eRSignatures p0)]⟩]⟩ := (hA36 _ _ _).2 (by
        refine AX.hoist 2 (v := (ls eI p3)) rfl rfl (by kernel_rfl) (by kernel_rfl) (by kernel_rfl) rfl (hoist_mv rfl) ?_
        exact AX.weaken (Wk.to (L := [(2, (i64 p2)), (3, (ls eI p3)), (4, (.ptr 0 0 0 0)), (49, (ls eI p3))]) ⟨.rfl, .rfl, .rfl, .rfl, trivial⟩) (AX.lst (by kernel_rfl) ((hA36 _ _ _).1 A36_2)) rfl)
       refine (hA36 _ _ _).2 ?_
       exact AX.weaken (Wk.to (L := [(2, (i64 p2)), (3, (ls eI p3)), (4, (.ptr 0 0 0 0))]) ⟨.rfl, .rfl, .rfl, trivial⟩) (AX.lst (by kernel_rfl) ((hA36 _ _ _).1 A36_e)) rfl
     ·intro b26 h1
      refine zr tb rfl rfl ?_
      refine ci h1 rfl ?_ ?_ <;> clear h1
      ·intro b38 h1
       refine sr rfl fun K39 hK39 => zm tb 3 rfl (bs h1 fun q40 gq40 h1 => zc (v' := (.tup [(i64 q40.1), (.agg (eRCon q40.2))])) hb182 (impl_conAt_ok gq40) rfl rfl rfl (zm tb 3 rfl (ao_alloc (m := 1) (st' := [⟨0, 49, 2, [(eRSignatures p0)]⟩, ⟨0, 134, 1, [[.zc]]⟩]) go0 zi134 rfl rfl (zq tb rfl (ao_str (st' := [⟨0, 49, 2, [(eRSignatures p0)]⟩, ⟨0, 134, 1, [(eRCon q40.2)]⟩]) go0 ti134 rfl rfl rfl rfl rfl rfl (show 0 + 1 ≤ 1 by decide) rfl (dn hK39 rfl (AW.seq fun K41 hK41 => bs h1 fun o43 h2 h1 => ?_)))))))
       have M43 : ∀ (t42 : Bool), o43 = t42 → ∀ s, Wk 0 s ⟨149, envL [(8, (i64 q40.1)), (9, (.bool t42))], []⟩ → K41 s := by
        intro t42 hq s hw
        subst o43
        try dsimp only at h1
        refine hK41 _ (AW.weaken hw ?_)
        replace h1 := Sh.some_eq h1
        subst o5
        try dsimp only [id] at h0
        replace h0 := Sh.some_eq h0
        subst r
        exact AW.ret (xr (Wk.to (L := [(8, (i64 q40.1)), (9, (.bool t42))]) ⟨.rfl, .rfl, trivial⟩))
       refine AW.regionO rfl (zm tb 4 rfl ?_)
       rcases Sh.ite_some h2 with ⟨b44, h2⟩ | ⟨b44, h2⟩
       ·exact zg tb b44 rfl (zg tb b44 rfl (zg tb b44 rfl (bs h2 fun q45 gq45 h2 => zd b44 hb185 (slices_Equal_int_int_ok gq45) rfl rfl rfl rfl (zt b44 rfl (zm tb 2 rfl (AO.done (M43 q45 (Sh.some_eq h2).symm _ (Wk.d0 _ rfl))))))))
       ·refine zs b44 rfl ?_
        iterate 3 refine zs b44 rfl ?_
        exact zf b44 rfl (zm tb 2 rfl (AO.done (M43 false (Sh.some_eq h2).symm _ (Wk.d0 _ rfl))))
      ·intro b38 h1
       refine AW.seq fun K46 hK46 => bs h1 fun o48 h2 h1 => ?_
       have M48 : ∀ (t47 : Bool), o48 = t47 → ∀ s, Wk 0 s ⟨149, envL [(1, (i64 p1)), (2, (i64 p2)), (3, (ls eI p3)), (4, (.ptr 0 0 0 0)), (88, (.bool t47))], [⟨0, 49, 2, [(eRSignatures p0)]⟩]⟩ → K46 s := by
        intro t47 hq s hw
        subst o48
        try dsimp only at h1
        refine hK46 _ (AW.weaken hw ?_)
        refine ci h1 rfl ?_ ?_ <;> clear h1
        ·intro b49 h1
         refine AW.seq fun K50 hK50 => AW.seq fun K51 hK51 => bs h1 fun o53 h2 h1 => ?_
         have M53 : ∀ (t52 : Bool), o53 = t52 → ∀ s, Wk 0 s ⟨149, envL [(1, (i64 p1)), (2, (i64 p2)), (3, (ls eI p3)), (4, (.ptr 0 0 0 0)), (99, (.bool t52))], [⟨0, 49, 2, [(eRSignatures p0)]⟩]⟩ → K51 s := by
          intro t52 hq s hw
          subst o53
          try dsimp only at h1
          refine hK51 _ (AW.weaken hw ?_)
          refine ci h1 rfl ?_ ?_ <;> clear h1
          ·intro b54 h1
           refine zr tb rfl rfl ?_
           replace h1 := Sh.some_eq h1
           subst o5
           try dsimp only [id] at h0
           replace h0 := Sh.some_eq h0
           subst r
           exact AW.ret (xr (Wk.d0 [(8, (i64 (-1))), (9, (.bool false))] rfl))
          ·intro b54 h1
           refine AW.skip (hK50 _ (AW.seq fun K56 hK56 => ?_))
           refine AW.draw (by kernel_rfl) (by kernel_rfl) (by rfl) ?_
           iterate 3 refine yq tb rfl ?_
           refine bs h1 fun c57 gc57 h1 => yx ei47 gc57 rfl rfl rfl ?_
           iterate 5 refine yq tb rfl ?_
           refine yx ei47 gc57 rfl rfl rfl ?_
           iterate 4 refine yq tb rfl ?_
           refine d_done (hK56 _ (AW.seq fun K58 hK58 => zr tb rfl rfl ?_))
           refine ci h1 rfl ?_ ?_ <;> clear h1
           ·intro b60 h1
            refine sr rfl fun K61 hK61 => zm tb 3 rfl (bs h1 fun q62 gq62 h1 => zc hb185 (slices_Equal_int_int_ok gq62) rfl rfl rfl (zm tb 2 rfl (dn hK61 rfl ?_)))
            replace h1 := Sh.some_eq h1
            subst o5
            try dsimp only [id] at h0
            replace h0 := Sh.some_eq h0
            subst r
            exact AW.ret (xr (Wk.d0 [(8, (i64 c57.result)), (9, (.bool q62))] rfl))
           ·intro b60 h1
            refine AW.skip (hK58 _ (sr rfl fun K63 hK63 => zq tb rfl (zl tb rfl rfl (zm tb 2 rfl (dn hK63 rfl (AW.seq fun K64 hK64 => zr tb rfl rfl ?_))))))
            refine ci h1 rfl ?_ ?_ <;> clear h1
            ·intro b66 h1
             refine zr tb rfl rfl ?_
             replace h1 := Sh.some_eq h1
             subst o5
             try dsimp only [id] at h0
             replace h0 := Sh.some_eq h0
             subst r
             exact AW.ret (xr (Wk.d0 [(8, (i64 (-1))), (9, (.bool false))] rfl))
            ·intro b66 h1
             refine AW.skip (hK64 _ (AW.seq fun K68 hK68 => ?_))
             refine AW.draw (by kernel_rfl) (by kernel_rfl) (by rfl) ?_
             iterate 4 refine yq tb rfl ?_
             refine bs h1 fun c69 gc69 h1 => yx ei37 gc69 rfl rfl rfl ?_
             iterate 2 refine yq tb rfl ?_
             refine bs h1 fun q70 gq70 h1 => d_call (v := (i64 q70)) go0 hb186 (impl_arrowOf_ok gq70) rfl rfl rfl (yq tb rfl (d_done (hK68 _ (AW.seq fun K71 hK71 => bs h1 fun o73 h2 h1 => ?_))))
             have M73 : ∀ (t72 : Bool), o73 = t72 → ∀ s, Wk 0 s ⟨149, envL [(8, (i64 q70)), (9, (.bool t72))], []⟩ → K71 s := by
              intro t72 hq s hw
              subst o73
              try dsimp only at h1
              refine hK71 _ (AW.weaken hw ?_)
              replace h1 := Sh.some_eq h1
              subst o5
              try dsimp only [id] at h0
              replace h0 := Sh.some_eq h0
              subst r
              exact AW.ret (xr (Wk.to (L := [(8, (i64 q70)), (9, (.bool t72))]) ⟨.rfl, .rfl, trivial⟩))
             refine AW.regionO rfl (zm tb 4 rfl ?_)
             rcases Sh.ite_some h2 with ⟨b74, h2⟩ | ⟨b74, h2⟩
             ·exact zg tb b74 rfl (zg tb b74 rfl (zg tb b74 rfl (bs h2 fun l75 gl75 h2 => ao_sls (i := 0) (j := Sh.w ((Sh.len c57.params) - 1)) (go1 rfl rfl b74) ei37 rfl rfl rfl (fun _ => rfl) gl75 (bs h2 fun q76 gq76 h2 => zd b74 hb185 (slices_Equal_int_int_ok gq76) rfl rfl rfl rfl (zt b74 rfl (zm tb 2 rfl (AO.done (M73 q76 (Sh.some_eq h2).symm _ (Wk.d0 _ rfl)))))))))
             ·refine zs b74 rfl ?_
              iterate 4 refine zs b74 rfl ?_
              exact zf b74 rfl (zm tb 2 rfl (AO.done (M73 false (Sh.some_eq h2).symm _ (Wk.d0 _ rfl))))
         refine AW.regionO rfl (zm tb 3 rfl ?_)
         rcases Sh.ite_some h2 with ⟨b77, h2⟩ | ⟨b77, h2⟩
         ·refine zs b77 rfl ?_
          iterate 4 refine zs b77 rfl ?_
          exact zt b77 rfl (AO.done (M53 true (Sh.some_eq h2).symm _ (Wk.tr rfl)))
         ·exact zg tb b77 rfl (zg tb b77 rfl (zg tb b77 rfl (ao_q (v := (i64 (Sh.len p0.funcs))) (go1 rfl rfl b77) rfl (aq_lens sl47 rfl) (zg tb b77 rfl (zf b77 rfl (AO.done (M53 (decide ((Sh.len p0.funcs) ≤ p2)) (Sh.some_eq h2).symm _ (Wk.tr rfl))))))))
        ·intro b49 h1
         refine zr tb rfl rfl ?_
         replace h1 := Sh.some_eq h1
         subst o5
         try dsimp only [id] at h0
         replace h0 := Sh.some_eq h0
         subst r
         exact AW.ret (xr (Wk.d0 [(8, (i64 (-1))), (9, (.bool false))] rfl))
       refine zr tb rfl rfl ?_
       refine ci h2 rfl ?_ ?_ <;> clear h2
       ·intro b80 h2
        exact AW.skip (M48 true (Sh.some_eq h2).symm _ (Wk.to (L := [(1, (i64 p1)), (2, (i64 p2)), (3, (ls eI p3)), (4, (.ptr 0 0 0 0)), (88, (.bool true))]) ⟨.rfl, .rfl, .rfl, .rfl, (.of (congrArg AV.bool b80)), trivial⟩))
       ·intro b80 h2
        exact AW.regionO rfl (zm tb 2 rfl (AO.done (M48 (decide (p1 = 10)) (Sh.some_eq h2).symm _ (Wk.tr rfl))))
  refine zr tb rfl rfl ?_
  refine ci h2 rfl ?_ ?_ <;> clear h2
  ·intro b82 h2
   exact AW.skip (M21 true (Sh.some_eq h2).symm _ (Wk.to (L := (wD11 p1 p2 p3)) ⟨.rfl, .rfl, .rfl, .rfl, .rfl, .rfl, (.of (congrArg AV.bool b82)), trivial⟩))
  ·intro b82 h2
   refine zr tb rfl rfl ?_
   refine ci h2 rfl ?_ ?_ <;> clear h2
   ·intro b84 h2
    exact AW.skip (M21 true (Sh.some_eq h2).symm _ (Wk.to (L := (wD11 p1 p2 p3)) ⟨.rfl, .rfl, .rfl, .rfl, .rfl, .rfl, (.of (congrArg AV.bool b84)), trivial⟩))
   ·intro b84 h2
    refine zr tb rfl rfl ?_
    refine ci h2 rfl ?_ ?_ <;> clear h2
    ·intro b86 h2
     exact AW.skip (M21 true (Sh.some_eq h2).symm _ (Wk.to (L := (wD11 p1 p2 p3)) ⟨.rfl, .rfl, .rfl, .rfl, .rfl, .rfl, (.of (congrArg AV.bool b86)), trivial⟩))
    ·intro b86 h2
     exact AW.regionO rfl (zm tb 2 rfl (AO.done (M21 (decide (p1 = 4)) (Sh.some_eq h2).symm _ (Wk.tr rfl))))
end Go.Proofs.YtcegihniiokijaaGreat

