import Derived.Test.YteoiihebkhmgoaaProg
import Derived.Test.YteoiihebkhmgoaaGHADefsToSTDefs
import Derived.Test.YteoiihebkhmgoaaSTWalkP0
namespace Go.Proofs.Yteoiihebkhmgoaa
open Go Go.Abs RC
attribute [local irreducible] Go.Abs.dops
set_option maxRecDepth 100000
set_option maxHeartbeats 4000000

theorem ai118 : allInfo Try.prog 118 = true := by kernel_rfl
theorem ai128 : allInfo Try.prog 128 = true := by kernel_rfl
theorem ai88 : allInfo Try.prog 88 = true := by kernel_rfl
theorem bi118 : finfos Try.prog 118 = some [(0, 1), (1, 1), (2, 1)] := by kernel_rfl
theorem bi128 : finfos Try.prog 128 = some [(0, 1)] := by kernel_rfl
theorem bi88 : finfos Try.prog 88 = some [(0, 1), (1, 1)] := by kernel_rfl
theorem ei86 : einfo Try.prog 86 = some ⟨118, 3, 56, [.sl [], .sl [], .int .i64 0]⟩ := by kernel_rfl
theorem hb20 : hasBody Try.prog 20 = true := by kernel_rfl
theorem hb21 : hasBody Try.prog 21 = true := by kernel_rfl
theorem hb22 : hasBody Try.prog 22 = true := by kernel_rfl
theorem hb23 : hasBody Try.prog 23 = true := by kernel_rfl
theorem hb24 : hasBody Try.prog 24 = true := by kernel_rfl
theorem hb43 : hasBody Try.prog 43 = true := by kernel_rfl
theorem hb44 : hasBody Try.prog 44 = true := by kernel_rfl
theorem hb45 : hasBody Try.prog 45 = true := by kernel_rfl
theorem hb46 : hasBody Try.prog 46 = true := by kernel_rfl
theorem hb47 : hasBody Try.prog 47 = true := by kernel_rfl
theorem hb63 : hasBody Try.prog 63 = true := by kernel_rfl
theorem hb64 : hasBody Try.prog 64 = true := by kernel_rfl
theorem hb65 : hasBody Try.prog 65 = true := by kernel_rfl
theorem hb66 : hasBody Try.prog 66 = true := by kernel_rfl
theorem hb67 : hasBody Try.prog 67 = true := by kernel_rfl
theorem hb68 : hasBody Try.prog 68 = true := by kernel_rfl
theorem hb69 : hasBody Try.prog 69 = true := by kernel_rfl
theorem hb83 : hasBody Try.prog 83 = true := by kernel_rfl
theorem hb84 : hasBody Try.prog 84 = true := by kernel_rfl
theorem hb85 : hasBody Try.prog 85 = true := by kernel_rfl
theorem hb86 : hasBody Try.prog 86 = true := by kernel_rfl
theorem hb87 : hasBody Try.prog 87 = true := by kernel_rfl
theorem hb88 : hasBody Try.prog 88 = true := by kernel_rfl
theorem hb89 : hasBody Try.prog 89 = true := by kernel_rfl
theorem hb94 : hasBody Try.prog 94 = true := by kernel_rfl
theorem sl81 : isSliceT Try.prog 81 = true := by kernel_rfl
theorem sl86 : isSliceT Try.prog 86 = true := by kernel_rfl
theorem ti118 : tinfo Try.prog 118 = some (true, 3) := by kernel_rfl
theorem ti120 : tinfo Try.prog 120 = some (false, 1) := by kernel_rfl
theorem ti86 : tinfo Try.prog 86 = some (false, 1) := by kernel_rfl
theorem ti88 : tinfo Try.prog 88 = some (true, 2) := by kernel_rfl
theorem zi118 : zinfo Try.prog 118 = some [.zc, .zc, .int .i64 0] := by kernel_rfl
theorem zi120 : zinfo Try.prog 120 = some [.nilf] := by kernel_rfl
theorem zi88 : zinfo Try.prog 88 = some [.zc, .zc] := by kernel_rfl

theorem laws_toProcS_2_ok {N : Nat} {p0 : (List RProc)} {r : (List RProc)} (h0 : laws_toProcS N p0 = some r) : ACalls Try.prog 19 [(ls eRProc p0)] [] (fun v st => v = (ow 0 0 r) ∧ st = [(ro 0 77 5 (eRProcD 3 3 92 3 3) r)]) := by
 unfold laws_toProcS at h0
 refine ai Try.func19 rfl rfl rfl rfl (zr tb rfl rfl (sr rfl fun K2 hK2 => zq tb rfl (zl tb rfl rfl (bs h0 fun l3 gl3 h0 => ao_maked (m := 0) (st' := [(ro 0 77 5 (eRProcD 3 3 92 3 3) l3)]) (enc := (eRProcD 3 3 92 3 3)) (u := (RProc.mk [] [] 0 0 [])) ei35 rfl rfl ⟨.inr ⟨rfl, _, _, rfl, by decide⟩, ⟨.inr ⟨rfl, _, _, rfl, by decide⟩, ⟨.inl ⟨rfl, rfl⟩, ⟨.inl ⟨rfl, rfl⟩, ⟨.inr ⟨rfl, _, _, rfl, by decide⟩, trivial⟩⟩⟩⟩⟩ gl3 rfl rfl (zq tb rfl (dn hK2 rfl (AW.seq fun K4 hK4 => zr tb rfl rfl (bs h0 fun o9 h1 h0 => ?_))))))))
 have M9 : ∀ (l8 : (List RProc)), o9 = l8 → ∀ s, Wk 0 s ⟨23, envL [(3, (ow 0 0 l8))], [(ro 0 77 5 (eRProcD 3 3 92 3 3) l8)]⟩ → K4 s := by
  intro l8 hq s hw
  subst o9
  try dsimp only at h0
  refine hK4 _ (AW.weaken hw (zr tb rfl rfl ?_))
  replace h0 := Sh.some_eq h0
  subst r
  exact AW.ret (xr (Wk.to (L := [(2, (ow 0 0 l8))]) ⟨.rfl, trivial⟩))
 refine AW.block (AW.loopF (σ := Int × (List RProc)) (fun n v => laws_toProcS_L1 N p0 n v.1 v.2 = some o9) (fun (i6, l7) => ⟨23, envL [(0, (ls eRProc p0)), (3, (ow 0 0 l7)), (4, (i64 i6))], [(ro 0 77 5 (eRProcD 3 3 92 3 3) l7)]⟩) N (0, l3) h1 (Wk.tr rfl) (fun _ hv => by rw [laws_toProcS_L1] at hv; cases hv) ?_)
 rintro n ⟨i6, l7⟩ h1
 try dsimp only at h1 ⊢
 rw [laws_toProcS_L1] at h1
 refine AW.seq fun K11 hK11 => sr rfl fun K12 hK12 => zm tb 2 rfl (zl tb rfl rfl (zq tb rfl (dn hK12 rfl ?_)))
 refine ci h1 rfl ?_ ?_ <;> clear h1
 ·intro b13 h1
  refine AW.skip (hK11 _ (AW.seq fun K14 hK14 => AW.block (AW.regionO rfl (zm tb 4 rfl (bs h1 fun c15 gc15 h1 => zx ei23 gc15 rfl rfl rfl (zq tb rfl (bs h1 fun q16 gq16 h1 => ao_call (v' := (.agg [(ow 1 0 q16.params), (ow 2 0 q16.lent), (i64 q16.result), (i64 q16.regs), (ow 3 0 q16.code)])) (st' := [(ro 0 77 5 (eRProcD 3 3 92 3 3) l7), (ro 0 3 1 eI q16.params), (ro 0 3 1 eI q16.lent), (ro 0 92 6 (eRInstrD 3 3) q16.code)]) go0 hb42 (laws_toProc_2_ok gq16) rfl rfl ⟨(pure_map' fun _ => rfl), ⟨(pure_map' fun _ => rfl), ⟨(pure_mapD fun _ => rfl), trivial⟩⟩⟩ rfl rfl (bs h1 fun c17 gc17 h1 => zz (.ptr 0 0 (Int.toNat i6) 0) (aq_ixo ei35 rfl rfl rfl rfl gc17) rfl ?_))))))))
  refine ao_sth (st' := [⟨0, 77, 5, hole l7 (eRProcD 3 3 92 3 3) i6 [(ow 1 0 q16.params), (ow 2 0 q16.lent), (i64 q16.result), (i64 q16.regs), (ow 3 0 q16.code)]⟩, (ro 0 3 1 eI q16.params), (ro 0 3 1 eI q16.lent), (ro 0 92 6 (eRInstrD 3 3) q16.code)]) go0 ti77 rfl rfl gc17 rfl rfl rfl (show 5 ≤ 5 by decide) rfl rfl ?_
  refine AO.weaken (Wk.take (id := 0) (m := 1) (j := 0) (i := i6) (c := c17) (ys := q16.params) (encY := eI) (x' := [(.dv 3 1 (List.map eI q16.params)), (ow 2 0 q16.lent), (i64 q16.result), (i64 q16.regs), (ow 3 0 q16.code)]) (st' := [⟨0, 77, 5, hole l7 (eRProcD 3 3 92 3 3) i6 [(.dv 3 1 (List.map eI q16.params)), (ow 2 0 q16.lent), (i64 q16.result), (i64 q16.regs), (ow 3 0 q16.code)]⟩, ⟨1, 3, 1, []⟩, (ro 0 3 1 eI q16.lent), (ro 0 92 6 (eRInstrD 3 3) q16.code)]) rfl gc17 rfl rfl rfl (by decide) (show 0 ≤ 1 by decide) (fun _ => rfl) rfl rfl) ?_
  refine AO.weaken (Wk.take (id := 0) (m := 2) (j := 1) (i := i6) (c := c17) (ys := q16.lent) (encY := eI) (x' := [(.dv 3 1 (List.map eI q16.params)), (.dv 3 1 (List.map eI q16.lent)), (i64 q16.result), (i64 q16.regs), (ow 3 0 q16.code)]) (st' := [⟨0, 77, 5, hole l7 (eRProcD 3 3 92 3 3) i6 [(.dv 3 1 (List.map eI q16.params)), (.dv 3 1 (List.map eI q16.lent)), (i64 q16.result), (i64 q16.regs), (ow 3 0 q16.code)]⟩, ⟨1, 3, 1, []⟩, ⟨1, 3, 1, []⟩, (ro 0 92 6 (eRInstrD 3 3) q16.code)]) rfl gc17 rfl rfl rfl (by decide) (show 0 ≤ 2 by decide) (fun _ => rfl) rfl rfl) ?_
  refine AO.weaken (Wk.take (id := 0) (m := 3) (j := 4) (i := i6) (c := c17) (ys := q16.code) (encY := (eRInstrD 3 3)) (x' := [(.dv 3 1 (List.map eI q16.params)), (.dv 3 1 (List.map eI q16.lent)), (i64 q16.result), (i64 q16.regs), (.dv 92 6 (List.map (eRInstrD 3 3) q16.code))]) (st' := [⟨0, 77, 5, hole l7 (eRProcD 3 3 92 3 3) i6 [(.dv 3 1 (List.map eI q16.params)), (.dv 3 1 (List.map eI q16.lent)), (i64 q16.result), (i64 q16.regs), (.dv 92 6 (List.map (eRInstrD 3 3) q16.code))]⟩, ⟨1, 3, 1, []⟩, ⟨1, 3, 1, []⟩, ⟨1, 92, 6, []⟩]) rfl gc17 rfl rfl rfl (by decide) (show 0 ≤ 3 by decide) (fun _ => rfl) rfl rfl) ?_
  refine AO.weaken (Wk.filled (id := 0) (i := i6) (u := q16) (st' := [(ro 0 77 5 (eRProcD 3 3 92 3 3) (Sh.put l7 i6 q16)), ⟨1, 3, 1, []⟩, ⟨1, 3, 1, []⟩, ⟨1, 92, 6, []⟩]) rfl rfl rfl) (dn hK14 rfl (AW.regionO rfl (zm tb 3 rfl ?_)))
  exact AO.done (xi (Sh.w (i6 + 1), Sh.put l7 i6 q16) h1 (by refine Wk.trans (Wk.permk (L := [(0, (.sl (List.map eRProc p0))), (3, (.own 0 0 (List.length l7))), (4, (i64 (Sh.w (i6 + 1))))]) (st' := [⟨0, 77, 5, List.map (eRProcD 3 3 92 3 3) (Sh.put l7 i6 q16)⟩]) (st1 := [⟨0, 77, 5, List.map (eRProcD 3 3 92 3 3) (Sh.put l7 i6 q16)⟩]) [0] rfl .nil (by decide) rfl rfl (.deep (pure_mapD fun _ => rfl) .nil) ⟨.rfl, .rfl, .rfl, trivial⟩) ?_; exact Wk.to (L := [(0, (.sl (List.map eRProc p0))), (3, (.own 0 0 (List.length (Sh.put l7 i6 q16)))), (4, (i64 (Sh.w (i6 + 1))))]) ⟨.rfl, (.len (by simp only [Sh.put_len])), .rfl, trivial⟩))
 ·intro b13 h1
  exact AW.exit (M9 l7 (Sh.some_eq h1).symm _ (Wk.tr rfl))
theorem laws_toImage_2_ok {N : Nat} {p0 : RImage} {r : RImage} (h0 : laws_toImage N p0 = some r) : ACalls Try.prog 6 [(.agg (eRImage p0))] [] (fun v st => v = (.agg [(ow 0 0 r.decls), (ow 1 0 r.procs)]) ∧ st = [(ro 0 83 3 (eRDeclD 128 3) r.decls), (ro 0 77 5 (eRProcD 3 3 92 3 3) r.procs)]) := by
 unfold laws_toImage at h0
 refine ACalls.wk (r0 := (.agg [(ow 0 0 r.decls), (ow 1 0 r.procs)])) (st0 := [(ro 0 83 3 (eRDeclD 128 3) r.decls), (ro 0 77 5 (eRProcD 3 3 92 3 3) r.procs), ⟨0, 37, 2, [[(ow 0 0 r.decls), (ow 1 0 r.procs)]]⟩]) ?_ (Wk.sel (L := [(0, (.agg [(ow 0 0 r.decls), (ow 1 0 r.procs)]))]) (st' := [(ro 0 83 3 (eRDeclD 128 3) r.decls), (ro 0 77 5 (eRProcD 3 3 92 3 3) r.procs)]) [0, 1] rfl (by decide) rfl rfl (.deep (pure_mapD fun _ => rfl) (.deep (pure_mapD fun _ => rfl) trivial)) ⟨.rfl, trivial⟩)
 refine ai Try.func6 rfl rfl rfl rfl (sr rfl fun K1 hK1 => ao_box (m := 0) (st' := [⟨0, 25, 2, [(eRImage p0)]⟩]) go0 rfl rfl rfl rfl rfl (ao_alloc (m := 1) (st' := [⟨0, 25, 2, [(eRImage p0)]⟩, ⟨0, 37, 2, [[.zc, .zc]]⟩]) go0 zi37 rfl rfl (dn hK1 rfl (sr rfl fun K2 hK2 => ao_alloc (m := 2) (st' := [⟨0, 25, 2, [(eRImage p0)]⟩, ⟨0, 37, 2, [[.zc, .zc]]⟩, ⟨0, 37, 2, [[.zc, .zc]]⟩]) go0 zi37 rfl rfl (dn hK2 rfl (sr rfl fun K3 hK3 => zm tb 2 rfl (bs h0 fun q4 gq4 h0 => ao_call (v' := (ow 3 0 q4)) (st' := [⟨0, 25, 2, [(eRImage p0)]⟩, ⟨0, 37, 2, [[.zc, .zc]]⟩, ⟨0, 37, 2, [[.zc, .zc]]⟩, (ro 0 83 3 (eRDeclD 128 3) q4)]) go0 hb18 (laws_toDeclS_2_ok gq4) rfl rfl ⟨(pure_mapD fun _ => rfl), trivial⟩ rfl rfl ?_)))))))
 refine zq tb rfl (ao_str (st' := [⟨0, 25, 2, [(eRImage p0)]⟩, ⟨0, 37, 2, [[.zc, .zc]]⟩, ⟨0, 37, 2, [[(ow 3 0 q4), .zc]]⟩, (ro 0 83 3 (eRDeclD 128 3) q4)]) go0 ti34 rfl rfl rfl rfl rfl rfl (show 0 + 1 ≤ 2 by decide) rfl (dn hK3 rfl (sr rfl fun K5 hK5 => zm tb 2 rfl (bs h0 fun q6 gq6 h0 => ao_call (v' := (ow 4 0 q6)) (st' := [⟨0, 25, 2, [(eRImage p0)]⟩, ⟨0, 37, 2, [[.zc, .zc]]⟩, ⟨0, 37, 2, [[(ow 3 0 q4), .zc]]⟩, (ro 0 83 3 (eRDeclD 128 3) q4), (ro 0 77 5 (eRProcD 3 3 92 3 3) q6)]) go0 hb19 (laws_toProcS_2_ok gq6) rfl rfl ⟨(pure_mapD fun _ => rfl), trivial⟩ rfl rfl (zq tb rfl (ao_str (st' := [⟨0, 25, 2, [(eRImage p0)]⟩, ⟨0, 37, 2, [[.zc, .zc]]⟩, ⟨0, 37, 2, [[(ow 3 0 q4), (ow 4 0 q6)]]⟩, (ro 0 83 3 (eRDeclD 128 3) q4), (ro 0 77 5 (eRProcD 3 3 92 3 3) q6)]) go0 ti35 rfl rfl rfl rfl rfl rfl (show 1 + 1 ≤ 2 by decide) rfl (dn hK5 rfl (sr rfl fun K7 hK7 => zq tb rfl ?_))))))))
 refine ao_str (st' := [⟨0, 25, 2, [(eRImage p0)]⟩, ⟨0, 37, 2, [[(ow 3 0 q4), (ow 4 0 q6)]]⟩, ⟨0, 37, 2, [[(ow 3 0 q4), (ow 4 0 q6)]]⟩, (ro 0 83 3 (eRDeclD 128 3) q4), (ro 0 77 5 (eRProcD 3 3 92 3 3) q6)]) go0 ti37 rfl rfl rfl rfl rfl rfl (show 0 + 2 ≤ 2 by decide) rfl (dn hK7 rfl ?_)
 replace h0 := Sh.some_eq h0
 subst r
 exact AW.ret (Exists.intro _ (And.intro ((Wk.permk (L := [(2, (.ptr 2 0 0 0))]) (st' := [(ro 0 83 3 (eRDeclD 128 3) q4), (ro 0 77 5 (eRProcD 3 3 92 3 3) q6), ⟨0, 37, 2, [[(ow 0 0 q4), (ow 1 0 q6)]]⟩]) (st1 := [(ro 0 83 3 (eRDeclD 128 3) q4), (ro 0 77 5 (eRProcD 3 3 92 3 3) q6), ⟨0, 37, 2, [[(ow 3 0 q4), (ow 4 0 q6)]]⟩]) [3, 4, 1] rfl .nil (by decide) rfl rfl (.deep (pure_mapD fun _ => rfl) (.deep (pure_mapD fun _ => rfl) (.raw rfl rfl .nil))) ⟨.rfl, trivial⟩).trans (Wk.to (L := [(2, (.ptr 2 0 0 0))]) ⟨.rfl, trivial⟩)) (aq_ldpa (x := .tmp 2) (off := 0) (cs := [(ow 0 0 q4), (ow 1 0 q6)]) (vs := [(ow 0 0 q4), (ow 1 0 q6)]) ti37 rfl rfl rfl (show 0 + 2 ≤ 2 by decide) rfl _ ⟨rfl, rfl⟩)))
theorem impl_isType_ok {p0 : (List RDecl)} {p1 : Int} {r : Bool} (h0 : impl_isType p0 p1 = some r) : ACalls Try.prog 85 [(ls eRDecl p0), (i64 p1)] [] (fun v st => v = (.bool r) ∧ st = []) := by
 unfold impl_isType at h0
 refine ai Try.func85 rfl rfl rfl rfl (zr tb rfl rfl (AW.seq fun K2 hK2 => bs h0 fun o4 h1 h0 => ?_))
 have M4 : ∀ (t3 : Bool), o4 = t3 → ∀ s, Wk 0 s ⟨13, envL [(4, (.bool t3))], []⟩ → K2 s := by
  intro t3 hq s hw
  subst o4
  try dsimp only at h0
  refine hK2 _ (AW.weaken hw ?_)
  replace h0 := Sh.some_eq h0
  subst r
  exact AW.ret (xr (Wk.to (L := [(4, (.bool t3))]) ⟨.rfl, trivial⟩))
 refine AW.regionO rfl (zm tb 3 rfl ?_)
 rcases Sh.ite_some h1 with ⟨b5, h1⟩ | ⟨b5, h1⟩
 ·exact zg tb b5 rfl (zg tb b5 rfl (ao_q (v := (i64 (Sh.len p0))) (go1 rfl rfl b5) rfl (aq_lens sl34 rfl) (zg tb b5 rfl (zt b5 rfl (zq tb rfl (AO.done (M4 (decide (p1 ≤ (Sh.len p0))) (Sh.some_eq h1).symm _ (Wk.tr rfl))))))))
 ·refine zs b5 rfl ?_
  iterate 3 refine zs b5 rfl ?_
  exact zf b5 rfl (zq tb rfl (AO.done (M4 false (Sh.some_eq h1).symm _ (Wk.tr rfl))))
theorem impl_allTypes_ok {N : Nat} {p0 : (List RDecl)} {p1 : (List Int)} {r : Bool} (h0 : impl_allTypes N p0 p1 = some r) : ACalls Try.prog 84 [(ls eRDecl p0), (ls eI p1)] [] (fun v st => v = (.bool r) ∧ st = []) := by
 unfold impl_allTypes at h0
 refine ai Try.func84 rfl rfl rfl rfl (zr tb rfl rfl (AW.seq fun K2 hK2 => sr rfl fun K3 hK3 => zq tb rfl (zl tb rfl rfl (zq tb rfl (dn hK3 rfl ?_)))))
 obtain ⟨o5, h1, h0⟩ := Sh.cont_some h0
 have M5 : ∀ (_ : Unit), o5 = Sum.inr () → ∀ s, Wk 0 s ⟨18, envL [], []⟩ → K2 s := by
  intro _ hq s hw
  subst o5
  try dsimp only at h0
  refine hK2 _ (AW.weaken hw (zr tb rfl rfl ?_))
  replace h0 := Sh.some_eq h0
  subst r
  exact AW.ret (xr (Wk.to (L := [(4, (.bool true))]) ⟨.rfl, trivial⟩))
 refine AW.block (AW.loopF (σ := Int) (fun n v => impl_allTypes_L1 p0 p1 n v = some o5) (fun t4 => ⟨18, envL [(0, (ls eRDecl p0)), (7, (ls eI p1)), (8, (i64 (Sh.len p1))), (9, (i64 t4))], []⟩) N 0 h1 (Wk.tr rfl) (fun _ hv => by rw [impl_allTypes_L1] at hv; cases hv) ?_)
 rintro n t4 h1
 try dsimp only at h1 ⊢
 rw [impl_allTypes_L1] at h1
 refine zr tb rfl rfl (AW.seq fun K8 hK8 => ?_)
 refine ci h1 rfl ?_ ?_ <;> clear h1
 ·intro b9 h1
  refine AW.skip (hK8 _ (AW.seq fun K10 hK10 => AW.block (sr rfl fun K11 hK11 => bs h1 fun c12 gc12 h1 => zx ei27 gc12 rfl rfl rfl (zm tb 2 rfl (dn hK11 rfl (sr rfl fun K13 hK13 => zm tb 2 rfl (bs h1 fun q14 gq14 h1 => zc hb85 (impl_isType_ok gq14) rfl rfl rfl ?_)))))))
  refine zq tb rfl (dn hK13 rfl ?_)
  refine ci h1 rfl ?_ ?_ <;> clear h1
  ·intro b15 h1
   have b16 : q14 = false := by simpa using b15
   refine zr tb rfl rfl ?_
   replace h1 := Sh.some_eq h1
   subst o5
   try dsimp only [id] at h0
   replace h0 := Sh.some_eq h0
   subst r
   exact AW.ret (xr (Wk.to (L := [(4, (.bool false))]) ⟨.rfl, trivial⟩))
  ·intro b15 h1
   have b18 : q14 = true := by simpa using b15
   exact AW.skip (hK10 _ (AW.regionO rfl (zm tb 2 rfl (AO.done (xi (Sh.w (t4 + 1)) h1 (Wk.tr rfl))))))
 ·intro b9 h1
  exact AW.exit (M5 () (Sh.some_eq h1).symm _ (Wk.tr rfl))
theorem impl_ValidTypes_ok {N : Nat} {p0 : (List RDecl)} {r : Bool} (h0 : impl_ValidTypes N p0 = some r) : ACalls Try.prog 83 [(ls eRDecl p0)] [] (fun v st => v = (.bool r) ∧ st = []) := by
 unfold impl_ValidTypes at h0
 refine ai Try.func83 rfl rfl rfl rfl (zr tb rfl rfl (AW.seq fun K2 hK2 => sr rfl fun K3 hK3 => zq tb rfl (zl tb rfl rfl (zq tb rfl (dn hK3 rfl ?_)))))
 refine ci h0 rfl ?_ ?_ <;> clear h0
 ·intro b4 h0
  refine zr tb rfl rfl ?_
  replace h0 := Sh.some_eq h0
  subst r
  exact AW.ret (xr (Wk.to (L := [(2, (.bool false))]) ⟨.rfl, trivial⟩))
 ·intro b4 h0
  refine AW.skip (hK2 _ (AW.seq fun K6 hK6 => sr rfl fun K7 hK7 => zq tb rfl (zl tb rfl rfl (zq tb rfl (dn hK7 rfl ?_)))))
  obtain ⟨o9, h1, h0⟩ := Sh.cont_some h0
  have M9 : ∀ (_ : Unit), o9 = Sum.inr () → ∀ s, Wk 0 s ⟨106, envL [], []⟩ → K6 s := by
   intro _ hq s hw
   subst o9
   try dsimp only at h0
   refine hK6 _ (AW.weaken hw (zr tb rfl rfl ?_))
   replace h0 := Sh.some_eq h0
   subst r
   exact AW.ret (xr (Wk.to (L := [(2, (.bool true))]) ⟨.rfl, trivial⟩))
  refine AW.block (AW.loopF (σ := Int) (fun n v => impl_ValidTypes_L1 N p0 n v = some o9) (fun t8 => ⟨106, envL [(0, (ls eRDecl p0)), (12, (ls eRDecl p0)), (13, (i64 (Sh.len p0))), (14, (i64 t8))], []⟩) N 0 h1 (Wk.tr rfl) (fun _ hv => by rw [impl_ValidTypes_L1] at hv; cases hv) ?_)
  rintro n t8 h1
  try dsimp only at h1 ⊢
  rw [impl_ValidTypes_L1] at h1
  refine zr tb rfl rfl (AW.seq fun K12 hK12 => ?_)
  refine ci h1 rfl ?_ ?_ <;> clear h1
  ·intro b13 h1
   refine AW.skip (hK12 _ (AW.seq fun K14 hK14 => AW.block (sr rfl fun K15 hK15 => zq tb rfl (bs h1 fun c16 gc16 h1 => zx ei34 gc16 rfl rfl rfl (zq tb rfl (ao_alloc (m := 0) (st' := [⟨0, 83, 3, [[(i64 0), (i64 0), .zc]]⟩]) go0 zi83 rfl rfl (zq tb rfl (ao_str (st' := [⟨0, 83, 3, [(eRDecl c16)]⟩]) go0 ti83 rfl rfl rfl rfl rfl rfl (show 0 + 3 ≤ 3 by decide) rfl (dn hK15 rfl ?_)))))))))
   refine AW.seq fun K17 hK17 => AW.seq fun K18 hK18 => bs h1 fun o20 h2 h1 => ?_
   have M20 : ∀ (t19 : Bool), o20 = t19 → ∀ s, Wk 0 s ⟨106, envL [(0, (ls eRDecl p0)), (3, (i64 t8)), (4, (.ptr 0 0 0 0)), (12, (ls eRDecl p0)), (13, (i64 (Sh.len p0))), (14, (i64 t8)), (52, (.bool t19))], [⟨0, 83, 3, [(eRDecl c16)]⟩]⟩ → K18 s := by
    intro t19 hq s hw
    subst o20
    try dsimp only at h1
    refine hK18 _ (AW.weaken hw ?_)
    refine ci h1 rfl ?_ ?_ <;> clear h1
    ·intro b21 h1
     refine zr tb rfl rfl ?_
     replace h1 := Sh.some_eq h1
     subst o9
     try dsimp only [id] at h0
     replace h0 := Sh.some_eq h0
     subst r
     exact AW.ret (xr (Wk.d0 [(2, (.bool false))] rfl))
    ·intro b21 h1
     refine AW.skip (hK17 _ (AW.seq fun K23 hK23 => sr rfl fun K24 hK24 => zm tb 2 rfl (zl tb rfl rfl (zq tb rfl (dn hK24 rfl ?_)))))
     obtain ⟨o26, h2, h1⟩ := Sh.cont_some h1
     have M26 : ∀ (_ : Unit), o26 = Sum.inr () → ∀ s, Wk 0 s ⟨106, envL [(0, (ls eRDecl p0)), (3, (i64 t8)), (4, (.ptr 0 0 0 0)), (12, (ls eRDecl p0)), (13, (i64 (Sh.len p0))), (14, (i64 t8))], [⟨0, 83, 3, [(eRDecl c16)]⟩]⟩ → K23 s := by
      intro _ hq s hw
      subst o26
      try dsimp only at h1
      refine hK23 _ (AW.weaken hw (sr rfl fun K27 hK27 => zm tb 2 rfl (bs h1 fun l28 gl28 h1 => ao_sls (i := 0) (j := t8) go0 ei34 rfl rfl rfl (fun _ => rfl) gl28 (zl tb rfl rfl (zq tb rfl (dn hK27 rfl ?_))))))
      obtain ⟨o30, h2, h1⟩ := Sh.cont_some h1
      have M30 : ∀ (_ : Unit), o30 = Sum.inr () → ∀ s, Wk 0 s ⟨106, envL [(0, (ls eRDecl p0)), (12, (ls eRDecl p0)), (13, (i64 (Sh.len p0))), (14, (i64 t8))], []⟩ → K14 s := by
       intro _ hq s hw
       subst o30
       try dsimp only at h1
       exact hK14 _ (AW.weaken hw (AW.regionO rfl (zm tb 2 rfl (AO.done (xi (Sh.w (t8 + 1)) h1 (Wk.tr rfl))))))
      refine AW.block (AW.loopF (σ := Int) (fun n v => impl_ValidTypes_L3 c16 l28 n v = some o30) (fun t29 => ⟨106, envL [(0, (ls eRDecl p0)), (4, (.ptr 0 0 0 0)), (12, (ls eRDecl p0)), (13, (i64 (Sh.len p0))), (14, (i64 t8)), (74, (ls eRDecl l28)), (75, (i64 (Sh.len l28))), (76, (i64 t29))], [⟨0, 83, 3, [(eRDecl c16)]⟩]⟩) N 0 h2 (Wk.tr rfl) (fun _ hv => by rw [impl_ValidTypes_L3] at hv; cases hv) ?_)
      rintro n t29 h2
      try dsimp only at h2 ⊢
      rw [impl_ValidTypes_L3] at h2
      refine zr tb rfl rfl (AW.seq fun K32 hK32 => ?_)
      refine ci h2 rfl ?_ ?_ <;> clear h2
      ·intro b33 h2
       refine AW.skip (hK32 _ (AW.seq fun K34 hK34 => AW.block (sr rfl fun K35 hK35 => bs h2 fun c36 gc36 h2 => zx ei34 gc36 rfl rfl rfl (zq tb rfl (ao_alloc (m := 1) (st' := [⟨0, 83, 3, [(eRDecl c16)]⟩, ⟨0, 83, 3, [[(i64 0), (i64 0), .zc]]⟩]) go0 zi83 rfl rfl (ao_str (st' := [⟨0, 83, 3, [(eRDecl c16)]⟩, ⟨0, 83, 3, [(eRDecl c36)]⟩]) go0 ti83 rfl rfl rfl rfl rfl rfl (show 0 + 3 ≤ 3 by decide) rfl (dn hK35 rfl (AW.seq fun K37 hK37 => bs h2 fun o39 h3 h2 => ?_))))))))
       have M39 : ∀ (t38 : Bool), o39 = t38 → ∀ s, Wk 0 s ⟨106, envL [(0, (ls eRDecl p0)), (4, (.ptr 0 0 0 0)), (12, (ls eRDecl p0)), (13, (i64 (Sh.len p0))), (14, (i64 t8)), (74, (ls eRDecl l28)), (75, (i64 (Sh.len l28))), (76, (i64 t29)), (103, (.bool t38))], [⟨0, 83, 3, [(eRDecl c16)]⟩]⟩ → K37 s := by
        intro t38 hq s hw
        subst o39
        try dsimp only at h2
        refine hK37 _ (AW.weaken hw ?_)
        refine ci h2 rfl ?_ ?_ <;> clear h2
        ·intro b40 h2
         refine zr tb rfl rfl ?_
         replace h2 := Sh.some_eq h2
         subst o30
         try dsimp only [id] at h1
         replace h1 := Sh.some_eq h1
         subst o9
         try dsimp only [id] at h0
         replace h0 := Sh.some_eq h0
         subst r
         exact AW.ret (xr (Wk.d0 [(2, (.bool false))] rfl))
        ·intro b40 h2
         exact AW.skip (hK34 _ (AW.regionO rfl (zm tb 2 rfl (AO.done (xi (Sh.w (t29 + 1)) h2 (Wk.tr rfl))))))
       refine AW.regionO rfl (zm tb 2 rfl (zl tb rfl rfl (zm tb 2 rfl ?_)))
       rcases Sh.ite_some h3 with ⟨b42, h3⟩ | ⟨b42, h3⟩
       ·refine zg tb b42 rfl (zg tb b42 rfl (ao_q (v := (i64 (Sh.len c36.cons))) (go1 rfl rfl b42) rfl (aq_lens sl81 rfl) (zg tb b42 rfl (zt b42 rfl (zq tb rfl ?_)))))
        rcases Sh.ite_some h3 with ⟨b43, h3⟩ | ⟨b43, h3⟩
        ·refine zg tb b43 rfl ?_
         iterate 4 refine zg tb b43 rfl ?_
         refine zt b43 rfl (zq tb rfl ?_)
         rcases Sh.ite_some h3 with ⟨b44, h3⟩ | ⟨b44, h3⟩
         ·refine zg tb b44 rfl ?_
          iterate 4 refine zg tb b44 rfl ?_
          refine zt b44 rfl ?_
          exact AO.done (M39 (decide (c36.to = c16.to)) (Sh.some_eq h3).symm _ (Wk.permk (L := [(0, (ls eRDecl p0)), (4, (.ptr 0 0 0 0)), (12, (ls eRDecl p0)), (13, (i64 (Sh.len p0))), (14, (i64 t8)), (74, (ls eRDecl l28)), (75, (i64 (Sh.len l28))), (76, (i64 t29)), (103, (.bool (decide (c36.to = c16.to))))]) (st' := [⟨0, 83, 3, [(eRDecl c16)]⟩]) (st1 := [⟨0, 83, 3, [(eRDecl c16)]⟩]) [0] rfl .nil (by decide) rfl rfl (.raw rfl rfl .nil) ⟨.rfl, .rfl, .rfl, .rfl, .rfl, .rfl, .rfl, .rfl, .rfl, trivial⟩))
         ·refine zs b44 rfl ?_
          iterate 4 refine zs b44 rfl ?_
          refine zf b44 rfl ?_
          exact AO.done (M39 false (Sh.some_eq h3).symm _ (Wk.permk (L := [(0, (ls eRDecl p0)), (4, (.ptr 0 0 0 0)), (12, (ls eRDecl p0)), (13, (i64 (Sh.len p0))), (14, (i64 t8)), (74, (ls eRDecl l28)), (75, (i64 (Sh.len l28))), (76, (i64 t29)), (103, (.bool false))]) (st' := [⟨0, 83, 3, [(eRDecl c16)]⟩]) (st1 := [⟨0, 83, 3, [(eRDecl c16)]⟩]) [0] rfl .nil (by decide) rfl rfl (.raw rfl rfl .nil) ⟨.rfl, .rfl, .rfl, .rfl, .rfl, .rfl, .rfl, .rfl, .rfl, trivial⟩))
        ·refine zs b43 rfl ?_
         iterate 4 refine zs b43 rfl ?_
         refine zf b43 rfl (zq tb rfl ?_)
         iterate 5 refine zs rfl rfl ?_
         refine zf rfl rfl ?_
         exact AO.done (M39 false (Sh.some_eq h3).symm _ (Wk.permk (L := [(0, (ls eRDecl p0)), (4, (.ptr 0 0 0 0)), (12, (ls eRDecl p0)), (13, (i64 (Sh.len p0))), (14, (i64 t8)), (74, (ls eRDecl l28)), (75, (i64 (Sh.len l28))), (76, (i64 t29)), (103, (.bool false))]) (st' := [⟨0, 83, 3, [(eRDecl c16)]⟩]) (st1 := [⟨0, 83, 3, [(eRDecl c16)]⟩]) [0] rfl .nil (by decide) rfl rfl (.raw rfl rfl .nil) ⟨.rfl, .rfl, .rfl, .rfl, .rfl, .rfl, .rfl, .rfl, .rfl, trivial⟩))
       ·refine zs b42 rfl ?_
        iterate 3 refine zs b42 rfl ?_
        refine zf b42 rfl (zq tb rfl ?_)
        iterate 5 refine zs rfl rfl ?_
        refine zf rfl rfl (zq tb rfl ?_)
        iterate 5 refine zs rfl rfl ?_
        refine zf rfl rfl ?_
        exact AO.done (M39 false (Sh.some_eq h3).symm _ (Wk.permk (L := [(0, (ls eRDecl p0)), (4, (.ptr 0 0 0 0)), (12, (ls eRDecl p0)), (13, (i64 (Sh.len p0))), (14, (i64 t8)), (74, (ls eRDecl l28)), (75, (i64 (Sh.len l28))), (76, (i64 t29)), (103, (.bool false))]) (st' := [⟨0, 83, 3, [(eRDecl c16)]⟩]) (st1 := [⟨0, 83, 3, [(eRDecl c16)]⟩]) [0] rfl .nil (by decide) rfl rfl (.raw rfl rfl .nil) ⟨.rfl, .rfl, .rfl, .rfl, .rfl, .rfl, .rfl, .rfl, .rfl, trivial⟩))
      ·intro b33 h2
       exact AW.exit (M30 () (Sh.some_eq h2).symm _ (Wk.d0 _ rfl))
     refine AW.block (AW.loopF (σ := Int) (fun n v => impl_ValidTypes_L2 N c16 p0 n v = some o26) (fun t25 => ⟨106, envL [(0, (ls eRDecl p0)), (3, (i64 t8)), (4, (.ptr 0 0 0 0)), (12, (ls eRDecl p0)), (13, (i64 (Sh.len p0))), (14, (i64 t8)), (54, (ls eRCon c16.cons)), (55, (i64 (Sh.len c16.cons))), (56, (i64 t25))], [⟨0, 83, 3, [(eRDecl c16)]⟩]⟩) N 0 h2 (Wk.tr rfl) (fun _ hv => by rw [impl_ValidTypes_L2] at hv; cases hv) ?_)
     rintro n t25 h2
     try dsimp only at h2 ⊢
     rw [impl_ValidTypes_L2] at h2
     refine zr tb rfl rfl (AW.seq fun K46 hK46 => ?_)
     refine ci h2 rfl ?_ ?_ <;> clear h2
     ·intro b47 h2
      refine AW.skip (hK46 _ (AW.seq fun K48 hK48 => AW.block (sr rfl fun K49 hK49 => bs h2 fun c50 gc50 h2 => zx ei81 gc50 rfl rfl rfl (zq tb rfl (ao_alloc (m := 1) (st' := [⟨0, 83, 3, [(eRDecl c16)]⟩, ⟨0, 128, 1, [[.zc]]⟩]) go0 zi128 rfl rfl (ao_str (st' := [⟨0, 83, 3, [(eRDecl c16)]⟩, ⟨0, 128, 1, [(eRCon c50)]⟩]) go0 ti128 rfl rfl rfl rfl rfl rfl (show 0 + 1 ≤ 1 by decide) rfl (dn hK49 rfl (AW.seq fun K51 hK51 => bs h2 fun o53 h3 h2 => ?_))))))))
      have M53 : ∀ (t52 : Bool), o53 = t52 → ∀ s, Wk 0 s ⟨106, envL [(0, (ls eRDecl p0)), (3, (i64 t8)), (4, (.ptr 0 0 0 0)), (12, (ls eRDecl p0)), (13, (i64 (Sh.len p0))), (14, (i64 t8)), (54, (ls eRCon c16.cons)), (55, (i64 (Sh.len c16.cons))), (56, (i64 t25)), (70, (.bool t52))], [⟨0, 83, 3, [(eRDecl c16)]⟩]⟩ → K51 s := by
       intro t52 hq s hw
       subst o53
       try dsimp only at h2
       refine hK51 _ (AW.weaken hw ?_)
       refine ci h2 rfl ?_ ?_ <;> clear h2
       ·intro b54 h2
        refine zr tb rfl rfl ?_
        replace h2 := Sh.some_eq h2
        subst o26
        try dsimp only [id] at h1
        replace h1 := Sh.some_eq h1
        subst o9
        try dsimp only [id] at h0
        replace h0 := Sh.some_eq h0
        subst r
        exact AW.ret (xr (Wk.d0 [(2, (.bool false))] rfl))
       ·intro b54 h2
        exact AW.skip (hK48 _ (AW.regionO rfl (zm tb 2 rfl (AO.done (xi (Sh.w (t25 + 1)) h2 (Wk.tr rfl))))))
      refine AW.regionO rfl (zm tb 2 rfl (zl tb rfl rfl (zm tb 2 rfl ?_)))
      rcases Sh.ite_some h3 with ⟨b56, h3⟩ | ⟨b56, h3⟩
      ·refine zs b56 rfl ?_
       iterate 4 refine zs b56 rfl ?_
       refine zt b56 rfl ?_
       exact AO.done (M53 true (Sh.some_eq h3).symm _ (Wk.permk (L := [(0, (ls eRDecl p0)), (3, (i64 t8)), (4, (.ptr 0 0 0 0)), (12, (ls eRDecl p0)), (13, (i64 (Sh.len p0))), (14, (i64 t8)), (54, (ls eRCon c16.cons)), (55, (i64 (Sh.len c16.cons))), (56, (i64 t25)), (70, (.bool true))]) (st' := [⟨0, 83, 3, [(eRDecl c16)]⟩]) (st1 := [⟨0, 83, 3, [(eRDecl c16)]⟩]) [0] rfl .nil (by decide) rfl rfl (.raw rfl rfl .nil) ⟨.rfl, .rfl, .rfl, .rfl, .rfl, .rfl, .rfl, .rfl, .rfl, .rfl, trivial⟩))
      ·refine zg tb b56 rfl (zg tb b56 rfl (zg tb b56 rfl (bs h3 fun q57 gq57 h3 => zd b56 hb84 (impl_allTypes_ok gq57) rfl rfl rfl rfl (zg tb b56 rfl (zf b56 rfl ?_)))))
       exact AO.done (M53 (!q57) (Sh.some_eq h3).symm _ (Wk.permk (L := [(0, (ls eRDecl p0)), (3, (i64 t8)), (4, (.ptr 0 0 0 0)), (12, (ls eRDecl p0)), (13, (i64 (Sh.len p0))), (14, (i64 t8)), (54, (ls eRCon c16.cons)), (55, (i64 (Sh.len c16.cons))), (56, (i64 t25)), (70, (.bool (!q57)))]) (st' := [⟨0, 83, 3, [(eRDecl c16)]⟩]) (st1 := [⟨0, 83, 3, [(eRDecl c16)]⟩]) [0] rfl .nil (by decide) rfl rfl (.raw rfl rfl .nil) ⟨.rfl, .rfl, .rfl, .rfl, .rfl, .rfl, .rfl, .rfl, .rfl, .rfl, trivial⟩))
     ·intro b47 h2
      exact AW.exit (M26 () (Sh.some_eq h2).symm _ (Wk.tr rfl))
   refine AW.regionO rfl (zm tb 3 rfl (bs h2 fun q58 gq58 h2 => zc hb85 (impl_isType_ok gq58) rfl rfl rfl (zm tb 2 rfl ?_)))
   rcases Sh.ite_some h2 with ⟨b59, h2⟩ | ⟨b59, h2⟩
   ·refine zs b59 rfl ?_
    iterate 4 refine zs b59 rfl ?_
    refine zt b59 rfl (zq tb rfl ?_)
    iterate 4 refine zs rfl rfl ?_
    refine zt rfl rfl (zq tb rfl ?_)
    iterate 5 refine zs rfl rfl ?_
    iterate 8 refine zn rfl ?_
    exact zs rfl rfl (zt rfl rfl (AO.done (M20 true (Sh.some_eq h2).symm _ (Wk.tr rfl))))
   ·refine zg tb b59 rfl (zg tb b59 rfl (zg tb b59 rfl (bs h2 fun q60 gq60 h2 => zd b59 hb85 (impl_isType_ok gq60) rfl rfl rfl rfl (zg tb b59 rfl (zf b59 rfl (zq tb rfl ?_))))))
    rcases Sh.ite_some h2 with ⟨b61, h2⟩ | ⟨b61, h2⟩
    ·refine zs b61 rfl ?_
     iterate 3 refine zs b61 rfl ?_
     refine zt b61 rfl (zq tb rfl ?_)
     iterate 5 refine zs rfl rfl ?_
     iterate 8 refine zn rfl ?_
     exact zs rfl rfl (zt rfl rfl (AO.done (M20 true (Sh.some_eq h2).symm _ (Wk.tr rfl))))
    ·refine zg tb b61 rfl (zg tb b61 rfl (ao_q (v := (i64 (Sh.len c16.cons))) (go1 rfl rfl b61) rfl (aq_lens sl81 rfl) (zg tb b61 rfl (zf b61 rfl (zq tb rfl ?_)))))
     rcases Sh.ite_some h2 with ⟨b62, h2⟩ | ⟨b62, h2⟩
     ·refine zs b62 rfl ?_
      iterate 4 refine zs b62 rfl ?_
      iterate 8 refine zn rfl ?_
      exact zs b62 rfl (zt b62 rfl (AO.done (M20 true (Sh.some_eq h2).symm _ (Wk.tr rfl))))
     ·refine zg tb b62 rfl (zg tb b62 rfl (ao_q (v := (i64 (Sh.len c16.cons))) (go1 rfl rfl b62) rfl (aq_lens sl81 rfl) (zg tb b62 rfl (zg tb b62 rfl ?_))))
      rcases Sh.ite_some h2 with ⟨b63, h2⟩ | ⟨b63, h2⟩
      ·refine zg tb b63 rfl ?_
       iterate 3 refine zg tb b63 rfl ?_
       rcases Sh.ite_some h2 with ⟨b64, h2⟩ | ⟨b64, h2⟩
       ·exact zs b64 rfl (zs b64 rfl (zs b64 rfl (ao_q (v := (.bool true)) (go1 rfl rfl b63) rfl (aq_pkt rfl b64 rfl) (ao_q (v := (.bool true)) (go1 rfl rfl b62) rfl (aq_pkt rfl b63 rfl) (zf b62 rfl (AO.done (M20 true (Sh.some_eq h2).symm _ (Wk.tr rfl))))))))
       ·exact zg tb b64 rfl (zg tb b64 rfl (zg tb b64 rfl (ao_q (v := (.bool (!decide (c16.to = 0)))) (go1 rfl rfl b63) rfl (aq_pkf rfl b64 rfl) (ao_q (v := (.bool (!decide (c16.to = 0)))) (go1 rfl rfl b62) rfl (aq_pkt rfl b63 rfl) (zf b62 rfl (AO.done (M20 (!decide (c16.to = 0)) (Sh.some_eq h2).symm _ (Wk.tr rfl))))))))
      ·refine zs b63 rfl ?_
       iterate 3 refine zs b63 rfl ?_
       iterate 3 refine zn rfl ?_
       exact zs b63 rfl (ao_q (v := (.bool false)) (go1 rfl rfl b62) rfl (aq_pkf rfl b63 rfl) (zf b62 rfl (AO.done (M20 false (Sh.some_eq h2).symm _ (Wk.tr rfl)))))
  ·intro b13 h1
   exact AW.exit (M9 () (Sh.some_eq h1).symm _ (Wk.tr rfl))
theorem impl_validSigs_ok {N : Nat} {p0 : (List RDecl)} {p1 : (List RSignature)} {r : Bool} (h0 : impl_validSigs N p0 p1 = some r) : ACalls Try.prog 63 [(ls eRDecl p0), (ls eRSignature p1)] [] (fun v st => v = (.bool r) ∧ st = []) := by
 unfold impl_validSigs at h0
 refine ai Try.func63 rfl rfl rfl rfl (zr tb rfl rfl (AW.seq fun K2 hK2 => AW.seq fun K3 hK3 => bs h0 fun o5 h1 h0 => ?_))
 have M5 : ∀ (t4 : Bool), o5 = t4 → ∀ s, Wk 0 s ⟨102, envL [(0, (ls eRDecl p0)), (1, (ls eRSignature p1)), (36, (.bool t4))], []⟩ → K3 s := by
  intro t4 hq s hw
  subst o5
  try dsimp only at h0
  refine hK3 _ (AW.weaken hw ?_)
  refine ci h0 rfl ?_ ?_ <;> clear h0
  ·intro b6 h0
   refine zr tb rfl rfl ?_
   replace h0 := Sh.some_eq h0
   subst r
   exact AW.ret (xr (Wk.to (L := [(4, (.bool false))]) ⟨.rfl, trivial⟩))
  ·intro b6 h0
   refine AW.skip (hK2 _ (AW.seq fun K8 hK8 => sr rfl fun K9 hK9 => zq tb rfl (zl tb rfl rfl (zq tb rfl (dn hK9 rfl ?_)))))
   obtain ⟨o11, h1, h0⟩ := Sh.cont_some h0
   have M11 : ∀ (_ : Unit), o11 = Sum.inr () → ∀ s, Wk 0 s ⟨102, envL [], []⟩ → K8 s := by
    intro _ hq s hw
    subst o11
    try dsimp only at h0
    refine hK8 _ (AW.weaken hw (zr tb rfl rfl ?_))
    replace h0 := Sh.some_eq h0
    subst r
    exact AW.ret (xr (Wk.to (L := [(4, (.bool true))]) ⟨.rfl, trivial⟩))
   refine AW.block (AW.loopF (σ := Int) (fun n v => impl_validSigs_L1 N p0 p1 n v = some o11) (fun t10 => ⟨102, envL [(0, (ls eRDecl p0)), (37, (ls eRSignature p1)), (38, (i64 (Sh.len p1))), (39, (i64 t10))], []⟩) N 0 h1 (Wk.tr rfl) (fun _ hv => by rw [impl_validSigs_L1] at hv; cases hv) ?_)
   rintro n t10 h1
   try dsimp only at h1 ⊢
   rw [impl_validSigs_L1] at h1
   refine zr tb rfl rfl (AW.seq fun K14 hK14 => ?_)
   refine ci h1 rfl ?_ ?_ <;> clear h1
   ·intro b15 h1
    refine AW.skip (hK14 _ (AW.seq fun K16 hK16 => AW.block (sr rfl fun K17 hK17 => bs h1 fun c18 gc18 h1 => zx ei86 gc18 rfl rfl rfl (zq tb rfl (ao_alloc (m := 0) (st' := [⟨0, 118, 3, [[.zc, .zc, (i64 0)]]⟩]) go0 zi118 rfl rfl (ao_str (st' := [⟨0, 118, 3, [[(ls eI c18.params), (ls eI c18.lent), (i64 c18.result)]]⟩]) go0 ti118 rfl rfl rfl rfl rfl rfl (show 0 + 3 ≤ 3 by decide) rfl (dn hK17 rfl (AW.seq fun K19 hK19 => AW.seq fun K20 hK20 => ?_))))))))
    refine bs h1 fun o22 h2 h1 => ?_
    have M22 : ∀ (t21 : Bool), o22 = t21 → ∀ s, Wk 0 s ⟨102, envL [(0, (ls eRDecl p0)), (6, (.ptr 0 0 0 0)), (37, (ls eRSignature p1)), (38, (i64 (Sh.len p1))), (39, (i64 t10)), (60, (.bool t21))], [⟨0, 118, 3, [[(ls eI c18.params), (ls eI c18.lent), (i64 c18.result)]]⟩]⟩ → K20 s := by
     intro t21 hq s hw
     subst o22
     try dsimp only at h1
     refine hK20 _ (AW.weaken hw ?_)
     refine ci h1 rfl ?_ ?_ <;> clear h1
     ·intro b23 h1
      refine zr tb rfl rfl ?_
      replace h1 := Sh.some_eq h1
      subst o11
      try dsimp only [id] at h0
      replace h0 := Sh.some_eq h0
      subst r
      exact AW.ret (xr (Wk.d0 [(4, (.bool false))] rfl))
     ·intro b23 h1
      refine AW.skip (hK19 _ (sr rfl fun K25 hK25 => zm tb 2 rfl (zl tb rfl rfl (zq tb rfl (dn hK25 rfl ?_)))))
      obtain ⟨o27, h2, h1⟩ := Sh.cont_some h1
      have M27 : ∀ (_ : Unit), o27 = Sum.inr () → ∀ s, Wk 0 s ⟨102, envL [(0, (ls eRDecl p0)), (37, (ls eRSignature p1)), (38, (i64 (Sh.len p1))), (39, (i64 t10))], []⟩ → K16 s := by
       intro _ hq s hw
       subst o27
       try dsimp only at h1
       exact hK16 _ (AW.weaken hw (AW.regionO rfl (zm tb 2 rfl (AO.done (xi (Sh.w (t10 + 1)) h1 (Wk.tr rfl))))))
      refine AW.block (AW.loopF (σ := Int) (fun n v => impl_validSigs_L2 c18 n v = some o27) (fun t26 => ⟨102, envL [(0, (ls eRDecl p0)), (6, (.ptr 0 0 0 0)), (37, (ls eRSignature p1)), (38, (i64 (Sh.len p1))), (39, (i64 t10)), (62, (ls eI c18.lent)), (63, (i64 (Sh.len c18.lent))), (64, (i64 t26))], [⟨0, 118, 3, [[(ls eI c18.params), (ls eI c18.lent), (i64 c18.result)]]⟩]⟩) N 0 h2 (Wk.tr rfl) (fun _ hv => by rw [impl_validSigs_L2] at hv; cases hv) ?_)
      rintro n t26 h2
      try dsimp only at h2 ⊢
      rw [impl_validSigs_L2] at h2
      refine zr tb rfl rfl (AW.seq fun K29 hK29 => ?_)
      refine ci h2 rfl ?_ ?_ <;> clear h2
      ·intro b30 h2
       refine AW.skip (hK29 _ (AW.seq fun K31 hK31 => AW.block (sr rfl fun K32 hK32 => zq tb rfl (bs h2 fun c33 gc33 h2 => zx ei27 gc33 rfl rfl rfl (zm tb 3 rfl (dn hK32 rfl (AW.seq fun K34 hK34 => bs h2 fun o36 h3 h2 => ?_)))))))
       have M36 : ∀ (t35 : Bool), o36 = t35 → ∀ s, Wk 0 s ⟨102, envL [(0, (ls eRDecl p0)), (6, (.ptr 0 0 0 0)), (37, (ls eRSignature p1)), (38, (i64 (Sh.len p1))), (39, (i64 t10)), (62, (ls eI c18.lent)), (63, (i64 (Sh.len c18.lent))), (64, (i64 t26)), (99, (.bool t35))], [⟨0, 118, 3, [[(ls eI c18.params), (ls eI c18.lent), (i64 c18.result)]]⟩]⟩ → K34 s := by
        intro t35 hq s hw
        subst o36
        try dsimp only at h2
        refine hK34 _ (AW.weaken hw ?_)
        refine ci h2 rfl ?_ ?_ <;> clear h2
        ·intro b37 h2
         refine zr tb rfl rfl ?_
         replace h2 := Sh.some_eq h2
         subst o27
         try dsimp only [id] at h1
         replace h1 := Sh.some_eq h1
         subst o11
         try dsimp only [id] at h0
         replace h0 := Sh.some_eq h0
         subst r
         exact AW.ret (xr (Wk.d0 [(4, (.bool false))] rfl))
        ·intro b37 h2
         exact AW.skip (hK31 _ (AW.regionO rfl (zm tb 2 rfl (AO.done (xi (Sh.w (t26 + 1)) h2 (Wk.tr rfl))))))
       refine AW.regionO rfl (zm tb 3 rfl ?_)
       rcases Sh.ite_some h3 with ⟨b39, h3⟩ | ⟨b39, h3⟩
       ·refine zs b39 rfl ?_
        iterate 4 refine zs b39 rfl ?_
        refine zt b39 rfl (zq tb rfl ?_)
        iterate 6 refine zs rfl rfl ?_
        refine zt rfl rfl (zq tb rfl ?_)
        iterate 3 refine zs rfl rfl ?_
        iterate 8 refine zn rfl ?_
        exact zs rfl rfl (zt rfl rfl (AO.done (M36 true (Sh.some_eq h3).symm _ (Wk.tr rfl))))
       ·refine zg tb b39 rfl (zg tb b39 rfl (zg tb b39 rfl (ao_q (v := (i64 (Sh.len c18.params))) (go1 rfl rfl b39) rfl (aq_lens sl27 rfl) (zg tb b39 rfl (zf b39 rfl (zq tb rfl ?_))))))
        rcases Sh.ite_some h3 with ⟨b40, h3⟩ | ⟨b40, h3⟩
        ·refine zs b40 rfl ?_
         iterate 5 refine zs b40 rfl ?_
         refine zt b40 rfl (zq tb rfl ?_)
         iterate 3 refine zs rfl rfl ?_
         iterate 8 refine zn rfl ?_
         exact zs rfl rfl (zt rfl rfl (AO.done (M36 true (Sh.some_eq h3).symm _ (Wk.tr rfl))))
        ·refine zg tb b40 rfl (zg tb b40 rfl (zg tb b40 rfl (bs h3 fun c41 gc41 h3 => ao_q (v := (.iptr (eI c41) 0)) (go1 rfl rfl b40) rfl (aq_ixs ei27 rfl rfl gc41 rfl) (zg tb b40 rfl (zg tb b40 rfl (zf b40 rfl (zq tb rfl ?_)))))))
         rcases Sh.ite_some h3 with ⟨b42, h3⟩ | ⟨b42, h3⟩
         ·refine zs b42 rfl (zs b42 rfl (zs b42 rfl ?_))
          iterate 8 refine zn rfl ?_
          exact zs b42 rfl (zt b42 rfl (AO.done (M36 true (Sh.some_eq h3).symm _ (Wk.tr rfl))))
         ·refine zg tb b42 rfl (zg tb b42 rfl (zg tb b42 rfl ?_))
          rcases Sh.ite_some h3 with ⟨b43, h3⟩ | ⟨b43, h3⟩
          ·refine zg tb b43 rfl ?_
           iterate 4 refine zg tb b43 rfl ?_
           exact bs h3 fun c44 gc44 h3 => ao_q (v := (.iptr (eI c44) 0)) (go1 rfl rfl b43) rfl (aq_ixs ei27 rfl rfl gc44 rfl) (zg tb b43 rfl (zg tb b43 rfl (ao_q (v := (.bool (decide (c33 ≤ c44)))) (go1 rfl rfl b42) rfl (aq_pkt rfl b43 rfl) (zf b42 rfl (AO.done (M36 (decide (c33 ≤ c44)) (Sh.some_eq h3).symm _ (Wk.tr rfl)))))))
          ·refine zs b43 rfl ?_
           iterate 7 refine zs b43 rfl ?_
           exact ao_q (v := (.bool false)) (go1 rfl rfl b42) rfl (aq_pkf rfl b43 rfl) (zf b42 rfl (AO.done (M36 false (Sh.some_eq h3).symm _ (Wk.tr rfl))))
      ·intro b30 h2
       exact AW.exit (M27 () (Sh.some_eq h2).symm _ (Wk.d0 _ rfl))
    refine AW.regionO rfl (zm tb 2 rfl (zl tb rfl rfl (zm tb 2 rfl ?_)))
    rcases Sh.ite_some h2 with ⟨b45, h2⟩ | ⟨b45, h2⟩
    ·refine zs b45 rfl ?_
     iterate 4 refine zs b45 rfl ?_
     refine zt b45 rfl (zq tb rfl ?_)
     iterate 5 refine zs rfl rfl ?_
     exact zt rfl rfl (AO.done (M22 true (Sh.some_eq h2).symm _ (Wk.tr rfl)))
    ·refine zg tb b45 rfl (zg tb b45 rfl (zg tb b45 rfl (bs h2 fun q46 gq46 h2 => zd b45 hb84 (impl_allTypes_ok gq46) rfl rfl rfl rfl (zg tb b45 rfl (zf b45 rfl (zq tb rfl ?_))))))
     rcases Sh.ite_some h2 with ⟨b47, h2⟩ | ⟨b47, h2⟩
     ·refine zs b47 rfl ?_
      iterate 4 refine zs b47 rfl ?_
      exact zt b47 rfl (AO.done (M22 true (Sh.some_eq h2).symm _ (Wk.tr rfl)))
     ·exact zg tb b47 rfl (zg tb b47 rfl (zg tb b47 rfl (bs h2 fun q48 gq48 h2 => zd b47 hb85 (impl_isType_ok gq48) rfl rfl rfl rfl (zg tb b47 rfl (zf b47 rfl (AO.done (M22 (!q48) (Sh.some_eq h2).symm _ (Wk.tr rfl))))))))
   ·intro b15 h1
    exact AW.exit (M11 () (Sh.some_eq h1).symm _ (Wk.tr rfl))
 refine AW.regionO rfl (zq tb rfl (bs h1 fun q49 gq49 h1 => zc hb83 (impl_ValidTypes_ok gq49) rfl rfl rfl (zm tb 2 rfl ?_)))
 rcases Sh.ite_some h1 with ⟨b50, h1⟩ | ⟨b50, h1⟩
 ·refine zs b50 rfl (zs b50 rfl (zs b50 rfl (zt b50 rfl (zq tb rfl ?_))))
  iterate 3 refine zs rfl rfl ?_
  refine zt rfl rfl (zq tb rfl ?_)
  iterate 6 refine zs rfl rfl ?_
  refine zt rfl rfl (zq tb rfl ?_)
  iterate 5 refine zs rfl rfl ?_
  exact zt rfl rfl (AO.done (M5 true (Sh.some_eq h1).symm _ (Wk.tr rfl)))
 ·refine zg tb b50 rfl (ao_q (v := (i64 (Sh.len p1))) (go1 rfl rfl b50) rfl (aq_lens sl86 rfl) (zg tb b50 rfl (zf b50 rfl (zq tb rfl ?_))))
  rcases Sh.ite_some h1 with ⟨b51, h1⟩ | ⟨b51, h1⟩
  ·refine zs b51 rfl (zs b51 rfl (zs b51 rfl (zt b51 rfl (zq tb rfl ?_))))
   iterate 6 refine zs rfl rfl ?_
   refine zt rfl rfl (zq tb rfl ?_)
   iterate 5 refine zs rfl rfl ?_
   exact zt rfl rfl (AO.done (M5 true (Sh.some_eq h1).symm _ (Wk.tr rfl)))
  ·refine zg tb b51 rfl (ao_q (v := (i64 (Sh.len p1))) (go1 rfl rfl b51) rfl (aq_lens sl86 rfl) (zg tb b51 rfl (zf b51 rfl (zq tb rfl ?_))))
   rcases Sh.ite_some h1 with ⟨b52, h1⟩ | ⟨b52, h1⟩
   ·refine zs b52 rfl ?_
    iterate 5 refine zs b52 rfl ?_
    refine zt b52 rfl (zq tb rfl ?_)
    iterate 5 refine zs rfl rfl ?_
    exact zt rfl rfl (AO.done (M5 true (Sh.some_eq h1).symm _ (Wk.tr rfl)))
   ·refine zg tb b52 rfl (bs h1 fun c53 gc53 h1 => ao_q (v := (.iptr (eRSignature c53) 0)) (go1 rfl rfl b52) rfl (aq_ixs ei86 rfl rfl gc53 rfl) (zg tb b52 rfl (zg tb b52 rfl (ao_q (v := (i64 (Sh.len c53.params))) (go1 rfl rfl b52) rfl (aq_lens sl27 rfl) (zg tb b52 rfl (zf b52 rfl (zq tb rfl ?_)))))))
    rcases Sh.ite_some h1 with ⟨b54, h1⟩ | ⟨b54, h1⟩
    ·refine zs b54 rfl ?_
     iterate 4 refine zs b54 rfl ?_
     exact zt b54 rfl (AO.done (M5 true (Sh.some_eq h1).symm _ (Wk.tr rfl)))
    ·refine zg tb b54 rfl (ao_q (v := (.iptr (eRSignature c53) 0)) (go1 rfl rfl b54) rfl (aq_ixs ei86 rfl rfl gc53 rfl) ?_)
     iterate 3 refine zg tb b54 rfl ?_
     exact zf b54 rfl (AO.done (M5 (!decide (c53.result = 0)) (Sh.some_eq h1).symm _ (Wk.tr rfl)))
theorem impl_imageSigs_ok {N : Nat} {p0 : RImage} {r : RSignatures × Bool} (h0 : impl_imageSigs N p0 = some r) : ACalls Try.prog 43 [(.agg (eRImage p0))] [] (fun v st => v = (.tup [(.agg (eRSignatures r.1)), (.bool r.2)]) ∧ st = []) := by
 unfold impl_imageSigs at h0
 refine ACalls.flat rfl (ai Try.func43 rfl rfl rfl rfl (sr rfl fun K1 hK1 => ao_box (m := 0) (st' := [⟨0, 37, 2, [(eRImage p0)]⟩]) go0 rfl rfl rfl rfl rfl (ao_alloc (m := 1) (st' := [⟨0, 37, 2, [(eRImage p0)]⟩, ⟨0, 88, 2, [[.zc, .zc]]⟩]) go0 zi88 rfl rfl (zq tb rfl (dn hK1 rfl (AW.seq fun K2 hK2 => sr rfl fun K3 hK3 => zm tb 2 rfl (zl tb rfl rfl (zq tb rfl ?_))))))))
 refine dn hK3 rfl ?_
 refine ci h0 rfl ?_ ?_ <;> clear h0
 ·intro b4 h0
  refine sr rfl fun K5 hK5 => zz (.agg [.zc, .zc]) (aq_bd ai88 bi88 zi88 rfl rfl) rfl (ao_str (st' := [⟨0, 37, 2, [(eRImage p0)]⟩, ⟨0, 88, 2, [[.zc, .zc]]⟩]) go0 ti88 rfl rfl rfl rfl rfl rfl (show 0 + 2 ≤ 2 by decide) rfl (zq tb rfl (dn hK5 rfl ?_)))
  replace h0 := Sh.some_eq h0
  subst r
  exact AW.ret (Exists.intro _ (And.intro ((((Wk.cellLe (id := 1) (cs := [.zc, .zc]) (cs' := [(.sl (List.map eRDecl [])), .zc]) (st' := [⟨0, 37, 2, [(eRImage p0)]⟩, ⟨0, 88, 2, [[(.sl (List.map eRDecl [])), .zc]]⟩]) rfl ⟨le.zc, le.rfl, trivial⟩ rfl rfl).trans (Wk.cellLe (id := 1) (cs := [(.sl (List.map eRDecl [])), .zc]) (cs' := [(.sl (List.map eRDecl [])), (.sl (List.map eRSignature []))]) (st' := [⟨0, 37, 2, [(eRImage p0)]⟩, ⟨0, 88, 2, [[(.sl (List.map eRDecl [])), (.sl (List.map eRSignature []))]]⟩]) rfl ⟨le.rfl, le.zc, trivial⟩ rfl rfl)).trans (Wk.permk (L := [(2, (.ptr 0 0 0 0)), (3, (.bool false))]) (st' := [⟨0, 88, 2, [[(.sl (List.map eRDecl [])), (.sl (List.map eRSignature []))]]⟩]) (st1 := [⟨0, 88, 2, [[(.sl (List.map eRDecl [])), (.sl (List.map eRSignature []))]]⟩]) [1] rfl .nil (by decide) rfl rfl (.raw rfl rfl .nil) ⟨.rfl, .rfl, trivial⟩)).trans (Wk.to (L := [(2, (.ptr 0 0 0 0)), (3, (.bool false))]) ⟨.rfl, .rfl, trivial⟩)) (aq_ldpa (x := .tmp 2) (off := 0) (cs := [(.sl (List.map eRDecl [])), (.sl (List.map eRSignature []))]) (vs := [(.sl (List.map eRDecl [])), (.sl (List.map eRSignature []))]) ti88 rfl rfl rfl (show 0 + 2 ≤ 2 by decide) rfl _ rfl)))
 ·intro b4 h0
  refine AW.skip (hK2 _ (sr rfl fun K6 hK6 => zm tb 2 rfl (zz (.agg [(ls eRDecl p0.decls), .zc]) (aq_bd ai88 bi88 zi88 rfl rfl) rfl (ao_alloc (m := 2) (st' := [⟨0, 37, 2, [(eRImage p0)]⟩, ⟨0, 88, 2, [[.zc, .zc]]⟩, ⟨0, 88, 2, [[.zc, .zc]]⟩]) go0 zi88 rfl rfl (ao_str (st' := [⟨0, 37, 2, [(eRImage p0)]⟩, ⟨0, 88, 2, [[.zc, .zc]]⟩, ⟨0, 88, 2, [[(ls eRDecl p0.decls), .zc]]⟩]) go0 ti88 rfl rfl rfl rfl rfl rfl (show 0 + 2 ≤ 2 by decide) rfl (dn hK6 rfl (AW.seq fun K7 hK7 => sr rfl fun K8 hK8 => zm tb 2 rfl (zl tb rfl rfl (zq tb rfl ?_)))))))))
  refine dn hK8 rfl (bs h0 fun o12 h1 h0 => ?_)
  have M12 : ∀ (l11 : (List RSignature)), o12 = l11 → ∀ s, Wk 0 s ⟨41, envL [(1, (.ptr 0 0 0 0)), (2, (.ptr 1 0 0 0)), (4, (.ptr 2 0 0 0))], [⟨0, 37, 2, [(eRImage p0)]⟩, ⟨0, 88, 2, [[.zc, .zc]]⟩, ⟨0, 88, 2, [[(ls eRDecl p0.decls), (ow 3 0 l11)]]⟩, (ro 0 118 3 eRSignature l11)]⟩ → K7 s := by
   intro l11 hq s hw
   subst o12
   try dsimp only at h0
   refine hK7 _ (AW.weaken hw (AW.seq fun K13 hK13 => ?_))
   refine AW.drawTailO 6 (by kernel_rfl) (by kernel_rfl) (by rfl) ?_
   iterate 5 refine yq tb rfl ?_
   refine bs h0 fun q14 gq14 h0 => d_callb (v' := (.bool q14)) go0 hb63 (impl_validSigs_ok gq14) rfl (.val rfl (.own rfl rfl (fun _ => rfl) .nil)) rfl rfl (d_done (AO.weaken (Wk.frz (L := [(2, (.ptr 1 0 0 0)), (35, (.agg [(ls eRDecl p0.decls), (ls eRSignature l11)])), (40, (.bool q14))]) (st' := [⟨0, 37, 2, [(eRImage p0)]⟩, ⟨0, 88, 2, [[.zc, .zc]]⟩, ⟨0, 88, 2, [[(ls eRDecl p0.decls), (ow 3 0 l11)]]⟩, ⟨1, 118, 3, []⟩]) (id := 3) rfl (show 0 ≤ 3 by decide) (pure_map fun _ => rfl) ⟨.rfl, (.agg ⟨.rfl, (.frz1 rfl), trivial⟩), .rfl, trivial⟩ rfl) (ao_str (st' := [⟨0, 37, 2, [(eRImage p0)]⟩, ⟨0, 88, 2, [[(ls eRDecl p0.decls), (ls eRSignature l11)]]⟩, ⟨0, 88, 2, [[(ls eRDecl p0.decls), (ow 3 0 l11)]]⟩, ⟨1, 118, 3, []⟩]) go0 ti88 rfl rfl rfl rfl rfl rfl (show 0 + 2 ≤ 2 by decide) rfl (zq tb rfl (dn hK13 rfl ?_)))))
   replace h0 := Sh.some_eq h0
   subst r
   exact AW.ret (Exists.intro _ (And.intro ((Wk.permk (L := [(2, (.ptr 0 0 0 0)), (3, (.bool q14))]) (st' := [⟨0, 88, 2, [[(ls eRDecl p0.decls), (ls eRSignature l11)]]⟩]) (st1 := [⟨0, 88, 2, [[(ls eRDecl p0.decls), (ls eRSignature l11)]]⟩]) [1] rfl .nil (by decide) rfl rfl (.raw rfl rfl .nil) ⟨.rfl, .rfl, trivial⟩).trans (Wk.to (L := [(2, (.ptr 0 0 0 0)), (3, (.bool q14))]) ⟨.rfl, .rfl, trivial⟩)) (aq_ldpa (x := .tmp 2) (off := 0) (cs := [(ls eRDecl p0.decls), (ls eRSignature l11)]) (vs := [(ls eRDecl p0.decls), (ls eRSignature l11)]) ti88 rfl rfl rfl (show 0 + 2 ≤ 2 by decide) rfl _ rfl)))
  refine AW.block (AW.loopF (σ := Int × (List RSignature)) (fun n v => impl_imageSigs_L1 p0 n v.1 v.2 = some o12) (fun (t9, l10) => ⟨41, envL [(1, (.ptr 0 0 0 0)), (2, (.ptr 1 0 0 0)), (4, (.ptr 2 0 0 0)), (16, (ls eRProc p0.procs)), (17, (i64 (Sh.len p0.procs))), (18, (i64 t9))], [⟨0, 37, 2, [(eRImage p0)]⟩, ⟨0, 88, 2, [[.zc, .zc]]⟩, ⟨0, 88, 2, [[(ls eRDecl p0.decls), (ow 3 0 l10)]]⟩, (ro 0 118 3 eRSignature l10)]⟩) N (0, []) h1 (by refine Wk.trans (Wk.adoptC (id := 2) (st' := [⟨0, 37, 2, [(eRImage p0)]⟩, ⟨0, 88, 2, [[.zc, .zc]]⟩, ⟨0, 88, 2, [[(ls eRDecl p0.decls), (.own 3 0 (List.length ([] : List RSignature)))]]⟩, (ro 0 118 3 eRSignature ([] : List RSignature))]) (j := 1) rfl rfl 118 (size' := 3) (by decide) rfl rfl rfl rfl) ?_; exact Wk.tr rfl) (fun _ hv => by rw [impl_imageSigs_L1] at hv; cases hv) ?_)
  rintro n ⟨t9, l10⟩ h1
  try dsimp only at h1 ⊢
  rw [impl_imageSigs_L1] at h1
  refine zr tb rfl rfl (AW.seq fun K16 hK16 => ?_)
  refine ci h1 rfl ?_ ?_ <;> clear h1
  ·intro b17 h1
   refine AW.skip (hK16 _ (AW.seq fun K18 hK18 => AW.block (sr rfl fun K19 hK19 => bs h1 fun c20 gc20 h1 => zx ei35 gc20 rfl rfl rfl (zq tb rfl (ao_alloc (m := 4) (st' := [⟨0, 37, 2, [(eRImage p0)]⟩, ⟨0, 88, 2, [[.zc, .zc]]⟩, ⟨0, 88, 2, [[(ls eRDecl p0.decls), (ow 3 0 l10)]]⟩, (ro 0 118 3 eRSignature l10), ⟨0, 77, 5, [[.zc, .zc, (i64 0), (i64 0), .zc]]⟩]) go0 zi77 rfl rfl (ao_str (st' := [⟨0, 37, 2, [(eRImage p0)]⟩, ⟨0, 88, 2, [[.zc, .zc]]⟩, ⟨0, 88, 2, [[(ls eRDecl p0.decls), (ow 3 0 l10)]]⟩, (ro 0 118 3 eRSignature l10), ⟨0, 77, 5, [(eRProc c20)]⟩]) go0 ti77 rfl rfl rfl rfl rfl rfl (show 0 + 5 ≤ 5 by decide) rfl (dn hK19 rfl (AW.regionO rfl (zm tb 8 rfl ?_)))))))))
   refine zz (.agg [(ls eI c20.params), (ls eI c20.lent), (i64 c20.result)]) (aq_bd ai118 bi118 zi118 rfl rfl) rfl ?_
   refine ao_bs (m := 5) (st' := [⟨0, 37, 2, [(eRImage p0)]⟩, ⟨0, 88, 2, [[.zc, .zc]]⟩, ⟨0, 88, 2, [[(ls eRDecl p0.decls), (ow 3 0 l10)]]⟩, (ro 0 118 3 eRSignature l10), ⟨0, 77, 5, [(eRProc c20)]⟩, (ro 0 118 3 eRSignature [(RSignature.mk c20.params c20.lent c20.result)])]) (l := [(RSignature.mk c20.params c20.lent c20.result)]) (enc := eRSignature) go0 ei86 (by decide) rfl rfl rfl rfl rfl rfl ?_
   refine bs h1 fun l21 gl21 h1 => ao_apo (st' := [⟨0, 37, 2, [(eRImage p0)]⟩, ⟨0, 88, 2, [[.zc, .zc]]⟩, ⟨0, 88, 2, [[(ls eRDecl p0.decls), (ow 3 0 l10)]]⟩, (ro 1 118 3 eRSignature l21), ⟨0, 77, 5, [(eRProc c20)]⟩, (ro 0 118 3 eRSignature [(RSignature.mk c20.params c20.lent c20.result)])]) (l2 := [(RSignature.mk c20.params c20.lent c20.result)]) go0 ei86 rfl rfl rfl rfl (el_o rfl rfl) (fun _ => rfl) gl21 rfl (zq tb rfl (ao_str (st' := [⟨0, 37, 2, [(eRImage p0)]⟩, ⟨0, 88, 2, [[.zc, .zc]]⟩, ⟨0, 88, 2, [[(ls eRDecl p0.decls), (ow 3 1 l21)]]⟩, (ro 1 118 3 eRSignature l21), ⟨0, 77, 5, [(eRProc c20)]⟩, (ro 0 118 3 eRSignature [(RSignature.mk c20.params c20.lent c20.result)])]) go0 ti86 rfl rfl rfl rfl rfl rfl (show 1 + 1 ≤ 2 by decide) rfl (dn hK18 rfl (AW.regionO rfl (zm tb 2 rfl ?_)))))
   exact AO.done (xi (Sh.w (t9 + 1), l21) h1 (by refine Wk.trans (Wk.rg (L := [(1, (.ptr 0 0 0 0)), (2, (.ptr 1 0 0 0)), (4, (.ptr 2 0 0 0)), (16, (ls eRProc p0.procs)), (17, (i64 (Sh.len p0.procs))), (18, (i64 (Sh.w (t9 + 1))))]) (st' := [⟨0, 37, 2, [(eRImage p0)]⟩, ⟨0, 88, 2, [[.zc, .zc]]⟩, ⟨0, 88, 2, [[(ls eRDecl p0.decls), (ow 3 0 l21)]]⟩, (ro 0 118 3 eRSignature l21), ⟨0, 77, 5, [(eRProc c20)]⟩, (ro 0 118 3 eRSignature [(RSignature.mk c20.params c20.lent c20.result)])]) (.raw rfl rfl (.raw rfl rfl (.raw rfl rfl (.pure (pure_map fun _ => rfl) (.raw rfl rfl (.pure (pure_map fun _ => rfl) .nil)))))) ⟨.rfl, .rfl, .rfl, .rfl, .rfl, .rfl, trivial⟩) ?_; exact Wk.permk (L := [(1, (.ptr 0 0 0 0)), (2, (.ptr 1 0 0 0)), (4, (.ptr 2 0 0 0)), (16, (ls eRProc p0.procs)), (17, (i64 (Sh.len p0.procs))), (18, (i64 (Sh.w (t9 + 1))))]) (st' := [⟨0, 37, 2, [(eRImage p0)]⟩, ⟨0, 88, 2, [[.zc, .zc]]⟩, ⟨0, 88, 2, [[(ls eRDecl p0.decls), (ow 3 0 l21)]]⟩, (ro 0 118 3 eRSignature l21)]) (st1 := [⟨0, 37, 2, [(eRImage p0)]⟩, ⟨0, 88, 2, [[.zc, .zc]]⟩, ⟨0, 88, 2, [[(ls eRDecl p0.decls), (ow 3 0 l21)]]⟩, (ro 0 118 3 eRSignature l21)]) [0, 1, 2, 3] rfl .nil (by decide) rfl rfl (.raw rfl rfl (.raw rfl rfl (.raw rfl rfl (.pure (pure_map fun _ => rfl) .nil)))) ⟨.rfl, .rfl, .rfl, .rfl, .rfl, .rfl, trivial⟩))
  ·intro b17 h1
   exact AW.exit (M12 l10 (Sh.some_eq h1).symm _ (Wk.tr rfl))
theorem impl_setsRegister_ok {p0 : Int} {r : Bool} (h0 : impl_setsRegister p0 = some r) : ACalls Try.prog 64 [(i64 p0)] [] (fun v st => v = (.bool r) ∧ st = []) := by
 unfold impl_setsRegister at h0
 refine ai Try.func64 rfl rfl rfl rfl (zr tb rfl rfl (AW.seq fun K2 hK2 => bs h0 fun o4 h1 h0 => ?_))
 have M4 : ∀ (t3 : Bool), o4 = t3 → ∀ s, Wk 0 s ⟨17, envL [(2, (.bool t3))], []⟩ → K2 s := by
  intro t3 hq s hw
  subst o4
  try dsimp only at h0
  refine hK2 _ (AW.weaken hw ?_)
  replace h0 := Sh.some_eq h0
  subst r
  exact AW.ret (xr (Wk.to (L := [(2, (.bool t3))]) ⟨.rfl, trivial⟩))
 refine AW.regionO rfl (zm tb 3 rfl ?_)
 rcases Sh.ite_some h1 with ⟨b5, h1⟩ | ⟨b5, h1⟩
 ·refine zg tb b5 rfl (zg tb b5 rfl (zt b5 rfl (zq tb rfl ?_)))
  rcases Sh.ite_some h1 with ⟨b6, h1⟩ | ⟨b6, h1⟩
  ·exact zs b6 rfl (zs b6 rfl (zt b6 rfl (zq tb rfl (zs rfl rfl (zs rfl rfl (zt rfl rfl (zq tb rfl (AO.done (M4 true (Sh.some_eq h1).symm _ (Wk.tr rfl))))))))))
  ·refine zg tb b6 rfl (zg tb b6 rfl (zf b6 rfl (zq tb rfl ?_)))
   rcases Sh.ite_some h1 with ⟨b7, h1⟩ | ⟨b7, h1⟩
   ·exact zs b7 rfl (zs b7 rfl (zt b7 rfl (zq tb rfl (AO.done (M4 true (Sh.some_eq h1).symm _ (Wk.tr rfl))))))
   ·exact zg tb b7 rfl (zg tb b7 rfl (zf b7 rfl (zq tb rfl (AO.done (M4 (decide (p0 = 19)) (Sh.some_eq h1).symm _ (Wk.tr rfl))))))
 ·refine zs b5 rfl (zs b5 rfl (zf b5 rfl (zq tb rfl (zg tb rfl rfl (zg tb rfl rfl (zf rfl rfl (zq tb rfl ?_)))))))
  rcases Sh.ite_some h1 with ⟨b8, h1⟩ | ⟨b8, h1⟩
  ·exact zs b8 rfl (zs b8 rfl (zt b8 rfl (zq tb rfl (AO.done (M4 true (Sh.some_eq h1).symm _ (Wk.tr rfl))))))
  ·exact zg tb b8 rfl (zg tb b8 rfl (zf b8 rfl (zq tb rfl (AO.done (M4 (decide (p0 = 19)) (Sh.some_eq h1).symm _ (Wk.tr rfl))))))
theorem impl_signatures_instrValid_1_ok {s0_0 : Int} {s1_0 : (List Int)} {s1_1 : (List Int)} {s1_2 : Int} {s1_3 : Int} {s1_4 : (List RInstr)} {p0 : Int} {r : Bool} (h0 : impl_signatures_instrValid_1 s0_0 s1_0 s1_1 s1_2 s1_3 s1_4 p0 = some r) : ACalls Try.prog 65 [(i64 p0), (.ptr 0 0 0 0), (.ptr 1 0 0 0)] [⟨0, 3, 1, [[(i64 s0_0)]]⟩, ⟨0, 77, 5, [[(ls eI s1_0), (ls eI s1_1), (i64 s1_2), (i64 s1_3), (ls eRInstr s1_4)]]⟩] (fun v st => v = (.bool r) ∧ st = [⟨0, 3, 1, [[(i64 s0_0)]]⟩, ⟨0, 77, 5, [[(ls eI s1_0), (ls eI s1_1), (i64 s1_2), (i64 s1_3), (ls eRInstr s1_4)]]⟩]) := by
 unfold impl_signatures_instrValid_1 at h0
 refine ai Try.func65 rfl rfl rfl rfl (zr tb rfl rfl (AW.seq fun K2 hK2 => bs h0 fun o4 h1 h0 => ?_))
 have M4 : ∀ (t3 : Bool), o4 = t3 → ∀ s, Wk 2 s ⟨15, envL [(4, (.bool t3))], [⟨0, 3, 1, [[(i64 s0_0)]]⟩, ⟨0, 77, 5, [[(ls eI s1_0), (ls eI s1_1), (i64 s1_2), (i64 s1_3), (ls eRInstr s1_4)]]⟩]⟩ → K2 s := by
  intro t3 hq s hw
  subst o4
  try dsimp only at h0
  refine hK2 _ (AW.weaken hw ?_)
  replace h0 := Sh.some_eq h0
  subst r
  exact AW.ret (xr (Wk.to (L := [(4, (.bool t3))]) ⟨.rfl, trivial⟩))
 refine AW.regionO rfl (zm tb 4 rfl ?_)
 rcases Sh.ite_some h1 with ⟨b5, h1⟩ | ⟨b5, h1⟩
 ·exact zg tb b5 rfl (zg tb b5 rfl (zg tb b5 rfl (ao_q (v := (i64 (Sh.len s1_4))) (go1 rfl rfl b5) rfl (aq_lens sl75 rfl) (zg tb b5 rfl (zt b5 rfl (zq tb rfl (AO.done (M4 (decide (p0 < (Sh.len s1_4))) (Sh.some_eq h1).symm _ (Wk.tr rfl)))))))))
 ·refine zs b5 rfl ?_
  iterate 4 refine zs b5 rfl ?_
  exact zf b5 rfl (zq tb rfl (AO.done (M4 false (Sh.some_eq h1).symm _ (Wk.tr rfl))))
theorem impl_signatures_instrValid_2_ok {s1_0 : Int} {s2_0 : (List Int)} {s2_1 : (List Int)} {s2_2 : Int} {s2_3 : Int} {s2_4 : (List RInstr)} {p0 : Int} {r : Bool} (h0 : impl_signatures_instrValid_2 s1_0 s2_0 s2_1 s2_2 s2_3 s2_4 p0 = some r) : ACalls Try.prog 67 [(i64 p0), (.ptr 0 0 0 0)] [⟨0, 120, 1, [[(.fn 65 [(.ptr 1 0 0 0), (.ptr 2 0 0 0)])]]⟩, ⟨0, 3, 1, [[(i64 s1_0)]]⟩, ⟨0, 77, 5, [[(ls eI s2_0), (ls eI s2_1), (i64 s2_2), (i64 s2_3), (ls eRInstr s2_4)]]⟩] (fun v st => v = (.bool r) ∧ st = [⟨0, 120, 1, [[(.fn 65 [(.ptr 1 0 0 0), (.ptr 2 0 0 0)])]]⟩, ⟨0, 3, 1, [[(i64 s1_0)]]⟩, ⟨0, 77, 5, [[(ls eI s2_0), (ls eI s2_1), (i64 s2_2), (i64 s2_3), (ls eRInstr s2_4)]]⟩]) := by
 unfold impl_signatures_instrValid_2 at h0
 refine ai Try.func67 rfl rfl rfl rfl (zr tb rfl rfl (sr rfl fun K2 hK2 => zm tb 2 rfl (bs h0 fun q3 gq3 h0 => ?_)))
 refine ao_callst (rowsP := [⟨0, 3, 1, [[(i64 s1_0)]]⟩, ⟨0, 77, 5, [[(ls eI s2_0), (ls eI s2_1), (i64 s2_2), (i64 s2_3), (ls eRInstr s2_4)]]⟩]) (rows0 := [⟨0, 3, 1, [[(i64 s1_0)]]⟩, ⟨0, 77, 5, [[(ls eI s2_0), (ls eI s2_1), (i64 s2_2), (i64 s2_3), (ls eRInstr s2_4)]]⟩]) (rows1 := [⟨0, 3, 1, [[(i64 s1_0)]]⟩, ⟨0, 77, 5, [[(ls eI s2_0), (ls eI s2_1), (i64 s2_2), (i64 s2_3), (ls eRInstr s2_4)]]⟩]) (rows2 := []) (rows1' := [⟨0, 3, 1, [[(i64 s1_0)]]⟩, ⟨0, 77, 5, [[(ls eI s2_0), (ls eI s2_1), (i64 s2_2), (i64 s2_3), (ls eRInstr s2_4)]]⟩]) (rows2' := []) (st' := [⟨0, 120, 1, [[(.fn 65 [(.ptr 1 0 0 0), (.ptr 2 0 0 0)])]]⟩, ⟨0, 3, 1, [[(i64 s1_0)]]⟩, ⟨0, 77, 5, [[(ls eI s2_0), (ls eI s2_1), (i64 s2_2), (i64 s2_3), (ls eRInstr s2_4)]]⟩]) (v' := (.bool q3)) [1, 2] go0 rfl hb65 (impl_signatures_instrValid_1_ok gq3) rfl (by decide) rfl rfl (.raw rfl rfl (.raw rfl rfl .nil)) rfl rfl (.raw rfl rfl (.raw rfl rfl .nil)) .nil rfl rfl ?_
 refine zm tb 2 rfl (dn hK2 rfl ?_)
 replace h0 := Sh.some_eq h0
 subst r
 exact AW.ret (xr (Wk.to (L := [(3, (.bool (!q3)))]) ⟨.rfl, trivial⟩))
theorem slices_IndexFunc_int_int_ok {N : Nat} {s1_0 : Int} {s2_0 : (List Int)} {s2_1 : (List Int)} {s2_2 : Int} {s2_3 : Int} {s2_4 : (List RInstr)} {p0 : (List Int)} {r : Int} (h0 : slices_IndexFunc_int_int N s1_0 s2_0 s2_1 s2_2 s2_3 s2_4 p0 = some r) : ACalls Try.prog 86 [(ls eI p0), (.fn 67 [(.ptr 0 0 0 0)])] [⟨0, 120, 1, [[(.fn 65 [(.ptr 1 0 0 0), (.ptr 2 0 0 0)])]]⟩, ⟨0, 3, 1, [[(i64 s1_0)]]⟩, ⟨0, 77, 5, [[(ls eI s2_0), (ls eI s2_1), (i64 s2_2), (i64 s2_3), (ls eRInstr s2_4)]]⟩] (fun v st => v = (i64 r) ∧ st = [⟨0, 120, 1, [[(.fn 65 [(.ptr 1 0 0 0), (.ptr 2 0 0 0)])]]⟩, ⟨0, 3, 1, [[(i64 s1_0)]]⟩, ⟨0, 77, 5, [[(ls eI s2_0), (ls eI s2_1), (i64 s2_2), (i64 s2_3), (ls eRInstr s2_4)]]⟩]) := by
 unfold slices_IndexFunc_int_int at h0
 refine ai Try.func86 rfl rfl rfl rfl (zr tb rfl rfl (AW.seq fun K2 hK2 => sr rfl fun K3 hK3 => zq tb rfl (zl tb rfl rfl (zq tb rfl (dn hK3 rfl ?_)))))
 obtain ⟨o5, h1, h0⟩ := Sh.cont_some h0
 have M5 : ∀ (_ : Unit), o5 = Sum.inr () → ∀ s, Wk 3 s ⟨19, envL [], [⟨0, 120, 1, [[(.fn 65 [(.ptr 1 0 0 0), (.ptr 2 0 0 0)])]]⟩, ⟨0, 3, 1, [[(i64 s1_0)]]⟩, ⟨0, 77, 5, [[(ls eI s2_0), (ls eI s2_1), (i64 s2_2), (i64 s2_3), (ls eRInstr s2_4)]]⟩]⟩ → K2 s := by
  intro _ hq s hw
  subst o5
  try dsimp only at h0
  refine hK2 _ (AW.weaken hw (zr tb rfl rfl ?_))
  replace h0 := Sh.some_eq h0
  subst r
  exact AW.ret (xr (Wk.to (L := [(4, (i64 (-1)))]) ⟨.rfl, trivial⟩))
 refine AW.block (AW.loopF (σ := Int) (fun n v => slices_IndexFunc_int_int_L1 s1_0 s2_0 s2_1 s2_2 s2_3 s2_4 p0 n v = some o5) (fun t4 => ⟨19, envL [(0, (ls eI p0)), (1, (.fn 67 [(.ptr 0 0 0 0)])), (7, (i64 (Sh.len p0))), (8, (i64 t4))], [⟨0, 120, 1, [[(.fn 65 [(.ptr 1 0 0 0), (.ptr 2 0 0 0)])]]⟩, ⟨0, 3, 1, [[(i64 s1_0)]]⟩, ⟨0, 77, 5, [[(ls eI s2_0), (ls eI s2_1), (i64 s2_2), (i64 s2_3), (ls eRInstr s2_4)]]⟩]⟩) N 0 h1 (Wk.tr rfl) (fun _ hv => by rw [slices_IndexFunc_int_int_L1] at hv; cases hv) ?_)
 rintro n t4 h1
 try dsimp only at h1 ⊢
 rw [slices_IndexFunc_int_int_L1] at h1
 refine zr tb rfl rfl (AW.seq fun K8 hK8 => ?_)
 refine ci h1 rfl ?_ ?_ <;> clear h1
 ·intro b9 h1
  refine AW.skip (hK8 _ (AW.seq fun K10 hK10 => AW.block (zr tb rfl rfl (sr rfl fun K12 hK12 => zm tb 3 rfl (bs h1 fun c13 gc13 h1 => zx ei27 gc13 rfl rfl rfl (zq tb rfl (bs h1 fun q14 gq14 h1 => ?_)))))))
  refine ao_callst (rowsP := [⟨0, 120, 1, [[(.fn 65 [(.ptr 1 0 0 0), (.ptr 2 0 0 0)])]]⟩, ⟨0, 3, 1, [[(i64 s1_0)]]⟩, ⟨0, 77, 5, [[(ls eI s2_0), (ls eI s2_1), (i64 s2_2), (i64 s2_3), (ls eRInstr s2_4)]]⟩]) (rows0 := [⟨0, 120, 1, [[(.fn 65 [(.ptr 1 0 0 0), (.ptr 2 0 0 0)])]]⟩, ⟨0, 3, 1, [[(i64 s1_0)]]⟩, ⟨0, 77, 5, [[(ls eI s2_0), (ls eI s2_1), (i64 s2_2), (i64 s2_3), (ls eRInstr s2_4)]]⟩]) (rows1 := [⟨0, 120, 1, [[(.fn 65 [(.ptr 1 0 0 0), (.ptr 2 0 0 0)])]]⟩, ⟨0, 3, 1, [[(i64 s1_0)]]⟩, ⟨0, 77, 5, [[(ls eI s2_0), (ls eI s2_1), (i64 s2_2), (i64 s2_3), (ls eRInstr s2_4)]]⟩]) (rows2 := []) (rows1' := [⟨0, 120, 1, [[(.fn 65 [(.ptr 1 0 0 0), (.ptr 2 0 0 0)])]]⟩, ⟨0, 3, 1, [[(i64 s1_0)]]⟩, ⟨0, 77, 5, [[(ls eI s2_0), (ls eI s2_1), (i64 s2_2), (i64 s2_3), (ls eRInstr s2_4)]]⟩]) (rows2' := []) (st' := [⟨0, 120, 1, [[(.fn 65 [(.ptr 1 0 0 0), (.ptr 2 0 0 0)])]]⟩, ⟨0, 3, 1, [[(i64 s1_0)]]⟩, ⟨0, 77, 5, [[(ls eI s2_0), (ls eI s2_1), (i64 s2_2), (i64 s2_3), (ls eRInstr s2_4)]]⟩]) (v' := (.bool q14)) [0, 1, 2] go0 rfl hb67 (impl_signatures_instrValid_2_ok gq14) rfl (by decide) rfl rfl (.raw rfl rfl (.raw rfl rfl (.raw rfl rfl .nil))) rfl rfl (.raw rfl rfl (.raw rfl rfl (.raw rfl rfl .nil))) .nil rfl rfl ?_
  refine dn hK12 rfl ?_
  refine ci h1 rfl ?_ ?_ <;> clear h1
  ·intro b15 h1
   refine zr tb rfl rfl ?_
   replace h1 := Sh.some_eq h1
   subst o5
   try dsimp only [id] at h0
   replace h0 := Sh.some_eq h0
   subst r
   exact AW.ret (xr (Wk.to (L := [(4, (i64 t4))]) ⟨.rfl, trivial⟩))
  ·intro b15 h1
   exact AW.skip (hK10 _ (AW.regionO rfl (zm tb 2 rfl (AO.done (xi (Sh.w (t4 + 1)) h1 (Wk.tr rfl))))))
 ·intro b9 h1
  exact AW.exit (M5 () (Sh.some_eq h1).symm _ (Wk.tr rfl))
theorem slices_ContainsFunc_int_int_ok {N : Nat} {s1_0 : Int} {s2_0 : (List Int)} {s2_1 : (List Int)} {s2_2 : Int} {s2_3 : Int} {s2_4 : (List RInstr)} {p0 : (List Int)} {r : Bool} (h0 : slices_ContainsFunc_int_int N s1_0 s2_0 s2_1 s2_2 s2_3 s2_4 p0 = some r) : ACalls Try.prog 66 [(ls eI p0), (.fn 67 [(.ptr 0 0 0 0)])] [⟨0, 120, 1, [[(.fn 65 [(.ptr 1 0 0 0), (.ptr 2 0 0 0)])]]⟩, ⟨0, 3, 1, [[(i64 s1_0)]]⟩, ⟨0, 77, 5, [[(ls eI s2_0), (ls eI s2_1), (i64 s2_2), (i64 s2_3), (ls eRInstr s2_4)]]⟩] (fun v st => v = (.bool r) ∧ st = [⟨0, 120, 1, [[(.fn 65 [(.ptr 1 0 0 0), (.ptr 2 0 0 0)])]]⟩, ⟨0, 3, 1, [[(i64 s1_0)]]⟩, ⟨0, 77, 5, [[(ls eI s2_0), (ls eI s2_1), (i64 s2_2), (i64 s2_3), (ls eRInstr s2_4)]]⟩]) := by
 unfold slices_ContainsFunc_int_int at h0
 refine ai Try.func66 rfl rfl rfl rfl (zr tb rfl rfl (sr rfl fun K2 hK2 => zm tb 2 rfl (bs h0 fun q3 gq3 h0 => ?_)))
 refine ao_calls (rowsP := [⟨0, 120, 1, [[(.fn 65 [(.ptr 1 0 0 0), (.ptr 2 0 0 0)])]]⟩, ⟨0, 3, 1, [[(i64 s1_0)]]⟩, ⟨0, 77, 5, [[(ls eI s2_0), (ls eI s2_1), (i64 s2_2), (i64 s2_3), (ls eRInstr s2_4)]]⟩]) (rows0 := [⟨0, 120, 1, [[(.fn 65 [(.ptr 1 0 0 0), (.ptr 2 0 0 0)])]]⟩, ⟨0, 3, 1, [[(i64 s1_0)]]⟩, ⟨0, 77, 5, [[(ls eI s2_0), (ls eI s2_1), (i64 s2_2), (i64 s2_3), (ls eRInstr s2_4)]]⟩]) (rows1 := [⟨0, 120, 1, [[(.fn 65 [(.ptr 1 0 0 0), (.ptr 2 0 0 0)])]]⟩, ⟨0, 3, 1, [[(i64 s1_0)]]⟩, ⟨0, 77, 5, [[(ls eI s2_0), (ls eI s2_1), (i64 s2_2), (i64 s2_3), (ls eRInstr s2_4)]]⟩]) (rows2 := []) (rows1' := [⟨0, 120, 1, [[(.fn 65 [(.ptr 1 0 0 0), (.ptr 2 0 0 0)])]]⟩, ⟨0, 3, 1, [[(i64 s1_0)]]⟩, ⟨0, 77, 5, [[(ls eI s2_0), (ls eI s2_1), (i64 s2_2), (i64 s2_3), (ls eRInstr s2_4)]]⟩]) (rows2' := []) (st' := [⟨0, 120, 1, [[(.fn 65 [(.ptr 1 0 0 0), (.ptr 2 0 0 0)])]]⟩, ⟨0, 3, 1, [[(i64 s1_0)]]⟩, ⟨0, 77, 5, [[(ls eI s2_0), (ls eI s2_1), (i64 s2_2), (i64 s2_3), (ls eRInstr s2_4)]]⟩]) (v' := (i64 q3)) [0, 1, 2] go0 hb86 (slices_IndexFunc_int_int_ok gq3) rfl (by decide) rfl rfl (.raw rfl rfl (.raw rfl rfl (.raw rfl rfl .nil))) rfl rfl (.raw rfl rfl (.raw rfl rfl (.raw rfl rfl .nil))) .nil rfl rfl ?_
 refine zm tb 2 rfl (dn hK2 rfl ?_)
 replace h0 := Sh.some_eq h0
 subst r
 exact AW.ret (xr (Wk.to (L := [(4, (.bool (decide (0 ≤ q3))))]) ⟨.rfl, trivial⟩))
theorem impl_conCount_ok {N : Nat} {p0 : (List RDecl)} {r : Int} (h0 : impl_conCount N p0 = some r) : ACalls Try.prog 87 [(ls eRDecl p0)] [] (fun v st => v = (i64 r) ∧ st = []) := by
 unfold impl_conCount at h0
 refine ai Try.func87 rfl rfl rfl rfl ?_
 iterate 2 refine zr tb rfl rfl ?_
 refine AW.seq fun K3 hK3 => sr rfl fun K4 hK4 => zq tb rfl (zl tb rfl rfl (zq tb rfl (dn hK4 rfl (bs h0 fun o8 h1 h0 => ?_))))
 have M8 : ∀ (n7 : Int), o8 = n7 → ∀ s, Wk 0 s ⟨19, envL [(3, (i64 n7))], []⟩ → K3 s := by
  intro n7 hq s hw
  subst o8
  try dsimp only at h0
  refine hK3 _ (AW.weaken hw (zr tb rfl rfl ?_))
  replace h0 := Sh.some_eq h0
  subst r
  exact AW.ret (xr (Wk.to (L := [(2, (i64 n7))]) ⟨.rfl, trivial⟩))
 refine AW.block (AW.loopF (σ := Int × Int) (fun n v => impl_conCount_L1 p0 n v.1 v.2 = some o8) (fun (n5, t6) => ⟨19, envL [(3, (i64 n5)), (6, (ls eRDecl p0)), (7, (i64 (Sh.len p0))), (8, (i64 t6))], []⟩) N (0, 0) h1 (Wk.tr rfl) (fun _ hv => by rw [impl_conCount_L1] at hv; cases hv) ?_)
 rintro n ⟨n5, t6⟩ h1
 try dsimp only at h1 ⊢
 rw [impl_conCount_L1] at h1
 refine zr tb rfl rfl (AW.seq fun K11 hK11 => ?_)
 refine ci h1 rfl ?_ ?_ <;> clear h1
 ·intro b12 h1
  refine AW.skip (hK11 _ (AW.seq fun K13 hK13 => AW.block (sr rfl fun K14 hK14 => bs h1 fun c15 gc15 h1 => zx ei34 gc15 rfl rfl rfl (zq tb rfl (ao_alloc (m := 0) (st' := [⟨0, 83, 3, [[(i64 0), (i64 0), .zc]]⟩]) go0 zi83 rfl rfl (ao_str (st' := [⟨0, 83, 3, [(eRDecl c15)]⟩]) go0 ti83 rfl rfl rfl rfl rfl rfl (show 0 + 3 ≤ 3 by decide) rfl (dn hK14 rfl (AW.regionO rfl (zm tb 3 rfl ?_)))))))))
  exact zl tb rfl rfl (zm tb 2 rfl (dn hK13 rfl (AW.regionO rfl (zm tb 2 rfl (AO.done (xi (Sh.w (n5 + (Sh.len c15.cons)), Sh.w (t6 + 1)) h1 (Wk.d0 _ rfl)))))))
 ·intro b12 h1
  exact AW.exit (M8 n5 (Sh.some_eq h1).symm _ (Wk.tr rfl))
theorem impl_consOf_ok {N : Nat} {p0 : (List RDecl)} {p1 : Int} {r : (List Int)} (h0 : impl_consOf N p0 p1 = some r) : ACalls Try.prog 88 [(ls eRDecl p0), (i64 p1)] [] (fun v st => v = (ow 0 0 r) ∧ st = [(ro 0 3 1 eI r)]) := by
 unfold impl_consOf at h0
 refine ai Try.func88 rfl rfl rfl rfl (zr tb rfl rfl (AW.seq fun K2 hK2 => AW.seq fun K3 hK3 => bs h0 fun o5 h1 h0 => ?_))
 have M5 : ∀ (t4 : Bool), o5 = t4 → ∀ s, Wk 0 s ⟨39, envL [(0, (ls eRDecl p0)), (1, (i64 p1)), (15, (.bool t4))], []⟩ → K3 s := by
  intro t4 hq s hw
  subst o5
  try dsimp only at h0
  refine hK3 _ (AW.weaken hw ?_)
  refine ci h0 rfl ?_ ?_ <;> clear h0
  ·intro b6 h0
   refine zr tb rfl rfl ?_
   replace h0 := Sh.some_eq h0
   subst r
   exact AW.ret (Exists.intro _ (And.intro (((Wk.adopt (t := 4) rfl 3 (size := 1) (by decide)).trans (Wk.to (L := [(4, (.own 0 0 (List.length ([] : List Int))))]) ⟨.rfl, trivial⟩)).trans (Wk.to (L := [(4, (.own 0 0 (List.length ([] : List Int))))]) ⟨.rfl, trivial⟩)) (And.intro rfl rfl)))
  ·intro b6 h0
   refine AW.skip (hK2 _ (sr rfl fun K8 hK8 => zm tb 3 rfl (bs h0 fun l9 gl9 h0 => ao_sls (i := 0) (j := Sh.w (p1 - 1)) go0 ei34 rfl rfl rfl (fun _ => rfl) gl9 (bs h0 fun q10 gq10 h0 => zc hb87 (impl_conCount_ok gq10) rfl rfl rfl (zq tb rfl (dn hK8 rfl (zr tb rfl rfl (AW.seq fun K12 hK12 => sr rfl fun K13 hK13 => ?_))))))))
   refine zm tb 3 rfl (bs h0 fun c14 gc14 h0 => zx ei34 gc14 rfl rfl rfl (zm tb 2 rfl (zl tb rfl rfl (zq tb rfl (dn hK13 rfl (bs h0 fun o18 h1 h0 => ?_))))))
   have M18 : ∀ (l17 : (List Int)), o18 = l17 → ∀ s, Wk 0 s ⟨39, envL [(6, (ow 0 0 l17))], [(ro 0 3 1 eI l17)]⟩ → K12 s := by
    intro l17 hq s hw
    subst o18
    try dsimp only at h0
    refine hK12 _ (AW.weaken hw (zr tb rfl rfl ?_))
    replace h0 := Sh.some_eq h0
    subst r
    exact AW.ret (xr (Wk.to (L := [(4, (ow 0 0 l17))]) ⟨.rfl, trivial⟩))
   refine AW.block (AW.loopF (σ := Int × (List Int)) (fun n v => impl_consOf_L1 c14 q10 n v.1 v.2 = some o18) (fun (t15, l16) => ⟨39, envL [(5, (i64 q10)), (6, (ow 0 0 l16)), (27, (i64 (Sh.len c14.cons))), (28, (i64 t15))], [(ro 0 3 1 eI l16)]⟩) N (0, []) h1 ((Wk.adopt (t := 6) rfl 3 (size := 1) (by decide)).trans (Wk.to (L := [(5, (i64 q10)), (6, (.own 0 0 (List.length ([] : List Int)))), (27, (i64 (Sh.len c14.cons))), (28, (i64 0))]) ⟨.rfl, .rfl, .rfl, .rfl, trivial⟩)) (fun _ hv => by rw [impl_consOf_L1] at hv; cases hv) ?_)
   rintro n ⟨t15, l16⟩ h1
   try dsimp only at h1 ⊢
   rw [impl_consOf_L1] at h1
   refine zr tb rfl rfl (AW.seq fun K21 hK21 => ?_)
   refine ci h1 rfl ?_ ?_ <;> clear h1
   ·intro b22 h1
    refine AW.skip (hK21 _ (AW.seq fun K23 hK23 => AW.block (zr tb rfl rfl (AW.regionO rfl (zm tb 4 rfl ?_)))))
    refine ao_bs (m := 1) (st' := [(ro 0 3 1 eI l16), (ro 0 3 1 eI [Sh.w (q10 + t15)])]) (l := [Sh.w (q10 + t15)]) (enc := eI) go0 ei27 (by decide) rfl rfl rfl rfl rfl rfl ?_
    refine bs h1 fun l25 gl25 h1 => ao_apo (st' := [(ro 1 3 1 eI l25), (ro 0 3 1 eI [Sh.w (q10 + t15)])]) (l2 := [Sh.w (q10 + t15)]) go0 ei27 rfl rfl rfl rfl (el_o rfl rfl) (fun _ => rfl) gl25 rfl (zq tb rfl (dn hK23 rfl (AW.regionO rfl (zm tb 2 rfl ?_))))
    exact AO.done (xi (Sh.w (t15 + 1), l25) h1 (by refine Wk.trans (Wk.rg (L := [(5, (i64 q10)), (6, (ow 0 0 l25)), (27, (i64 (Sh.len c14.cons))), (28, (i64 (Sh.w (t15 + 1))))]) (st' := [(ro 0 3 1 eI l25), (ro 0 3 1 eI [Sh.w (q10 + t15)])]) (.pure (pure_map fun _ => rfl) (.pure (pure_map fun _ => rfl) .nil)) ⟨.rfl, .rfl, .rfl, .rfl, trivial⟩) ?_; exact Wk.permk (L := [(5, (i64 q10)), (6, (ow 0 0 l25)), (27, (i64 (Sh.len c14.cons))), (28, (i64 (Sh.w (t15 + 1))))]) (st' := [(ro 0 3 1 eI l25)]) (st1 := [(ro 0 3 1 eI l25)]) [0] rfl .nil (by decide) rfl rfl (.pure (pure_map fun _ => rfl) .nil) ⟨.rfl, .rfl, .rfl, .rfl, trivial⟩))
   ·intro b22 h1
    exact AW.exit (M18 l16 (Sh.some_eq h1).symm _ (Wk.tr rfl))
 refine AW.regionO rfl (zm tb 3 rfl ?_)
 rcases Sh.ite_some h1 with ⟨b26, h1⟩ | ⟨b26, h1⟩
 ·refine zs b26 rfl ?_
  iterate 3 refine zs b26 rfl ?_
  exact zt b26 rfl (AO.done (M5 true (Sh.some_eq h1).symm _ (Wk.tr rfl)))
 ·exact zg tb b26 rfl (zg tb b26 rfl (ao_q (v := (i64 (Sh.len p0))) (go1 rfl rfl b26) rfl (aq_lens sl34 rfl) (zg tb b26 rfl (zf b26 rfl (AO.done (M5 (decide ((Sh.len p0) < p1)) (Sh.some_eq h1).symm _ (Wk.tr rfl)))))))
theorem impl_signatures_numValid_ok {N : Nat} {s0_0 : Int} {s1_0 : (List Int)} {s1_1 : (List Int)} {s1_2 : Int} {s1_3 : Int} {s1_4 : (List RInstr)} {p0 : RSignatures} {p1 : RInstr} {r : Bool} (h0 : impl_signatures_numValid N s0_0 s1_0 s1_1 s1_2 s1_3 s1_4 p0 p1 = some r) : ACalls Try.prog 68 [(.agg (eRSignatures p0)), (.agg (eRInstr p1)), (.fn 65 [(.ptr 0 0 0 0), (.ptr 1 0 0 0)])] [⟨0, 3, 1, [[(i64 s0_0)]]⟩, ⟨0, 77, 5, [[(ls eI s1_0), (ls eI s1_1), (i64 s1_2), (i64 s1_3), (ls eRInstr s1_4)]]⟩] (fun v st => v = (.bool r) ∧ st = [⟨0, 3, 1, [[(i64 s0_0)]]⟩, ⟨0, 77, 5, [[(ls eI s1_0), (ls eI s1_1), (i64 s1_2), (i64 s1_3), (ls eRInstr s1_4)]]⟩]) := by
 unfold impl_signatures_numValid at h0
 refine ai Try.func68 rfl rfl rfl rfl (sr rfl fun K1 hK1 => ao_box (m := 2) (st' := [⟨0, 3, 1, [[(i64 s0_0)]]⟩, ⟨0, 77, 5, [[(ls eI s1_0), (ls eI s1_1), (i64 s1_2), (i64 s1_3), (ls eRInstr s1_4)]]⟩, ⟨0, 88, 2, [(eRSignatures p0)]⟩]) go0 rfl rfl rfl rfl rfl (ao_box (m := 3) (st' := [⟨0, 3, 1, [[(i64 s0_0)]]⟩, ⟨0, 77, 5, [[(ls eI s1_0), (ls eI s1_1), (i64 s1_2), (i64 s1_3), (ls eRInstr s1_4)]]⟩, ⟨0, 88, 2, [(eRSignatures p0)]⟩, ⟨0, 92, 6, [(eRInstr p1)]⟩]) go0 rfl rfl rfl rfl rfl (zq tb rfl (dn hK1 rfl (AW.seq fun K2 hK2 => zr tb rfl rfl (AW.block (zr tb rfl rfl ?_)))))))
 refine ci h0 rfl ?_ ?_ <;> clear h0
 ·intro b5 h0
  refine AW.seq fun K6 hK6 => bs h0 fun o8 h1 h0 => ?_
  have M8 : ∀ (t7 : Bool), o8 = t7 → ∀ s, Wk 2 s ⟨109, envL [(6, (.bool t7))], [⟨0, 3, 1, [[(i64 s0_0)]]⟩, ⟨0, 77, 5, [[(ls eI s1_0), (ls eI s1_1), (i64 s1_2), (i64 s1_3), (ls eRInstr s1_4)]]⟩]⟩ → K6 s := by
   intro t7 hq s hw
   subst o8
   try dsimp only at h0
   refine hK6 _ (AW.weaken hw ?_)
   replace h0 := Sh.some_eq h0
   subst r
   exact AW.ret (xr (Wk.to (L := [(6, (.bool t7))]) ⟨.rfl, trivial⟩))
  refine AW.regionO rfl (zm tb 4 rfl ?_)
  rcases Sh.ite_some h1 with ⟨b9, h1⟩ | ⟨b9, h1⟩
  ·refine zg tb b9 rfl (zg tb b9 rfl (zg tb b9 rfl (zt b9 rfl (zq tb rfl ?_))))
   exact AO.done (M8 (decide (p1.num ≤ 999)) (Sh.some_eq h1).symm _ (Wk.permk (L := [(6, (.bool (decide (p1.num ≤ 999))))]) (st' := [⟨0, 3, 1, [[(i64 s0_0)]]⟩, ⟨0, 77, 5, [[(ls eI s1_0), (ls eI s1_1), (i64 s1_2), (i64 s1_3), (ls eRInstr s1_4)]]⟩]) (st1 := [⟨0, 3, 1, [[(i64 s0_0)]]⟩, ⟨0, 77, 5, [[(ls eI s1_0), (ls eI s1_1), (i64 s1_2), (i64 s1_3), (ls eRInstr s1_4)]]⟩]) [0, 1] rfl (.raw rfl rfl (.raw rfl rfl .nil)) (by decide) rfl rfl (.raw rfl rfl (.raw rfl rfl .nil)) ⟨.rfl, trivial⟩))
  ·refine zs b9 rfl (zs b9 rfl (zs b9 rfl (zf b9 rfl (zq tb rfl ?_))))
   exact AO.done (M8 false (Sh.some_eq h1).symm _ (Wk.permk (L := [(6, (.bool false))]) (st' := [⟨0, 3, 1, [[(i64 s0_0)]]⟩, ⟨0, 77, 5, [[(ls eI s1_0), (ls eI s1_1), (i64 s1_2), (i64 s1_3), (ls eRInstr s1_4)]]⟩]) (st1 := [⟨0, 3, 1, [[(i64 s0_0)]]⟩, ⟨0, 77, 5, [[(ls eI s1_0), (ls eI s1_1), (i64 s1_2), (i64 s1_3), (ls eRInstr s1_4)]]⟩]) [0, 1] rfl (.raw rfl rfl (.raw rfl rfl .nil)) (by decide) rfl rfl (.raw rfl rfl (.raw rfl rfl .nil)) ⟨.rfl, trivial⟩))
 ·intro b5 h0
  refine zr tb rfl rfl ?_
  refine ci h0 rfl ?_ ?_ <;> clear h0
  ·intro b11 h0
   refine AW.seq fun K12 hK12 => bs h0 fun o14 h1 h0 => ?_
   have M14 : ∀ (t13 : Bool), o14 = t13 → ∀ s, Wk 2 s ⟨109, envL [(6, (.bool t13))], [⟨0, 3, 1, [[(i64 s0_0)]]⟩, ⟨0, 77, 5, [[(ls eI s1_0), (ls eI s1_1), (i64 s1_2), (i64 s1_3), (ls eRInstr s1_4)]]⟩]⟩ → K12 s := by
    intro t13 hq s hw
    subst o14
    try dsimp only at h0
    refine hK12 _ (AW.weaken hw ?_)
    replace h0 := Sh.some_eq h0
    subst r
    exact AW.ret (xr (Wk.to (L := [(6, (.bool t13))]) ⟨.rfl, trivial⟩))
   refine AW.draw (by kernel_rfl) (by kernel_rfl) (by rfl) ?_
   iterate 4 refine yq tb rfl ?_
   rcases Sh.ite_some h1 with ⟨b15, h1⟩ | ⟨b15, h1⟩
   ·refine yg tb b15 rfl ?_
    iterate 3 refine yg tb b15 rfl ?_
    refine bs h1 fun q16 gq16 h1 => d_call (v := (i64 q16)) (go1 rfl rfl b15) hb87 (impl_conCount_ok gq16) rfl rfl rfl (yg tb b15 rfl (yt b15 rfl (yq tb rfl ?_)))
    exact d_done (M14 (decide (p1.num < q16)) (Sh.some_eq h1).symm _ (Wk.permk (L := [(6, (.bool (decide (p1.num < q16))))]) (st' := [⟨0, 3, 1, [[(i64 s0_0)]]⟩, ⟨0, 77, 5, [[(ls eI s1_0), (ls eI s1_1), (i64 s1_2), (i64 s1_3), (ls eRInstr s1_4)]]⟩]) (st1 := [⟨0, 3, 1, [[(i64 s0_0)]]⟩, ⟨0, 77, 5, [[(ls eI s1_0), (ls eI s1_1), (i64 s1_2), (i64 s1_3), (ls eRInstr s1_4)]]⟩]) [0, 1] rfl (.raw rfl rfl (.raw rfl rfl .nil)) (by decide) rfl rfl (.raw rfl rfl (.raw rfl rfl .nil)) ⟨.rfl, trivial⟩))
   ·refine ys b15 rfl ?_
    iterate 5 refine ys b15 rfl ?_
    refine yf b15 rfl (yq tb rfl ?_)
    exact d_done (M14 false (Sh.some_eq h1).symm _ (Wk.permk (L := [(6, (.bool false))]) (st' := [⟨0, 3, 1, [[(i64 s0_0)]]⟩, ⟨0, 77, 5, [[(ls eI s1_0), (ls eI s1_1), (i64 s1_2), (i64 s1_3), (ls eRInstr s1_4)]]⟩]) (st1 := [⟨0, 3, 1, [[(i64 s0_0)]]⟩, ⟨0, 77, 5, [[(ls eI s1_0), (ls eI s1_1), (i64 s1_2), (i64 s1_3), (ls eRInstr s1_4)]]⟩]) [0, 1] rfl (.raw rfl rfl (.raw rfl rfl .nil)) (by decide) rfl rfl (.raw rfl rfl (.raw rfl rfl .nil)) ⟨.rfl, trivial⟩))
  ·intro b11 h0
   refine AW.seq fun K17 hK17 => bs h0 fun o19 h1 h0 => ?_
   have M19 : ∀ (t18 : Bool), o19 = t18 → ∀ s, Wk 2 s ⟨109, envL [(2, (.fn 65 [(.ptr 0 0 0 0), (.ptr 1 0 0 0)])), (3, (.ptr 2 0 0 0)), (4, (.ptr 3 0 0 0)), (9, (i64 p1.op)), (33, (.bool t18))], [⟨0, 3, 1, [[(i64 s0_0)]]⟩, ⟨0, 77, 5, [[(ls eI s1_0), (ls eI s1_1), (i64 s1_2), (i64 s1_3), (ls eRInstr s1_4)]]⟩, ⟨0, 88, 2, [(eRSignatures p0)]⟩, ⟨0, 92, 6, [(eRInstr p1)]⟩]⟩ → K17 s := by
    intro t18 hq s hw
    subst o19
    try dsimp only at h0
    refine hK17 _ (AW.weaken hw ?_)
    refine ci h0 rfl ?_ ?_ <;> clear h0
    ·intro b20 h0
     refine AW.seq fun K21 hK21 => bs h0 fun o23 h1 h0 => ?_
     have M23 : ∀ (t22 : Bool), o23 = t22 → ∀ s, Wk 2 s ⟨109, envL [(6, (.bool t22))], [⟨0, 3, 1, [[(i64 s0_0)]]⟩, ⟨0, 77, 5, [[(ls eI s1_0), (ls eI s1_1), (i64 s1_2), (i64 s1_3), (ls eRInstr s1_4)]]⟩]⟩ → K21 s := by
      intro t22 hq s hw
      subst o23
      try dsimp only at h0
      refine hK21 _ (AW.weaken hw ?_)
      replace h0 := Sh.some_eq h0
      subst r
      exact AW.ret (xr (Wk.to (L := [(6, (.bool t22))]) ⟨.rfl, trivial⟩))
     refine AW.regionO rfl (zm tb 4 rfl ?_)
     rcases Sh.ite_some h1 with ⟨b24, h1⟩ | ⟨b24, h1⟩
     ·refine zg tb b24 rfl ?_
      iterate 3 refine zg tb b24 rfl ?_
      refine ao_q (v := (i64 (Sh.len p0.funcs))) (go1 rfl rfl b24) rfl (aq_lens sl86 rfl) (zg tb b24 rfl (zt b24 rfl (zq tb rfl ?_)))
      exact AO.done (M23 (decide (p1.num < (Sh.len p0.funcs))) (Sh.some_eq h1).symm _ (Wk.permk (L := [(6, (.bool (decide (p1.num < (Sh.len p0.funcs)))))]) (st' := [⟨0, 3, 1, [[(i64 s0_0)]]⟩, ⟨0, 77, 5, [[(ls eI s1_0), (ls eI s1_1), (i64 s1_2), (i64 s1_3), (ls eRInstr s1_4)]]⟩]) (st1 := [⟨0, 3, 1, [[(i64 s0_0)]]⟩, ⟨0, 77, 5, [[(ls eI s1_0), (ls eI s1_1), (i64 s1_2), (i64 s1_3), (ls eRInstr s1_4)]]⟩]) [0, 1] rfl (.raw rfl rfl (.raw rfl rfl .nil)) (by decide) rfl rfl (.raw rfl rfl (.raw rfl rfl .nil)) ⟨.rfl, trivial⟩))
     ·refine zs b24 rfl ?_
      iterate 5 refine zs b24 rfl ?_
      refine zf b24 rfl (zq tb rfl ?_)
      exact AO.done (M23 false (Sh.some_eq h1).symm _ (Wk.permk (L := [(6, (.bool false))]) (st' := [⟨0, 3, 1, [[(i64 s0_0)]]⟩, ⟨0, 77, 5, [[(ls eI s1_0), (ls eI s1_1), (i64 s1_2), (i64 s1_3), (ls eRInstr s1_4)]]⟩]) (st1 := [⟨0, 3, 1, [[(i64 s0_0)]]⟩, ⟨0, 77, 5, [[(ls eI s1_0), (ls eI s1_1), (i64 s1_2), (i64 s1_3), (ls eRInstr s1_4)]]⟩]) [0, 1] rfl (.raw rfl rfl (.raw rfl rfl .nil)) (by decide) rfl rfl (.raw rfl rfl (.raw rfl rfl .nil)) ⟨.rfl, trivial⟩))
    ·intro b20 h0
     refine zr tb rfl rfl ?_
     refine ci h0 rfl ?_ ?_ <;> clear h0
     ·intro b26 h0
      refine AW.seq fun K27 hK27 => bs h0 fun o29 h1 h0 => ?_
      have M29 : ∀ (t28 : Bool), o29 = t28 → ∀ s, Wk 2 s ⟨109, envL [(6, (.bool t28))], [⟨0, 3, 1, [[(i64 s0_0)]]⟩, ⟨0, 77, 5, [[(ls eI s1_0), (ls eI s1_1), (i64 s1_2), (i64 s1_3), (ls eRInstr s1_4)]]⟩]⟩ → K27 s := by
       intro t28 hq s hw
       subst o29
       try dsimp only at h0
       refine hK27 _ (AW.weaken hw ?_)
       replace h0 := Sh.some_eq h0
       subst r
       exact AW.ret (xr (Wk.to (L := [(6, (.bool t28))]) ⟨.rfl, trivial⟩))
      refine AW.regionO rfl (zm tb 4 rfl ?_)
      rcases Sh.ite_some h1 with ⟨b30, h1⟩ | ⟨b30, h1⟩
      ·refine zg tb b30 rfl ?_
       iterate 3 refine zg tb b30 rfl ?_
       refine ao_q (v := (i64 (Sh.len p0.funcs))) (go1 rfl rfl b30) rfl (aq_lens sl86 rfl) (zg tb b30 rfl (zt b30 rfl (zq tb rfl ?_)))
       rcases Sh.ite_some h1 with ⟨b31, h1⟩ | ⟨b31, h1⟩
       ·refine zg tb b31 rfl ?_
        iterate 3 refine zg tb b31 rfl ?_
        refine bs h1 fun c32 gc32 h1 => ao_q (v := (.iptr (eRSignature c32) 0)) (go1 rfl rfl b31) rfl (aq_ixs ei86 rfl rfl gc32 rfl) (zg tb b31 rfl (zg tb b31 rfl (ao_q (v := (i64 (Sh.len c32.lent))) (go1 rfl rfl b31) rfl (aq_lens sl27 rfl) (zg tb b31 rfl (zt b31 rfl (zq tb rfl ?_))))))
        exact AO.done (M29 (decide ((Sh.len c32.lent) = 0)) (Sh.some_eq h1).symm _ (Wk.permk (L := [(6, (.bool (decide ((Sh.len c32.lent) = 0))))]) (st' := [⟨0, 3, 1, [[(i64 s0_0)]]⟩, ⟨0, 77, 5, [[(ls eI s1_0), (ls eI s1_1), (i64 s1_2), (i64 s1_3), (ls eRInstr s1_4)]]⟩]) (st1 := [⟨0, 3, 1, [[(i64 s0_0)]]⟩, ⟨0, 77, 5, [[(ls eI s1_0), (ls eI s1_1), (i64 s1_2), (i64 s1_3), (ls eRInstr s1_4)]]⟩]) [0, 1] rfl (.raw rfl rfl (.raw rfl rfl .nil)) (by decide) rfl rfl (.raw rfl rfl (.raw rfl rfl .nil)) ⟨.rfl, trivial⟩))
       ·refine zs b31 rfl ?_
        iterate 8 refine zs b31 rfl ?_
        refine zf b31 rfl (zq tb rfl ?_)
        exact AO.done (M29 false (Sh.some_eq h1).symm _ (Wk.permk (L := [(6, (.bool false))]) (st' := [⟨0, 3, 1, [[(i64 s0_0)]]⟩, ⟨0, 77, 5, [[(ls eI s1_0), (ls eI s1_1), (i64 s1_2), (i64 s1_3), (ls eRInstr s1_4)]]⟩]) (st1 := [⟨0, 3, 1, [[(i64 s0_0)]]⟩, ⟨0, 77, 5, [[(ls eI s1_0), (ls eI s1_1), (i64 s1_2), (i64 s1_3), (ls eRInstr s1_4)]]⟩]) [0, 1] rfl (.raw rfl rfl (.raw rfl rfl .nil)) (by decide) rfl rfl (.raw rfl rfl (.raw rfl rfl .nil)) ⟨.rfl, trivial⟩))
      ·refine zs b30 rfl ?_
       iterate 5 refine zs b30 rfl ?_
       refine zf b30 rfl (zq tb rfl ?_)
       iterate 9 refine zs rfl rfl ?_
       refine zf rfl rfl (zq tb rfl ?_)
       exact AO.done (M29 false (Sh.some_eq h1).symm _ (Wk.permk (L := [(6, (.bool false))]) (st' := [⟨0, 3, 1, [[(i64 s0_0)]]⟩, ⟨0, 77, 5, [[(ls eI s1_0), (ls eI s1_1), (i64 s1_2), (i64 s1_3), (ls eRInstr s1_4)]]⟩]) (st1 := [⟨0, 3, 1, [[(i64 s0_0)]]⟩, ⟨0, 77, 5, [[(ls eI s1_0), (ls eI s1_1), (i64 s1_2), (i64 s1_3), (ls eRInstr s1_4)]]⟩]) [0, 1] rfl (.raw rfl rfl (.raw rfl rfl .nil)) (by decide) rfl rfl (.raw rfl rfl (.raw rfl rfl .nil)) ⟨.rfl, trivial⟩))
     ·intro b26 h0
      refine zr tb rfl rfl ?_
      refine ci h0 rfl ?_ ?_ <;> clear h0
      ·intro b34 h0
       refine AW.seq fun K35 hK35 => bs h0 fun o37 h1 h0 => ?_
       have M37 : ∀ (t36 : Bool), o37 = t36 → ∀ s, Wk 2 s ⟨109, envL [(6, (.bool t36))], [⟨0, 3, 1, [[(i64 s0_0)]]⟩, ⟨0, 77, 5, [[(ls eI s1_0), (ls eI s1_1), (i64 s1_2), (i64 s1_3), (ls eRInstr s1_4)]]⟩]⟩ → K35 s := by
        intro t36 hq s hw
        subst o37
        try dsimp only at h0
        refine hK35 _ (AW.weaken hw ?_)
        replace h0 := Sh.some_eq h0
        subst r
        exact AW.ret (xr (Wk.to (L := [(6, (.bool t36))]) ⟨.rfl, trivial⟩))
       refine AW.regionO rfl (zm tb 4 rfl ?_)
       rcases Sh.ite_some h1 with ⟨b38, h1⟩ | ⟨b38, h1⟩
       ·refine zg tb b38 rfl (zg tb b38 rfl (zg tb b38 rfl (zt b38 rfl (zq tb rfl ?_))))
        exact AO.done (M37 (decide (p1.num < 3)) (Sh.some_eq h1).symm _ (Wk.permk (L := [(6, (.bool (decide (p1.num < 3))))]) (st' := [⟨0, 3, 1, [[(i64 s0_0)]]⟩, ⟨0, 77, 5, [[(ls eI s1_0), (ls eI s1_1), (i64 s1_2), (i64 s1_3), (ls eRInstr s1_4)]]⟩]) (st1 := [⟨0, 3, 1, [[(i64 s0_0)]]⟩, ⟨0, 77, 5, [[(ls eI s1_0), (ls eI s1_1), (i64 s1_2), (i64 s1_3), (ls eRInstr s1_4)]]⟩]) [0, 1] rfl (.raw rfl rfl (.raw rfl rfl .nil)) (by decide) rfl rfl (.raw rfl rfl (.raw rfl rfl .nil)) ⟨.rfl, trivial⟩))
       ·refine zs b38 rfl (zs b38 rfl (zs b38 rfl (zf b38 rfl (zq tb rfl ?_))))
        exact AO.done (M37 false (Sh.some_eq h1).symm _ (Wk.permk (L := [(6, (.bool false))]) (st' := [⟨0, 3, 1, [[(i64 s0_0)]]⟩, ⟨0, 77, 5, [[(ls eI s1_0), (ls eI s1_1), (i64 s1_2), (i64 s1_3), (ls eRInstr s1_4)]]⟩]) (st1 := [⟨0, 3, 1, [[(i64 s0_0)]]⟩, ⟨0, 77, 5, [[(ls eI s1_0), (ls eI s1_1), (i64 s1_2), (i64 s1_3), (ls eRInstr s1_4)]]⟩]) [0, 1] rfl (.raw rfl rfl (.raw rfl rfl .nil)) (by decide) rfl rfl (.raw rfl rfl (.raw rfl rfl .nil)) ⟨.rfl, trivial⟩))
      ·intro b34 h0
       refine AW.seq fun K39 hK39 => bs h0 fun o41 h1 h0 => ?_
       have M41 : ∀ (t40 : Bool), o41 = t40 → ∀ s, Wk 2 s ⟨109, envL [(2, (.fn 65 [(.ptr 0 0 0 0), (.ptr 1 0 0 0)])), (3, (.ptr 2 0 0 0)), (4, (.ptr 3 0 0 0)), (9, (i64 p1.op)), (81, (.bool t40))], [⟨0, 3, 1, [[(i64 s0_0)]]⟩, ⟨0, 77, 5, [[(ls eI s1_0), (ls eI s1_1), (i64 s1_2), (i64 s1_3), (ls eRInstr s1_4)]]⟩, ⟨0, 88, 2, [(eRSignatures p0)]⟩, ⟨0, 92, 6, [(eRInstr p1)]⟩]⟩ → K39 s := by
        intro t40 hq s hw
        subst o41
        try dsimp only at h0
        refine hK39 _ (AW.weaken hw ?_)
        refine ci h0 rfl ?_ ?_ <;> clear h0
        ·intro b42 h0
         refine sr rfl fun K43 hK43 => zm tb 3 rfl (bs h0 fun q44 gq44 h0 => ?_)
         refine ao_callst (rowsP := [⟨0, 3, 1, [[(i64 s0_0)]]⟩, ⟨0, 77, 5, [[(ls eI s1_0), (ls eI s1_1), (i64 s1_2), (i64 s1_3), (ls eRInstr s1_4)]]⟩]) (rows0 := [⟨0, 3, 1, [[(i64 s0_0)]]⟩, ⟨0, 77, 5, [[(ls eI s1_0), (ls eI s1_1), (i64 s1_2), (i64 s1_3), (ls eRInstr s1_4)]]⟩]) (rows1 := [⟨0, 3, 1, [[(i64 s0_0)]]⟩, ⟨0, 77, 5, [[(ls eI s1_0), (ls eI s1_1), (i64 s1_2), (i64 s1_3), (ls eRInstr s1_4)]]⟩]) (rows2 := []) (rows1' := [⟨0, 3, 1, [[(i64 s0_0)]]⟩, ⟨0, 77, 5, [[(ls eI s1_0), (ls eI s1_1), (i64 s1_2), (i64 s1_3), (ls eRInstr s1_4)]]⟩]) (rows2' := []) (st' := [⟨0, 3, 1, [[(i64 s0_0)]]⟩, ⟨0, 77, 5, [[(ls eI s1_0), (ls eI s1_1), (i64 s1_2), (i64 s1_3), (ls eRInstr s1_4)]]⟩, ⟨0, 88, 2, [(eRSignatures p0)]⟩, ⟨0, 92, 6, [(eRInstr p1)]⟩]) (v' := (.bool q44)) [0, 1] go0 rfl hb65 (impl_signatures_instrValid_1_ok gq44) rfl (by decide) rfl rfl (.raw rfl rfl (.raw rfl rfl .nil)) rfl rfl (.raw rfl rfl (.raw rfl rfl .nil)) .nil rfl rfl ?_
         refine zq tb rfl (dn hK43 rfl ?_)
         replace h0 := Sh.some_eq h0
         subst r
         exact AW.ret (xr (Wk.permk (L := [(6, (.bool q44))]) (st' := [⟨0, 3, 1, [[(i64 s0_0)]]⟩, ⟨0, 77, 5, [[(ls eI s1_0), (ls eI s1_1), (i64 s1_2), (i64 s1_3), (ls eRInstr s1_4)]]⟩]) (st1 := [⟨0, 3, 1, [[(i64 s0_0)]]⟩, ⟨0, 77, 5, [[(ls eI s1_0), (ls eI s1_1), (i64 s1_2), (i64 s1_3), (ls eRInstr s1_4)]]⟩]) [0, 1] rfl (.raw rfl rfl (.raw rfl rfl .nil)) (by decide) rfl rfl (.raw rfl rfl (.raw rfl rfl .nil)) ⟨.rfl, trivial⟩))
        ·intro b42 h0
         refine zr tb rfl rfl ?_
         refine ci h0 rfl ?_ ?_ <;> clear h0
         ·intro b46 h0
          refine sr rfl fun K47 hK47 => zm tb 4 rfl (bs h0 fun q48 gq48 h0 => ao_call (v' := (ow 4 0 q48)) (st' := [⟨0, 3, 1, [[(i64 s0_0)]]⟩, ⟨0, 77, 5, [[(ls eI s1_0), (ls eI s1_1), (i64 s1_2), (i64 s1_3), (ls eRInstr s1_4)]]⟩, ⟨0, 88, 2, [(eRSignatures p0)]⟩, ⟨0, 92, 6, [(eRInstr p1)]⟩, (ro 0 3 1 eI q48)]) go0 hb88 (impl_consOf_ok gq48) rfl rfl ⟨(pure_map' fun _ => rfl), trivial⟩ rfl rfl (zq tb rfl (dn hK47 rfl (AW.seq fun K49 hK49 => bs h0 fun o51 h1 h0 => ?_))))
          have M51 : ∀ (t50 : Bool), o51 = t50 → ∀ s, Wk 2 s ⟨109, envL [(6, (.bool t50))], [⟨0, 3, 1, [[(i64 s0_0)]]⟩, ⟨0, 77, 5, [[(ls eI s1_0), (ls eI s1_1), (i64 s1_2), (i64 s1_3), (ls eRInstr s1_4)]]⟩]⟩ → K49 s := by
           intro t50 hq s hw
           subst o51
           try dsimp only at h0
           refine hK49 _ (AW.weaken hw ?_)
           replace h0 := Sh.some_eq h0
           subst r
           exact AW.ret (xr (Wk.to (L := [(6, (.bool t50))]) ⟨.rfl, trivial⟩))
          refine AW.regionO rfl (zq tb rfl (zz (i64 (Sh.len q48)) (aq_leno sl27 rfl rfl rfl) rfl (zm tb 2 rfl ?_)))
          rcases Sh.ite_some h1 with ⟨b52, h1⟩ | ⟨b52, h1⟩
          ·refine zg tb b52 rfl (zg tb b52 rfl (ao_q (v := (i64 (Sh.len p1.jumps))) (go1 rfl rfl b52) rfl (aq_lens sl27 rfl) (zg tb b52 rfl (ao_q (v := (i64 (Sh.len q48))) (go1 rfl rfl b52) rfl (aq_leno sl27 rfl rfl rfl) (zg tb b52 rfl (zt b52 rfl (zq tb rfl ?_)))))))
           exact AO.done (M51 (decide ((Sh.len p1.jumps) = (Sh.len q48))) (Sh.some_eq h1).symm _ (Wk.permk (L := [(6, (.bool (decide ((Sh.len p1.jumps) = (Sh.len q48)))))]) (st' := [⟨0, 3, 1, [[(i64 s0_0)]]⟩, ⟨0, 77, 5, [[(ls eI s1_0), (ls eI s1_1), (i64 s1_2), (i64 s1_3), (ls eRInstr s1_4)]]⟩]) (st1 := [⟨0, 3, 1, [[(i64 s0_0)]]⟩, ⟨0, 77, 5, [[(ls eI s1_0), (ls eI s1_1), (i64 s1_2), (i64 s1_3), (ls eRInstr s1_4)]]⟩]) [0, 1] rfl (.raw rfl rfl (.raw rfl rfl .nil)) (by decide) rfl rfl (.raw rfl rfl (.raw rfl rfl .nil)) ⟨.rfl, trivial⟩))
          ·refine zs b52 rfl ?_
           iterate 5 refine zs b52 rfl ?_
           refine zf b52 rfl (zq tb rfl ?_)
           exact AO.done (M51 false (Sh.some_eq h1).symm _ (Wk.permk (L := [(6, (.bool false))]) (st' := [⟨0, 3, 1, [[(i64 s0_0)]]⟩, ⟨0, 77, 5, [[(ls eI s1_0), (ls eI s1_1), (i64 s1_2), (i64 s1_3), (ls eRInstr s1_4)]]⟩]) (st1 := [⟨0, 3, 1, [[(i64 s0_0)]]⟩, ⟨0, 77, 5, [[(ls eI s1_0), (ls eI s1_1), (i64 s1_2), (i64 s1_3), (ls eRInstr s1_4)]]⟩]) [0, 1] rfl (.raw rfl rfl (.raw rfl rfl .nil)) (by decide) rfl rfl (.raw rfl rfl (.raw rfl rfl .nil)) ⟨.rfl, trivial⟩))
         ·intro b46 h0
          refine AW.skip (hK2 _ (zr tb rfl rfl ?_))
          replace h0 := Sh.some_eq h0
          subst r
          exact AW.ret (xr (Wk.permk (L := [(6, (.bool (decide (p1.num = 0))))]) (st' := [⟨0, 3, 1, [[(i64 s0_0)]]⟩, ⟨0, 77, 5, [[(ls eI s1_0), (ls eI s1_1), (i64 s1_2), (i64 s1_3), (ls eRInstr s1_4)]]⟩]) (st1 := [⟨0, 3, 1, [[(i64 s0_0)]]⟩, ⟨0, 77, 5, [[(ls eI s1_0), (ls eI s1_1), (i64 s1_2), (i64 s1_3), (ls eRInstr s1_4)]]⟩]) [0, 1] rfl (.raw rfl rfl (.raw rfl rfl .nil)) (by decide) rfl rfl (.raw rfl rfl (.raw rfl rfl .nil)) ⟨.rfl, trivial⟩))
       refine zr tb rfl rfl ?_
       refine ci h1 rfl ?_ ?_ <;> clear h1
       ·intro b55 h1
        exact AW.skip (M41 true (Sh.some_eq h1).symm _ (Wk.to (L := [(2, (.fn 65 [(.ptr 0 0 0 0), (.ptr 1 0 0 0)])), (3, (.ptr 2 0 0 0)), (4, (.ptr 3 0 0 0)), (9, (i64 p1.op)), (81, (.bool true))]) ⟨.rfl, .rfl, .rfl, .rfl, (.of (congrArg AV.bool b55)), trivial⟩))
       ·intro b55 h1
        exact AW.regionO rfl (zm tb 2 rfl (AO.done (M41 (decide (p1.op = 22)) (Sh.some_eq h1).symm _ (Wk.tr rfl))))
   refine zr tb rfl rfl ?_
   refine ci h1 rfl ?_ ?_ <;> clear h1
   ·intro b57 h1
    exact AW.skip (M19 true (Sh.some_eq h1).symm _ (Wk.to (L := [(2, (.fn 65 [(.ptr 0 0 0 0), (.ptr 1 0 0 0)])), (3, (.ptr 2 0 0 0)), (4, (.ptr 3 0 0 0)), (9, (i64 p1.op)), (33, (.bool true))]) ⟨.rfl, .rfl, .rfl, .rfl, (.of (congrArg AV.bool b57)), trivial⟩))
   ·intro b57 h1
    exact AW.regionO rfl (zm tb 2 rfl (AO.done (M19 (decide (p1.op = 24)) (Sh.some_eq h1).symm _ (Wk.tr rfl))))
theorem impl_conAt_ok {N : Nat} {p0 : (List RDecl)} {p1 : Int} {r : Int × RCon} (h0 : impl_conAt N p0 p1 = some r) : ACalls Try.prog 94 [(ls eRDecl p0), (i64 p1)] [] (fun v st => v = (.tup [(i64 r.1), (.agg (eRCon r.2))]) ∧ st = []) := by
 unfold impl_conAt at h0
 refine ACalls.flat rfl (ai Try.func94 rfl rfl rfl rfl (sr rfl fun K1 hK1 => zq tb rfl (ao_alloc (m := 0) (st' := [⟨0, 128, 1, [[.zc]]⟩]) go0 zi128 rfl rfl (dn hK1 rfl (AW.seq fun K2 hK2 => sr rfl fun K3 hK3 => zq tb rfl (zl tb rfl rfl (zq tb rfl (dn hK3 rfl ?_))))))))
 obtain ⟨o6, h1, h0⟩ := Sh.cont_some h0
 have M6 : ∀ (_ : Unit), o6 = Sum.inr () → ∀ s, Wk 0 s ⟨38, envL [(5, (.ptr 0 0 0 0))], [⟨0, 128, 1, [[.zc]]⟩]⟩ → K2 s := by
  intro _ hq s hw
  subst o6
  try dsimp only at h0
  refine hK2 _ (AW.weaken hw (sr rfl fun K7 hK7 => zz (.agg [.zc]) (aq_bd ai128 bi128 zi128 rfl rfl) rfl (zq tb rfl (ao_str (st' := [⟨0, 128, 1, [[.zc]]⟩]) go0 ti128 rfl rfl rfl rfl rfl rfl (show 0 + 1 ≤ 1 by decide) rfl (dn hK7 rfl ?_)))))
  replace h0 := Sh.some_eq h0
  subst r
  exact AW.ret (Exists.intro _ (And.intro ((Wk.cellLe (id := 0) (cs := [.zc]) (cs' := [(.sl (List.map eI []))]) (st' := [⟨0, 128, 1, [[(.sl (List.map eI []))]]⟩]) rfl ⟨le.zc, trivial⟩ rfl rfl).trans (Wk.to (L := [(4, (i64 (-1))), (5, (.ptr 0 0 0 0))]) ⟨.rfl, .rfl, trivial⟩)) (aq_ldpa (x := .tmp 5) (off := 0) (cs := [(.sl (List.map eI []))]) (vs := [(.sl (List.map eI []))]) ti128 rfl rfl rfl (show 0 + 1 ≤ 1 by decide) rfl _ rfl)))
 refine AW.block (AW.loopF (σ := Int × Int) (fun n v => impl_conAt_L1 p0 n v.1 v.2 = some o6) (fun (c4, t5) => ⟨38, envL [(1, (i64 c4)), (5, (.ptr 0 0 0 0)), (8, (ls eRDecl p0)), (9, (i64 (Sh.len p0))), (10, (i64 t5))], [⟨0, 128, 1, [[.zc]]⟩]⟩) N (p1, 0) h1 (Wk.tr rfl) (fun _ hv => by rw [impl_conAt_L1] at hv; cases hv) ?_)
 rintro n ⟨c4, t5⟩ h1
 try dsimp only at h1 ⊢
 rw [impl_conAt_L1] at h1
 refine zr tb rfl rfl (AW.seq fun K9 hK9 => ?_)
 refine ci h1 rfl ?_ ?_ <;> clear h1
 ·intro b10 h1
  refine AW.skip (hK9 _ (AW.seq fun K11 hK11 => AW.block (sr rfl fun K12 hK12 => zq tb rfl (bs h1 fun c13 gc13 h1 => zx ei34 gc13 rfl rfl rfl (zq tb rfl (ao_alloc (m := 1) (st' := [⟨0, 128, 1, [[.zc]]⟩, ⟨0, 83, 3, [[(i64 0), (i64 0), .zc]]⟩]) go0 zi83 rfl rfl (zq tb rfl (ao_str (st' := [⟨0, 128, 1, [[.zc]]⟩, ⟨0, 83, 3, [(eRDecl c13)]⟩]) go0 ti83 rfl rfl rfl rfl rfl rfl (show 0 + 3 ≤ 3 by decide) rfl (dn hK12 rfl ?_)))))))))
  refine AW.seq fun K14 hK14 => AW.seq fun K15 hK15 => bs h1 fun o17 h2 h1 => ?_
  have M17 : ∀ (t16 : Bool), o17 = t16 → ∀ s, Wk 0 s ⟨38, envL [(1, (i64 c4)), (5, (.ptr 0 0 0 0)), (6, (i64 t5)), (7, (.ptr 1 0 0 0)), (8, (ls eRDecl p0)), (9, (i64 (Sh.len p0))), (10, (i64 t5)), (23, (.bool t16))], [⟨0, 128, 1, [[.zc]]⟩, ⟨0, 83, 3, [(eRDecl c13)]⟩]⟩ → K15 s := by
   intro t16 hq s hw
   subst o17
   try dsimp only at h1
   refine hK15 _ (AW.weaken hw ?_)
   refine ci h1 rfl ?_ ?_ <;> clear h1
   ·intro b18 h1
    refine AW.seq fun K19 hK19 => ?_
    refine AW.drawTailO 8 (by kernel_rfl) (by kernel_rfl) (by rfl) ?_
    iterate 5 refine yq tb rfl ?_
    refine bs h1 fun c20 gc20 h1 => yx ei81 gc20 rfl rfl rfl ?_
    iterate 2 refine yq tb rfl ?_
    refine d_done (ao_str (st' := [⟨0, 128, 1, [(eRCon c20)]⟩, ⟨0, 83, 3, [(eRDecl c13)]⟩]) go0 ti128 rfl rfl rfl rfl rfl rfl (show 0 + 1 ≤ 1 by decide) rfl (dn hK19 rfl ?_))
    replace h1 := Sh.some_eq h1
    subst o6
    try dsimp only [id] at h0
    replace h0 := Sh.some_eq h0
    subst r
    exact AW.ret (Exists.intro _ (And.intro ((Wk.permk (L := [(4, (i64 (Sh.w (t5 + 1)))), (5, (.ptr 0 0 0 0))]) (st' := [⟨0, 128, 1, [(eRCon c20)]⟩]) (st1 := [⟨0, 128, 1, [(eRCon c20)]⟩]) [0] rfl .nil (by decide) rfl rfl (.raw rfl rfl .nil) ⟨.rfl, .rfl, trivial⟩).trans (Wk.to (L := [(4, (i64 (Sh.w (t5 + 1)))), (5, (.ptr 0 0 0 0))]) ⟨.rfl, .rfl, trivial⟩)) (aq_ldpa (x := .tmp 5) (off := 0) (cs := (eRCon c20)) (vs := (eRCon c20)) ti128 rfl rfl rfl (show 0 + 1 ≤ 1 by decide) rfl _ rfl)))
   ·intro b18 h1
    refine AW.skip (hK14 _ (AW.regionO rfl (zm tb 3 rfl (zl tb rfl rfl (zm tb 2 rfl (dn hK11 rfl (AW.regionO rfl (zm tb 2 rfl ?_))))))))
    exact AO.done (xi (Sh.w (c4 - (Sh.len c13.cons)), Sh.w (t5 + 1)) h1 (Wk.permk (L := [(1, (i64 (Sh.w (c4 - (Sh.len c13.cons))))), (5, (.ptr 0 0 0 0)), (8, (ls eRDecl p0)), (9, (i64 (Sh.len p0))), (10, (i64 (Sh.w (t5 + 1))))]) (st' := [⟨0, 128, 1, [[.zc]]⟩]) (st1 := [⟨0, 128, 1, [[.zc]]⟩]) [0] rfl .nil (by decide) rfl rfl (.raw rfl rfl .nil) ⟨.rfl, .rfl, .rfl, .rfl, .rfl, trivial⟩))
  refine AW.regionO rfl (zm tb 3 rfl ?_)
  rcases Sh.ite_some h2 with ⟨b21, h2⟩ | ⟨b21, h2⟩
  ·exact zg tb b21 rfl (zg tb b21 rfl (zg tb b21 rfl (ao_q (v := (i64 (Sh.len c13.cons))) (go1 rfl rfl b21) rfl (aq_lens sl81 rfl) (zg tb b21 rfl (zt b21 rfl (AO.done (M17 (decide (c4 < (Sh.len c13.cons))) (Sh.some_eq h2).symm _ (Wk.tr rfl))))))))
  ·refine zs b21 rfl ?_
   iterate 4 refine zs b21 rfl ?_
   exact zf b21 rfl (AO.done (M17 false (Sh.some_eq h2).symm _ (Wk.tr rfl)))
 ·intro b10 h1
  exact AW.exit (M6 () (Sh.some_eq h1).symm _ (Wk.tr rfl))
theorem impl_fieldsOf_ok {N : Nat} {p0 : (List RDecl)} {p1 : Int} {r : (List Int)} (h0 : impl_fieldsOf N p0 p1 = some r) : ACalls Try.prog 89 [(ls eRDecl p0), (i64 p1)] [] (fun v st => v = (ls eI r) ∧ st = []) := by
 unfold impl_fieldsOf at h0
 refine ai Try.func89 rfl rfl rfl rfl (zr tb rfl rfl (sr rfl fun K2 hK2 => zm tb 2 rfl (bs h0 fun q3 gq3 h0 => zc (v' := (.tup [(i64 q3.1), (.agg (eRCon q3.2))])) hb94 (impl_conAt_ok gq3) rfl rfl rfl (zm tb 3 rfl (ao_alloc (m := 0) (st' := [⟨0, 128, 1, [[.zc]]⟩]) go0 zi128 rfl rfl (zq tb rfl (ao_str (st' := [⟨0, 128, 1, [(eRCon q3.2)]⟩]) go0 ti128 rfl rfl rfl rfl rfl rfl (show 0 + 1 ≤ 1 by decide) rfl (dn hK2 rfl (zr tb rfl rfl ?_)))))))))
 replace h0 := Sh.some_eq h0
 subst r
 exact AW.ret (xr (Wk.d0 [(4, (ls eI q3.2.fields))] rfl))
theorem impl_signatures_argsOf_ok {N : Nat} {p0 : RSignatures} {p1 : RInstr} {r : Int × Int} (h0 : impl_signatures_argsOf N p0 p1 = some r) : ACalls Try.prog 69 [(.agg (eRSignatures p0)), (.agg (eRInstr p1))] [] (fun v st => v = (.tup [(i64 r.1), (i64 r.2)]) ∧ st = []) := by
 unfold impl_signatures_argsOf at h0
 refine ai Try.func69 rfl rfl rfl rfl (sr rfl fun K1 hK1 => ao_box (m := 0) (st' := [⟨0, 88, 2, [(eRSignatures p0)]⟩]) go0 rfl rfl rfl rfl rfl (ao_box (m := 1) (st' := [⟨0, 88, 2, [(eRSignatures p0)]⟩, ⟨0, 92, 6, [(eRInstr p1)]⟩]) go0 rfl rfl rfl rfl rfl (zm tb 2 rfl (dn hK1 rfl (zr tb rfl rfl (AW.seq fun K3 hK3 => ?_))))))
 obtain ⟨o5, h1, h0⟩ := Sh.cont_some h0
 have M5 : ∀ (n4 : Int), o5 = Sum.inr n4 → ∀ s, Wk 0 s ⟨53, envL [(6, (i64 n4))], []⟩ → K3 s := by
  intro n4 hq s hw
  subst o5
  try dsimp only at h0
  refine hK3 _ (AW.weaken hw (zr tb rfl rfl ?_))
  replace h0 := Sh.some_eq h0
  subst r
  exact AW.ret (xr (Wk.to (L := [(4, (i64 n4)), (5, (i64 n4))]) ⟨.rfl, .rfl, trivial⟩))
 refine zr tb rfl rfl (AW.block (AW.seq fun K8 hK8 => bs h1 fun o10 h2 h1 => ?_))
 have M10 : ∀ (t9 : Bool), o10 = t9 → ∀ s, Wk 0 s ⟨53, envL [(2, (.ptr 0 0 0 0)), (3, (.ptr 1 0 0 0)), (6, (i64 1)), (8, (i64 p1.op)), (9, (.bool t9))], [⟨0, 88, 2, [(eRSignatures p0)]⟩, ⟨0, 92, 6, [(eRInstr p1)]⟩]⟩ → K8 s := by
  intro t9 hq s hw
  subst o10
  try dsimp only at h1
  refine hK8 _ (AW.weaken hw ?_)
  refine ci h1 rfl ?_ ?_ <;> clear h1
  ·intro b11 h1
   exact AW.regionO rfl (zq tb rfl (AO.done (M5 0 (Sh.some_eq h1).symm _ (Wk.d0 _ rfl))))
  ·intro b11 h1
   refine AW.seq fun K12 hK12 => bs h1 fun o14 h2 h1 => ?_
   have M14 : ∀ (t13 : Bool), o14 = t13 → ∀ s, Wk 0 s ⟨53, envL [(2, (.ptr 0 0 0 0)), (3, (.ptr 1 0 0 0)), (6, (i64 1)), (8, (i64 p1.op)), (12, (.bool t13))], [⟨0, 88, 2, [(eRSignatures p0)]⟩, ⟨0, 92, 6, [(eRInstr p1)]⟩]⟩ → K12 s := by
    intro t13 hq s hw
    subst o14
    try dsimp only at h1
    refine hK12 _ (AW.weaken hw ?_)
    refine ci h1 rfl ?_ ?_ <;> clear h1
    ·intro b15 h1
     exact AW.regionO rfl (zq tb rfl (AO.done (M5 2 (Sh.some_eq h1).symm _ (Wk.d0 _ rfl))))
    ·intro b15 h1
     refine zr tb rfl rfl ?_
     refine ci h1 rfl ?_ ?_ <;> clear h1
     ·intro b17 h1
      exact AW.regionO rfl (zm tb 4 rfl (bs h1 fun q18 gq18 h1 => zc hb89 (impl_fieldsOf_ok gq18) rfl rfl rfl (zl tb rfl rfl (zq tb rfl (AO.done (M5 (Sh.len q18) (Sh.some_eq h1).symm _ (Wk.d0 _ rfl)))))))
     ·intro b17 h1
      refine AW.seq fun K19 hK19 => bs h1 fun o21 h2 h1 => ?_
      have M21 : ∀ (t20 : Bool), o21 = t20 → ∀ s, Wk 0 s ⟨53, envL [(2, (.ptr 0 0 0 0)), (3, (.ptr 1 0 0 0)), (6, (i64 1)), (8, (i64 p1.op)), (26, (.bool t20))], [⟨0, 88, 2, [(eRSignatures p0)]⟩, ⟨0, 92, 6, [(eRInstr p1)]⟩]⟩ → K19 s := by
       intro t20 hq s hw
       subst o21
       try dsimp only at h1
       refine hK19 _ (AW.weaken hw ?_)
       refine ci h1 rfl ?_ ?_ <;> clear h1
       ·intro b22 h1
        exact AW.regionO rfl (zm tb 4 rfl (bs h1 fun c23 gc23 h1 => zx ei86 gc23 rfl rfl rfl (zm tb 2 rfl (zl tb rfl rfl (zq tb rfl (AO.done (M5 (Sh.len c23.params) (Sh.some_eq h1).symm _ (Wk.d0 _ rfl))))))))
       ·intro b22 h1
        refine zr tb rfl rfl ?_
        refine ci h1 rfl ?_ ?_ <;> clear h1
        ·intro b25 h1
         exact AW.regionO rfl (zm tb 4 rfl (bs h1 fun c26 gc26 h1 => zx ei86 gc26 rfl rfl rfl (zm tb 2 rfl (zl tb rfl rfl (zm tb 2 rfl (AO.done (M5 (Sh.w ((Sh.len c26.params) - 1)) (Sh.some_eq h1).symm _ (Wk.d0 _ rfl))))))))
        ·intro b25 h1
         refine AW.seq fun K27 hK27 => bs h1 fun o29 h2 h1 => ?_
         have M29 : ∀ (t28 : Bool), o29 = t28 → ∀ s, Wk 0 s ⟨53, envL [(6, (i64 1)), (48, (.bool t28))], []⟩ → K27 s := by
          intro t28 hq s hw
          subst o29
          try dsimp only at h1
          refine hK27 _ (AW.weaken hw ?_)
          refine ci h1 rfl ?_ ?_ <;> clear h1
          ·intro b30 h1
           refine zr tb rfl rfl ?_
           replace h1 := Sh.some_eq h1
           subst o5
           try dsimp only [id] at h0
           replace h0 := Sh.some_eq h0
           subst r
           exact AW.ret (xr (Wk.to (L := [(4, (i64 1)), (5, (i64 4))]) ⟨.rfl, .rfl, trivial⟩))
          ·intro b30 h1
           exact AW.skip (M5 1 (Sh.some_eq h1).symm _ (Wk.tr rfl))
         refine zr tb rfl rfl ?_
         refine ci h2 rfl ?_ ?_ <;> clear h2
         ·intro b33 h2
          exact AW.skip (M29 true (Sh.some_eq h2).symm _ (by refine Wk.trans (Wk.permk (L := [(6, (i64 1)), (48, (.bool (decide (p1.op = 16))))]) (st' := []) (st1 := []) [] rfl .nil (by decide) rfl rfl .nil ⟨.rfl, .rfl, trivial⟩) ?_; exact Wk.to (L := [(6, (i64 1)), (48, (.bool true))]) ⟨.rfl, (.of (congrArg AV.bool b33)), trivial⟩))
         ·intro b33 h2
          exact AW.regionO rfl (zm tb 2 rfl (AO.done (M29 (decide (p1.op = 17)) (Sh.some_eq h2).symm _ (Wk.d0 _ rfl))))
      refine zr tb rfl rfl ?_
      refine ci h2 rfl ?_ ?_ <;> clear h2
      ·intro b35 h2
       exact AW.skip (M21 true (Sh.some_eq h2).symm _ (Wk.to (L := [(2, (.ptr 0 0 0 0)), (3, (.ptr 1 0 0 0)), (6, (i64 1)), (8, (i64 p1.op)), (26, (.bool true))]) ⟨.rfl, .rfl, .rfl, .rfl, (.of (congrArg AV.bool b35)), trivial⟩))
      ·intro b35 h2
       exact AW.regionO rfl (zm tb 2 rfl (AO.done (M21 (decide (p1.op = 24)) (Sh.some_eq h2).symm _ (Wk.tr rfl))))
   refine zr tb rfl rfl ?_
   refine ci h2 rfl ?_ ?_ <;> clear h2
   ·intro b37 h2
    exact AW.skip (M14 true (Sh.some_eq h2).symm _ (Wk.to (L := [(2, (.ptr 0 0 0 0)), (3, (.ptr 1 0 0 0)), (6, (i64 1)), (8, (i64 p1.op)), (12, (.bool true))]) ⟨.rfl, .rfl, .rfl, .rfl, (.of (congrArg AV.bool b37)), trivial⟩))
   ·intro b37 h2
    refine zr tb rfl rfl ?_
    refine ci h2 rfl ?_ ?_ <;> clear h2
    ·intro b39 h2
     exact AW.skip (M14 true (Sh.some_eq h2).symm _ (Wk.to (L := [(2, (.ptr 0 0 0 0)), (3, (.ptr 1 0 0 0)), (6, (i64 1)), (8, (i64 p1.op)), (12, (.bool true))]) ⟨.rfl, .rfl, .rfl, .rfl, (.of (congrArg AV.bool b39)), trivial⟩))
    ·intro b39 h2
     refine zr tb rfl rfl ?_
     refine ci h2 rfl ?_ ?_ <;> clear h2
     ·intro b41 h2
      exact AW.skip (M14 true (Sh.some_eq h2).symm _ (Wk.to (L := [(2, (.ptr 0 0 0 0)), (3, (.ptr 1 0 0 0)), (6, (i64 1)), (8, (i64 p1.op)), (12, (.bool true))]) ⟨.rfl, .rfl, .rfl, .rfl, (.of (congrArg AV.bool b41)), trivial⟩))
     ·intro b41 h2
      refine zr tb rfl rfl ?_
      refine ci h2 rfl ?_ ?_ <;> clear h2
      ·intro b43 h2
       exact AW.skip (M14 true (Sh.some_eq h2).symm _ (Wk.to (L := [(2, (.ptr 0 0 0 0)), (3, (.ptr 1 0 0 0)), (6, (i64 1)), (8, (i64 p1.op)), (12, (.bool true))]) ⟨.rfl, .rfl, .rfl, .rfl, (.of (congrArg AV.bool b43)), trivial⟩))
      ·intro b43 h2
       exact AW.regionO rfl (zm tb 2 rfl (AO.done (M14 (decide (p1.op = 11)) (Sh.some_eq h2).symm _ (Wk.tr rfl))))
 refine zr tb rfl rfl ?_
 refine ci h2 rfl ?_ ?_ <;> clear h2
 ·intro b45 h2
  exact AW.skip (M10 true (Sh.some_eq h2).symm _ (Wk.to (L := [(2, (.ptr 0 0 0 0)), (3, (.ptr 1 0 0 0)), (6, (i64 1)), (8, (i64 p1.op)), (9, (.bool true))]) ⟨.rfl, .rfl, .rfl, .rfl, (.of (congrArg AV.bool b45)), trivial⟩))
 ·intro b45 h2
  exact AW.regionO rfl (zm tb 2 rfl (AO.done (M10 (decide (p1.op = 22)) (Sh.some_eq h2).symm _ (Wk.tr rfl))))
theorem impl_signatures_instrValid_ok {N : Nat} {p0 : RSignatures} {p1 : RProc} {p2 : Int} {p3 : RInstr} {r : Bool} (h0 : impl_signatures_instrValid N p0 p1 p2 p3 = some r) : ACalls Try.prog 44 [(.agg (eRSignatures p0)), (.agg (eRProc p1)), (i64 p2), (.agg (eRInstr p3))] [] (fun v st => v = (.bool r) ∧ st = []) := by
 unfold impl_signatures_instrValid at h0
 refine ai Try.func44 rfl rfl rfl rfl (sr rfl fun K1 hK1 => ao_box (m := 0) (st' := [⟨0, 88, 2, [(eRSignatures p0)]⟩]) go0 rfl rfl rfl rfl rfl (ao_box (m := 1) (st' := [⟨0, 88, 2, [(eRSignatures p0)]⟩, ⟨0, 77, 5, [(eRProc p1)]⟩]) go0 rfl rfl rfl rfl rfl (ao_box (m := 2) (st' := [⟨0, 88, 2, [(eRSignatures p0)]⟩, ⟨0, 77, 5, [(eRProc p1)]⟩, ⟨0, 3, 1, [[(i64 p2)]]⟩]) go0 rfl rfl rfl rfl rfl (ao_box (m := 3) (st' := [⟨0, 88, 2, [(eRSignatures p0)]⟩, ⟨0, 77, 5, [(eRProc p1)]⟩, ⟨0, 3, 1, [[(i64 p2)]]⟩, ⟨0, 92, 6, [(eRInstr p3)]⟩]) go0 rfl rfl rfl rfl rfl (zq tb rfl (dn hK1 rfl (AW.seq fun K2 hK2 => AW.seq fun K3 hK3 => bs h0 fun o5 h1 h0 => ?_)))))))
 have M5 : ∀ (t4 : Bool), o5 = t4 → ∀ s, Wk 0 s ⟨140, envL [(4, (.ptr 0 0 0 0)), (5, (.ptr 1 0 0 0)), (6, (.ptr 2 0 0 0)), (7, (.ptr 3 0 0 0)), (41, (.bool t4))], [⟨0, 88, 2, [(eRSignatures p0)]⟩, ⟨0, 77, 5, [(eRProc p1)]⟩, ⟨0, 3, 1, [[(i64 p2)]]⟩, ⟨0, 92, 6, [(eRInstr p3)]⟩]⟩ → K3 s := by
  intro t4 hq s hw
  subst o5
  try dsimp only at h0
  refine hK3 _ (AW.weaken hw ?_)
  refine ci h0 rfl ?_ ?_ <;> clear h0
  ·intro b6 h0
   refine zr tb rfl rfl ?_
   replace h0 := Sh.some_eq h0
   subst r
   exact AW.ret (xr (Wk.d0 [(8, (.bool false))] rfl))
  ·intro b6 h0
   refine AW.skip (hK2 _ (AW.seq fun K8 hK8 => AW.seq fun K9 hK9 => bs h0 fun o11 h1 h0 => ?_))
   have M11 : ∀ (t10 : Bool), o11 = t10 → ∀ s, Wk 0 s ⟨140, envL [(4, (.ptr 0 0 0 0)), (5, (.ptr 1 0 0 0)), (6, (.ptr 2 0 0 0)), (7, (.ptr 3 0 0 0)), (84, (.bool t10))], [⟨0, 88, 2, [(eRSignatures p0)]⟩, ⟨0, 77, 5, [(eRProc p1)]⟩, ⟨0, 3, 1, [[(i64 p2)]]⟩, ⟨0, 92, 6, [(eRInstr p3)]⟩]⟩ → K9 s := by
    intro t10 hq s hw
    subst o11
    try dsimp only at h0
    refine hK9 _ (AW.weaken hw ?_)
    refine ci h0 rfl ?_ ?_ <;> clear h0
    ·intro b12 h0
     refine zr tb rfl rfl ?_
     replace h0 := Sh.some_eq h0
     subst r
     exact AW.ret (xr (Wk.d0 [(8, (.bool false))] rfl))
    ·intro b12 h0
     refine AW.skip (hK8 _ (AW.seq fun K14 hK14 => sr rfl fun K15 hK15 => zm tb 2 rfl (zl tb rfl rfl (zq tb rfl (dn hK15 rfl ?_)))))
     obtain ⟨o17, h1, h0⟩ := Sh.cont_some h0
     have M17 : ∀ (_ : Unit), o17 = Sum.inr () → ∀ s, Wk 0 s ⟨140, envL [(4, (.ptr 0 0 0 0)), (5, (.ptr 1 0 0 0)), (6, (.ptr 2 0 0 0)), (7, (.ptr 3 0 0 0))], [⟨0, 88, 2, [(eRSignatures p0)]⟩, ⟨0, 77, 5, [(eRProc p1)]⟩, ⟨0, 3, 1, [[(i64 p2)]]⟩, ⟨0, 92, 6, [(eRInstr p3)]⟩]⟩ → K14 s := by
      intro _ hq s hw
      subst o17
      try dsimp only at h0
      refine hK14 _ (AW.weaken hw (sr rfl fun K18 hK18 => zz (.fn 65 [(.ptr 2 0 0 0), (.ptr 1 0 0 0)]) (aq_fn rfl) rfl (ao_alloc (m := 4) (st' := [⟨0, 88, 2, [(eRSignatures p0)]⟩, ⟨0, 77, 5, [(eRProc p1)]⟩, ⟨0, 3, 1, [[(i64 p2)]]⟩, ⟨0, 92, 6, [(eRInstr p3)]⟩, ⟨0, 120, 1, [[.nilf]]⟩]) go0 zi120 rfl rfl (ao_str (st' := [⟨0, 88, 2, [(eRSignatures p0)]⟩, ⟨0, 77, 5, [(eRProc p1)]⟩, ⟨0, 3, 1, [[(i64 p2)]]⟩, ⟨0, 92, 6, [(eRInstr p3)]⟩, ⟨0, 120, 1, [[(.fn 65 [(.ptr 2 0 0 0), (.ptr 1 0 0 0)])]]⟩]) go0 ti120 rfl rfl rfl rfl rfl rfl (show 0 + 1 ≤ 1 by decide) rfl (dn hK18 rfl (AW.seq fun K19 hK19 => AW.seq fun K20 hK20 => bs h0 fun o22 h1 h0 => ?_))))))
      have M22 : ∀ (t21 : Bool), o22 = t21 → ∀ s, Wk 0 s ⟨140, envL [(4, (.ptr 0 0 0 0)), (7, (.ptr 3 0 0 0)), (11, (.ptr 4 0 0 0)), (116, (.bool t21))], [⟨0, 88, 2, [(eRSignatures p0)]⟩, ⟨0, 77, 5, [(eRProc p1)]⟩, ⟨0, 3, 1, [[(i64 p2)]]⟩, ⟨0, 92, 6, [(eRInstr p3)]⟩, ⟨0, 120, 1, [[(.fn 65 [(.ptr 2 0 0 0), (.ptr 1 0 0 0)])]]⟩]⟩ → K20 s := by
       intro t21 hq s hw
       subst o22
       try dsimp only at h0
       refine hK20 _ (AW.weaken hw ?_)
       refine ci h0 rfl ?_ ?_ <;> clear h0
       ·intro b23 h0
        refine zr tb rfl rfl ?_
        replace h0 := Sh.some_eq h0
        subst r
        exact AW.ret (xr (Wk.d0 [(8, (.bool false))] rfl))
       ·intro b23 h0
        refine AW.skip (hK19 _ (AW.seq fun K25 hK25 => sr rfl fun K26 hK26 => zm tb 3 rfl (bs h0 fun q27 gq27 h0 => ?_)))
        refine ao_calls (rowsP := [⟨0, 3, 1, [[(i64 p2)]]⟩, ⟨0, 77, 5, [(eRProc p1)]⟩]) (rows0 := [⟨0, 3, 1, [[(i64 p2)]]⟩, ⟨0, 77, 5, [(eRProc p1)]⟩]) (rows1 := [⟨0, 3, 1, [[(i64 p2)]]⟩, ⟨0, 77, 5, [(eRProc p1)]⟩]) (rows2 := []) (rows1' := [⟨0, 3, 1, [[(i64 p2)]]⟩, ⟨0, 77, 5, [(eRProc p1)]⟩]) (rows2' := []) (st' := [⟨0, 88, 2, [(eRSignatures p0)]⟩, ⟨0, 77, 5, [(eRProc p1)]⟩, ⟨0, 3, 1, [[(i64 p2)]]⟩, ⟨0, 92, 6, [(eRInstr p3)]⟩, ⟨0, 120, 1, [[(.fn 65 [(.ptr 2 0 0 0), (.ptr 1 0 0 0)])]]⟩]) (v' := (.bool q27)) [2, 1] go0 hb68 (impl_signatures_numValid_ok gq27) rfl (by decide) rfl rfl (.raw rfl rfl (.raw rfl rfl .nil)) rfl rfl (.raw rfl rfl (.raw rfl rfl .nil)) .nil rfl rfl ?_
        refine zq tb rfl (dn hK26 rfl ?_)
        refine ci h0 rfl ?_ ?_ <;> clear h0
        ·intro b28 h0
         have b29 : q27 = false := by simpa using b28
         refine zr tb rfl rfl ?_
         replace h0 := Sh.some_eq h0
         subst r
         exact AW.ret (xr (Wk.d0 [(8, (.bool false))] rfl))
        ·intro b28 h0
         have b31 : q27 = true := by simpa using b28
         refine AW.skip (hK25 _ (sr rfl fun K32 hK32 => zm tb 2 rfl (bs h0 fun q33 gq33 h0 => zc (v' := (.tup [(i64 q33.1), (i64 q33.2)])) hb69 (impl_signatures_argsOf_ok gq33) rfl rfl rfl (zm tb 5 rfl (dn hK32 rfl (AW.seq fun K34 hK34 => bs h0 fun o36 h1 h0 => ?_))))))
         have M36 : ∀ (t35 : Bool), o36 = t35 → ∀ s, Wk 0 s ⟨140, envL [(8, (.bool t35))], []⟩ → K34 s := by
          intro t35 hq s hw
          subst o36
          try dsimp only at h0
          refine hK34 _ (AW.weaken hw ?_)
          replace h0 := Sh.some_eq h0
          subst r
          exact AW.ret (xr (Wk.to (L := [(8, (.bool t35))]) ⟨.rfl, trivial⟩))
         refine AW.regionO rfl (zm tb 2 rfl (zl tb rfl rfl (zm tb 3 rfl ?_)))
         rcases Sh.ite_some h1 with ⟨b37, h1⟩ | ⟨b37, h1⟩
         ·exact zg tb b37 rfl (zg tb b37 rfl (ao_q (v := (i64 (Sh.len p3.args))) (go1 rfl rfl b37) rfl (aq_lens sl27 rfl) (zg tb b37 rfl (zg tb b37 rfl (zt b37 rfl (zq tb rfl (AO.done (M36 (decide ((Sh.len p3.args) ≤ q33.2)) (Sh.some_eq h1).symm _ (Wk.d0 _ rfl)))))))))
         ·refine zs b37 rfl ?_
          iterate 4 refine zs b37 rfl ?_
          exact zf b37 rfl (zq tb rfl (AO.done (M36 false (Sh.some_eq h1).symm _ (Wk.d0 _ rfl))))
      refine AW.regionO rfl (zm tb 2 rfl (zl tb rfl rfl (zm tb 2 rfl ?_)))
      rcases Sh.ite_some h1 with ⟨b38, h1⟩ | ⟨b38, h1⟩
      ·refine zg tb b38 rfl (zg tb b38 rfl (zg tb b38 rfl (zt b38 rfl (zq tb rfl ?_))))
       rcases Sh.ite_some h1 with ⟨b39, h1⟩ | ⟨b39, h1⟩
       ·refine zs b39 rfl ?_
        iterate 3 refine zs b39 rfl ?_
        exact zt b39 rfl (AO.done (M22 true (Sh.some_eq h1).symm _ (Wk.tr rfl)))
       ·refine zg tb b39 rfl (zg tb b39 rfl (ao_q (v := (.fn 67 [(.ptr 4 0 0 0)])) (go1 rfl rfl b39) rfl (aq_fn rfl) (bs h1 fun q40 gq40 h1 => ?_)))
        refine ao_calls (rowsP := [⟨0, 120, 1, [[(.fn 65 [(.ptr 2 0 0 0), (.ptr 1 0 0 0)])]]⟩, ⟨0, 3, 1, [[(i64 p2)]]⟩, ⟨0, 77, 5, [(eRProc p1)]⟩]) (rows0 := [⟨0, 120, 1, [[(.fn 65 [(.ptr 1 0 0 0), (.ptr 2 0 0 0)])]]⟩, ⟨0, 3, 1, [[(i64 p2)]]⟩, ⟨0, 77, 5, [(eRProc p1)]⟩]) (rows1 := [⟨0, 120, 1, [[(.fn 65 [(.ptr 1 0 0 0), (.ptr 2 0 0 0)])]]⟩, ⟨0, 3, 1, [[(i64 p2)]]⟩, ⟨0, 77, 5, [(eRProc p1)]⟩]) (rows2 := []) (rows1' := [⟨0, 120, 1, [[(.fn 65 [(.ptr 2 0 0 0), (.ptr 1 0 0 0)])]]⟩, ⟨0, 3, 1, [[(i64 p2)]]⟩, ⟨0, 77, 5, [(eRProc p1)]⟩]) (rows2' := []) (st' := [⟨0, 88, 2, [(eRSignatures p0)]⟩, ⟨0, 77, 5, [(eRProc p1)]⟩, ⟨0, 3, 1, [[(i64 p2)]]⟩, ⟨0, 92, 6, [(eRInstr p3)]⟩, ⟨0, 120, 1, [[(.fn 65 [(.ptr 2 0 0 0), (.ptr 1 0 0 0)])]]⟩]) (v' := (.bool q40)) [4, 2, 1] (go1 rfl rfl b39) hb66 (slices_ContainsFunc_int_int_ok gq40) rfl (by decide) rfl rfl (.raw rfl rfl (.raw rfl rfl (.raw rfl rfl .nil))) rfl rfl (.raw rfl rfl (.raw rfl rfl (.raw rfl rfl .nil))) .nil rfl rfl ?_
        exact zf b39 rfl (AO.done (M22 q40 (Sh.some_eq h1).symm _ (Wk.tr rfl)))
      ·refine zs b38 rfl (zs b38 rfl (zs b38 rfl (zf b38 rfl (zq tb rfl (zg tb rfl rfl (zg tb rfl rfl (ao_q (v := (.fn 67 [(.ptr 4 0 0 0)])) (go1 rfl rfl rfl) rfl (aq_fn rfl) (bs h1 fun q41 gq41 h1 => ?_))))))))
       refine ao_calls (rowsP := [⟨0, 120, 1, [[(.fn 65 [(.ptr 2 0 0 0), (.ptr 1 0 0 0)])]]⟩, ⟨0, 3, 1, [[(i64 p2)]]⟩, ⟨0, 77, 5, [(eRProc p1)]⟩]) (rows0 := [⟨0, 120, 1, [[(.fn 65 [(.ptr 1 0 0 0), (.ptr 2 0 0 0)])]]⟩, ⟨0, 3, 1, [[(i64 p2)]]⟩, ⟨0, 77, 5, [(eRProc p1)]⟩]) (rows1 := [⟨0, 120, 1, [[(.fn 65 [(.ptr 1 0 0 0), (.ptr 2 0 0 0)])]]⟩, ⟨0, 3, 1, [[(i64 p2)]]⟩, ⟨0, 77, 5, [(eRProc p1)]⟩]) (rows2 := []) (rows1' := [⟨0, 120, 1, [[(.fn 65 [(.ptr 2 0 0 0), (.ptr 1 0 0 0)])]]⟩, ⟨0, 3, 1, [[(i64 p2)]]⟩, ⟨0, 77, 5, [(eRProc p1)]⟩]) (rows2' := []) (st' := [⟨0, 88, 2, [(eRSignatures p0)]⟩, ⟨0, 77, 5, [(eRProc p1)]⟩, ⟨0, 3, 1, [[(i64 p2)]]⟩, ⟨0, 92, 6, [(eRInstr p3)]⟩, ⟨0, 120, 1, [[(.fn 65 [(.ptr 2 0 0 0), (.ptr 1 0 0 0)])]]⟩]) (v' := (.bool q41)) [4, 2, 1] (go1 rfl rfl rfl) hb66 (slices_ContainsFunc_int_int_ok gq41) rfl (by decide) rfl rfl (.raw rfl rfl (.raw rfl rfl (.raw rfl rfl .nil))) rfl rfl (.raw rfl rfl (.raw rfl rfl (.raw rfl rfl .nil))) .nil rfl rfl ?_
       exact zf rfl rfl (AO.done (M22 q41 (Sh.some_eq h1).symm _ (Wk.tr rfl)))
     refine AW.block (AW.loopF (σ := Int) (fun n v => impl_signatures_instrValid_L1 p1 p3 n v = some o17) (fun t16 => ⟨140, envL [(4, (.ptr 0 0 0 0)), (5, (.ptr 1 0 0 0)), (6, (.ptr 2 0 0 0)), (7, (.ptr 3 0 0 0)), (86, (ls eI p3.args)), (87, (i64 (Sh.len p3.args))), (88, (i64 t16))], [⟨0, 88, 2, [(eRSignatures p0)]⟩, ⟨0, 77, 5, [(eRProc p1)]⟩, ⟨0, 3, 1, [[(i64 p2)]]⟩, ⟨0, 92, 6, [(eRInstr p3)]⟩]⟩) N 0 h1 (Wk.tr rfl) (fun _ hv => by rw [impl_signatures_instrValid_L1] at hv; cases hv) ?_)
     rintro n t16 h1
     try dsimp only at h1 ⊢
     rw [impl_signatures_instrValid_L1] at h1
     refine zr tb rfl rfl (AW.seq fun K43 hK43 => ?_)
     refine ci h1 rfl ?_ ?_ <;> clear h1
     ·intro b44 h1
      refine AW.skip (hK43 _ (AW.seq fun K45 hK45 => AW.block (sr rfl fun K46 hK46 => bs h1 fun c47 gc47 h1 => zx ei27 gc47 rfl rfl rfl (zm tb 2 rfl (dn hK46 rfl (AW.seq fun K48 hK48 => bs h1 fun o50 h2 h1 => ?_))))))
      have M50 : ∀ (t49 : Bool), o50 = t49 → ∀ s, Wk 0 s ⟨140, envL [(4, (.ptr 0 0 0 0)), (5, (.ptr 1 0 0 0)), (6, (.ptr 2 0 0 0)), (7, (.ptr 3 0 0 0)), (86, (ls eI p3.args)), (87, (i64 (Sh.len p3.args))), (88, (i64 t16)), (99, (.bool t49))], [⟨0, 88, 2, [(eRSignatures p0)]⟩, ⟨0, 77, 5, [(eRProc p1)]⟩, ⟨0, 3, 1, [[(i64 p2)]]⟩, ⟨0, 92, 6, [(eRInstr p3)]⟩]⟩ → K48 s := by
       intro t49 hq s hw
       subst o50
       try dsimp only at h1
       refine hK48 _ (AW.weaken hw ?_)
       refine ci h1 rfl ?_ ?_ <;> clear h1
       ·intro b51 h1
        refine zr tb rfl rfl ?_
        replace h1 := Sh.some_eq h1
        subst o17
        try dsimp only [id] at h0
        replace h0 := Sh.some_eq h0
        subst r
        exact AW.ret (xr (Wk.d0 [(8, (.bool false))] rfl))
       ·intro b51 h1
        exact AW.skip (hK45 _ (AW.regionO rfl (zm tb 2 rfl (AO.done (xi (Sh.w (t16 + 1)) h1 (Wk.tr rfl))))))
      refine AW.regionO rfl (zm tb 3 rfl ?_)
      rcases Sh.ite_some h2 with ⟨b53, h2⟩ | ⟨b53, h2⟩
      ·refine zs b53 rfl ?_
       iterate 3 refine zs b53 rfl ?_
       exact zt b53 rfl (AO.done (M50 true (Sh.some_eq h2).symm _ (Wk.tr rfl)))
      ·refine zg tb b53 rfl ?_
       iterate 3 refine zg tb b53 rfl ?_
       exact zf b53 rfl (AO.done (M50 (decide (p1.regs ≤ c47)) (Sh.some_eq h2).symm _ (Wk.tr rfl)))
     ·intro b44 h1
      exact AW.exit (M17 () (Sh.some_eq h1).symm _ (Wk.tr rfl))
   refine AW.regionO rfl (zm tb 4 rfl ?_)
   rcases Sh.ite_some h1 with ⟨b54, h1⟩ | ⟨b54, h1⟩
   ·refine zs b54 rfl ?_
    iterate 4 refine zs b54 rfl ?_
    refine zt b54 rfl (zq tb rfl ?_)
    iterate 4 refine zs rfl rfl ?_
    iterate 4 refine zn rfl ?_
    refine zs rfl rfl (zt rfl rfl (zq tb rfl ?_))
    iterate 3 refine zs rfl rfl ?_
    refine zt rfl rfl (zq tb rfl ?_)
    iterate 5 refine zs rfl rfl ?_
    refine zt rfl rfl (zq tb rfl ?_)
    iterate 4 refine zs rfl rfl ?_
    iterate 3 refine zn rfl ?_
    exact zs rfl rfl (zt rfl rfl (AO.done (M11 true (Sh.some_eq h1).symm _ (Wk.tr rfl))))
   ·refine zg tb b54 rfl ?_
    iterate 4 refine zg tb b54 rfl ?_
    refine zf b54 rfl (zq tb rfl ?_)
    rcases Sh.ite_some h1 with ⟨b55, h1⟩ | ⟨b55, h1⟩
    ·refine zs b55 rfl ?_
     iterate 3 refine zs b55 rfl ?_
     iterate 4 refine zn rfl ?_
     refine zs b55 rfl (zt b55 rfl (zq tb rfl ?_))
     iterate 3 refine zs rfl rfl ?_
     refine zt rfl rfl (zq tb rfl ?_)
     iterate 5 refine zs rfl rfl ?_
     refine zt rfl rfl (zq tb rfl ?_)
     iterate 4 refine zs rfl rfl ?_
     iterate 3 refine zn rfl ?_
     exact zs rfl rfl (zt rfl rfl (AO.done (M11 true (Sh.some_eq h1).symm _ (Wk.tr rfl))))
    ·refine zg tb b55 rfl ?_
     iterate 3 refine zg tb b55 rfl ?_
     rcases Sh.ite_some h1 with ⟨b56, h1⟩ | ⟨b56, h1⟩
     ·refine zg tb b56 rfl (zg tb b56 rfl (bs h1 fun q57 gq57 h1 => zd b56 hb64 (impl_setsRegister_ok gq57) rfl rfl rfl rfl (zg tb b56 rfl (ao_q (v := (.bool (!q57))) (go1 rfl rfl b55) rfl (aq_pkt rfl b56 rfl) (zf b55 rfl (zq tb rfl ?_))))))
      rcases Sh.ite_some h1 with ⟨b58, h1⟩ | ⟨b58, h1⟩
      ·refine zs b58 rfl (zs b58 rfl (zs b58 rfl (zt b58 rfl (zq tb rfl ?_))))
       iterate 5 refine zs rfl rfl ?_
       refine zt rfl rfl (zq tb rfl ?_)
       iterate 4 refine zs rfl rfl ?_
       iterate 3 refine zn rfl ?_
       exact zs rfl rfl (zt rfl rfl (AO.done (M11 true (Sh.some_eq h1).symm _ (Wk.tr rfl))))
      ·refine zg tb b58 rfl (zg tb b58 rfl (zg tb b58 rfl (zf b58 rfl (zq tb rfl ?_))))
       rcases Sh.ite_some h1 with ⟨b59, h1⟩ | ⟨b59, h1⟩
       ·refine zs b59 rfl ?_
        iterate 4 refine zs b59 rfl ?_
        refine zt b59 rfl (zq tb rfl ?_)
        iterate 4 refine zs rfl rfl ?_
        iterate 3 refine zn rfl ?_
        exact zs rfl rfl (zt rfl rfl (AO.done (M11 true (Sh.some_eq h1).symm _ (Wk.tr rfl))))
       ·refine zg tb b59 rfl ?_
        iterate 4 refine zg tb b59 rfl ?_
        refine zf b59 rfl (zq tb rfl ?_)
        rcases Sh.ite_some h1 with ⟨b60, h1⟩ | ⟨b60, h1⟩
        ·refine zs b60 rfl ?_
         iterate 3 refine zs b60 rfl ?_
         iterate 3 refine zn rfl ?_
         exact zs b60 rfl (zt b60 rfl (AO.done (M11 true (Sh.some_eq h1).symm _ (Wk.tr rfl))))
        ·refine zg tb b60 rfl ?_
         iterate 3 refine zg tb b60 rfl ?_
         rcases Sh.ite_some h1 with ⟨b61, h1⟩ | ⟨b61, h1⟩
         ·exact zg tb b61 rfl (zg tb b61 rfl (zg tb b61 rfl (ao_q (v := (.bool (!decide (p3.op = 6)))) (go1 rfl rfl b60) rfl (aq_pkt rfl b61 rfl) (zf b60 rfl (AO.done (M11 (!decide (p3.op = 6)) (Sh.some_eq h1).symm _ (Wk.tr rfl)))))))
         ·exact zs b61 rfl (zs b61 rfl (zs b61 rfl (ao_q (v := (.bool false)) (go1 rfl rfl b60) rfl (aq_pkf rfl b61 rfl) (zf b60 rfl (AO.done (M11 false (Sh.some_eq h1).symm _ (Wk.tr rfl)))))))
     ·refine zs b56 rfl ?_
      iterate 3 refine zs b56 rfl ?_
      refine ao_q (v := (.bool false)) (go1 rfl rfl b55) rfl (aq_pkf rfl b56 rfl) (zf b55 rfl (zq tb rfl ?_))
      iterate 3 refine zg tb rfl rfl ?_
      refine zf rfl rfl (zq tb rfl ?_)
      rcases Sh.ite_some h1 with ⟨b62, h1⟩ | ⟨b62, h1⟩
      ·refine zs b62 rfl ?_
       iterate 4 refine zs b62 rfl ?_
       refine zt b62 rfl (zq tb rfl ?_)
       iterate 4 refine zs rfl rfl ?_
       iterate 3 refine zn rfl ?_
       exact zs rfl rfl (zt rfl rfl (AO.done (M11 true (Sh.some_eq h1).symm _ (Wk.tr rfl))))
      ·refine zg tb b62 rfl ?_
       iterate 4 refine zg tb b62 rfl ?_
       refine zf b62 rfl (zq tb rfl ?_)
       rcases Sh.ite_some h1 with ⟨b63, h1⟩ | ⟨b63, h1⟩
       ·refine zs b63 rfl ?_
        iterate 3 refine zs b63 rfl ?_
        iterate 3 refine zn rfl ?_
        exact zs b63 rfl (zt b63 rfl (AO.done (M11 true (Sh.some_eq h1).symm _ (Wk.tr rfl))))
       ·refine zg tb b63 rfl ?_
        iterate 3 refine zg tb b63 rfl ?_
        rcases Sh.ite_some h1 with ⟨b64, h1⟩ | ⟨b64, h1⟩
        ·exact zg tb b64 rfl (zg tb b64 rfl (zg tb b64 rfl (ao_q (v := (.bool (!decide (p3.op = 6)))) (go1 rfl rfl b63) rfl (aq_pkt rfl b64 rfl) (zf b63 rfl (AO.done (M11 (!decide (p3.op = 6)) (Sh.some_eq h1).symm _ (Wk.tr rfl)))))))
        ·exact zs b64 rfl (zs b64 rfl (zs b64 rfl (ao_q (v := (.bool false)) (go1 rfl rfl b63) rfl (aq_pkf rfl b64 rfl) (zf b63 rfl (AO.done (M11 false (Sh.some_eq h1).symm _ (Wk.tr rfl)))))))
 refine AW.regionO rfl (zm tb 4 rfl ?_)
 rcases Sh.ite_some h1 with ⟨b65, h1⟩ | ⟨b65, h1⟩
 ·refine zs b65 rfl (zs b65 rfl (zs b65 rfl (zt b65 rfl (zq tb rfl ?_))))
  iterate 3 refine zs rfl rfl ?_
  refine zt rfl rfl (zq tb rfl ?_)
  iterate 3 refine zs rfl rfl ?_
  refine zt rfl rfl (zq tb rfl ?_)
  iterate 3 refine zs rfl rfl ?_
  refine zt rfl rfl (zq tb rfl ?_)
  iterate 3 refine zs rfl rfl ?_
  exact zt rfl rfl (AO.done (M5 true (Sh.some_eq h1).symm _ (Wk.tr rfl)))
 ·refine zg tb b65 rfl (zg tb b65 rfl (zg tb b65 rfl (zf b65 rfl (zq tb rfl ?_))))
  rcases Sh.ite_some h1 with ⟨b66, h1⟩ | ⟨b66, h1⟩
  ·refine zs b66 rfl (zs b66 rfl (zs b66 rfl (zt b66 rfl (zq tb rfl ?_))))
   iterate 3 refine zs rfl rfl ?_
   refine zt rfl rfl (zq tb rfl ?_)
   iterate 3 refine zs rfl rfl ?_
   refine zt rfl rfl (zq tb rfl ?_)
   iterate 3 refine zs rfl rfl ?_
   exact zt rfl rfl (AO.done (M5 true (Sh.some_eq h1).symm _ (Wk.tr rfl)))
  ·refine zg tb b66 rfl (zg tb b66 rfl (zg tb b66 rfl (zf b66 rfl (zq tb rfl ?_))))
   rcases Sh.ite_some h1 with ⟨b67, h1⟩ | ⟨b67, h1⟩
   ·refine zs b67 rfl (zs b67 rfl (zs b67 rfl (zt b67 rfl (zq tb rfl ?_))))
    iterate 3 refine zs rfl rfl ?_
    refine zt rfl rfl (zq tb rfl ?_)
    iterate 3 refine zs rfl rfl ?_
    exact zt rfl rfl (AO.done (M5 true (Sh.some_eq h1).symm _ (Wk.tr rfl)))
   ·refine zg tb b67 rfl (zg tb b67 rfl (zg tb b67 rfl (zf b67 rfl (zq tb rfl ?_))))
    rcases Sh.ite_some h1 with ⟨b68, h1⟩ | ⟨b68, h1⟩
    ·refine zs b68 rfl (zs b68 rfl (zs b68 rfl (zt b68 rfl (zq tb rfl ?_))))
     iterate 3 refine zs rfl rfl ?_
     exact zt rfl rfl (AO.done (M5 true (Sh.some_eq h1).symm _ (Wk.tr rfl)))
    ·refine zg tb b68 rfl (zg tb b68 rfl (zg tb b68 rfl (zf b68 rfl (zq tb rfl ?_))))
     rcases Sh.ite_some h1 with ⟨b69, h1⟩ | ⟨b69, h1⟩
     ·exact zs b69 rfl (zs b69 rfl (zs b69 rfl (zt b69 rfl (AO.done (M5 true (Sh.some_eq h1).symm _ (Wk.tr rfl))))))
     ·exact zg tb b69 rfl (zg tb b69 rfl (zg tb b69 rfl (zf b69 rfl (AO.done (M5 (decide (p3.op = 13)) (Sh.some_eq h1).symm _ (Wk.tr rfl))))))
theorem impl_ValidImage_ok {N : Nat} {p0 : RImage} {r : Bool} (h0 : impl_ValidImage N p0 = some r) : ACalls Try.prog 20 [(.agg (eRImage p0))] [] (fun v st => v = (.bool r) ∧ st = []) := by
 unfold impl_ValidImage at h0
 refine ai Try.func20 rfl rfl rfl rfl (sr rfl fun K1 hK1 => ao_box (m := 0) (st' := [⟨0, 37, 2, [(eRImage p0)]⟩]) go0 rfl rfl rfl rfl rfl (zq tb rfl (dn hK1 rfl (sr rfl fun K2 hK2 => zq tb rfl (bs h0 fun q3 gq3 h0 => zc (v' := (.tup [(.agg (eRSignatures q3.1)), (.bool q3.2)])) hb43 (impl_imageSigs_ok gq3) rfl rfl rfl (zm tb 3 rfl (ao_alloc (m := 1) (st' := [⟨0, 37, 2, [(eRImage p0)]⟩, ⟨0, 88, 2, [[.zc, .zc]]⟩]) go0 zi88 rfl rfl (ao_str (st' := [⟨0, 37, 2, [(eRImage p0)]⟩, ⟨0, 88, 2, [(eRSignatures q3.1)]⟩]) go0 ti88 rfl rfl rfl rfl rfl rfl (show 0 + 2 ≤ 2 by decide) rfl ?_))))))))
 refine zq tb rfl (dn hK2 rfl (AW.seq fun K4 hK4 => zr tb rfl rfl ?_))
 refine ci h0 rfl ?_ ?_ <;> clear h0
 ·intro b6 h0
  have b7 : q3.2 = false := by simpa using b6
  refine zr tb rfl rfl ?_
  replace h0 := Sh.some_eq h0
  subst r
  exact AW.ret (xr (Wk.d0 [(2, (.bool false))] rfl))
 ·intro b6 h0
  have b9 : q3.2 = true := by simpa using b6
  refine AW.skip (hK4 _ (AW.seq fun K10 hK10 => sr rfl fun K11 hK11 => zm tb 2 rfl (zl tb rfl rfl (zq tb rfl (dn hK11 rfl ?_)))))
  obtain ⟨o13, h1, h0⟩ := Sh.cont_some h0
  have M13 : ∀ (_ : Unit), o13 = Sum.inr () → ∀ s, Wk 0 s ⟨79, envL [], []⟩ → K10 s := by
   intro _ hq s hw
   subst o13
   try dsimp only at h0
   refine hK10 _ (AW.weaken hw (zr tb rfl rfl ?_))
   replace h0 := Sh.some_eq h0
   subst r
   exact AW.ret (xr (Wk.to (L := [(2, (.bool true))]) ⟨.rfl, trivial⟩))
  refine AW.block (AW.loopF (σ := Int) (fun n v => impl_ValidImage_L1 N p0 q3 n v = some o13) (fun t12 => ⟨79, envL [(3, (.ptr 0 0 0 0)), (18, (ls eRProc p0.procs)), (19, (i64 (Sh.len p0.procs))), (20, (i64 t12))], [⟨0, 88, 2, [(eRSignatures q3.1)]⟩]⟩) N 0 h1 (Wk.permk (L := [(3, (.ptr 0 0 0 0)), (18, (ls eRProc p0.procs)), (19, (i64 (Sh.len p0.procs))), (20, (i64 0))]) (st' := [⟨0, 88, 2, [(eRSignatures q3.1)]⟩]) (st1 := [⟨0, 88, 2, [(eRSignatures q3.1)]⟩]) [1] rfl .nil (by decide) rfl rfl (.raw rfl rfl .nil) ⟨.rfl, .rfl, .rfl, .rfl, trivial⟩) (fun _ hv => by rw [impl_ValidImage_L1] at hv; cases hv) ?_)
  rintro n t12 h1
  try dsimp only at h1 ⊢
  rw [impl_ValidImage_L1] at h1
  refine zr tb rfl rfl (AW.seq fun K16 hK16 => ?_)
  refine ci h1 rfl ?_ ?_ <;> clear h1
  ·intro b17 h1
   refine AW.skip (hK16 _ (AW.seq fun K18 hK18 => AW.block (sr rfl fun K19 hK19 => bs h1 fun c20 gc20 h1 => zx ei35 gc20 rfl rfl rfl (zq tb rfl (ao_alloc (m := 1) (st' := [⟨0, 88, 2, [(eRSignatures q3.1)]⟩, ⟨0, 77, 5, [[.zc, .zc, (i64 0), (i64 0), .zc]]⟩]) go0 zi77 rfl rfl (ao_str (st' := [⟨0, 88, 2, [(eRSignatures q3.1)]⟩, ⟨0, 77, 5, [(eRProc c20)]⟩]) go0 ti77 rfl rfl rfl rfl rfl rfl (show 0 + 5 ≤ 5 by decide) rfl (dn hK19 rfl (AW.seq fun K21 hK21 => AW.seq fun K22 hK22 => ?_))))))))
   refine bs h1 fun o24 h2 h1 => ?_
   have M24 : ∀ (t23 : Bool), o24 = t23 → ∀ s, Wk 0 s ⟨79, envL [(3, (.ptr 0 0 0 0)), (6, (.ptr 1 0 0 0)), (18, (ls eRProc p0.procs)), (19, (i64 (Sh.len p0.procs))), (20, (i64 t12)), (47, (.bool t23))], [⟨0, 88, 2, [(eRSignatures q3.1)]⟩, ⟨0, 77, 5, [(eRProc c20)]⟩]⟩ → K22 s := by
    intro t23 hq s hw
    subst o24
    try dsimp only at h1
    refine hK22 _ (AW.weaken hw ?_)
    refine ci h1 rfl ?_ ?_ <;> clear h1
    ·intro b25 h1
     refine zr tb rfl rfl ?_
     replace h1 := Sh.some_eq h1
     subst o13
     try dsimp only [id] at h0
     replace h0 := Sh.some_eq h0
     subst r
     exact AW.ret (xr (Wk.d0 [(2, (.bool false))] rfl))
    ·intro b25 h1
     refine AW.skip (hK21 _ (AW.seq fun K27 hK27 => sr rfl fun K28 hK28 => zm tb 4 rfl (zl tb rfl rfl (zq tb rfl (bs h1 fun c29 gc29 h1 => zx ei75 gc29 rfl rfl rfl (zm tb 3 rfl (dn hK28 rfl (AW.seq fun K30 hK30 => bs h1 fun o32 h2 h1 => ?_))))))))
     have M32 : ∀ (t31 : Bool), o32 = t31 → ∀ s, Wk 0 s ⟨79, envL [(3, (.ptr 0 0 0 0)), (6, (.ptr 1 0 0 0)), (18, (ls eRProc p0.procs)), (19, (i64 (Sh.len p0.procs))), (20, (i64 t12)), (62, (.bool t31))], [⟨0, 88, 2, [(eRSignatures q3.1)]⟩, ⟨0, 77, 5, [(eRProc c20)]⟩]⟩ → K30 s := by
      intro t31 hq s hw
      subst o32
      try dsimp only at h1
      refine hK30 _ (AW.weaken hw ?_)
      refine ci h1 rfl ?_ ?_ <;> clear h1
      ·intro b33 h1
       refine zr tb rfl rfl ?_
       replace h1 := Sh.some_eq h1
       subst o13
       try dsimp only [id] at h0
       replace h0 := Sh.some_eq h0
       subst r
       exact AW.ret (xr (Wk.d0 [(2, (.bool false))] rfl))
      ·intro b33 h1
       refine AW.skip (hK27 _ (sr rfl fun K35 hK35 => zm tb 2 rfl (zl tb rfl rfl (zq tb rfl (dn hK35 rfl ?_)))))
       obtain ⟨o37, h2, h1⟩ := Sh.cont_some h1
       have M37 : ∀ (_ : Unit), o37 = Sum.inr () → ∀ s, Wk 0 s ⟨79, envL [(3, (.ptr 0 0 0 0)), (18, (ls eRProc p0.procs)), (19, (i64 (Sh.len p0.procs))), (20, (i64 t12))], [⟨0, 88, 2, [(eRSignatures q3.1)]⟩]⟩ → K18 s := by
        intro _ hq s hw
        subst o37
        try dsimp only at h1
        exact hK18 _ (AW.weaken hw (AW.regionO rfl (zm tb 2 rfl (AO.done (xi (Sh.w (t12 + 1)) h1 (Wk.tr rfl))))))
       refine AW.block (AW.loopF (σ := Int) (fun n v => impl_ValidImage_L2 N c20 q3 n v = some o37) (fun t36 => ⟨79, envL [(3, (.ptr 0 0 0 0)), (6, (.ptr 1 0 0 0)), (18, (ls eRProc p0.procs)), (19, (i64 (Sh.len p0.procs))), (20, (i64 t12)), (64, (ls eRInstr c20.code)), (65, (i64 (Sh.len c20.code))), (66, (i64 t36))], [⟨0, 88, 2, [(eRSignatures q3.1)]⟩, ⟨0, 77, 5, [(eRProc c20)]⟩]⟩) N 0 h2 (Wk.tr rfl) (fun _ hv => by rw [impl_ValidImage_L2] at hv; cases hv) ?_)
       rintro n t36 h2
       try dsimp only at h2 ⊢
       rw [impl_ValidImage_L2] at h2
       refine zr tb rfl rfl (AW.seq fun K39 hK39 => ?_)
       refine ci h2 rfl ?_ ?_ <;> clear h2
       ·intro b40 h2
        refine AW.skip (hK39 _ (AW.seq fun K41 hK41 => AW.block (sr rfl fun K42 hK42 => zq tb rfl (bs h2 fun c43 gc43 h2 => zx ei75 gc43 rfl rfl rfl (zq tb rfl (ao_alloc (m := 2) (st' := [⟨0, 88, 2, [(eRSignatures q3.1)]⟩, ⟨0, 77, 5, [(eRProc c20)]⟩, ⟨0, 92, 6, [[(i64 0), (i64 0), (i64 0), (i64 0), .zc, .zc]]⟩]) go0 zi92 rfl rfl (zq tb rfl (ao_str (st' := [⟨0, 88, 2, [(eRSignatures q3.1)]⟩, ⟨0, 77, 5, [(eRProc c20)]⟩, ⟨0, 92, 6, [(eRInstr c43)]⟩]) go0 ti92 rfl rfl rfl rfl rfl rfl (show 0 + 6 ≤ 6 by decide) rfl (dn hK42 rfl ?_)))))))))
        refine sr rfl fun K44 hK44 => zm tb 4 rfl (bs h2 fun q45 gq45 h2 => zc hb44 (impl_signatures_instrValid_ok gq45) rfl rfl rfl (zq tb rfl (dn hK44 rfl ?_)))
        refine ci h2 rfl ?_ ?_ <;> clear h2
        ·intro b46 h2
         have b47 : q45 = false := by simpa using b46
         refine zr tb rfl rfl ?_
         replace h2 := Sh.some_eq h2
         subst o37
         try dsimp only [id] at h1
         replace h1 := Sh.some_eq h1
         subst o13
         try dsimp only [id] at h0
         replace h0 := Sh.some_eq h0
         subst r
         exact AW.ret (xr (Wk.d0 [(2, (.bool false))] rfl))
        ·intro b46 h2
         have b49 : q45 = true := by simpa using b46
         refine AW.skip (hK41 _ (AW.regionO rfl (zm tb 2 rfl ?_)))
         exact AO.done (xi (Sh.w (t36 + 1)) h2 (Wk.permk (L := [(3, (.ptr 0 0 0 0)), (6, (.ptr 1 0 0 0)), (18, (ls eRProc p0.procs)), (19, (i64 (Sh.len p0.procs))), (20, (i64 t12)), (64, (ls eRInstr c20.code)), (65, (i64 (Sh.len c20.code))), (66, (i64 (Sh.w (t36 + 1))))]) (st' := [⟨0, 88, 2, [(eRSignatures q3.1)]⟩, ⟨0, 77, 5, [(eRProc c20)]⟩]) (st1 := [⟨0, 88, 2, [(eRSignatures q3.1)]⟩, ⟨0, 77, 5, [(eRProc c20)]⟩]) [0, 1] rfl .nil (by decide) rfl rfl (.raw rfl rfl (.raw rfl rfl .nil)) ⟨.rfl, .rfl, .rfl, .rfl, .rfl, .rfl, .rfl, .rfl, trivial⟩))
       ·intro b40 h2
        exact AW.exit (M37 () (Sh.some_eq h2).symm _ (Wk.permk (L := [(3, (.ptr 0 0 0 0)), (18, (ls eRProc p0.procs)), (19, (i64 (Sh.len p0.procs))), (20, (i64 t12))]) (st' := [⟨0, 88, 2, [(eRSignatures q3.1)]⟩]) (st1 := [⟨0, 88, 2, [(eRSignatures q3.1)]⟩]) [0] rfl .nil (by decide) rfl rfl (.raw rfl rfl .nil) ⟨.rfl, .rfl, .rfl, .rfl, trivial⟩))
     refine AW.regionO rfl (zm tb 3 rfl ?_)
     rcases Sh.ite_some h2 with ⟨b50, h2⟩ | ⟨b50, h2⟩
     ·exact zg tb b50 rfl (zg tb b50 rfl (zt b50 rfl (AO.done (M32 (!decide (c29.op = 24)) (Sh.some_eq h2).symm _ (Wk.tr rfl)))))
     ·exact zs b50 rfl (zs b50 rfl (zf b50 rfl (AO.done (M32 false (Sh.some_eq h2).symm _ (Wk.tr rfl)))))
   refine AW.regionO rfl (zm tb 4 rfl (zl tb rfl rfl (zz (i64 (if (Sh.len c20.params) > 1 then (Sh.len c20.params) else 1)) (aq_max rfl rfl) rfl (zm tb 2 rfl ?_))))
   rcases Sh.ite_some h2 with ⟨b51, h2⟩ | ⟨b51, h2⟩
   ·refine zs b51 rfl (zs b51 rfl (zs b51 rfl (zt b51 rfl (zq tb rfl ?_))))
    iterate 4 refine zs rfl rfl ?_
    refine zt rfl rfl (zq tb rfl ?_)
    iterate 4 refine zs rfl rfl ?_
    exact zt rfl rfl (AO.done (M24 true (Sh.some_eq h2).symm _ (Wk.tr rfl)))
   ·refine zg tb b51 rfl (zg tb b51 rfl (zg tb b51 rfl (zf b51 rfl (zq tb rfl ?_))))
    rcases Sh.ite_some h2 with ⟨b52, h2⟩ | ⟨b52, h2⟩
    ·refine zs b52 rfl ?_
     iterate 3 refine zs b52 rfl ?_
     refine zt b52 rfl (zq tb rfl ?_)
     iterate 4 refine zs rfl rfl ?_
     exact zt rfl rfl (AO.done (M24 true (Sh.some_eq h2).symm _ (Wk.tr rfl)))
    ·refine zg tb b52 rfl (zg tb b52 rfl (ao_q (v := (i64 (Sh.len c20.code))) (go1 rfl rfl b52) rfl (aq_lens sl75 rfl) (zg tb b52 rfl (zf b52 rfl (zq tb rfl ?_)))))
     rcases Sh.ite_some h2 with ⟨b53, h2⟩ | ⟨b53, h2⟩
     ·refine zs b53 rfl ?_
      iterate 3 refine zs b53 rfl ?_
      exact zt b53 rfl (AO.done (M24 true (Sh.some_eq h2).symm _ (Wk.tr rfl)))
     ·exact zg tb b53 rfl (zg tb b53 rfl (ao_q (v := (i64 (Sh.len c20.code))) (go1 rfl rfl b53) rfl (aq_lens sl75 rfl) (zg tb b53 rfl (zf b53 rfl (AO.done (M24 (decide (2000 < (Sh.len c20.code))) (Sh.some_eq h2).symm _ (Wk.tr rfl)))))))
  ·intro b17 h1
   exact AW.exit (M13 () (Sh.some_eq h1).symm _ (Wk.d0 _ rfl))
theorem impl_newFrame_ok {p0 : RImage} {p1 : Int} {p2 : Int} {r : RFrame} (h0 : impl_newFrame p0 p1 p2 = some r) : ACalls Try.prog 45 [(.agg (eRImage p0)), (i64 p1), (i64 p2)] [] (fun v st => v = (.agg [(i64 r.proc), (i64 r.at_), (i64 r.dst), (ow 0 0 r.regs), (ow 1 0 r.own), (ow 2 0 r.held)]) ∧ st = [(ro 0 3 1 eI r.regs), (ro 0 3 1 eI r.own), (ro 0 3 1 eI r.held)]) := by
 unfold impl_newFrame at h0
 refine ACalls.wk (r0 := (.agg [(i64 r.proc), (i64 r.at_), (i64 r.dst), (ow 0 0 r.regs), (ow 1 0 r.own), (ow 2 0 r.held)])) (st0 := [(ro 0 3 1 eI r.regs), (ro 0 3 1 eI r.own), (ro 0 3 1 eI r.held), ⟨0, 79, 6, [[(i64 r.proc), (i64 r.at_), (i64 r.dst), (ow 0 0 r.regs), (ow 1 0 r.own), (ow 2 0 r.held)]]⟩]) ?_ (Wk.sel (L := [(0, (.agg [(i64 r.proc), (i64 r.at_), (i64 r.dst), (ow 0 0 r.regs), (ow 1 0 r.own), (ow 2 0 r.held)]))]) (st' := [(ro 0 3 1 eI r.regs), (ro 0 3 1 eI r.own), (ro 0 3 1 eI r.held)]) [0, 1, 2] rfl (by decide) rfl rfl (.pure (pure_map fun _ => rfl) (.pure (pure_map fun _ => rfl) (.pure (pure_map fun _ => rfl) trivial))) ⟨.rfl, trivial⟩)
 refine ai Try.func45 rfl rfl rfl rfl (sr rfl fun K1 hK1 => ao_box (m := 0) (st' := [⟨0, 37, 2, [(eRImage p0)]⟩]) go0 rfl rfl rfl rfl rfl (ao_alloc (m := 1) (st' := [⟨0, 37, 2, [(eRImage p0)]⟩, ⟨0, 79, 6, [[(i64 0), (i64 0), (i64 0), .zc, .zc, .zc]]⟩]) go0 zi79 rfl rfl (dn hK1 rfl (sr rfl fun K2 hK2 => zm tb 3 rfl (bs h0 fun c3 gc3 h0 => zx ei35 gc3 rfl rfl rfl (zm tb 3 rfl (dn hK2 rfl (AW.seq fun K4 hK4 => ?_))))))))
 refine AW.drawX (by kernel_rfl) ?_
 refine bs h0 fun l5 gl5 h0 => AX.one fun A6 hA6 => ?_
 have A6_0123456789 : A6 0 #[true, true, true, true, true, true, true, true, true, true] ⟨23, envL [(6, (.ptr 0 0 0 0))], [⟨0, 79, 6, [[(i64 p1), (i64 0), (i64 p2), (ow 1 0 l5), (ow 2 0 l5), (ow 3 0 l5)]]⟩, (ro 0 3 1 eI l5), (ro 0 3 1 eI l5), (ro 0 3 1 eI l5)]⟩ := (hA6 _ _ _).2 (by
  refine AX.done rfl (by kernel_rfl) ?_
  refine hK4 _ ?_
  replace h0 := Sh.some_eq h0
  subst r
  exact AW.ret (Exists.intro _ (And.intro ((Wk.permk (L := [(6, (.ptr 3 0 0 0))]) (st' := [(ro 0 3 1 eI l5), (ro 0 3 1 eI l5), (ro 0 3 1 eI l5), ⟨0, 79, 6, [[(i64 p1), (i64 0), (i64 p2), (ow 0 0 l5), (ow 1 0 l5), (ow 2 0 l5)]]⟩]) (st1 := [(ro 0 3 1 eI l5), (ro 0 3 1 eI l5), (ro 0 3 1 eI l5), ⟨0, 79, 6, [[(i64 p1), (i64 0), (i64 p2), (ow 1 0 l5), (ow 2 0 l5), (ow 3 0 l5)]]⟩]) [1, 2, 3, 0] rfl .nil (by decide) rfl rfl (.pure (pure_map fun _ => rfl) (.pure (pure_map fun _ => rfl) (.pure (pure_map fun _ => rfl) (.raw rfl rfl .nil)))) ⟨.rfl, trivial⟩).trans (Wk.to (L := [(6, (.ptr 3 0 0 0))]) ⟨.rfl, trivial⟩)) (aq_ldpa (x := .tmp 6) (off := 0) (cs := [(i64 p1), (i64 0), (i64 p2), (ow 0 0 l5), (ow 1 0 l5), (ow 2 0 l5)]) (vs := [(i64 p1), (i64 0), (i64 p2), (ow 0 0 l5), (ow 1 0 l5), (ow 2 0 l5)]) ti79 rfl rfl rfl (show 0 + 6 ≤ 6 by decide) rfl _ ⟨rfl, rfl⟩))))
 have A6_012345678 : A6 1 #[true, true, true, true, true, true, true, true, true, false] ⟨23, envL [(6, (.ptr 0 0 0 0)), (22, (.agg [(i64 p1), (i64 0), (i64 p2), (ow 1 0 l5), (ow 2 0 l5), (ow 3 0 l5)]))], [⟨0, 79, 6, [[(i64 0), (i64 0), (i64 0), .zc, .zc, .zc]]⟩, (ro 0 3 1 eI l5), (ro 0 3 1 eI l5), (ro 0 3 1 eI l5)]⟩ := (hA6 _ _ _).2 (by
  refine AX.all [9] rfl (by kernel_rfl) (by decide) ⟨?_, trivial⟩
  ·refine AXs.of (i := 9) rfl rfl (by rfl) ?_
   refine ao_str (st' := [⟨0, 79, 6, [[(i64 p1), (i64 0), (i64 p2), (ow 1 0 l5), (ow 2 0 l5), (ow 3 0 l5)]]⟩, (ro 0 3 1 eI l5), (ro 0 3 1 eI l5), (ro 0 3 1 eI l5)]) go0 ti79 rfl rfl rfl rfl rfl rfl (show 0 + 6 ≤ 6 by decide) rfl (AO.done ⟨rfl, ?_⟩)
   exact AX.weaken (Wk.to (L := [(6, (.ptr 0 0 0 0))]) ⟨.rfl, trivial⟩) (AX.lst (by kernel_rfl) ((hA6 _ _ _).1 A6_0123456789)) rfl)
 have A6_01234567 : A6 2 #[true, true, true, true, true, true, true, true, false, false] ⟨23, envL [(6, (.ptr 0 0 0 0)), (14, (i64 p1)), (15, (i64 p2)), (17, (ow 1 0 l5)), (19, (ow 2 0 l5)), (21, (ow 3 0 l5))], [⟨0, 79, 6, [[(i64 0), (i64 0), (i64 0), .zc, .zc, .zc]]⟩, (ro 0 3 1 eI l5), (ro 0 3 1 eI l5), (ro 0 3 1 eI l5)]⟩ := (hA6 _ _ _).2 (by
  refine AX.all [8] rfl (by kernel_rfl) (by decide) ⟨?_, trivial⟩
  ·refine AXs.of (i := 8) rfl rfl (by rfl) ?_
   refine zz (.agg [(i64 p1), (i64 0), (i64 p2), (ow 1 0 l5), (ow 2 0 l5), (ow 3 0 l5)]) (aq_bd ai79 bi79 zi79 rfl rfl) rfl (AO.done ⟨rfl, ?_⟩)
   exact AX.weaken (Wk.to (L := [(6, (.ptr 0 0 0 0)), (22, (.agg [(i64 p1), (i64 0), (i64 p2), (ow 1 0 l5), (ow 2 0 l5), (ow 3 0 l5)]))]) ⟨.rfl, .rfl, trivial⟩) (AX.lst (by kernel_rfl) ((hA6 _ _ _).1 A6_012345678)) rfl)
 have A6_0123456 : A6 3 #[true, true, true, true, true, true, true, false, false, false] ⟨23, envL [(6, (.ptr 0 0 0 0)), (14, (i64 p1)), (15, (i64 p2)), (17, (ow 1 0 l5)), (19, (ow 2 0 l5)), (20, (i64 c3.regs))], [⟨0, 79, 6, [[(i64 0), (i64 0), (i64 0), .zc, .zc, .zc]]⟩, (ro 0 3 1 eI l5), (ro 0 3 1 eI l5)]⟩ := (hA6 _ _ _).2 (by
  refine AX.all [7] rfl (by kernel_rfl) (by decide) ⟨?_, trivial⟩
  ·refine AXs.of (i := 7) rfl rfl (by rfl) ?_
   refine ao_make (m := 3) (st' := [⟨0, 79, 6, [[(i64 0), (i64 0), (i64 0), .zc, .zc, .zc]]⟩, (ro 0 3 1 eI l5), (ro 0 3 1 eI l5), (ro 0 3 1 eI l5)]) (enc := eI) (u := 0) go0 ei27 rfl rfl rfl gl5 rfl rfl (AO.done ⟨rfl, ?_⟩)
   exact AX.weaken (Wk.to (L := [(6, (.ptr 0 0 0 0)), (14, (i64 p1)), (15, (i64 p2)), (17, (ow 1 0 l5)), (19, (ow 2 0 l5)), (21, (ow 3 0 l5))]) ⟨.rfl, .rfl, .rfl, .rfl, .rfl, .rfl, trivial⟩) (AX.lst (by kernel_rfl) ((hA6 _ _ _).1 A6_01234567)) rfl)
 have A6_0123467 : A6 3 #[true, true, true, true, true, false, true, true, false, false] ⟨23, envL [(6, (.ptr 0 0 0 0)), (14, (i64 p1)), (15, (i64 p2)), (17, (ow 1 0 l5)), (18, (i64 c3.regs)), (21, (ow 2 0 l5))], [⟨0, 79, 6, [[(i64 0), (i64 0), (i64 0), .zc, .zc, .zc]]⟩, (ro 0 3 1 eI l5), (ro 0 3 1 eI l5)]⟩ := (hA6 _ _ _).2 (by
  refine AX.all [5] rfl (by kernel_rfl) (by decide) ⟨?_, trivial⟩
  ·refine AXs.of (i := 5) rfl rfl (by rfl) ?_
   refine ao_make (m := 3) (st' := [⟨0, 79, 6, [[(i64 0), (i64 0), (i64 0), .zc, .zc, .zc]]⟩, (ro 0 3 1 eI l5), (ro 0 3 1 eI l5), (ro 0 3 1 eI l5)]) (enc := eI) (u := 0) go0 ei27 rfl rfl rfl gl5 rfl rfl (AO.done ⟨rfl, ?_⟩)
   exact AX.weaken (by refine Wk.trans (Wk.permk (L := [(6, (.ptr 0 0 0 0)), (14, (i64 p1)), (15, (i64 p2)), (17, (ow 1 0 l5)), (19, (ow 2 0 l5)), (21, (ow 3 0 l5))]) (st' := [⟨0, 79, 6, [[(i64 0), (i64 0), (i64 0), .zc, .zc, .zc]]⟩, (ro 0 3 1 eI l5), (ro 0 3 1 eI l5), (ro 0 3 1 eI l5)]) (st1 := [⟨0, 79, 6, [[(i64 0), (i64 0), (i64 0), .zc, .zc, .zc]]⟩, (ro 0 3 1 eI l5), (ro 0 3 1 eI l5), (ro 0 3 1 eI l5)]) [0, 1, 3, 2] rfl .nil (by decide) rfl rfl (.raw rfl rfl (.pure (pure_map fun _ => rfl) (.pure (pure_map fun _ => rfl) (.pure (pure_map fun _ => rfl) .nil)))) ⟨.rfl, .rfl, .rfl, .rfl, .rfl, .rfl, trivial⟩) ?_; exact Wk.to (L := [(6, (.ptr 0 0 0 0)), (14, (i64 p1)), (15, (i64 p2)), (17, (ow 1 0 l5)), (19, (ow 2 0 l5)), (21, (ow 3 0 l5))]) ⟨.rfl, .rfl, .rfl, .rfl, .rfl, .rfl, trivial⟩) (AX.lst (by kernel_rfl) ((hA6 _ _ _).1 A6_01234567)) rfl)
 have A6_012346 : A6 4 #[true, true, true, true, true, false, true, false, false, false] ⟨23, envL [(6, (.ptr 0 0 0 0)), (14, (i64 p1)), (15, (i64 p2)), (17, (ow 1 0 l5)), (18, (i64 c3.regs)), (20, (i64 c3.regs))], [⟨0, 79, 6, [[(i64 0), (i64 0), (i64 0), .zc, .zc, .zc]]⟩, (ro 0 3 1 eI l5)]⟩ := (hA6 _ _ _).2 (by
  refine AX.all [5, 7] rfl (by kernel_rfl) (by decide) ⟨?_, ?_, trivial⟩
  ·refine AXs.of (i := 5) rfl rfl (by rfl) ?_
   refine ao_make (m := 2) (st' := [⟨0, 79, 6, [[(i64 0), (i64 0), (i64 0), .zc, .zc, .zc]]⟩, (ro 0 3 1 eI l5), (ro 0 3 1 eI l5)]) (enc := eI) (u := 0) go0 ei27 rfl rfl rfl gl5 rfl rfl (AO.done ⟨rfl, ?_⟩)
   exact AX.weaken (Wk.to (L := [(6, (.ptr 0 0 0 0)), (14, (i64 p1)), (15, (i64 p2)), (17, (ow 1 0 l5)), (19, (ow 2 0 l5)), (20, (i64 c3.regs))]) ⟨.rfl, .rfl, .rfl, .rfl, .rfl, .rfl, trivial⟩) (AX.lst (by kernel_rfl) ((hA6 _ _ _).1 A6_0123456)) rfl
  ·refine AXs.of (i := 7) rfl rfl (by rfl) ?_
   refine ao_make (m := 2) (st' := [⟨0, 79, 6, [[(i64 0), (i64 0), (i64 0), .zc, .zc, .zc]]⟩, (ro 0 3 1 eI l5), (ro 0 3 1 eI l5)]) (enc := eI) (u := 0) go0 ei27 rfl rfl rfl gl5 rfl rfl (AO.done ⟨rfl, ?_⟩)
   exact AX.weaken (Wk.to (L := [(6, (.ptr 0 0 0 0)), (14, (i64 p1)), (15, (i64 p2)), (17, (ow 1 0 l5)), (18, (i64 c3.regs)), (21, (ow 2 0 l5))]) ⟨.rfl, .rfl, .rfl, .rfl, .rfl, .rfl, trivial⟩) (AX.lst (by kernel_rfl) ((hA6 _ _ _).1 A6_0123467)) rfl)
 have A6_0124567 : A6 3 #[true, true, true, false, true, true, true, true, false, false] ⟨23, envL [(6, (.ptr 0 0 0 0)), (14, (i64 p1)), (15, (i64 p2)), (16, (i64 c3.regs)), (19, (ow 1 0 l5)), (21, (ow 2 0 l5))], [⟨0, 79, 6, [[(i64 0), (i64 0), (i64 0), .zc, .zc, .zc]]⟩, (ro 0 3 1 eI l5), (ro 0 3 1 eI l5)]⟩ := (hA6 _ _ _).2 (by
  refine AX.all [3] rfl (by kernel_rfl) (by decide) ⟨?_, trivial⟩
  ·refine AXs.of (i := 3) rfl rfl (by rfl) ?_
   refine ao_make (m := 3) (st' := [⟨0, 79, 6, [[(i64 0), (i64 0), (i64 0), .zc, .zc, .zc]]⟩, (ro 0 3 1 eI l5), (ro 0 3 1 eI l5), (ro 0 3 1 eI l5)]) (enc := eI) (u := 0) go0 ei27 rfl rfl rfl gl5 rfl rfl (AO.done ⟨rfl, ?_⟩)
   exact AX.weaken (by refine Wk.trans (Wk.permk (L := [(6, (.ptr 0 0 0 0)), (14, (i64 p1)), (15, (i64 p2)), (17, (ow 1 0 l5)), (19, (ow 2 0 l5)), (21, (ow 3 0 l5))]) (st' := [⟨0, 79, 6, [[(i64 0), (i64 0), (i64 0), .zc, .zc, .zc]]⟩, (ro 0 3 1 eI l5), (ro 0 3 1 eI l5), (ro 0 3 1 eI l5)]) (st1 := [⟨0, 79, 6, [[(i64 0), (i64 0), (i64 0), .zc, .zc, .zc]]⟩, (ro 0 3 1 eI l5), (ro 0 3 1 eI l5), (ro 0 3 1 eI l5)]) [0, 3, 1, 2] rfl .nil (by decide) rfl rfl (.raw rfl rfl (.pure (pure_map fun _ => rfl) (.pure (pure_map fun _ => rfl) (.pure (pure_map fun _ => rfl) .nil)))) ⟨.rfl, .rfl, .rfl, .rfl, .rfl, .rfl, trivial⟩) ?_; exact Wk.to (L := [(6, (.ptr 0 0 0 0)), (14, (i64 p1)), (15, (i64 p2)), (17, (ow 1 0 l5)), (19, (ow 2 0 l5)), (21, (ow 3 0 l5))]) ⟨.rfl, .rfl, .rfl, .rfl, .rfl, .rfl, trivial⟩) (AX.lst (by kernel_rfl) ((hA6 _ _ _).1 A6_01234567)) rfl)
 have A6_012456 : A6 4 #[true, true, true, false, true, true, true, false, false, false] ⟨23, envL [(6, (.ptr 0 0 0 0)), (14, (i64 p1)), (15, (i64 p2)), (16, (i64 c3.regs)), (19, (ow 1 0 l5)), (20, (i64 c3.regs))], [⟨0, 79, 6, [[(i64 0), (i64 0), (i64 0), .zc, .zc, .zc]]⟩, (ro 0 3 1 eI l5)]⟩ := (hA6 _ _ _).2 (by
  refine AX.all [3, 7] rfl (by kernel_rfl) (by decide) ⟨?_, ?_, trivial⟩
  ·refine AXs.of (i := 3) rfl rfl (by rfl) ?_
   refine ao_make (m := 2) (st' := [⟨0, 79, 6, [[(i64 0), (i64 0), (i64 0), .zc, .zc, .zc]]⟩, (ro 0 3 1 eI l5), (ro 0 3 1 eI l5)]) (enc := eI) (u := 0) go0 ei27 rfl rfl rfl gl5 rfl rfl (AO.done ⟨rfl, ?_⟩)
   exact AX.weaken (by refine Wk.trans (Wk.permk (L := [(6, (.ptr 0 0 0 0)), (14, (i64 p1)), (15, (i64 p2)), (17, (ow 1 0 l5)), (19, (ow 2 0 l5)), (20, (i64 c3.regs))]) (st' := [⟨0, 79, 6, [[(i64 0), (i64 0), (i64 0), .zc, .zc, .zc]]⟩, (ro 0 3 1 eI l5), (ro 0 3 1 eI l5)]) (st1 := [⟨0, 79, 6, [[(i64 0), (i64 0), (i64 0), .zc, .zc, .zc]]⟩, (ro 0 3 1 eI l5), (ro 0 3 1 eI l5)]) [0, 2, 1] rfl .nil (by decide) rfl rfl (.raw rfl rfl (.pure (pure_map fun _ => rfl) (.pure (pure_map fun _ => rfl) .nil))) ⟨.rfl, .rfl, .rfl, .rfl, .rfl, .rfl, trivial⟩) ?_; exact Wk.to (L := [(6, (.ptr 0 0 0 0)), (14, (i64 p1)), (15, (i64 p2)), (17, (ow 1 0 l5)), (19, (ow 2 0 l5)), (20, (i64 c3.regs))]) ⟨.rfl, .rfl, .rfl, .rfl, .rfl, .rfl, trivial⟩) (AX.lst (by kernel_rfl) ((hA6 _ _ _).1 A6_0123456)) rfl
  ·refine AXs.of (i := 7) rfl rfl (by rfl) ?_
   refine ao_make (m := 2) (st' := [⟨0, 79, 6, [[(i64 0), (i64 0), (i64 0), .zc, .zc, .zc]]⟩, (ro 0 3 1 eI l5), (ro 0 3 1 eI l5)]) (enc := eI) (u := 0) go0 ei27 rfl rfl rfl gl5 rfl rfl (AO.done ⟨rfl, ?_⟩)
   exact AX.weaken (Wk.to (L := [(6, (.ptr 0 0 0 0)), (14, (i64 p1)), (15, (i64 p2)), (16, (i64 c3.regs)), (19, (ow 1 0 l5)), (21, (ow 2 0 l5))]) ⟨.rfl, .rfl, .rfl, .rfl, .rfl, .rfl, trivial⟩) (AX.lst (by kernel_rfl) ((hA6 _ _ _).1 A6_0124567)) rfl)
 have A6_012467 : A6 4 #[true, true, true, false, true, false, true, true, false, false] ⟨23, envL [(6, (.ptr 0 0 0 0)), (14, (i64 p1)), (15, (i64 p2)), (16, (i64 c3.regs)), (18, (i64 c3.regs)), (21, (ow 1 0 l5))], [⟨0, 79, 6, [[(i64 0), (i64 0), (i64 0), .zc, .zc, .zc]]⟩, (ro 0 3 1 eI l5)]⟩ := (hA6 _ _ _).2 (by
  refine AX.all [3, 5] rfl (by kernel_rfl) (by decide) ⟨?_, ?_, trivial⟩
  ·refine AXs.of (i := 3) rfl rfl (by rfl) ?_
   refine ao_make (m := 2) (st' := [⟨0, 79, 6, [[(i64 0), (i64 0), (i64 0), .zc, .zc, .zc]]⟩, (ro 0 3 1 eI l5), (ro 0 3 1 eI l5)]) (enc := eI) (u := 0) go0 ei27 rfl rfl rfl gl5 rfl rfl (AO.done ⟨rfl, ?_⟩)
   exact AX.weaken (by refine Wk.trans (Wk.permk (L := [(6, (.ptr 0 0 0 0)), (14, (i64 p1)), (15, (i64 p2)), (17, (ow 1 0 l5)), (18, (i64 c3.regs)), (21, (ow 2 0 l5))]) (st' := [⟨0, 79, 6, [[(i64 0), (i64 0), (i64 0), .zc, .zc, .zc]]⟩, (ro 0 3 1 eI l5), (ro 0 3 1 eI l5)]) (st1 := [⟨0, 79, 6, [[(i64 0), (i64 0), (i64 0), .zc, .zc, .zc]]⟩, (ro 0 3 1 eI l5), (ro 0 3 1 eI l5)]) [0, 2, 1] rfl .nil (by decide) rfl rfl (.raw rfl rfl (.pure (pure_map fun _ => rfl) (.pure (pure_map fun _ => rfl) .nil))) ⟨.rfl, .rfl, .rfl, .rfl, .rfl, .rfl, trivial⟩) ?_; exact Wk.to (L := [(6, (.ptr 0 0 0 0)), (14, (i64 p1)), (15, (i64 p2)), (17, (ow 1 0 l5)), (18, (i64 c3.regs)), (21, (ow 2 0 l5))]) ⟨.rfl, .rfl, .rfl, .rfl, .rfl, .rfl, trivial⟩) (AX.lst (by kernel_rfl) ((hA6 _ _ _).1 A6_0123467)) rfl
  ·refine AXs.of (i := 5) rfl rfl (by rfl) ?_
   refine ao_make (m := 2) (st' := [⟨0, 79, 6, [[(i64 0), (i64 0), (i64 0), .zc, .zc, .zc]]⟩, (ro 0 3 1 eI l5), (ro 0 3 1 eI l5)]) (enc := eI) (u := 0) go0 ei27 rfl rfl rfl gl5 rfl rfl (AO.done ⟨rfl, ?_⟩)
   exact AX.weaken (by refine Wk.trans (Wk.permk (L := [(6, (.ptr 0 0 0 0)), (14, (i64 p1)), (15, (i64 p2)), (16, (i64 c3.regs)), (19, (ow 1 0 l5)), (21, (ow 2 0 l5))]) (st' := [⟨0, 79, 6, [[(i64 0), (i64 0), (i64 0), .zc, .zc, .zc]]⟩, (ro 0 3 1 eI l5), (ro 0 3 1 eI l5)]) (st1 := [⟨0, 79, 6, [[(i64 0), (i64 0), (i64 0), .zc, .zc, .zc]]⟩, (ro 0 3 1 eI l5), (ro 0 3 1 eI l5)]) [0, 2, 1] rfl .nil (by decide) rfl rfl (.raw rfl rfl (.pure (pure_map fun _ => rfl) (.pure (pure_map fun _ => rfl) .nil))) ⟨.rfl, .rfl, .rfl, .rfl, .rfl, .rfl, trivial⟩) ?_; exact Wk.to (L := [(6, (.ptr 0 0 0 0)), (14, (i64 p1)), (15, (i64 p2)), (16, (i64 c3.regs)), (19, (ow 1 0 l5)), (21, (ow 2 0 l5))]) ⟨.rfl, .rfl, .rfl, .rfl, .rfl, .rfl, trivial⟩) (AX.lst (by kernel_rfl) ((hA6 _ _ _).1 A6_0124567)) rfl)
 have A6_01246 : A6 5 #[true, true, true, false, true, false, true, false, false, false] ⟨23, envL [(6, (.ptr 0 0 0 0)), (14, (i64 p1)), (15, (i64 p2)), (16, (i64 c3.regs)), (18, (i64 c3.regs)), (20, (i64 c3.regs))], [⟨0, 79, 6, [[(i64 0), (i64 0), (i64 0), .zc, .zc, .zc]]⟩]⟩ := (hA6 _ _ _).2 (by
  refine AX.all [3, 5, 7] rfl (by kernel_rfl) (by decide) ⟨?_, ?_, ?_, trivial⟩
  ·refine AXs.of (i := 3) rfl rfl (by rfl) ?_
   refine ao_make (m := 1) (st' := [⟨0, 79, 6, [[(i64 0), (i64 0), (i64 0), .zc, .zc, .zc]]⟩, (ro 0 3 1 eI l5)]) (enc := eI) (u := 0) go0 ei27 rfl rfl rfl gl5 rfl rfl (AO.done ⟨rfl, ?_⟩)
   exact AX.weaken (Wk.to (L := [(6, (.ptr 0 0 0 0)), (14, (i64 p1)), (15, (i64 p2)), (17, (ow 1 0 l5)), (18, (i64 c3.regs)), (20, (i64 c3.regs))]) ⟨.rfl, .rfl, .rfl, .rfl, .rfl, .rfl, trivial⟩) (AX.lst (by kernel_rfl) ((hA6 _ _ _).1 A6_012346)) rfl
  ·refine AXs.of (i := 5) rfl rfl (by rfl) ?_
   refine ao_make (m := 1) (st' := [⟨0, 79, 6, [[(i64 0), (i64 0), (i64 0), .zc, .zc, .zc]]⟩, (ro 0 3 1 eI l5)]) (enc := eI) (u := 0) go0 ei27 rfl rfl rfl gl5 rfl rfl (AO.done ⟨rfl, ?_⟩)
   exact AX.weaken (Wk.to (L := [(6, (.ptr 0 0 0 0)), (14, (i64 p1)), (15, (i64 p2)), (16, (i64 c3.regs)), (19, (ow 1 0 l5)), (20, (i64 c3.regs))]) ⟨.rfl, .rfl, .rfl, .rfl, .rfl, .rfl, trivial⟩) (AX.lst (by kernel_rfl) ((hA6 _ _ _).1 A6_012456)) rfl
  ·refine AXs.of (i := 7) rfl rfl (by rfl) ?_
   refine ao_make (m := 1) (st' := [⟨0, 79, 6, [[(i64 0), (i64 0), (i64 0), .zc, .zc, .zc]]⟩, (ro 0 3 1 eI l5)]) (enc := eI) (u := 0) go0 ei27 rfl rfl rfl gl5 rfl rfl (AO.done ⟨rfl, ?_⟩)
   exact AX.weaken (Wk.to (L := [(6, (.ptr 0 0 0 0)), (14, (i64 p1)), (15, (i64 p2)), (16, (i64 c3.regs)), (18, (i64 c3.regs)), (21, (ow 1 0 l5))]) ⟨.rfl, .rfl, .rfl, .rfl, .rfl, .rfl, trivial⟩) (AX.lst (by kernel_rfl) ((hA6 _ _ _).1 A6_012467)) rfl)
 have A6_0124 : A6 6 #[true, true, true, false, true, false, false, false, false, false] ⟨23, envL [(6, (.ptr 0 0 0 0)), (7, (i64 c3.regs)), (14, (i64 p1)), (15, (i64 p2)), (16, (i64 c3.regs)), (18, (i64 c3.regs))], [⟨0, 79, 6, [[(i64 0), (i64 0), (i64 0), .zc, .zc, .zc]]⟩]⟩ := (hA6 _ _ _).2 (by
  refine AX.hoist 6 (v := (i64 c3.regs)) rfl rfl (by kernel_rfl) (by kernel_rfl) (by kernel_rfl) rfl (hoist_mv rfl) ?_
  exact AX.weaken (Wk.to (L := [(6, (.ptr 0 0 0 0)), (14, (i64 p1)), (15, (i64 p2)), (16, (i64 c3.regs)), (18, (i64 c3.regs)), (20, (i64 c3.regs))]) ⟨.rfl, .rfl, .rfl, .rfl, .rfl, .rfl, trivial⟩) (AX.lst (by kernel_rfl) ((hA6 _ _ _).1 A6_01246)) rfl)
 have A6_012 : A6 7 #[true, true, true, false, false, false, false, false, false, false] ⟨23, envL [(6, (.ptr 0 0 0 0)), (7, (i64 c3.regs)), (14, (i64 p1)), (15, (i64 p2)), (16, (i64 c3.regs))], [⟨0, 79, 6, [[(i64 0), (i64 0), (i64 0), .zc, .zc, .zc]]⟩]⟩ := (hA6 _ _ _).2 (by
  refine AX.hoist 4 (v := (i64 c3.regs)) rfl rfl (by kernel_rfl) (by kernel_rfl) (by kernel_rfl) rfl (hoist_mv rfl) ?_
  exact AX.weaken (Wk.to (L := [(6, (.ptr 0 0 0 0)), (7, (i64 c3.regs)), (14, (i64 p1)), (15, (i64 p2)), (16, (i64 c3.regs)), (18, (i64 c3.regs))]) ⟨.rfl, .rfl, .rfl, .rfl, .rfl, .rfl, trivial⟩) (AX.lst (by kernel_rfl) ((hA6 _ _ _).1 A6_0124)) rfl)
 have A6_01 : A6 8 #[true, true, false, false, false, false, false, false, false, false] ⟨23, envL [(6, (.ptr 0 0 0 0)), (7, (i64 c3.regs)), (14, (i64 p1)), (15, (i64 p2))], [⟨0, 79, 6, [[(i64 0), (i64 0), (i64 0), .zc, .zc, .zc]]⟩]⟩ := (hA6 _ _ _).2 (by
  refine AX.hoist 2 (v := (i64 c3.regs)) rfl rfl (by kernel_rfl) (by kernel_rfl) (by kernel_rfl) rfl (hoist_mv rfl) ?_
  exact AX.weaken (Wk.to (L := [(6, (.ptr 0 0 0 0)), (7, (i64 c3.regs)), (14, (i64 p1)), (15, (i64 p2)), (16, (i64 c3.regs))]) ⟨.rfl, .rfl, .rfl, .rfl, .rfl, trivial⟩) (AX.lst (by kernel_rfl) ((hA6 _ _ _).1 A6_012)) rfl)
 have A6_0 : A6 9 #[true, false, false, false, false, false, false, false, false, false] ⟨23, envL [(2, (i64 p2)), (6, (.ptr 0 0 0 0)), (7, (i64 c3.regs)), (14, (i64 p1))], [⟨0, 79, 6, [[(i64 0), (i64 0), (i64 0), .zc, .zc, .zc]]⟩]⟩ := (hA6 _ _ _).2 (by
  refine AX.hoist 1 (v := (i64 p2)) rfl rfl (by kernel_rfl) (by kernel_rfl) (by kernel_rfl) rfl (hoist_mv rfl) ?_
  exact AX.weaken (Wk.to (L := [(6, (.ptr 0 0 0 0)), (7, (i64 c3.regs)), (14, (i64 p1)), (15, (i64 p2))]) ⟨.rfl, .rfl, .rfl, .rfl, trivial⟩) (AX.lst (by kernel_rfl) ((hA6 _ _ _).1 A6_01)) rfl)
 have A6_e : A6 10 #[false, false, false, false, false, false, false, false, false, false] ⟨23, envL [(1, (i64 p1)), (2, (i64 p2)), (6, (.ptr 0 0 0 0)), (7, (i64 c3.regs))], [⟨0, 79, 6, [[(i64 0), (i64 0), (i64 0), .zc, .zc, .zc]]⟩]⟩ := (hA6 _ _ _).2 (by
  refine AX.hoist 0 (v := (i64 p1)) rfl rfl (by kernel_rfl) (by kernel_rfl) (by kernel_rfl) rfl (hoist_mv rfl) ?_
  exact AX.weaken (Wk.to (L := [(2, (i64 p2)), (6, (.ptr 0 0 0 0)), (7, (i64 c3.regs)), (14, (i64 p1))]) ⟨.rfl, .rfl, .rfl, .rfl, trivial⟩) (AX.lst (by kernel_rfl) ((hA6 _ _ _).1 A6_0)) rfl)
 refine (hA6 _ _ _).2 ?_
 exact AX.weaken (by refine Wk.trans (Wk.permk (L := [(1, (i64 p1)), (2, (i64 p2)), (6, (.ptr 0 0 0 0)), (7, (i64 c3.regs))]) (st' := [⟨0, 79, 6, [[(i64 0), (i64 0), (i64 0), .zc, .zc, .zc]]⟩]) (st1 := [⟨0, 79, 6, [[(i64 0), (i64 0), (i64 0), .zc, .zc, .zc]]⟩]) [1] rfl .nil (by decide) rfl rfl (.raw rfl rfl .nil) ⟨.rfl, .rfl, .rfl, .rfl, trivial⟩) ?_; exact Wk.to (L := [(1, (i64 p1)), (2, (i64 p2)), (6, (.ptr 0 0 0 0)), (7, (i64 c3.regs))]) ⟨.rfl, .rfl, .rfl, .rfl, trivial⟩) (AX.lst (by kernel_rfl) ((hA6 _ _ _).1 A6_e)) rfl
theorem impl_startState_ok {p0 : RImage} {p1 : Int} {r : RState} (h0 : impl_startState p0 p1 = some r) : ACalls Try.prog 21 [(.agg (eRImage p0)), (i64 p1)] [] (fun v st => v = (.agg [(i64 r.status), (i64 r.value), (i64 r.calls), (i64 r.most), (ow 0 0 r.out), (ow 1 0 r.heap), (ow 2 0 r.frames)]) ∧ st = [(ro 0 3 1 eI r.out), (ro 0 97 3 (eCellD 3) r.heap), (ro 0 79 6 (eRFrameD 3 3 3) r.frames)]) := by
 unfold impl_startState at h0
 refine ACalls.wk (r0 := (.agg [(i64 r.status), (i64 r.value), (i64 r.calls), (i64 r.most), (ow 0 0 r.out), (ow 1 0 r.heap), (ow 2 0 r.frames)])) (st0 := [(ro 0 3 1 eI r.out), (ro 0 97 3 (eCellD 3) r.heap), (ro 0 79 6 (eRFrameD 3 3 3) r.frames), ⟨0, 31, 7, [[(i64 r.status), (i64 r.value), (i64 r.calls), (i64 r.most), (ow 0 0 r.out), (ow 1 0 r.heap), (ow 2 0 r.frames)]]⟩]) ?_ (Wk.sel (L := [(0, (.agg [(i64 r.status), (i64 r.value), (i64 r.calls), (i64 r.most), (ow 0 0 r.out), (ow 1 0 r.heap), (ow 2 0 r.frames)]))]) (st' := [(ro 0 3 1 eI r.out), (ro 0 97 3 (eCellD 3) r.heap), (ro 0 79 6 (eRFrameD 3 3 3) r.frames)]) [0, 1, 2] rfl (by decide) rfl rfl (.pure (pure_map fun _ => rfl) (.deep (pure_mapD fun _ => rfl) (.deep (pure_mapD fun _ => rfl) trivial))) ⟨.rfl, trivial⟩)
 refine ai Try.func21 rfl rfl rfl rfl (sr rfl fun K1 hK1 => ao_box (m := 0) (st' := [⟨0, 37, 2, [(eRImage p0)]⟩]) go0 rfl rfl rfl rfl rfl (ao_alloc (m := 1) (st' := [⟨0, 37, 2, [(eRImage p0)]⟩, ⟨0, 31, 7, [[(i64 0), (i64 0), (i64 0), (i64 0), .zc, .zc, .zc]]⟩]) go0 zi31 rfl rfl (dn hK1 rfl (sr rfl fun K2 hK2 => zm tb 2 rfl (bs h0 fun q3 gq3 h0 => ao_call (v' := (.agg [(i64 q3.proc), (i64 q3.at_), (i64 q3.dst), (ow 2 0 q3.regs), (ow 3 0 q3.own), (ow 4 0 q3.held)])) (st' := [⟨0, 37, 2, [(eRImage p0)]⟩, ⟨0, 31, 7, [[(i64 0), (i64 0), (i64 0), (i64 0), .zc, .zc, .zc]]⟩, (ro 0 3 1 eI q3.regs), (ro 0 3 1 eI q3.own), (ro 0 3 1 eI q3.held)]) go0 hb45 (impl_newFrame_ok gq3) rfl rfl ⟨(pure_map' fun _ => rfl), ⟨(pure_map' fun _ => rfl), ⟨(pure_map' fun _ => rfl), trivial⟩⟩⟩ rfl rfl ?_)))))
 have g4 : Sh.get [q3] (0 : Int) = some q3 := rfl
 refine ao_bs (m := 5) (st' := [⟨0, 37, 2, [(eRImage p0)]⟩, ⟨0, 31, 7, [[(i64 0), (i64 0), (i64 0), (i64 0), .zc, .zc, .zc]]⟩, (ro 0 3 1 eI q3.regs), (ro 0 3 1 eI q3.own), (ro 0 3 1 eI q3.held), ⟨0, 79, 6, hole [q3] (eRFrameD 3 3 3) (0 : Int) [(i64 q3.proc), (i64 q3.at_), (i64 q3.dst), (ow 2 0 q3.regs), (ow 3 0 q3.own), (ow 4 0 q3.held)]⟩]) (l := [()]) (enc := fun _ => [(i64 q3.proc), (i64 q3.at_), (i64 q3.dst), (ow 2 0 q3.regs), (ow 3 0 q3.own), (ow 4 0 q3.held)]) go0 ei29 (by decide) rfl rfl rfl rfl rfl rfl ?_
 refine AO.weaken (Wk.take (id := 5) (m := 2) (j := 3) (i := (0 : Int)) (c := q3) (ys := q3.regs) (encY := eI) (x' := [(i64 q3.proc), (i64 q3.at_), (i64 q3.dst), (.dv 3 1 (List.map eI q3.regs)), (ow 3 0 q3.own), (ow 4 0 q3.held)]) (st' := [⟨0, 37, 2, [(eRImage p0)]⟩, ⟨0, 31, 7, [[(i64 0), (i64 0), (i64 0), (i64 0), .zc, .zc, .zc]]⟩, ⟨1, 3, 1, []⟩, (ro 0 3 1 eI q3.own), (ro 0 3 1 eI q3.held), ⟨0, 79, 6, hole [q3] (eRFrameD 3 3 3) (0 : Int) [(i64 q3.proc), (i64 q3.at_), (i64 q3.dst), (.dv 3 1 (List.map eI q3.regs)), (ow 3 0 q3.own), (ow 4 0 q3.held)]⟩]) rfl g4 rfl rfl rfl (by decide) (show 0 ≤ 2 by decide) (fun _ => rfl) rfl rfl) ?_
 refine AO.weaken (Wk.take (id := 5) (m := 3) (j := 4) (i := (0 : Int)) (c := q3) (ys := q3.own) (encY := eI) (x' := [(i64 q3.proc), (i64 q3.at_), (i64 q3.dst), (.dv 3 1 (List.map eI q3.regs)), (.dv 3 1 (List.map eI q3.own)), (ow 4 0 q3.held)]) (st' := [⟨0, 37, 2, [(eRImage p0)]⟩, ⟨0, 31, 7, [[(i64 0), (i64 0), (i64 0), (i64 0), .zc, .zc, .zc]]⟩, ⟨1, 3, 1, []⟩, ⟨1, 3, 1, []⟩, (ro 0 3 1 eI q3.held), ⟨0, 79, 6, hole [q3] (eRFrameD 3 3 3) (0 : Int) [(i64 q3.proc), (i64 q3.at_), (i64 q3.dst), (.dv 3 1 (List.map eI q3.regs)), (.dv 3 1 (List.map eI q3.own)), (ow 4 0 q3.held)]⟩]) rfl g4 rfl rfl rfl (by decide) (show 0 ≤ 3 by decide) (fun _ => rfl) rfl rfl) ?_
 refine AO.weaken (Wk.take (id := 5) (m := 4) (j := 5) (i := (0 : Int)) (c := q3) (ys := q3.held) (encY := eI) (x' := [(i64 q3.proc), (i64 q3.at_), (i64 q3.dst), (.dv 3 1 (List.map eI q3.regs)), (.dv 3 1 (List.map eI q3.own)), (.dv 3 1 (List.map eI q3.held))]) (st' := [⟨0, 37, 2, [(eRImage p0)]⟩, ⟨0, 31, 7, [[(i64 0), (i64 0), (i64 0), (i64 0), .zc, .zc, .zc]]⟩, ⟨1, 3, 1, []⟩, ⟨1, 3, 1, []⟩, ⟨1, 3, 1, []⟩, ⟨0, 79, 6, hole [q3] (eRFrameD 3 3 3) (0 : Int) [(i64 q3.proc), (i64 q3.at_), (i64 q3.dst), (.dv 3 1 (List.map eI q3.regs)), (.dv 3 1 (List.map eI q3.own)), (.dv 3 1 (List.map eI q3.held))]⟩]) rfl g4 rfl rfl rfl (by decide) (show 0 ≤ 4 by decide) (fun _ => rfl) rfl rfl) ?_
 refine AO.weaken (Wk.restored (id := 5) (i := (0 : Int)) (c := q3) (st' := [⟨0, 37, 2, [(eRImage p0)]⟩, ⟨0, 31, 7, [[(i64 0), (i64 0), (i64 0), (i64 0), .zc, .zc, .zc]]⟩, ⟨1, 3, 1, []⟩, ⟨1, 3, 1, []⟩, ⟨1, 3, 1, []⟩, (ro 0 79 6 (eRFrameD 3 3 3) [q3])]) rfl g4 rfl rfl) (zz (.agg [(i64 3), (i64 0), (i64 0), (i64 p1), .zc, .zc, (ow 5 0 [q3])]) (aq_bd ai31 bi31 zi31 rfl rfl) rfl (ao_str (st' := [⟨0, 37, 2, [(eRImage p0)]⟩, ⟨0, 31, 7, [[(i64 3), (i64 0), (i64 0), (i64 p1), .zc, .zc, (ow 5 0 [q3])]]⟩, ⟨1, 3, 1, []⟩, ⟨1, 3, 1, []⟩, ⟨1, 3, 1, []⟩, (ro 0 79 6 (eRFrameD 3 3 3) [q3])]) go0 ti31 rfl rfl rfl rfl rfl rfl (show 0 + 7 ≤ 7 by decide) rfl (dn hK2 rfl ?_)))
 replace h0 := Sh.some_eq h0
 subst r
 exact AW.ret (Exists.intro _ (And.intro ((((Wk.adoptC (id := 1) (st' := [⟨0, 37, 2, [(eRImage p0)]⟩, ⟨0, 31, 7, [[(i64 3), (i64 0), (i64 0), (i64 p1), (.own 6 0 (List.length ([] : List Int))), .zc, (ow 5 0 [q3])]]⟩, ⟨1, 3, 1, []⟩, ⟨1, 3, 1, []⟩, ⟨1, 3, 1, []⟩, (ro 0 79 6 (eRFrameD 3 3 3) [q3]), (ro 0 3 1 eI ([] : List Int))]) (j := 4) rfl rfl 3 (size' := 1) (by decide) rfl rfl rfl rfl).trans (Wk.adoptC (id := 1) (st' := [⟨0, 37, 2, [(eRImage p0)]⟩, ⟨0, 31, 7, [[(i64 3), (i64 0), (i64 0), (i64 p1), (.own 6 0 (List.length ([] : List Int))), (.own 7 0 (List.length ([] : List Cell))), (ow 5 0 [q3])]]⟩, ⟨1, 3, 1, []⟩, ⟨1, 3, 1, []⟩, ⟨1, 3, 1, []⟩, (ro 0 79 6 (eRFrameD 3 3 3) [q3]), (ro 0 3 1 eI ([] : List Int)), (ro 0 97 3 (eCellD 3) ([] : List Cell))]) (j := 5) rfl rfl 97 (size' := 3) (by decide) rfl rfl rfl rfl)).trans (Wk.permk (L := [(4, (.ptr 3 0 0 0))]) (st' := [(ro 0 3 1 eI ([] : List Int)), (ro 0 97 3 (eCellD 3) ([] : List Cell)), (ro 0 79 6 (eRFrameD 3 3 3) [q3]), ⟨0, 31, 7, [[(i64 3), (i64 0), (i64 0), (i64 p1), (.own 0 0 (List.length ([] : List Int))), (.own 1 0 (List.length ([] : List Cell))), (ow 2 0 [q3])]]⟩]) (st1 := [(ro 0 3 1 eI ([] : List Int)), (ro 0 97 3 (eCellD 3) ([] : List Cell)), (ro 0 79 6 (eRFrameD 3 3 3) [q3]), ⟨0, 31, 7, [[(i64 3), (i64 0), (i64 0), (i64 p1), (.own 6 0 (List.length ([] : List Int))), (.own 7 0 (List.length ([] : List Cell))), (ow 5 0 [q3])]]⟩]) [6, 7, 5, 1] rfl .nil (by decide) rfl rfl (.pure (pure_map fun _ => rfl) (.deep (pure_mapD fun _ => rfl) (.deep (pure_mapD fun _ => rfl) (.raw rfl rfl .nil)))) ⟨.rfl, trivial⟩)).trans (Wk.to (L := [(4, (.ptr 3 0 0 0))]) ⟨.rfl, trivial⟩)) (aq_ldpa (x := .tmp 4) (off := 0) (cs := [(i64 3), (i64 0), (i64 0), (i64 p1), (.own 0 0 (List.length ([] : List Int))), (.own 1 0 (List.length ([] : List Cell))), (ow 2 0 [q3])]) (vs := [(i64 3), (i64 0), (i64 0), (i64 p1), (.own 0 0 (List.length ([] : List Int))), (.own 1 0 (List.length ([] : List Cell))), (ow 2 0 [q3])]) ti31 rfl rfl rfl (show 0 + 7 ≤ 7 by decide) rfl _ ⟨rfl, rfl⟩)))
theorem impl_StartState_ok {N : Nat} {p0 : RImage} {p1 : Int} {r : RState × Bool} (h0 : impl_StartState N p0 p1 = some r) : ACalls Try.prog 7 [(.agg (eRImage p0)), (i64 p1)] [] (fun v st => v = (.tup [(.agg [(i64 r.1.status), (i64 r.1.value), (i64 r.1.calls), (i64 r.1.most), (ow 0 0 r.1.out), (ow 1 0 r.1.heap), (ow 2 0 r.1.frames)]), (.bool r.2)]) ∧ st = [(ro 0 3 1 eI r.1.out), (ro 0 97 3 (eCellD 3) r.1.heap), (ro 0 79 6 (eRFrameD 3 3 3) r.1.frames)]) := by
 unfold impl_StartState at h0
 refine ACalls.wk (r0 := (.tup [(.agg [(i64 r.1.status), (i64 r.1.value), (i64 r.1.calls), (i64 r.1.most), (ow 0 0 r.1.out), (ow 1 0 r.1.heap), (ow 2 0 r.1.frames)]), (.bool r.2)])) (st0 := [(ro 0 3 1 eI r.1.out), (ro 0 97 3 (eCellD 3) r.1.heap), (ro 0 79 6 (eRFrameD 3 3 3) r.1.frames), ⟨0, 31, 7, [[(i64 r.1.status), (i64 r.1.value), (i64 r.1.calls), (i64 r.1.most), (ow 0 0 r.1.out), (ow 1 0 r.1.heap), (ow 2 0 r.1.frames)]]⟩]) ?_ (Wk.sel (L := [(0, (.tup [(.agg [(i64 r.1.status), (i64 r.1.value), (i64 r.1.calls), (i64 r.1.most), (ow 0 0 r.1.out), (ow 1 0 r.1.heap), (ow 2 0 r.1.frames)]), (.bool r.2)]))]) (st' := [(ro 0 3 1 eI r.1.out), (ro 0 97 3 (eCellD 3) r.1.heap), (ro 0 79 6 (eRFrameD 3 3 3) r.1.frames)]) [0, 1, 2] rfl (by decide) rfl rfl (.pure (pure_map fun _ => rfl) (.deep (pure_mapD fun _ => rfl) (.deep (pure_mapD fun _ => rfl) trivial))) ⟨.rfl, trivial⟩)
 refine ai Try.func7 rfl rfl rfl rfl (sr rfl fun K1 hK1 => ao_box (m := 0) (st' := [⟨0, 37, 2, [(eRImage p0)]⟩]) go0 rfl rfl rfl rfl rfl (ao_alloc (m := 1) (st' := [⟨0, 37, 2, [(eRImage p0)]⟩, ⟨0, 31, 7, [[(i64 0), (i64 0), (i64 0), (i64 0), .zc, .zc, .zc]]⟩]) go0 zi31 rfl rfl (zq tb rfl (dn hK1 rfl (AW.seq fun K2 hK2 => AW.seq fun K3 hK3 => bs h0 fun o5 h1 h0 => ?_)))))
 have M5 : ∀ (t4 : Bool), o5 = t4 → ∀ s, Wk 0 s ⟨21, envL [(1, (i64 p1)), (2, (.ptr 0 0 0 0)), (4, (.ptr 1 0 0 0)), (16, (.bool t4))], [⟨0, 37, 2, [(eRImage p0)]⟩, ⟨0, 31, 7, [[(i64 0), (i64 0), (i64 0), (i64 0), .zc, .zc, .zc]]⟩]⟩ → K3 s := by
  intro t4 hq s hw
  subst o5
  try dsimp only at h0
  refine hK3 _ (AW.weaken hw ?_)
  refine ci h0 rfl ?_ ?_ <;> clear h0
  ·intro b6 h0
   refine sr rfl fun K7 hK7 => zz (.agg [(i64 0), (i64 0), (i64 0), (i64 0), .zc, .zc, .zc]) (aq_bd ai31 bi31 zi31 rfl rfl) rfl (ao_str (st' := [⟨0, 37, 2, [(eRImage p0)]⟩, ⟨0, 31, 7, [[(i64 0), (i64 0), (i64 0), (i64 0), .zc, .zc, .zc]]⟩]) go0 ti31 rfl rfl rfl rfl rfl rfl (show 0 + 7 ≤ 7 by decide) rfl (zq tb rfl (dn hK7 rfl ?_)))
   replace h0 := Sh.some_eq h0
   subst r
   exact AW.ret (Exists.intro _ (And.intro (((((Wk.adoptC (id := 1) (st' := [⟨0, 37, 2, [(eRImage p0)]⟩, ⟨0, 31, 7, [[(i64 0), (i64 0), (i64 0), (i64 0), (.own 2 0 (List.length ([] : List Int))), .zc, .zc]]⟩, (ro 0 3 1 eI ([] : List Int))]) (j := 4) rfl rfl 3 (size' := 1) (by decide) rfl rfl rfl rfl).trans (Wk.adoptC (id := 1) (st' := [⟨0, 37, 2, [(eRImage p0)]⟩, ⟨0, 31, 7, [[(i64 0), (i64 0), (i64 0), (i64 0), (.own 2 0 (List.length ([] : List Int))), (.own 3 0 (List.length ([] : List Cell))), .zc]]⟩, (ro 0 3 1 eI ([] : List Int)), (ro 0 97 3 (eCellD 3) ([] : List Cell))]) (j := 5) rfl rfl 97 (size' := 3) (by decide) rfl rfl rfl rfl)).trans (Wk.adoptC (id := 1) (st' := [⟨0, 37, 2, [(eRImage p0)]⟩, ⟨0, 31, 7, [[(i64 0), (i64 0), (i64 0), (i64 0), (.own 2 0 (List.length ([] : List Int))), (.own 3 0 (List.length ([] : List Cell))), (.own 4 0 (List.length ([] : List RFrame)))]]⟩, (ro 0 3 1 eI ([] : List Int)), (ro 0 97 3 (eCellD 3) ([] : List Cell)), (ro 0 79 6 (eRFrameD 3 3 3) ([] : List RFrame))]) (j := 6) rfl rfl 79 (size' := 6) (by decide) rfl rfl rfl rfl)).trans (Wk.permk (L := [(4, (.ptr 3 0 0 0)), (5, (.bool false))]) (st' := [(ro 0 3 1 eI ([] : List Int)), (ro 0 97 3 (eCellD 3) ([] : List Cell)), (ro 0 79 6 (eRFrameD 3 3 3) ([] : List RFrame)), ⟨0, 31, 7, [[(i64 0), (i64 0), (i64 0), (i64 0), (.own 0 0 (List.length ([] : List Int))), (.own 1 0 (List.length ([] : List Cell))), (.own 2 0 (List.length ([] : List RFrame)))]]⟩]) (st1 := [(ro 0 3 1 eI ([] : List Int)), (ro 0 97 3 (eCellD 3) ([] : List Cell)), (ro 0 79 6 (eRFrameD 3 3 3) ([] : List RFrame)), ⟨0, 31, 7, [[(i64 0), (i64 0), (i64 0), (i64 0), (.own 2 0 (List.length ([] : List Int))), (.own 3 0 (List.length ([] : List Cell))), (.own 4 0 (List.length ([] : List RFrame)))]]⟩]) [2, 3, 4, 1] rfl .nil (by decide) rfl rfl (.pure (pure_map fun _ => rfl) (.deep (pure_mapD fun _ => rfl) (.deep (pure_mapD fun _ => rfl) (.raw rfl rfl .nil)))) ⟨.rfl, .rfl, trivial⟩)).trans (Wk.to (L := [(4, (.ptr 3 0 0 0)), (5, (.bool false))]) ⟨.rfl, .rfl, trivial⟩)) (aq_ldpa (x := .tmp 4) (off := 0) (cs := [(i64 0), (i64 0), (i64 0), (i64 0), (.own 0 0 (List.length ([] : List Int))), (.own 1 0 (List.length ([] : List Cell))), (.own 2 0 (List.length ([] : List RFrame)))]) (vs := [(i64 0), (i64 0), (i64 0), (i64 0), (.own 0 0 (List.length ([] : List Int))), (.own 1 0 (List.length ([] : List Cell))), (.own 2 0 (List.length ([] : List RFrame)))]) ti31 rfl rfl rfl (show 0 + 7 ≤ 7 by decide) rfl _ ⟨rfl, rfl⟩)))
  ·intro b6 h0
   refine AW.skip (hK2 _ (sr rfl fun K8 hK8 => zm tb 2 rfl (bs h0 fun q9 gq9 h0 => ao_call (v' := (.agg [(i64 q9.status), (i64 q9.value), (i64 q9.calls), (i64 q9.most), (ow 2 0 q9.out), (ow 3 0 q9.heap), (ow 4 0 q9.frames)])) (st' := [⟨0, 37, 2, [(eRImage p0)]⟩, ⟨0, 31, 7, [[(i64 0), (i64 0), (i64 0), (i64 0), .zc, .zc, .zc]]⟩, (ro 0 3 1 eI q9.out), (ro 0 97 3 (eCellD 3) q9.heap), (ro 0 79 6 (eRFrameD 3 3 3) q9.frames)]) go0 hb21 (impl_startState_ok gq9) rfl rfl ⟨(pure_map' fun _ => rfl), ⟨(pure_mapD fun _ => rfl), ⟨(pure_mapD fun _ => rfl), trivial⟩⟩⟩ rfl rfl (ao_str (st' := [⟨0, 37, 2, [(eRImage p0)]⟩, ⟨0, 31, 7, [[(i64 q9.status), (i64 q9.value), (i64 q9.calls), (i64 q9.most), (ow 2 0 q9.out), (ow 3 0 q9.heap), (ow 4 0 q9.frames)]]⟩, (ro 0 3 1 eI q9.out), (ro 0 97 3 (eCellD 3) q9.heap), (ro 0 79 6 (eRFrameD 3 3 3) q9.frames)]) go0 ti31 rfl rfl rfl rfl rfl rfl (show 0 + 7 ≤ 7 by decide) rfl (zq tb rfl (dn hK8 rfl ?_))))))
   replace h0 := Sh.some_eq h0
   subst r
   exact AW.ret (Exists.intro _ (And.intro ((Wk.permk (L := [(4, (.ptr 3 0 0 0)), (5, (.bool true))]) (st' := [(ro 0 3 1 eI q9.out), (ro 0 97 3 (eCellD 3) q9.heap), (ro 0 79 6 (eRFrameD 3 3 3) q9.frames), ⟨0, 31, 7, [[(i64 q9.status), (i64 q9.value), (i64 q9.calls), (i64 q9.most), (ow 0 0 q9.out), (ow 1 0 q9.heap), (ow 2 0 q9.frames)]]⟩]) (st1 := [(ro 0 3 1 eI q9.out), (ro 0 97 3 (eCellD 3) q9.heap), (ro 0 79 6 (eRFrameD 3 3 3) q9.frames), ⟨0, 31, 7, [[(i64 q9.status), (i64 q9.value), (i64 q9.calls), (i64 q9.most), (ow 2 0 q9.out), (ow 3 0 q9.heap), (ow 4 0 q9.frames)]]⟩]) [2, 3, 4, 1] rfl .nil (by decide) rfl rfl (.pure (pure_map fun _ => rfl) (.deep (pure_mapD fun _ => rfl) (.deep (pure_mapD fun _ => rfl) (.raw rfl rfl .nil)))) ⟨.rfl, .rfl, trivial⟩).trans (Wk.to (L := [(4, (.ptr 3 0 0 0)), (5, (.bool true))]) ⟨.rfl, .rfl, trivial⟩)) (aq_ldpa (x := .tmp 4) (off := 0) (cs := [(i64 q9.status), (i64 q9.value), (i64 q9.calls), (i64 q9.most), (ow 0 0 q9.out), (ow 1 0 q9.heap), (ow 2 0 q9.frames)]) (vs := [(i64 q9.status), (i64 q9.value), (i64 q9.calls), (i64 q9.most), (ow 0 0 q9.out), (ow 1 0 q9.heap), (ow 2 0 q9.frames)]) ti31 rfl rfl rfl (show 0 + 7 ≤ 7 by decide) rfl _ ⟨rfl, rfl⟩)))
 refine AW.regionO rfl (zq tb rfl (bs h1 fun q10 gq10 h1 => zc hb20 (impl_ValidImage_ok gq10) rfl rfl rfl (zm tb 2 rfl ?_)))
 rcases Sh.ite_some h1 with ⟨b11, h1⟩ | ⟨b11, h1⟩
 ·exact zs b11 rfl (zs b11 rfl (zt b11 rfl (zq tb rfl (zs rfl rfl (zs rfl rfl (zt rfl rfl (AO.done (M5 true (Sh.some_eq h1).symm _ (Wk.tr rfl)))))))))
 ·refine zg tb b11 rfl (zg tb b11 rfl (zf b11 rfl (zq tb rfl ?_)))
  rcases Sh.ite_some h1 with ⟨b12, h1⟩ | ⟨b12, h1⟩
  ·exact zs b12 rfl (zs b12 rfl (zt b12 rfl (AO.done (M5 true (Sh.some_eq h1).symm _ (Wk.tr rfl)))))
  ·exact zg tb b12 rfl (zg tb b12 rfl (zf b12 rfl (AO.done (M5 (decide (40 < p1)) (Sh.some_eq h1).symm _ (Wk.tr rfl)))))
theorem laws_eqIntS_ok {N : Nat} {p0 : (List Int)} {p1 : (List Int)} {r : Bool} (h0 : laws_eqIntS N p0 p1 = some r) : ACalls Try.prog 22 [(ls eI p0), (ls eI p1)] [] (fun v st => v = (.bool r) ∧ st = []) := by
 unfold laws_eqIntS at h0
 refine ai Try.func22 rfl rfl rfl rfl (zr tb rfl rfl (AW.seq fun K2 hK2 => sr rfl fun K3 hK3 => zq tb rfl (zl tb rfl rfl (zq tb rfl (zl tb rfl rfl (zq tb rfl (dn hK3 rfl ?_)))))))
 refine ci h0 rfl ?_ ?_ <;> clear h0
 ·intro b4 h0
  have b5 : decide ((Sh.len p0) = (Sh.len p1)) = false := by simpa using b4
  refine zr tb rfl rfl ?_
  replace h0 := Sh.some_eq h0
  subst r
  exact AW.ret (xr (Wk.to (L := [(4, (.bool false))]) ⟨.rfl, trivial⟩))
 ·intro b4 h0
  have b7 : decide ((Sh.len p0) = (Sh.len p1)) = true := by simpa using b4
  refine AW.skip (hK2 _ (AW.seq fun K8 hK8 => zr tb rfl rfl ?_))
  obtain ⟨o11, h1, h0⟩ := Sh.cont_some h0
  have M11 : ∀ (_ : Unit), o11 = Sum.inr () → ∀ s, Wk 0 s ⟨26, envL [], []⟩ → K8 s := by
   intro _ hq s hw
   subst o11
   try dsimp only at h0
   refine hK8 _ (AW.weaken hw (zr tb rfl rfl ?_))
   replace h0 := Sh.some_eq h0
   subst r
   exact AW.ret (xr (Wk.to (L := [(4, (.bool true))]) ⟨.rfl, trivial⟩))
  refine AW.block (AW.loopF (σ := Int) (fun n v => laws_eqIntS_L1 p0 p1 n v = some o11) (fun i10 => ⟨26, envL [(0, (ls eI p0)), (1, (ls eI p1)), (5, (i64 i10))], []⟩) N 0 h1 (Wk.tr rfl) (fun _ hv => by rw [laws_eqIntS_L1] at hv; cases hv) ?_)
  rintro n i10 h1
  try dsimp only at h1 ⊢
  rw [laws_eqIntS_L1] at h1
  refine AW.seq fun K13 hK13 => sr rfl fun K14 hK14 => zm tb 2 rfl (zl tb rfl rfl (zq tb rfl (dn hK14 rfl ?_)))
  refine ci h1 rfl ?_ ?_ <;> clear h1
  ·intro b15 h1
   refine AW.skip (hK13 _ (AW.seq fun K16 hK16 => AW.block (AW.seq fun K17 hK17 => ?_)))
   refine AW.draw (by kernel_rfl) (by kernel_rfl) (by rfl) ?_
   iterate 2 refine yq tb rfl ?_
   refine bs h1 fun c18 gc18 h1 => yx ei27 gc18 rfl rfl rfl ?_
   iterate 3 refine yq tb rfl ?_
   refine bs h1 fun c19 gc19 h1 => yx ei27 gc19 rfl rfl rfl ?_
   iterate 2 refine yq tb rfl ?_
   refine d_done (hK17 _ ?_)
   refine ci h1 rfl ?_ ?_ <;> clear h1
   ·intro b20 h1
    have b21 : decide (c18 = c19) = false := by simpa using b20
    refine zr tb rfl rfl ?_
    replace h1 := Sh.some_eq h1
    subst o11
    try dsimp only [id] at h0
    replace h0 := Sh.some_eq h0
    subst r
    exact AW.ret (xr (Wk.to (L := [(4, (.bool false))]) ⟨.rfl, trivial⟩))
   ·intro b20 h1
    have b23 : decide (c18 = c19) = true := by simpa using b20
    exact AW.skip (hK16 _ (AW.regionO rfl (zm tb 3 rfl (AO.done (xi (Sh.w (i10 + 1)) h1 (Wk.tr rfl))))))
  ·intro b15 h1
   exact AW.exit (M11 () (Sh.some_eq h1).symm _ (Wk.tr rfl))
theorem laws_eqCell_ok {N : Nat} {p0 : Cell} {p1 : Cell} {r : Bool} (h0 : laws_eqCell N p0 p1 = some r) : ACalls Try.prog 46 [(.agg (eCell p0)), (.agg (eCell p1))] [] (fun v st => v = (.bool r) ∧ st = []) := by
 unfold laws_eqCell at h0
 refine ai Try.func46 rfl rfl rfl rfl (sr rfl fun K1 hK1 => ao_box (m := 0) (st' := [⟨0, 97, 3, [(eCell p0)]⟩]) go0 rfl rfl rfl rfl rfl (ao_box (m := 1) (st' := [⟨0, 97, 3, [(eCell p0)]⟩, ⟨0, 97, 3, [(eCell p1)]⟩]) go0 rfl rfl rfl rfl rfl (zq tb rfl (dn hK1 rfl (AW.seq fun K2 hK2 => zr tb rfl rfl ?_)))))
 refine ci h0 rfl ?_ ?_ <;> clear h0
 ·intro b4 h0
  have b5 : decide (p0.count = p1.count) = false := by simpa using b4
  refine zr tb rfl rfl ?_
  replace h0 := Sh.some_eq h0
  subst r
  exact AW.ret (xr (Wk.d0 [(4, (.bool false))] rfl))
 ·intro b4 h0
  have b7 : decide (p0.count = p1.count) = true := by simpa using b4
  refine AW.skip (hK2 _ (AW.seq fun K8 hK8 => zr tb rfl rfl ?_))
  refine ci h0 rfl ?_ ?_ <;> clear h0
  ·intro b10 h0
   have b11 : decide (p0.tag = p1.tag) = false := by simpa using b10
   refine zr tb rfl rfl ?_
   replace h0 := Sh.some_eq h0
   subst r
   exact AW.ret (xr (Wk.d0 [(4, (.bool false))] rfl))
  ·intro b10 h0
   have b13 : decide (p0.tag = p1.tag) = true := by simpa using b10
   refine AW.skip (hK8 _ (AW.seq fun K14 hK14 => sr rfl fun K15 hK15 => zm tb 4 rfl (bs h0 fun q16 gq16 h0 => zc hb22 (laws_eqIntS_ok gq16) rfl rfl rfl (zq tb rfl (dn hK15 rfl ?_)))))
   refine ci h0 rfl ?_ ?_ <;> clear h0
   ·intro b17 h0
    have b18 : q16 = false := by simpa using b17
    refine zr tb rfl rfl ?_
    replace h0 := Sh.some_eq h0
    subst r
    exact AW.ret (xr (Wk.d0 [(4, (.bool false))] rfl))
   ·intro b17 h0
    have b20 : q16 = true := by simpa using b17
    refine AW.skip (hK14 _ (zr tb rfl rfl ?_))
    replace h0 := Sh.some_eq h0
    subst r
    exact AW.ret (xr (Wk.d0 [(4, (.bool true))] rfl))
theorem laws_eqCellS_ok {N : Nat} {p0 : (List Cell)} {p1 : (List Cell)} {r : Bool} (h0 : laws_eqCellS N p0 p1 = some r) : ACalls Try.prog 23 [(ls eCell p0), (ls eCell p1)] [] (fun v st => v = (.bool r) ∧ st = []) := by
 unfold laws_eqCellS at h0
 refine ai Try.func23 rfl rfl rfl rfl (zr tb rfl rfl (AW.seq fun K2 hK2 => sr rfl fun K3 hK3 => zq tb rfl (zl tb rfl rfl (zq tb rfl (zl tb rfl rfl (zq tb rfl (dn hK3 rfl ?_)))))))
 refine ci h0 rfl ?_ ?_ <;> clear h0
 ·intro b4 h0
  have b5 : decide ((Sh.len p0) = (Sh.len p1)) = false := by simpa using b4
  refine zr tb rfl rfl ?_
  replace h0 := Sh.some_eq h0
  subst r
  exact AW.ret (xr (Wk.to (L := [(4, (.bool false))]) ⟨.rfl, trivial⟩))
 ·intro b4 h0
  have b7 : decide ((Sh.len p0) = (Sh.len p1)) = true := by simpa using b4
  refine AW.skip (hK2 _ (AW.seq fun K8 hK8 => zr tb rfl rfl ?_))
  obtain ⟨o11, h1, h0⟩ := Sh.cont_some h0
  have M11 : ∀ (_ : Unit), o11 = Sum.inr () → ∀ s, Wk 0 s ⟨27, envL [], []⟩ → K8 s := by
   intro _ hq s hw
   subst o11
   try dsimp only at h0
   refine hK8 _ (AW.weaken hw (zr tb rfl rfl ?_))
   replace h0 := Sh.some_eq h0
   subst r
   exact AW.ret (xr (Wk.to (L := [(4, (.bool true))]) ⟨.rfl, trivial⟩))
  refine AW.block (AW.loopF (σ := Int) (fun n v => laws_eqCellS_L1 N p0 p1 n v = some o11) (fun i10 => ⟨27, envL [(0, (ls eCell p0)), (1, (ls eCell p1)), (5, (i64 i10))], []⟩) N 0 h1 (Wk.tr rfl) (fun _ hv => by rw [laws_eqCellS_L1] at hv; cases hv) ?_)
  rintro n i10 h1
  try dsimp only at h1 ⊢
  rw [laws_eqCellS_L1] at h1
  refine AW.seq fun K13 hK13 => sr rfl fun K14 hK14 => zm tb 2 rfl (zl tb rfl rfl (zq tb rfl (dn hK14 rfl ?_)))
  refine ci h1 rfl ?_ ?_ <;> clear h1
  ·intro b15 h1
   refine AW.skip (hK13 _ (AW.seq fun K16 hK16 => AW.block (AW.seq fun K17 hK17 => ?_)))
   refine AW.draw (by kernel_rfl) (by kernel_rfl) (by rfl) ?_
   iterate 2 refine yq tb rfl ?_
   refine bs h1 fun c18 gc18 h1 => yx ei28 gc18 rfl rfl rfl ?_
   iterate 3 refine yq tb rfl ?_
   refine bs h1 fun c19 gc19 h1 => yx ei28 gc19 rfl rfl rfl (yq tb rfl (bs h1 fun q20 gq20 h1 => d_call (v := (.bool q20)) go0 hb46 (laws_eqCell_ok gq20) rfl rfl rfl (yq tb rfl (d_done (hK17 _ ?_)))))
   refine ci h1 rfl ?_ ?_ <;> clear h1
   ·intro b21 h1
    have b22 : q20 = false := by simpa using b21
    refine zr tb rfl rfl ?_
    replace h1 := Sh.some_eq h1
    subst o11
    try dsimp only [id] at h0
    replace h0 := Sh.some_eq h0
    subst r
    exact AW.ret (xr (Wk.to (L := [(4, (.bool false))]) ⟨.rfl, trivial⟩))
   ·intro b21 h1
    have b24 : q20 = true := by simpa using b21
    exact AW.skip (hK16 _ (AW.regionO rfl (zm tb 3 rfl (AO.done (xi (Sh.w (i10 + 1)) h1 (Wk.tr rfl))))))
  ·intro b15 h1
   exact AW.exit (M11 () (Sh.some_eq h1).symm _ (Wk.tr rfl))
theorem laws_eqFrame_ok {N : Nat} {p0 : RFrame} {p1 : RFrame} {r : Bool} (h0 : laws_eqFrame N p0 p1 = some r) : ACalls Try.prog 47 [(.agg (eRFrame p0)), (.agg (eRFrame p1))] [] (fun v st => v = (.bool r) ∧ st = []) := by
 unfold laws_eqFrame at h0
 refine ai Try.func47 rfl rfl rfl rfl (sr rfl fun K1 hK1 => ao_box (m := 0) (st' := [⟨0, 79, 6, [(eRFrame p0)]⟩]) go0 rfl rfl rfl rfl rfl (ao_box (m := 1) (st' := [⟨0, 79, 6, [(eRFrame p0)]⟩, ⟨0, 79, 6, [(eRFrame p1)]⟩]) go0 rfl rfl rfl rfl rfl (zq tb rfl (dn hK1 rfl (AW.seq fun K2 hK2 => zr tb rfl rfl ?_)))))
 refine ci h0 rfl ?_ ?_ <;> clear h0
 ·intro b4 h0
  have b5 : decide (p0.proc = p1.proc) = false := by simpa using b4
  refine zr tb rfl rfl ?_
  replace h0 := Sh.some_eq h0
  subst r
  exact AW.ret (xr (Wk.d0 [(4, (.bool false))] rfl))
 ·intro b4 h0
  have b7 : decide (p0.proc = p1.proc) = true := by simpa using b4
  refine AW.skip (hK2 _ (AW.seq fun K8 hK8 => zr tb rfl rfl ?_))
  refine ci h0 rfl ?_ ?_ <;> clear h0
  ·intro b10 h0
   have b11 : decide (p0.at_ = p1.at_) = false := by simpa using b10
   refine zr tb rfl rfl ?_
   replace h0 := Sh.some_eq h0
   subst r
   exact AW.ret (xr (Wk.d0 [(4, (.bool false))] rfl))
  ·intro b10 h0
   have b13 : decide (p0.at_ = p1.at_) = true := by simpa using b10
   refine AW.skip (hK8 _ (AW.seq fun K14 hK14 => zr tb rfl rfl ?_))
   refine ci h0 rfl ?_ ?_ <;> clear h0
   ·intro b16 h0
    have b17 : decide (p0.dst = p1.dst) = false := by simpa using b16
    refine zr tb rfl rfl ?_
    replace h0 := Sh.some_eq h0
    subst r
    exact AW.ret (xr (Wk.d0 [(4, (.bool false))] rfl))
   ·intro b16 h0
    have b19 : decide (p0.dst = p1.dst) = true := by simpa using b16
    refine AW.skip (hK14 _ (AW.seq fun K20 hK20 => sr rfl fun K21 hK21 => zm tb 4 rfl (bs h0 fun q22 gq22 h0 => zc hb22 (laws_eqIntS_ok gq22) rfl rfl rfl (zq tb rfl (dn hK21 rfl ?_)))))
    refine ci h0 rfl ?_ ?_ <;> clear h0
    ·intro b23 h0
     have b24 : q22 = false := by simpa using b23
     refine zr tb rfl rfl ?_
     replace h0 := Sh.some_eq h0
     subst r
     exact AW.ret (xr (Wk.d0 [(4, (.bool false))] rfl))
    ·intro b23 h0
     have b26 : q22 = true := by simpa using b23
     refine AW.skip (hK20 _ (AW.seq fun K27 hK27 => sr rfl fun K28 hK28 => zm tb 4 rfl (bs h0 fun q29 gq29 h0 => zc hb22 (laws_eqIntS_ok gq29) rfl rfl rfl (zq tb rfl (dn hK28 rfl ?_)))))
     refine ci h0 rfl ?_ ?_ <;> clear h0
     ·intro b30 h0
      have b31 : q29 = false := by simpa using b30
      refine zr tb rfl rfl ?_
      replace h0 := Sh.some_eq h0
      subst r
      exact AW.ret (xr (Wk.d0 [(4, (.bool false))] rfl))
     ·intro b30 h0
      have b33 : q29 = true := by simpa using b30
      refine AW.skip (hK27 _ (AW.seq fun K34 hK34 => sr rfl fun K35 hK35 => zm tb 4 rfl (bs h0 fun q36 gq36 h0 => zc hb22 (laws_eqIntS_ok gq36) rfl rfl rfl (zq tb rfl (dn hK35 rfl ?_)))))
      refine ci h0 rfl ?_ ?_ <;> clear h0
      ·intro b37 h0
       have b38 : q36 = false := by simpa using b37
       refine zr tb rfl rfl ?_
       replace h0 := Sh.some_eq h0
       subst r
       exact AW.ret (xr (Wk.d0 [(4, (.bool false))] rfl))
      ·intro b37 h0
       have b40 : q36 = true := by simpa using b37
       refine AW.skip (hK34 _ (zr tb rfl rfl ?_))
       replace h0 := Sh.some_eq h0
       subst r
       exact AW.ret (xr (Wk.d0 [(4, (.bool true))] rfl))
theorem laws_eqFrameS_ok {N : Nat} {p0 : (List RFrame)} {p1 : (List RFrame)} {r : Bool} (h0 : laws_eqFrameS N p0 p1 = some r) : ACalls Try.prog 24 [(ls eRFrame p0), (ls eRFrame p1)] [] (fun v st => v = (.bool r) ∧ st = []) := by
 unfold laws_eqFrameS at h0
 refine ai Try.func24 rfl rfl rfl rfl (zr tb rfl rfl (AW.seq fun K2 hK2 => sr rfl fun K3 hK3 => zq tb rfl (zl tb rfl rfl (zq tb rfl (zl tb rfl rfl (zq tb rfl (dn hK3 rfl ?_)))))))
 refine ci h0 rfl ?_ ?_ <;> clear h0
 ·intro b4 h0
  have b5 : decide ((Sh.len p0) = (Sh.len p1)) = false := by simpa using b4
  refine zr tb rfl rfl ?_
  replace h0 := Sh.some_eq h0
  subst r
  exact AW.ret (xr (Wk.to (L := [(4, (.bool false))]) ⟨.rfl, trivial⟩))
 ·intro b4 h0
  have b7 : decide ((Sh.len p0) = (Sh.len p1)) = true := by simpa using b4
  refine AW.skip (hK2 _ (AW.seq fun K8 hK8 => zr tb rfl rfl ?_))
  obtain ⟨o11, h1, h0⟩ := Sh.cont_some h0
  have M11 : ∀ (_ : Unit), o11 = Sum.inr () → ∀ s, Wk 0 s ⟨27, envL [], []⟩ → K8 s := by
   intro _ hq s hw
   subst o11
   try dsimp only at h0
   refine hK8 _ (AW.weaken hw (zr tb rfl rfl ?_))
   replace h0 := Sh.some_eq h0
   subst r
   exact AW.ret (xr (Wk.to (L := [(4, (.bool true))]) ⟨.rfl, trivial⟩))
  refine AW.block (AW.loopF (σ := Int) (fun n v => laws_eqFrameS_L1 N p0 p1 n v = some o11) (fun i10 => ⟨27, envL [(0, (ls eRFrame p0)), (1, (ls eRFrame p1)), (5, (i64 i10))], []⟩) N 0 h1 (Wk.tr rfl) (fun _ hv => by rw [laws_eqFrameS_L1] at hv; cases hv) ?_)
  rintro n i10 h1
  try dsimp only at h1 ⊢
  rw [laws_eqFrameS_L1] at h1
  refine AW.seq fun K13 hK13 => sr rfl fun K14 hK14 => zm tb 2 rfl (zl tb rfl rfl (zq tb rfl (dn hK14 rfl ?_)))
  refine ci h1 rfl ?_ ?_ <;> clear h1
  ·intro b15 h1
   refine AW.skip (hK13 _ (AW.seq fun K16 hK16 => AW.block (AW.seq fun K17 hK17 => ?_)))
   refine AW.draw (by kernel_rfl) (by kernel_rfl) (by rfl) ?_
   iterate 2 refine yq tb rfl ?_
   refine bs h1 fun c18 gc18 h1 => yx ei29 gc18 rfl rfl rfl ?_
   iterate 3 refine yq tb rfl ?_
   refine bs h1 fun c19 gc19 h1 => yx ei29 gc19 rfl rfl rfl (yq tb rfl (bs h1 fun q20 gq20 h1 => d_call (v := (.bool q20)) go0 hb47 (laws_eqFrame_ok gq20) rfl rfl rfl (yq tb rfl (d_done (hK17 _ ?_)))))
   refine ci h1 rfl ?_ ?_ <;> clear h1
   ·intro b21 h1
    have b22 : q20 = false := by simpa using b21
    refine zr tb rfl rfl ?_
    replace h1 := Sh.some_eq h1
    subst o11
    try dsimp only [id] at h0
    replace h0 := Sh.some_eq h0
    subst r
    exact AW.ret (xr (Wk.to (L := [(4, (.bool false))]) ⟨.rfl, trivial⟩))
   ·intro b21 h1
    have b24 : q20 = true := by simpa using b21
    exact AW.skip (hK16 _ (AW.regionO rfl (zm tb 3 rfl (AO.done (xi (Sh.w (i10 + 1)) h1 (Wk.tr rfl))))))
  ·intro b15 h1
   exact AW.exit (M11 () (Sh.some_eq h1).symm _ (Wk.tr rfl))
theorem laws_eqState_ok {N : Nat} {p0 : RState} {p1 : RState} {r : Bool} (h0 : laws_eqState N p0 p1 = some r) : ACalls Try.prog 8 [(.agg (eRState p0)), (.agg (eRState p1))] [] (fun v st => v = (.bool r) ∧ st = []) := by
 unfold laws_eqState at h0
 refine ai Try.func8 rfl rfl rfl rfl (sr rfl fun K1 hK1 => ao_box (m := 0) (st' := [⟨0, 31, 7, [(eRState p0)]⟩]) go0 rfl rfl rfl rfl rfl (ao_box (m := 1) (st' := [⟨0, 31, 7, [(eRState p0)]⟩, ⟨0, 31, 7, [(eRState p1)]⟩]) go0 rfl rfl rfl rfl rfl (zq tb rfl (dn hK1 rfl (AW.seq fun K2 hK2 => zr tb rfl rfl ?_)))))
 refine ci h0 rfl ?_ ?_ <;> clear h0
 ·intro b4 h0
  have b5 : decide (p0.status = p1.status) = false := by simpa using b4
  refine zr tb rfl rfl ?_
  replace h0 := Sh.some_eq h0
  subst r
  exact AW.ret (xr (Wk.d0 [(4, (.bool false))] rfl))
 ·intro b4 h0
  have b7 : decide (p0.status = p1.status) = true := by simpa using b4
  refine AW.skip (hK2 _ (AW.seq fun K8 hK8 => zr tb rfl rfl ?_))
  refine ci h0 rfl ?_ ?_ <;> clear h0
  ·intro b10 h0
   have b11 : decide (p0.value = p1.value) = false := by simpa using b10
   refine zr tb rfl rfl ?_
   replace h0 := Sh.some_eq h0
   subst r
   exact AW.ret (xr (Wk.d0 [(4, (.bool false))] rfl))
  ·intro b10 h0
   have b13 : decide (p0.value = p1.value) = true := by simpa using b10
   refine AW.skip (hK8 _ (AW.seq fun K14 hK14 => zr tb rfl rfl ?_))
   refine ci h0 rfl ?_ ?_ <;> clear h0
   ·intro b16 h0
    have b17 : decide (p0.calls = p1.calls) = false := by simpa using b16
    refine zr tb rfl rfl ?_
    replace h0 := Sh.some_eq h0
    subst r
    exact AW.ret (xr (Wk.d0 [(4, (.bool false))] rfl))
   ·intro b16 h0
    have b19 : decide (p0.calls = p1.calls) = true := by simpa using b16
    refine AW.skip (hK14 _ (AW.seq fun K20 hK20 => zr tb rfl rfl ?_))
    refine ci h0 rfl ?_ ?_ <;> clear h0
    ·intro b22 h0
     have b23 : decide (p0.most = p1.most) = false := by simpa using b22
     refine zr tb rfl rfl ?_
     replace h0 := Sh.some_eq h0
     subst r
     exact AW.ret (xr (Wk.d0 [(4, (.bool false))] rfl))
    ·intro b22 h0
     have b25 : decide (p0.most = p1.most) = true := by simpa using b22
     refine AW.skip (hK20 _ (AW.seq fun K26 hK26 => sr rfl fun K27 hK27 => zm tb 4 rfl (bs h0 fun q28 gq28 h0 => zc hb22 (laws_eqIntS_ok gq28) rfl rfl rfl (zq tb rfl (dn hK27 rfl ?_)))))
     refine ci h0 rfl ?_ ?_ <;> clear h0
     ·intro b29 h0
      have b30 : q28 = false := by simpa using b29
      refine zr tb rfl rfl ?_
      replace h0 := Sh.some_eq h0
      subst r
      exact AW.ret (xr (Wk.d0 [(4, (.bool false))] rfl))
     ·intro b29 h0
      have b32 : q28 = true := by simpa using b29
      refine AW.skip (hK26 _ (AW.seq fun K33 hK33 => sr rfl fun K34 hK34 => zm tb 4 rfl (bs h0 fun q35 gq35 h0 => zc hb23 (laws_eqCellS_ok gq35) rfl rfl rfl (zq tb rfl (dn hK34 rfl ?_)))))
      refine ci h0 rfl ?_ ?_ <;> clear h0
      ·intro b36 h0
       have b37 : q35 = false := by simpa using b36
       refine zr tb rfl rfl ?_
       replace h0 := Sh.some_eq h0
       subst r
       exact AW.ret (xr (Wk.d0 [(4, (.bool false))] rfl))
      ·intro b36 h0
       have b39 : q35 = true := by simpa using b36
       refine AW.skip (hK33 _ (AW.seq fun K40 hK40 => sr rfl fun K41 hK41 => zm tb 4 rfl (bs h0 fun q42 gq42 h0 => zc hb24 (laws_eqFrameS_ok gq42) rfl rfl rfl (zq tb rfl (dn hK41 rfl ?_)))))
       refine ci h0 rfl ?_ ?_ <;> clear h0
       ·intro b43 h0
        have b44 : q42 = false := by simpa using b43
        refine zr tb rfl rfl ?_
        replace h0 := Sh.some_eq h0
        subst r
        exact AW.ret (xr (Wk.d0 [(4, (.bool false))] rfl))
       ·intro b43 h0
        have b46 : q42 = true := by simpa using b43
        refine AW.skip (hK40 _ (zr tb rfl rfl ?_))
        replace h0 := Sh.some_eq h0
        subst r
        exact AW.ret (xr (Wk.d0 [(4, (.bool true))] rfl))
theorem laws_eqCon_ok {N : Nat} {p0 : RCon} {p1 : RCon} {r : Bool} (h0 : laws_eqCon N p0 p1 = some r) : ACalls Try.prog 90 [(.agg (eRCon p0)), (.agg (eRCon p1))] [] (fun v st => v = (.bool r) ∧ st = []) := by
 unfold laws_eqCon at h0
 refine ai Try.func90 rfl rfl rfl rfl (sr rfl fun K1 hK1 => ao_box (m := 0) (st' := [⟨0, 128, 1, [(eRCon p0)]⟩]) go0 rfl rfl rfl rfl rfl (ao_box (m := 1) (st' := [⟨0, 128, 1, [(eRCon p0)]⟩, ⟨0, 128, 1, [(eRCon p1)]⟩]) go0 rfl rfl rfl rfl rfl (zq tb rfl (dn hK1 rfl (AW.seq fun K2 hK2 => sr rfl fun K3 hK3 => zm tb 4 rfl (bs h0 fun q4 gq4 h0 => zc hb22 (laws_eqIntS_ok gq4) rfl rfl rfl (zq tb rfl ?_)))))))
 refine dn hK3 rfl ?_
 refine ci h0 rfl ?_ ?_ <;> clear h0
 ·intro b5 h0
  have b6 : q4 = false := by simpa using b5
  refine zr tb rfl rfl ?_
  replace h0 := Sh.some_eq h0
  subst r
  exact AW.ret (xr (Wk.d0 [(4, (.bool false))] rfl))
 ·intro b5 h0
  have b8 : q4 = true := by simpa using b5
  refine AW.skip (hK2 _ (zr tb rfl rfl ?_))
  replace h0 := Sh.some_eq h0
  subst r
  exact AW.ret (xr (Wk.d0 [(4, (.bool true))] rfl))
end Go.Proofs.Yteoiihebkhmgoaa

