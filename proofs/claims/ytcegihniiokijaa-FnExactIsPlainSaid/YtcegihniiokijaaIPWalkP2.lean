import Derived.Test.YtcegihniiokijaaProg
import Derived.Test.YtcegihniiokijaaIPDefs
import Derived.Test.YtcegihniiokijaaIPWalkP1
namespace Go.Proofs.Ytcegihniiokijaa
open Go Go.Abs RC
attribute [local irreducible] Go.Abs.dops
set_option maxRecDepth 100000
set_option maxHeartbeats 4000000

theorem ai102 : allInfo Try.prog 102 = true := by kernel_rfl
theorem ai127 : allInfo Try.prog 127 = true := by kernel_rfl
theorem ai152 : allInfo Try.prog 152 = true := by kernel_rfl
theorem ai97 : allInfo Try.prog 97 = true := by kernel_rfl
theorem bi102 : finfos Try.prog 102 = some [(0, 1), (1, 1)] := by kernel_rfl
theorem bi127 : finfos Try.prog 127 = some [(0, 1), (1, 1), (2, 1)] := by kernel_rfl
theorem bi152 : finfos Try.prog 152 = some [(0, 1)] := by kernel_rfl
theorem bi97 : finfos Try.prog 97 = some [(0, 1), (1, 1), (2, 1)] := by kernel_rfl
theorem ei161 : einfo Try.prog 161 = some ⟨22, 1, 24, [.sl []]⟩ := by kernel_rfl
theorem hb107 : hasBody Try.prog 107 = true := by kernel_rfl
theorem hb108 : hasBody Try.prog 108 = true := by kernel_rfl
theorem hb109 : hasBody Try.prog 109 = true := by kernel_rfl
theorem hb110 : hasBody Try.prog 110 = true := by kernel_rfl
theorem hb127 : hasBody Try.prog 127 = true := by kernel_rfl
theorem hb128 : hasBody Try.prog 128 = true := by kernel_rfl
theorem hb129 : hasBody Try.prog 129 = true := by kernel_rfl
theorem hb130 : hasBody Try.prog 130 = true := by kernel_rfl
theorem hb131 : hasBody Try.prog 131 = true := by kernel_rfl
theorem hb132 : hasBody Try.prog 132 = true := by kernel_rfl
theorem hb141 : hasBody Try.prog 141 = true := by kernel_rfl
theorem hb142 : hasBody Try.prog 142 = true := by kernel_rfl
theorem hb58 : hasBody Try.prog 58 = true := by kernel_rfl
theorem hb61 : hasBody Try.prog 61 = true := by kernel_rfl
theorem hb80 : hasBody Try.prog 80 = true := by kernel_rfl
theorem hb81 : hasBody Try.prog 81 = true := by kernel_rfl
theorem iT3 : Program.underlying Try.prog 3 = some (.int .i64) := by kernel_rfl
theorem sl161 : isSliceT Try.prog 161 = true := by kernel_rfl
theorem ti100 : tinfo Try.prog 100 = some (false, 1) := by kernel_rfl
theorem ti102 : tinfo Try.prog 102 = some (true, 2) := by kernel_rfl
theorem zi102 : zinfo Try.prog 102 = some [.zc, .zc] := by kernel_rfl
theorem zi3 : zinfo Try.prog 3 = some [.int .i64 0] := by kernel_rfl

theorem impl_normalSigs_ok {N : Nat} {p0 : RNormal} {r : RSignatures × Bool} (h0 : impl_normalSigs N p0 = some r) : ACalls Try.prog 56 [(.agg [(ls eRDecl p0.decls), (ls eRRoutine p0.routines)])] [] (fun v st => v = (.tup [(.agg (eRSignatures r.1)), (.bool r.2)]) ∧ st = []) := by
 unfold impl_normalSigs at h0
 refine ACalls.flat rfl (ai Try.func56 rfl rfl rfl rfl (sr rfl fun K1 hK1 => ao_box (m := 0) (st' := [⟨0, 42, 2, [[(ls eRDecl p0.decls), (ls eRRoutine p0.routines)]]⟩]) go0 rfl rfl rfl rfl rfl (ao_alloc (m := 1) (st' := [⟨0, 42, 2, [[(ls eRDecl p0.decls), (ls eRRoutine p0.routines)]]⟩, ⟨0, 102, 2, [[.zc, .zc]]⟩]) go0 zi102 rfl rfl (zq tb rfl (dn hK1 rfl (AW.seq fun K2 hK2 => sr rfl fun K3 hK3 => zm tb 2 rfl (zl tb rfl rfl (zq tb rfl ?_))))))))
 refine dn hK3 rfl ?_
 refine ci h0 rfl ?_ ?_ <;> clear h0
 ·intro b4 h0
  refine sr rfl fun K5 hK5 => zz (.agg [.zc, .zc]) (aq_bd ai102 bi102 zi102 rfl rfl) rfl (ao_str (st' := [⟨0, 42, 2, [[(ls eRDecl p0.decls), (ls eRRoutine p0.routines)]]⟩, ⟨0, 102, 2, [[.zc, .zc]]⟩]) go0 ti102 rfl rfl rfl rfl rfl rfl (show 0 + 2 ≤ 2 by decide) rfl (zq tb rfl (dn hK5 rfl ?_)))
  replace h0 := Sh.some_eq h0
  subst r
  exact AW.ret (Exists.intro _ (And.intro ((((Wk.cellLe (id := 1) (cs := [.zc, .zc]) (cs' := [(.sl (List.map eRDecl [])), .zc]) (st' := [⟨0, 42, 2, [[(ls eRDecl p0.decls), (ls eRRoutine p0.routines)]]⟩, ⟨0, 102, 2, [[(.sl (List.map eRDecl [])), .zc]]⟩]) rfl ⟨le.zc, le.rfl, trivial⟩ rfl rfl).trans (Wk.cellLe (id := 1) (cs := [(.sl (List.map eRDecl [])), .zc]) (cs' := [(.sl (List.map eRDecl [])), (.sl (List.map eRSignature []))]) (st' := [⟨0, 42, 2, [[(ls eRDecl p0.decls), (ls eRRoutine p0.routines)]]⟩, ⟨0, 102, 2, [[(.sl (List.map eRDecl [])), (.sl (List.map eRSignature []))]]⟩]) rfl ⟨le.rfl, le.zc, trivial⟩ rfl rfl)).trans (Wk.permk (L := [(2, (.ptr 0 0 0 0)), (3, (.bool false))]) (st' := [⟨0, 102, 2, [[(.sl (List.map eRDecl [])), (.sl (List.map eRSignature []))]]⟩]) (st1 := [⟨0, 102, 2, [[(.sl (List.map eRDecl [])), (.sl (List.map eRSignature []))]]⟩]) [1] rfl .nil (by decide) rfl rfl (.raw rfl rfl .nil) ⟨.rfl, .rfl, trivial⟩)).trans (Wk.to (L := [(2, (.ptr 0 0 0 0)), (3, (.bool false))]) ⟨.rfl, .rfl, trivial⟩)) (aq_ldpa (x := .tmp 2) (off := 0) (cs := [(.sl (List.map eRDecl [])), (.sl (List.map eRSignature []))]) (vs := [(.sl (List.map eRDecl [])), (.sl (List.map eRSignature []))]) ti102 rfl rfl rfl (show 0 + 2 ≤ 2 by decide) rfl _ rfl)))
 ·intro b4 h0
  refine AW.skip (hK2 _ (sr rfl fun K6 hK6 => zm tb 2 rfl (zz (.agg [(ls eRDecl p0.decls), .zc]) (aq_bd ai102 bi102 zi102 rfl rfl) rfl (ao_alloc (m := 2) (st' := [⟨0, 42, 2, [[(ls eRDecl p0.decls), (ls eRRoutine p0.routines)]]⟩, ⟨0, 102, 2, [[.zc, .zc]]⟩, ⟨0, 102, 2, [[.zc, .zc]]⟩]) go0 zi102 rfl rfl (ao_str (st' := [⟨0, 42, 2, [[(ls eRDecl p0.decls), (ls eRRoutine p0.routines)]]⟩, ⟨0, 102, 2, [[.zc, .zc]]⟩, ⟨0, 102, 2, [[(ls eRDecl p0.decls), .zc]]⟩]) go0 ti102 rfl rfl rfl rfl rfl rfl (show 0 + 2 ≤ 2 by decide) rfl (dn hK6 rfl (AW.seq fun K7 hK7 => sr rfl fun K8 hK8 => zm tb 2 rfl (zl tb rfl rfl (zq tb rfl ?_)))))))))
  refine dn hK8 rfl (bs h0 fun o12 h1 h0 => ?_)
  have M12 : ∀ (l11 : (List RSignature)), o12 = l11 → ∀ s, Wk 0 s ⟨41, envL [(1, (.ptr 0 0 0 0)), (2, (.ptr 1 0 0 0)), (4, (.ptr 2 0 0 0))], [⟨0, 42, 2, [[(ls eRDecl p0.decls), (ls eRRoutine p0.routines)]]⟩, ⟨0, 102, 2, [[.zc, .zc]]⟩, ⟨0, 102, 2, [[(ls eRDecl p0.decls), (ow 3 0 l11)]]⟩, (ro 0 127 3 eRSignature l11)]⟩ → K7 s := by
   intro l11 hq s hw
   subst o12
   try dsimp only at h0
   refine hK7 _ (AW.weaken hw (AW.seq fun K13 hK13 => ?_))
   refine AW.drawTailO 6 (by kernel_rfl) (by kernel_rfl) (by rfl) ?_
   iterate 5 refine yq tb rfl ?_
   refine bs h0 fun q14 gq14 h0 => d_callb (v' := (.bool q14)) go0 hb80 (impl_validSigs_ok gq14) rfl (.val rfl (.own rfl rfl (fun _ => rfl) .nil)) rfl rfl (d_done (AO.weaken (Wk.frz (L := [(2, (.ptr 1 0 0 0)), (35, (.agg [(ls eRDecl p0.decls), (ls eRSignature l11)])), (40, (.bool q14))]) (st' := [⟨0, 42, 2, [[(ls eRDecl p0.decls), (ls eRRoutine p0.routines)]]⟩, ⟨0, 102, 2, [[.zc, .zc]]⟩, ⟨0, 102, 2, [[(ls eRDecl p0.decls), (ow 3 0 l11)]]⟩, ⟨1, 127, 3, []⟩]) (id := 3) rfl (show 0 ≤ 3 by decide) (pure_map fun _ => rfl) ⟨.rfl, (.agg ⟨.rfl, (.frz1 rfl), trivial⟩), .rfl, trivial⟩ rfl) (ao_str (st' := [⟨0, 42, 2, [[(ls eRDecl p0.decls), (ls eRRoutine p0.routines)]]⟩, ⟨0, 102, 2, [[(ls eRDecl p0.decls), (ls eRSignature l11)]]⟩, ⟨0, 102, 2, [[(ls eRDecl p0.decls), (ow 3 0 l11)]]⟩, ⟨1, 127, 3, []⟩]) go0 ti102 rfl rfl rfl rfl rfl rfl (show 0 + 2 ≤ 2 by decide) rfl (zq tb rfl (dn hK13 rfl ?_)))))
   replace h0 := Sh.some_eq h0
   subst r
   exact AW.ret (Exists.intro _ (And.intro ((Wk.permk (L := [(2, (.ptr 0 0 0 0)), (3, (.bool q14))]) (st' := [⟨0, 102, 2, [[(ls eRDecl p0.decls), (ls eRSignature l11)]]⟩]) (st1 := [⟨0, 102, 2, [[(ls eRDecl p0.decls), (ls eRSignature l11)]]⟩]) [1] rfl .nil (by decide) rfl rfl (.raw rfl rfl .nil) ⟨.rfl, .rfl, trivial⟩).trans (Wk.to (L := [(2, (.ptr 0 0 0 0)), (3, (.bool q14))]) ⟨.rfl, .rfl, trivial⟩)) (aq_ldpa (x := .tmp 2) (off := 0) (cs := [(ls eRDecl p0.decls), (ls eRSignature l11)]) (vs := [(ls eRDecl p0.decls), (ls eRSignature l11)]) ti102 rfl rfl rfl (show 0 + 2 ≤ 2 by decide) rfl _ rfl)))
  refine AW.block (AW.loopF (σ := Int × (List RSignature)) (fun n v => impl_normalSigs_L1 p0 n v.1 v.2 = some o12) (fun (t9, l10) => ⟨41, envL [(1, (.ptr 0 0 0 0)), (2, (.ptr 1 0 0 0)), (4, (.ptr 2 0 0 0)), (16, (ls eRRoutine p0.routines)), (17, (i64 (Sh.len p0.routines))), (18, (i64 t9))], [⟨0, 42, 2, [[(ls eRDecl p0.decls), (ls eRRoutine p0.routines)]]⟩, ⟨0, 102, 2, [[.zc, .zc]]⟩, ⟨0, 102, 2, [[(ls eRDecl p0.decls), (ow 3 0 l10)]]⟩, (ro 0 127 3 eRSignature l10)]⟩) N (0, []) h1 (by refine Wk.trans (Wk.adoptC (id := 2) (st' := [⟨0, 42, 2, [[(ls eRDecl p0.decls), (ls eRRoutine p0.routines)]]⟩, ⟨0, 102, 2, [[.zc, .zc]]⟩, ⟨0, 102, 2, [[(ls eRDecl p0.decls), (.own 3 0 (List.length ([] : List RSignature)))]]⟩, (ro 0 127 3 eRSignature ([] : List RSignature))]) (j := 1) rfl rfl 127 (size' := 3) (by decide) rfl rfl rfl rfl) ?_; exact Wk.tr rfl) (fun _ hv => by rw [impl_normalSigs_L1] at hv; cases hv) ?_)
  rintro n ⟨t9, l10⟩ h1
  try dsimp only at h1 ⊢
  rw [impl_normalSigs_L1] at h1
  refine zr tb rfl rfl (AW.seq fun K16 hK16 => ?_)
  refine ci h1 rfl ?_ ?_ <;> clear h1
  ·intro b17 h1
   refine AW.skip (hK16 _ (AW.seq fun K18 hK18 => AW.block (sr rfl fun K19 hK19 => bs h1 fun c20 gc20 h1 => zx ei40 gc20 rfl rfl rfl (zq tb rfl (ao_alloc (m := 4) (st' := [⟨0, 42, 2, [[(ls eRDecl p0.decls), (ls eRRoutine p0.routines)]]⟩, ⟨0, 102, 2, [[.zc, .zc]]⟩, ⟨0, 102, 2, [[(ls eRDecl p0.decls), (ow 3 0 l10)]]⟩, (ro 0 127 3 eRSignature l10), ⟨0, 68, 5, [[.zc, .zc, (i64 0), .zc, (i64 0)]]⟩]) go0 zi68 rfl rfl (ao_str (st' := [⟨0, 42, 2, [[(ls eRDecl p0.decls), (ls eRRoutine p0.routines)]]⟩, ⟨0, 102, 2, [[.zc, .zc]]⟩, ⟨0, 102, 2, [[(ls eRDecl p0.decls), (ow 3 0 l10)]]⟩, (ro 0 127 3 eRSignature l10), ⟨0, 68, 5, [[(ls eI c20.params), (ls eI c20.lent), (i64 c20.result), (ls eStep c20.body.steps), (i64 c20.body.result)]]⟩]) go0 ti68 rfl rfl rfl rfl rfl rfl (show 0 + 5 ≤ 5 by decide) rfl (dn hK19 rfl (AW.regionO rfl (zm tb 8 rfl ?_)))))))))
   refine zz (.agg [(ls eI c20.params), (ls eI c20.lent), (i64 c20.result)]) (aq_bd ai127 bi127 zi127 rfl rfl) rfl ?_
   refine ao_bs (m := 5) (st' := [⟨0, 42, 2, [[(ls eRDecl p0.decls), (ls eRRoutine p0.routines)]]⟩, ⟨0, 102, 2, [[.zc, .zc]]⟩, ⟨0, 102, 2, [[(ls eRDecl p0.decls), (ow 3 0 l10)]]⟩, (ro 0 127 3 eRSignature l10), ⟨0, 68, 5, [[(ls eI c20.params), (ls eI c20.lent), (i64 c20.result), (ls eStep c20.body.steps), (i64 c20.body.result)]]⟩, (ro 0 127 3 eRSignature [(RSignature.mk c20.params c20.lent c20.result)])]) (l := [(RSignature.mk c20.params c20.lent c20.result)]) (enc := eRSignature) go0 ei100 (by decide) rfl rfl rfl rfl rfl rfl ?_
   refine bs h1 fun l21 gl21 h1 => ao_apo (st' := [⟨0, 42, 2, [[(ls eRDecl p0.decls), (ls eRRoutine p0.routines)]]⟩, ⟨0, 102, 2, [[.zc, .zc]]⟩, ⟨0, 102, 2, [[(ls eRDecl p0.decls), (ow 3 0 l10)]]⟩, (ro 1 127 3 eRSignature l21), ⟨0, 68, 5, [[(ls eI c20.params), (ls eI c20.lent), (i64 c20.result), (ls eStep c20.body.steps), (i64 c20.body.result)]]⟩, (ro 0 127 3 eRSignature [(RSignature.mk c20.params c20.lent c20.result)])]) (l2 := [(RSignature.mk c20.params c20.lent c20.result)]) go0 ei100 rfl rfl rfl rfl (el_o rfl rfl) (fun _ => rfl) gl21 rfl (zq tb rfl (ao_str (st' := [⟨0, 42, 2, [[(ls eRDecl p0.decls), (ls eRRoutine p0.routines)]]⟩, ⟨0, 102, 2, [[.zc, .zc]]⟩, ⟨0, 102, 2, [[(ls eRDecl p0.decls), (ow 3 1 l21)]]⟩, (ro 1 127 3 eRSignature l21), ⟨0, 68, 5, [[(ls eI c20.params), (ls eI c20.lent), (i64 c20.result), (ls eStep c20.body.steps), (i64 c20.body.result)]]⟩, (ro 0 127 3 eRSignature [(RSignature.mk c20.params c20.lent c20.result)])]) go0 ti100 rfl rfl rfl rfl rfl rfl (show 1 + 1 ≤ 2 by decide) rfl (dn hK18 rfl (AW.regionO rfl (zm tb 2 rfl ?_)))))
   exact AO.done (xi (Sh.w (t9 + 1), l21) h1 (by refine Wk.trans (Wk.rg (L := [(1, (.ptr 0 0 0 0)), (2, (.ptr 1 0 0 0)), (4, (.ptr 2 0 0 0)), (16, (ls eRRoutine p0.routines)), (17, (i64 (Sh.len p0.routines))), (18, (i64 (Sh.w (t9 + 1))))]) (st' := [⟨0, 42, 2, [[(ls eRDecl p0.decls), (ls eRRoutine p0.routines)]]⟩, ⟨0, 102, 2, [[.zc, .zc]]⟩, ⟨0, 102, 2, [[(ls eRDecl p0.decls), (ow 3 0 l21)]]⟩, (ro 0 127 3 eRSignature l21), ⟨0, 68, 5, [[(ls eI c20.params), (ls eI c20.lent), (i64 c20.result), (ls eStep c20.body.steps), (i64 c20.body.result)]]⟩, (ro 0 127 3 eRSignature [(RSignature.mk c20.params c20.lent c20.result)])]) (.raw rfl rfl (.raw rfl rfl (.raw rfl rfl (.pure (pure_map fun _ => rfl) (.raw rfl rfl (.pure (pure_map fun _ => rfl) .nil)))))) ⟨.rfl, .rfl, .rfl, .rfl, .rfl, .rfl, trivial⟩) ?_; exact Wk.permk (L := [(1, (.ptr 0 0 0 0)), (2, (.ptr 1 0 0 0)), (4, (.ptr 2 0 0 0)), (16, (ls eRRoutine p0.routines)), (17, (i64 (Sh.len p0.routines))), (18, (i64 (Sh.w (t9 + 1))))]) (st' := [⟨0, 42, 2, [[(ls eRDecl p0.decls), (ls eRRoutine p0.routines)]]⟩, ⟨0, 102, 2, [[.zc, .zc]]⟩, ⟨0, 102, 2, [[(ls eRDecl p0.decls), (ow 3 0 l21)]]⟩, (ro 0 127 3 eRSignature l21)]) (st1 := [⟨0, 42, 2, [[(ls eRDecl p0.decls), (ls eRRoutine p0.routines)]]⟩, ⟨0, 102, 2, [[.zc, .zc]]⟩, ⟨0, 102, 2, [[(ls eRDecl p0.decls), (ow 3 0 l21)]]⟩, (ro 0 127 3 eRSignature l21)]) [0, 1, 2, 3] rfl .nil (by decide) rfl rfl (.raw rfl rfl (.raw rfl rfl (.raw rfl rfl (.pure (pure_map fun _ => rfl) .nil)))) ⟨.rfl, .rfl, .rfl, .rfl, .rfl, .rfl, trivial⟩))
  ·intro b17 h1
   exact AW.exit (M12 l10 (Sh.some_eq h1).symm _ (Wk.tr rfl))
theorem impl_countSteps_B_ok {N : Nat} {rec_impl_countSteps : Int → Block → Option (Bool × Int)} (hrec_impl_countSteps : ∀ {s0_0 : Int} {p0 : Block} {r : Bool × Int}, rec_impl_countSteps s0_0 p0 = some r → ACalls Try.prog 81 [(.agg [(ls eStep p0.steps), (i64 p0.result)]), (.ptr 0 0 0 0)] [⟨0, 3, 1, [[(i64 s0_0)]]⟩] (fun v st => v = (.bool r.1) ∧ st = [⟨0, 3, 1, [[(i64 r.2)]]⟩])) {s0_0 : Int} {p0 : Block} {r : Bool × Int} (h0 : impl_countSteps_B N rec_impl_countSteps s0_0 p0 = some r) : ACalls Try.prog 81 [(.agg [(ls eStep p0.steps), (i64 p0.result)]), (.ptr 0 0 0 0)] [⟨0, 3, 1, [[(i64 s0_0)]]⟩] (fun v st => v = (.bool r.1) ∧ st = [⟨0, 3, 1, [[(i64 r.2)]]⟩]) := by
 unfold impl_countSteps_B at h0
 refine ai Try.func81 rfl rfl rfl rfl (sr rfl fun K1 hK1 => ao_box (m := 1) (st' := [⟨0, 3, 1, [[(i64 s0_0)]]⟩, ⟨0, 66, 2, [[(ls eStep p0.steps), (i64 p0.result)]]⟩]) go0 rfl rfl rfl rfl rfl (zq tb rfl (dn hK1 rfl (AW.seq fun K2 hK2 => sr rfl fun K3 hK3 => zm tb 2 rfl (zl tb rfl rfl (zq tb rfl (dn hK3 rfl ?_)))))))
 obtain ⟨o7, h1, h0⟩ := Sh.cont_some h0
 have M7 : ∀ (f6 : Int), o7 = Sum.inr f6 → ∀ s, Wk 1 s ⟨38, envL [], [⟨0, 3, 1, [[(i64 f6)]]⟩]⟩ → K2 s := by
  intro f6 hq s hw
  subst o7
  try dsimp only at h0
  refine hK2 _ (AW.weaken hw (zr tb rfl rfl ?_))
  replace h0 := Sh.some_eq h0
  subst r
  exact AW.ret (xr (Wk.to (L := [(4, (.bool true))]) ⟨.rfl, trivial⟩))
 refine AW.block (AW.loopF (σ := Int × Int) (fun n v => impl_countSteps_B_L1 N p0 rec_impl_countSteps n v.1 v.2 = some o7) (fun (t4, f5) => ⟨38, envL [(1, (.ptr 0 0 0 0)), (10, (ls eStep p0.steps)), (11, (i64 (Sh.len p0.steps))), (12, (i64 t4))], [⟨0, 3, 1, [[(i64 f5)]]⟩]⟩) N (0, s0_0) h1 (Wk.permk (L := [(1, (.ptr 0 0 0 0)), (10, (ls eStep p0.steps)), (11, (i64 (Sh.len p0.steps))), (12, (i64 0))]) (st' := [⟨0, 3, 1, [[(i64 s0_0)]]⟩]) (st1 := [⟨0, 3, 1, [[(i64 s0_0)]]⟩]) [0] rfl (.raw rfl rfl .nil) (by decide) rfl rfl (.raw rfl rfl .nil) ⟨.rfl, .rfl, .rfl, .rfl, trivial⟩) (fun _ hv => by rw [impl_countSteps_B_L1] at hv; cases hv) ?_)
 rintro n ⟨t4, f5⟩ h1
 try dsimp only at h1 ⊢
 rw [impl_countSteps_B_L1] at h1
 refine zr tb rfl rfl (AW.seq fun K10 hK10 => ?_)
 refine ci h1 rfl ?_ ?_ <;> clear h1
 ·intro b11 h1
  refine AW.skip (hK10 _ (AW.seq fun K12 hK12 => AW.block (sr rfl fun K13 hK13 => bs h1 fun c14 gc14 h1 => zz (.iptr [(i64 c14.op), (i64 c14.num), (i64 c14.into), (ls eI c14.args), (ls eBlock c14.kids)] 0) (aq_ixsE ei64 rfl rfl gc14 (eStep_eq _) rfl) rfl (zq tb rfl (ao_alloc (m := 1) (st' := [⟨0, 3, 1, [[(i64 f5)]]⟩, ⟨0, 110, 5, [[(i64 0), (i64 0), (i64 0), .zc, .zc]]⟩]) go0 zi110 rfl rfl (ao_str (st' := [⟨0, 3, 1, [[(i64 f5)]]⟩, ⟨0, 110, 5, [[(i64 c14.op), (i64 c14.num), (i64 c14.into), (ls eI c14.args), (ls eBlock c14.kids)]]⟩]) go0 ti110 rfl rfl rfl rfl rfl rfl (show 0 + 5 ≤ 5 by decide) rfl (dn hK13 rfl (AW.seq fun K15 hK15 => sr rfl fun K16 hK16 => ?_))))))))
  refine zm tb 5 rfl (ao_str (st' := [⟨0, 3, 1, [[(i64 (Sh.w (f5 + 1)))]]⟩, ⟨0, 110, 5, [[(i64 c14.op), (i64 c14.num), (i64 c14.into), (ls eI c14.args), (ls eBlock c14.kids)]]⟩]) go0 ti3 rfl rfl rfl rfl rfl rfl (show 0 + 1 ≤ 1 by decide) rfl (dn hK16 rfl (zr tb rfl rfl ?_)))
  refine ci h1 rfl ?_ ?_ <;> clear h1
  ·intro b18 h1
   refine zr tb rfl rfl ?_
   replace h1 := Sh.some_eq h1
   subst o7
   try dsimp only [id] at h0
   replace h0 := Sh.some_eq h0
   subst r
   exact AW.ret (xr (Wk.permk (L := [(4, (.bool false))]) (st' := [⟨0, 3, 1, [[(i64 (Sh.w (f5 + 1)))]]⟩]) (st1 := [⟨0, 3, 1, [[(i64 (Sh.w (f5 + 1)))]]⟩]) [0] rfl (.raw rfl rfl .nil) (by decide) rfl rfl (.raw rfl rfl .nil) ⟨.rfl, trivial⟩))
  ·intro b18 h1
   refine AW.skip (hK15 _ (sr rfl fun K20 hK20 => zm tb 2 rfl (zl tb rfl rfl (zq tb rfl (dn hK20 rfl ?_)))))
   obtain ⟨o24, h2, h1⟩ := Sh.cont_some h1
   have M24 : ∀ (f23 : Int), o24 = Sum.inr f23 → ∀ s, Wk 1 s ⟨38, envL [(1, (.ptr 0 0 0 0)), (10, (ls eStep p0.steps)), (11, (i64 (Sh.len p0.steps))), (12, (i64 t4))], [⟨0, 3, 1, [[(i64 f23)]]⟩]⟩ → K12 s := by
    intro f23 hq s hw
    subst o24
    try dsimp only at h1
    exact hK12 _ (AW.weaken hw (AW.regionO rfl (zm tb 2 rfl (AO.done (xi (Sh.w (t4 + 1), f23) h1 (Wk.tr rfl))))))
   refine AW.block (AW.loopF (σ := Int × Int) (fun n v => impl_countSteps_B_L2 c14 rec_impl_countSteps n v.1 v.2 = some o24) (fun (t21, f22) => ⟨38, envL [(1, (.ptr 0 0 0 0)), (10, (ls eStep p0.steps)), (11, (i64 (Sh.len p0.steps))), (12, (i64 t4)), (26, (ls eBlock c14.kids)), (27, (i64 (Sh.len c14.kids))), (28, (i64 t21))], [⟨0, 3, 1, [[(i64 f22)]]⟩]⟩) N (0, Sh.w (f5 + 1)) h2 (Wk.permk (L := [(1, (.ptr 0 0 0 0)), (10, (ls eStep p0.steps)), (11, (i64 (Sh.len p0.steps))), (12, (i64 t4)), (26, (ls eBlock c14.kids)), (27, (i64 (Sh.len c14.kids))), (28, (i64 0))]) (st' := [⟨0, 3, 1, [[(i64 (Sh.w (f5 + 1)))]]⟩]) (st1 := [⟨0, 3, 1, [[(i64 (Sh.w (f5 + 1)))]]⟩]) [0] rfl (.raw rfl rfl .nil) (by decide) rfl rfl (.raw rfl rfl .nil) ⟨.rfl, .rfl, .rfl, .rfl, .rfl, .rfl, .rfl, trivial⟩) (fun _ hv => by rw [impl_countSteps_B_L2] at hv; cases hv) ?_)
   rintro n ⟨t21, f22⟩ h2
   try dsimp only at h2 ⊢
   rw [impl_countSteps_B_L2] at h2
   refine zr tb rfl rfl (AW.seq fun K26 hK26 => ?_)
   refine ci h2 rfl ?_ ?_ <;> clear h2
   ·intro b27 h2
    refine AW.skip (hK26 _ (AW.seq fun K28 hK28 => AW.block (sr rfl fun K29 hK29 => bs h2 fun c30 gc30 h2 => zx ei108 gc30 rfl rfl rfl (zq tb rfl (ao_alloc (m := 1) (st' := [⟨0, 3, 1, [[(i64 f22)]]⟩, ⟨0, 66, 2, [[.zc, (i64 0)]]⟩]) go0 zi66 rfl rfl (ao_str (st' := [⟨0, 3, 1, [[(i64 f22)]]⟩, ⟨0, 66, 2, [[(ls eStep c30.steps), (i64 c30.result)]]⟩]) go0 ti66 rfl rfl rfl rfl rfl rfl (show 0 + 2 ≤ 2 by decide) rfl (dn hK29 rfl (sr rfl fun K31 hK31 => zm tb 2 rfl ?_))))))))
    refine bs h2 fun q32 gq32 h2 => ?_
    refine ao_calls (rowsP := [⟨0, 3, 1, [[(i64 f22)]]⟩]) (rows0 := [⟨0, 3, 1, [[(i64 f22)]]⟩]) (rows1 := [⟨0, 3, 1, [[(i64 q32.2)]]⟩]) (rows2 := []) (rows1' := [⟨0, 3, 1, [[(i64 q32.2)]]⟩]) (rows2' := []) (st' := [⟨0, 3, 1, [[(i64 q32.2)]]⟩, ⟨0, 66, 2, [[(ls eStep c30.steps), (i64 c30.result)]]⟩]) (v' := (.bool q32.1)) [0] go0 hb81 (hrec_impl_countSteps gq32) rfl (by decide) rfl rfl (.raw rfl rfl .nil) rfl rfl (.raw rfl rfl .nil) .nil rfl rfl ?_
    refine zq tb rfl (dn hK31 rfl ?_)
    refine ci h2 rfl ?_ ?_ <;> clear h2
    ·intro b33 h2
     have b34 : q32.1 = false := by simpa using b33
     refine zr tb rfl rfl ?_
     replace h2 := Sh.some_eq h2
     subst o24
     try dsimp only [id] at h1
     replace h1 := Sh.some_eq h1
     subst o7
     try dsimp only [id] at h0
     replace h0 := Sh.some_eq h0
     subst r
     exact AW.ret (xr (Wk.permk (L := [(4, (.bool false))]) (st' := [⟨0, 3, 1, [[(i64 q32.2)]]⟩]) (st1 := [⟨0, 3, 1, [[(i64 q32.2)]]⟩]) [0] rfl (.raw rfl rfl .nil) (by decide) rfl rfl (.raw rfl rfl .nil) ⟨.rfl, trivial⟩))
    ·intro b33 h2
     have b36 : q32.1 = true := by simpa using b33
     refine AW.skip (hK28 _ (AW.regionO rfl (zm tb 2 rfl ?_)))
     exact AO.done (xi (Sh.w (t21 + 1), q32.2) h2 (Wk.permk (L := [(1, (.ptr 0 0 0 0)), (10, (ls eStep p0.steps)), (11, (i64 (Sh.len p0.steps))), (12, (i64 t4)), (26, (ls eBlock c14.kids)), (27, (i64 (Sh.len c14.kids))), (28, (i64 (Sh.w (t21 + 1))))]) (st' := [⟨0, 3, 1, [[(i64 q32.2)]]⟩]) (st1 := [⟨0, 3, 1, [[(i64 q32.2)]]⟩]) [0] rfl (.raw rfl rfl .nil) (by decide) rfl rfl (.raw rfl rfl .nil) ⟨.rfl, .rfl, .rfl, .rfl, .rfl, .rfl, .rfl, trivial⟩))
   ·intro b27 h2
    exact AW.exit (M24 f22 (Sh.some_eq h2).symm _ (Wk.tr rfl))
 ·intro b11 h1
  exact AW.exit (M7 f5 (Sh.some_eq h1).symm _ (Wk.tr rfl))

theorem impl_countSteps_F_ok {N : Nat} : ∀ (n : Nat), ∀ {s0_0 : Int} {p0 : Block} {r : Bool × Int}, impl_countSteps_F N n s0_0 p0 = some r → ACalls Try.prog 81 [(.agg [(ls eStep p0.steps), (i64 p0.result)]), (.ptr 0 0 0 0)] [⟨0, 3, 1, [[(i64 s0_0)]]⟩] (fun v st => v = (.bool r.1) ∧ st = [⟨0, 3, 1, [[(i64 r.2)]]⟩]) := by
 intro n
 induction n with
 | zero => intro s0_0 p0 r h0; cases h0
 | succ n ih =>
  intro s0_0 p0 r h0
  rw [impl_countSteps_F] at h0
  exact impl_countSteps_B_ok (fun h => ih h) h0
theorem impl_countSteps_ok {N : Nat} : ∀ {s0_0 : Int} {p0 : Block} {r : Bool × Int}, impl_countSteps N s0_0 p0 = some r → ACalls Try.prog 81 [(.agg [(ls eStep p0.steps), (i64 p0.result)]), (.ptr 0 0 0 0)] [⟨0, 3, 1, [[(i64 s0_0)]]⟩] (fun v st => v = (.bool r.1) ∧ st = [⟨0, 3, 1, [[(i64 r.2)]]⟩]) := by
 intro s0_0 p0 r h0
 exact impl_countSteps_F_ok N h0
theorem impl_StepsOf_ok {N : Nat} {p0 : Block} {r : Int} (h0 : impl_StepsOf N p0 = some r) : ACalls Try.prog 57 [(.agg [(ls eStep p0.steps), (i64 p0.result)])] [] (fun v st => v = (i64 r) ∧ st = []) := by
 unfold impl_StepsOf at h0
 refine ai Try.func57 rfl rfl rfl rfl (sr rfl fun K1 hK1 => ao_box (m := 0) (st' := [⟨0, 66, 2, [[(ls eStep p0.steps), (i64 p0.result)]]⟩]) go0 rfl rfl rfl rfl rfl (zq tb rfl (dn hK1 rfl (sr rfl fun K2 hK2 => ao_alloc (m := 1) (st' := [⟨0, 66, 2, [[(ls eStep p0.steps), (i64 p0.result)]]⟩, ⟨0, 3, 1, [[(i64 0)]]⟩]) go0 zi3 rfl rfl (ao_str (st' := [⟨0, 66, 2, [[(ls eStep p0.steps), (i64 p0.result)]]⟩, ⟨0, 3, 1, [[(i64 0)]]⟩]) go0 ti3 rfl rfl rfl rfl rfl rfl (show 0 + 1 ≤ 1 by decide) rfl (dn hK2 rfl (AW.seq fun K3 hK3 => sr rfl fun K4 hK4 => zq tb rfl ?_)))))))
 refine bs h0 fun q5 gq5 h0 => ?_
 refine ao_calls (rowsP := [⟨0, 3, 1, [[(i64 0)]]⟩]) (rows0 := [⟨0, 3, 1, [[(i64 0)]]⟩]) (rows1 := [⟨0, 3, 1, [[(i64 q5.2)]]⟩]) (rows2 := []) (rows1' := [⟨0, 3, 1, [[(i64 q5.2)]]⟩]) (rows2' := []) (st' := [⟨0, 66, 2, [[(ls eStep p0.steps), (i64 p0.result)]]⟩, ⟨0, 3, 1, [[(i64 q5.2)]]⟩]) (v' := (.bool q5.1)) [1] go0 hb81 (impl_countSteps_ok gq5) rfl (by decide) rfl rfl (.raw rfl rfl .nil) rfl rfl (.raw rfl rfl .nil) .nil rfl rfl ?_
 refine zq tb rfl (dn hK4 rfl ?_)
 refine ci h0 rfl ?_ ?_ <;> clear h0
 ·intro b6 h0
  have b7 : q5.1 = false := by simpa using b6
  refine zr tb rfl rfl ?_
  replace h0 := Sh.some_eq h0
  subst r
  exact AW.ret (xr (Wk.d0 [(2, (i64 (-1)))] rfl))
 ·intro b6 h0
  have b9 : q5.1 = true := by simpa using b6
  refine AW.skip (hK3 _ (zr tb rfl rfl ?_))
  replace h0 := Sh.some_eq h0
  subst r
  exact AW.ret (xr (Wk.d0 [(2, (i64 q5.2))] rfl))
theorem slices_Clone_int_int_ok {p0 : (List Int)} {r : (List Int)} (h0 : slices_Clone_int_int p0 = some r) : ACalls Try.prog 41 [(ls eI p0)] [] (fun v st => v = (ow 0 0 r) ∧ st = [(ro 0 3 1 eI r)]) := by
 unfold slices_Clone_int_int at h0
 refine ai Try.func41 rfl rfl rfl rfl (zr tb rfl rfl (AW.seq fun K2 hK2 => sr rfl fun K3 hK3 => zq tb rfl ?_))
 refine ao_nil go0 sl22 rfl (fun hn => ?_) ?_
 ·subst hn
  replace h0 : some [] = some r := by rw [← h0]; first | rfl | simp [Sh.app]
  refine dn hK3 rfl (AW.cond' (b := true) rfl (fun _ => zr tb rfl rfl ?_) (fun q => nomatch (show true = false from (rfl : true = true).symm.trans q)))
  replace h0 := Sh.some_eq h0
  subst r
  exact AW.ret (Exists.intro _ (And.intro (((Wk.adopt (t := 2) rfl 3 (size := 1) (by decide)).trans (Wk.to (L := [(2, (.own 0 0 (List.length ([] : List Int))))]) ⟨.rfl, trivial⟩)).trans (Wk.to (L := [(2, (.own 0 0 (List.length ([] : List Int))))]) ⟨.rfl, trivial⟩)) (And.intro rfl rfl)))
 ·refine dn hK3 rfl (AW.cond' (b := false) rfl (fun q => nomatch (show false = true from (rfl : false = false).symm.trans q)) (fun _ => AW.skip (hK2 _ (sr rfl fun K5 hK5 => ?_))))
  refine ao_bs (m := 0) (st' := [(ro 0 3 1 eI ([] : List Int))]) (l := ([] : List Int)) (enc := eI) go0 ei22 (by decide) rfl rfl rfl rfl rfl rfl ?_
  refine zq tb rfl (bs h0 fun l6 gl6 h0 => ao_apo (st' := [(ro 1 3 1 eI l6)]) (l2 := p0) go0 ei22 rfl rfl rfl rfl el_s (fun _ => rfl) gl6 rfl (zq tb rfl (dn hK5 rfl ?_)))
  replace h0 := Sh.some_eq h0
  subst r
  exact AW.ret (xr (Wk.rg (L := [(2, (ow 0 0 l6))]) (st' := [(ro 0 3 1 eI l6)]) (.pure (pure_map fun _ => rfl) .nil) ⟨.rfl, trivial⟩))
theorem impl_isCounting_ok {p0 : Int} {r : Bool} (h0 : impl_isCounting p0 = some r) : ACalls Try.prog 61 [(i64 p0)] [] (fun v st => v = (.bool r) ∧ st = []) := by
 unfold impl_isCounting at h0
 refine ai Try.func61 rfl rfl rfl rfl (zr tb rfl rfl (AW.seq fun K2 hK2 => bs h0 fun o4 h1 h0 => ?_))
 have M4 : ∀ (t3 : Bool), o4 = t3 → ∀ s, Wk 0 s ⟨9, envL [(2, (.bool t3))], []⟩ → K2 s := by
  intro t3 hq s hw
  subst o4
  try dsimp only at h0
  refine hK2 _ (AW.weaken hw ?_)
  replace h0 := Sh.some_eq h0
  subst r
  exact AW.ret (xr (Wk.to (L := [(2, (.bool t3))]) ⟨.rfl, trivial⟩))
 refine AW.regionO rfl (zm tb 3 rfl ?_)
 rcases Sh.ite_some h1 with ⟨b5, h1⟩ | ⟨b5, h1⟩
 ·exact zg tb b5 rfl (zg tb b5 rfl (zt b5 rfl (zq tb rfl (AO.done (M4 (decide (p0 ≤ 17)) (Sh.some_eq h1).symm _ (Wk.tr rfl))))))
 ·exact zs b5 rfl (zs b5 rfl (zf b5 rfl (zq tb rfl (AO.done (M4 false (Sh.some_eq h1).symm _ (Wk.tr rfl))))))
theorem impl_arrowAt_ok {p0 : (List RDecl)} {p1 : Int} {r : RDecl × Bool} (h0 : impl_arrowAt p0 p1 = some r) : ACalls Try.prog 107 [(ls eRDecl p0), (i64 p1)] [] (fun v st => v = (.tup [(.agg (eRDecl r.1)), (.bool r.2)]) ∧ st = []) := by
 unfold impl_arrowAt at h0
 refine ACalls.flat rfl (ai Try.func107 rfl rfl rfl rfl (sr rfl fun K1 hK1 => ao_alloc (m := 0) (st' := [⟨0, 97, 3, [[(i64 0), (i64 0), .zc]]⟩]) go0 zi97 rfl rfl (zq tb rfl (dn hK1 rfl (AW.seq fun K2 hK2 => AW.seq fun K3 hK3 => bs h0 fun o5 h1 h0 => ?_)))))
 have M5 : ∀ (t4 : Bool), o5 = t4 → ∀ s, Wk 0 s ⟨30, envL [(0, (ls eRDecl p0)), (1, (i64 p1)), (4, (.ptr 0 0 0 0)), (23, (.bool t4))], [⟨0, 97, 3, [[(i64 0), (i64 0), .zc]]⟩]⟩ → K3 s := by
  intro t4 hq s hw
  subst o5
  try dsimp only at h0
  refine hK3 _ (AW.weaken hw ?_)
  refine ci h0 rfl ?_ ?_ <;> clear h0
  ·intro b6 h0
   refine sr rfl fun K7 hK7 => zz (.agg [(i64 0), (i64 0), .zc]) (aq_bd ai97 bi97 zi97 rfl rfl) rfl (ao_str (st' := [⟨0, 97, 3, [[(i64 0), (i64 0), .zc]]⟩]) go0 ti97 rfl rfl rfl rfl rfl rfl (show 0 + 3 ≤ 3 by decide) rfl (zq tb rfl (dn hK7 rfl ?_)))
   replace h0 := Sh.some_eq h0
   subst r
   exact AW.ret (Exists.intro _ (And.intro ((Wk.cellLe (id := 0) (cs := [(i64 0), (i64 0), .zc]) (cs' := [(i64 0), (i64 0), (.sl (List.map eRCon []))]) (st' := [⟨0, 97, 3, [[(i64 0), (i64 0), (.sl (List.map eRCon []))]]⟩]) rfl ⟨le.rfl, le.rfl, le.zc, trivial⟩ rfl rfl).trans (Wk.to (L := [(4, (.ptr 0 0 0 0)), (5, (.bool false))]) ⟨.rfl, .rfl, trivial⟩)) (aq_ldpa (x := .tmp 4) (off := 0) (cs := [(i64 0), (i64 0), (.sl (List.map eRCon []))]) (vs := [(i64 0), (i64 0), (.sl (List.map eRCon []))]) ti97 rfl rfl rfl (show 0 + 3 ≤ 3 by decide) rfl _ rfl)))
  ·intro b6 h0
   refine AW.skip (hK2 _ (sr rfl fun K8 hK8 => zm tb 3 rfl (bs h0 fun c9 gc9 h0 => zx ei39 gc9 rfl rfl rfl (zq tb rfl (ao_str (st' := [⟨0, 97, 3, [(eRDecl c9)]⟩]) go0 ti97 rfl rfl rfl rfl rfl rfl (show 0 + 3 ≤ 3 by decide) rfl (zq tb rfl (dn hK8 rfl ?_)))))))
   replace h0 := Sh.some_eq h0
   subst r
   exact AW.ret (Exists.intro _ (And.intro (Wk.to (L := [(4, (.ptr 0 0 0 0)), (5, (.bool true))]) ⟨.rfl, .rfl, trivial⟩) (aq_ldpa (x := .tmp 4) (off := 0) (cs := (eRDecl c9)) (vs := (eRDecl c9)) ti97 rfl rfl rfl (show 0 + 3 ≤ 3 by decide) rfl _ rfl)))
 refine AW.regionO rfl (zm tb 3 rfl ?_)
 rcases Sh.ite_some h1 with ⟨b10, h1⟩ | ⟨b10, h1⟩
 ·refine zs b10 rfl ?_
  iterate 3 refine zs b10 rfl ?_
  refine zt b10 rfl (zq tb rfl ?_)
  iterate 8 refine zs rfl rfl ?_
  exact zt rfl rfl (AO.done (M5 true (Sh.some_eq h1).symm _ (Wk.tr rfl)))
 ·refine zg tb b10 rfl (zg tb b10 rfl (ao_q (v := (i64 (Sh.len p0))) (go1 rfl rfl b10) rfl (aq_lens sl39 rfl) (zg tb b10 rfl (zf b10 rfl (zq tb rfl ?_)))))
  rcases Sh.ite_some h1 with ⟨b11, h1⟩ | ⟨b11, h1⟩
  ·refine zs b11 rfl ?_
   iterate 7 refine zs b11 rfl ?_
   exact zt b11 rfl (AO.done (M5 true (Sh.some_eq h1).symm _ (Wk.tr rfl)))
  ·exact zg tb b11 rfl (zg tb b11 rfl (zg tb b11 rfl (bs h1 fun c12 gc12 h1 => ao_q (v := (.iptr (eRDecl c12) 0)) (go1 rfl rfl b11) rfl (aq_ixs ei39 rfl rfl gc12 rfl) (zg tb b11 rfl (zg tb b11 rfl (ao_q (v := (i64 (Sh.len c12.cons))) (go1 rfl rfl b11) rfl (aq_lens sl95 rfl) (zg tb b11 rfl (zf b11 rfl (AO.done (M5 (decide (0 < (Sh.len c12.cons))) (Sh.some_eq h1).symm _ (Wk.tr rfl)))))))))))
theorem slices_Grow_int_int_ok {p1 : Int} {r : (List Int)} (h0 : slices_Grow_int_int p1 = some r) : ACalls Try.prog 141 [.zc, (i64 p1)] [] (fun v st => v = (ow 0 0 r) ∧ st = [(ro 0 3 1 eI r)]) := by
 unfold slices_Grow_int_int at h0
 refine ai Try.func141 rfl rfl rfl rfl (zr tb rfl rfl (AW.seq fun K2 hK2 => zr tb rfl rfl ?_))
 refine ci h0 rfl ?_ ?_ <;> clear h0
 ·intro b4 h0
  refine AW.regionO rfl ?_
  cases h0
 ·intro b4 h0
  refine AW.skip (hK2 _ (AW.seq fun K5 hK5 => bs h0 fun o7 h1 h0 => ?_))
  have M7 : ∀ (l6 : (List Int)), o7 = l6 → ∀ s, Wk 0 s ⟨27, envL [(0, (ow 0 0 l6))], [(ro 0 3 1 eI l6)]⟩ → K5 s := by
   intro l6 hq s hw
   subst o7
   try dsimp only at h0
   refine hK5 _ (AW.weaken hw (zr tb rfl rfl ?_))
   replace h0 := Sh.some_eq h0
   subst r
   exact AW.ret (xr (Wk.to (L := [(4, (ow 0 0 l6))]) ⟨.rfl, trivial⟩))
  refine sr rfl fun K9 hK9 => zm tb 2 rfl (ao_capz sl22 rfl (zq tb rfl (zz (i64 0) (aq_lenz sl22 rfl) rfl (zm tb 3 rfl (dn hK9 rfl (zr tb rfl rfl ?_))))))
  refine ci h1 rfl ?_ ?_ <;> clear h1
  ·intro b11 h1
   refine AW.regionO rfl (zm tb 2 rfl (ao_capz sl22 rfl (ao_slz ei22 rfl rfl (zq tb rfl (bs h1 fun l12 gl12 h1 => ao_apmk (u := 0) (enc := eI) (m := 0) (st' := [(ro 0 3 1 eI l12)]) ei22 iT3 rfl rfl b11 rfl gl12 rfl rfl (zq tb rfl (zz (i64 0) (aq_lenz sl22 rfl) rfl (bs h1 fun l13 gl13 h1 => ao_hio (st' := [(ro 1 3 1 eI l13)]) go0 ei22 rfl rfl rfl rfl gl13 rfl (zq tb rfl ?_)))))))))
   exact AO.done (M7 l13 (Sh.some_eq h1).symm _ (Wk.rg (L := [(0, (ow 0 0 l13))]) (st' := [(ro 0 3 1 eI l13)]) (.pure (pure_map fun _ => rfl) .nil) ⟨.rfl, trivial⟩))
  ·intro b11 h1
   exact AW.skip (M7 [] (Sh.some_eq h1).symm _ ((Wk.adopt (t := 0) rfl 3 (size := 1) (by decide)).trans (Wk.to (L := [(0, (.own 0 0 (List.length ([] : List Int))))]) ⟨.rfl, trivial⟩)))
theorem slices_Concat_int_int_ok {N : Nat} {p0 : (List (List Int))} {r : (List Int)} (h0 : slices_Concat_int_int N p0 = some r) : ACalls Try.prog 127 [(ls (eS eI) p0)] [] (fun v st => v = (ow 0 0 r) ∧ st = [(ro 0 3 1 eI r)]) := by
 unfold slices_Concat_int_int at h0
 refine ai Try.func127 rfl rfl rfl rfl ?_
 iterate 2 refine zr tb rfl rfl ?_
 refine AW.seq fun K3 hK3 => sr rfl fun K4 hK4 => zq tb rfl (zl tb rfl rfl (zq tb rfl (dn hK4 rfl (bs h0 fun o8 h1 h0 => ?_))))
 have M8 : ∀ (size7 : Int), o8 = size7 → ∀ s, Wk 0 s ⟨36, envL [(0, (ls (eS eI) p0)), (3, (i64 size7))], []⟩ → K3 s := by
  intro size7 hq s hw
  subst o8
  try dsimp only at h0
  refine hK3 _ (AW.weaken hw (sr rfl fun K9 hK9 => zq tb rfl (bs h0 fun q10 gq10 h0 => ao_call (v' := (ow 0 0 q10)) (st' := [(ro 0 3 1 eI q10)]) go0 hb141 (slices_Grow_int_int_ok gq10) rfl rfl ⟨(pure_map' fun _ => rfl), trivial⟩ rfl rfl (zq tb rfl (dn hK9 rfl (AW.seq fun K11 hK11 => sr rfl fun K12 hK12 => zq tb rfl (zl tb rfl rfl (zq tb rfl ?_))))))))
  refine dn hK12 rfl (bs h0 fun o16 h1 h0 => ?_)
  have M16 : ∀ (l15 : (List Int)), o16 = l15 → ∀ s, Wk 0 s ⟨36, envL [(6, (ow 0 0 l15))], [(ro 0 3 1 eI l15)]⟩ → K11 s := by
   intro l15 hq s hw
   subst o16
   try dsimp only at h0
   refine hK11 _ (AW.weaken hw (zr tb rfl rfl ?_))
   replace h0 := Sh.some_eq h0
   subst r
   exact AW.ret (xr (Wk.to (L := [(2, (ow 0 0 l15))]) ⟨.rfl, trivial⟩))
  refine AW.block (AW.loopF (σ := Int × (List Int)) (fun n v => slices_Concat_int_int_L2 p0 n v.1 v.2 = some o16) (fun (t13, l14) => ⟨36, envL [(6, (ow 0 0 l14)), (25, (ls (eS eI) p0)), (26, (i64 (Sh.len p0))), (27, (i64 t13))], [(ro 0 3 1 eI l14)]⟩) N (0, q10) h1 (Wk.tr rfl) (fun _ hv => by rw [slices_Concat_int_int_L2] at hv; cases hv) ?_)
  rintro n ⟨t13, l14⟩ h1
  try dsimp only at h1 ⊢
  rw [slices_Concat_int_int_L2] at h1
  refine zr tb rfl rfl (AW.seq fun K19 hK19 => ?_)
  refine ci h1 rfl ?_ ?_ <;> clear h1
  ·intro b20 h1
   refine AW.skip (hK19 _ (AW.seq fun K21 hK21 => AW.block (sr rfl fun K22 hK22 => bs h1 fun c23 gc23 h1 => zx ei161 gc23 rfl rfl rfl (zm tb 2 rfl (dn hK22 rfl (AW.regionO rfl (zm tb 2 rfl (bs h1 fun l24 gl24 h1 => ao_apo (st' := [(ro 1 3 1 eI l24)]) (l2 := c23) go0 ei22 rfl rfl rfl rfl el_s (fun _ => rfl) gl24 rfl ?_))))))))
   exact zq tb rfl (dn hK21 rfl (AW.regionO rfl (zm tb 2 rfl (AO.done (xi (Sh.w (t13 + 1), l24) h1 (Wk.rg (L := [(6, (ow 0 0 l24)), (25, (ls (eS eI) p0)), (26, (i64 (Sh.len p0))), (27, (i64 (Sh.w (t13 + 1))))]) (st' := [(ro 0 3 1 eI l24)]) (.pure (pure_map fun _ => rfl) .nil) ⟨.rfl, .rfl, .rfl, .rfl, trivial⟩))))))
  ·intro b20 h1
   exact AW.exit (M16 l14 (Sh.some_eq h1).symm _ (Wk.tr rfl))
 refine AW.block (AW.loopF (σ := Int × Int) (fun n v => slices_Concat_int_int_L1 p0 n v.1 v.2 = some o8) (fun (size5, t6) => ⟨36, envL [(0, (ls (eS eI) p0)), (3, (i64 size5)), (9, (ls (eS eI) p0)), (10, (i64 (Sh.len p0))), (11, (i64 t6))], []⟩) N (0, 0) h1 (Wk.tr rfl) (fun _ hv => by rw [slices_Concat_int_int_L1] at hv; cases hv) ?_)
 rintro n ⟨size5, t6⟩ h1
 try dsimp only at h1 ⊢
 rw [slices_Concat_int_int_L1] at h1
 refine zr tb rfl rfl (AW.seq fun K26 hK26 => ?_)
 refine ci h1 rfl ?_ ?_ <;> clear h1
 ·intro b27 h1
  refine AW.skip (hK26 _ (AW.seq fun K28 hK28 => AW.block (sr rfl fun K29 hK29 => bs h1 fun c30 gc30 h1 => zx ei161 gc30 rfl rfl rfl (zm tb 2 rfl (dn hK29 rfl (sr rfl fun K31 hK31 => zm tb 2 rfl (zl tb rfl rfl (zm tb 2 rfl ?_))))))))
  refine dn hK31 rfl (zr tb rfl rfl ?_)
  refine ci h1 rfl ?_ ?_ <;> clear h1
  ·intro b33 h1
   refine AW.regionO rfl ?_
   cases h1
  ·intro b33 h1
   exact AW.skip (hK28 _ (AW.regionO rfl (zm tb 2 rfl (AO.done (xi (Sh.w (size5 + (Sh.len c30)), Sh.w (t6 + 1)) h1 (Wk.tr rfl))))))
 ·intro b27 h1
  exact AW.exit (M8 size5 (Sh.some_eq h1).symm _ (Wk.tr rfl))
theorem impl_signatures_kidsType_ok {N : Nat} {rec_impl_signatures_blockType : RSignatures → (List Int) → Block → Option (Int)} (hrec_impl_signatures_blockType : ∀ {p0 : RSignatures} {p1 : (List Int)} {p2 : Block} {r : Int}, rec_impl_signatures_blockType p0 p1 p2 = some r → ACalls Try.prog 58 [(.agg (eRSignatures p0)), (ls eI p1), (.agg [(ls eStep p2.steps), (i64 p2.result)])] [] (fun v st => v = (i64 r) ∧ st = [])) {p0 : RSignatures} {p1 : (List Int)} {p2 : (List Block)} {p3 : (List (List Int))} {r : Int × Bool} (h0 : impl_signatures_kidsType N rec_impl_signatures_blockType p0 p1 p2 p3 = some r) : ACalls Try.prog 108 [(.agg (eRSignatures p0)), (ls eI p1), (ls eBlock p2), (ls (eS eI) p3)] [] (fun v st => v = (.tup [(i64 r.1), (.bool r.2)]) ∧ st = []) := by
 unfold impl_signatures_kidsType at h0
 refine ai Try.func108 rfl rfl rfl rfl (sr rfl fun K1 hK1 => ao_box (m := 0) (st' := [⟨0, 102, 2, [(eRSignatures p0)]⟩]) go0 rfl rfl rfl rfl rfl (zm tb 2 rfl (dn hK1 rfl (zr tb rfl rfl (AW.seq fun K3 hK3 => sr rfl fun K4 hK4 => zq tb rfl (zl tb rfl rfl (zq tb rfl (dn hK4 rfl ?_))))))))
 obtain ⟨o8, h1, h0⟩ := Sh.cont_some h0
 have M8 : ∀ (result7 : Int), o8 = Sum.inr result7 → ∀ s, Wk 0 s ⟨45, envL [(10, (i64 result7))], []⟩ → K3 s := by
  intro result7 hq s hw
  subst o8
  try dsimp only at h0
  refine hK3 _ (AW.weaken hw (zr tb rfl rfl ?_))
  replace h0 := Sh.some_eq h0
  subst r
  exact AW.ret (xr (Wk.to (L := [(8, (i64 result7)), (9, (.bool true))]) ⟨.rfl, .rfl, trivial⟩))
 refine AW.block (AW.loopF (σ := Int × Int) (fun n v => impl_signatures_kidsType_L1 N p0 p1 p2 p3 rec_impl_signatures_blockType n v.1 v.2 = some o8) (fun (result5, t6) => ⟨45, envL [(1, (ls eI p1)), (3, (ls (eS eI) p3)), (4, (.ptr 0 0 0 0)), (10, (i64 result5)), (14, (ls eBlock p2)), (15, (i64 (Sh.len p2))), (16, (i64 t6))], [⟨0, 102, 2, [(eRSignatures p0)]⟩]⟩) N (-1, 0) h1 (Wk.tr rfl) (fun _ hv => by rw [impl_signatures_kidsType_L1] at hv; cases hv) ?_)
 rintro n ⟨result5, t6⟩ h1
 try dsimp only at h1 ⊢
 rw [impl_signatures_kidsType_L1] at h1
 refine zr tb rfl rfl (AW.seq fun K11 hK11 => ?_)
 refine ci h1 rfl ?_ ?_ <;> clear h1
 ·intro b12 h1
  refine AW.skip (hK11 _ (AW.seq fun K13 hK13 => AW.block (sr rfl fun K14 hK14 => zq tb rfl (bs h1 fun c15 gc15 h1 => zx ei108 gc15 rfl rfl rfl (zq tb rfl (ao_alloc (m := 1) (st' := [⟨0, 102, 2, [(eRSignatures p0)]⟩, ⟨0, 66, 2, [[.zc, (i64 0)]]⟩]) go0 zi66 rfl rfl (zq tb rfl (ao_str (st' := [⟨0, 102, 2, [(eRSignatures p0)]⟩, ⟨0, 66, 2, [[(ls eStep c15.steps), (i64 c15.result)]]⟩]) go0 ti66 rfl rfl rfl rfl rfl rfl (show 0 + 2 ≤ 2 by decide) rfl (dn hK14 rfl ?_)))))))))
  refine AW.seq fun K16 hK16 => ?_
  refine AW.drawTailO 10 (by kernel_rfl) (by kernel_rfl) (by rfl) ?_
  iterate 4 refine yq tb rfl ?_
  refine bs h1 fun c17 gc17 h1 => yx ei161 gc17 rfl rfl rfl (yq tb rfl ?_)
  refine d_bs (l := [p1, c17]) (enc := (eS eI)) go0 ei161 (by decide) rfl rfl rfl rfl rfl (pure_map fun _ => rfl) ?_
  refine bs h1 fun q18 gq18 h1 => ?_
  refine d_call (v := (ls eI q18)) go0 hb127 (ACalls.wk (slices_Concat_int_int_ok gq18) (by refine Wk.trans (Wk.frz (L := [(0, (ls eI q18))]) (st' := [⟨1, 3, 1, []⟩]) (id := 0) rfl (show 0 ≤ 0 by decide) (pure_map fun _ => rfl) ⟨(.frz rfl), trivial⟩ rfl) ?_; refine Wk.trans (Wk.permk (L := [(0, (ls eI q18))]) (st' := []) (st1 := []) [] rfl .nil (by decide) rfl rfl .nil ⟨.rfl, trivial⟩) ?_; exact Wk.to (L := [(0, (ls eI q18))]) ⟨.rfl, trivial⟩)) rfl rfl rfl ?_
  refine yq tb rfl (bs h1 fun q19 gq19 h1 => d_call (v := (i64 q19)) go0 hb58 (hrec_impl_signatures_blockType gq19) rfl rfl rfl (d_done (zq tb rfl (dn hK16 rfl (AW.seq fun K20 hK20 => AW.seq fun K21 hK21 => bs h1 fun o23 h2 h1 => ?_)))))
  have M23 : ∀ (t22 : Bool), o23 = t22 → ∀ s, Wk 0 s ⟨45, envL [(1, (ls eI p1)), (3, (ls (eS eI) p3)), (4, (.ptr 0 0 0 0)), (13, (i64 q19)), (14, (ls eBlock p2)), (15, (i64 (Sh.len p2))), (16, (i64 t6)), (41, (.bool t22))], [⟨0, 102, 2, [(eRSignatures p0)]⟩]⟩ → K21 s := by
   intro t22 hq s hw
   subst o23
   try dsimp only at h1
   refine hK21 _ (AW.weaken hw ?_)
   refine ci h1 rfl ?_ ?_ <;> clear h1
   ·intro b24 h1
    refine zr tb rfl rfl ?_
    replace h1 := Sh.some_eq h1
    subst o8
    try dsimp only [id] at h0
    replace h0 := Sh.some_eq h0
    subst r
    exact AW.ret (xr (Wk.d0 [(8, (i64 (-1))), (9, (.bool false))] rfl))
   ·intro b24 h1
    exact AW.skip (hK20 _ (AW.regionO rfl (zm tb 2 rfl (dn hK13 rfl (AW.regionO rfl (zm tb 2 rfl (AO.done (xi (q19, Sh.w (t6 + 1)) h1 (Wk.tr rfl)))))))))
  refine AW.regionO rfl (zm tb 3 rfl ?_)
  rcases Sh.ite_some h2 with ⟨b26, h2⟩ | ⟨b26, h2⟩
  ·refine zs b26 rfl (zs b26 rfl (zs b26 rfl ?_))
   iterate 3 refine zn rfl ?_
   refine zs b26 rfl (zt b26 rfl ?_)
   exact AO.done (M23 true (Sh.some_eq h2).symm _ (Wk.permk (L := [(1, (ls eI p1)), (3, (ls (eS eI) p3)), (4, (.ptr 0 0 0 0)), (13, (i64 q19)), (14, (ls eBlock p2)), (15, (i64 (Sh.len p2))), (16, (i64 t6)), (41, (.bool true))]) (st' := [⟨0, 102, 2, [(eRSignatures p0)]⟩]) (st1 := [⟨0, 102, 2, [(eRSignatures p0)]⟩]) [0] rfl .nil (by decide) rfl rfl (.raw rfl rfl .nil) ⟨.rfl, .rfl, .rfl, .rfl, .rfl, .rfl, .rfl, .rfl, trivial⟩))
  ·refine zg tb b26 rfl (zg tb b26 rfl (zg tb b26 rfl ?_))
   rcases Sh.ite_some h2 with ⟨b27, h2⟩ | ⟨b27, h2⟩
   ·refine zg tb b27 rfl (zg tb b27 rfl (zg tb b27 rfl (ao_q (v := (.bool (!decide (q19 = result5)))) (go1 rfl rfl b26) rfl (aq_pkt rfl b27 rfl) (zf b26 rfl ?_))))
    exact AO.done (M23 (!decide (q19 = result5)) (Sh.some_eq h2).symm _ (Wk.permk (L := [(1, (ls eI p1)), (3, (ls (eS eI) p3)), (4, (.ptr 0 0 0 0)), (13, (i64 q19)), (14, (ls eBlock p2)), (15, (i64 (Sh.len p2))), (16, (i64 t6)), (41, (.bool (!decide (q19 = result5))))]) (st' := [⟨0, 102, 2, [(eRSignatures p0)]⟩]) (st1 := [⟨0, 102, 2, [(eRSignatures p0)]⟩]) [0] rfl .nil (by decide) rfl rfl (.raw rfl rfl .nil) ⟨.rfl, .rfl, .rfl, .rfl, .rfl, .rfl, .rfl, .rfl, trivial⟩))
   ·refine zs b27 rfl (zs b27 rfl (zs b27 rfl (ao_q (v := (.bool false)) (go1 rfl rfl b26) rfl (aq_pkf rfl b27 rfl) (zf b26 rfl ?_))))
    exact AO.done (M23 false (Sh.some_eq h2).symm _ (Wk.permk (L := [(1, (ls eI p1)), (3, (ls (eS eI) p3)), (4, (.ptr 0 0 0 0)), (13, (i64 q19)), (14, (ls eBlock p2)), (15, (i64 (Sh.len p2))), (16, (i64 t6)), (41, (.bool false))]) (st' := [⟨0, 102, 2, [(eRSignatures p0)]⟩]) (st1 := [⟨0, 102, 2, [(eRSignatures p0)]⟩]) [0] rfl .nil (by decide) rfl rfl (.raw rfl rfl .nil) ⟨.rfl, .rfl, .rfl, .rfl, .rfl, .rfl, .rfl, .rfl, trivial⟩))
 ·intro b12 h1
  exact AW.exit (M8 result5 (Sh.some_eq h1).symm _ (Wk.d0 _ rfl))
theorem impl_conCount_ok {N : Nat} {p0 : (List RDecl)} {r : Int} (h0 : impl_conCount N p0 = some r) : ACalls Try.prog 142 [(ls eRDecl p0)] [] (fun v st => v = (i64 r) ∧ st = []) := by
 unfold impl_conCount at h0
 refine ai Try.func142 rfl rfl rfl rfl ?_
 iterate 2 refine zr tb rfl rfl ?_
 refine AW.seq fun K3 hK3 => sr rfl fun K4 hK4 => zq tb rfl (zl tb rfl rfl (zq tb rfl (dn hK4 rfl (bs h0 fun o8 h1 h0 => ?_))))
 have M8 : ∀ (n7 : Int), o8 = n7 → ∀ s, Wk 0 s ⟨19, envL [(3, (i64 n7))], []⟩ → K3 s := by
  intro n7 hq s hw
  subst o8
  try dsimp only at h0
  refine hK3 _ (AW.weaken hw (zr tb rfl rfl ?_))
  replace h0 := Sh.some_eq h0
  subst r
  exact AW.ret (xr (Wk.to (L := [(2, (i64 n7))]) ⟨.rfl, trivial⟩))
 refine AW.block (AW.loopF (σ := Int × Int) (fun n v => impl_conCount_L1 p0 n v.1 v.2 = some o8) (fun (n5, t6) => ⟨19, envL [(3, (i64 n5)), (6, (ls eRDecl p0)), (7, (i64 (Sh.len p0))), (8, (i64 t6))], []⟩) N (0, 0) h1 (Wk.tr rfl) (fun _ hv => by rw [impl_conCount_L1] at hv; cases hv) ?_)
 rintro n ⟨n5, t6⟩ h1
 try dsimp only at h1 ⊢
 rw [impl_conCount_L1] at h1
 refine zr tb rfl rfl (AW.seq fun K11 hK11 => ?_)
 refine ci h1 rfl ?_ ?_ <;> clear h1
 ·intro b12 h1
  refine AW.skip (hK11 _ (AW.seq fun K13 hK13 => AW.block (sr rfl fun K14 hK14 => bs h1 fun c15 gc15 h1 => zx ei39 gc15 rfl rfl rfl (zq tb rfl (ao_alloc (m := 0) (st' := [⟨0, 97, 3, [[(i64 0), (i64 0), .zc]]⟩]) go0 zi97 rfl rfl (ao_str (st' := [⟨0, 97, 3, [(eRDecl c15)]⟩]) go0 ti97 rfl rfl rfl rfl rfl rfl (show 0 + 3 ≤ 3 by decide) rfl (dn hK14 rfl (AW.regionO rfl (zm tb 3 rfl ?_)))))))))
  exact zl tb rfl rfl (zm tb 2 rfl (dn hK13 rfl (AW.regionO rfl (zm tb 2 rfl (AO.done (xi (Sh.w (n5 + (Sh.len c15.cons)), Sh.w (t6 + 1)) h1 (Wk.d0 _ rfl)))))))
 ·intro b12 h1
  exact AW.exit (M8 n5 (Sh.some_eq h1).symm _ (Wk.tr rfl))
theorem impl_consOf_ok {N : Nat} {p0 : (List RDecl)} {p1 : Int} {r : (List Int)} (h0 : impl_consOf N p0 p1 = some r) : ACalls Try.prog 128 [(ls eRDecl p0), (i64 p1)] [] (fun v st => v = (ow 0 0 r) ∧ st = [(ro 0 3 1 eI r)]) := by
 unfold impl_consOf at h0
 refine ai Try.func128 rfl rfl rfl rfl (zr tb rfl rfl (AW.seq fun K2 hK2 => AW.seq fun K3 hK3 => bs h0 fun o5 h1 h0 => ?_))
 have M5 : ∀ (t4 : Bool), o5 = t4 → ∀ s, Wk 0 s ⟨39, envL [(0, (ls eRDecl p0)), (1, (i64 p1)), (15, (.bool t4))], []⟩ → K3 s := by
  intro t4 hq s hw
  subst o5
  try dsimp only at h0
  refine hK3 _ (AW.weaken hw ?_)
  refine ci h0 rfl ?_ ?_ <;> clear h0
  ·intro b6 h0
   refine zr tb rfl rfl ?_
   replace h0 := Sh.some_eq h0
   subst r
   exact AW.ret (Exists.intro _ (And.intro (((Wk.adopt (t := 4) rfl 3 (size := 1) (by decide)).trans (Wk.to (L := [(4, (.own 0 0 (List.length ([] : List Int))))]) ⟨.rfl, trivial⟩)).trans (Wk.to (L := [(4, (.own 0 0 (List.length ([] : List Int))))]) ⟨.rfl, trivial⟩)) (And.intro rfl rfl)))
  ·intro b6 h0
   refine AW.skip (hK2 _ (sr rfl fun K8 hK8 => zm tb 3 rfl (bs h0 fun l9 gl9 h0 => ao_sls (i := 0) (j := Sh.w (p1 - 1)) go0 ei39 rfl rfl rfl (fun _ => rfl) gl9 (bs h0 fun q10 gq10 h0 => zc hb142 (impl_conCount_ok gq10) rfl rfl rfl (zq tb rfl (dn hK8 rfl (zr tb rfl rfl (AW.seq fun K12 hK12 => sr rfl fun K13 hK13 => ?_))))))))
   refine zm tb 3 rfl (bs h0 fun c14 gc14 h0 => zx ei39 gc14 rfl rfl rfl (zm tb 2 rfl (zl tb rfl rfl (zq tb rfl (dn hK13 rfl (bs h0 fun o18 h1 h0 => ?_))))))
   have M18 : ∀ (l17 : (List Int)), o18 = l17 → ∀ s, Wk 0 s ⟨39, envL [(6, (ow 0 0 l17))], [(ro 0 3 1 eI l17)]⟩ → K12 s := by
    intro l17 hq s hw
    subst o18
    try dsimp only at h0
    refine hK12 _ (AW.weaken hw (zr tb rfl rfl ?_))
    replace h0 := Sh.some_eq h0
    subst r
    exact AW.ret (xr (Wk.to (L := [(4, (ow 0 0 l17))]) ⟨.rfl, trivial⟩))
   refine AW.block (AW.loopF (σ := Int × (List Int)) (fun n v => impl_consOf_L1 c14 q10 n v.1 v.2 = some o18) (fun (t15, l16) => ⟨39, envL [(5, (i64 q10)), (6, (ow 0 0 l16)), (27, (i64 (Sh.len c14.cons))), (28, (i64 t15))], [(ro 0 3 1 eI l16)]⟩) N (0, []) h1 ((Wk.adopt (t := 6) rfl 3 (size := 1) (by decide)).trans (Wk.to (L := [(5, (i64 q10)), (6, (.own 0 0 (List.length ([] : List Int)))), (27, (i64 (Sh.len c14.cons))), (28, (i64 0))]) ⟨.rfl, .rfl, .rfl, .rfl, trivial⟩)) (fun _ hv => by rw [impl_consOf_L1] at hv; cases hv) ?_)
   rintro n ⟨t15, l16⟩ h1
   try dsimp only at h1 ⊢
   rw [impl_consOf_L1] at h1
   refine zr tb rfl rfl (AW.seq fun K21 hK21 => ?_)
   refine ci h1 rfl ?_ ?_ <;> clear h1
   ·intro b22 h1
    refine AW.skip (hK21 _ (AW.seq fun K23 hK23 => AW.block (zr tb rfl rfl (AW.regionO rfl (zm tb 4 rfl ?_)))))
    refine ao_bs (m := 1) (st' := [(ro 0 3 1 eI l16), (ro 0 3 1 eI [Sh.w (q10 + t15)])]) (l := [Sh.w (q10 + t15)]) (enc := eI) go0 ei22 (by decide) rfl rfl rfl rfl rfl rfl ?_
    refine bs h1 fun l25 gl25 h1 => ao_apo (st' := [(ro 1 3 1 eI l25), (ro 0 3 1 eI [Sh.w (q10 + t15)])]) (l2 := [Sh.w (q10 + t15)]) go0 ei22 rfl rfl rfl rfl (el_o rfl rfl) (fun _ => rfl) gl25 rfl (zq tb rfl (dn hK23 rfl (AW.regionO rfl (zm tb 2 rfl ?_))))
    exact AO.done (xi (Sh.w (t15 + 1), l25) h1 (by refine Wk.trans (Wk.rg (L := [(5, (i64 q10)), (6, (ow 0 0 l25)), (27, (i64 (Sh.len c14.cons))), (28, (i64 (Sh.w (t15 + 1))))]) (st' := [(ro 0 3 1 eI l25), (ro 0 3 1 eI [Sh.w (q10 + t15)])]) (.pure (pure_map fun _ => rfl) (.pure (pure_map fun _ => rfl) .nil)) ⟨.rfl, .rfl, .rfl, .rfl, trivial⟩) ?_; exact Wk.permk (L := [(5, (i64 q10)), (6, (ow 0 0 l25)), (27, (i64 (Sh.len c14.cons))), (28, (i64 (Sh.w (t15 + 1))))]) (st' := [(ro 0 3 1 eI l25)]) (st1 := [(ro 0 3 1 eI l25)]) [0] rfl .nil (by decide) rfl rfl (.pure (pure_map fun _ => rfl) .nil) ⟨.rfl, .rfl, .rfl, .rfl, trivial⟩))
   ·intro b22 h1
    exact AW.exit (M18 l16 (Sh.some_eq h1).symm _ (Wk.tr rfl))
 refine AW.regionO rfl (zm tb 3 rfl ?_)
 rcases Sh.ite_some h1 with ⟨b26, h1⟩ | ⟨b26, h1⟩
 ·refine zs b26 rfl ?_
  iterate 3 refine zs b26 rfl ?_
  exact zt b26 rfl (AO.done (M5 true (Sh.some_eq h1).symm _ (Wk.tr rfl)))
 ·exact zg tb b26 rfl (zg tb b26 rfl (ao_q (v := (i64 (Sh.len p0))) (go1 rfl rfl b26) rfl (aq_lens sl39 rfl) (zg tb b26 rfl (zf b26 rfl (AO.done (M5 (decide ((Sh.len p0) < p1)) (Sh.some_eq h1).symm _ (Wk.tr rfl)))))))
theorem impl_conAt_ok {N : Nat} {p0 : (List RDecl)} {p1 : Int} {r : Int × RCon} (h0 : impl_conAt N p0 p1 = some r) : ACalls Try.prog 130 [(ls eRDecl p0), (i64 p1)] [] (fun v st => v = (.tup [(i64 r.1), (.agg (eRCon r.2))]) ∧ st = []) := by
 unfold impl_conAt at h0
 refine ACalls.flat rfl (ai Try.func130 rfl rfl rfl rfl (sr rfl fun K1 hK1 => zq tb rfl (ao_alloc (m := 0) (st' := [⟨0, 152, 1, [[.zc]]⟩]) go0 zi152 rfl rfl (dn hK1 rfl (AW.seq fun K2 hK2 => sr rfl fun K3 hK3 => zq tb rfl (zl tb rfl rfl (zq tb rfl (dn hK3 rfl ?_))))))))
 obtain ⟨o6, h1, h0⟩ := Sh.cont_some h0
 have M6 : ∀ (_ : Unit), o6 = Sum.inr () → ∀ s, Wk 0 s ⟨38, envL [(5, (.ptr 0 0 0 0))], [⟨0, 152, 1, [[.zc]]⟩]⟩ → K2 s := by
  intro _ hq s hw
  subst o6
  try dsimp only at h0
  refine hK2 _ (AW.weaken hw (sr rfl fun K7 hK7 => zz (.agg [.zc]) (aq_bd ai152 bi152 zi152 rfl rfl) rfl (zq tb rfl (ao_str (st' := [⟨0, 152, 1, [[.zc]]⟩]) go0 ti152 rfl rfl rfl rfl rfl rfl (show 0 + 1 ≤ 1 by decide) rfl (dn hK7 rfl ?_)))))
  replace h0 := Sh.some_eq h0
  subst r
  exact AW.ret (Exists.intro _ (And.intro ((Wk.cellLe (id := 0) (cs := [.zc]) (cs' := [(.sl (List.map eI []))]) (st' := [⟨0, 152, 1, [[(.sl (List.map eI []))]]⟩]) rfl ⟨le.zc, trivial⟩ rfl rfl).trans (Wk.to (L := [(4, (i64 (-1))), (5, (.ptr 0 0 0 0))]) ⟨.rfl, .rfl, trivial⟩)) (aq_ldpa (x := .tmp 5) (off := 0) (cs := [(.sl (List.map eI []))]) (vs := [(.sl (List.map eI []))]) ti152 rfl rfl rfl (show 0 + 1 ≤ 1 by decide) rfl _ rfl)))
 refine AW.block (AW.loopF (σ := Int × Int) (fun n v => impl_conAt_L1 p0 n v.1 v.2 = some o6) (fun (c4, t5) => ⟨38, envL [(1, (i64 c4)), (5, (.ptr 0 0 0 0)), (8, (ls eRDecl p0)), (9, (i64 (Sh.len p0))), (10, (i64 t5))], [⟨0, 152, 1, [[.zc]]⟩]⟩) N (p1, 0) h1 (Wk.tr rfl) (fun _ hv => by rw [impl_conAt_L1] at hv; cases hv) ?_)
 rintro n ⟨c4, t5⟩ h1
 try dsimp only at h1 ⊢
 rw [impl_conAt_L1] at h1
 refine zr tb rfl rfl (AW.seq fun K9 hK9 => ?_)
 refine ci h1 rfl ?_ ?_ <;> clear h1
 ·intro b10 h1
  refine AW.skip (hK9 _ (AW.seq fun K11 hK11 => AW.block (sr rfl fun K12 hK12 => zq tb rfl (bs h1 fun c13 gc13 h1 => zx ei39 gc13 rfl rfl rfl (zq tb rfl (ao_alloc (m := 1) (st' := [⟨0, 152, 1, [[.zc]]⟩, ⟨0, 97, 3, [[(i64 0), (i64 0), .zc]]⟩]) go0 zi97 rfl rfl (zq tb rfl (ao_str (st' := [⟨0, 152, 1, [[.zc]]⟩, ⟨0, 97, 3, [(eRDecl c13)]⟩]) go0 ti97 rfl rfl rfl rfl rfl rfl (show 0 + 3 ≤ 3 by decide) rfl (dn hK12 rfl ?_)))))))))
  refine AW.seq fun K14 hK14 => AW.seq fun K15 hK15 => bs h1 fun o17 h2 h1 => ?_
  have M17 : ∀ (t16 : Bool), o17 = t16 → ∀ s, Wk 0 s ⟨38, envL [(1, (i64 c4)), (5, (.ptr 0 0 0 0)), (6, (i64 t5)), (7, (.ptr 1 0 0 0)), (8, (ls eRDecl p0)), (9, (i64 (Sh.len p0))), (10, (i64 t5)), (23, (.bool t16))], [⟨0, 152, 1, [[.zc]]⟩, ⟨0, 97, 3, [(eRDecl c13)]⟩]⟩ → K15 s := by
   intro t16 hq s hw
   subst o17
   try dsimp only at h1
   refine hK15 _ (AW.weaken hw ?_)
   refine ci h1 rfl ?_ ?_ <;> clear h1
   ·intro b18 h1
    refine AW.seq fun K19 hK19 => ?_
    refine AW.drawTailO 8 (by kernel_rfl) (by kernel_rfl) (by rfl) ?_
    iterate 5 refine yq tb rfl ?_
    refine bs h1 fun c20 gc20 h1 => yx ei95 gc20 rfl rfl rfl ?_
    iterate 2 refine yq tb rfl ?_
    refine d_done (ao_str (st' := [⟨0, 152, 1, [(eRCon c20)]⟩, ⟨0, 97, 3, [(eRDecl c13)]⟩]) go0 ti152 rfl rfl rfl rfl rfl rfl (show 0 + 1 ≤ 1 by decide) rfl (dn hK19 rfl ?_))
    replace h1 := Sh.some_eq h1
    subst o6
    try dsimp only [id] at h0
    replace h0 := Sh.some_eq h0
    subst r
    exact AW.ret (Exists.intro _ (And.intro ((Wk.permk (L := [(4, (i64 (Sh.w (t5 + 1)))), (5, (.ptr 0 0 0 0))]) (st' := [⟨0, 152, 1, [(eRCon c20)]⟩]) (st1 := [⟨0, 152, 1, [(eRCon c20)]⟩]) [0] rfl .nil (by decide) rfl rfl (.raw rfl rfl .nil) ⟨.rfl, .rfl, trivial⟩).trans (Wk.to (L := [(4, (i64 (Sh.w (t5 + 1)))), (5, (.ptr 0 0 0 0))]) ⟨.rfl, .rfl, trivial⟩)) (aq_ldpa (x := .tmp 5) (off := 0) (cs := (eRCon c20)) (vs := (eRCon c20)) ti152 rfl rfl rfl (show 0 + 1 ≤ 1 by decide) rfl _ rfl)))
   ·intro b18 h1
    refine AW.skip (hK14 _ (AW.regionO rfl (zm tb 3 rfl (zl tb rfl rfl (zm tb 2 rfl (dn hK11 rfl (AW.regionO rfl (zm tb 2 rfl ?_))))))))
    exact AO.done (xi (Sh.w (c4 - (Sh.len c13.cons)), Sh.w (t5 + 1)) h1 (Wk.permk (L := [(1, (i64 (Sh.w (c4 - (Sh.len c13.cons))))), (5, (.ptr 0 0 0 0)), (8, (ls eRDecl p0)), (9, (i64 (Sh.len p0))), (10, (i64 (Sh.w (t5 + 1))))]) (st' := [⟨0, 152, 1, [[.zc]]⟩]) (st1 := [⟨0, 152, 1, [[.zc]]⟩]) [0] rfl .nil (by decide) rfl rfl (.raw rfl rfl .nil) ⟨.rfl, .rfl, .rfl, .rfl, .rfl, trivial⟩))
  refine AW.regionO rfl (zm tb 3 rfl ?_)
  rcases Sh.ite_some h2 with ⟨b21, h2⟩ | ⟨b21, h2⟩
  ·exact zg tb b21 rfl (zg tb b21 rfl (zg tb b21 rfl (ao_q (v := (i64 (Sh.len c13.cons))) (go1 rfl rfl b21) rfl (aq_lens sl95 rfl) (zg tb b21 rfl (zt b21 rfl (AO.done (M17 (decide (c4 < (Sh.len c13.cons))) (Sh.some_eq h2).symm _ (Wk.tr rfl))))))))
  ·refine zs b21 rfl ?_
   iterate 4 refine zs b21 rfl ?_
   exact zf b21 rfl (AO.done (M17 false (Sh.some_eq h2).symm _ (Wk.tr rfl)))
 ·intro b10 h1
  exact AW.exit (M6 () (Sh.some_eq h1).symm _ (Wk.tr rfl))
theorem impl_fieldsOf_ok {N : Nat} {p0 : (List RDecl)} {p1 : Int} {r : (List Int)} (h0 : impl_fieldsOf N p0 p1 = some r) : ACalls Try.prog 129 [(ls eRDecl p0), (i64 p1)] [] (fun v st => v = (ls eI r) ∧ st = []) := by
 unfold impl_fieldsOf at h0
 refine ai Try.func129 rfl rfl rfl rfl (zr tb rfl rfl (sr rfl fun K2 hK2 => zm tb 2 rfl (bs h0 fun q3 gq3 h0 => zc (v' := (.tup [(i64 q3.1), (.agg (eRCon q3.2))])) hb130 (impl_conAt_ok gq3) rfl rfl rfl (zm tb 3 rfl (ao_alloc (m := 0) (st' := [⟨0, 152, 1, [[.zc]]⟩]) go0 zi152 rfl rfl (zq tb rfl (ao_str (st' := [⟨0, 152, 1, [(eRCon q3.2)]⟩]) go0 ti152 rfl rfl rfl rfl rfl rfl (show 0 + 1 ≤ 1 by decide) rfl (dn hK2 rfl (zr tb rfl rfl ?_)))))))))
 replace h0 := Sh.some_eq h0
 subst r
 exact AW.ret (xr (Wk.d0 [(4, (ls eI q3.2.fields))] rfl))
theorem impl_signatures_armFields_ok {N : Nat} {p0 : RSignatures} {p1 : Int} {r : (List (List Int))} (h0 : impl_signatures_armFields N p0 p1 = some r) : ACalls Try.prog 109 [(.agg (eRSignatures p0)), (i64 p1)] [] (fun v st => v = (ow 0 0 r) ∧ st = [(ro 0 22 1 (eS eI) r)]) := by
 unfold impl_signatures_armFields at h0
 refine ai Try.func109 rfl rfl rfl rfl (sr rfl fun K1 hK1 => ao_box (m := 0) (st' := [⟨0, 102, 2, [(eRSignatures p0)]⟩]) go0 rfl rfl rfl rfl rfl (zq tb rfl (dn hK1 rfl (zr tb rfl rfl (AW.seq fun K3 hK3 => sr rfl fun K4 hK4 => zm tb 3 rfl (bs h0 fun q5 gq5 h0 => ao_call (v' := (ow 1 0 q5)) (st' := [⟨0, 102, 2, [(eRSignatures p0)]⟩, (ro 0 3 1 eI q5)]) go0 hb128 (impl_consOf_ok gq5) rfl rfl ⟨(pure_map' fun _ => rfl), trivial⟩ rfl rfl (zz (i64 (Sh.len q5)) (aq_leno sl22 rfl rfl rfl) rfl ?_)))))))
 refine zq tb rfl (dn hK4 rfl (bs h0 fun o9 h1 h0 => ?_))
 have M9 : ∀ (l8 : (List (List Int))), o9 = l8 → ∀ s, Wk 0 s ⟨26, envL [(5, (ow 0 0 l8))], [(ro 0 22 1 (eS eI) l8)]⟩ → K3 s := by
  intro l8 hq s hw
  subst o9
  try dsimp only at h0
  refine hK3 _ (AW.weaken hw (zr tb rfl rfl ?_))
  replace h0 := Sh.some_eq h0
  subst r
  exact AW.ret (xr (Wk.to (L := [(4, (ow 0 0 l8))]) ⟨.rfl, trivial⟩))
 refine AW.block (AW.loopF (σ := Int × (List (List Int))) (fun n v => impl_signatures_armFields_L1 N p0 q5 n v.1 v.2 = some o9) (fun (t6, l7) => ⟨26, envL [(2, (.ptr 0 0 0 0)), (5, (ow 2 0 l7)), (11, (ow 1 0 q5)), (12, (i64 (Sh.len q5))), (13, (i64 t6))], [⟨0, 102, 2, [(eRSignatures p0)]⟩, (ro 0 3 1 eI q5), (ro 0 22 1 (eS eI) l7)]⟩) N (0, []) h1 ((Wk.adopt (t := 5) rfl 22 (size := 1) (by decide)).trans (Wk.to (L := [(2, (.ptr 0 0 0 0)), (5, (.own 2 0 (List.length ([] : List (List Int))))), (11, (ow 1 0 q5)), (12, (i64 (Sh.len q5))), (13, (i64 0))]) ⟨.rfl, .rfl, .rfl, .rfl, .rfl, trivial⟩)) (fun _ hv => by rw [impl_signatures_armFields_L1] at hv; cases hv) ?_)
 rintro n ⟨t6, l7⟩ h1
 try dsimp only at h1 ⊢
 rw [impl_signatures_armFields_L1] at h1
 refine zr tb rfl rfl (AW.seq fun K12 hK12 => ?_)
 refine ci h1 rfl ?_ ?_ <;> clear h1
 ·intro b13 h1
  refine AW.skip (hK12 _ (AW.seq fun K14 hK14 => AW.block (sr rfl fun K15 hK15 => bs h1 fun c16 gc16 h1 => zz (.ptr 1 0 (Int.toNat t6) 0) (aq_ixo ei22 rfl rfl rfl rfl gc16) rfl (zz (i64 c16) (aq_ldp ti3 rfl rfl (map_get gc16) rfl) rfl (zq tb rfl (dn hK15 rfl (AW.regionO rfl (zm tb 4 rfl (bs h1 fun q17 gq17 h1 => ?_)))))))))
  refine zc hb129 (impl_fieldsOf_ok gq17) rfl rfl rfl ?_
  refine ao_bs (m := 3) (st' := [⟨0, 102, 2, [(eRSignatures p0)]⟩, (ro 0 3 1 eI q5), (ro 0 22 1 (eS eI) l7), (ro 0 22 1 (eS eI) [q17])]) (l := [q17]) (enc := (eS eI)) go0 ei161 (by decide) rfl rfl rfl rfl rfl rfl ?_
  refine bs h1 fun l18 gl18 h1 => ao_apo (st' := [⟨0, 102, 2, [(eRSignatures p0)]⟩, (ro 0 3 1 eI q5), (ro 1 22 1 (eS eI) l18), (ro 0 22 1 (eS eI) [q17])]) (l2 := [q17]) go0 ei161 rfl rfl rfl rfl (el_o rfl rfl) (fun _ => rfl) gl18 rfl (zq tb rfl (dn hK14 rfl (AW.regionO rfl (zm tb 2 rfl ?_))))
  exact AO.done (xi (Sh.w (t6 + 1), l18) h1 (by refine Wk.trans (Wk.rg (L := [(2, (.ptr 0 0 0 0)), (5, (ow 2 0 l18)), (11, (ow 1 0 q5)), (12, (i64 (Sh.len q5))), (13, (i64 (Sh.w (t6 + 1))))]) (st' := [⟨0, 102, 2, [(eRSignatures p0)]⟩, (ro 0 3 1 eI q5), (ro 0 22 1 (eS eI) l18), (ro 0 22 1 (eS eI) [q17])]) (.raw rfl rfl (.pure (pure_map fun _ => rfl) (.pure (pure_map fun _ => rfl) (.pure (pure_map fun _ => rfl) .nil)))) ⟨.rfl, .rfl, .rfl, .rfl, .rfl, trivial⟩) ?_; exact Wk.permk (L := [(2, (.ptr 0 0 0 0)), (5, (ow 2 0 l18)), (11, (ow 1 0 q5)), (12, (i64 (Sh.len q5))), (13, (i64 (Sh.w (t6 + 1))))]) (st' := [⟨0, 102, 2, [(eRSignatures p0)]⟩, (ro 0 3 1 eI q5), (ro 0 22 1 (eS eI) l18)]) (st1 := [⟨0, 102, 2, [(eRSignatures p0)]⟩, (ro 0 3 1 eI q5), (ro 0 22 1 (eS eI) l18)]) [0, 1, 2] rfl .nil (by decide) rfl rfl (.raw rfl rfl (.pure (pure_map fun _ => rfl) (.pure (pure_map fun _ => rfl) .nil))) ⟨.rfl, .rfl, .rfl, .rfl, .rfl, trivial⟩))
 ·intro b13 h1
  exact AW.exit (M9 l7 (Sh.some_eq h1).symm _ (Wk.permk (L := [(5, (ow 0 0 l7))]) (st' := [(ro 0 22 1 (eS eI) l7)]) (st1 := [(ro 0 22 1 (eS eI) l7)]) [2] rfl .nil (by decide) rfl rfl (.pure (pure_map fun _ => rfl) .nil) ⟨.rfl, trivial⟩))
theorem slices_Equal_int_int_ok {N : Nat} {p0 : (List Int)} {p1 : (List Int)} {r : Bool} (h0 : slices_Equal_int_int N p0 p1 = some r) : ACalls Try.prog 131 [(ls eI p0), (ls eI p1)] [] (fun v st => v = (.bool r) ∧ st = []) := by
 unfold slices_Equal_int_int at h0
 refine ai Try.func131 rfl rfl rfl rfl (zr tb rfl rfl (AW.seq fun K2 hK2 => sr rfl fun K3 hK3 => zq tb rfl (zl tb rfl rfl (zq tb rfl (zl tb rfl rfl (zq tb rfl (dn hK3 rfl ?_)))))))
 refine ci h0 rfl ?_ ?_ <;> clear h0
 ·intro b4 h0
  have b5 : decide ((Sh.len p0) = (Sh.len p1)) = false := by simpa using b4
  refine zr tb rfl rfl ?_
  replace h0 := Sh.some_eq h0
  subst r
  exact AW.ret (xr (Wk.to (L := [(4, (.bool false))]) ⟨.rfl, trivial⟩))
 ·intro b4 h0
  have b7 : decide ((Sh.len p0) = (Sh.len p1)) = true := by simpa using b4
  refine AW.skip (hK2 _ (AW.seq fun K8 hK8 => sr rfl fun K9 hK9 => zq tb rfl (zl tb rfl rfl (zq tb rfl (dn hK9 rfl ?_)))))
  obtain ⟨o11, h1, h0⟩ := Sh.cont_some h0
  have M11 : ∀ (_ : Unit), o11 = Sum.inr () → ∀ s, Wk 0 s ⟨26, envL [], []⟩ → K8 s := by
   intro _ hq s hw
   subst o11
   try dsimp only at h0
   refine hK8 _ (AW.weaken hw (zr tb rfl rfl ?_))
   replace h0 := Sh.some_eq h0
   subst r
   exact AW.ret (xr (Wk.to (L := [(4, (.bool true))]) ⟨.rfl, trivial⟩))
  refine AW.block (AW.loopF (σ := Int) (fun n v => slices_Equal_int_int_L1 p0 p1 n v = some o11) (fun t10 => ⟨26, envL [(0, (ls eI p0)), (1, (ls eI p1)), (12, (i64 (Sh.len p0))), (13, (i64 t10))], []⟩) N 0 h1 (Wk.tr rfl) (fun _ hv => by rw [slices_Equal_int_int_L1] at hv; cases hv) ?_)
  rintro n t10 h1
  try dsimp only at h1 ⊢
  rw [slices_Equal_int_int_L1] at h1
  refine zr tb rfl rfl (AW.seq fun K14 hK14 => ?_)
  refine ci h1 rfl ?_ ?_ <;> clear h1
  ·intro b15 h1
   refine AW.skip (hK14 _ (AW.seq fun K16 hK16 => AW.block (zr tb rfl rfl (AW.seq fun K18 hK18 => ?_))))
   refine AW.draw (by kernel_rfl) (by kernel_rfl) (by rfl) ?_
   iterate 2 refine yq tb rfl ?_
   refine bs h1 fun c19 gc19 h1 => yx ei22 gc19 rfl rfl rfl ?_
   iterate 3 refine yq tb rfl ?_
   refine bs h1 fun c20 gc20 h1 => yx ei22 gc20 rfl rfl rfl ?_
   iterate 2 refine yq tb rfl ?_
   refine d_done (hK18 _ ?_)
   refine ci h1 rfl ?_ ?_ <;> clear h1
   ·intro b21 h1
    have b22 : decide (c19 = c20) = false := by simpa using b21
    refine zr tb rfl rfl ?_
    replace h1 := Sh.some_eq h1
    subst o11
    try dsimp only [id] at h0
    replace h0 := Sh.some_eq h0
    subst r
    exact AW.ret (xr (Wk.to (L := [(4, (.bool false))]) ⟨.rfl, trivial⟩))
   ·intro b21 h1
    have b24 : decide (c19 = c20) = true := by simpa using b21
    exact AW.skip (hK16 _ (AW.regionO rfl (zm tb 2 rfl (AO.done (xi (Sh.w (t10 + 1)) h1 (Wk.tr rfl))))))
  ·intro b15 h1
   exact AW.exit (M11 () (Sh.some_eq h1).symm _ (Wk.tr rfl))
theorem impl_arrowOf_ok {N : Nat} {p0 : (List RDecl)} {p1 : Int} {p2 : Int} {r : Int} (h0 : impl_arrowOf N p0 p1 p2 = some r) : ACalls Try.prog 132 [(ls eRDecl p0), (i64 p1), (i64 p2)] [] (fun v st => v = (i64 r) ∧ st = []) := by
 unfold impl_arrowOf at h0
 refine ai Try.func132 rfl rfl rfl rfl (zr tb rfl rfl (AW.seq fun K2 hK2 => sr rfl fun K3 hK3 => zq tb rfl (zl tb rfl rfl (zq tb rfl (dn hK3 rfl ?_)))))
 obtain ⟨o5, h1, h0⟩ := Sh.cont_some h0
 have M5 : ∀ (_ : Unit), o5 = Sum.inr () → ∀ s, Wk 0 s ⟨35, envL [], []⟩ → K2 s := by
  intro _ hq s hw
  subst o5
  try dsimp only at h0
  refine hK2 _ (AW.weaken hw (zr tb rfl rfl ?_))
  replace h0 := Sh.some_eq h0
  subst r
  exact AW.ret (xr (Wk.to (L := [(6, (i64 (-1)))]) ⟨.rfl, trivial⟩))
 refine AW.block (AW.loopF (σ := Int) (fun n v => impl_arrowOf_L1 p0 p1 p2 n v = some o5) (fun t4 => ⟨35, envL [(1, (i64 p1)), (2, (i64 p2)), (9, (ls eRDecl p0)), (10, (i64 (Sh.len p0))), (11, (i64 t4))], []⟩) N 0 h1 (Wk.tr rfl) (fun _ hv => by rw [impl_arrowOf_L1] at hv; cases hv) ?_)
 rintro n t4 h1
 try dsimp only at h1 ⊢
 rw [impl_arrowOf_L1] at h1
 refine zr tb rfl rfl (AW.seq fun K8 hK8 => ?_)
 refine ci h1 rfl ?_ ?_ <;> clear h1
 ·intro b9 h1
  refine AW.skip (hK8 _ (AW.seq fun K10 hK10 => AW.block (sr rfl fun K11 hK11 => zq tb rfl (bs h1 fun c12 gc12 h1 => zx ei39 gc12 rfl rfl rfl (zq tb rfl (ao_alloc (m := 0) (st' := [⟨0, 97, 3, [[(i64 0), (i64 0), .zc]]⟩]) go0 zi97 rfl rfl (zq tb rfl (ao_str (st' := [⟨0, 97, 3, [(eRDecl c12)]⟩]) go0 ti97 rfl rfl rfl rfl rfl rfl (show 0 + 3 ≤ 3 by decide) rfl (dn hK11 rfl ?_)))))))))
  refine AW.seq fun K13 hK13 => bs h1 fun o15 h2 h1 => ?_
  have M15 : ∀ (t14 : Bool), o15 = t14 → ∀ s, Wk 0 s ⟨35, envL [(1, (i64 p1)), (2, (i64 p2)), (7, (i64 t4)), (9, (ls eRDecl p0)), (10, (i64 (Sh.len p0))), (11, (i64 t4)), (31, (.bool t14))], []⟩ → K13 s := by
   intro t14 hq s hw
   subst o15
   try dsimp only at h1
   refine hK13 _ (AW.weaken hw ?_)
   refine ci h1 rfl ?_ ?_ <;> clear h1
   ·intro b16 h1
    refine zr tb rfl rfl ?_
    replace h1 := Sh.some_eq h1
    subst o5
    try dsimp only [id] at h0
    replace h0 := Sh.some_eq h0
    subst r
    exact AW.ret (xr (Wk.to (L := [(6, (i64 (Sh.w (t4 + 1))))]) ⟨.rfl, trivial⟩))
   ·intro b16 h1
    exact AW.skip (hK10 _ (AW.regionO rfl (zm tb 2 rfl (AO.done (xi (Sh.w (t4 + 1)) h1 (Wk.tr rfl))))))
  refine AW.regionO rfl (zm tb 2 rfl (zl tb rfl rfl (zm tb 2 rfl ?_)))
  rcases Sh.ite_some h2 with ⟨b18, h2⟩ | ⟨b18, h2⟩
  ·refine zg tb b18 rfl ?_
   iterate 3 refine zg tb b18 rfl ?_
   refine zt b18 rfl (zq tb rfl ?_)
   rcases Sh.ite_some h2 with ⟨b19, h2⟩ | ⟨b19, h2⟩
   ·refine zg tb b19 rfl ?_
    iterate 3 refine zg tb b19 rfl ?_
    exact zt b19 rfl (AO.done (M15 (decide (c12.to = p2)) (Sh.some_eq h2).symm _ (Wk.d0 _ rfl)))
   ·refine zs b19 rfl ?_
    iterate 3 refine zs b19 rfl ?_
    exact zf b19 rfl (AO.done (M15 false (Sh.some_eq h2).symm _ (Wk.d0 _ rfl)))
  ·refine zs b18 rfl ?_
   iterate 3 refine zs b18 rfl ?_
   refine zf b18 rfl (zq tb rfl ?_)
   iterate 4 refine zs rfl rfl ?_
   exact zf rfl rfl (AO.done (M15 false (Sh.some_eq h2).symm _ (Wk.d0 _ rfl)))
 ·intro b9 h1
  exact AW.exit (M5 () (Sh.some_eq h1).symm _ (Wk.tr rfl))
theorem impl_signatures_simpleType_ok {N : Nat} {p0 : RSignatures} {p1 : Int} {p2 : Int} {p3 : (List Int)} {r : Int × Bool} (h0 : impl_signatures_simpleType N p0 p1 p2 p3 = some r) : ACalls Try.prog 110 [(.agg (eRSignatures p0)), (i64 p1), (i64 p2), (ls eI p3)] [] (fun v st => v = (.tup [(i64 r.1), (.bool r.2)]) ∧ st = []) := by
 unfold impl_signatures_simpleType at h0
 refine ai Try.func110 rfl rfl rfl rfl (sr rfl fun K1 hK1 => ao_box (m := 0) (st' := [⟨0, 102, 2, [(eRSignatures p0)]⟩]) go0 rfl rfl rfl rfl rfl (zm tb 2 rfl (dn hK1 rfl (zr tb rfl rfl (AW.seq fun K3 hK3 => ?_)))))
 obtain ⟨o5, h1, h0⟩ := Sh.cont_some h0
 have M5 : ∀ (l4 : (List Int)), o5 = Sum.inr l4 → ∀ s, Wk 0 s ⟨149, envL [(2, (i64 p2)), (3, (ls eI p3)), (10, (ow 0 0 l4)), (11, (i64 0))], [(ro 0 3 1 eI l4)]⟩ → K3 s := by
  intro l4 hq s hw
  subst o5
  try dsimp only at h0
  refine hK3 _ (AW.weaken hw (AW.seq fun K6 hK6 => bs h0 fun o8 h1 h0 => ?_))
  have M8 : ∀ (t7 : Bool), o8 = t7 → ∀ s, Wk 0 s ⟨149, envL [(8, (i64 0)), (9, (.bool t7))], []⟩ → K6 s := by
   intro t7 hq s hw
   subst o8
   try dsimp only at h0
   refine hK6 _ (AW.weaken hw ?_)
   replace h0 := Sh.some_eq h0
   subst r
   exact AW.ret (xr (Wk.to (L := [(8, (i64 0)), (9, (.bool t7))]) ⟨.rfl, .rfl, trivial⟩))
  refine AW.regionO rfl (zm tb 4 rfl ?_)
  rcases Sh.ite_some h1 with ⟨b9, h1⟩ | ⟨b9, h1⟩
  ·exact zg tb b9 rfl (zg tb b9 rfl (AO.weaken (Wk.frz (L := [(141, (i64 0)), (144, (.bool (decide (p2 = 0)))), (145, (ls eI p3)), (146, (ls eI l4))]) (st' := [⟨1, 3, 1, []⟩]) (id := 0) rfl (show 0 ≤ 0 by decide) (pure_map fun _ => rfl) ⟨.rfl, .rfl, .rfl, (.frz rfl), trivial⟩ rfl) (bs h1 fun q10 gq10 h1 => zd b9 hb131 (slices_Equal_int_int_ok gq10) rfl rfl rfl rfl (zt b9 rfl (zm tb 2 rfl (AO.done (M8 q10 (Sh.some_eq h1).symm _ (Wk.d0 _ rfl))))))))
  ·exact zs b9 rfl (zs b9 rfl (zs b9 rfl (zf b9 rfl (zm tb 2 rfl (AO.done (M8 false (Sh.some_eq h1).symm _ (Wk.d0 _ rfl)))))))
 refine zr tb rfl rfl (AW.block (zr tb rfl rfl ?_))
 refine ci h1 rfl ?_ ?_ <;> clear h1
 ·intro b13 h1
  refine AW.seq fun K14 hK14 => bs h1 fun o16 h2 h1 => ?_
  have M16 : ∀ (t15 : Bool), o16 = t15 → ∀ s, Wk 0 s ⟨149, envL [(8, (i64 0)), (9, (.bool t15))], []⟩ → K14 s := by
   intro t15 hq s hw
   subst o16
   try dsimp only at h1
   refine hK14 _ (AW.weaken hw ?_)
   replace h1 := Sh.some_eq h1
   subst o5
   try dsimp only [id] at h0
   replace h0 := Sh.some_eq h0
   subst r
   exact AW.ret (xr (Wk.to (L := [(8, (i64 0)), (9, (.bool t15))]) ⟨.rfl, .rfl, trivial⟩))
  refine AW.regionO rfl (zm tb 3 rfl ?_)
  rcases Sh.ite_some h2 with ⟨b17, h2⟩ | ⟨b17, h2⟩
  ·refine zg tb b17 rfl (zg tb b17 rfl (zt b17 rfl (zq tb rfl ?_)))
   rcases Sh.ite_some h2 with ⟨b18, h2⟩ | ⟨b18, h2⟩
   ·exact zg tb b18 rfl (ao_q (v := (i64 (Sh.len p3))) (go1 rfl rfl b18) rfl (aq_lens sl22 rfl) (zg tb b18 rfl (zt b18 rfl (zm tb 2 rfl (AO.done (M16 (decide ((Sh.len p3) = 0)) (Sh.some_eq h2).symm _ (Wk.d0 _ rfl)))))))
   ·exact zs b18 rfl (zs b18 rfl (zs b18 rfl (zf b18 rfl (zm tb 2 rfl (AO.done (M16 false (Sh.some_eq h2).symm _ (Wk.d0 _ rfl)))))))
  ·refine zs b17 rfl (zs b17 rfl (zf b17 rfl (zq tb rfl ?_)))
   iterate 3 refine zs rfl rfl ?_
   exact zf rfl rfl (zm tb 2 rfl (AO.done (M16 false (Sh.some_eq h2).symm _ (Wk.d0 _ rfl))))
 ·intro b13 h1
  refine AW.seq fun K19 hK19 => bs h1 fun o21 h2 h1 => ?_
  have M21 : ∀ (t20 : Bool), o21 = t20 → ∀ s, Wk 0 s ⟨149, envL [(1, (i64 p1)), (2, (i64 p2)), (3, (ls eI p3)), (4, (.ptr 0 0 0 0)), (11, (i64 0)), (18, (i64 p1)), (32, (.bool t20))], [⟨0, 102, 2, [(eRSignatures p0)]⟩]⟩ → K19 s := by
   intro t20 hq s hw
   subst o21
   try dsimp only at h1
   refine hK19 _ (AW.weaken hw ?_)
   refine ci h1 rfl ?_ ?_ <;> clear h1
   ·intro b22 h1
    refine AW.regionO rfl ?_
    refine ao_bs (m := 1) (st' := [⟨0, 102, 2, [(eRSignatures p0)]⟩, (ro 0 3 1 eI [(0 : Int), 0])]) (l := [(0 : Int), 0]) (enc := eI) go0 ei22 (by decide) rfl rfl rfl rfl rfl rfl ?_
    refine zq tb rfl ?_
    exact AO.done (M5 [(0 : Int), 0] (Sh.some_eq h1).symm _ (Wk.permk (L := [(2, (i64 p2)), (3, (ls eI p3)), (10, (ow 0 0 [(0 : Int), 0])), (11, (i64 0))]) (st' := [(ro 0 3 1 eI [(0 : Int), 0])]) (st1 := [(ro 0 3 1 eI [(0 : Int), 0])]) [1] rfl .nil (by decide) rfl rfl (.pure (pure_map fun _ => rfl) .nil) ⟨.rfl, .rfl, .rfl, .rfl, trivial⟩))
   ·intro b22 h1
    refine zr tb rfl rfl ?_
    refine ci h1 rfl ?_ ?_ <;> clear h1
    ·intro b24 h1
     refine AW.regionO rfl ?_
     refine ao_bs (m := 1) (st' := [⟨0, 102, 2, [(eRSignatures p0)]⟩, (ro 0 3 1 eI [(0 : Int)])]) (l := [(0 : Int)]) (enc := eI) go0 ei22 (by decide) rfl rfl rfl rfl rfl rfl ?_
     refine zq tb rfl ?_
     exact AO.done (M5 [(0 : Int)] (Sh.some_eq h1).symm _ (Wk.permk (L := [(2, (i64 p2)), (3, (ls eI p3)), (10, (ow 0 0 [(0 : Int)])), (11, (i64 0))]) (st' := [(ro 0 3 1 eI [(0 : Int)])]) (st1 := [(ro 0 3 1 eI [(0 : Int)])]) [1] rfl .nil (by decide) rfl rfl (.pure (pure_map fun _ => rfl) .nil) ⟨.rfl, .rfl, .rfl, .rfl, trivial⟩))
    ·intro b24 h1
     refine zr tb rfl rfl ?_
     refine ci h1 rfl ?_ ?_ <;> clear h1
     ·intro b26 h1
      refine AW.seq fun K27 hK27 => sr rfl fun K28 hK28 => zq tb rfl (zl tb rfl rfl (zq tb rfl (dn hK28 rfl ?_)))
      refine ci h1 rfl ?_ ?_ <;> clear h1
      ·intro b29 h1
       have b30 : decide ((Sh.len p3) = 2) = false := by simpa using b29
       refine zr tb rfl rfl ?_
       replace h1 := Sh.some_eq h1
       subst o5
       try dsimp only [id] at h0
       replace h0 := Sh.some_eq h0
       subst r
       exact AW.ret (xr (Wk.d0 [(8, (i64 (-1))), (9, (.bool false))] rfl))
      ·intro b29 h1
       have b32 : decide ((Sh.len p3) = 2) = true := by simpa using b29
       refine AW.skip (hK27 _ (AW.seq fun K33 hK33 => ?_))
       refine AW.drawX (by kernel_rfl) ?_
       refine bs h1 fun c34 gc34 h1 => bs h1 fun q35 gq35 h1 => AX.one fun A36 hA36 => ?_
       have A36_0123456789ab : A36 0 #[true, true, true, true, true, true, true, true, true, true, true, true] ⟨149, envL [(2, (i64 p2)), (3, (ls eI p3)), (12, (.ptr 0 0 0 0)), (13, (.bool q35.2))], [⟨0, 97, 3, [(eRDecl q35.1)]⟩]⟩ := (hA36 _ _ _).2 (by
        refine AX.done rfl (by kernel_rfl) ?_
        refine hK33 _ (AW.seq fun K37 hK37 => bs h1 fun o39 h2 h1 => ?_)
        have M39 : ∀ (t38 : Bool), o39 = t38 → ∀ s, Wk 0 s ⟨149, envL [(8, (i64 q35.1.to)), (9, (.bool t38))], []⟩ → K37 s := by
         intro t38 hq s hw
         subst o39
         try dsimp only at h1
         refine hK37 _ (AW.weaken hw ?_)
         replace h1 := Sh.some_eq h1
         subst o5
         try dsimp only [id] at h0
         replace h0 := Sh.some_eq h0
         subst r
         exact AW.ret (xr (Wk.to (L := [(8, (i64 q35.1.to)), (9, (.bool t38))]) ⟨.rfl, .rfl, trivial⟩))
        refine AW.draw (by kernel_rfl) (by kernel_rfl) (by rfl) ?_
        iterate 4 refine yq tb rfl ?_
        rcases Sh.ite_some h2 with ⟨b40, h2⟩ | ⟨b40, h2⟩
        ·refine yg tb b40 rfl (bs h2 fun c41 gc41 h2 => d_q (v := (.iptr (eI c41) 0)) (go1 rfl rfl b40) rfl (aq_ixs ei22 rfl rfl gc41 rfl) ?_)
         iterate 4 refine yg tb b40 rfl ?_
         refine yt b40 rfl (yq tb rfl ?_)
         rcases Sh.ite_some h2 with ⟨b42, h2⟩ | ⟨b42, h2⟩
         ·refine yg tb b42 rfl (yg tb b42 rfl (yt b42 rfl ?_))
          iterate 2 refine yq tb rfl ?_
          exact d_done (M39 (decide (p2 = 0)) (Sh.some_eq h2).symm _ (Wk.d0 _ rfl))
         ·refine ys b42 rfl (ys b42 rfl (yf b42 rfl ?_))
          iterate 2 refine yq tb rfl ?_
          exact d_done (M39 false (Sh.some_eq h2).symm _ (Wk.d0 _ rfl))
        ·refine ys b40 rfl ?_
         iterate 5 refine ys b40 rfl ?_
         refine yf b40 rfl (yq tb rfl ?_)
         iterate 2 refine ys rfl rfl ?_
         refine yf rfl rfl ?_
         iterate 2 refine yq tb rfl ?_
         exact d_done (M39 false (Sh.some_eq h2).symm _ (by refine Wk.trans (Wk.permk (L := [(8, (i64 q35.1.to)), (9, (.bool false))]) (st' := []) (st1 := []) [] rfl .nil (by decide) rfl rfl .nil ⟨.rfl, .rfl, trivial⟩) ?_; exact Wk.to (L := [(8, (i64 q35.1.to)), (9, (.bool false))]) ⟨.rfl, .rfl, trivial⟩)))
       have A36_0123456789a : A36 1 #[true, true, true, true, true, true, true, true, true, true, true, false] ⟨149, envL [(2, (i64 p2)), (3, (ls eI p3)), (12, (.ptr 0 0 0 0)), (54, (.bool q35.2))], [⟨0, 97, 3, [(eRDecl q35.1)]⟩]⟩ := (hA36 _ _ _).2 (by
        refine AX.hoist 11 (v := (.bool q35.2)) rfl rfl (by kernel_rfl) (by kernel_rfl) (by kernel_rfl) rfl (hoist_as rfl) ?_
        exact AX.weaken (Wk.to (L := [(2, (i64 p2)), (3, (ls eI p3)), (12, (.ptr 0 0 0 0)), (13, (.bool q35.2))]) ⟨.rfl, .rfl, .rfl, .rfl, trivial⟩) (AX.lst (by kernel_rfl) ((hA36 _ _ _).1 A36_0123456789ab)) rfl)
       have A36_0123456789 : A36 2 #[true, true, true, true, true, true, true, true, true, true, false, false] ⟨149, envL [(2, (i64 p2)), (3, (ls eI p3)), (12, (.ptr 0 0 0 0)), (53, (.agg (eRDecl q35.1))), (54, (.bool q35.2))], [⟨0, 97, 3, [[(i64 0), (i64 0), .zc]]⟩]⟩ := (hA36 _ _ _).2 (by
        refine AX.all [10] rfl (by kernel_rfl) (by decide) ⟨?_, trivial⟩
        ·refine AXs.of (i := 10) rfl rfl (by rfl) ?_
         refine ao_str (st' := [⟨0, 97, 3, [(eRDecl q35.1)]⟩]) go0 ti97 rfl rfl rfl rfl rfl rfl (show 0 + 3 ≤ 3 by decide) rfl (AO.done ⟨rfl, ?_⟩)
         exact AX.weaken (Wk.to (L := [(2, (i64 p2)), (3, (ls eI p3)), (12, (.ptr 0 0 0 0)), (54, (.bool q35.2))]) ⟨.rfl, .rfl, .rfl, .rfl, trivial⟩) (AX.lst (by kernel_rfl) ((hA36 _ _ _).1 A36_0123456789a)) rfl)
       have A36_012345678 : A36 3 #[true, true, true, true, true, true, true, true, true, false, false, false] ⟨149, envL [(2, (i64 p2)), (3, (ls eI p3)), (53, (.agg (eRDecl q35.1))), (54, (.bool q35.2))], []⟩ := (hA36 _ _ _).2 (by
        refine AX.all [9] rfl (by kernel_rfl) (by decide) ⟨?_, trivial⟩
        ·refine AXs.of (i := 9) rfl rfl (by rfl) ?_
         refine ao_alloc (m := 0) (st' := [⟨0, 97, 3, [[(i64 0), (i64 0), .zc]]⟩]) go0 zi97 rfl rfl (AO.done ⟨rfl, ?_⟩)
         exact AX.weaken (Wk.to (L := [(2, (i64 p2)), (3, (ls eI p3)), (12, (.ptr 0 0 0 0)), (53, (.agg (eRDecl q35.1))), (54, (.bool q35.2))]) ⟨.rfl, .rfl, .rfl, .rfl, .rfl, trivial⟩) (AX.lst (by kernel_rfl) ((hA36 _ _ _).1 A36_0123456789)) rfl)
       have A36_012345679a : A36 2 #[true, true, true, true, true, true, true, true, false, true, true, false] ⟨149, envL [(2, (i64 p2)), (3, (ls eI p3)), (12, (.ptr 0 0 0 0)), (46, (.tup [(.agg (eRDecl q35.1)), (.bool q35.2)]))], [⟨0, 97, 3, [(eRDecl q35.1)]⟩]⟩ := (hA36 _ _ _).2 (by
        refine AX.all [8] rfl (by kernel_rfl) (by decide) ⟨?_, trivial⟩
        ·refine AXs.of (i := 8) rfl rfl (by rfl) ?_
         refine zq tb rfl (AO.done ⟨rfl, ?_⟩)
         exact AX.weaken (Wk.to (L := [(2, (i64 p2)), (3, (ls eI p3)), (12, (.ptr 0 0 0 0)), (54, (.bool q35.2))]) ⟨.rfl, .rfl, .rfl, .rfl, trivial⟩) (AX.lst (by kernel_rfl) ((hA36 _ _ _).1 A36_0123456789a)) rfl)
       have A36_012345679 : A36 3 #[true, true, true, true, true, true, true, true, false, true, false, false] ⟨149, envL [(2, (i64 p2)), (3, (ls eI p3)), (12, (.ptr 0 0 0 0)), (46, (.tup [(.agg (eRDecl q35.1)), (.bool q35.2)])), (53, (.agg (eRDecl q35.1)))], [⟨0, 97, 3, [[(i64 0), (i64 0), .zc]]⟩]⟩ := (hA36 _ _ _).2 (by
        refine AX.all [8, 10] rfl (by kernel_rfl) (by decide) ⟨?_, ?_, trivial⟩
        ·refine AXs.of (i := 8) rfl rfl (by rfl) ?_
         refine zq tb rfl (AO.done ⟨rfl, ?_⟩)
         exact AX.weaken (Wk.to (L := [(2, (i64 p2)), (3, (ls eI p3)), (12, (.ptr 0 0 0 0)), (53, (.agg (eRDecl q35.1))), (54, (.bool q35.2))]) ⟨.rfl, .rfl, .rfl, .rfl, .rfl, trivial⟩) (AX.lst (by kernel_rfl) ((hA36 _ _ _).1 A36_0123456789)) rfl
        ·refine AXs.of (i := 10) rfl rfl (by rfl) ?_
         refine ao_str (st' := [⟨0, 97, 3, [(eRDecl q35.1)]⟩]) go0 ti97 rfl rfl rfl rfl rfl rfl (show 0 + 3 ≤ 3 by decide) rfl (AO.done ⟨rfl, ?_⟩)
         exact AX.weaken (Wk.to (L := [(2, (i64 p2)), (3, (ls eI p3)), (12, (.ptr 0 0 0 0)), (46, (.tup [(.agg (eRDecl q35.1)), (.bool q35.2)]))]) ⟨.rfl, .rfl, .rfl, .rfl, trivial⟩) (AX.lst (by kernel_rfl) ((hA36 _ _ _).1 A36_012345679a)) rfl)
       have A36_01234567 : A36 4 #[true, true, true, true, true, true, true, true, false, false, false, false] ⟨149, envL [(2, (i64 p2)), (3, (ls eI p3)), (46, (.tup [(.agg (eRDecl q35.1)), (.bool q35.2)])), (53, (.agg (eRDecl q35.1)))], []⟩ := (hA36 _ _ _).2 (by
        refine AX.all [8, 9] rfl (by kernel_rfl) (by decide) ⟨?_, ?_, trivial⟩
        ·refine AXs.of (i := 8) rfl rfl (by rfl) ?_
         refine zq tb rfl (AO.done ⟨rfl, ?_⟩)
         exact AX.weaken (Wk.to (L := [(2, (i64 p2)), (3, (ls eI p3)), (53, (.agg (eRDecl q35.1))), (54, (.bool q35.2))]) ⟨.rfl, .rfl, .rfl, .rfl, trivial⟩) (AX.lst (by kernel_rfl) ((hA36 _ _ _).1 A36_012345678)) rfl
        ·refine AXs.of (i := 9) rfl rfl (by rfl) ?_
         refine ao_alloc (m := 0) (st' := [⟨0, 97, 3, [[(i64 0), (i64 0), .zc]]⟩]) go0 zi97 rfl rfl (AO.done ⟨rfl, ?_⟩)
         exact AX.weaken (Wk.to (L := [(2, (i64 p2)), (3, (ls eI p3)), (12, (.ptr 0 0 0 0)), (46, (.tup [(.agg (eRDecl q35.1)), (.bool q35.2)])), (53, (.agg (eRDecl q35.1)))]) ⟨.rfl, .rfl, .rfl, .rfl, .rfl, trivial⟩) (AX.lst (by kernel_rfl) ((hA36 _ _ _).1 A36_012345679)) rfl)
       have A36_012345689 : A36 3 #[true, true, true, true, true, true, true, false, true, true, false, false] ⟨149, envL [(2, (i64 p2)), (3, (ls eI p3)), (12, (.ptr 0 0 0 0)), (46, (.tup [(.agg (eRDecl q35.1)), (.bool q35.2)])), (54, (.bool q35.2))], [⟨0, 97, 3, [[(i64 0), (i64 0), .zc]]⟩]⟩ := (hA36 _ _ _).2 (by
        refine AX.all [7] rfl (by kernel_rfl) (by decide) ⟨?_, trivial⟩
        ·refine AXs.of (i := 7) rfl rfl (by rfl) ?_
         refine zq tb rfl (AO.done ⟨rfl, ?_⟩)
         exact AX.weaken (Wk.to (L := [(2, (i64 p2)), (3, (ls eI p3)), (12, (.ptr 0 0 0 0)), (53, (.agg (eRDecl q35.1))), (54, (.bool q35.2))]) ⟨.rfl, .rfl, .rfl, .rfl, .rfl, trivial⟩) (AX.lst (by kernel_rfl) ((hA36 _ _ _).1 A36_0123456789)) rfl)
       have A36_01234568 : A36 4 #[true, true, true, true, true, true, true, false, true, false, false, false] ⟨149, envL [(2, (i64 p2)), (3, (ls eI p3)), (46, (.tup [(.agg (eRDecl q35.1)), (.bool q35.2)])), (54, (.bool q35.2))], []⟩ := (hA36 _ _ _).2 (by
        refine AX.all [7, 9] rfl (by kernel_rfl) (by decide) ⟨?_, ?_, trivial⟩
        ·refine AXs.of (i := 7) rfl rfl (by rfl) ?_
         refine zq tb rfl (AO.done ⟨rfl, ?_⟩)
         exact AX.weaken (Wk.to (L := [(2, (i64 p2)), (3, (ls eI p3)), (53, (.agg (eRDecl q35.1))), (54, (.bool q35.2))]) ⟨.rfl, .rfl, .rfl, .rfl, trivial⟩) (AX.lst (by kernel_rfl) ((hA36 _ _ _).1 A36_012345678)) rfl
        ·refine AXs.of (i := 9) rfl rfl (by rfl) ?_
         refine ao_alloc (m := 0) (st' := [⟨0, 97, 3, [[(i64 0), (i64 0), .zc]]⟩]) go0 zi97 rfl rfl (AO.done ⟨rfl, ?_⟩)
         exact AX.weaken (Wk.to (L := [(2, (i64 p2)), (3, (ls eI p3)), (12, (.ptr 0 0 0 0)), (46, (.tup [(.agg (eRDecl q35.1)), (.bool q35.2)])), (54, (.bool q35.2))]) ⟨.rfl, .rfl, .rfl, .rfl, .rfl, trivial⟩) (AX.lst (by kernel_rfl) ((hA36 _ _ _).1 A36_012345689)) rfl)
       have A36_01234569 : A36 4 #[true, true, true, true, true, true, true, false, false, true, false, false] ⟨149, envL [(2, (i64 p2)), (3, (ls eI p3)), (12, (.ptr 0 0 0 0)), (46, (.tup [(.agg (eRDecl q35.1)), (.bool q35.2)]))], [⟨0, 97, 3, [[(i64 0), (i64 0), .zc]]⟩]⟩ := (hA36 _ _ _).2 (by
        refine AX.all [7, 8] rfl (by kernel_rfl) (by decide) ⟨?_, ?_, trivial⟩
        ·refine AXs.of (i := 7) rfl rfl (by rfl) ?_
         refine zq tb rfl (AO.done ⟨rfl, ?_⟩)
         exact AX.weaken (Wk.to (L := [(2, (i64 p2)), (3, (ls eI p3)), (12, (.ptr 0 0 0 0)), (46, (.tup [(.agg (eRDecl q35.1)), (.bool q35.2)])), (53, (.agg (eRDecl q35.1)))]) ⟨.rfl, .rfl, .rfl, .rfl, .rfl, trivial⟩) (AX.lst (by kernel_rfl) ((hA36 _ _ _).1 A36_012345679)) rfl
        ·refine AXs.of (i := 8) rfl rfl (by rfl) ?_
         refine zq tb rfl (AO.done ⟨rfl, ?_⟩)
         exact AX.weaken (Wk.to (L := [(2, (i64 p2)), (3, (ls eI p3)), (12, (.ptr 0 0 0 0)), (46, (.tup [(.agg (eRDecl q35.1)), (.bool q35.2)])), (54, (.bool q35.2))]) ⟨.rfl, .rfl, .rfl, .rfl, .rfl, trivial⟩) (AX.lst (by kernel_rfl) ((hA36 _ _ _).1 A36_012345689)) rfl)
       have A36_0123456 : A36 5 #[true, true, true, true, true, true, true, false, false, false, false, false] ⟨149, envL [(2, (i64 p2)), (3, (ls eI p3)), (46, (.tup [(.agg (eRDecl q35.1)), (.bool q35.2)]))], []⟩ := (hA36 _ _ _).2 (by
        refine AX.all [7, 8, 9] rfl (by kernel_rfl) (by decide) ⟨?_, ?_, ?_, trivial⟩
        ·refine AXs.of (i := 7) rfl rfl (by rfl) ?_
         refine zq tb rfl (AO.done ⟨rfl, ?_⟩)
         exact AX.weaken (Wk.to (L := [(2, (i64 p2)), (3, (ls eI p3)), (46, (.tup [(.agg (eRDecl q35.1)), (.bool q35.2)])), (53, (.agg (eRDecl q35.1)))]) ⟨.rfl, .rfl, .rfl, .rfl, trivial⟩) (AX.lst (by kernel_rfl) ((hA36 _ _ _).1 A36_01234567)) rfl
        ·refine AXs.of (i := 8) rfl rfl (by rfl) ?_
         refine zq tb rfl (AO.done ⟨rfl, ?_⟩)
         exact AX.weaken (Wk.to (L := [(2, (i64 p2)), (3, (ls eI p3)), (46, (.tup [(.agg (eRDecl q35.1)), (.bool q35.2)])), (54, (.bool q35.2))]) ⟨.rfl, .rfl, .rfl, .rfl, trivial⟩) (AX.lst (by kernel_rfl) ((hA36 _ _ _).1 A36_01234568)) rfl
        ·refine AXs.of (i := 9) rfl rfl (by rfl) ?_
         refine ao_alloc (m := 0) (st' := [⟨0, 97, 3, [[(i64 0), (i64 0), .zc]]⟩]) go0 zi97 rfl rfl (AO.done ⟨rfl, ?_⟩)
         exact AX.weaken (Wk.to (L := [(2, (i64 p2)), (3, (ls eI p3)), (12, (.ptr 0 0 0 0)), (46, (.tup [(.agg (eRDecl q35.1)), (.bool q35.2)]))]) ⟨.rfl, .rfl, .rfl, .rfl, trivial⟩) (AX.lst (by kernel_rfl) ((hA36 _ _ _).1 A36_01234569)) rfl)
       have A36_012345 : A36 6 #[true, true, true, true, true, true, false, false, false, false, false, false] ⟨149, envL [(2, (i64 p2)), (3, (ls eI p3)), (52, (.tup [(.agg (eRDecl q35.1)), (.bool q35.2)]))], []⟩ := (hA36 _ _ _).2 (by
        refine AX.hoist 6 (v := (.tup [(.agg (eRDecl q35.1)), (.bool q35.2)])) rfl rfl (by kernel_rfl) (by kernel_rfl) (by kernel_rfl) rfl (hoist_mv rfl) ?_
        exact AX.weaken (Wk.to (L := [(2, (i64 p2)), (3, (ls eI p3)), (46, (.tup [(.agg (eRDecl q35.1)), (.bool q35.2)]))]) ⟨.rfl, .rfl, .rfl, trivial⟩) (AX.lst (by kernel_rfl) ((hA36 _ _ _).1 A36_0123456)) rfl)
       have A36_0123459 : A36 5 #[true, true, true, true, true, true, false, false, false, true, false, false] ⟨149, envL [(2, (i64 p2)), (3, (ls eI p3)), (12, (.ptr 0 0 0 0)), (52, (.tup [(.agg (eRDecl q35.1)), (.bool q35.2)]))], [⟨0, 97, 3, [[(i64 0), (i64 0), .zc]]⟩]⟩ := (hA36 _ _ _).2 (by
        refine AX.hoist 6 (v := (.tup [(.agg (eRDecl q35.1)), (.bool q35.2)])) rfl rfl (by kernel_rfl) (by kernel_rfl) (by kernel_rfl) rfl (hoist_mv rfl) ?_
        exact AX.weaken (Wk.to (L := [(2, (i64 p2)), (3, (ls eI p3)), (12, (.ptr 0 0 0 0)), (46, (.tup [(.agg (eRDecl q35.1)), (.bool q35.2)]))]) ⟨.rfl, .rfl, .rfl, .rfl, trivial⟩) (AX.lst (by kernel_rfl) ((hA36 _ _ _).1 A36_01234569)) rfl)
       have A36_012349 : A36 6 #[true, true, true, true, true, false, false, false, false, true, false, false] ⟨149, envL [(2, (i64 p2)), (3, (ls eI p3)), (12, (.ptr 0 0 0 0)), (48, (ls eRDecl p0.decls)), (51, (i64 c34))], [⟨0, 97, 3, [[(i64 0), (i64 0), .zc]]⟩]⟩ := (hA36 _ _ _).2 (by
        refine AX.all [5] rfl (by kernel_rfl) (by decide) ⟨?_, trivial⟩
        ·refine AXs.of (i := 5) rfl rfl (by rfl) ?_
         refine zc (v' := (.tup [(.agg (eRDecl q35.1)), (.bool q35.2)])) hb107 (impl_arrowAt_ok gq35) rfl rfl rfl (AO.done ⟨rfl, ?_⟩)
         exact AX.weaken (Wk.to (L := [(2, (i64 p2)), (3, (ls eI p3)), (12, (.ptr 0 0 0 0)), (52, (.tup [(.agg (eRDecl q35.1)), (.bool q35.2)]))]) ⟨.rfl, .rfl, .rfl, .rfl, trivial⟩) (AX.lst (by kernel_rfl) ((hA36 _ _ _).1 A36_0123459)) rfl)
       have A36_01234 : A36 7 #[true, true, true, true, true, false, false, false, false, false, false, false] ⟨149, envL [(2, (i64 p2)), (3, (ls eI p3)), (48, (ls eRDecl p0.decls)), (51, (i64 c34))], []⟩ := (hA36 _ _ _).2 (by
        refine AX.all [5, 9] rfl (by kernel_rfl) (by decide) ⟨?_, ?_, trivial⟩
        ·refine AXs.of (i := 5) rfl rfl (by rfl) ?_
         refine zc (v' := (.tup [(.agg (eRDecl q35.1)), (.bool q35.2)])) hb107 (impl_arrowAt_ok gq35) rfl rfl rfl (AO.done ⟨rfl, ?_⟩)
         exact AX.weaken (Wk.to (L := [(2, (i64 p2)), (3, (ls eI p3)), (52, (.tup [(.agg (eRDecl q35.1)), (.bool q35.2)]))]) ⟨.rfl, .rfl, .rfl, trivial⟩) (AX.lst (by kernel_rfl) ((hA36 _ _ _).1 A36_012345)) rfl
        ·refine AXs.of (i := 9) rfl rfl (by rfl) ?_
         refine ao_alloc (m := 0) (st' := [⟨0, 97, 3, [[(i64 0), (i64 0), .zc]]⟩]) go0 zi97 rfl rfl (AO.done ⟨rfl, ?_⟩)
         exact AX.weaken (Wk.to (L := [(2, (i64 p2)), (3, (ls eI p3)), (12, (.ptr 0 0 0 0)), (48, (ls eRDecl p0.decls)), (51, (i64 c34))]) ⟨.rfl, .rfl, .rfl, .rfl, .rfl, trivial⟩) (AX.lst (by kernel_rfl) ((hA36 _ _ _).1 A36_012349)) rfl)
       have A36_01239 : A36 7 #[true, true, true, true, false, false, false, false, false, true, false, false] ⟨149, envL [(2, (i64 p2)), (3, (ls eI p3)), (12, (.ptr 0 0 0 0)), (48, (ls eRDecl p0.decls)), (50, (.iptr (eI c34) 0))], [⟨0, 97, 3, [[(i64 0), (i64 0), .zc]]⟩]⟩ := (hA36 _ _ _).2 (by
        refine AX.all [4] rfl (by kernel_rfl) (by decide) ⟨?_, trivial⟩
        ·refine AXs.of (i := 4) rfl rfl (by rfl) ?_
         refine zq tb rfl (AO.done ⟨rfl, ?_⟩)
         exact AX.weaken (Wk.to (L := [(2, (i64 p2)), (3, (ls eI p3)), (12, (.ptr 0 0 0 0)), (48, (ls eRDecl p0.decls)), (51, (i64 c34))]) ⟨.rfl, .rfl, .rfl, .rfl, .rfl, trivial⟩) (AX.lst (by kernel_rfl) ((hA36 _ _ _).1 A36_012349)) rfl)
       have A36_0123 : A36 8 #[true, true, true, true, false, false, false, false, false, false, false, false] ⟨149, envL [(2, (i64 p2)), (3, (ls eI p3)), (48, (ls eRDecl p0.decls)), (50, (.iptr (eI c34) 0))], []⟩ := (hA36 _ _ _).2 (by
        refine AX.all [4, 9] rfl (by kernel_rfl) (by decide) ⟨?_, ?_, trivial⟩
        ·refine AXs.of (i := 4) rfl rfl (by rfl) ?_
         refine zq tb rfl (AO.done ⟨rfl, ?_⟩)
         exact AX.weaken (Wk.to (L := [(2, (i64 p2)), (3, (ls eI p3)), (48, (ls eRDecl p0.decls)), (51, (i64 c34))]) ⟨.rfl, .rfl, .rfl, .rfl, trivial⟩) (AX.lst (by kernel_rfl) ((hA36 _ _ _).1 A36_01234)) rfl
        ·refine AXs.of (i := 9) rfl rfl (by rfl) ?_
         refine ao_alloc (m := 0) (st' := [⟨0, 97, 3, [[(i64 0), (i64 0), .zc]]⟩]) go0 zi97 rfl rfl (AO.done ⟨rfl, ?_⟩)
         exact AX.weaken (Wk.to (L := [(2, (i64 p2)), (3, (ls eI p3)), (12, (.ptr 0 0 0 0)), (48, (ls eRDecl p0.decls)), (50, (.iptr (eI c34) 0))]) ⟨.rfl, .rfl, .rfl, .rfl, .rfl, trivial⟩) (AX.lst (by kernel_rfl) ((hA36 _ _ _).1 A36_01239)) rfl)
       have A36_0129 : A36 8 #[true, true, true, false, false, false, false, false, false, true, false, false] ⟨149, envL [(2, (i64 p2)), (3, (ls eI p3)), (12, (.ptr 0 0 0 0)), (48, (ls eRDecl p0.decls)), (49, (ls eI p3))], [⟨0, 97, 3, [[(i64 0), (i64 0), .zc]]⟩]⟩ := (hA36 _ _ _).2 (by
        refine AX.all [3] rfl (by kernel_rfl) (by decide) ⟨?_, trivial⟩
        ·refine AXs.of (i := 3) rfl rfl (by rfl) ?_
         refine zx ei22 gc34 rfl rfl rfl (AO.done ⟨rfl, ?_⟩)
         exact AX.weaken (Wk.to (L := [(2, (i64 p2)), (3, (ls eI p3)), (12, (.ptr 0 0 0 0)), (48, (ls eRDecl p0.decls)), (50, (.iptr (eI c34) 0))]) ⟨.rfl, .rfl, .rfl, .rfl, .rfl, trivial⟩) (AX.lst (by kernel_rfl) ((hA36 _ _ _).1 A36_01239)) rfl)
       have A36_012 : A36 9 #[true, true, true, false, false, false, false, false, false, false, false, false] ⟨149, envL [(2, (i64 p2)), (3, (ls eI p3)), (48, (ls eRDecl p0.decls)), (49, (ls eI p3))], []⟩ := (hA36 _ _ _).2 (by
        refine AX.all [3, 9] rfl (by kernel_rfl) (by decide) ⟨?_, ?_, trivial⟩
        ·refine AXs.of (i := 3) rfl rfl (by rfl) ?_
         refine zx ei22 gc34 rfl rfl rfl (AO.done ⟨rfl, ?_⟩)
         exact AX.weaken (Wk.to (L := [(2, (i64 p2)), (3, (ls eI p3)), (48, (ls eRDecl p0.decls)), (50, (.iptr (eI c34) 0))]) ⟨.rfl, .rfl, .rfl, .rfl, trivial⟩) (AX.lst (by kernel_rfl) ((hA36 _ _ _).1 A36_0123)) rfl
        ·refine AXs.of (i := 9) rfl rfl (by rfl) ?_
         refine ao_alloc (m := 0) (st' := [⟨0, 97, 3, [[(i64 0), (i64 0), .zc]]⟩]) go0 zi97 rfl rfl (AO.done ⟨rfl, ?_⟩)
         exact AX.weaken (Wk.to (L := [(2, (i64 p2)), (3, (ls eI p3)), (12, (.ptr 0 0 0 0)), (48, (ls eRDecl p0.decls)), (49, (ls eI p3))]) ⟨.rfl, .rfl, .rfl, .rfl, .rfl, trivial⟩) (AX.lst (by kernel_rfl) ((hA36 _ _ _).1 A36_0129)) rfl)
       have A36_02349 : A36 7 #[true, false, true, true, true, false, false, false, false, true, false, false] ⟨149, envL [(2, (i64 p2)), (3, (ls eI p3)), (12, (.ptr 0 0 0 0)), (47, (.ptr 1 0 0 0)), (51, (i64 c34))], [⟨0, 97, 3, [[(i64 0), (i64 0), .zc]]⟩, ⟨0, 102, 2, [(eRSignatures p0)]⟩]⟩ := (hA36 _ _ _).2 (by
        refine AX.all [1] rfl (by kernel_rfl) (by decide) ⟨?_, trivial⟩
        ·refine AXs.of (i := 1) rfl rfl (by rfl) ?_
         refine zq tb rfl (AO.done ⟨rfl, ?_⟩)
         exact AX.weaken (by refine Wk.trans (Wk.permk (L := [(2, (i64 p2)), (3, (ls eI p3)), (12, (.ptr 0 0 0 0)), (48, (ls eRDecl p0.decls)), (51, (i64 c34))]) (st' := [⟨0, 97, 3, [[(i64 0), (i64 0), .zc]]⟩]) (st1 := [⟨0, 97, 3, [[(i64 0), (i64 0), .zc]]⟩]) [0] rfl .nil (by decide) rfl rfl (.raw rfl rfl .nil) ⟨.rfl, .rfl, .rfl, .rfl, .rfl, trivial⟩) ?_; exact Wk.to (L := [(2, (i64 p2)), (3, (ls eI p3)), (12, (.ptr 0 0 0 0)), (48, (ls eRDecl p0.decls)), (51, (i64 c34))]) ⟨.rfl, .rfl, .rfl, .rfl, .rfl, trivial⟩) (AX.lst (by kernel_rfl) ((hA36 _ _ _).1 A36_012349)) rfl)
       have A36_0234 : A36 8 #[true, false, true, true, true, false, false, false, false, false, false, false] ⟨149, envL [(2, (i64 p2)), (3, (ls eI p3)), (47, (.ptr 0 0 0 0)), (51, (i64 c34))], [⟨0, 102, 2, [(eRSignatures p0)]⟩]⟩ := (hA36 _ _ _).2 (by
        refine AX.all [1, 9] rfl (by kernel_rfl) (by decide) ⟨?_, ?_, trivial⟩
        ·refine AXs.of (i := 1) rfl rfl (by rfl) ?_
         refine zq tb rfl (AO.done ⟨rfl, ?_⟩)
         exact AX.weaken (by refine Wk.trans (Wk.permk (L := [(2, (i64 p2)), (3, (ls eI p3)), (48, (ls eRDecl p0.decls)), (51, (i64 c34))]) (st' := []) (st1 := []) [] rfl .nil (by decide) rfl rfl .nil ⟨.rfl, .rfl, .rfl, .rfl, trivial⟩) ?_; exact Wk.to (L := [(2, (i64 p2)), (3, (ls eI p3)), (48, (ls eRDecl p0.decls)), (51, (i64 c34))]) ⟨.rfl, .rfl, .rfl, .rfl, trivial⟩) (AX.lst (by kernel_rfl) ((hA36 _ _ _).1 A36_01234)) rfl
        ·refine AXs.of (i := 9) rfl rfl (by rfl) ?_
         refine ao_alloc (m := 1) (st' := [⟨0, 102, 2, [(eRSignatures p0)]⟩, ⟨0, 97, 3, [[(i64 0), (i64 0), .zc]]⟩]) go0 zi97 rfl rfl (AO.done ⟨rfl, ?_⟩)
         exact AX.weaken (by refine Wk.trans (Wk.permk (L := [(2, (i64 p2)), (3, (ls eI p3)), (12, (.ptr 0 0 0 0)), (47, (.ptr 1 0 0 0)), (51, (i64 c34))]) (st' := [⟨0, 97, 3, [[(i64 0), (i64 0), .zc]]⟩, ⟨0, 102, 2, [(eRSignatures p0)]⟩]) (st1 := [⟨0, 97, 3, [[(i64 0), (i64 0), .zc]]⟩, ⟨0, 102, 2, [(eRSignatures p0)]⟩]) [1, 0] rfl .nil (by decide) rfl rfl (.raw rfl rfl (.raw rfl rfl .nil)) ⟨.rfl, .rfl, .rfl, .rfl, .rfl, trivial⟩) ?_; exact Wk.to (L := [(2, (i64 p2)), (3, (ls eI p3)), (12, (.ptr 0 0 0 0)), (47, (.ptr 1 0 0 0)), (51, (i64 c34))]) ⟨.rfl, .rfl, .rfl, .rfl, .rfl, trivial⟩) (AX.lst (by kernel_rfl) ((hA36 _ _ _).1 A36_02349)) rfl)
       have A36_0239 : A36 8 #[true, false, true, true, false, false, false, false, false, true, false, false] ⟨149, envL [(2, (i64 p2)), (3, (ls eI p3)), (12, (.ptr 0 0 0 0)), (47, (.ptr 1 0 0 0)), (50, (.iptr (eI c34) 0))], [⟨0, 97, 3, [[(i64 0), (i64 0), .zc]]⟩, ⟨0, 102, 2, [(eRSignatures p0)]⟩]⟩ := (hA36 _ _ _).2 (by
        refine AX.all [1, 4] rfl (by kernel_rfl) (by decide) ⟨?_, ?_, trivial⟩
        ·refine AXs.of (i := 1) rfl rfl (by rfl) ?_
         refine zq tb rfl (AO.done ⟨rfl, ?_⟩)
         exact AX.weaken (by refine Wk.trans (Wk.permk (L := [(2, (i64 p2)), (3, (ls eI p3)), (12, (.ptr 0 0 0 0)), (48, (ls eRDecl p0.decls)), (50, (.iptr (eI c34) 0))]) (st' := [⟨0, 97, 3, [[(i64 0), (i64 0), .zc]]⟩]) (st1 := [⟨0, 97, 3, [[(i64 0), (i64 0), .zc]]⟩]) [0] rfl .nil (by decide) rfl rfl (.raw rfl rfl .nil) ⟨.rfl, .rfl, .rfl, .rfl, .rfl, trivial⟩) ?_; exact Wk.to (L := [(2, (i64 p2)), (3, (ls eI p3)), (12, (.ptr 0 0 0 0)), (48, (ls eRDecl p0.decls)), (50, (.iptr (eI c34) 0))]) ⟨.rfl, .rfl, .rfl, .rfl, .rfl, trivial⟩) (AX.lst (by kernel_rfl) ((hA36 _ _ _).1 A36_01239)) rfl
        ·refine AXs.of (i := 4) rfl rfl (by rfl) ?_
         refine zq tb rfl (AO.done ⟨rfl, ?_⟩)
         exact AX.weaken (Wk.to (L := [(2, (i64 p2)), (3, (ls eI p3)), (12, (.ptr 0 0 0 0)), (47, (.ptr 1 0 0 0)), (51, (i64 c34))]) ⟨.rfl, .rfl, .rfl, .rfl, .rfl, trivial⟩) (AX.lst (by kernel_rfl) ((hA36 _ _ _).1 A36_02349)) rfl)
       have A36_023 : A36 9 #[true, false, true, true, false, false, false, false, false, false, false, false] ⟨149, envL [(2, (i64 p2)), (3, (ls eI p3)), (47, (.ptr 0 0 0 0)), (50, (.iptr (eI c34) 0))], [⟨0, 102, 2, [(eRSignatures p0)]⟩]⟩ := (hA36 _ _ _).2 (by
        refine AX.all [1, 4, 9] rfl (by kernel_rfl) (by decide) ⟨?_, ?_, ?_, trivial⟩
        ·refine AXs.of (i := 1) rfl rfl (by rfl) ?_
         refine zq tb rfl (AO.done ⟨rfl, ?_⟩)
         exact AX.weaken (by refine Wk.trans (Wk.permk (L := [(2, (i64 p2)), (3, (ls eI p3)), (48, (ls eRDecl p0.decls)), (50, (.iptr (eI c34) 0))]) (st' := []) (st1 := []) [] rfl .nil (by decide) rfl rfl .nil ⟨.rfl, .rfl, .rfl, .rfl, trivial⟩) ?_; exact Wk.to (L := [(2, (i64 p2)), (3, (ls eI p3)), (48, (ls eRDecl p0.decls)), (50, (.iptr (eI c34) 0))]) ⟨.rfl, .rfl, .rfl, .rfl, trivial⟩) (AX.lst (by kernel_rfl) ((hA36 _ _ _).1 A36_0123)) rfl
        ·refine AXs.of (i := 4) rfl rfl (by rfl) ?_
         refine zq tb rfl (AO.done ⟨rfl, ?_⟩)
         exact AX.weaken (Wk.to (L := [(2, (i64 p2)), (3, (ls eI p3)), (47, (.ptr 0 0 0 0)), (51, (i64 c34))]) ⟨.rfl, .rfl, .rfl, .rfl, trivial⟩) (AX.lst (by kernel_rfl) ((hA36 _ _ _).1 A36_0234)) rfl
        ·refine AXs.of (i := 9) rfl rfl (by rfl) ?_
         refine ao_alloc (m := 1) (st' := [⟨0, 102, 2, [(eRSignatures p0)]⟩, ⟨0, 97, 3, [[(i64 0), (i64 0), .zc]]⟩]) go0 zi97 rfl rfl (AO.done ⟨rfl, ?_⟩)
         exact AX.weaken (by refine Wk.trans (Wk.permk (L := [(2, (i64 p2)), (3, (ls eI p3)), (12, (.ptr 0 0 0 0)), (47, (.ptr 1 0 0 0)), (50, (.iptr (eI c34) 0))]) (st' := [⟨0, 97, 3, [[(i64 0), (i64 0), .zc]]⟩, ⟨0, 102, 2, [(eRSignatures p0)]⟩]) (st1 := [⟨0, 97, 3, [[(i64 0), (i64 0), .zc]]⟩, ⟨0, 102, 2, [(eRSignatures p0)]⟩]) [1, 0] rfl .nil (by decide) rfl rfl (.raw rfl rfl (.raw rfl rfl .nil)) ⟨.rfl, .rfl, .rfl, .rfl, .rfl, trivial⟩) ?_; exact Wk.to (L := [(2, (i64 p2)), (3, (ls eI p3)), (12, (.ptr 0 0 0 0)), (47, (.ptr 1 0 0 0)), (50, (.iptr (eI c34) 0))]) ⟨.rfl, .rfl, .rfl, .rfl, .rfl, trivial⟩) (AX.lst (by kernel_rfl) ((hA36 _ _ _).1 A36_0239)) rfl)
       have A36_029 : A36 9 #[true, false, true, false, false, false, false, false, false, true, false, false] ⟨149, envL [(2, (i64 p2)), (3, (ls eI p3)), (12, (.ptr 0 0 0 0)), (47, (.ptr 1 0 0 0)), (49, (ls eI p3))], [⟨0, 97, 3, [[(i64 0), (i64 0), .zc]]⟩, ⟨0, 102, 2, [(eRSignatures p0)]⟩]⟩ := (hA36 _ _ _).2 (by
        refine AX.all [1, 3] rfl (by kernel_rfl) (by decide) ⟨?_, ?_, trivial⟩
        ·refine AXs.of (i := 1) rfl rfl (by rfl) ?_
         refine zq tb rfl (AO.done ⟨rfl, ?_⟩)
         exact AX.weaken (by refine Wk.trans (Wk.permk (L := [(2, (i64 p2)), (3, (ls eI p3)), (12, (.ptr 0 0 0 0)), (48, (ls eRDecl p0.decls)), (49, (ls eI p3))]) (st' := [⟨0, 97, 3, [[(i64 0), (i64 0), .zc]]⟩]) (st1 := [⟨0, 97, 3, [[(i64 0), (i64 0), .zc]]⟩]) [0] rfl .nil (by decide) rfl rfl (.raw rfl rfl .nil) ⟨.rfl, .rfl, .rfl, .rfl, .rfl, trivial⟩) ?_; exact Wk.to (L := [(2, (i64 p2)), (3, (ls eI p3)), (12, (.ptr 0 0 0 0)), (48, (ls eRDecl p0.decls)), (49, (ls eI p3))]) ⟨.rfl, .rfl, .rfl, .rfl, .rfl, trivial⟩) (AX.lst (by kernel_rfl) ((hA36 _ _ _).1 A36_0129)) rfl
        ·refine AXs.of (i := 3) rfl rfl (by rfl) ?_
         refine zx ei22 gc34 rfl rfl rfl (AO.done ⟨rfl, ?_⟩)
         exact AX.weaken (Wk.to (L := [(2, (i64 p2)), (3, (ls eI p3)), (12, (.ptr 0 0 0 0)), (47, (.ptr 1 0 0 0)), (50, (.iptr (eI c34) 0))]) ⟨.rfl, .rfl, .rfl, .rfl, .rfl, trivial⟩) (AX.lst (by kernel_rfl) ((hA36 _ _ _).1 A36_0239)) rfl)
       have A36_02 : A36 10 #[true, false, true, false, false, false, false, false, false, false, false, false] ⟨149, envL [(2, (i64 p2)), (3, (ls eI p3)), (47, (.ptr 0 0 0 0)), (49, (ls eI p3))], [⟨0, 102, 2, [(eRSignatures p0)]⟩]⟩ := (hA36 _ _ _).2 (by
        refine AX.all [1, 3, 9] rfl (by kernel_rfl) (by decide) ⟨?_, ?_, ?_, trivial⟩
        ·refine AXs.of (i := 1) rfl rfl (by rfl) ?_
         refine zq tb rfl (AO.done ⟨rfl, ?_⟩)
         exact AX.weaken (by refine Wk.trans (Wk.permk (L := [(2, (i64 p2)), (3, (ls eI p3)), (48, (ls eRDecl p0.decls)), (49, (ls eI p3))]) (st' := []) (st1 := []) [] rfl .nil (by decide) rfl rfl .nil ⟨.rfl, .rfl, .rfl, .rfl, trivial⟩) ?_; exact Wk.to (L := [(2, (i64 p2)), (3, (ls eI p3)), (48, (ls eRDecl p0.decls)), (49, (ls eI p3))]) ⟨.rfl, .rfl, .rfl, .rfl, trivial⟩) (AX.lst (by kernel_rfl) ((hA36 _ _ _).1 A36_012)) rfl
        ·refine AXs.of (i := 3) rfl rfl (by rfl) ?_
         refine zx ei22 gc34 rfl rfl rfl (AO.done ⟨rfl, ?_⟩)
         exact AX.weaken (Wk.to (L := [(2, (i64 p2)), (3, (ls eI p3)), (47, (.ptr 0 0 0 0)), (50, (.iptr (eI c34) 0))]) ⟨.rfl, .rfl, .rfl, .rfl, trivial⟩) (AX.lst (by kernel_rfl) ((hA36 _ _ _).1 A36_023)) rfl
        ·refine AXs.of (i := 9) rfl rfl (by rfl) ?_
         refine ao_alloc (m := 1) (st' := [⟨0, 102, 2, [(eRSignatures p0)]⟩, ⟨0, 97, 3, [[(i64 0), (i64 0), .zc]]⟩]) go0 zi97 rfl rfl (AO.done ⟨rfl, ?_⟩)
         exact AX.weaken (by refine Wk.trans (Wk.permk (L := [(2, (i64 p2)), (3, (ls eI p3)), (12, (.ptr 0 0 0 0)), (47, (.ptr 1 0 0 0)), (49, (ls eI p3))]) (st' := [⟨0, 97, 3, [[(i64 0), (i64 0), .zc]]⟩, ⟨0, 102, 2, [(eRSignatures p0)]⟩]) (st1 := [⟨0, 97, 3, [[(i64 0), (i64 0), .zc]]⟩, ⟨0, 102, 2, [(eRSignatures p0)]⟩]) [1, 0] rfl .nil (by decide) rfl rfl (.raw rfl rfl (.raw rfl rfl .nil)) ⟨.rfl, .rfl, .rfl, .rfl, .rfl, trivial⟩) ?_; exact Wk.to (L := [(2, (i64 p2)), (3, (ls eI p3)), (12, (.ptr 0 0 0 0)), (47, (.ptr 1 0 0 0)), (49, (ls eI p3))]) ⟨.rfl, .rfl, .rfl, .rfl, .rfl, trivial⟩) (AX.lst (by kernel_rfl) ((hA36 _ _ _).1 A36_029)) rfl)
       have A36_2349 : A36 8 #[false, false, true, true, true, false, false, false, false, true, false, false] ⟨149, envL [(2, (i64 p2)), (3, (ls eI p3)), (4, (.ptr 0 0 0 0)), (12, (.ptr 1 0 0 0)), (51, (i64 c34))], [⟨0, 102, 2, [(eRSignatures p0)]⟩, ⟨0, 97, 3, [[(i64 0), (i64 0), .zc]]⟩]⟩ := (hA36 _ _ _).2 (by
        refine AX.all [0] rfl (by kernel_rfl) (by decide) ⟨?_, trivial⟩
        ·refine AXs.of (i := 0) rfl rfl (by rfl) ?_
         refine zq tb rfl (AO.done ⟨rfl, ?_⟩)
         exact AX.weaken (by refine Wk.trans (Wk.permk (L := [(2, (i64 p2)), (3, (ls eI p3)), (12, (.ptr 0 0 0 0)), (47, (.ptr 1 0 0 0)), (51, (i64 c34))]) (st' := [⟨0, 97, 3, [[(i64 0), (i64 0), .zc]]⟩, ⟨0, 102, 2, [(eRSignatures p0)]⟩]) (st1 := [⟨0, 97, 3, [[(i64 0), (i64 0), .zc]]⟩, ⟨0, 102, 2, [(eRSignatures p0)]⟩]) [1, 0] rfl .nil (by decide) rfl rfl (.raw rfl rfl (.raw rfl rfl .nil)) ⟨.rfl, .rfl, .rfl, .rfl, .rfl, trivial⟩) ?_; exact Wk.to (L := [(2, (i64 p2)), (3, (ls eI p3)), (12, (.ptr 0 0 0 0)), (47, (.ptr 1 0 0 0)), (51, (i64 c34))]) ⟨.rfl, .rfl, .rfl, .rfl, .rfl, trivial⟩) (AX.lst (by kernel_rfl) ((hA36 _ _ _).1 A36_02349)) rfl)
       have A36_234 : A36 9 #[false, false, true, true, true, false, false, false, false, false, false, false] ⟨149, envL [(2, (i64 p2)), (3, (ls eI p3)), (4, (.ptr 0 0 0 0)), (51, (i64 c34))], [⟨0, 102, 2, [(eRSignatures p0)]⟩]⟩ := (hA36 _ _ _).2 (by
        refine AX.all [0, 9] rfl (by kernel_rfl) (by decide) ⟨?_, ?_, trivial⟩
        ·refine AXs.of (i := 0) rfl rfl (by rfl) ?_
         refine zq tb rfl (AO.done ⟨rfl, ?_⟩)
         exact AX.weaken (Wk.to (L := [(2, (i64 p2)), (3, (ls eI p3)), (47, (.ptr 0 0 0 0)), (51, (i64 c34))]) ⟨.rfl, .rfl, .rfl, .rfl, trivial⟩) (AX.lst (by kernel_rfl) ((hA36 _ _ _).1 A36_0234)) rfl
        ·refine AXs.of (i := 9) rfl rfl (by rfl) ?_
         refine ao_alloc (m := 1) (st' := [⟨0, 102, 2, [(eRSignatures p0)]⟩, ⟨0, 97, 3, [[(i64 0), (i64 0), .zc]]⟩]) go0 zi97 rfl rfl (AO.done ⟨rfl, ?_⟩)
         exact AX.weaken (Wk.to (L := [(2, (i64 p2)), (3, (ls eI p3)), (4, (.ptr 0 0 0 0)), (12, (.ptr 1 0 0 0)), (51, (i64 c34))]) ⟨.rfl, .rfl, .rfl, .rfl, .rfl, trivial⟩) (AX.lst (by kernel_rfl) ((hA36 _ _ _).1 A36_2349)) rfl)
       have A36_239 : A36 9 #[false, false, true, true, false, false, false, false, false, true, false, false] ⟨149, envL [(2, (i64 p2)), (3, (ls eI p3)), (4, (.ptr 0 0 0 0)), (12, (.ptr 1 0 0 0)), (50, (.iptr (eI c34) 0))], [⟨0, 102, 2, [(eRSignatures p0)]⟩, ⟨0, 97, 3, [[(i64 0), (i64 0), .zc]]⟩]⟩ := (hA36 _ _ _).2 (by
        refine AX.all [0, 4] rfl (by kernel_rfl) (by decide) ⟨?_, ?_, trivial⟩
        ·refine AXs.of (i := 0) rfl rfl (by rfl) ?_
         refine zq tb rfl (AO.done ⟨rfl, ?_⟩)
         exact AX.weaken (by refine Wk.trans (Wk.permk (L := [(2, (i64 p2)), (3, (ls eI p3)), (12, (.ptr 0 0 0 0)), (47, (.ptr 1 0 0 0)), (50, (.iptr (eI c34) 0))]) (st' := [⟨0, 97, 3, [[(i64 0), (i64 0), .zc]]⟩, ⟨0, 102, 2, [(eRSignatures p0)]⟩]) (st1 := [⟨0, 97, 3, [[(i64 0), (i64 0), .zc]]⟩, ⟨0, 102, 2, [(eRSignatures p0)]⟩]) [1, 0] rfl .nil (by decide) rfl rfl (.raw rfl rfl (.raw rfl rfl .nil)) ⟨.rfl, .rfl, .rfl, .rfl, .rfl, trivial⟩) ?_; exact Wk.to (L := [(2, (i64 p2)), (3, (ls eI p3)), (12, (.ptr 0 0 0 0)), (47, (.ptr 1 0 0 0)), (50, (.iptr (eI c34) 0))]) ⟨.rfl, .rfl, .rfl, .rfl, .rfl, trivial⟩) (AX.lst (by kernel_rfl) ((hA36 _ _ _).1 A36_0239)) rfl
        ·refine AXs.of (i := 4) rfl rfl (by rfl) ?_
         refine zq tb rfl (AO.done ⟨rfl, ?_⟩)
         exact AX.weaken (Wk.to (L := [(2, (i64 p2)), (3, (ls eI p3)), (4, (.ptr 0 0 0 0)), (12, (.ptr 1 0 0 0)), (51, (i64 c34))]) ⟨.rfl, .rfl, .rfl, .rfl, .rfl, trivial⟩) (AX.lst (by kernel_rfl) ((hA36 _ _ _).1 A36_2349)) rfl)
       have A36_23 : A36 10 #[false, false, true, true, false, false, false, false, false, false, false, false] ⟨149, envL [(2, (i64 p2)), (3, (ls eI p3)), (4, (.ptr 0 0 0 0)), (50, (.iptr (eI c34) 0))], [⟨0, 102, 2, [(eRSignatures p0)]⟩]⟩ := (hA36 _ _ _).2 (by
        refine AX.all [0, 4, 9] rfl (by kernel_rfl) (by decide) ⟨?_, ?_, ?_, trivial⟩
        ·refine AXs.of (i := 0) rfl rfl (by rfl) ?_
         refine zq tb rfl (AO.done ⟨rfl, ?_⟩)
         exact AX.weaken (Wk.to (L := [(2, (i64 p2)), (3, (ls eI p3)), (47, (.ptr 0 0 0 0)), (50, (.iptr (eI c34) 0))]) ⟨.rfl, .rfl, .rfl, .rfl, trivial⟩) (AX.lst (by kernel_rfl) ((hA36 _ _ _).1 A36_023)) rfl
        ·refine AXs.of (i := 4) rfl rfl (by rfl) ?_
         refine zq tb rfl (AO.done ⟨rfl, ?_⟩)
         exact AX.weaken (Wk.to (L := [(2, (i64 p2)), (3, (ls eI p3)), (4, (.ptr 0 0 0 0)), (51, (i64 c34))]) ⟨.rfl, .rfl, .rfl, .rfl, trivial⟩) (AX.lst (by kernel_rfl) ((hA36 _ _ _).1 A36_234)) rfl
        ·refine AXs.of (i := 9) rfl rfl (by rfl) ?_
         refine ao_alloc (m := 1) (st' := [⟨0, 102, 2, [(eRSignatures p0)]⟩, ⟨0, 97, 3, [[(i64 0), (i64 0), .zc]]⟩]) go0 zi97 rfl rfl (AO.done ⟨rfl, ?_⟩)
         exact AX.weaken (Wk.to (L := [(2, (i64 p2)), (3, (ls eI p3)), (4, (.ptr 0 0 0 0)), (12, (.ptr 1 0 0 0)), (50, (.iptr (eI c34) 0))]) ⟨.rfl, .rfl, .rfl, .rfl, .rfl, trivial⟩) (AX.lst (by kernel_rfl) ((hA36 _ _ _).1 A36_239)) rfl)
       have A36_29 : A36 10 #[false, false, true, false, false, false, false, false, false, true, false, false] ⟨149, envL [(2, (i64 p2)), (3, (ls eI p3)), (4, (.ptr 0 0 0 0)), (12, (.ptr 1 0 0 0)), (49, (ls eI p3))], [⟨0, 102, 2, [(eRSignatures p0)]⟩, ⟨0, 97, 3, [[(i64 0), (i64 0), .zc]]⟩]⟩ := (hA36 _ _ _).2 (by
        refine AX.all [0, 3] rfl (by kernel_rfl) (by decide) ⟨?_, ?_, trivial⟩
        ·refine AXs.of (i := 0) rfl rfl (by rfl) ?_
         refine zq tb rfl (AO.done ⟨rfl, ?_⟩)
         exact AX.weaken (by refine Wk.trans (Wk.permk (L := [(2, (i64 p2)), (3, (ls eI p3)), (12, (.ptr 0 0 0 0)), (47, (.ptr 1 0 0 0)), (49, (ls eI p3))]) (st' := [⟨0, 97, 3, [[(i64 0), (i64 0), .zc]]⟩, ⟨0, 102, 2, [(eRSignatures p0)]⟩]) (st1 := [⟨0, 97, 3, [[(i64 0), (i64 0), .zc]]⟩, ⟨0, 102, 2, [(eRSignatures p0)]⟩]) [1, 0] rfl .nil (by decide) rfl rfl (.raw rfl rfl (.raw rfl rfl .nil)) ⟨.rfl, .rfl, .rfl, .rfl, .rfl, trivial⟩) ?_; exact Wk.to (L := [(2, (i64 p2)), (3, (ls eI p3)), (12, (.ptr 0 0 0 0)), (47, (.ptr 1 0 0 0)), (49, (ls eI p3))]) ⟨.rfl, .rfl, .rfl, .rfl, .rfl, trivial⟩) (AX.lst (by kernel_rfl) ((hA36 _ _ _).1 A36_029)) rfl
        ·refine AXs.of (i := 3) rfl rfl (by rfl) ?_
         refine zx ei22 gc34 rfl rfl rfl (AO.done ⟨rfl, ?_⟩)
         exact AX.weaken (Wk.to (L := [(2, (i64 p2)), (3, (ls eI p3)), (4, (.ptr 0 0 0 0)), (12, (.ptr 1 0 0 0)), (50, (.iptr (eI c34) 0))]) ⟨.rfl, .rfl, .rfl, .rfl, .rfl, trivial⟩) (AX.lst (by kernel_rfl) ((hA36 _ _ _).1 A36_239)) rfl)
       have A36_2 : A36 11 #[false, false, true, false, false, false, false, false, false, false, false, false] ⟨149, envL [(2, (i64 p2)), (3, (ls eI p3)), (4, (.ptr 0 0 0 0)), (49, (ls eI p3))], [⟨0, 102, 2, [(eRSignatures p0)]⟩]⟩ := (hA36 _ _ _).2 (by
        refine AX.all [0, 3, 9] rfl (by kernel_rfl) (by decide) ⟨?_, ?_, ?_, trivial⟩
        ·refine AXs.of (i := 0) rfl rfl (by rfl) ?_
         refine zq tb rfl (AO.done ⟨rfl, ?_⟩)
         exact AX.weaken (Wk.to (L := [(2, (i64 p2)), (3, (ls eI p3)), (47, (.ptr 0 0 0 0)), (49, (ls eI p3))]) ⟨.rfl, .rfl, .rfl, .rfl, trivial⟩) (AX.lst (by kernel_rfl) ((hA36 _ _ _).1 A36_02)) rfl
        ·refine AXs.of (i := 3) rfl rfl (by rfl) ?_
         refine zx ei22 gc34 rfl rfl rfl (AO.done ⟨rfl, ?_⟩)
         exact AX.weaken (Wk.to (L := [(2, (i64 p2)), (3, (ls eI p3)), (4, (.ptr 0 0 0 0)), (50, (.iptr (eI c34) 0))]) ⟨.rfl, .rfl, .rfl, .rfl, trivial⟩) (AX.lst (by kernel_rfl) ((hA36 _ _ _).1 A36_23)) rfl
        ·refine AXs.of (i := 9) rfl rfl (by rfl) ?_
         refine ao_alloc (m := 1) (st' := [⟨0, 102, 2, [(eRSignatures p0)]⟩, ⟨0, 97, 3, [[(i64 0), (i64 0), .zc]]⟩]) go0 zi97 rfl rfl (AO.done ⟨rfl, ?_⟩)
         exact AX.weaken (Wk.to (L := [(2, (i64 p2)), (3, (ls eI p3)), (4, (.ptr 0 0 0 0)), (12, (.ptr 1 0 0 0)), (49, (ls eI p3))]) ⟨.rfl, .rfl, .rfl, .rfl, .rfl, trivial⟩) (AX.lst (by kernel_rfl) ((hA36 _ _ _).1 A36_29)) rfl)
       have A36_e : A36 12 #[false, false, false, false, false, false, false, false, false, false, false, false] ⟨149, envL [(2, (i64 p2)), (3, (ls eI p3)), (4, (.ptr 0 0 0 0))], [⟨0, 102, 2, [(eRSignatures p0)]⟩]⟩ := (hA36 _ _ _).2 (by
        refine AX.hoist 2 (v := (ls eI p3)) rfl rfl (by kernel_rfl) (by kernel_rfl) (by kernel_rfl) rfl (hoist_mv rfl) ?_
        exact AX.weaken (Wk.to (L := [(2, (i64 p2)), (3, (ls eI p3)), (4, (.ptr 0 0 0 0)), (49, (ls eI p3))]) ⟨.rfl, .rfl, .rfl, .rfl, trivial⟩) (AX.lst (by kernel_rfl) ((hA36 _ _ _).1 A36_2)) rfl)
       refine (hA36 _ _ _).2 ?_
       exact AX.weaken (Wk.to (L := [(2, (i64 p2)), (3, (ls eI p3)), (4, (.ptr 0 0 0 0))]) ⟨.rfl, .rfl, .rfl, trivial⟩) (AX.lst (by kernel_rfl) ((hA36 _ _ _).1 A36_e)) rfl
     ·intro b26 h1
      refine zr tb rfl rfl ?_
      refine ci h1 rfl ?_ ?_ <;> clear h1
      ·intro b38 h1
       refine sr rfl fun K39 hK39 => zm tb 3 rfl (bs h1 fun q40 gq40 h1 => zc (v' := (.tup [(i64 q40.1), (.agg (eRCon q40.2))])) hb130 (impl_conAt_ok gq40) rfl rfl rfl (zm tb 3 rfl (ao_alloc (m := 1) (st' := [⟨0, 102, 2, [(eRSignatures p0)]⟩, ⟨0, 152, 1, [[.zc]]⟩]) go0 zi152 rfl rfl (zq tb rfl (ao_str (st' := [⟨0, 102, 2, [(eRSignatures p0)]⟩, ⟨0, 152, 1, [(eRCon q40.2)]⟩]) go0 ti152 rfl rfl rfl rfl rfl rfl (show 0 + 1 ≤ 1 by decide) rfl (dn hK39 rfl (AW.seq fun K41 hK41 => bs h1 fun o43 h2 h1 => ?_)))))))
       have M43 : ∀ (t42 : Bool), o43 = t42 → ∀ s, Wk 0 s ⟨149, envL [(8, (i64 q40.1)), (9, (.bool t42))], []⟩ → K41 s := by
        intro t42 hq s hw
        subst o43
        try dsimp only at h1
        refine hK41 _ (AW.weaken hw ?_)
        replace h1 := Sh.some_eq h1
        subst o5
        try dsimp only [id] at h0
        replace h0 := Sh.some_eq h0
        subst r
        exact AW.ret (xr (Wk.to (L := [(8, (i64 q40.1)), (9, (.bool t42))]) ⟨.rfl, .rfl, trivial⟩))
       refine AW.regionO rfl (zm tb 4 rfl ?_)
       rcases Sh.ite_some h2 with ⟨b44, h2⟩ | ⟨b44, h2⟩
       ·exact zg tb b44 rfl (zg tb b44 rfl (zg tb b44 rfl (bs h2 fun q45 gq45 h2 => zd b44 hb131 (slices_Equal_int_int_ok gq45) rfl rfl rfl rfl (zt b44 rfl (zm tb 2 rfl (AO.done (M43 q45 (Sh.some_eq h2).symm _ (Wk.d0 _ rfl))))))))
       ·refine zs b44 rfl ?_
        iterate 3 refine zs b44 rfl ?_
        exact zf b44 rfl (zm tb 2 rfl (AO.done (M43 false (Sh.some_eq h2).symm _ (Wk.d0 _ rfl))))
      ·intro b38 h1
       refine AW.seq fun K46 hK46 => bs h1 fun o48 h2 h1 => ?_
       have M48 : ∀ (t47 : Bool), o48 = t47 → ∀ s, Wk 0 s ⟨149, envL [(1, (i64 p1)), (2, (i64 p2)), (3, (ls eI p3)), (4, (.ptr 0 0 0 0)), (88, (.bool t47))], [⟨0, 102, 2, [(eRSignatures p0)]⟩]⟩ → K46 s := by
        intro t47 hq s hw
        subst o48
        try dsimp only at h1
        refine hK46 _ (AW.weaken hw ?_)
        refine ci h1 rfl ?_ ?_ <;> clear h1
        ·intro b49 h1
         refine AW.seq fun K50 hK50 => AW.seq fun K51 hK51 => bs h1 fun o53 h2 h1 => ?_
         have M53 : ∀ (t52 : Bool), o53 = t52 → ∀ s, Wk 0 s ⟨149, envL [(1, (i64 p1)), (2, (i64 p2)), (3, (ls eI p3)), (4, (.ptr 0 0 0 0)), (99, (.bool t52))], [⟨0, 102, 2, [(eRSignatures p0)]⟩]⟩ → K51 s := by
          intro t52 hq s hw
          subst o53
          try dsimp only at h1
          refine hK51 _ (AW.weaken hw ?_)
          refine ci h1 rfl ?_ ?_ <;> clear h1
          ·intro b54 h1
           refine zr tb rfl rfl ?_
           replace h1 := Sh.some_eq h1
           subst o5
           try dsimp only [id] at h0
           replace h0 := Sh.some_eq h0
           subst r
           exact AW.ret (xr (Wk.d0 [(8, (i64 (-1))), (9, (.bool false))] rfl))
          ·intro b54 h1
           refine AW.skip (hK50 _ (AW.seq fun K56 hK56 => ?_))
           refine AW.draw (by kernel_rfl) (by kernel_rfl) (by rfl) ?_
           iterate 3 refine yq tb rfl ?_
           refine bs h1 fun c57 gc57 h1 => yx ei100 gc57 rfl rfl rfl ?_
           iterate 5 refine yq tb rfl ?_
           refine yx ei100 gc57 rfl rfl rfl ?_
           iterate 4 refine yq tb rfl ?_
           refine d_done (hK56 _ (AW.seq fun K58 hK58 => zr tb rfl rfl ?_))
           refine ci h1 rfl ?_ ?_ <;> clear h1
           ·intro b60 h1
            refine sr rfl fun K61 hK61 => zm tb 3 rfl (bs h1 fun q62 gq62 h1 => zc hb131 (slices_Equal_int_int_ok gq62) rfl rfl rfl (zm tb 2 rfl (dn hK61 rfl ?_)))
            replace h1 := Sh.some_eq h1
            subst o5
            try dsimp only [id] at h0
            replace h0 := Sh.some_eq h0
            subst r
            exact AW.ret (xr (Wk.d0 [(8, (i64 c57.result)), (9, (.bool q62))] rfl))
           ·intro b60 h1
            refine AW.skip (hK58 _ (sr rfl fun K63 hK63 => zq tb rfl (zl tb rfl rfl (zm tb 2 rfl (dn hK63 rfl (AW.seq fun K64 hK64 => zr tb rfl rfl ?_))))))
            refine ci h1 rfl ?_ ?_ <;> clear h1
            ·intro b66 h1
             refine zr tb rfl rfl ?_
             replace h1 := Sh.some_eq h1
             subst o5
             try dsimp only [id] at h0
             replace h0 := Sh.some_eq h0
             subst r
             exact AW.ret (xr (Wk.d0 [(8, (i64 (-1))), (9, (.bool false))] rfl))
            ·intro b66 h1
             refine AW.skip (hK64 _ (AW.seq fun K68 hK68 => ?_))
             refine AW.draw (by kernel_rfl) (by kernel_rfl) (by rfl) ?_
             iterate 4 refine yq tb rfl ?_
             refine bs h1 fun c69 gc69 h1 => yx ei22 gc69 rfl rfl rfl ?_
             iterate 2 refine yq tb rfl ?_
             refine bs h1 fun q70 gq70 h1 => d_call (v := (i64 q70)) go0 hb132 (impl_arrowOf_ok gq70) rfl rfl rfl (yq tb rfl (d_done (hK68 _ (AW.seq fun K71 hK71 => bs h1 fun o73 h2 h1 => ?_))))
             have M73 : ∀ (t72 : Bool), o73 = t72 → ∀ s, Wk 0 s ⟨149, envL [(8, (i64 q70)), (9, (.bool t72))], []⟩ → K71 s := by
              intro t72 hq s hw
              subst o73
              try dsimp only at h1
              refine hK71 _ (AW.weaken hw ?_)
              replace h1 := Sh.some_eq h1
              subst o5
              try dsimp only [id] at h0
              replace h0 := Sh.some_eq h0
              subst r
              exact AW.ret (xr (Wk.to (L := [(8, (i64 q70)), (9, (.bool t72))]) ⟨.rfl, .rfl, trivial⟩))
             refine AW.regionO rfl (zm tb 4 rfl ?_)
             rcases Sh.ite_some h2 with ⟨b74, h2⟩ | ⟨b74, h2⟩
             ·exact zg tb b74 rfl (zg tb b74 rfl (zg tb b74 rfl (bs h2 fun l75 gl75 h2 => ao_sls (i := 0) (j := Sh.w ((Sh.len c57.params) - 1)) (go1 rfl rfl b74) ei22 rfl rfl rfl (fun _ => rfl) gl75 (bs h2 fun q76 gq76 h2 => zd b74 hb131 (slices_Equal_int_int_ok gq76) rfl rfl rfl rfl (zt b74 rfl (zm tb 2 rfl (AO.done (M73 q76 (Sh.some_eq h2).symm _ (Wk.d0 _ rfl)))))))))
             ·refine zs b74 rfl ?_
              iterate 4 refine zs b74 rfl ?_
              exact zf b74 rfl (zm tb 2 rfl (AO.done (M73 false (Sh.some_eq h2).symm _ (Wk.d0 _ rfl))))
         refine AW.regionO rfl (zm tb 3 rfl ?_)
         rcases Sh.ite_some h2 with ⟨b77, h2⟩ | ⟨b77, h2⟩
         ·refine zs b77 rfl ?_
          iterate 4 refine zs b77 rfl ?_
          exact zt b77 rfl (AO.done (M53 true (Sh.some_eq h2).symm _ (Wk.tr rfl)))
         ·exact zg tb b77 rfl (zg tb b77 rfl (zg tb b77 rfl (ao_q (v := (i64 (Sh.len p0.funcs))) (go1 rfl rfl b77) rfl (aq_lens sl100 rfl) (zg tb b77 rfl (zf b77 rfl (AO.done (M53 (decide ((Sh.len p0.funcs) ≤ p2)) (Sh.some_eq h2).symm _ (Wk.tr rfl))))))))
        ·intro b49 h1
         refine zr tb rfl rfl ?_
         replace h1 := Sh.some_eq h1
         subst o5
         try dsimp only [id] at h0
         replace h0 := Sh.some_eq h0
         subst r
         exact AW.ret (xr (Wk.d0 [(8, (i64 (-1))), (9, (.bool false))] rfl))
       refine zr tb rfl rfl ?_
       refine ci h2 rfl ?_ ?_ <;> clear h2
       ·intro b80 h2
        exact AW.skip (M48 true (Sh.some_eq h2).symm _ (Wk.to (L := [(1, (i64 p1)), (2, (i64 p2)), (3, (ls eI p3)), (4, (.ptr 0 0 0 0)), (88, (.bool true))]) ⟨.rfl, .rfl, .rfl, .rfl, (.of (congrArg AV.bool b80)), trivial⟩))
       ·intro b80 h2
        exact AW.regionO rfl (zm tb 2 rfl (AO.done (M48 (decide (p1 = 10)) (Sh.some_eq h2).symm _ (Wk.tr rfl))))
  refine zr tb rfl rfl ?_
  refine ci h2 rfl ?_ ?_ <;> clear h2
  ·intro b82 h2
   exact AW.skip (M21 true (Sh.some_eq h2).symm _ (Wk.to (L := [(1, (i64 p1)), (2, (i64 p2)), (3, (ls eI p3)), (4, (.ptr 0 0 0 0)), (11, (i64 0)), (18, (i64 p1)), (32, (.bool true))]) ⟨.rfl, .rfl, .rfl, .rfl, .rfl, .rfl, (.of (congrArg AV.bool b82)), trivial⟩))
  ·intro b82 h2
   refine zr tb rfl rfl ?_
   refine ci h2 rfl ?_ ?_ <;> clear h2
   ·intro b84 h2
    exact AW.skip (M21 true (Sh.some_eq h2).symm _ (Wk.to (L := [(1, (i64 p1)), (2, (i64 p2)), (3, (ls eI p3)), (4, (.ptr 0 0 0 0)), (11, (i64 0)), (18, (i64 p1)), (32, (.bool true))]) ⟨.rfl, .rfl, .rfl, .rfl, .rfl, .rfl, (.of (congrArg AV.bool b84)), trivial⟩))
   ·intro b84 h2
    refine zr tb rfl rfl ?_
    refine ci h2 rfl ?_ ?_ <;> clear h2
    ·intro b86 h2
     exact AW.skip (M21 true (Sh.some_eq h2).symm _ (Wk.to (L := [(1, (i64 p1)), (2, (i64 p2)), (3, (ls eI p3)), (4, (.ptr 0 0 0 0)), (11, (i64 0)), (18, (i64 p1)), (32, (.bool true))]) ⟨.rfl, .rfl, .rfl, .rfl, .rfl, .rfl, (.of (congrArg AV.bool b86)), trivial⟩))
    ·intro b86 h2
     exact AW.regionO rfl (zm tb 2 rfl (AO.done (M21 (decide (p1 = 4)) (Sh.some_eq h2).symm _ (Wk.tr rfl))))
theorem impl_signatures_stepType_ok {N : Nat} {rec_impl_signatures_blockType : RSignatures → (List Int) → Block → Option (Int)} (hrec_impl_signatures_blockType : ∀ {p0 : RSignatures} {p1 : (List Int)} {p2 : Block} {r : Int}, rec_impl_signatures_blockType p0 p1 p2 = some r → ACalls Try.prog 58 [(.agg (eRSignatures p0)), (ls eI p1), (.agg [(ls eStep p2.steps), (i64 p2.result)])] [] (fun v st => v = (i64 r) ∧ st = [])) {p0 : RSignatures} {p1 : (List Int)} {p2 : Step} {r : Int × Bool} (h0 : impl_signatures_stepType N rec_impl_signatures_blockType p0 p1 p2 = some r) : ACalls Try.prog 82 [(.agg (eRSignatures p0)), (ls eI p1), (.agg [(i64 p2.op), (i64 p2.num), (i64 p2.into), (ls eI p2.args), (ls eBlock p2.kids)])] [] (fun v st => v = (.tup [(i64 r.1), (.bool r.2)]) ∧ st = []) := by
 unfold impl_signatures_stepType at h0
 refine ai Try.func82 rfl rfl rfl rfl (sr rfl fun K1 hK1 => ao_box (m := 0) (st' := [⟨0, 102, 2, [(eRSignatures p0)]⟩]) go0 rfl rfl rfl rfl rfl (ao_box (m := 1) (st' := [⟨0, 102, 2, [(eRSignatures p0)]⟩, ⟨0, 110, 5, [[(i64 p2.op), (i64 p2.num), (i64 p2.into), (ls eI p2.args), (ls eBlock p2.kids)]]⟩]) go0 rfl rfl rfl rfl rfl (zm tb 2 rfl (dn hK1 rfl (sr rfl fun K2 hK2 => zm tb 2 rfl (zl tb rfl rfl (bs h0 fun l3 gl3 h0 => ao_make0v (m := 2) (st' := [⟨0, 102, 2, [(eRSignatures p0)]⟩, ⟨0, 110, 5, [[(i64 p2.op), (i64 p2.num), (i64 p2.into), (ls eI p2.args), (ls eBlock p2.kids)]]⟩, (ro 0 3 1 eI ([] : List Int))]) ei22 rfl rfl gl3 rfl rfl (zq tb rfl ?_))))))))
 refine dn hK2 rfl (AW.seq fun K4 hK4 => sr rfl fun K5 hK5 => zm tb 2 rfl (zl tb rfl rfl (zq tb rfl (dn hK5 rfl ?_))))
 obtain ⟨o9, h1, h0⟩ := Sh.cont_some h0
 have M9 : ∀ (l8 : (List Int)), o9 = Sum.inr l8 → ∀ s, Wk 0 s ⟨233, envL [(1, (ls eI p1)), (3, (.ptr 0 0 0 0)), (5, (.ptr 1 0 0 0)), (8, (ow 2 0 l8))], [⟨0, 102, 2, [(eRSignatures p0)]⟩, ⟨0, 110, 5, [[(i64 p2.op), (i64 p2.num), (i64 p2.into), (ls eI p2.args), (ls eBlock p2.kids)]]⟩, (ro 0 3 1 eI l8)]⟩ → K4 s := by
  intro l8 hq s hw
  subst o9
  try dsimp only at h0
  refine hK4 _ (AW.weaken hw (AW.seq fun K10 hK10 => AW.seq fun K11 hK11 => bs h0 fun o13 h1 h0 => ?_))
  have M13 : ∀ (t12 : Bool), o13 = t12 → ∀ s, Wk 0 s ⟨233, envL [(1, (ls eI p1)), (3, (.ptr 0 0 0 0)), (5, (.ptr 1 0 0 0)), (8, (ow 2 0 l8)), (70, (.bool t12))], [⟨0, 102, 2, [(eRSignatures p0)]⟩, ⟨0, 110, 5, [[(i64 p2.op), (i64 p2.num), (i64 p2.into), (ls eI p2.args), (ls eBlock p2.kids)]]⟩, (ro 0 3 1 eI l8)]⟩ → K11 s := by
   intro t12 hq s hw
   subst o13
   try dsimp only at h0
   refine hK11 _ (AW.weaken hw ?_)
   refine ci h0 rfl ?_ ?_ <;> clear h0
   ·intro b14 h0
    refine zr tb rfl rfl ?_
    replace h0 := Sh.some_eq h0
    subst r
    exact AW.ret (xr (Wk.d0 [(6, (i64 (-1))), (7, (.bool false))] rfl))
   ·intro b14 h0
    refine AW.skip (hK10 _ (AW.seq fun K16 hK16 => AW.block (sr rfl fun K17 hK17 => zm tb 2 rfl (bs h0 fun q18 gq18 h0 => zc hb61 (impl_isCounting_ok gq18) rfl rfl rfl (zq tb rfl (dn hK17 rfl ?_))))))
    refine ci h0 rfl ?_ ?_ <;> clear h0
    ·intro b19 h0
     refine AW.seq fun K20 hK20 => bs h0 fun o22 h1 h0 => ?_
     have M22 : ∀ (ok21 : Bool), o22 = ok21 → ∀ s, Wk 0 s ⟨233, envL [(3, (.ptr 0 0 0 0)), (5, (.ptr 1 0 0 0)), (8, (ow 2 0 l8)), (11, (.bool ok21))], [⟨0, 102, 2, [(eRSignatures p0)]⟩, ⟨0, 110, 5, [[(i64 p2.op), (i64 p2.num), (i64 p2.into), (ls eI p2.args), (ls eBlock p2.kids)]]⟩, (ro 0 3 1 eI l8)]⟩ → K20 s := by
      intro ok21 hq s hw
      subst o22
      try dsimp only at h0
      refine hK20 _ (AW.weaken hw (AW.seq fun K23 hK23 => bs h0 fun o25 h1 h0 => ?_))
      have M25 : ∀ (ok24 : Bool), o25 = ok24 → ∀ s, Wk 0 s ⟨233, envL [(11, (.bool ok24))], []⟩ → K23 s := by
       intro ok24 hq s hw
       subst o25
       try dsimp only at h0
       refine hK23 _ (AW.weaken hw (zr tb rfl rfl ?_))
       replace h0 := Sh.some_eq h0
       subst r
       exact AW.ret (xr (Wk.to (L := [(6, (i64 (-1))), (7, (.bool ok24))]) ⟨.rfl, .rfl, trivial⟩))
      refine AW.seq fun K27 hK27 => bs h1 fun o29 h2 h1 => ?_
      have M29 : ∀ (t28 : Bool), o29 = t28 → ∀ s, Wk 0 s ⟨233, envL [(3, (.ptr 0 0 0 0)), (8, (ow 1 0 l8)), (11, (.bool ok21)), (105, (.bool t28))], [⟨0, 102, 2, [(eRSignatures p0)]⟩, (ro 0 3 1 eI l8)]⟩ → K27 s := by
       intro t28 hq s hw
       subst o29
       try dsimp only at h1
       refine hK27 _ (AW.weaken hw ?_)
       refine ci h1 rfl ?_ ?_ <;> clear h1
       ·intro b30 h1
        refine AW.seq fun K31 hK31 => ?_
        refine AW.drawX (by kernel_rfl) ?_
        refine bs h1 fun c32 gc32 h1 => bs h1 fun q33 gq33 h1 => AX.one fun A34 hA34 => ?_
        have A34_0123456789ab : A34 0 #[true, true, true, true, true, true, true, true, true, true, true, true] ⟨233, envL [(13, (.bool q33.2))], []⟩ := (hA34 _ _ _).2 (by
         refine AX.done rfl (by kernel_rfl) ?_
         exact hK31 _ (AW.regionO rfl (zm tb 3 rfl (AO.done (M25 (!q33.2) (Sh.some_eq h1).symm _ (Wk.to (L := [(11, (.bool (!q33.2)))]) ⟨.rfl, trivial⟩))))))
        have A34_0123456789a : A34 1 #[true, true, true, true, true, true, true, true, true, true, true, false] ⟨233, envL [(114, (.bool q33.2))], []⟩ := (hA34 _ _ _).2 (by
         refine AX.hoist 11 (v := (.bool q33.2)) rfl rfl (by kernel_rfl) (by kernel_rfl) (by kernel_rfl) rfl (hoist_as rfl) ?_
         exact AX.weaken (Wk.to (L := [(13, (.bool q33.2))]) ⟨.rfl, trivial⟩) (AX.lst (by kernel_rfl) ((hA34 _ _ _).1 A34_0123456789ab)) rfl)
        have A34_0123456789 : A34 2 #[true, true, true, true, true, true, true, true, true, true, false, false] ⟨233, envL [(12, (.ptr 0 0 0 0)), (113, (.agg (eRDecl q33.1))), (114, (.bool q33.2))], [⟨0, 97, 3, [[(i64 0), (i64 0), .zc]]⟩]⟩ := (hA34 _ _ _).2 (by
         refine AX.all [10] rfl (by kernel_rfl) (by decide) ⟨?_, trivial⟩
         ·refine AXs.of (i := 10) rfl rfl (by rfl) ?_
          refine ao_str (st' := [⟨0, 97, 3, [(eRDecl q33.1)]⟩]) go0 ti97 rfl rfl rfl rfl rfl rfl (show 0 + 3 ≤ 3 by decide) rfl (AO.done ⟨rfl, ?_⟩)
          exact AX.weaken (by refine Wk.trans (Wk.permk (L := [(114, (.bool q33.2))]) (st' := []) (st1 := []) [] rfl .nil (by decide) rfl rfl .nil ⟨.rfl, trivial⟩) ?_; exact Wk.to (L := [(114, (.bool q33.2))]) ⟨.rfl, trivial⟩) (AX.lst (by kernel_rfl) ((hA34 _ _ _).1 A34_0123456789a)) rfl)
        have A34_012345678 : A34 3 #[true, true, true, true, true, true, true, true, true, false, false, false] ⟨233, envL [(113, (.agg (eRDecl q33.1))), (114, (.bool q33.2))], []⟩ := (hA34 _ _ _).2 (by
         refine AX.all [9] rfl (by kernel_rfl) (by decide) ⟨?_, trivial⟩
         ·refine AXs.of (i := 9) rfl rfl (by rfl) ?_
          refine ao_alloc (m := 0) (st' := [⟨0, 97, 3, [[(i64 0), (i64 0), .zc]]⟩]) go0 zi97 rfl rfl (AO.done ⟨rfl, ?_⟩)
          exact AX.weaken (Wk.to (L := [(12, (.ptr 0 0 0 0)), (113, (.agg (eRDecl q33.1))), (114, (.bool q33.2))]) ⟨.rfl, .rfl, .rfl, trivial⟩) (AX.lst (by kernel_rfl) ((hA34 _ _ _).1 A34_0123456789)) rfl)
        have A34_012345679a : A34 2 #[true, true, true, true, true, true, true, true, false, true, true, false] ⟨233, envL [(106, (.tup [(.agg (eRDecl q33.1)), (.bool q33.2)]))], []⟩ := (hA34 _ _ _).2 (by
         refine AX.all [8] rfl (by kernel_rfl) (by decide) ⟨?_, trivial⟩
         ·refine AXs.of (i := 8) rfl rfl (by rfl) ?_
          refine zq tb rfl (AO.done ⟨rfl, ?_⟩)
          exact AX.weaken (Wk.to (L := [(114, (.bool q33.2))]) ⟨.rfl, trivial⟩) (AX.lst (by kernel_rfl) ((hA34 _ _ _).1 A34_0123456789a)) rfl)
        have A34_012345679 : A34 3 #[true, true, true, true, true, true, true, true, false, true, false, false] ⟨233, envL [(12, (.ptr 0 0 0 0)), (106, (.tup [(.agg (eRDecl q33.1)), (.bool q33.2)])), (113, (.agg (eRDecl q33.1)))], [⟨0, 97, 3, [[(i64 0), (i64 0), .zc]]⟩]⟩ := (hA34 _ _ _).2 (by
         refine AX.all [8, 10] rfl (by kernel_rfl) (by decide) ⟨?_, ?_, trivial⟩
         ·refine AXs.of (i := 8) rfl rfl (by rfl) ?_
          refine zq tb rfl (AO.done ⟨rfl, ?_⟩)
          exact AX.weaken (Wk.to (L := [(12, (.ptr 0 0 0 0)), (113, (.agg (eRDecl q33.1))), (114, (.bool q33.2))]) ⟨.rfl, .rfl, .rfl, trivial⟩) (AX.lst (by kernel_rfl) ((hA34 _ _ _).1 A34_0123456789)) rfl
         ·refine AXs.of (i := 10) rfl rfl (by rfl) ?_
          refine ao_str (st' := [⟨0, 97, 3, [(eRDecl q33.1)]⟩]) go0 ti97 rfl rfl rfl rfl rfl rfl (show 0 + 3 ≤ 3 by decide) rfl (AO.done ⟨rfl, ?_⟩)
          exact AX.weaken (by refine Wk.trans (Wk.permk (L := [(106, (.tup [(.agg (eRDecl q33.1)), (.bool q33.2)]))]) (st' := []) (st1 := []) [] rfl .nil (by decide) rfl rfl .nil ⟨.rfl, trivial⟩) ?_; exact Wk.to (L := [(106, (.tup [(.agg (eRDecl q33.1)), (.bool q33.2)]))]) ⟨.rfl, trivial⟩) (AX.lst (by kernel_rfl) ((hA34 _ _ _).1 A34_012345679a)) rfl)
        have A34_01234567 : A34 4 #[true, true, true, true, true, true, true, true, false, false, false, false] ⟨233, envL [(106, (.tup [(.agg (eRDecl q33.1)), (.bool q33.2)])), (113, (.agg (eRDecl q33.1)))], []⟩ := (hA34 _ _ _).2 (by
         refine AX.all [8, 9] rfl (by kernel_rfl) (by decide) ⟨?_, ?_, trivial⟩
         ·refine AXs.of (i := 8) rfl rfl (by rfl) ?_
          refine zq tb rfl (AO.done ⟨rfl, ?_⟩)
          exact AX.weaken (Wk.to (L := [(113, (.agg (eRDecl q33.1))), (114, (.bool q33.2))]) ⟨.rfl, .rfl, trivial⟩) (AX.lst (by kernel_rfl) ((hA34 _ _ _).1 A34_012345678)) rfl
         ·refine AXs.of (i := 9) rfl rfl (by rfl) ?_
          refine ao_alloc (m := 0) (st' := [⟨0, 97, 3, [[(i64 0), (i64 0), .zc]]⟩]) go0 zi97 rfl rfl (AO.done ⟨rfl, ?_⟩)
          exact AX.weaken (Wk.to (L := [(12, (.ptr 0 0 0 0)), (106, (.tup [(.agg (eRDecl q33.1)), (.bool q33.2)])), (113, (.agg (eRDecl q33.1)))]) ⟨.rfl, .rfl, .rfl, trivial⟩) (AX.lst (by kernel_rfl) ((hA34 _ _ _).1 A34_012345679)) rfl)
        have A34_012345689 : A34 3 #[true, true, true, true, true, true, true, false, true, true, false, false] ⟨233, envL [(12, (.ptr 0 0 0 0)), (106, (.tup [(.agg (eRDecl q33.1)), (.bool q33.2)])), (114, (.bool q33.2))], [⟨0, 97, 3, [[(i64 0), (i64 0), .zc]]⟩]⟩ := (hA34 _ _ _).2 (by
         refine AX.all [7] rfl (by kernel_rfl) (by decide) ⟨?_, trivial⟩
         ·refine AXs.of (i := 7) rfl rfl (by rfl) ?_
          refine zq tb rfl (AO.done ⟨rfl, ?_⟩)
          exact AX.weaken (Wk.to (L := [(12, (.ptr 0 0 0 0)), (113, (.agg (eRDecl q33.1))), (114, (.bool q33.2))]) ⟨.rfl, .rfl, .rfl, trivial⟩) (AX.lst (by kernel_rfl) ((hA34 _ _ _).1 A34_0123456789)) rfl)
        have A34_01234568 : A34 4 #[true, true, true, true, true, true, true, false, true, false, false, false] ⟨233, envL [(106, (.tup [(.agg (eRDecl q33.1)), (.bool q33.2)])), (114, (.bool q33.2))], []⟩ := (hA34 _ _ _).2 (by
         refine AX.all [7, 9] rfl (by kernel_rfl) (by decide) ⟨?_, ?_, trivial⟩
         ·refine AXs.of (i := 7) rfl rfl (by rfl) ?_
          refine zq tb rfl (AO.done ⟨rfl, ?_⟩)
          exact AX.weaken (Wk.to (L := [(113, (.agg (eRDecl q33.1))), (114, (.bool q33.2))]) ⟨.rfl, .rfl, trivial⟩) (AX.lst (by kernel_rfl) ((hA34 _ _ _).1 A34_012345678)) rfl
         ·refine AXs.of (i := 9) rfl rfl (by rfl) ?_
          refine ao_alloc (m := 0) (st' := [⟨0, 97, 3, [[(i64 0), (i64 0), .zc]]⟩]) go0 zi97 rfl rfl (AO.done ⟨rfl, ?_⟩)
          exact AX.weaken (Wk.to (L := [(12, (.ptr 0 0 0 0)), (106, (.tup [(.agg (eRDecl q33.1)), (.bool q33.2)])), (114, (.bool q33.2))]) ⟨.rfl, .rfl, .rfl, trivial⟩) (AX.lst (by kernel_rfl) ((hA34 _ _ _).1 A34_012345689)) rfl)
        have A34_01234569 : A34 4 #[true, true, true, true, true, true, true, false, false, true, false, false] ⟨233, envL [(12, (.ptr 0 0 0 0)), (106, (.tup [(.agg (eRDecl q33.1)), (.bool q33.2)]))], [⟨0, 97, 3, [[(i64 0), (i64 0), .zc]]⟩]⟩ := (hA34 _ _ _).2 (by
         refine AX.all [7, 8] rfl (by kernel_rfl) (by decide) ⟨?_, ?_, trivial⟩
         ·refine AXs.of (i := 7) rfl rfl (by rfl) ?_
          refine zq tb rfl (AO.done ⟨rfl, ?_⟩)
          exact AX.weaken (Wk.to (L := [(12, (.ptr 0 0 0 0)), (106, (.tup [(.agg (eRDecl q33.1)), (.bool q33.2)])), (113, (.agg (eRDecl q33.1)))]) ⟨.rfl, .rfl, .rfl, trivial⟩) (AX.lst (by kernel_rfl) ((hA34 _ _ _).1 A34_012345679)) rfl
         ·refine AXs.of (i := 8) rfl rfl (by rfl) ?_
          refine zq tb rfl (AO.done ⟨rfl, ?_⟩)
          exact AX.weaken (Wk.to (L := [(12, (.ptr 0 0 0 0)), (106, (.tup [(.agg (eRDecl q33.1)), (.bool q33.2)])), (114, (.bool q33.2))]) ⟨.rfl, .rfl, .rfl, trivial⟩) (AX.lst (by kernel_rfl) ((hA34 _ _ _).1 A34_012345689)) rfl)
        have A34_0123456 : A34 5 #[true, true, true, true, true, true, true, false, false, false, false, false] ⟨233, envL [(106, (.tup [(.agg (eRDecl q33.1)), (.bool q33.2)]))], []⟩ := (hA34 _ _ _).2 (by
         refine AX.all [7, 8, 9] rfl (by kernel_rfl) (by decide) ⟨?_, ?_, ?_, trivial⟩
         ·refine AXs.of (i := 7) rfl rfl (by rfl) ?_
          refine zq tb rfl (AO.done ⟨rfl, ?_⟩)
          exact AX.weaken (Wk.to (L := [(106, (.tup [(.agg (eRDecl q33.1)), (.bool q33.2)])), (113, (.agg (eRDecl q33.1)))]) ⟨.rfl, .rfl, trivial⟩) (AX.lst (by kernel_rfl) ((hA34 _ _ _).1 A34_01234567)) rfl
         ·refine AXs.of (i := 8) rfl rfl (by rfl) ?_
          refine zq tb rfl (AO.done ⟨rfl, ?_⟩)
          exact AX.weaken (Wk.to (L := [(106, (.tup [(.agg (eRDecl q33.1)), (.bool q33.2)])), (114, (.bool q33.2))]) ⟨.rfl, .rfl, trivial⟩) (AX.lst (by kernel_rfl) ((hA34 _ _ _).1 A34_01234568)) rfl
         ·refine AXs.of (i := 9) rfl rfl (by rfl) ?_
          refine ao_alloc (m := 0) (st' := [⟨0, 97, 3, [[(i64 0), (i64 0), .zc]]⟩]) go0 zi97 rfl rfl (AO.done ⟨rfl, ?_⟩)
          exact AX.weaken (Wk.to (L := [(12, (.ptr 0 0 0 0)), (106, (.tup [(.agg (eRDecl q33.1)), (.bool q33.2)]))]) ⟨.rfl, .rfl, trivial⟩) (AX.lst (by kernel_rfl) ((hA34 _ _ _).1 A34_01234569)) rfl)
        have A34_012345 : A34 6 #[true, true, true, true, true, true, false, false, false, false, false, false] ⟨233, envL [(112, (.tup [(.agg (eRDecl q33.1)), (.bool q33.2)]))], []⟩ := (hA34 _ _ _).2 (by
         refine AX.hoist 6 (v := (.tup [(.agg (eRDecl q33.1)), (.bool q33.2)])) rfl rfl (by kernel_rfl) (by kernel_rfl) (by kernel_rfl) rfl (hoist_mv rfl) ?_
         exact AX.weaken (Wk.to (L := [(106, (.tup [(.agg (eRDecl q33.1)), (.bool q33.2)]))]) ⟨.rfl, trivial⟩) (AX.lst (by kernel_rfl) ((hA34 _ _ _).1 A34_0123456)) rfl)
        have A34_0123459 : A34 5 #[true, true, true, true, true, true, false, false, false, true, false, false] ⟨233, envL [(12, (.ptr 0 0 0 0)), (112, (.tup [(.agg (eRDecl q33.1)), (.bool q33.2)]))], [⟨0, 97, 3, [[(i64 0), (i64 0), .zc]]⟩]⟩ := (hA34 _ _ _).2 (by
         refine AX.hoist 6 (v := (.tup [(.agg (eRDecl q33.1)), (.bool q33.2)])) rfl rfl (by kernel_rfl) (by kernel_rfl) (by kernel_rfl) rfl (hoist_mv rfl) ?_
         exact AX.weaken (Wk.to (L := [(12, (.ptr 0 0 0 0)), (106, (.tup [(.agg (eRDecl q33.1)), (.bool q33.2)]))]) ⟨.rfl, .rfl, trivial⟩) (AX.lst (by kernel_rfl) ((hA34 _ _ _).1 A34_01234569)) rfl)
        have A34_012349 : A34 6 #[true, true, true, true, true, false, false, false, false, true, false, false] ⟨233, envL [(12, (.ptr 0 0 0 0)), (108, (ls eRDecl p0.decls)), (111, (i64 c32))], [⟨0, 97, 3, [[(i64 0), (i64 0), .zc]]⟩]⟩ := (hA34 _ _ _).2 (by
         refine AX.all [5] rfl (by kernel_rfl) (by decide) ⟨?_, trivial⟩
         ·refine AXs.of (i := 5) rfl rfl (by rfl) ?_
          refine zc (v' := (.tup [(.agg (eRDecl q33.1)), (.bool q33.2)])) hb107 (impl_arrowAt_ok gq33) rfl rfl rfl (AO.done ⟨rfl, ?_⟩)
          exact AX.weaken (Wk.to (L := [(12, (.ptr 0 0 0 0)), (112, (.tup [(.agg (eRDecl q33.1)), (.bool q33.2)]))]) ⟨.rfl, .rfl, trivial⟩) (AX.lst (by kernel_rfl) ((hA34 _ _ _).1 A34_0123459)) rfl)
        have A34_01234 : A34 7 #[true, true, true, true, true, false, false, false, false, false, false, false] ⟨233, envL [(108, (ls eRDecl p0.decls)), (111, (i64 c32))], []⟩ := (hA34 _ _ _).2 (by
         refine AX.all [5, 9] rfl (by kernel_rfl) (by decide) ⟨?_, ?_, trivial⟩
         ·refine AXs.of (i := 5) rfl rfl (by rfl) ?_
          refine zc (v' := (.tup [(.agg (eRDecl q33.1)), (.bool q33.2)])) hb107 (impl_arrowAt_ok gq33) rfl rfl rfl (AO.done ⟨rfl, ?_⟩)
          exact AX.weaken (Wk.to (L := [(112, (.tup [(.agg (eRDecl q33.1)), (.bool q33.2)]))]) ⟨.rfl, trivial⟩) (AX.lst (by kernel_rfl) ((hA34 _ _ _).1 A34_012345)) rfl
         ·refine AXs.of (i := 9) rfl rfl (by rfl) ?_
          refine ao_alloc (m := 0) (st' := [⟨0, 97, 3, [[(i64 0), (i64 0), .zc]]⟩]) go0 zi97 rfl rfl (AO.done ⟨rfl, ?_⟩)
          exact AX.weaken (Wk.to (L := [(12, (.ptr 0 0 0 0)), (108, (ls eRDecl p0.decls)), (111, (i64 c32))]) ⟨.rfl, .rfl, .rfl, trivial⟩) (AX.lst (by kernel_rfl) ((hA34 _ _ _).1 A34_012349)) rfl)
        have A34_01239 : A34 7 #[true, true, true, true, false, false, false, false, false, true, false, false] ⟨233, envL [(12, (.ptr 0 0 0 0)), (108, (ls eRDecl p0.decls)), (110, (.ptr 1 0 (Int.toNat 0) 0))], [⟨0, 97, 3, [[(i64 0), (i64 0), .zc]]⟩, (ro 0 3 1 eI l8)]⟩ := (hA34 _ _ _).2 (by
         refine AX.all [4] rfl (by kernel_rfl) (by decide) ⟨?_, trivial⟩
         ·refine AXs.of (i := 4) rfl rfl (by rfl) ?_
          refine zz (i64 c32) (aq_ldp ti3 rfl rfl (map_get gc32) rfl) rfl (AO.done ⟨rfl, ?_⟩)
          exact AX.weaken (by refine Wk.trans (Wk.permk (L := [(12, (.ptr 0 0 0 0)), (108, (ls eRDecl p0.decls)), (111, (i64 c32))]) (st' := [⟨0, 97, 3, [[(i64 0), (i64 0), .zc]]⟩]) (st1 := [⟨0, 97, 3, [[(i64 0), (i64 0), .zc]]⟩]) [0] rfl .nil (by decide) rfl rfl (.raw rfl rfl .nil) ⟨.rfl, .rfl, .rfl, trivial⟩) ?_; exact Wk.to (L := [(12, (.ptr 0 0 0 0)), (108, (ls eRDecl p0.decls)), (111, (i64 c32))]) ⟨.rfl, .rfl, .rfl, trivial⟩) (AX.lst (by kernel_rfl) ((hA34 _ _ _).1 A34_012349)) rfl)
        have A34_0123 : A34 8 #[true, true, true, true, false, false, false, false, false, false, false, false] ⟨233, envL [(108, (ls eRDecl p0.decls)), (110, (.ptr 0 0 (Int.toNat 0) 0))], [(ro 0 3 1 eI l8)]⟩ := (hA34 _ _ _).2 (by
         refine AX.all [4, 9] rfl (by kernel_rfl) (by decide) ⟨?_, ?_, trivial⟩
         ·refine AXs.of (i := 4) rfl rfl (by rfl) ?_
          refine zz (i64 c32) (aq_ldp ti3 rfl rfl (map_get gc32) rfl) rfl (AO.done ⟨rfl, ?_⟩)
          exact AX.weaken (by refine Wk.trans (Wk.permk (L := [(108, (ls eRDecl p0.decls)), (111, (i64 c32))]) (st' := []) (st1 := []) [] rfl .nil (by decide) rfl rfl .nil ⟨.rfl, .rfl, trivial⟩) ?_; exact Wk.to (L := [(108, (ls eRDecl p0.decls)), (111, (i64 c32))]) ⟨.rfl, .rfl, trivial⟩) (AX.lst (by kernel_rfl) ((hA34 _ _ _).1 A34_01234)) rfl
         ·refine AXs.of (i := 9) rfl rfl (by rfl) ?_
          refine ao_alloc (m := 1) (st' := [(ro 0 3 1 eI l8), ⟨0, 97, 3, [[(i64 0), (i64 0), .zc]]⟩]) go0 zi97 rfl rfl (AO.done ⟨rfl, ?_⟩)
          exact AX.weaken (by refine Wk.trans (Wk.permk (L := [(12, (.ptr 0 0 0 0)), (108, (ls eRDecl p0.decls)), (110, (.ptr 1 0 (Int.toNat 0) 0))]) (st' := [⟨0, 97, 3, [[(i64 0), (i64 0), .zc]]⟩, (ro 0 3 1 eI l8)]) (st1 := [⟨0, 97, 3, [[(i64 0), (i64 0), .zc]]⟩, (ro 0 3 1 eI l8)]) [1, 0] rfl .nil (by decide) rfl rfl (.raw rfl rfl (.pure (pure_map fun _ => rfl) .nil)) ⟨.rfl, .rfl, .rfl, trivial⟩) ?_; exact Wk.to (L := [(12, (.ptr 0 0 0 0)), (108, (ls eRDecl p0.decls)), (110, (.ptr 1 0 (Int.toNat 0) 0))]) ⟨.rfl, .rfl, .rfl, trivial⟩) (AX.lst (by kernel_rfl) ((hA34 _ _ _).1 A34_01239)) rfl)
        have A34_0129 : A34 8 #[true, true, true, false, false, false, false, false, false, true, false, false] ⟨233, envL [(12, (.ptr 0 0 0 0)), (108, (ls eRDecl p0.decls)), (109, (ow 1 0 l8))], [⟨0, 97, 3, [[(i64 0), (i64 0), .zc]]⟩, (ro 0 3 1 eI l8)]⟩ := (hA34 _ _ _).2 (by
         refine AX.all [3] rfl (by kernel_rfl) (by decide) ⟨?_, trivial⟩
         ·refine AXs.of (i := 3) rfl rfl (by rfl) ?_
          refine zz (.ptr 1 0 (Int.toNat 0) 0) (aq_ixo ei22 rfl rfl rfl rfl gc32) rfl (AO.done ⟨rfl, ?_⟩)
          exact AX.weaken (Wk.to (L := [(12, (.ptr 0 0 0 0)), (108, (ls eRDecl p0.decls)), (110, (.ptr 1 0 (Int.toNat 0) 0))]) ⟨.rfl, .rfl, .rfl, trivial⟩) (AX.lst (by kernel_rfl) ((hA34 _ _ _).1 A34_01239)) rfl)
        have A34_012 : A34 9 #[true, true, true, false, false, false, false, false, false, false, false, false] ⟨233, envL [(108, (ls eRDecl p0.decls)), (109, (ow 0 0 l8))], [(ro 0 3 1 eI l8)]⟩ := (hA34 _ _ _).2 (by
         refine AX.all [3, 9] rfl (by kernel_rfl) (by decide) ⟨?_, ?_, trivial⟩
         ·refine AXs.of (i := 3) rfl rfl (by rfl) ?_
          refine zz (.ptr 0 0 (Int.toNat 0) 0) (aq_ixo ei22 rfl rfl rfl rfl gc32) rfl (AO.done ⟨rfl, ?_⟩)
          exact AX.weaken (Wk.to (L := [(108, (ls eRDecl p0.decls)), (110, (.ptr 0 0 (Int.toNat 0) 0))]) ⟨.rfl, .rfl, trivial⟩) (AX.lst (by kernel_rfl) ((hA34 _ _ _).1 A34_0123)) rfl
         ·refine AXs.of (i := 9) rfl rfl (by rfl) ?_
          refine ao_alloc (m := 1) (st' := [(ro 0 3 1 eI l8), ⟨0, 97, 3, [[(i64 0), (i64 0), .zc]]⟩]) go0 zi97 rfl rfl (AO.done ⟨rfl, ?_⟩)
          exact AX.weaken (by refine Wk.trans (Wk.permk (L := [(12, (.ptr 0 0 0 0)), (108, (ls eRDecl p0.decls)), (109, (ow 1 0 l8))]) (st' := [⟨0, 97, 3, [[(i64 0), (i64 0), .zc]]⟩, (ro 0 3 1 eI l8)]) (st1 := [⟨0, 97, 3, [[(i64 0), (i64 0), .zc]]⟩, (ro 0 3 1 eI l8)]) [1, 0] rfl .nil (by decide) rfl rfl (.raw rfl rfl (.pure (pure_map fun _ => rfl) .nil)) ⟨.rfl, .rfl, .rfl, trivial⟩) ?_; exact Wk.to (L := [(12, (.ptr 0 0 0 0)), (108, (ls eRDecl p0.decls)), (109, (ow 1 0 l8))]) ⟨.rfl, .rfl, .rfl, trivial⟩) (AX.lst (by kernel_rfl) ((hA34 _ _ _).1 A34_0129)) rfl)
        have A34_02349 : A34 7 #[true, false, true, true, true, false, false, false, false, true, false, false] ⟨233, envL [(12, (.ptr 0 0 0 0)), (107, (.ptr 1 0 0 0)), (111, (i64 c32))], [⟨0, 97, 3, [[(i64 0), (i64 0), .zc]]⟩, ⟨0, 102, 2, [(eRSignatures p0)]⟩]⟩ := (hA34 _ _ _).2 (by
         refine AX.all [1] rfl (by kernel_rfl) (by decide) ⟨?_, trivial⟩
         ·refine AXs.of (i := 1) rfl rfl (by rfl) ?_
          refine zq tb rfl (AO.done ⟨rfl, ?_⟩)
          exact AX.weaken (by refine Wk.trans (Wk.permk (L := [(12, (.ptr 0 0 0 0)), (108, (ls eRDecl p0.decls)), (111, (i64 c32))]) (st' := [⟨0, 97, 3, [[(i64 0), (i64 0), .zc]]⟩]) (st1 := [⟨0, 97, 3, [[(i64 0), (i64 0), .zc]]⟩]) [0] rfl .nil (by decide) rfl rfl (.raw rfl rfl .nil) ⟨.rfl, .rfl, .rfl, trivial⟩) ?_; exact Wk.to (L := [(12, (.ptr 0 0 0 0)), (108, (ls eRDecl p0.decls)), (111, (i64 c32))]) ⟨.rfl, .rfl, .rfl, trivial⟩) (AX.lst (by kernel_rfl) ((hA34 _ _ _).1 A34_012349)) rfl)
        have A34_0234 : A34 8 #[true, false, true, true, true, false, false, false, false, false, false, false] ⟨233, envL [(107, (.ptr 0 0 0 0)), (111, (i64 c32))], [⟨0, 102, 2, [(eRSignatures p0)]⟩]⟩ := (hA34 _ _ _).2 (by
         refine AX.all [1, 9] rfl (by kernel_rfl) (by decide) ⟨?_, ?_, trivial⟩
         ·refine AXs.of (i := 1) rfl rfl (by rfl) ?_
          refine zq tb rfl (AO.done ⟨rfl, ?_⟩)
          exact AX.weaken (by refine Wk.trans (Wk.permk (L := [(108, (ls eRDecl p0.decls)), (111, (i64 c32))]) (st' := []) (st1 := []) [] rfl .nil (by decide) rfl rfl .nil ⟨.rfl, .rfl, trivial⟩) ?_; exact Wk.to (L := [(108, (ls eRDecl p0.decls)), (111, (i64 c32))]) ⟨.rfl, .rfl, trivial⟩) (AX.lst (by kernel_rfl) ((hA34 _ _ _).1 A34_01234)) rfl
         ·refine AXs.of (i := 9) rfl rfl (by rfl) ?_
          refine ao_alloc (m := 1) (st' := [⟨0, 102, 2, [(eRSignatures p0)]⟩, ⟨0, 97, 3, [[(i64 0), (i64 0), .zc]]⟩]) go0 zi97 rfl rfl (AO.done ⟨rfl, ?_⟩)
          exact AX.weaken (by refine Wk.trans (Wk.permk (L := [(12, (.ptr 0 0 0 0)), (107, (.ptr 1 0 0 0)), (111, (i64 c32))]) (st' := [⟨0, 97, 3, [[(i64 0), (i64 0), .zc]]⟩, ⟨0, 102, 2, [(eRSignatures p0)]⟩]) (st1 := [⟨0, 97, 3, [[(i64 0), (i64 0), .zc]]⟩, ⟨0, 102, 2, [(eRSignatures p0)]⟩]) [1, 0] rfl .nil (by decide) rfl rfl (.raw rfl rfl (.raw rfl rfl .nil)) ⟨.rfl, .rfl, .rfl, trivial⟩) ?_; exact Wk.to (L := [(12, (.ptr 0 0 0 0)), (107, (.ptr 1 0 0 0)), (111, (i64 c32))]) ⟨.rfl, .rfl, .rfl, trivial⟩) (AX.lst (by kernel_rfl) ((hA34 _ _ _).1 A34_02349)) rfl)
        have A34_0239 : A34 8 #[true, false, true, true, false, false, false, false, false, true, false, false] ⟨233, envL [(12, (.ptr 0 0 0 0)), (107, (.ptr 1 0 0 0)), (110, (.ptr 2 0 (Int.toNat 0) 0))], [⟨0, 97, 3, [[(i64 0), (i64 0), .zc]]⟩, ⟨0, 102, 2, [(eRSignatures p0)]⟩, (ro 0 3 1 eI l8)]⟩ := (hA34 _ _ _).2 (by
         refine AX.all [1, 4] rfl (by kernel_rfl) (by decide) ⟨?_, ?_, trivial⟩
         ·refine AXs.of (i := 1) rfl rfl (by rfl) ?_
          refine zq tb rfl (AO.done ⟨rfl, ?_⟩)
          exact AX.weaken (by refine Wk.trans (Wk.permk (L := [(12, (.ptr 0 0 0 0)), (108, (ls eRDecl p0.decls)), (110, (.ptr 1 0 (Int.toNat 0) 0))]) (st' := [⟨0, 97, 3, [[(i64 0), (i64 0), .zc]]⟩, (ro 0 3 1 eI l8)]) (st1 := [⟨0, 97, 3, [[(i64 0), (i64 0), .zc]]⟩, (ro 0 3 1 eI l8)]) [0, 2] rfl .nil (by decide) rfl rfl (.raw rfl rfl (.pure (pure_map fun _ => rfl) .nil)) ⟨.rfl, .rfl, .rfl, trivial⟩) ?_; exact Wk.to (L := [(12, (.ptr 0 0 0 0)), (108, (ls eRDecl p0.decls)), (110, (.ptr 1 0 (Int.toNat 0) 0))]) ⟨.rfl, .rfl, .rfl, trivial⟩) (AX.lst (by kernel_rfl) ((hA34 _ _ _).1 A34_01239)) rfl
         ·refine AXs.of (i := 4) rfl rfl (by rfl) ?_
          refine zz (i64 c32) (aq_ldp ti3 rfl rfl (map_get gc32) rfl) rfl (AO.done ⟨rfl, ?_⟩)
          exact AX.weaken (by refine Wk.trans (Wk.permk (L := [(12, (.ptr 0 0 0 0)), (107, (.ptr 1 0 0 0)), (111, (i64 c32))]) (st' := [⟨0, 97, 3, [[(i64 0), (i64 0), .zc]]⟩, ⟨0, 102, 2, [(eRSignatures p0)]⟩]) (st1 := [⟨0, 97, 3, [[(i64 0), (i64 0), .zc]]⟩, ⟨0, 102, 2, [(eRSignatures p0)]⟩]) [0, 1] rfl .nil (by decide) rfl rfl (.raw rfl rfl (.raw rfl rfl .nil)) ⟨.rfl, .rfl, .rfl, trivial⟩) ?_; exact Wk.to (L := [(12, (.ptr 0 0 0 0)), (107, (.ptr 1 0 0 0)), (111, (i64 c32))]) ⟨.rfl, .rfl, .rfl, trivial⟩) (AX.lst (by kernel_rfl) ((hA34 _ _ _).1 A34_02349)) rfl)
        have A34_023 : A34 9 #[true, false, true, true, false, false, false, false, false, false, false, false] ⟨233, envL [(107, (.ptr 0 0 0 0)), (110, (.ptr 1 0 (Int.toNat 0) 0))], [⟨0, 102, 2, [(eRSignatures p0)]⟩, (ro 0 3 1 eI l8)]⟩ := (hA34 _ _ _).2 (by
         refine AX.all [1, 4, 9] rfl (by kernel_rfl) (by decide) ⟨?_, ?_, ?_, trivial⟩
         ·refine AXs.of (i := 1) rfl rfl (by rfl) ?_
          refine zq tb rfl (AO.done ⟨rfl, ?_⟩)
          exact AX.weaken (by refine Wk.trans (Wk.permk (L := [(108, (ls eRDecl p0.decls)), (110, (.ptr 0 0 (Int.toNat 0) 0))]) (st' := [(ro 0 3 1 eI l8)]) (st1 := [(ro 0 3 1 eI l8)]) [1] rfl .nil (by decide) rfl rfl (.pure (pure_map fun _ => rfl) .nil) ⟨.rfl, .rfl, trivial⟩) ?_; exact Wk.to (L := [(108, (ls eRDecl p0.decls)), (110, (.ptr 0 0 (Int.toNat 0) 0))]) ⟨.rfl, .rfl, trivial⟩) (AX.lst (by kernel_rfl) ((hA34 _ _ _).1 A34_0123)) rfl
         ·refine AXs.of (i := 4) rfl rfl (by rfl) ?_
          refine zz (i64 c32) (aq_ldp ti3 rfl rfl (map_get gc32) rfl) rfl (AO.done ⟨rfl, ?_⟩)
          exact AX.weaken (by refine Wk.trans (Wk.permk (L := [(107, (.ptr 0 0 0 0)), (111, (i64 c32))]) (st' := [⟨0, 102, 2, [(eRSignatures p0)]⟩]) (st1 := [⟨0, 102, 2, [(eRSignatures p0)]⟩]) [0] rfl .nil (by decide) rfl rfl (.raw rfl rfl .nil) ⟨.rfl, .rfl, trivial⟩) ?_; exact Wk.to (L := [(107, (.ptr 0 0 0 0)), (111, (i64 c32))]) ⟨.rfl, .rfl, trivial⟩) (AX.lst (by kernel_rfl) ((hA34 _ _ _).1 A34_0234)) rfl
         ·refine AXs.of (i := 9) rfl rfl (by rfl) ?_
          refine ao_alloc (m := 2) (st' := [⟨0, 102, 2, [(eRSignatures p0)]⟩, (ro 0 3 1 eI l8), ⟨0, 97, 3, [[(i64 0), (i64 0), .zc]]⟩]) go0 zi97 rfl rfl (AO.done ⟨rfl, ?_⟩)
          exact AX.weaken (by refine Wk.trans (Wk.permk (L := [(12, (.ptr 0 0 0 0)), (107, (.ptr 1 0 0 0)), (110, (.ptr 2 0 (Int.toNat 0) 0))]) (st' := [⟨0, 97, 3, [[(i64 0), (i64 0), .zc]]⟩, ⟨0, 102, 2, [(eRSignatures p0)]⟩, (ro 0 3 1 eI l8)]) (st1 := [⟨0, 97, 3, [[(i64 0), (i64 0), .zc]]⟩, ⟨0, 102, 2, [(eRSignatures p0)]⟩, (ro 0 3 1 eI l8)]) [2, 0, 1] rfl .nil (by decide) rfl rfl (.raw rfl rfl (.raw rfl rfl (.pure (pure_map fun _ => rfl) .nil))) ⟨.rfl, .rfl, .rfl, trivial⟩) ?_; exact Wk.to (L := [(12, (.ptr 0 0 0 0)), (107, (.ptr 1 0 0 0)), (110, (.ptr 2 0 (Int.toNat 0) 0))]) ⟨.rfl, .rfl, .rfl, trivial⟩) (AX.lst (by kernel_rfl) ((hA34 _ _ _).1 A34_0239)) rfl)
        have A34_029 : A34 9 #[true, false, true, false, false, false, false, false, false, true, false, false] ⟨233, envL [(12, (.ptr 0 0 0 0)), (107, (.ptr 1 0 0 0)), (109, (ow 2 0 l8))], [⟨0, 97, 3, [[(i64 0), (i64 0), .zc]]⟩, ⟨0, 102, 2, [(eRSignatures p0)]⟩, (ro 0 3 1 eI l8)]⟩ := (hA34 _ _ _).2 (by
         refine AX.all [1, 3] rfl (by kernel_rfl) (by decide) ⟨?_, ?_, trivial⟩
         ·refine AXs.of (i := 1) rfl rfl (by rfl) ?_
          refine zq tb rfl (AO.done ⟨rfl, ?_⟩)
          exact AX.weaken (by refine Wk.trans (Wk.permk (L := [(12, (.ptr 0 0 0 0)), (108, (ls eRDecl p0.decls)), (109, (ow 1 0 l8))]) (st' := [⟨0, 97, 3, [[(i64 0), (i64 0), .zc]]⟩, (ro 0 3 1 eI l8)]) (st1 := [⟨0, 97, 3, [[(i64 0), (i64 0), .zc]]⟩, (ro 0 3 1 eI l8)]) [0, 2] rfl .nil (by decide) rfl rfl (.raw rfl rfl (.pure (pure_map fun _ => rfl) .nil)) ⟨.rfl, .rfl, .rfl, trivial⟩) ?_; exact Wk.to (L := [(12, (.ptr 0 0 0 0)), (108, (ls eRDecl p0.decls)), (109, (ow 1 0 l8))]) ⟨.rfl, .rfl, .rfl, trivial⟩) (AX.lst (by kernel_rfl) ((hA34 _ _ _).1 A34_0129)) rfl
         ·refine AXs.of (i := 3) rfl rfl (by rfl) ?_
          refine zz (.ptr 2 0 (Int.toNat 0) 0) (aq_ixo ei22 rfl rfl rfl rfl gc32) rfl (AO.done ⟨rfl, ?_⟩)
          exact AX.weaken (Wk.to (L := [(12, (.ptr 0 0 0 0)), (107, (.ptr 1 0 0 0)), (110, (.ptr 2 0 (Int.toNat 0) 0))]) ⟨.rfl, .rfl, .rfl, trivial⟩) (AX.lst (by kernel_rfl) ((hA34 _ _ _).1 A34_0239)) rfl)
        have A34_02 : A34 10 #[true, false, true, false, false, false, false, false, false, false, false, false] ⟨233, envL [(107, (.ptr 0 0 0 0)), (109, (ow 1 0 l8))], [⟨0, 102, 2, [(eRSignatures p0)]⟩, (ro 0 3 1 eI l8)]⟩ := (hA34 _ _ _).2 (by
         refine AX.all [1, 3, 9] rfl (by kernel_rfl) (by decide) ⟨?_, ?_, ?_, trivial⟩
         ·refine AXs.of (i := 1) rfl rfl (by rfl) ?_
          refine zq tb rfl (AO.done ⟨rfl, ?_⟩)
          exact AX.weaken (by refine Wk.trans (Wk.permk (L := [(108, (ls eRDecl p0.decls)), (109, (ow 0 0 l8))]) (st' := [(ro 0 3 1 eI l8)]) (st1 := [(ro 0 3 1 eI l8)]) [1] rfl .nil (by decide) rfl rfl (.pure (pure_map fun _ => rfl) .nil) ⟨.rfl, .rfl, trivial⟩) ?_; exact Wk.to (L := [(108, (ls eRDecl p0.decls)), (109, (ow 0 0 l8))]) ⟨.rfl, .rfl, trivial⟩) (AX.lst (by kernel_rfl) ((hA34 _ _ _).1 A34_012)) rfl
         ·refine AXs.of (i := 3) rfl rfl (by rfl) ?_
          refine zz (.ptr 1 0 (Int.toNat 0) 0) (aq_ixo ei22 rfl rfl rfl rfl gc32) rfl (AO.done ⟨rfl, ?_⟩)
          exact AX.weaken (Wk.to (L := [(107, (.ptr 0 0 0 0)), (110, (.ptr 1 0 (Int.toNat 0) 0))]) ⟨.rfl, .rfl, trivial⟩) (AX.lst (by kernel_rfl) ((hA34 _ _ _).1 A34_023)) rfl
         ·refine AXs.of (i := 9) rfl rfl (by rfl) ?_
          refine ao_alloc (m := 2) (st' := [⟨0, 102, 2, [(eRSignatures p0)]⟩, (ro 0 3 1 eI l8), ⟨0, 97, 3, [[(i64 0), (i64 0), .zc]]⟩]) go0 zi97 rfl rfl (AO.done ⟨rfl, ?_⟩)
          exact AX.weaken (by refine Wk.trans (Wk.permk (L := [(12, (.ptr 0 0 0 0)), (107, (.ptr 1 0 0 0)), (109, (ow 2 0 l8))]) (st' := [⟨0, 97, 3, [[(i64 0), (i64 0), .zc]]⟩, ⟨0, 102, 2, [(eRSignatures p0)]⟩, (ro 0 3 1 eI l8)]) (st1 := [⟨0, 97, 3, [[(i64 0), (i64 0), .zc]]⟩, ⟨0, 102, 2, [(eRSignatures p0)]⟩, (ro 0 3 1 eI l8)]) [2, 0, 1] rfl .nil (by decide) rfl rfl (.raw rfl rfl (.raw rfl rfl (.pure (pure_map fun _ => rfl) .nil))) ⟨.rfl, .rfl, .rfl, trivial⟩) ?_; exact Wk.to (L := [(12, (.ptr 0 0 0 0)), (107, (.ptr 1 0 0 0)), (109, (ow 2 0 l8))]) ⟨.rfl, .rfl, .rfl, trivial⟩) (AX.lst (by kernel_rfl) ((hA34 _ _ _).1 A34_029)) rfl)
        have A34_2349 : A34 8 #[false, false, true, true, true, false, false, false, false, true, false, false] ⟨233, envL [(3, (.ptr 0 0 0 0)), (12, (.ptr 1 0 0 0)), (111, (i64 c32))], [⟨0, 102, 2, [(eRSignatures p0)]⟩, ⟨0, 97, 3, [[(i64 0), (i64 0), .zc]]⟩]⟩ := (hA34 _ _ _).2 (by
         refine AX.all [0] rfl (by kernel_rfl) (by decide) ⟨?_, trivial⟩
         ·refine AXs.of (i := 0) rfl rfl (by rfl) ?_
          refine zq tb rfl (AO.done ⟨rfl, ?_⟩)
          exact AX.weaken (by refine Wk.trans (Wk.permk (L := [(12, (.ptr 0 0 0 0)), (107, (.ptr 1 0 0 0)), (111, (i64 c32))]) (st' := [⟨0, 97, 3, [[(i64 0), (i64 0), .zc]]⟩, ⟨0, 102, 2, [(eRSignatures p0)]⟩]) (st1 := [⟨0, 97, 3, [[(i64 0), (i64 0), .zc]]⟩, ⟨0, 102, 2, [(eRSignatures p0)]⟩]) [1, 0] rfl .nil (by decide) rfl rfl (.raw rfl rfl (.raw rfl rfl .nil)) ⟨.rfl, .rfl, .rfl, trivial⟩) ?_; exact Wk.to (L := [(12, (.ptr 0 0 0 0)), (107, (.ptr 1 0 0 0)), (111, (i64 c32))]) ⟨.rfl, .rfl, .rfl, trivial⟩) (AX.lst (by kernel_rfl) ((hA34 _ _ _).1 A34_02349)) rfl)
        have A34_234 : A34 9 #[false, false, true, true, true, false, false, false, false, false, false, false] ⟨233, envL [(3, (.ptr 0 0 0 0)), (111, (i64 c32))], [⟨0, 102, 2, [(eRSignatures p0)]⟩]⟩ := (hA34 _ _ _).2 (by
         refine AX.all [0, 9] rfl (by kernel_rfl) (by decide) ⟨?_, ?_, trivial⟩
         ·refine AXs.of (i := 0) rfl rfl (by rfl) ?_
          refine zq tb rfl (AO.done ⟨rfl, ?_⟩)
          exact AX.weaken (Wk.to (L := [(107, (.ptr 0 0 0 0)), (111, (i64 c32))]) ⟨.rfl, .rfl, trivial⟩) (AX.lst (by kernel_rfl) ((hA34 _ _ _).1 A34_0234)) rfl
         ·refine AXs.of (i := 9) rfl rfl (by rfl) ?_
          refine ao_alloc (m := 1) (st' := [⟨0, 102, 2, [(eRSignatures p0)]⟩, ⟨0, 97, 3, [[(i64 0), (i64 0), .zc]]⟩]) go0 zi97 rfl rfl (AO.done ⟨rfl, ?_⟩)
          exact AX.weaken (Wk.to (L := [(3, (.ptr 0 0 0 0)), (12, (.ptr 1 0 0 0)), (111, (i64 c32))]) ⟨.rfl, .rfl, .rfl, trivial⟩) (AX.lst (by kernel_rfl) ((hA34 _ _ _).1 A34_2349)) rfl)
        have A34_239 : A34 9 #[false, false, true, true, false, false, false, false, false, true, false, false] ⟨233, envL [(3, (.ptr 0 0 0 0)), (12, (.ptr 1 0 0 0)), (110, (.ptr 2 0 (Int.toNat 0) 0))], [⟨0, 102, 2, [(eRSignatures p0)]⟩, ⟨0, 97, 3, [[(i64 0), (i64 0), .zc]]⟩, (ro 0 3 1 eI l8)]⟩ := (hA34 _ _ _).2 (by
         refine AX.all [0, 4] rfl (by kernel_rfl) (by decide) ⟨?_, ?_, trivial⟩
         ·refine AXs.of (i := 0) rfl rfl (by rfl) ?_
          refine zq tb rfl (AO.done ⟨rfl, ?_⟩)
          exact AX.weaken (by refine Wk.trans (Wk.permk (L := [(12, (.ptr 0 0 0 0)), (107, (.ptr 1 0 0 0)), (110, (.ptr 2 0 (Int.toNat 0) 0))]) (st' := [⟨0, 97, 3, [[(i64 0), (i64 0), .zc]]⟩, ⟨0, 102, 2, [(eRSignatures p0)]⟩, (ro 0 3 1 eI l8)]) (st1 := [⟨0, 97, 3, [[(i64 0), (i64 0), .zc]]⟩, ⟨0, 102, 2, [(eRSignatures p0)]⟩, (ro 0 3 1 eI l8)]) [1, 0, 2] rfl .nil (by decide) rfl rfl (.raw rfl rfl (.raw rfl rfl (.pure (pure_map fun _ => rfl) .nil))) ⟨.rfl, .rfl, .rfl, trivial⟩) ?_; exact Wk.to (L := [(12, (.ptr 0 0 0 0)), (107, (.ptr 1 0 0 0)), (110, (.ptr 2 0 (Int.toNat 0) 0))]) ⟨.rfl, .rfl, .rfl, trivial⟩) (AX.lst (by kernel_rfl) ((hA34 _ _ _).1 A34_0239)) rfl
         ·refine AXs.of (i := 4) rfl rfl (by rfl) ?_
          refine zz (i64 c32) (aq_ldp ti3 rfl rfl (map_get gc32) rfl) rfl (AO.done ⟨rfl, ?_⟩)
          exact AX.weaken (by refine Wk.trans (Wk.permk (L := [(3, (.ptr 0 0 0 0)), (12, (.ptr 1 0 0 0)), (111, (i64 c32))]) (st' := [⟨0, 102, 2, [(eRSignatures p0)]⟩, ⟨0, 97, 3, [[(i64 0), (i64 0), .zc]]⟩]) (st1 := [⟨0, 102, 2, [(eRSignatures p0)]⟩, ⟨0, 97, 3, [[(i64 0), (i64 0), .zc]]⟩]) [0, 1] rfl .nil (by decide) rfl rfl (.raw rfl rfl (.raw rfl rfl .nil)) ⟨.rfl, .rfl, .rfl, trivial⟩) ?_; exact Wk.to (L := [(3, (.ptr 0 0 0 0)), (12, (.ptr 1 0 0 0)), (111, (i64 c32))]) ⟨.rfl, .rfl, .rfl, trivial⟩) (AX.lst (by kernel_rfl) ((hA34 _ _ _).1 A34_2349)) rfl)
        have A34_23 : A34 10 #[false, false, true, true, false, false, false, false, false, false, false, false] ⟨233, envL [(3, (.ptr 0 0 0 0)), (110, (.ptr 1 0 (Int.toNat 0) 0))], [⟨0, 102, 2, [(eRSignatures p0)]⟩, (ro 0 3 1 eI l8)]⟩ := (hA34 _ _ _).2 (by
         refine AX.all [0, 4, 9] rfl (by kernel_rfl) (by decide) ⟨?_, ?_, ?_, trivial⟩
         ·refine AXs.of (i := 0) rfl rfl (by rfl) ?_
          refine zq tb rfl (AO.done ⟨rfl, ?_⟩)
          exact AX.weaken (Wk.to (L := [(107, (.ptr 0 0 0 0)), (110, (.ptr 1 0 (Int.toNat 0) 0))]) ⟨.rfl, .rfl, trivial⟩) (AX.lst (by kernel_rfl) ((hA34 _ _ _).1 A34_023)) rfl
         ·refine AXs.of (i := 4) rfl rfl (by rfl) ?_
          refine zz (i64 c32) (aq_ldp ti3 rfl rfl (map_get gc32) rfl) rfl (AO.done ⟨rfl, ?_⟩)
          exact AX.weaken (by refine Wk.trans (Wk.permk (L := [(3, (.ptr 0 0 0 0)), (111, (i64 c32))]) (st' := [⟨0, 102, 2, [(eRSignatures p0)]⟩]) (st1 := [⟨0, 102, 2, [(eRSignatures p0)]⟩]) [0] rfl .nil (by decide) rfl rfl (.raw rfl rfl .nil) ⟨.rfl, .rfl, trivial⟩) ?_; exact Wk.to (L := [(3, (.ptr 0 0 0 0)), (111, (i64 c32))]) ⟨.rfl, .rfl, trivial⟩) (AX.lst (by kernel_rfl) ((hA34 _ _ _).1 A34_234)) rfl
         ·refine AXs.of (i := 9) rfl rfl (by rfl) ?_
          refine ao_alloc (m := 2) (st' := [⟨0, 102, 2, [(eRSignatures p0)]⟩, (ro 0 3 1 eI l8), ⟨0, 97, 3, [[(i64 0), (i64 0), .zc]]⟩]) go0 zi97 rfl rfl (AO.done ⟨rfl, ?_⟩)
          exact AX.weaken (by refine Wk.trans (Wk.permk (L := [(3, (.ptr 0 0 0 0)), (12, (.ptr 1 0 0 0)), (110, (.ptr 2 0 (Int.toNat 0) 0))]) (st' := [⟨0, 102, 2, [(eRSignatures p0)]⟩, ⟨0, 97, 3, [[(i64 0), (i64 0), .zc]]⟩, (ro 0 3 1 eI l8)]) (st1 := [⟨0, 102, 2, [(eRSignatures p0)]⟩, ⟨0, 97, 3, [[(i64 0), (i64 0), .zc]]⟩, (ro 0 3 1 eI l8)]) [0, 2, 1] rfl .nil (by decide) rfl rfl (.raw rfl rfl (.raw rfl rfl (.pure (pure_map fun _ => rfl) .nil))) ⟨.rfl, .rfl, .rfl, trivial⟩) ?_; exact Wk.to (L := [(3, (.ptr 0 0 0 0)), (12, (.ptr 1 0 0 0)), (110, (.ptr 2 0 (Int.toNat 0) 0))]) ⟨.rfl, .rfl, .rfl, trivial⟩) (AX.lst (by kernel_rfl) ((hA34 _ _ _).1 A34_239)) rfl)
        have A34_29 : A34 10 #[false, false, true, false, false, false, false, false, false, true, false, false] ⟨233, envL [(3, (.ptr 0 0 0 0)), (12, (.ptr 1 0 0 0)), (109, (ow 2 0 l8))], [⟨0, 102, 2, [(eRSignatures p0)]⟩, ⟨0, 97, 3, [[(i64 0), (i64 0), .zc]]⟩, (ro 0 3 1 eI l8)]⟩ := (hA34 _ _ _).2 (by
         refine AX.all [0, 3] rfl (by kernel_rfl) (by decide) ⟨?_, ?_, trivial⟩
         ·refine AXs.of (i := 0) rfl rfl (by rfl) ?_
          refine zq tb rfl (AO.done ⟨rfl, ?_⟩)
          exact AX.weaken (by refine Wk.trans (Wk.permk (L := [(12, (.ptr 0 0 0 0)), (107, (.ptr 1 0 0 0)), (109, (ow 2 0 l8))]) (st' := [⟨0, 97, 3, [[(i64 0), (i64 0), .zc]]⟩, ⟨0, 102, 2, [(eRSignatures p0)]⟩, (ro 0 3 1 eI l8)]) (st1 := [⟨0, 97, 3, [[(i64 0), (i64 0), .zc]]⟩, ⟨0, 102, 2, [(eRSignatures p0)]⟩, (ro 0 3 1 eI l8)]) [1, 0, 2] rfl .nil (by decide) rfl rfl (.raw rfl rfl (.raw rfl rfl (.pure (pure_map fun _ => rfl) .nil))) ⟨.rfl, .rfl, .rfl, trivial⟩) ?_; exact Wk.to (L := [(12, (.ptr 0 0 0 0)), (107, (.ptr 1 0 0 0)), (109, (ow 2 0 l8))]) ⟨.rfl, .rfl, .rfl, trivial⟩) (AX.lst (by kernel_rfl) ((hA34 _ _ _).1 A34_029)) rfl
         ·refine AXs.of (i := 3) rfl rfl (by rfl) ?_
          refine zz (.ptr 2 0 (Int.toNat 0) 0) (aq_ixo ei22 rfl rfl rfl rfl gc32) rfl (AO.done ⟨rfl, ?_⟩)
          exact AX.weaken (Wk.to (L := [(3, (.ptr 0 0 0 0)), (12, (.ptr 1 0 0 0)), (110, (.ptr 2 0 (Int.toNat 0) 0))]) ⟨.rfl, .rfl, .rfl, trivial⟩) (AX.lst (by kernel_rfl) ((hA34 _ _ _).1 A34_239)) rfl)
        have A34_2 : A34 11 #[false, false, true, false, false, false, false, false, false, false, false, false] ⟨233, envL [(3, (.ptr 0 0 0 0)), (109, (ow 1 0 l8))], [⟨0, 102, 2, [(eRSignatures p0)]⟩, (ro 0 3 1 eI l8)]⟩ := (hA34 _ _ _).2 (by
         refine AX.all [0, 3, 9] rfl (by kernel_rfl) (by decide) ⟨?_, ?_, ?_, trivial⟩
         ·refine AXs.of (i := 0) rfl rfl (by rfl) ?_
          refine zq tb rfl (AO.done ⟨rfl, ?_⟩)
          exact AX.weaken (Wk.to (L := [(107, (.ptr 0 0 0 0)), (109, (ow 1 0 l8))]) ⟨.rfl, .rfl, trivial⟩) (AX.lst (by kernel_rfl) ((hA34 _ _ _).1 A34_02)) rfl
         ·refine AXs.of (i := 3) rfl rfl (by rfl) ?_
          refine zz (.ptr 1 0 (Int.toNat 0) 0) (aq_ixo ei22 rfl rfl rfl rfl gc32) rfl (AO.done ⟨rfl, ?_⟩)
          exact AX.weaken (Wk.to (L := [(3, (.ptr 0 0 0 0)), (110, (.ptr 1 0 (Int.toNat 0) 0))]) ⟨.rfl, .rfl, trivial⟩) (AX.lst (by kernel_rfl) ((hA34 _ _ _).1 A34_23)) rfl
         ·refine AXs.of (i := 9) rfl rfl (by rfl) ?_
          refine ao_alloc (m := 2) (st' := [⟨0, 102, 2, [(eRSignatures p0)]⟩, (ro 0 3 1 eI l8), ⟨0, 97, 3, [[(i64 0), (i64 0), .zc]]⟩]) go0 zi97 rfl rfl (AO.done ⟨rfl, ?_⟩)
          exact AX.weaken (by refine Wk.trans (Wk.permk (L := [(3, (.ptr 0 0 0 0)), (12, (.ptr 1 0 0 0)), (109, (ow 2 0 l8))]) (st' := [⟨0, 102, 2, [(eRSignatures p0)]⟩, ⟨0, 97, 3, [[(i64 0), (i64 0), .zc]]⟩, (ro 0 3 1 eI l8)]) (st1 := [⟨0, 102, 2, [(eRSignatures p0)]⟩, ⟨0, 97, 3, [[(i64 0), (i64 0), .zc]]⟩, (ro 0 3 1 eI l8)]) [0, 2, 1] rfl .nil (by decide) rfl rfl (.raw rfl rfl (.raw rfl rfl (.pure (pure_map fun _ => rfl) .nil))) ⟨.rfl, .rfl, .rfl, trivial⟩) ?_; exact Wk.to (L := [(3, (.ptr 0 0 0 0)), (12, (.ptr 1 0 0 0)), (109, (ow 2 0 l8))]) ⟨.rfl, .rfl, .rfl, trivial⟩) (AX.lst (by kernel_rfl) ((hA34 _ _ _).1 A34_29)) rfl)
        have A34_e : A34 12 #[false, false, false, false, false, false, false, false, false, false, false, false] ⟨233, envL [(3, (.ptr 0 0 0 0)), (8, (ow 1 0 l8))], [⟨0, 102, 2, [(eRSignatures p0)]⟩, (ro 0 3 1 eI l8)]⟩ := (hA34 _ _ _).2 (by
         refine AX.hoist 2 (v := (ow 1 0 l8)) rfl rfl (by kernel_rfl) (by kernel_rfl) (by kernel_rfl) rfl (hoist_mv rfl) ?_
         exact AX.weaken (Wk.to (L := [(3, (.ptr 0 0 0 0)), (109, (ow 1 0 l8))]) ⟨.rfl, .rfl, trivial⟩) (AX.lst (by kernel_rfl) ((hA34 _ _ _).1 A34_2)) rfl)
        refine (hA34 _ _ _).2 ?_
        exact AX.weaken (Wk.to (L := [(3, (.ptr 0 0 0 0)), (8, (ow 1 0 l8))]) ⟨.rfl, .rfl, trivial⟩) (AX.lst (by kernel_rfl) ((hA34 _ _ _).1 A34_e)) rfl
       ·intro b30 h1
        exact AW.skip (M25 ok21 (Sh.some_eq h1).symm _ (Wk.d0 _ rfl))
      refine AW.regionO rfl (zm tb 2 rfl ?_)
      rcases Sh.ite_some h2 with ⟨b35, h2⟩ | ⟨b35, h2⟩
      ·refine zg tb b35 rfl ?_
       iterate 3 refine zg tb b35 rfl ?_
       rcases Sh.ite_some h2 with ⟨b36, h2⟩ | ⟨b36, h2⟩
       ·refine zs b36 rfl (zs b36 rfl (zs b36 rfl (ao_q (v := (.bool true)) (go1 rfl rfl b35) rfl (aq_pkt rfl b36 rfl) (zt b35 rfl ?_))))
        exact AO.done (M29 true (Sh.some_eq h2).symm _ (Wk.permk (L := [(3, (.ptr 0 0 0 0)), (8, (ow 1 0 l8)), (11, (.bool ok21)), (105, (.bool true))]) (st' := [⟨0, 102, 2, [(eRSignatures p0)]⟩, (ro 0 3 1 eI l8)]) (st1 := [⟨0, 102, 2, [(eRSignatures p0)]⟩, (ro 0 3 1 eI l8)]) [0, 2] rfl .nil (by decide) rfl rfl (.raw rfl rfl (.pure (pure_map fun _ => rfl) .nil)) ⟨.rfl, .rfl, .rfl, .rfl, trivial⟩))
       ·refine zg tb b36 rfl (zg tb b36 rfl (zg tb b36 rfl (ao_q (v := (.bool (decide (p2.op = 17)))) (go1 rfl rfl b35) rfl (aq_pkf rfl b36 rfl) (zt b35 rfl ?_))))
        exact AO.done (M29 (decide (p2.op = 17)) (Sh.some_eq h2).symm _ (Wk.permk (L := [(3, (.ptr 0 0 0 0)), (8, (ow 1 0 l8)), (11, (.bool ok21)), (105, (.bool (decide (p2.op = 17))))]) (st' := [⟨0, 102, 2, [(eRSignatures p0)]⟩, (ro 0 3 1 eI l8)]) (st1 := [⟨0, 102, 2, [(eRSignatures p0)]⟩, (ro 0 3 1 eI l8)]) [0, 2] rfl .nil (by decide) rfl rfl (.raw rfl rfl (.pure (pure_map fun _ => rfl) .nil)) ⟨.rfl, .rfl, .rfl, .rfl, trivial⟩))
      ·refine zs b35 rfl ?_
       iterate 3 refine zs b35 rfl ?_
       iterate 3 refine zn rfl ?_
       refine zs b35 rfl (zf b35 rfl ?_)
       exact AO.done (M29 false (Sh.some_eq h2).symm _ (Wk.permk (L := [(3, (.ptr 0 0 0 0)), (8, (ow 1 0 l8)), (11, (.bool ok21)), (105, (.bool false))]) (st' := [⟨0, 102, 2, [(eRSignatures p0)]⟩, (ro 0 3 1 eI l8)]) (st1 := [⟨0, 102, 2, [(eRSignatures p0)]⟩, (ro 0 3 1 eI l8)]) [0, 2] rfl .nil (by decide) rfl rfl (.raw rfl rfl (.pure (pure_map fun _ => rfl) .nil)) ⟨.rfl, .rfl, .rfl, .rfl, trivial⟩))
     refine AW.regionO rfl (zq tb rfl (zz (i64 (Sh.len l8)) (aq_leno sl22 rfl rfl rfl) rfl (zm tb 2 rfl ?_)))
     rcases Sh.ite_some h1 with ⟨b37, h1⟩ | ⟨b37, h1⟩
     ·refine zg tb b37 rfl (bs h1 fun c38 gc38 h1 => ao_q (v := (.ptr 2 0 (Int.toNat 0) 0)) (go1 rfl rfl b37) rfl (aq_ixo ei22 rfl rfl rfl rfl gc38) (ao_q (v := (i64 c38)) (go1 rfl rfl b37) rfl (aq_ldp ti3 rfl rfl (map_get gc38) rfl) (zg tb b37 rfl (zt b37 rfl (zq tb rfl ?_)))))
      rcases Sh.ite_some h1 with ⟨b39, h1⟩ | ⟨b39, h1⟩
      ·refine zg tb b39 rfl (zg tb b39 rfl (zg tb b39 rfl (zt b39 rfl (zq tb rfl ?_))))
       rcases Sh.ite_some h1 with ⟨b40, h1⟩ | ⟨b40, h1⟩
       ·exact zg tb b40 rfl (zg tb b40 rfl (ao_q (v := (i64 (Sh.len p2.kids))) (go1 rfl rfl b40) rfl (aq_lens sl108 rfl) (zg tb b40 rfl (zt b40 rfl (zq tb rfl (AO.done (M22 (decide ((Sh.len p2.kids) = 0)) (Sh.some_eq h1).symm _ (Wk.tr rfl))))))))
       ·refine zs b40 rfl ?_
        iterate 3 refine zs b40 rfl ?_
        exact zf b40 rfl (zq tb rfl (AO.done (M22 false (Sh.some_eq h1).symm _ (Wk.tr rfl))))
      ·refine zs b39 rfl (zs b39 rfl (zs b39 rfl (zf b39 rfl (zq tb rfl ?_))))
       iterate 4 refine zs rfl rfl ?_
       exact zf rfl rfl (zq tb rfl (AO.done (M22 false (Sh.some_eq h1).symm _ (Wk.tr rfl))))
     ·refine zs b37 rfl ?_
      iterate 3 refine zs b37 rfl ?_
      refine zf b37 rfl (zq tb rfl ?_)
      iterate 3 refine zs rfl rfl ?_
      refine zf rfl rfl (zq tb rfl ?_)
      iterate 4 refine zs rfl rfl ?_
      exact zf rfl rfl (zq tb rfl (AO.done (M22 false (Sh.some_eq h1).symm _ (Wk.tr rfl))))
    ·intro b19 h0
     refine zr tb rfl rfl ?_
     refine ci h0 rfl ?_ ?_ <;> clear h0
     ·intro b42 h0
      refine AW.seq fun K43 hK43 => AW.seq fun K44 hK44 => bs h0 fun o46 h1 h0 => ?_
      have M46 : ∀ (t45 : Bool), o46 = t45 → ∀ s, Wk 0 s ⟨233, envL [(1, (ls eI p1)), (3, (.ptr 0 0 0 0)), (5, (.ptr 1 0 0 0)), (141, (.bool t45))], [⟨0, 102, 2, [(eRSignatures p0)]⟩, ⟨0, 110, 5, [[(i64 p2.op), (i64 p2.num), (i64 p2.into), (ls eI p2.args), (ls eBlock p2.kids)]]⟩]⟩ → K44 s := by
       intro t45 hq s hw
       subst o46
       try dsimp only at h0
       refine hK44 _ (AW.weaken hw ?_)
       refine ci h0 rfl ?_ ?_ <;> clear h0
       ·intro b47 h0
        refine zr tb rfl rfl ?_
        replace h0 := Sh.some_eq h0
        subst r
        exact AW.ret (xr (Wk.d0 [(6, (i64 (-1))), (7, (.bool false))] rfl))
       ·intro b47 h0
        refine AW.skip (hK43 _ (AW.seq fun K49 hK49 => ?_))
        refine AW.drawTailO 9 (by kernel_rfl) (by kernel_rfl) (by rfl) ?_
        iterate 4 refine yq tb rfl ?_
        refine bs h0 fun l50 gl50 h0 => d_mk (enc := (eS eI)) (u := []) go0 ei161 rfl rfl rfl gl50 (pure_map fun _ => rfl) (bs h0 fun q51 gq51 h0 => d_call (v := (.tup [(i64 q51.1), (.bool q51.2)])) go0 hb108 (impl_signatures_kidsType_ok hrec_impl_signatures_blockType gq51) rfl rfl rfl ?_)
        iterate 3 refine yq tb rfl ?_
        refine d_done (zq tb rfl (dn hK49 rfl ?_))
        replace h0 := Sh.some_eq h0
        subst r
        exact AW.ret (xr (Wk.d0 [(6, (i64 q51.1)), (7, (.bool q51.2))] rfl))
      refine AW.regionO rfl (zq tb rfl (zz (i64 (Sh.len l8)) (aq_leno sl22 rfl rfl rfl) rfl (zm tb 2 rfl ?_)))
      rcases Sh.ite_some h1 with ⟨b52, h1⟩ | ⟨b52, h1⟩
      ·refine zs b52 rfl ?_
       iterate 3 refine zs b52 rfl ?_
       refine zt b52 rfl (zq tb rfl ?_)
       iterate 3 refine zs rfl rfl ?_
       refine zt rfl rfl (zq tb rfl ?_)
       iterate 4 refine zs rfl rfl ?_
       refine zt rfl rfl ?_
       exact AO.done (M46 true (Sh.some_eq h1).symm _ (Wk.permk (L := [(1, (ls eI p1)), (3, (.ptr 0 0 0 0)), (5, (.ptr 1 0 0 0)), (141, (.bool true))]) (st' := [⟨0, 102, 2, [(eRSignatures p0)]⟩, ⟨0, 110, 5, [[(i64 p2.op), (i64 p2.num), (i64 p2.into), (ls eI p2.args), (ls eBlock p2.kids)]]⟩]) (st1 := [⟨0, 102, 2, [(eRSignatures p0)]⟩, ⟨0, 110, 5, [[(i64 p2.op), (i64 p2.num), (i64 p2.into), (ls eI p2.args), (ls eBlock p2.kids)]]⟩]) [0, 1] rfl .nil (by decide) rfl rfl (.raw rfl rfl (.raw rfl rfl .nil)) ⟨.rfl, .rfl, .rfl, .rfl, trivial⟩))
      ·refine zg tb b52 rfl (bs h1 fun c53 gc53 h1 => ao_q (v := (.ptr 2 0 (Int.toNat 0) 0)) (go1 rfl rfl b52) rfl (aq_ixo ei22 rfl rfl rfl rfl gc53) (ao_q (v := (i64 c53)) (go1 rfl rfl b52) rfl (aq_ldp ti3 rfl rfl (map_get gc53) rfl) (zg tb b52 rfl (zf b52 rfl (zq tb rfl ?_)))))
       rcases Sh.ite_some h1 with ⟨b54, h1⟩ | ⟨b54, h1⟩
       ·refine zs b54 rfl (zs b54 rfl (zs b54 rfl (zt b54 rfl (zq tb rfl ?_))))
        iterate 4 refine zs rfl rfl ?_
        refine zt rfl rfl ?_
        exact AO.done (M46 true (Sh.some_eq h1).symm _ (Wk.permk (L := [(1, (ls eI p1)), (3, (.ptr 0 0 0 0)), (5, (.ptr 1 0 0 0)), (141, (.bool true))]) (st' := [⟨0, 102, 2, [(eRSignatures p0)]⟩, ⟨0, 110, 5, [[(i64 p2.op), (i64 p2.num), (i64 p2.into), (ls eI p2.args), (ls eBlock p2.kids)]]⟩]) (st1 := [⟨0, 102, 2, [(eRSignatures p0)]⟩, ⟨0, 110, 5, [[(i64 p2.op), (i64 p2.num), (i64 p2.into), (ls eI p2.args), (ls eBlock p2.kids)]]⟩]) [0, 1] rfl .nil (by decide) rfl rfl (.raw rfl rfl (.raw rfl rfl .nil)) ⟨.rfl, .rfl, .rfl, .rfl, trivial⟩))
       ·refine zg tb b54 rfl (zg tb b54 rfl (zg tb b54 rfl (zf b54 rfl (zq tb rfl ?_))))
        rcases Sh.ite_some h1 with ⟨b55, h1⟩ | ⟨b55, h1⟩
        ·refine zs b55 rfl ?_
         iterate 3 refine zs b55 rfl ?_
         refine zt b55 rfl ?_
         exact AO.done (M46 true (Sh.some_eq h1).symm _ (Wk.permk (L := [(1, (ls eI p1)), (3, (.ptr 0 0 0 0)), (5, (.ptr 1 0 0 0)), (141, (.bool true))]) (st' := [⟨0, 102, 2, [(eRSignatures p0)]⟩, ⟨0, 110, 5, [[(i64 p2.op), (i64 p2.num), (i64 p2.into), (ls eI p2.args), (ls eBlock p2.kids)]]⟩]) (st1 := [⟨0, 102, 2, [(eRSignatures p0)]⟩, ⟨0, 110, 5, [[(i64 p2.op), (i64 p2.num), (i64 p2.into), (ls eI p2.args), (ls eBlock p2.kids)]]⟩]) [0, 1] rfl .nil (by decide) rfl rfl (.raw rfl rfl (.raw rfl rfl .nil)) ⟨.rfl, .rfl, .rfl, .rfl, trivial⟩))
        ·refine zg tb b55 rfl (zg tb b55 rfl (ao_q (v := (i64 (Sh.len p2.kids))) (go1 rfl rfl b55) rfl (aq_lens sl108 rfl) (zg tb b55 rfl (zf b55 rfl ?_))))
         exact AO.done (M46 (!decide ((Sh.len p2.kids) = 2)) (Sh.some_eq h1).symm _ (Wk.permk (L := [(1, (ls eI p1)), (3, (.ptr 0 0 0 0)), (5, (.ptr 1 0 0 0)), (141, (.bool (!decide ((Sh.len p2.kids) = 2))))]) (st' := [⟨0, 102, 2, [(eRSignatures p0)]⟩, ⟨0, 110, 5, [[(i64 p2.op), (i64 p2.num), (i64 p2.into), (ls eI p2.args), (ls eBlock p2.kids)]]⟩]) (st1 := [⟨0, 102, 2, [(eRSignatures p0)]⟩, ⟨0, 110, 5, [[(i64 p2.op), (i64 p2.num), (i64 p2.into), (ls eI p2.args), (ls eBlock p2.kids)]]⟩]) [0, 1] rfl .nil (by decide) rfl rfl (.raw rfl rfl (.raw rfl rfl .nil)) ⟨.rfl, .rfl, .rfl, .rfl, trivial⟩))
     ·intro b42 h0
      refine zr tb rfl rfl ?_
      refine ci h0 rfl ?_ ?_ <;> clear h0
      ·intro b57 h0
       refine sr rfl fun K58 hK58 => zm tb 3 rfl (bs h0 fun q59 gq59 h0 => ao_call (v' := (ow 3 0 q59)) (st' := [⟨0, 102, 2, [(eRSignatures p0)]⟩, ⟨0, 110, 5, [[(i64 p2.op), (i64 p2.num), (i64 p2.into), (ls eI p2.args), (ls eBlock p2.kids)]]⟩, (ro 0 3 1 eI l8), (ro 0 22 1 (eS eI) q59)]) go0 hb109 (impl_signatures_armFields_ok gq59) rfl rfl ⟨(pure_map' fun _ => rfl), trivial⟩ rfl rfl (zq tb rfl (dn hK58 rfl (AW.seq fun K60 hK60 => AW.seq fun K61 hK61 => bs h0 fun o63 h1 h0 => ?_))))
       have M63 : ∀ (t62 : Bool), o63 = t62 → ∀ s, Wk 0 s ⟨233, envL [(1, (ls eI p1)), (3, (.ptr 0 0 0 0)), (5, (.ptr 1 0 0 0)), (14, (ow 2 0 q59)), (181, (.bool t62))], [⟨0, 102, 2, [(eRSignatures p0)]⟩, ⟨0, 110, 5, [[(i64 p2.op), (i64 p2.num), (i64 p2.into), (ls eI p2.args), (ls eBlock p2.kids)]]⟩, (ro 0 22 1 (eS eI) q59)]⟩ → K61 s := by
        intro t62 hq s hw
        subst o63
        try dsimp only at h0
        refine hK61 _ (AW.weaken hw ?_)
        refine ci h0 rfl ?_ ?_ <;> clear h0
        ·intro b64 h0
         refine zr tb rfl rfl ?_
         replace h0 := Sh.some_eq h0
         subst r
         exact AW.ret (xr (Wk.d0 [(6, (i64 (-1))), (7, (.bool false))] rfl))
        ·intro b64 h0
         refine AW.skip (hK60 _ (sr rfl fun K66 hK66 => zm tb 5 rfl (AO.weaken (Wk.frz (L := [(182, (.agg (eRSignatures p0))), (183, (ls eI p1)), (185, (ls eBlock p2.kids)), (186, (ls (eS eI) q59))]) (st' := [⟨0, 102, 2, [(eRSignatures p0)]⟩, ⟨0, 110, 5, [[(i64 p2.op), (i64 p2.num), (i64 p2.into), (ls eI p2.args), (ls eBlock p2.kids)]]⟩, ⟨1, 22, 1, []⟩]) (id := 2) rfl (show 0 ≤ 2 by decide) (pure_map fun _ => rfl) ⟨.rfl, .rfl, .rfl, (.frz rfl), trivial⟩ rfl) (bs h0 fun q67 gq67 h0 => zc (v' := (.tup [(i64 q67.1), (.bool q67.2)])) hb108 (impl_signatures_kidsType_ok hrec_impl_signatures_blockType gq67) rfl rfl rfl (zm tb 4 rfl (dn hK66 rfl ?_))))))
         replace h0 := Sh.some_eq h0
         subst r
         exact AW.ret (xr (Wk.d0 [(6, (i64 q67.1)), (7, (.bool q67.2))] rfl))
       refine AW.draw (by kernel_rfl) (by kernel_rfl) (by rfl) ?_
       refine yq tb rfl (yz (i64 (Sh.len l8)) (aq_leno sl22 rfl rfl rfl) rfl ?_)
       iterate 2 refine yq tb rfl ?_
       rcases Sh.ite_some h1 with ⟨b68, h1⟩ | ⟨b68, h1⟩
       ·refine ys b68 rfl ?_
        iterate 5 refine ys b68 rfl ?_
        refine yt b68 rfl (yq tb rfl ?_)
        iterate 3 refine ys rfl rfl ?_
        refine yt rfl rfl (yq tb rfl ?_)
        iterate 6 refine ys rfl rfl ?_
        refine yt rfl rfl ?_
        exact d_done (M63 true (Sh.some_eq h1).symm _ (Wk.permk (L := [(1, (ls eI p1)), (3, (.ptr 0 0 0 0)), (5, (.ptr 1 0 0 0)), (14, (ow 2 0 q59)), (181, (.bool true))]) (st' := [⟨0, 102, 2, [(eRSignatures p0)]⟩, ⟨0, 110, 5, [[(i64 p2.op), (i64 p2.num), (i64 p2.into), (ls eI p2.args), (ls eBlock p2.kids)]]⟩, (ro 0 22 1 (eS eI) q59)]) (st1 := [⟨0, 102, 2, [(eRSignatures p0)]⟩, ⟨0, 110, 5, [[(i64 p2.op), (i64 p2.num), (i64 p2.into), (ls eI p2.args), (ls eBlock p2.kids)]]⟩, (ro 0 22 1 (eS eI) q59)]) [0, 1, 3] rfl .nil (by decide) rfl rfl (.raw rfl rfl (.raw rfl rfl (.pure (pure_map fun _ => rfl) .nil))) ⟨.rfl, .rfl, .rfl, .rfl, .rfl, trivial⟩))
       ·refine yg tb b68 rfl (bs h1 fun c69 gc69 h1 => d_q (v := (.ptr 2 0 (Int.toNat 0) 0)) (go1 rfl rfl b68) rfl (aq_ixo ei22 rfl rfl rfl rfl gc69) (d_q (v := (i64 c69)) (go1 rfl rfl b68) rfl (aq_ldp ti3 rfl rfl (map_get gc69) rfl) ?_))
        iterate 3 refine yg tb b68 rfl ?_
        refine yf b68 rfl (yq tb rfl ?_)
        rcases Sh.ite_some h1 with ⟨b70, h1⟩ | ⟨b70, h1⟩
        ·refine ys b70 rfl ?_
         iterate 2 refine ys b70 rfl ?_
         refine yt b70 rfl (yq tb rfl ?_)
         iterate 6 refine ys rfl rfl ?_
         refine yt rfl rfl ?_
         exact d_done (M63 true (Sh.some_eq h1).symm _ (Wk.permk (L := [(1, (ls eI p1)), (3, (.ptr 0 0 0 0)), (5, (.ptr 1 0 0 0)), (14, (ow 2 0 q59)), (181, (.bool true))]) (st' := [⟨0, 102, 2, [(eRSignatures p0)]⟩, ⟨0, 110, 5, [[(i64 p2.op), (i64 p2.num), (i64 p2.into), (ls eI p2.args), (ls eBlock p2.kids)]]⟩, (ro 0 22 1 (eS eI) q59)]) (st1 := [⟨0, 102, 2, [(eRSignatures p0)]⟩, ⟨0, 110, 5, [[(i64 p2.op), (i64 p2.num), (i64 p2.into), (ls eI p2.args), (ls eBlock p2.kids)]]⟩, (ro 0 22 1 (eS eI) q59)]) [0, 1, 3] rfl .nil (by decide) rfl rfl (.raw rfl rfl (.raw rfl rfl (.pure (pure_map fun _ => rfl) .nil))) ⟨.rfl, .rfl, .rfl, .rfl, .rfl, trivial⟩))
        ·refine yg tb b70 rfl (d_q (v := (i64 (Sh.len q59))) (go1 rfl rfl b70) rfl (aq_leno sl161 rfl rfl rfl) (yg tb b70 rfl (yf b70 rfl (yq tb rfl ?_))))
         rcases Sh.ite_some h1 with ⟨b71, h1⟩ | ⟨b71, h1⟩
         ·refine ys b71 rfl ?_
          iterate 5 refine ys b71 rfl ?_
          refine yt b71 rfl ?_
          exact d_done (M63 true (Sh.some_eq h1).symm _ (Wk.permk (L := [(1, (ls eI p1)), (3, (.ptr 0 0 0 0)), (5, (.ptr 1 0 0 0)), (14, (ow 2 0 q59)), (181, (.bool true))]) (st' := [⟨0, 102, 2, [(eRSignatures p0)]⟩, ⟨0, 110, 5, [[(i64 p2.op), (i64 p2.num), (i64 p2.into), (ls eI p2.args), (ls eBlock p2.kids)]]⟩, (ro 0 22 1 (eS eI) q59)]) (st1 := [⟨0, 102, 2, [(eRSignatures p0)]⟩, ⟨0, 110, 5, [[(i64 p2.op), (i64 p2.num), (i64 p2.into), (ls eI p2.args), (ls eBlock p2.kids)]]⟩, (ro 0 22 1 (eS eI) q59)]) [0, 1, 3] rfl .nil (by decide) rfl rfl (.raw rfl rfl (.raw rfl rfl (.pure (pure_map fun _ => rfl) .nil))) ⟨.rfl, .rfl, .rfl, .rfl, .rfl, trivial⟩))
         ·refine yg tb b71 rfl (yg tb b71 rfl (d_q (v := (i64 (Sh.len p2.kids))) (go1 rfl rfl b71) rfl (aq_lens sl108 rfl) (yg tb b71 rfl (d_q (v := (i64 (Sh.len q59))) (go1 rfl rfl b71) rfl (aq_leno sl161 rfl rfl rfl) (yg tb b71 rfl (yf b71 rfl ?_))))))
          exact d_done (M63 (!decide ((Sh.len p2.kids) = (Sh.len q59))) (Sh.some_eq h1).symm _ (Wk.permk (L := [(1, (ls eI p1)), (3, (.ptr 0 0 0 0)), (5, (.ptr 1 0 0 0)), (14, (ow 2 0 q59)), (181, (.bool (!decide ((Sh.len p2.kids) = (Sh.len q59)))))]) (st' := [⟨0, 102, 2, [(eRSignatures p0)]⟩, ⟨0, 110, 5, [[(i64 p2.op), (i64 p2.num), (i64 p2.into), (ls eI p2.args), (ls eBlock p2.kids)]]⟩, (ro 0 22 1 (eS eI) q59)]) (st1 := [⟨0, 102, 2, [(eRSignatures p0)]⟩, ⟨0, 110, 5, [[(i64 p2.op), (i64 p2.num), (i64 p2.into), (ls eI p2.args), (ls eBlock p2.kids)]]⟩, (ro 0 22 1 (eS eI) q59)]) [0, 1, 3] rfl .nil (by decide) rfl rfl (.raw rfl rfl (.raw rfl rfl (.pure (pure_map fun _ => rfl) .nil))) ⟨.rfl, .rfl, .rfl, .rfl, .rfl, trivial⟩))
      ·intro b57 h0
       refine AW.seq fun K72 hK72 => bs h0 fun o74 h1 h0 => ?_
       have M74 : ∀ (t73 : Bool), o74 = t73 → ∀ s, Wk 0 s ⟨233, envL [(3, (.ptr 0 0 0 0)), (5, (.ptr 1 0 0 0)), (8, (ow 2 0 l8)), (190, (.bool t73))], [⟨0, 102, 2, [(eRSignatures p0)]⟩, ⟨0, 110, 5, [[(i64 p2.op), (i64 p2.num), (i64 p2.into), (ls eI p2.args), (ls eBlock p2.kids)]]⟩, (ro 0 3 1 eI l8)]⟩ → K72 s := by
        intro t73 hq s hw
        subst o74
        try dsimp only at h0
        refine hK72 _ (AW.weaken hw ?_)
        refine ci h0 rfl ?_ ?_ <;> clear h0
        ·intro b75 h0
         refine zr tb rfl rfl ?_
         replace h0 := Sh.some_eq h0
         subst r
         exact AW.ret (xr (Wk.d0 [(6, (i64 (-1))), (7, (.bool false))] rfl))
        ·intro b75 h0
         refine AW.skip (hK16 _ (sr rfl fun K77 hK77 => zm tb 6 rfl (AO.weaken (Wk.frz (L := [(224, (.agg (eRSignatures p0))), (226, (i64 p2.op)), (228, (i64 p2.num)), (229, (ls eI l8))]) (st' := [⟨0, 102, 2, [(eRSignatures p0)]⟩, ⟨0, 110, 5, [[(i64 p2.op), (i64 p2.num), (i64 p2.into), (ls eI p2.args), (ls eBlock p2.kids)]]⟩, ⟨1, 3, 1, []⟩]) (id := 2) rfl (show 0 ≤ 2 by decide) (pure_map fun _ => rfl) ⟨.rfl, .rfl, .rfl, (.frz rfl), trivial⟩ rfl) (bs h0 fun q78 gq78 h0 => zc (v' := (.tup [(i64 q78.1), (.bool q78.2)])) hb110 (impl_signatures_simpleType_ok gq78) rfl rfl rfl (zm tb 4 rfl (dn hK77 rfl ?_))))))
         replace h0 := Sh.some_eq h0
         subst r
         exact AW.ret (xr (Wk.d0 [(6, (i64 q78.1)), (7, (.bool q78.2))] rfl))
       refine AW.regionO rfl (zm tb 2 rfl (zl tb rfl rfl (zm tb 2 rfl ?_)))
       rcases Sh.ite_some h1 with ⟨b79, h1⟩ | ⟨b79, h1⟩
       ·refine zs b79 rfl ?_
        iterate 3 refine zs b79 rfl ?_
        iterate 3 refine zn rfl ?_
        refine zs b79 rfl (zs b79 rfl ?_)
        iterate 6 refine zn rfl ?_
        refine zs b79 rfl (zs b79 rfl ?_)
        iterate 9 refine zn rfl ?_
        exact zs b79 rfl (zt b79 rfl (zq tb rfl (AO.done (M74 true (Sh.some_eq h1).symm _ (Wk.tr rfl)))))
       ·refine zg tb b79 rfl ?_
        iterate 3 refine zg tb b79 rfl ?_
        rcases Sh.ite_some h1 with ⟨b80, h1⟩ | ⟨b80, h1⟩
        ·refine zg tb b80 rfl (zg tb b80 rfl (zg tb b80 rfl (ao_q (v := (.bool (decide (0 ≤ p2.num)))) (go1 rfl rfl b79) rfl (aq_pkt rfl b80 rfl) (zg tb b79 rfl ?_))))
         rcases Sh.ite_some h1 with ⟨b81, h1⟩ | ⟨b81, h1⟩
         ·refine zg tb b81 rfl ?_
          iterate 3 refine zg tb b81 rfl ?_
          refine ao_q (v := (i64 (Sh.len p0.funcs))) (go1 rfl rfl b81) rfl (aq_lens sl100 rfl) (zg tb b81 rfl (ao_q (v := (.bool (decide (p2.num < (Sh.len p0.funcs))))) (go1 rfl rfl b79) rfl (aq_pkt rfl b81 rfl) (zg tb b79 rfl ?_)))
          rcases Sh.ite_some h1 with ⟨b82, h1⟩ | ⟨b82, h1⟩
          ·refine zg tb b82 rfl ?_
           iterate 3 refine zg tb b82 rfl ?_
           exact bs h1 fun c83 gc83 h1 => ao_q (v := (.iptr (eRSignature c83) 0)) (go1 rfl rfl b82) rfl (aq_ixs ei100 rfl rfl gc83 rfl) (zg tb b82 rfl (zg tb b82 rfl (ao_q (v := (i64 (Sh.len c83.lent))) (go1 rfl rfl b82) rfl (aq_lens sl22 rfl) (zg tb b82 rfl (ao_q (v := (.bool (decide (0 < (Sh.len c83.lent))))) (go1 rfl rfl b79) rfl (aq_pkt rfl b82 rfl) (zf b79 rfl (zq tb rfl (AO.done (M74 (decide (0 < (Sh.len c83.lent))) (Sh.some_eq h1).symm _ (Wk.tr rfl))))))))))
          ·refine zs b82 rfl ?_
           iterate 8 refine zs b82 rfl ?_
           exact ao_q (v := (.bool false)) (go1 rfl rfl b79) rfl (aq_pkf rfl b82 rfl) (zf b79 rfl (zq tb rfl (AO.done (M74 false (Sh.some_eq h1).symm _ (Wk.tr rfl)))))
         ·refine zs b81 rfl ?_
          iterate 5 refine zs b81 rfl ?_
          refine ao_q (v := (.bool false)) (go1 rfl rfl b79) rfl (aq_pkf rfl b81 rfl) (zg tb b79 rfl ?_)
          iterate 9 refine zs rfl rfl ?_
          exact ao_q (v := (.bool false)) (go1 rfl rfl b79) rfl (aq_pkf rfl rfl rfl) (zf b79 rfl (zq tb rfl (AO.done (M74 false (Sh.some_eq h1).symm _ (Wk.tr rfl)))))
        ·refine zs b80 rfl (zs b80 rfl (zs b80 rfl (ao_q (v := (.bool false)) (go1 rfl rfl b79) rfl (aq_pkf rfl b80 rfl) (zg tb b79 rfl ?_))))
         iterate 6 refine zs rfl rfl ?_
         refine ao_q (v := (.bool false)) (go1 rfl rfl b79) rfl (aq_pkf rfl rfl rfl) (zg tb b79 rfl ?_)
         iterate 9 refine zs rfl rfl ?_
         exact ao_q (v := (.bool false)) (go1 rfl rfl b79) rfl (aq_pkf rfl rfl rfl) (zf b79 rfl (zq tb rfl (AO.done (M74 false (Sh.some_eq h1).symm _ (Wk.tr rfl)))))
  refine AW.regionO rfl (zm tb 4 rfl ?_)
  rcases Sh.ite_some h1 with ⟨b84, h1⟩ | ⟨b84, h1⟩
  ·refine zg tb b84 rfl ?_
   iterate 3 refine zg tb b84 rfl ?_
   rcases Sh.ite_some h1 with ⟨b85, h1⟩ | ⟨b85, h1⟩
   ·refine zs b85 rfl (zs b85 rfl (zs b85 rfl (ao_q (v := (.bool true)) (go1 rfl rfl b84) rfl (aq_pkt rfl b85 rfl) (zg tb b84 rfl ?_))))
    iterate 5 refine zs rfl rfl ?_
    refine ao_q (v := (.bool true)) (go1 rfl rfl b84) rfl (aq_pkt rfl rfl rfl) (zg tb b84 rfl ?_)
    iterate 7 refine zs rfl rfl ?_
    exact ao_q (v := (.bool true)) (go1 rfl rfl b84) rfl (aq_pkt rfl rfl rfl) (zt b84 rfl (AO.done (M13 true (Sh.some_eq h1).symm _ (Wk.tr rfl))))
   ·refine zg tb b85 rfl (zg tb b85 rfl (zg tb b85 rfl (ao_q (v := (.bool (decide (p2.into < 1)))) (go1 rfl rfl b84) rfl (aq_pkf rfl b85 rfl) (zg tb b84 rfl ?_))))
    rcases Sh.ite_some h1 with ⟨b86, h1⟩ | ⟨b86, h1⟩
    ·refine zs b86 rfl ?_
     iterate 4 refine zs b86 rfl ?_
     refine ao_q (v := (.bool true)) (go1 rfl rfl b84) rfl (aq_pkt rfl b86 rfl) (zg tb b84 rfl ?_)
     iterate 7 refine zs rfl rfl ?_
     exact ao_q (v := (.bool true)) (go1 rfl rfl b84) rfl (aq_pkt rfl rfl rfl) (zt b84 rfl (AO.done (M13 true (Sh.some_eq h1).symm _ (Wk.tr rfl))))
    ·refine zg tb b86 rfl (zg tb b86 rfl (zg tb b86 rfl (ao_q (v := (i64 (Sh.len p1))) (go1 rfl rfl b86) rfl (aq_lens sl22 rfl) (zg tb b86 rfl (ao_q (v := (.bool (decide ((Sh.len p1) < p2.into)))) (go1 rfl rfl b84) rfl (aq_pkf rfl b86 rfl) (zg tb b84 rfl ?_))))))
     rcases Sh.ite_some h1 with ⟨b87, h1⟩ | ⟨b87, h1⟩
     ·refine zs b87 rfl ?_
      iterate 6 refine zs b87 rfl ?_
      exact ao_q (v := (.bool true)) (go1 rfl rfl b84) rfl (aq_pkt rfl b87 rfl) (zt b84 rfl (AO.done (M13 true (Sh.some_eq h1).symm _ (Wk.tr rfl))))
     ·refine zg tb b87 rfl ?_
      iterate 3 refine zg tb b87 rfl ?_
      exact bs h1 fun c88 gc88 h1 => ao_q (v := (.iptr (eI c88) 0)) (go1 rfl rfl b87) rfl (aq_ixs ei22 rfl rfl gc88 rfl) (zg tb b87 rfl (zg tb b87 rfl (ao_q (v := (.bool (decide (c88 = 0)))) (go1 rfl rfl b84) rfl (aq_pkf rfl b87 rfl) (zt b84 rfl (AO.done (M13 (decide (c88 = 0)) (Sh.some_eq h1).symm _ (Wk.tr rfl)))))))
  ·refine zs b84 rfl ?_
   iterate 3 refine zs b84 rfl ?_
   iterate 3 refine zn rfl ?_
   refine zs b84 rfl (zs b84 rfl ?_)
   iterate 5 refine zn rfl ?_
   refine zs b84 rfl (zs b84 rfl ?_)
   iterate 7 refine zn rfl ?_
   exact zs b84 rfl (zf b84 rfl (AO.done (M13 false (Sh.some_eq h1).symm _ (Wk.tr rfl))))
 refine AW.block (AW.loopF (σ := Int × (List Int)) (fun n v => impl_signatures_stepType_L1 p1 p2 n v.1 v.2 = some o9) (fun (t6, l7) => ⟨233, envL [(1, (ls eI p1)), (3, (.ptr 0 0 0 0)), (5, (.ptr 1 0 0 0)), (8, (ow 2 0 l7)), (20, (ls eI p2.args)), (21, (i64 (Sh.len p2.args))), (22, (i64 t6))], [⟨0, 102, 2, [(eRSignatures p0)]⟩, ⟨0, 110, 5, [[(i64 p2.op), (i64 p2.num), (i64 p2.into), (ls eI p2.args), (ls eBlock p2.kids)]]⟩, (ro 0 3 1 eI l7)]⟩) N (0, []) h1 (Wk.tr rfl) (fun _ hv => by rw [impl_signatures_stepType_L1] at hv; cases hv) ?_)
 rintro n ⟨t6, l7⟩ h1
 try dsimp only at h1 ⊢
 rw [impl_signatures_stepType_L1] at h1
 refine zr tb rfl rfl (AW.seq fun K90 hK90 => ?_)
 refine ci h1 rfl ?_ ?_ <;> clear h1
 ·intro b91 h1
  refine AW.skip (hK90 _ (AW.seq fun K92 hK92 => AW.block (sr rfl fun K93 hK93 => bs h1 fun c94 gc94 h1 => zx ei22 gc94 rfl rfl rfl (zm tb 2 rfl (dn hK93 rfl (AW.seq fun K95 hK95 => AW.seq fun K96 hK96 => bs h1 fun o98 h2 h1 => ?_))))))
  have M98 : ∀ (t97 : Bool), o98 = t97 → ∀ s, Wk 0 s ⟨233, envL [(1, (ls eI p1)), (3, (.ptr 0 0 0 0)), (5, (.ptr 1 0 0 0)), (8, (ow 2 0 l7)), (10, (i64 c94)), (20, (ls eI p2.args)), (21, (i64 (Sh.len p2.args))), (22, (i64 t6)), (33, (.bool t97))], [⟨0, 102, 2, [(eRSignatures p0)]⟩, ⟨0, 110, 5, [[(i64 p2.op), (i64 p2.num), (i64 p2.into), (ls eI p2.args), (ls eBlock p2.kids)]]⟩, (ro 0 3 1 eI l7)]⟩ → K96 s := by
   intro t97 hq s hw
   subst o98
   try dsimp only at h1
   refine hK96 _ (AW.weaken hw ?_)
   refine ci h1 rfl ?_ ?_ <;> clear h1
   ·intro b99 h1
    refine zr tb rfl rfl ?_
    replace h1 := Sh.some_eq h1
    subst o9
    try dsimp only [id] at h0
    replace h0 := Sh.some_eq h0
    subst r
    exact AW.ret (xr (Wk.d0 [(6, (i64 (-1))), (7, (.bool false))] rfl))
   ·intro b99 h1
    refine AW.skip (hK95 _ (AW.regionO rfl (zm tb 3 rfl (bs h1 fun c101 gc101 h1 => zx ei22 gc101 rfl rfl rfl (zq tb rfl ?_)))))
    refine ao_bs (m := 3) (st' := [⟨0, 102, 2, [(eRSignatures p0)]⟩, ⟨0, 110, 5, [[(i64 p2.op), (i64 p2.num), (i64 p2.into), (ls eI p2.args), (ls eBlock p2.kids)]]⟩, (ro 0 3 1 eI l7), (ro 0 3 1 eI [c101])]) (l := [c101]) (enc := eI) go0 ei22 (by decide) rfl rfl rfl rfl rfl rfl ?_
    refine bs h1 fun l102 gl102 h1 => ao_apo (st' := [⟨0, 102, 2, [(eRSignatures p0)]⟩, ⟨0, 110, 5, [[(i64 p2.op), (i64 p2.num), (i64 p2.into), (ls eI p2.args), (ls eBlock p2.kids)]]⟩, (ro 1 3 1 eI l102), (ro 0 3 1 eI [c101])]) (l2 := [c101]) go0 ei22 rfl rfl rfl rfl (el_o rfl rfl) (fun _ => rfl) gl102 rfl (zq tb rfl (dn hK92 rfl (AW.regionO rfl (zm tb 2 rfl ?_))))
    exact AO.done (xi (Sh.w (t6 + 1), l102) h1 (by refine Wk.trans (Wk.rg (L := [(1, (ls eI p1)), (3, (.ptr 0 0 0 0)), (5, (.ptr 1 0 0 0)), (8, (ow 2 0 l102)), (20, (ls eI p2.args)), (21, (i64 (Sh.len p2.args))), (22, (i64 (Sh.w (t6 + 1))))]) (st' := [⟨0, 102, 2, [(eRSignatures p0)]⟩, ⟨0, 110, 5, [[(i64 p2.op), (i64 p2.num), (i64 p2.into), (ls eI p2.args), (ls eBlock p2.kids)]]⟩, (ro 0 3 1 eI l102), (ro 0 3 1 eI [c101])]) (.raw rfl rfl (.raw rfl rfl (.pure (pure_map fun _ => rfl) (.pure (pure_map fun _ => rfl) .nil)))) ⟨.rfl, .rfl, .rfl, .rfl, .rfl, .rfl, .rfl, trivial⟩) ?_; exact Wk.permk (L := [(1, (ls eI p1)), (3, (.ptr 0 0 0 0)), (5, (.ptr 1 0 0 0)), (8, (ow 2 0 l102)), (20, (ls eI p2.args)), (21, (i64 (Sh.len p2.args))), (22, (i64 (Sh.w (t6 + 1))))]) (st' := [⟨0, 102, 2, [(eRSignatures p0)]⟩, ⟨0, 110, 5, [[(i64 p2.op), (i64 p2.num), (i64 p2.into), (ls eI p2.args), (ls eBlock p2.kids)]]⟩, (ro 0 3 1 eI l102)]) (st1 := [⟨0, 102, 2, [(eRSignatures p0)]⟩, ⟨0, 110, 5, [[(i64 p2.op), (i64 p2.num), (i64 p2.into), (ls eI p2.args), (ls eBlock p2.kids)]]⟩, (ro 0 3 1 eI l102)]) [0, 1, 2] rfl .nil (by decide) rfl rfl (.raw rfl rfl (.raw rfl rfl (.pure (pure_map fun _ => rfl) .nil))) ⟨.rfl, .rfl, .rfl, .rfl, .rfl, .rfl, .rfl, trivial⟩))
  refine AW.regionO rfl (zm tb 3 rfl ?_)
  rcases Sh.ite_some h2 with ⟨b103, h2⟩ | ⟨b103, h2⟩
  ·refine zs b103 rfl ?_
   iterate 3 refine zs b103 rfl ?_
   exact zt b103 rfl (AO.done (M98 true (Sh.some_eq h2).symm _ (Wk.tr rfl)))
  ·exact zg tb b103 rfl (zg tb b103 rfl (ao_q (v := (i64 (Sh.len p1))) (go1 rfl rfl b103) rfl (aq_lens sl22 rfl) (zg tb b103 rfl (zf b103 rfl (AO.done (M98 (decide ((Sh.len p1) ≤ c94)) (Sh.some_eq h2).symm _ (Wk.tr rfl)))))))
 ·intro b91 h1
  exact AW.exit (M9 l7 (Sh.some_eq h1).symm _ (Wk.tr rfl))
end Go.Proofs.Ytcegihniiokijaa

