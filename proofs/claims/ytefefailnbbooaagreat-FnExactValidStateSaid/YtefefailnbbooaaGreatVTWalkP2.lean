import Derived.Test.YtefefailnbbooaaGreatProg
import Derived.Test.YtefefailnbbooaaGreatVSDefs
import Derived.Test.YtefefailnbbooaaGreatVTWalkP1
namespace Go.Proofs.YtefefailnbbooaaGreat
open Go Go.Abs RC
attribute [local irreducible] Go.Abs.dops
set_option maxRecDepth 100000
set_option maxHeartbeats 4000000

theorem ai153 : allInfo Tryz.prog 153 = true := by kernel_rfl
theorem bi153 : finfos Tryz.prog 153 = some [(0, 1)] := by kernel_rfl
theorem hb100 : hasBody Tryz.prog 100 = true := by kernel_rfl
theorem hb110 : hasBody Tryz.prog 110 = true := by kernel_rfl
theorem hb45 : hasBody Tryz.prog 45 = true := by kernel_rfl
theorem hb46 : hasBody Tryz.prog 46 = true := by kernel_rfl
theorem hb47 : hasBody Tryz.prog 47 = true := by kernel_rfl
theorem hb49 : hasBody Tryz.prog 49 = true := by kernel_rfl
theorem hb50 : hasBody Tryz.prog 50 = true := by kernel_rfl
theorem hb71 : hasBody Tryz.prog 71 = true := by kernel_rfl
theorem hb72 : hasBody Tryz.prog 72 = true := by kernel_rfl
theorem hb73 : hasBody Tryz.prog 73 = true := by kernel_rfl
theorem hb74 : hasBody Tryz.prog 74 = true := by kernel_rfl
theorem hb75 : hasBody Tryz.prog 75 = true := by kernel_rfl
theorem hb76 : hasBody Tryz.prog 76 = true := by kernel_rfl
theorem hb77 : hasBody Tryz.prog 77 = true := by kernel_rfl
theorem hb78 : hasBody Tryz.prog 78 = true := by kernel_rfl
theorem hb79 : hasBody Tryz.prog 79 = true := by kernel_rfl
theorem hb97 : hasBody Tryz.prog 97 = true := by kernel_rfl
theorem hb98 : hasBody Tryz.prog 98 = true := by kernel_rfl
theorem hb99 : hasBody Tryz.prog 99 = true := by kernel_rfl
theorem sl35 : isSliceT Tryz.prog 35 = true := by kernel_rfl
theorem ti102 : tinfo Tryz.prog 102 = some (false, 1) := by kernel_rfl
theorem zi102 : zinfo Tryz.prog 102 = some [.nilf] := by kernel_rfl

theorem impl_signatures_instrValid_2_ok {s1_0 : Int} {s2_0 : (List Int)} {s2_1 : (List Int)} {s2_2 : Int} {s2_3 : Int} {s2_4 : (List RInstr)} {p0 : Int} {r : Bool} (h0 : impl_signatures_instrValid_2 s1_0 s2_0 s2_1 s2_2 s2_3 s2_4 p0 = some r) : ACalls Tryz.prog 73 [(i64 p0), (.ptr 0 0 0 0)] [⟨0, 102, 1, [[(.fn 72 [(.ptr 1 0 0 0), (.ptr 2 0 0 0)])]]⟩, ⟨0, 3, 1, [[(i64 s1_0)]]⟩, ⟨0, 88, 5, [[(.sl (List.map eI s2_0)), (.sl (List.map eI s2_1)), (i64 s2_2), (i64 s2_3), (.sl (List.map eRInstr s2_4))]]⟩] (fun v st => v = (.bool r) ∧ st = [⟨0, 102, 1, [[(.fn 72 [(.ptr 1 0 0 0), (.ptr 2 0 0 0)])]]⟩, ⟨0, 3, 1, [[(i64 s1_0)]]⟩, ⟨0, 88, 5, [[(.sl (List.map eI s2_0)), (.sl (List.map eI s2_1)), (i64 s2_2), (i64 s2_3), (.sl (List.map eRInstr s2_4))]]⟩]) := by
 unfold impl_signatures_instrValid_2 at h0
 refine ACalls.intro Tryz.func73 rfl (by show 2 ≤ 8; decide) ?_
 show AW _ 3 _ (aret _ 3 Tryz.f73 _) ⟨8, _, _⟩
 refine AW.weaken (Wk.to (L := [(0, (i64 p0)), (1, (.ptr 0 0 0 0))]) ⟨.rfl, .rfl, trivial⟩) ?_
 refine sr rfl fun K1 hK1 => ?_
 refine zq tb rfl ?_
 refine dn hK1 rfl ?_
 refine sr rfl fun K2 hK2 => ?_
 iterate 2 refine zq tb rfl ?_
 obtain ⟨q3, gq3, h0⟩ := Sh.bind_some h0
 refine ao_callst (rowsP := [⟨0, 3, 1, [[(i64 s1_0)]]⟩, ⟨0, 88, 5, [[(.sl (List.map eI s2_0)), (.sl (List.map eI s2_1)), (i64 s2_2), (i64 s2_3), (.sl (List.map eRInstr s2_4))]]⟩]) (rows0 := [⟨0, 3, 1, [[(i64 s1_0)]]⟩, ⟨0, 88, 5, [[(.sl (List.map eI s2_0)), (.sl (List.map eI s2_1)), (i64 s2_2), (i64 s2_3), (.sl (List.map eRInstr s2_4))]]⟩]) (rows1 := [⟨0, 3, 1, [[(i64 s1_0)]]⟩, ⟨0, 88, 5, [[(.sl (List.map eI s2_0)), (.sl (List.map eI s2_1)), (i64 s2_2), (i64 s2_3), (.sl (List.map eRInstr s2_4))]]⟩]) (rows2 := []) (rows1' := [⟨0, 3, 1, [[(i64 s1_0)]]⟩, ⟨0, 88, 5, [[(.sl (List.map eI s2_0)), (.sl (List.map eI s2_1)), (i64 s2_2), (i64 s2_3), (.sl (List.map eRInstr s2_4))]]⟩]) (rows2' := []) (st' := [⟨0, 102, 1, [[(.fn 72 [(.ptr 1 0 0 0), (.ptr 2 0 0 0)])]]⟩, ⟨0, 3, 1, [[(i64 s1_0)]]⟩, ⟨0, 88, 5, [[(.sl (List.map eI s2_0)), (.sl (List.map eI s2_1)), (i64 s2_2), (i64 s2_3), (.sl (List.map eRInstr s2_4))]]⟩]) (v' := (.bool q3)) [1, 2] go0 rfl hb72 (impl_signatures_instrValid_1_ok gq3) rfl (by decide) rfl rfl (.raw rfl rfl (.raw rfl rfl .nil)) rfl rfl (.raw rfl rfl (.raw rfl rfl .nil)) .nil rfl rfl ?_
 iterate 2 refine zq tb rfl ?_
 refine dn hK2 rfl ?_
 replace h0 := Sh.some_eq h0
 subst r
 exact AW.ret (xr (Wk.to (L := [(3, (.bool (!q3)))]) ⟨.rfl, trivial⟩))
theorem slices_IndexFunc_int_int_ok {N : Nat} {s1_0 : Int} {s2_0 : (List Int)} {s2_1 : (List Int)} {s2_2 : Int} {s2_3 : Int} {s2_4 : (List RInstr)} {p0 : (List Int)} {r : Int} (h0 : slices_IndexFunc_int_int N s1_0 s2_0 s2_1 s2_2 s2_3 s2_4 p0 = some r) : ACalls Tryz.prog 79 [(.sl (List.map eI p0)), (.fn 73 [(.ptr 0 0 0 0)])] [⟨0, 102, 1, [[(.fn 72 [(.ptr 1 0 0 0), (.ptr 2 0 0 0)])]]⟩, ⟨0, 3, 1, [[(i64 s1_0)]]⟩, ⟨0, 88, 5, [[(.sl (List.map eI s2_0)), (.sl (List.map eI s2_1)), (i64 s2_2), (i64 s2_3), (.sl (List.map eRInstr s2_4))]]⟩] (fun v st => v = (i64 r) ∧ st = [⟨0, 102, 1, [[(.fn 72 [(.ptr 1 0 0 0), (.ptr 2 0 0 0)])]]⟩, ⟨0, 3, 1, [[(i64 s1_0)]]⟩, ⟨0, 88, 5, [[(.sl (List.map eI s2_0)), (.sl (List.map eI s2_1)), (i64 s2_2), (i64 s2_3), (.sl (List.map eRInstr s2_4))]]⟩]) := by
 unfold slices_IndexFunc_int_int at h0
 refine ACalls.intro Tryz.func79 rfl (by show 2 ≤ 19; decide) ?_
 show AW _ 3 _ (aret _ 3 Tryz.f79 _) ⟨19, _, _⟩
 refine AW.weaken (Wk.to (L := [(0, (.sl (List.map eI p0))), (1, (.fn 73 [(.ptr 0 0 0 0)]))]) ⟨.rfl, .rfl, trivial⟩) ?_
 refine sr rfl fun K1 hK1 => ?_
 refine zq tb rfl ?_
 refine dn hK1 rfl ?_
 refine AW.seq fun K2 hK2 => ?_
 refine sr rfl fun K3 hK3 => ?_
 refine zq tb rfl ?_
 refine zl tb rfl rfl ?_
 refine zq tb rfl ?_
 refine dn hK3 rfl ?_
 obtain ⟨o5, h1, h0⟩ := Sh.cont_some h0
 have M5 : ∀ (_ : Unit), o5 = Sum.inr () → ∀ s, Wk 3 s ⟨19, envL [], [⟨0, 102, 1, [[(.fn 72 [(.ptr 1 0 0 0), (.ptr 2 0 0 0)])]]⟩, ⟨0, 3, 1, [[(i64 s1_0)]]⟩, ⟨0, 88, 5, [[(.sl (List.map eI s2_0)), (.sl (List.map eI s2_1)), (i64 s2_2), (i64 s2_3), (.sl (List.map eRInstr s2_4))]]⟩]⟩ → K2 s := by
  intro _ hq s hw
  subst o5
  try dsimp only at h0
  refine hK2 _ (AW.weaken hw ?_)
  refine sr rfl fun K6 hK6 => ?_
  refine zq tb rfl ?_
  refine dn hK6 rfl ?_
  replace h0 := Sh.some_eq h0
  subst r
  exact AW.ret (xr (Wk.to (L := [(4, (i64 (-1)))]) ⟨.rfl, trivial⟩))
 refine AW.block (AW.loopF (σ := Int) (fun n v => slices_IndexFunc_int_int_L1 s1_0 s2_0 s2_1 s2_2 s2_3 s2_4 p0 n v = some o5) (fun t4 => ⟨19, envL [(0, (.sl (List.map eI p0))), (1, (.fn 73 [(.ptr 0 0 0 0)])), (7, (i64 (Sh.len p0))), (8, (i64 t4))], [⟨0, 102, 1, [[(.fn 72 [(.ptr 1 0 0 0), (.ptr 2 0 0 0)])]]⟩, ⟨0, 3, 1, [[(i64 s1_0)]]⟩, ⟨0, 88, 5, [[(.sl (List.map eI s2_0)), (.sl (List.map eI s2_1)), (i64 s2_2), (i64 s2_3), (.sl (List.map eRInstr s2_4))]]⟩]⟩) N 0 h1 (Wk.tr rfl) (fun _ hv => by rw [slices_IndexFunc_int_int_L1] at hv; cases hv) ?_)
 rintro n t4 h1
 try dsimp only at h1 ⊢
 rw [slices_IndexFunc_int_int_L1] at h1
 refine sr rfl fun K7 hK7 => ?_
 refine zq tb rfl ?_
 refine dn hK7 rfl ?_
 refine AW.seq fun K8 hK8 => ?_
 refine ci h1 rfl ?_ ?_ <;> clear h1
 ·intro b9 h1
  refine AW.skip (hK8 _ ?_)
  refine AW.seq fun K10 hK10 => ?_
  refine AW.block ?_
  refine sr rfl fun K11 hK11 => ?_
  iterate 2 refine zq tb rfl ?_
  refine dn hK11 rfl ?_
  refine sr rfl fun K12 hK12 => ?_
  iterate 3 refine zq tb rfl ?_
  obtain ⟨c13, gc13, h1⟩ := Sh.bind_some h1
  refine zx ei26 gc13 rfl rfl rfl ?_
  refine zq tb rfl ?_
  obtain ⟨q14, gq14, h1⟩ := Sh.bind_some h1
  refine ao_callst (rowsP := [⟨0, 102, 1, [[(.fn 72 [(.ptr 1 0 0 0), (.ptr 2 0 0 0)])]]⟩, ⟨0, 3, 1, [[(i64 s1_0)]]⟩, ⟨0, 88, 5, [[(.sl (List.map eI s2_0)), (.sl (List.map eI s2_1)), (i64 s2_2), (i64 s2_3), (.sl (List.map eRInstr s2_4))]]⟩]) (rows0 := [⟨0, 102, 1, [[(.fn 72 [(.ptr 1 0 0 0), (.ptr 2 0 0 0)])]]⟩, ⟨0, 3, 1, [[(i64 s1_0)]]⟩, ⟨0, 88, 5, [[(.sl (List.map eI s2_0)), (.sl (List.map eI s2_1)), (i64 s2_2), (i64 s2_3), (.sl (List.map eRInstr s2_4))]]⟩]) (rows1 := [⟨0, 102, 1, [[(.fn 72 [(.ptr 1 0 0 0), (.ptr 2 0 0 0)])]]⟩, ⟨0, 3, 1, [[(i64 s1_0)]]⟩, ⟨0, 88, 5, [[(.sl (List.map eI s2_0)), (.sl (List.map eI s2_1)), (i64 s2_2), (i64 s2_3), (.sl (List.map eRInstr s2_4))]]⟩]) (rows2 := []) (rows1' := [⟨0, 102, 1, [[(.fn 72 [(.ptr 1 0 0 0), (.ptr 2 0 0 0)])]]⟩, ⟨0, 3, 1, [[(i64 s1_0)]]⟩, ⟨0, 88, 5, [[(.sl (List.map eI s2_0)), (.sl (List.map eI s2_1)), (i64 s2_2), (i64 s2_3), (.sl (List.map eRInstr s2_4))]]⟩]) (rows2' := []) (st' := [⟨0, 102, 1, [[(.fn 72 [(.ptr 1 0 0 0), (.ptr 2 0 0 0)])]]⟩, ⟨0, 3, 1, [[(i64 s1_0)]]⟩, ⟨0, 88, 5, [[(.sl (List.map eI s2_0)), (.sl (List.map eI s2_1)), (i64 s2_2), (i64 s2_3), (.sl (List.map eRInstr s2_4))]]⟩]) (v' := (.bool q14)) [0, 1, 2] go0 rfl hb73 (impl_signatures_instrValid_2_ok gq14) rfl (by decide) rfl rfl (.raw rfl rfl (.raw rfl rfl (.raw rfl rfl .nil))) rfl rfl (.raw rfl rfl (.raw rfl rfl (.raw rfl rfl .nil))) .nil rfl rfl ?_
  refine dn hK12 rfl ?_
  refine ci h1 rfl ?_ ?_ <;> clear h1
  ·intro b15 h1
   refine sr rfl fun K16 hK16 => ?_
   iterate 2 refine zq tb rfl ?_
   refine dn hK16 rfl ?_
   replace h1 := Sh.some_eq h1
   subst o5
   try dsimp only [id] at h0
   replace h0 := Sh.some_eq h0
   subst r
   exact AW.ret (xr (Wk.to (L := [(4, (i64 t4))]) ⟨.rfl, trivial⟩))
  ·intro b15 h1
   refine AW.skip (hK10 _ ?_)
   refine AW.regionO (by rfl) ?_
   iterate 2 refine zq tb rfl ?_
   exact AO.done (xi (Sh.w (t4 + 1)) h1 (Wk.tr rfl))
 ·intro b9 h1
  exact AW.exit (M5 () (Sh.some_eq h1).symm _ (Wk.tr rfl))
theorem slices_ContainsFunc_int_int_ok {N : Nat} {s1_0 : Int} {s2_0 : (List Int)} {s2_1 : (List Int)} {s2_2 : Int} {s2_3 : Int} {s2_4 : (List RInstr)} {p0 : (List Int)} {r : Bool} (h0 : slices_ContainsFunc_int_int N s1_0 s2_0 s2_1 s2_2 s2_3 s2_4 p0 = some r) : ACalls Tryz.prog 49 [(.sl (List.map eI p0)), (.fn 73 [(.ptr 0 0 0 0)])] [⟨0, 102, 1, [[(.fn 72 [(.ptr 1 0 0 0), (.ptr 2 0 0 0)])]]⟩, ⟨0, 3, 1, [[(i64 s1_0)]]⟩, ⟨0, 88, 5, [[(.sl (List.map eI s2_0)), (.sl (List.map eI s2_1)), (i64 s2_2), (i64 s2_3), (.sl (List.map eRInstr s2_4))]]⟩] (fun v st => v = (.bool r) ∧ st = [⟨0, 102, 1, [[(.fn 72 [(.ptr 1 0 0 0), (.ptr 2 0 0 0)])]]⟩, ⟨0, 3, 1, [[(i64 s1_0)]]⟩, ⟨0, 88, 5, [[(.sl (List.map eI s2_0)), (.sl (List.map eI s2_1)), (i64 s2_2), (i64 s2_3), (.sl (List.map eRInstr s2_4))]]⟩]) := by
 unfold slices_ContainsFunc_int_int at h0
 refine ACalls.intro Tryz.func49 rfl (by show 2 ≤ 9; decide) ?_
 show AW _ 3 _ (aret _ 3 Tryz.f49 _) ⟨9, _, _⟩
 refine AW.weaken (Wk.to (L := [(0, (.sl (List.map eI p0))), (1, (.fn 73 [(.ptr 0 0 0 0)]))]) ⟨.rfl, .rfl, trivial⟩) ?_
 refine sr rfl fun K1 hK1 => ?_
 refine zq tb rfl ?_
 refine dn hK1 rfl ?_
 refine sr rfl fun K2 hK2 => ?_
 iterate 2 refine zq tb rfl ?_
 obtain ⟨q3, gq3, h0⟩ := Sh.bind_some h0
 refine ao_calls (rowsP := [⟨0, 102, 1, [[(.fn 72 [(.ptr 1 0 0 0), (.ptr 2 0 0 0)])]]⟩, ⟨0, 3, 1, [[(i64 s1_0)]]⟩, ⟨0, 88, 5, [[(.sl (List.map eI s2_0)), (.sl (List.map eI s2_1)), (i64 s2_2), (i64 s2_3), (.sl (List.map eRInstr s2_4))]]⟩]) (rows0 := [⟨0, 102, 1, [[(.fn 72 [(.ptr 1 0 0 0), (.ptr 2 0 0 0)])]]⟩, ⟨0, 3, 1, [[(i64 s1_0)]]⟩, ⟨0, 88, 5, [[(.sl (List.map eI s2_0)), (.sl (List.map eI s2_1)), (i64 s2_2), (i64 s2_3), (.sl (List.map eRInstr s2_4))]]⟩]) (rows1 := [⟨0, 102, 1, [[(.fn 72 [(.ptr 1 0 0 0), (.ptr 2 0 0 0)])]]⟩, ⟨0, 3, 1, [[(i64 s1_0)]]⟩, ⟨0, 88, 5, [[(.sl (List.map eI s2_0)), (.sl (List.map eI s2_1)), (i64 s2_2), (i64 s2_3), (.sl (List.map eRInstr s2_4))]]⟩]) (rows2 := []) (rows1' := [⟨0, 102, 1, [[(.fn 72 [(.ptr 1 0 0 0), (.ptr 2 0 0 0)])]]⟩, ⟨0, 3, 1, [[(i64 s1_0)]]⟩, ⟨0, 88, 5, [[(.sl (List.map eI s2_0)), (.sl (List.map eI s2_1)), (i64 s2_2), (i64 s2_3), (.sl (List.map eRInstr s2_4))]]⟩]) (rows2' := []) (st' := [⟨0, 102, 1, [[(.fn 72 [(.ptr 1 0 0 0), (.ptr 2 0 0 0)])]]⟩, ⟨0, 3, 1, [[(i64 s1_0)]]⟩, ⟨0, 88, 5, [[(.sl (List.map eI s2_0)), (.sl (List.map eI s2_1)), (i64 s2_2), (i64 s2_3), (.sl (List.map eRInstr s2_4))]]⟩]) (v' := (i64 q3)) [0, 1, 2] go0 hb79 (slices_IndexFunc_int_int_ok gq3) rfl (by decide) rfl rfl (.raw rfl rfl (.raw rfl rfl (.raw rfl rfl .nil))) rfl rfl (.raw rfl rfl (.raw rfl rfl (.raw rfl rfl .nil))) .nil rfl rfl ?_
 iterate 2 refine zq tb rfl ?_
 refine dn hK2 rfl ?_
 replace h0 := Sh.some_eq h0
 subst r
 exact AW.ret (xr (Wk.to (L := [(4, (.bool (decide (0 ≤ q3))))]) ⟨.rfl, trivial⟩))
theorem impl_conCount_ok {N : Nat} {p0 : (List RDecl)} {r : Int} (h0 : impl_conCount N p0 = some r) : ACalls Tryz.prog 97 [(.sl (List.map eRDecl p0))] [] (fun v st => v = (i64 r) ∧ st = []) := by
 unfold impl_conCount at h0
 refine ACalls.intro Tryz.func97 rfl (by show 1 ≤ 19; decide) ?_
 show AW _ 0 _ (aret _ 0 Tryz.f97 _) ⟨19, _, _⟩
 refine AW.weaken (Wk.to (L := [(0, (.sl (List.map eRDecl p0)))]) ⟨.rfl, trivial⟩) ?_
 refine sr rfl fun K1 hK1 => ?_
 refine zq tb rfl ?_
 refine dn hK1 rfl ?_
 refine sr rfl fun K2 hK2 => ?_
 refine zq tb rfl ?_
 refine dn hK2 rfl ?_
 refine AW.seq fun K3 hK3 => ?_
 refine sr rfl fun K4 hK4 => ?_
 refine zq tb rfl ?_
 refine zl tb rfl rfl ?_
 refine zq tb rfl ?_
 refine dn hK4 rfl ?_
 obtain ⟨o8, h1, h0⟩ := Sh.bind_some h0
 have M8 : ∀ (n7 : Int), o8 = n7 → ∀ s, Wk 0 s ⟨19, envL [(3, (i64 n7))], []⟩ → K3 s := by
  intro n7 hq s hw
  subst o8
  try dsimp only at h0
  refine hK3 _ (AW.weaken hw ?_)
  refine sr rfl fun K9 hK9 => ?_
  iterate 2 refine zq tb rfl ?_
  refine dn hK9 rfl ?_
  replace h0 := Sh.some_eq h0
  subst r
  exact AW.ret (xr (Wk.to (L := [(2, (i64 n7))]) ⟨.rfl, trivial⟩))
 refine AW.block (AW.loopF (σ := Int × Int) (fun n v => impl_conCount_L1 p0 n v.1 v.2 = some o8) (fun (n5, t6) => ⟨19, envL [(3, (i64 n5)), (6, (.sl (List.map eRDecl p0))), (7, (i64 (Sh.len p0))), (8, (i64 t6))], []⟩) N (0, 0) h1 (Wk.tr rfl) (fun _ hv => by rw [impl_conCount_L1] at hv; cases hv) ?_)
 rintro n ⟨n5, t6⟩ h1
 try dsimp only at h1 ⊢
 rw [impl_conCount_L1] at h1
 refine sr rfl fun K10 hK10 => ?_
 refine zq tb rfl ?_
 refine dn hK10 rfl ?_
 refine AW.seq fun K11 hK11 => ?_
 refine ci h1 rfl ?_ ?_ <;> clear h1
 ·intro b12 h1
  refine AW.skip (hK11 _ ?_)
  refine AW.seq fun K13 hK13 => ?_
  refine AW.block ?_
  refine sr rfl fun K14 hK14 => ?_
  obtain ⟨c15, gc15, h1⟩ := Sh.bind_some h1
  refine zx ei34 gc15 rfl rfl rfl ?_
  refine zq tb rfl ?_
  refine ao_alloc (m := 0) (st' := [⟨0, 84, 3, [[(i64 0), (i64 0), .zc]]⟩]) go0 zi84 rfl rfl ?_
  refine ao_str (st' := [⟨0, 84, 3, [(eRDecl c15)]⟩]) go0 ti84 rfl rfl rfl rfl rfl rfl (show 0 + 3 ≤ 3 by decide) rfl ?_
  refine dn hK14 rfl ?_
  refine AW.regionO (by rfl) ?_
  iterate 3 refine zq tb rfl ?_
  refine zl tb rfl rfl ?_
  iterate 2 refine zq tb rfl ?_
  refine dn hK13 rfl ?_
  refine AW.regionO (by rfl) ?_
  iterate 2 refine zq tb rfl ?_
  exact AO.done (xi (Sh.w (n5 + (Sh.len c15.cons)), Sh.w (t6 + 1)) h1 (Wk.d0 _ rfl))
 ·intro b12 h1
  exact AW.exit (M8 n5 (Sh.some_eq h1).symm _ (Wk.tr rfl))
theorem impl_consOf_ok {N : Nat} {p0 : (List RDecl)} {p1 : Int} {r : (List Int)} (h0 : impl_consOf N p0 p1 = some r) : ACalls Tryz.prog 98 [(.sl (List.map eRDecl p0)), (i64 p1)] [] (fun v st => v = (.own 0 0 (List.length r)) ∧ st = [⟨0, 3, 1, List.map eI r⟩]) := by
 unfold impl_consOf at h0
 refine ACalls.intro Tryz.func98 rfl (by show 2 ≤ 39; decide) ?_
 show AW _ 0 _ (aret _ 0 Tryz.f98 _) ⟨39, _, _⟩
 refine AW.weaken (Wk.to (L := [(0, (.sl (List.map eRDecl p0))), (1, (i64 p1))]) ⟨.rfl, .rfl, trivial⟩) ?_
 refine sr rfl fun K1 hK1 => ?_
 refine zq tb rfl ?_
 refine dn hK1 rfl ?_
 refine AW.seq fun K2 hK2 => ?_
 refine AW.seq fun K3 hK3 => ?_
 obtain ⟨o5, h1, h0⟩ := Sh.bind_some h0
 have M5 : ∀ (t4 : Bool), o5 = t4 → ∀ s, Wk 0 s ⟨39, envL [(0, (.sl (List.map eRDecl p0))), (1, (i64 p1)), (15, (.bool t4))], []⟩ → K3 s := by
  intro t4 hq s hw
  subst o5
  try dsimp only at h0
  refine hK3 _ (AW.weaken hw ?_)
  refine ci h0 rfl ?_ ?_ <;> clear h0
  ·intro b6 h0
   refine sr rfl fun K7 hK7 => ?_
   refine zq tb rfl ?_
   refine dn hK7 rfl ?_
   replace h0 := Sh.some_eq h0
   subst r
   exact AW.ret (xr (((Wk.adopt (t := 4) rfl 3 (size := 1) (by decide)).trans (Wk.to (L := [(4, (.own 0 0 (List.length ([] : List Int))))]) ⟨.rfl, trivial⟩)).trans (Wk.to (L := [(4, (.own 0 0 (List.length ([] : List Int))))]) ⟨.rfl, trivial⟩)))
  ·intro b6 h0
   refine AW.skip (hK2 _ ?_)
   refine sr rfl fun K8 hK8 => ?_
   iterate 3 refine zq tb rfl ?_
   obtain ⟨l9, gl9, h0⟩ := Sh.bind_some h0
   refine ao_sls (i := 0) (j := Sh.w (p1 - 1)) go0 ei34 rfl rfl rfl (fun _ => rfl) gl9 ?_
   obtain ⟨q10, gq10, h0⟩ := Sh.bind_some h0
   refine zc hb97 (impl_conCount_ok gq10) rfl rfl rfl ?_
   refine zq tb rfl ?_
   refine dn hK8 rfl ?_
   refine sr rfl fun K11 hK11 => ?_
   refine zq tb rfl ?_
   refine dn hK11 rfl ?_
   refine AW.seq fun K12 hK12 => ?_
   refine sr rfl fun K13 hK13 => ?_
   iterate 3 refine zq tb rfl ?_
   obtain ⟨c14, gc14, h0⟩ := Sh.bind_some h0
   refine zx ei34 gc14 rfl rfl rfl ?_
   iterate 2 refine zq tb rfl ?_
   refine zl tb rfl rfl ?_
   refine zq tb rfl ?_
   refine dn hK13 rfl ?_
   obtain ⟨o18, h1, h0⟩ := Sh.bind_some h0
   have M18 : ∀ (l17 : (List Int)), o18 = l17 → ∀ s, Wk 0 s ⟨39, envL [(6, (.own 0 0 (List.length l17)))], [⟨0, 3, 1, List.map eI l17⟩]⟩ → K12 s := by
    intro l17 hq s hw
    subst o18
    try dsimp only at h0
    refine hK12 _ (AW.weaken hw ?_)
    refine sr rfl fun K19 hK19 => ?_
    iterate 2 refine zq tb rfl ?_
    refine dn hK19 rfl ?_
    replace h0 := Sh.some_eq h0
    subst r
    exact AW.ret (xr (Wk.to (L := [(4, (.own 0 0 (List.length l17)))]) ⟨.rfl, trivial⟩))
   refine AW.block (AW.loopF (σ := Int × (List Int)) (fun n v => impl_consOf_L1 c14 q10 n v.1 v.2 = some o18) (fun (t15, l16) => ⟨39, envL [(5, (i64 q10)), (6, (.own 0 0 (List.length l16))), (27, (i64 (Sh.len c14.cons))), (28, (i64 t15))], [⟨0, 3, 1, List.map eI l16⟩]⟩) N (0, []) h1 ((Wk.adopt (t := 6) rfl 3 (size := 1) (by decide)).trans (Wk.to (L := [(5, (i64 q10)), (6, (.own 0 0 (List.length ([] : List Int)))), (27, (i64 (Sh.len c14.cons))), (28, (i64 0))]) ⟨.rfl, .rfl, .rfl, .rfl, trivial⟩)) (fun _ hv => by rw [impl_consOf_L1] at hv; cases hv) ?_)
   rintro n ⟨t15, l16⟩ h1
   try dsimp only at h1 ⊢
   rw [impl_consOf_L1] at h1
   refine sr rfl fun K20 hK20 => ?_
   refine zq tb rfl ?_
   refine dn hK20 rfl ?_
   refine AW.seq fun K21 hK21 => ?_
   refine ci h1 rfl ?_ ?_ <;> clear h1
   ·intro b22 h1
    refine AW.skip (hK21 _ ?_)
    refine AW.seq fun K23 hK23 => ?_
    refine AW.block ?_
    refine sr rfl fun K24 hK24 => ?_
    iterate 2 refine zq tb rfl ?_
    refine dn hK24 rfl ?_
    refine AW.regionO (by rfl) ?_
    iterate 4 refine zq tb rfl ?_
    refine ao_bs (m := 1) (st' := [⟨0, 3, 1, List.map eI l16⟩, ⟨0, 3, 1, List.map eI [Sh.w (q10 + t15)]⟩]) (l := [Sh.w (q10 + t15)]) (enc := eI) go0 ei26 (by decide) rfl rfl rfl rfl rfl rfl ?_
    obtain ⟨l25, gl25, h1⟩ := Sh.bind_some h1
    refine ao_apo (st' := [⟨1, 3, 1, List.map eI l25⟩, ⟨0, 3, 1, List.map eI [Sh.w (q10 + t15)]⟩]) (l2 := [Sh.w (q10 + t15)]) go0 ei26 rfl rfl rfl rfl (el_o rfl rfl) (fun _ => rfl) gl25 rfl ?_
    refine zq tb rfl ?_
    refine dn hK23 rfl ?_
    refine AW.regionO (by rfl) ?_
    iterate 2 refine zq tb rfl ?_
    exact AO.done (xi (Sh.w (t15 + 1), l25) h1 (by refine Wk.trans (Wk.rg (L := [(5, (i64 q10)), (6, (.own 0 0 (List.length l25))), (27, (i64 (Sh.len c14.cons))), (28, (i64 (Sh.w (t15 + 1))))]) (st' := [⟨0, 3, 1, List.map eI l25⟩, ⟨0, 3, 1, List.map eI [Sh.w (q10 + t15)]⟩]) (.pure (pure_map fun _ => rfl) (.pure (pure_map fun _ => rfl) .nil)) ⟨.rfl, .rfl, .rfl, .rfl, trivial⟩) ?_; exact Wk.permk (L := [(5, (i64 q10)), (6, (.own 0 0 (List.length l25))), (27, (i64 (Sh.len c14.cons))), (28, (i64 (Sh.w (t15 + 1))))]) (st' := [⟨0, 3, 1, List.map eI l25⟩]) (st1 := [⟨0, 3, 1, List.map eI l25⟩]) [0] rfl .nil (by decide) rfl rfl (.pure (pure_map fun _ => rfl) .nil) ⟨.rfl, .rfl, .rfl, .rfl, trivial⟩))
   ·intro b22 h1
    exact AW.exit (M18 l16 (Sh.some_eq h1).symm _ (Wk.tr rfl))
 refine AW.regionO (by rfl) ?_
 iterate 3 refine zq tb rfl ?_
 rcases Sh.ite_some h1 with ⟨b26, h1⟩ | ⟨b26, h1⟩
 ·refine zs b26 rfl ?_
  iterate 3 refine zs b26 rfl ?_
  refine zt b26 rfl ?_
  exact AO.done (M5 true (Sh.some_eq h1).symm _ (Wk.tr rfl))
 ·refine zg tb b26 rfl ?_
  refine zg tb b26 rfl ?_
  refine ao_q (v := (i64 (Sh.len p0))) (go1 rfl rfl b26) rfl (aq_lens sl34 rfl) ?_
  refine zg tb b26 rfl ?_
  refine zf b26 rfl ?_
  exact AO.done (M5 (decide ((Sh.len p0) < p1)) (Sh.some_eq h1).symm _ (Wk.tr rfl))
theorem impl_signatures_numValid_ok {N : Nat} {s0_0 : Int} {s1_0 : (List Int)} {s1_1 : (List Int)} {s1_2 : Int} {s1_3 : Int} {s1_4 : (List RInstr)} {p0 : RSignatures} {p1 : RInstr} {r : Bool} (h0 : impl_signatures_numValid N s0_0 s1_0 s1_1 s1_2 s1_3 s1_4 p0 p1 = some r) : ACalls Tryz.prog 74 [(.agg (eRSignatures p0)), (.agg (eRInstr p1)), (.fn 72 [(.ptr 0 0 0 0), (.ptr 1 0 0 0)])] [⟨0, 3, 1, [[(i64 s0_0)]]⟩, ⟨0, 88, 5, [[(.sl (List.map eI s1_0)), (.sl (List.map eI s1_1)), (i64 s1_2), (i64 s1_3), (.sl (List.map eRInstr s1_4))]]⟩] (fun v st => v = (.bool r) ∧ st = [⟨0, 3, 1, [[(i64 s0_0)]]⟩, ⟨0, 88, 5, [[(.sl (List.map eI s1_0)), (.sl (List.map eI s1_1)), (i64 s1_2), (i64 s1_3), (.sl (List.map eRInstr s1_4))]]⟩]) := by
 unfold impl_signatures_numValid at h0
 refine ACalls.intro Tryz.func74 rfl (by show 3 ≤ 109; decide) ?_
 show AW _ 2 _ (aret _ 2 Tryz.f74 _) ⟨109, _, _⟩
 refine AW.weaken (Wk.to (L := [(0, (.agg (eRSignatures p0))), (1, (.agg (eRInstr p1))), (2, (.fn 72 [(.ptr 0 0 0 0), (.ptr 1 0 0 0)]))]) ⟨.rfl, .rfl, .rfl, trivial⟩) ?_
 refine sr rfl fun K1 hK1 => ?_
 refine ao_box (m := 2) (st' := [⟨0, 3, 1, [[(i64 s0_0)]]⟩, ⟨0, 88, 5, [[(.sl (List.map eI s1_0)), (.sl (List.map eI s1_1)), (i64 s1_2), (i64 s1_3), (.sl (List.map eRInstr s1_4))]]⟩, ⟨0, 96, 2, [(eRSignatures p0)]⟩]) go0 rfl rfl rfl rfl rfl ?_
 refine ao_box (m := 3) (st' := [⟨0, 3, 1, [[(i64 s0_0)]]⟩, ⟨0, 88, 5, [[(.sl (List.map eI s1_0)), (.sl (List.map eI s1_1)), (i64 s1_2), (i64 s1_3), (.sl (List.map eRInstr s1_4))]]⟩, ⟨0, 96, 2, [(eRSignatures p0)]⟩, ⟨0, 100, 6, [(eRInstr p1)]⟩]) go0 rfl rfl rfl rfl rfl ?_
 refine zq tb rfl ?_
 refine dn hK1 rfl ?_
 refine AW.seq fun K2 hK2 => ?_
 refine sr rfl fun K3 hK3 => ?_
 iterate 2 refine zq tb rfl ?_
 refine dn hK3 rfl ?_
 refine AW.block ?_
 refine sr rfl fun K4 hK4 => ?_
 iterate 2 refine zq tb rfl ?_
 refine dn hK4 rfl ?_
 refine ci h0 rfl ?_ ?_ <;> clear h0
 ·intro b5 h0
  refine AW.seq fun K6 hK6 => ?_
  obtain ⟨o8, h1, h0⟩ := Sh.bind_some h0
  have M8 : ∀ (t7 : Bool), o8 = t7 → ∀ s, Wk 2 s ⟨109, envL [(6, (.bool t7))], [⟨0, 3, 1, [[(i64 s0_0)]]⟩, ⟨0, 88, 5, [[(.sl (List.map eI s1_0)), (.sl (List.map eI s1_1)), (i64 s1_2), (i64 s1_3), (.sl (List.map eRInstr s1_4))]]⟩]⟩ → K6 s := by
   intro t7 hq s hw
   subst o8
   try dsimp only at h0
   refine hK6 _ (AW.weaken hw ?_)
   replace h0 := Sh.some_eq h0
   subst r
   exact AW.ret (xr (Wk.to (L := [(6, (.bool t7))]) ⟨.rfl, trivial⟩))
  refine AW.regionO (by rfl) ?_
  iterate 4 refine zq tb rfl ?_
  rcases Sh.ite_some h1 with ⟨b9, h1⟩ | ⟨b9, h1⟩
  ·refine zg tb b9 rfl ?_
   iterate 2 refine zg tb b9 rfl ?_
   refine zt b9 rfl ?_
   refine zq tb rfl ?_
   exact AO.done (M8 (decide (p1.num ≤ 999)) (Sh.some_eq h1).symm _ (Wk.permk (L := [(6, (.bool (decide (p1.num ≤ 999))))]) (st' := [⟨0, 3, 1, [[(i64 s0_0)]]⟩, ⟨0, 88, 5, [[(.sl (List.map eI s1_0)), (.sl (List.map eI s1_1)), (i64 s1_2), (i64 s1_3), (.sl (List.map eRInstr s1_4))]]⟩]) (st1 := [⟨0, 3, 1, [[(i64 s0_0)]]⟩, ⟨0, 88, 5, [[(.sl (List.map eI s1_0)), (.sl (List.map eI s1_1)), (i64 s1_2), (i64 s1_3), (.sl (List.map eRInstr s1_4))]]⟩]) [0, 1] rfl (.raw rfl rfl (.raw rfl rfl .nil)) (by decide) rfl rfl (.raw rfl rfl (.raw rfl rfl .nil)) ⟨.rfl, trivial⟩))
  ·refine zs b9 rfl ?_
   iterate 2 refine zs b9 rfl ?_
   refine zf b9 rfl ?_
   refine zq tb rfl ?_
   exact AO.done (M8 false (Sh.some_eq h1).symm _ (Wk.permk (L := [(6, (.bool false))]) (st' := [⟨0, 3, 1, [[(i64 s0_0)]]⟩, ⟨0, 88, 5, [[(.sl (List.map eI s1_0)), (.sl (List.map eI s1_1)), (i64 s1_2), (i64 s1_3), (.sl (List.map eRInstr s1_4))]]⟩]) (st1 := [⟨0, 3, 1, [[(i64 s0_0)]]⟩, ⟨0, 88, 5, [[(.sl (List.map eI s1_0)), (.sl (List.map eI s1_1)), (i64 s1_2), (i64 s1_3), (.sl (List.map eRInstr s1_4))]]⟩]) [0, 1] rfl (.raw rfl rfl (.raw rfl rfl .nil)) (by decide) rfl rfl (.raw rfl rfl (.raw rfl rfl .nil)) ⟨.rfl, trivial⟩))
 ·intro b5 h0
  refine sr rfl fun K10 hK10 => ?_
  iterate 2 refine zq tb rfl ?_
  refine dn hK10 rfl ?_
  refine ci h0 rfl ?_ ?_ <;> clear h0
  ·intro b11 h0
   refine AW.seq fun K12 hK12 => ?_
   obtain ⟨o14, h1, h0⟩ := Sh.bind_some h0
   have M14 : ∀ (t13 : Bool), o14 = t13 → ∀ s, Wk 2 s ⟨109, envL [(6, (.bool t13))], [⟨0, 3, 1, [[(i64 s0_0)]]⟩, ⟨0, 88, 5, [[(.sl (List.map eI s1_0)), (.sl (List.map eI s1_1)), (i64 s1_2), (i64 s1_3), (.sl (List.map eRInstr s1_4))]]⟩]⟩ → K12 s := by
    intro t13 hq s hw
    subst o14
    try dsimp only at h0
    refine hK12 _ (AW.weaken hw ?_)
    replace h0 := Sh.some_eq h0
    subst r
    exact AW.ret (xr (Wk.to (L := [(6, (.bool t13))]) ⟨.rfl, trivial⟩))
   refine AW.draw (by kernel_rfl) (by kernel_rfl) (by rfl) ?_
   iterate 4 refine yq tb rfl ?_
   rcases Sh.ite_some h1 with ⟨b15, h1⟩ | ⟨b15, h1⟩
   ·refine yg tb b15 rfl ?_
    iterate 3 refine yg tb b15 rfl ?_
    obtain ⟨q16, gq16, h1⟩ := Sh.bind_some h1
    refine d_call (v := (i64 q16)) (go1 rfl rfl b15) hb97 (impl_conCount_ok gq16) rfl rfl rfl ?_
    refine yg tb b15 rfl ?_
    refine yt b15 rfl ?_
    refine yq tb rfl ?_
    exact d_done (M14 (decide (p1.num < q16)) (Sh.some_eq h1).symm _ (Wk.permk (L := [(6, (.bool (decide (p1.num < q16))))]) (st' := [⟨0, 3, 1, [[(i64 s0_0)]]⟩, ⟨0, 88, 5, [[(.sl (List.map eI s1_0)), (.sl (List.map eI s1_1)), (i64 s1_2), (i64 s1_3), (.sl (List.map eRInstr s1_4))]]⟩]) (st1 := [⟨0, 3, 1, [[(i64 s0_0)]]⟩, ⟨0, 88, 5, [[(.sl (List.map eI s1_0)), (.sl (List.map eI s1_1)), (i64 s1_2), (i64 s1_3), (.sl (List.map eRInstr s1_4))]]⟩]) [0, 1] rfl (.raw rfl rfl (.raw rfl rfl .nil)) (by decide) rfl rfl (.raw rfl rfl (.raw rfl rfl .nil)) ⟨.rfl, trivial⟩))
   ·refine ys b15 rfl ?_
    iterate 5 refine ys b15 rfl ?_
    refine yf b15 rfl ?_
    refine yq tb rfl ?_
    exact d_done (M14 false (Sh.some_eq h1).symm _ (Wk.permk (L := [(6, (.bool false))]) (st' := [⟨0, 3, 1, [[(i64 s0_0)]]⟩, ⟨0, 88, 5, [[(.sl (List.map eI s1_0)), (.sl (List.map eI s1_1)), (i64 s1_2), (i64 s1_3), (.sl (List.map eRInstr s1_4))]]⟩]) (st1 := [⟨0, 3, 1, [[(i64 s0_0)]]⟩, ⟨0, 88, 5, [[(.sl (List.map eI s1_0)), (.sl (List.map eI s1_1)), (i64 s1_2), (i64 s1_3), (.sl (List.map eRInstr s1_4))]]⟩]) [0, 1] rfl (.raw rfl rfl (.raw rfl rfl .nil)) (by decide) rfl rfl (.raw rfl rfl (.raw rfl rfl .nil)) ⟨.rfl, trivial⟩))
  ·intro b11 h0
   refine AW.seq fun K17 hK17 => ?_
   obtain ⟨o19, h1, h0⟩ := Sh.bind_some h0
   have M19 : ∀ (t18 : Bool), o19 = t18 → ∀ s, Wk 2 s ⟨109, envL [(2, (.fn 72 [(.ptr 0 0 0 0), (.ptr 1 0 0 0)])), (3, (.ptr 2 0 0 0)), (4, (.ptr 3 0 0 0)), (9, (i64 p1.op)), (33, (.bool t18))], [⟨0, 3, 1, [[(i64 s0_0)]]⟩, ⟨0, 88, 5, [[(.sl (List.map eI s1_0)), (.sl (List.map eI s1_1)), (i64 s1_2), (i64 s1_3), (.sl (List.map eRInstr s1_4))]]⟩, ⟨0, 96, 2, [(eRSignatures p0)]⟩, ⟨0, 100, 6, [(eRInstr p1)]⟩]⟩ → K17 s := by
    intro t18 hq s hw
    subst o19
    try dsimp only at h0
    refine hK17 _ (AW.weaken hw ?_)
    refine ci h0 rfl ?_ ?_ <;> clear h0
    ·intro b20 h0
     refine AW.seq fun K21 hK21 => ?_
     obtain ⟨o23, h1, h0⟩ := Sh.bind_some h0
     have M23 : ∀ (t22 : Bool), o23 = t22 → ∀ s, Wk 2 s ⟨109, envL [(6, (.bool t22))], [⟨0, 3, 1, [[(i64 s0_0)]]⟩, ⟨0, 88, 5, [[(.sl (List.map eI s1_0)), (.sl (List.map eI s1_1)), (i64 s1_2), (i64 s1_3), (.sl (List.map eRInstr s1_4))]]⟩]⟩ → K21 s := by
      intro t22 hq s hw
      subst o23
      try dsimp only at h0
      refine hK21 _ (AW.weaken hw ?_)
      replace h0 := Sh.some_eq h0
      subst r
      exact AW.ret (xr (Wk.to (L := [(6, (.bool t22))]) ⟨.rfl, trivial⟩))
     refine AW.regionO (by rfl) ?_
     iterate 4 refine zq tb rfl ?_
     rcases Sh.ite_some h1 with ⟨b24, h1⟩ | ⟨b24, h1⟩
     ·refine zg tb b24 rfl ?_
      iterate 3 refine zg tb b24 rfl ?_
      refine ao_q (v := (i64 (Sh.len p0.funcs))) (go1 rfl rfl b24) rfl (aq_lens sl94 rfl) ?_
      refine zg tb b24 rfl ?_
      refine zt b24 rfl ?_
      refine zq tb rfl ?_
      exact AO.done (M23 (decide (p1.num < (Sh.len p0.funcs))) (Sh.some_eq h1).symm _ (Wk.permk (L := [(6, (.bool (decide (p1.num < (Sh.len p0.funcs)))))]) (st' := [⟨0, 3, 1, [[(i64 s0_0)]]⟩, ⟨0, 88, 5, [[(.sl (List.map eI s1_0)), (.sl (List.map eI s1_1)), (i64 s1_2), (i64 s1_3), (.sl (List.map eRInstr s1_4))]]⟩]) (st1 := [⟨0, 3, 1, [[(i64 s0_0)]]⟩, ⟨0, 88, 5, [[(.sl (List.map eI s1_0)), (.sl (List.map eI s1_1)), (i64 s1_2), (i64 s1_3), (.sl (List.map eRInstr s1_4))]]⟩]) [0, 1] rfl (.raw rfl rfl (.raw rfl rfl .nil)) (by decide) rfl rfl (.raw rfl rfl (.raw rfl rfl .nil)) ⟨.rfl, trivial⟩))
     ·refine zs b24 rfl ?_
      iterate 5 refine zs b24 rfl ?_
      refine zf b24 rfl ?_
      refine zq tb rfl ?_
      exact AO.done (M23 false (Sh.some_eq h1).symm _ (Wk.permk (L := [(6, (.bool false))]) (st' := [⟨0, 3, 1, [[(i64 s0_0)]]⟩, ⟨0, 88, 5, [[(.sl (List.map eI s1_0)), (.sl (List.map eI s1_1)), (i64 s1_2), (i64 s1_3), (.sl (List.map eRInstr s1_4))]]⟩]) (st1 := [⟨0, 3, 1, [[(i64 s0_0)]]⟩, ⟨0, 88, 5, [[(.sl (List.map eI s1_0)), (.sl (List.map eI s1_1)), (i64 s1_2), (i64 s1_3), (.sl (List.map eRInstr s1_4))]]⟩]) [0, 1] rfl (.raw rfl rfl (.raw rfl rfl .nil)) (by decide) rfl rfl (.raw rfl rfl (.raw rfl rfl .nil)) ⟨.rfl, trivial⟩))
    ·intro b20 h0
     refine sr rfl fun K25 hK25 => ?_
     iterate 2 refine zq tb rfl ?_
     refine dn hK25 rfl ?_
     refine ci h0 rfl ?_ ?_ <;> clear h0
     ·intro b26 h0
      refine AW.seq fun K27 hK27 => ?_
      obtain ⟨o29, h1, h0⟩ := Sh.bind_some h0
      have M29 : ∀ (t28 : Bool), o29 = t28 → ∀ s, Wk 2 s ⟨109, envL [(6, (.bool t28))], [⟨0, 3, 1, [[(i64 s0_0)]]⟩, ⟨0, 88, 5, [[(.sl (List.map eI s1_0)), (.sl (List.map eI s1_1)), (i64 s1_2), (i64 s1_3), (.sl (List.map eRInstr s1_4))]]⟩]⟩ → K27 s := by
       intro t28 hq s hw
       subst o29
       try dsimp only at h0
       refine hK27 _ (AW.weaken hw ?_)
       replace h0 := Sh.some_eq h0
       subst r
       exact AW.ret (xr (Wk.to (L := [(6, (.bool t28))]) ⟨.rfl, trivial⟩))
      refine AW.regionO (by rfl) ?_
      iterate 4 refine zq tb rfl ?_
      rcases Sh.ite_some h1 with ⟨b30, h1⟩ | ⟨b30, h1⟩
      ·refine zg tb b30 rfl ?_
       iterate 3 refine zg tb b30 rfl ?_
       refine ao_q (v := (i64 (Sh.len p0.funcs))) (go1 rfl rfl b30) rfl (aq_lens sl94 rfl) ?_
       refine zg tb b30 rfl ?_
       refine zt b30 rfl ?_
       refine zq tb rfl ?_
       rcases Sh.ite_some h1 with ⟨b31, h1⟩ | ⟨b31, h1⟩
       ·refine zg tb b31 rfl ?_
        iterate 3 refine zg tb b31 rfl ?_
        obtain ⟨c32, gc32, h1⟩ := Sh.bind_some h1
        refine ao_q (v := (.iptr (eRSignature c32) 0)) (go1 rfl rfl b31) rfl (aq_ixs ei94 rfl rfl gc32 rfl) ?_
        iterate 2 refine zg tb b31 rfl ?_
        refine ao_q (v := (i64 (Sh.len c32.lent))) (go1 rfl rfl b31) rfl (aq_lens sl26 rfl) ?_
        refine zg tb b31 rfl ?_
        refine zt b31 rfl ?_
        refine zq tb rfl ?_
        exact AO.done (M29 (decide ((Sh.len c32.lent) = 0)) (Sh.some_eq h1).symm _ (Wk.permk (L := [(6, (.bool (decide ((Sh.len c32.lent) = 0))))]) (st' := [⟨0, 3, 1, [[(i64 s0_0)]]⟩, ⟨0, 88, 5, [[(.sl (List.map eI s1_0)), (.sl (List.map eI s1_1)), (i64 s1_2), (i64 s1_3), (.sl (List.map eRInstr s1_4))]]⟩]) (st1 := [⟨0, 3, 1, [[(i64 s0_0)]]⟩, ⟨0, 88, 5, [[(.sl (List.map eI s1_0)), (.sl (List.map eI s1_1)), (i64 s1_2), (i64 s1_3), (.sl (List.map eRInstr s1_4))]]⟩]) [0, 1] rfl (.raw rfl rfl (.raw rfl rfl .nil)) (by decide) rfl rfl (.raw rfl rfl (.raw rfl rfl .nil)) ⟨.rfl, trivial⟩))
       ·refine zs b31 rfl ?_
        iterate 8 refine zs b31 rfl ?_
        refine zf b31 rfl ?_
        refine zq tb rfl ?_
        exact AO.done (M29 false (Sh.some_eq h1).symm _ (Wk.permk (L := [(6, (.bool false))]) (st' := [⟨0, 3, 1, [[(i64 s0_0)]]⟩, ⟨0, 88, 5, [[(.sl (List.map eI s1_0)), (.sl (List.map eI s1_1)), (i64 s1_2), (i64 s1_3), (.sl (List.map eRInstr s1_4))]]⟩]) (st1 := [⟨0, 3, 1, [[(i64 s0_0)]]⟩, ⟨0, 88, 5, [[(.sl (List.map eI s1_0)), (.sl (List.map eI s1_1)), (i64 s1_2), (i64 s1_3), (.sl (List.map eRInstr s1_4))]]⟩]) [0, 1] rfl (.raw rfl rfl (.raw rfl rfl .nil)) (by decide) rfl rfl (.raw rfl rfl (.raw rfl rfl .nil)) ⟨.rfl, trivial⟩))
      ·refine zs b30 rfl ?_
       iterate 5 refine zs b30 rfl ?_
       refine zf b30 rfl ?_
       refine zq tb rfl ?_
       iterate 9 refine zs rfl rfl ?_
       refine zf rfl rfl ?_
       refine zq tb rfl ?_
       exact AO.done (M29 false (Sh.some_eq h1).symm _ (Wk.permk (L := [(6, (.bool false))]) (st' := [⟨0, 3, 1, [[(i64 s0_0)]]⟩, ⟨0, 88, 5, [[(.sl (List.map eI s1_0)), (.sl (List.map eI s1_1)), (i64 s1_2), (i64 s1_3), (.sl (List.map eRInstr s1_4))]]⟩]) (st1 := [⟨0, 3, 1, [[(i64 s0_0)]]⟩, ⟨0, 88, 5, [[(.sl (List.map eI s1_0)), (.sl (List.map eI s1_1)), (i64 s1_2), (i64 s1_3), (.sl (List.map eRInstr s1_4))]]⟩]) [0, 1] rfl (.raw rfl rfl (.raw rfl rfl .nil)) (by decide) rfl rfl (.raw rfl rfl (.raw rfl rfl .nil)) ⟨.rfl, trivial⟩))
     ·intro b26 h0
      refine sr rfl fun K33 hK33 => ?_
      iterate 2 refine zq tb rfl ?_
      refine dn hK33 rfl ?_
      refine ci h0 rfl ?_ ?_ <;> clear h0
      ·intro b34 h0
       refine AW.seq fun K35 hK35 => ?_
       obtain ⟨o37, h1, h0⟩ := Sh.bind_some h0
       have M37 : ∀ (t36 : Bool), o37 = t36 → ∀ s, Wk 2 s ⟨109, envL [(6, (.bool t36))], [⟨0, 3, 1, [[(i64 s0_0)]]⟩, ⟨0, 88, 5, [[(.sl (List.map eI s1_0)), (.sl (List.map eI s1_1)), (i64 s1_2), (i64 s1_3), (.sl (List.map eRInstr s1_4))]]⟩]⟩ → K35 s := by
        intro t36 hq s hw
        subst o37
        try dsimp only at h0
        refine hK35 _ (AW.weaken hw ?_)
        replace h0 := Sh.some_eq h0
        subst r
        exact AW.ret (xr (Wk.to (L := [(6, (.bool t36))]) ⟨.rfl, trivial⟩))
       refine AW.regionO (by rfl) ?_
       iterate 4 refine zq tb rfl ?_
       rcases Sh.ite_some h1 with ⟨b38, h1⟩ | ⟨b38, h1⟩
       ·refine zg tb b38 rfl ?_
        iterate 2 refine zg tb b38 rfl ?_
        refine zt b38 rfl ?_
        refine zq tb rfl ?_
        exact AO.done (M37 (decide (p1.num < 3)) (Sh.some_eq h1).symm _ (Wk.permk (L := [(6, (.bool (decide (p1.num < 3))))]) (st' := [⟨0, 3, 1, [[(i64 s0_0)]]⟩, ⟨0, 88, 5, [[(.sl (List.map eI s1_0)), (.sl (List.map eI s1_1)), (i64 s1_2), (i64 s1_3), (.sl (List.map eRInstr s1_4))]]⟩]) (st1 := [⟨0, 3, 1, [[(i64 s0_0)]]⟩, ⟨0, 88, 5, [[(.sl (List.map eI s1_0)), (.sl (List.map eI s1_1)), (i64 s1_2), (i64 s1_3), (.sl (List.map eRInstr s1_4))]]⟩]) [0, 1] rfl (.raw rfl rfl (.raw rfl rfl .nil)) (by decide) rfl rfl (.raw rfl rfl (.raw rfl rfl .nil)) ⟨.rfl, trivial⟩))
       ·refine zs b38 rfl ?_
        iterate 2 refine zs b38 rfl ?_
        refine zf b38 rfl ?_
        refine zq tb rfl ?_
        exact AO.done (M37 false (Sh.some_eq h1).symm _ (Wk.permk (L := [(6, (.bool false))]) (st' := [⟨0, 3, 1, [[(i64 s0_0)]]⟩, ⟨0, 88, 5, [[(.sl (List.map eI s1_0)), (.sl (List.map eI s1_1)), (i64 s1_2), (i64 s1_3), (.sl (List.map eRInstr s1_4))]]⟩]) (st1 := [⟨0, 3, 1, [[(i64 s0_0)]]⟩, ⟨0, 88, 5, [[(.sl (List.map eI s1_0)), (.sl (List.map eI s1_1)), (i64 s1_2), (i64 s1_3), (.sl (List.map eRInstr s1_4))]]⟩]) [0, 1] rfl (.raw rfl rfl (.raw rfl rfl .nil)) (by decide) rfl rfl (.raw rfl rfl (.raw rfl rfl .nil)) ⟨.rfl, trivial⟩))
      ·intro b34 h0
       refine AW.seq fun K39 hK39 => ?_
       obtain ⟨o41, h1, h0⟩ := Sh.bind_some h0
       have M41 : ∀ (t40 : Bool), o41 = t40 → ∀ s, Wk 2 s ⟨109, envL [(2, (.fn 72 [(.ptr 0 0 0 0), (.ptr 1 0 0 0)])), (3, (.ptr 2 0 0 0)), (4, (.ptr 3 0 0 0)), (9, (i64 p1.op)), (81, (.bool t40))], [⟨0, 3, 1, [[(i64 s0_0)]]⟩, ⟨0, 88, 5, [[(.sl (List.map eI s1_0)), (.sl (List.map eI s1_1)), (i64 s1_2), (i64 s1_3), (.sl (List.map eRInstr s1_4))]]⟩, ⟨0, 96, 2, [(eRSignatures p0)]⟩, ⟨0, 100, 6, [(eRInstr p1)]⟩]⟩ → K39 s := by
        intro t40 hq s hw
        subst o41
        try dsimp only at h0
        refine hK39 _ (AW.weaken hw ?_)
        refine ci h0 rfl ?_ ?_ <;> clear h0
        ·intro b42 h0
         refine sr rfl fun K43 hK43 => ?_
         iterate 3 refine zq tb rfl ?_
         obtain ⟨q44, gq44, h0⟩ := Sh.bind_some h0
         refine ao_callst (rowsP := [⟨0, 3, 1, [[(i64 s0_0)]]⟩, ⟨0, 88, 5, [[(.sl (List.map eI s1_0)), (.sl (List.map eI s1_1)), (i64 s1_2), (i64 s1_3), (.sl (List.map eRInstr s1_4))]]⟩]) (rows0 := [⟨0, 3, 1, [[(i64 s0_0)]]⟩, ⟨0, 88, 5, [[(.sl (List.map eI s1_0)), (.sl (List.map eI s1_1)), (i64 s1_2), (i64 s1_3), (.sl (List.map eRInstr s1_4))]]⟩]) (rows1 := [⟨0, 3, 1, [[(i64 s0_0)]]⟩, ⟨0, 88, 5, [[(.sl (List.map eI s1_0)), (.sl (List.map eI s1_1)), (i64 s1_2), (i64 s1_3), (.sl (List.map eRInstr s1_4))]]⟩]) (rows2 := []) (rows1' := [⟨0, 3, 1, [[(i64 s0_0)]]⟩, ⟨0, 88, 5, [[(.sl (List.map eI s1_0)), (.sl (List.map eI s1_1)), (i64 s1_2), (i64 s1_3), (.sl (List.map eRInstr s1_4))]]⟩]) (rows2' := []) (st' := [⟨0, 3, 1, [[(i64 s0_0)]]⟩, ⟨0, 88, 5, [[(.sl (List.map eI s1_0)), (.sl (List.map eI s1_1)), (i64 s1_2), (i64 s1_3), (.sl (List.map eRInstr s1_4))]]⟩, ⟨0, 96, 2, [(eRSignatures p0)]⟩, ⟨0, 100, 6, [(eRInstr p1)]⟩]) (v' := (.bool q44)) [0, 1] go0 rfl hb72 (impl_signatures_instrValid_1_ok gq44) rfl (by decide) rfl rfl (.raw rfl rfl (.raw rfl rfl .nil)) rfl rfl (.raw rfl rfl (.raw rfl rfl .nil)) .nil rfl rfl ?_
         refine zq tb rfl ?_
         refine dn hK43 rfl ?_
         replace h0 := Sh.some_eq h0
         subst r
         exact AW.ret (xr (Wk.permk (L := [(6, (.bool q44))]) (st' := [⟨0, 3, 1, [[(i64 s0_0)]]⟩, ⟨0, 88, 5, [[(.sl (List.map eI s1_0)), (.sl (List.map eI s1_1)), (i64 s1_2), (i64 s1_3), (.sl (List.map eRInstr s1_4))]]⟩]) (st1 := [⟨0, 3, 1, [[(i64 s0_0)]]⟩, ⟨0, 88, 5, [[(.sl (List.map eI s1_0)), (.sl (List.map eI s1_1)), (i64 s1_2), (i64 s1_3), (.sl (List.map eRInstr s1_4))]]⟩]) [0, 1] rfl (.raw rfl rfl (.raw rfl rfl .nil)) (by decide) rfl rfl (.raw rfl rfl (.raw rfl rfl .nil)) ⟨.rfl, trivial⟩))
        ·intro b42 h0
         refine sr rfl fun K45 hK45 => ?_
         iterate 2 refine zq tb rfl ?_
         refine dn hK45 rfl ?_
         refine ci h0 rfl ?_ ?_ <;> clear h0
         ·intro b46 h0
          refine sr rfl fun K47 hK47 => ?_
          iterate 4 refine zq tb rfl ?_
          obtain ⟨q48, gq48, h0⟩ := Sh.bind_some h0
          refine ao_call (v' := (.own 4 0 (List.length q48))) (st' := [⟨0, 3, 1, [[(i64 s0_0)]]⟩, ⟨0, 88, 5, [[(.sl (List.map eI s1_0)), (.sl (List.map eI s1_1)), (i64 s1_2), (i64 s1_3), (.sl (List.map eRInstr s1_4))]]⟩, ⟨0, 96, 2, [(eRSignatures p0)]⟩, ⟨0, 100, 6, [(eRInstr p1)]⟩, ⟨0, 3, 1, List.map eI q48⟩]) go0 hb98 (impl_consOf_ok gq48) rfl rfl ⟨(pure_map' fun _ => rfl), trivial⟩ rfl rfl ?_
          refine zq tb rfl ?_
          refine dn hK47 rfl ?_
          refine AW.seq fun K49 hK49 => ?_
          obtain ⟨o51, h1, h0⟩ := Sh.bind_some h0
          have M51 : ∀ (t50 : Bool), o51 = t50 → ∀ s, Wk 2 s ⟨109, envL [(6, (.bool t50))], [⟨0, 3, 1, [[(i64 s0_0)]]⟩, ⟨0, 88, 5, [[(.sl (List.map eI s1_0)), (.sl (List.map eI s1_1)), (i64 s1_2), (i64 s1_3), (.sl (List.map eRInstr s1_4))]]⟩]⟩ → K49 s := by
           intro t50 hq s hw
           subst o51
           try dsimp only at h0
           refine hK49 _ (AW.weaken hw ?_)
           replace h0 := Sh.some_eq h0
           subst r
           exact AW.ret (xr (Wk.to (L := [(6, (.bool t50))]) ⟨.rfl, trivial⟩))
          refine AW.regionO (by rfl) ?_
          refine zq tb rfl ?_
          refine zz (i64 (Sh.len q48)) (aq_leno sl26 rfl rfl rfl) rfl ?_
          iterate 2 refine zq tb rfl ?_
          rcases Sh.ite_some h1 with ⟨b52, h1⟩ | ⟨b52, h1⟩
          ·refine zg tb b52 rfl ?_
           refine zg tb b52 rfl ?_
           refine ao_q (v := (i64 (Sh.len p1.jumps))) (go1 rfl rfl b52) rfl (aq_lens sl26 rfl) ?_
           refine zg tb b52 rfl ?_
           refine ao_q (v := (i64 (Sh.len q48))) (go1 rfl rfl b52) rfl (aq_leno sl26 rfl rfl rfl) ?_
           refine zg tb b52 rfl ?_
           refine zt b52 rfl ?_
           refine zq tb rfl ?_
           exact AO.done (M51 (decide ((Sh.len p1.jumps) = (Sh.len q48))) (Sh.some_eq h1).symm _ (Wk.permk (L := [(6, (.bool (decide ((Sh.len p1.jumps) = (Sh.len q48)))))]) (st' := [⟨0, 3, 1, [[(i64 s0_0)]]⟩, ⟨0, 88, 5, [[(.sl (List.map eI s1_0)), (.sl (List.map eI s1_1)), (i64 s1_2), (i64 s1_3), (.sl (List.map eRInstr s1_4))]]⟩]) (st1 := [⟨0, 3, 1, [[(i64 s0_0)]]⟩, ⟨0, 88, 5, [[(.sl (List.map eI s1_0)), (.sl (List.map eI s1_1)), (i64 s1_2), (i64 s1_3), (.sl (List.map eRInstr s1_4))]]⟩]) [0, 1] rfl (.raw rfl rfl (.raw rfl rfl .nil)) (by decide) rfl rfl (.raw rfl rfl (.raw rfl rfl .nil)) ⟨.rfl, trivial⟩))
          ·refine zs b52 rfl ?_
           iterate 5 refine zs b52 rfl ?_
           refine zf b52 rfl ?_
           refine zq tb rfl ?_
           exact AO.done (M51 false (Sh.some_eq h1).symm _ (Wk.permk (L := [(6, (.bool false))]) (st' := [⟨0, 3, 1, [[(i64 s0_0)]]⟩, ⟨0, 88, 5, [[(.sl (List.map eI s1_0)), (.sl (List.map eI s1_1)), (i64 s1_2), (i64 s1_3), (.sl (List.map eRInstr s1_4))]]⟩]) (st1 := [⟨0, 3, 1, [[(i64 s0_0)]]⟩, ⟨0, 88, 5, [[(.sl (List.map eI s1_0)), (.sl (List.map eI s1_1)), (i64 s1_2), (i64 s1_3), (.sl (List.map eRInstr s1_4))]]⟩]) [0, 1] rfl (.raw rfl rfl (.raw rfl rfl .nil)) (by decide) rfl rfl (.raw rfl rfl (.raw rfl rfl .nil)) ⟨.rfl, trivial⟩))
         ·intro b46 h0
          refine AW.skip (hK2 _ ?_)
          refine sr rfl fun K53 hK53 => ?_
          iterate 4 refine zq tb rfl ?_
          refine dn hK53 rfl ?_
          replace h0 := Sh.some_eq h0
          subst r
          exact AW.ret (xr (Wk.permk (L := [(6, (.bool (decide (p1.num = 0))))]) (st' := [⟨0, 3, 1, [[(i64 s0_0)]]⟩, ⟨0, 88, 5, [[(.sl (List.map eI s1_0)), (.sl (List.map eI s1_1)), (i64 s1_2), (i64 s1_3), (.sl (List.map eRInstr s1_4))]]⟩]) (st1 := [⟨0, 3, 1, [[(i64 s0_0)]]⟩, ⟨0, 88, 5, [[(.sl (List.map eI s1_0)), (.sl (List.map eI s1_1)), (i64 s1_2), (i64 s1_3), (.sl (List.map eRInstr s1_4))]]⟩]) [0, 1] rfl (.raw rfl rfl (.raw rfl rfl .nil)) (by decide) rfl rfl (.raw rfl rfl (.raw rfl rfl .nil)) ⟨.rfl, trivial⟩))
       refine sr rfl fun K54 hK54 => ?_
       iterate 2 refine zq tb rfl ?_
       refine dn hK54 rfl ?_
       refine ci h1 rfl ?_ ?_ <;> clear h1
       ·intro b55 h1
        exact AW.skip (M41 true (Sh.some_eq h1).symm _ (Wk.to (L := [(2, (.fn 72 [(.ptr 0 0 0 0), (.ptr 1 0 0 0)])), (3, (.ptr 2 0 0 0)), (4, (.ptr 3 0 0 0)), (9, (i64 p1.op)), (81, (.bool true))]) ⟨.rfl, .rfl, .rfl, .rfl, (.of (congrArg AV.bool b55)), trivial⟩))
       ·intro b55 h1
        refine AW.regionO (by rfl) ?_
        iterate 2 refine zq tb rfl ?_
        exact AO.done (M41 (decide (p1.op = 22)) (Sh.some_eq h1).symm _ (Wk.tr rfl))
   refine sr rfl fun K56 hK56 => ?_
   iterate 2 refine zq tb rfl ?_
   refine dn hK56 rfl ?_
   refine ci h1 rfl ?_ ?_ <;> clear h1
   ·intro b57 h1
    exact AW.skip (M19 true (Sh.some_eq h1).symm _ (Wk.to (L := [(2, (.fn 72 [(.ptr 0 0 0 0), (.ptr 1 0 0 0)])), (3, (.ptr 2 0 0 0)), (4, (.ptr 3 0 0 0)), (9, (i64 p1.op)), (33, (.bool true))]) ⟨.rfl, .rfl, .rfl, .rfl, (.of (congrArg AV.bool b57)), trivial⟩))
   ·intro b57 h1
    refine AW.regionO (by rfl) ?_
    iterate 2 refine zq tb rfl ?_
    exact AO.done (M19 (decide (p1.op = 24)) (Sh.some_eq h1).symm _ (Wk.tr rfl))
theorem impl_conAt_ok {N : Nat} {p0 : (List RDecl)} {p1 : Int} {r : Int × RCon} (h0 : impl_conAt N p0 p1 = some r) : ACalls Tryz.prog 110 [(.sl (List.map eRDecl p0)), (i64 p1)] [] (fun v st => v = (.tup [(i64 r.1), (.agg (eRCon r.2))]) ∧ st = []) := by
 unfold impl_conAt at h0
 refine ACalls.flat rfl ?_
 refine ACalls.intro Tryz.func110 rfl (by show 2 ≤ 38; decide) ?_
 show AW _ 0 _ (aret _ 0 Tryz.f110 _) ⟨38, _, _⟩
 refine AW.weaken (Wk.to (L := [(0, (.sl (List.map eRDecl p0))), (1, (i64 p1))]) ⟨.rfl, .rfl, trivial⟩) ?_
 refine sr rfl fun K1 hK1 => ?_
 refine zq tb rfl ?_
 refine ao_alloc (m := 0) (st' := [⟨0, 153, 1, [[.zc]]⟩]) go0 zi153 rfl rfl ?_
 refine dn hK1 rfl ?_
 refine AW.seq fun K2 hK2 => ?_
 refine sr rfl fun K3 hK3 => ?_
 refine zq tb rfl ?_
 refine zl tb rfl rfl ?_
 refine zq tb rfl ?_
 refine dn hK3 rfl ?_
 obtain ⟨o6, h1, h0⟩ := Sh.cont_some h0
 have M6 : ∀ (_ : Unit), o6 = Sum.inr () → ∀ s, Wk 0 s ⟨38, envL [(5, (.ptr 0 0 0 0))], [⟨0, 153, 1, [[.zc]]⟩]⟩ → K2 s := by
  intro _ hq s hw
  subst o6
  try dsimp only at h0
  refine hK2 _ (AW.weaken hw ?_)
  refine sr rfl fun K7 hK7 => ?_
  refine zz (.agg [.zc]) (aq_bd ai153 bi153 zi153 rfl rfl) rfl ?_
  refine zq tb rfl ?_
  refine ao_str (st' := [⟨0, 153, 1, [[.zc]]⟩]) go0 ti153 rfl rfl rfl rfl rfl rfl (show 0 + 1 ≤ 1 by decide) rfl ?_
  refine dn hK7 rfl ?_
  replace h0 := Sh.some_eq h0
  subst r
  exact AW.ret (Exists.intro _ (And.intro ((Wk.cellLe (id := 0) (cs := [.zc]) (cs' := [(.sl (List.map eI []))]) (st' := [⟨0, 153, 1, [[(.sl (List.map eI []))]]⟩]) rfl ⟨le.zc, trivial⟩ rfl rfl).trans (Wk.to (L := [(4, (i64 (-1))), (5, (.ptr 0 0 0 0))]) ⟨.rfl, .rfl, trivial⟩)) (aq_ldpa (x := .tmp 5) (off := 0) (cs := [(.sl (List.map eI []))]) (vs := [(.sl (List.map eI []))]) ti153 rfl rfl rfl (show 0 + 1 ≤ 1 by decide) rfl _ rfl)))
 refine AW.block (AW.loopF (σ := Int × Int) (fun n v => impl_conAt_L1 p0 n v.1 v.2 = some o6) (fun (c4, t5) => ⟨38, envL [(1, (i64 c4)), (5, (.ptr 0 0 0 0)), (8, (.sl (List.map eRDecl p0))), (9, (i64 (Sh.len p0))), (10, (i64 t5))], [⟨0, 153, 1, [[.zc]]⟩]⟩) N (p1, 0) h1 (Wk.tr rfl) (fun _ hv => by rw [impl_conAt_L1] at hv; cases hv) ?_)
 rintro n ⟨c4, t5⟩ h1
 try dsimp only at h1 ⊢
 rw [impl_conAt_L1] at h1
 refine sr rfl fun K8 hK8 => ?_
 refine zq tb rfl ?_
 refine dn hK8 rfl ?_
 refine AW.seq fun K9 hK9 => ?_
 refine ci h1 rfl ?_ ?_ <;> clear h1
 ·intro b10 h1
  refine AW.skip (hK9 _ ?_)
  refine AW.seq fun K11 hK11 => ?_
  refine AW.block ?_
  refine sr rfl fun K12 hK12 => ?_
  refine zq tb rfl ?_
  obtain ⟨c13, gc13, h1⟩ := Sh.bind_some h1
  refine zx ei34 gc13 rfl rfl rfl ?_
  refine zq tb rfl ?_
  refine ao_alloc (m := 1) (st' := [⟨0, 153, 1, [[.zc]]⟩, ⟨0, 84, 3, [[(i64 0), (i64 0), .zc]]⟩]) go0 zi84 rfl rfl ?_
  refine zq tb rfl ?_
  refine ao_str (st' := [⟨0, 153, 1, [[.zc]]⟩, ⟨0, 84, 3, [(eRDecl c13)]⟩]) go0 ti84 rfl rfl rfl rfl rfl rfl (show 0 + 3 ≤ 3 by decide) rfl ?_
  refine dn hK12 rfl ?_
  refine AW.seq fun K14 hK14 => ?_
  refine AW.seq fun K15 hK15 => ?_
  obtain ⟨o17, h2, h1⟩ := Sh.bind_some h1
  have M17 : ∀ (t16 : Bool), o17 = t16 → ∀ s, Wk 0 s ⟨38, envL [(1, (i64 c4)), (5, (.ptr 0 0 0 0)), (6, (i64 t5)), (7, (.ptr 1 0 0 0)), (8, (.sl (List.map eRDecl p0))), (9, (i64 (Sh.len p0))), (10, (i64 t5)), (23, (.bool t16))], [⟨0, 153, 1, [[.zc]]⟩, ⟨0, 84, 3, [(eRDecl c13)]⟩]⟩ → K15 s := by
   intro t16 hq s hw
   subst o17
   try dsimp only at h1
   refine hK15 _ (AW.weaken hw ?_)
   refine ci h1 rfl ?_ ?_ <;> clear h1
   ·intro b18 h1
    refine AW.seq fun K19 hK19 => ?_
    refine AW.drawTailO 8 (by kernel_rfl) (by kernel_rfl) (by rfl) ?_
    iterate 5 refine yq tb rfl ?_
    obtain ⟨c20, gc20, h1⟩ := Sh.bind_some h1
    refine yx ei82 gc20 rfl rfl rfl ?_
    iterate 2 refine yq tb rfl ?_
    refine d_done ?_
    refine ao_str (st' := [⟨0, 153, 1, [(eRCon c20)]⟩, ⟨0, 84, 3, [(eRDecl c13)]⟩]) go0 ti153 rfl rfl rfl rfl rfl rfl (show 0 + 1 ≤ 1 by decide) rfl ?_
    refine dn hK19 rfl ?_
    replace h1 := Sh.some_eq h1
    subst o6
    try dsimp only [id] at h0
    replace h0 := Sh.some_eq h0
    subst r
    exact AW.ret (Exists.intro _ (And.intro ((Wk.permk (L := [(4, (i64 (Sh.w (t5 + 1)))), (5, (.ptr 0 0 0 0))]) (st' := [⟨0, 153, 1, [(eRCon c20)]⟩]) (st1 := [⟨0, 153, 1, [(eRCon c20)]⟩]) [0] rfl .nil (by decide) rfl rfl (.raw rfl rfl .nil) ⟨.rfl, .rfl, trivial⟩).trans (Wk.to (L := [(4, (i64 (Sh.w (t5 + 1)))), (5, (.ptr 0 0 0 0))]) ⟨.rfl, .rfl, trivial⟩)) (aq_ldpa (x := .tmp 5) (off := 0) (cs := (eRCon c20)) (vs := (eRCon c20)) ti153 rfl rfl rfl (show 0 + 1 ≤ 1 by decide) rfl _ rfl)))
   ·intro b18 h1
    refine AW.skip (hK14 _ ?_)
    refine AW.regionO (by rfl) ?_
    iterate 3 refine zq tb rfl ?_
    refine zl tb rfl rfl ?_
    iterate 2 refine zq tb rfl ?_
    refine dn hK11 rfl ?_
    refine AW.regionO (by rfl) ?_
    iterate 2 refine zq tb rfl ?_
    exact AO.done (xi (Sh.w (c4 - (Sh.len c13.cons)), Sh.w (t5 + 1)) h1 (Wk.permk (L := [(1, (i64 (Sh.w (c4 - (Sh.len c13.cons))))), (5, (.ptr 0 0 0 0)), (8, (.sl (List.map eRDecl p0))), (9, (i64 (Sh.len p0))), (10, (i64 (Sh.w (t5 + 1))))]) (st' := [⟨0, 153, 1, [[.zc]]⟩]) (st1 := [⟨0, 153, 1, [[.zc]]⟩]) [0] rfl .nil (by decide) rfl rfl (.raw rfl rfl .nil) ⟨.rfl, .rfl, .rfl, .rfl, .rfl, trivial⟩))
  refine AW.regionO (by rfl) ?_
  iterate 3 refine zq tb rfl ?_
  rcases Sh.ite_some h2 with ⟨b21, h2⟩ | ⟨b21, h2⟩
  ·refine zg tb b21 rfl ?_
   iterate 2 refine zg tb b21 rfl ?_
   refine ao_q (v := (i64 (Sh.len c13.cons))) (go1 rfl rfl b21) rfl (aq_lens sl82 rfl) ?_
   refine zg tb b21 rfl ?_
   refine zt b21 rfl ?_
   exact AO.done (M17 (decide (c4 < (Sh.len c13.cons))) (Sh.some_eq h2).symm _ (Wk.tr rfl))
  ·refine zs b21 rfl ?_
   iterate 4 refine zs b21 rfl ?_
   refine zf b21 rfl ?_
   exact AO.done (M17 false (Sh.some_eq h2).symm _ (Wk.tr rfl))
 ·intro b10 h1
  exact AW.exit (M6 () (Sh.some_eq h1).symm _ (Wk.tr rfl))
theorem impl_fieldsOf_ok {N : Nat} {p0 : (List RDecl)} {p1 : Int} {r : (List Int)} (h0 : impl_fieldsOf N p0 p1 = some r) : ACalls Tryz.prog 99 [(.sl (List.map eRDecl p0)), (i64 p1)] [] (fun v st => v = (.sl (List.map eI r)) ∧ st = []) := by
 unfold impl_fieldsOf at h0
 refine ACalls.intro Tryz.func99 rfl (by show 2 ≤ 15; decide) ?_
 show AW _ 0 _ (aret _ 0 Tryz.f99 _) ⟨15, _, _⟩
 refine AW.weaken (Wk.to (L := [(0, (.sl (List.map eRDecl p0))), (1, (i64 p1))]) ⟨.rfl, .rfl, trivial⟩) ?_
 refine sr rfl fun K1 hK1 => ?_
 refine zq tb rfl ?_
 refine dn hK1 rfl ?_
 refine sr rfl fun K2 hK2 => ?_
 iterate 2 refine zq tb rfl ?_
 obtain ⟨q3, gq3, h0⟩ := Sh.bind_some h0
 refine zc (v' := (.tup [(i64 q3.1), (.agg (eRCon q3.2))])) hb110 (impl_conAt_ok gq3) rfl rfl rfl ?_
 iterate 3 refine zq tb rfl ?_
 refine ao_alloc (m := 0) (st' := [⟨0, 153, 1, [[.zc]]⟩]) go0 zi153 rfl rfl ?_
 refine zq tb rfl ?_
 refine ao_str (st' := [⟨0, 153, 1, [(eRCon q3.2)]⟩]) go0 ti153 rfl rfl rfl rfl rfl rfl (show 0 + 1 ≤ 1 by decide) rfl ?_
 refine dn hK2 rfl ?_
 refine sr rfl fun K4 hK4 => ?_
 iterate 3 refine zq tb rfl ?_
 refine dn hK4 rfl ?_
 replace h0 := Sh.some_eq h0
 subst r
 exact AW.ret (xr (Wk.d0 [(4, (.sl (List.map eI q3.2.fields)))] rfl))
theorem impl_signatures_argsOf_ok {N : Nat} {p0 : RSignatures} {p1 : RInstr} {r : Int × Int} (h0 : impl_signatures_argsOf N p0 p1 = some r) : ACalls Tryz.prog 75 [(.agg (eRSignatures p0)), (.agg (eRInstr p1))] [] (fun v st => v = (.tup [(i64 r.1), (i64 r.2)]) ∧ st = []) := by
 unfold impl_signatures_argsOf at h0
 refine ACalls.intro Tryz.func75 rfl (by show 2 ≤ 53; decide) ?_
 show AW _ 0 _ (aret _ 0 Tryz.f75 _) ⟨53, _, _⟩
 refine AW.weaken (Wk.to (L := [(0, (.agg (eRSignatures p0))), (1, (.agg (eRInstr p1)))]) ⟨.rfl, .rfl, trivial⟩) ?_
 refine sr rfl fun K1 hK1 => ?_
 refine ao_box (m := 0) (st' := [⟨0, 96, 2, [(eRSignatures p0)]⟩]) go0 rfl rfl rfl rfl rfl ?_
 refine ao_box (m := 1) (st' := [⟨0, 96, 2, [(eRSignatures p0)]⟩, ⟨0, 100, 6, [(eRInstr p1)]⟩]) go0 rfl rfl rfl rfl rfl ?_
 iterate 2 refine zq tb rfl ?_
 refine dn hK1 rfl ?_
 refine sr rfl fun K2 hK2 => ?_
 refine zq tb rfl ?_
 refine dn hK2 rfl ?_
 refine AW.seq fun K3 hK3 => ?_
 obtain ⟨o5, h1, h0⟩ := Sh.cont_some h0
 have M5 : ∀ (n4 : Int), o5 = Sum.inr n4 → ∀ s, Wk 0 s ⟨53, envL [(6, (i64 n4))], []⟩ → K3 s := by
  intro n4 hq s hw
  subst o5
  try dsimp only at h0
  refine hK3 _ (AW.weaken hw ?_)
  refine sr rfl fun K6 hK6 => ?_
  iterate 4 refine zq tb rfl ?_
  refine dn hK6 rfl ?_
  replace h0 := Sh.some_eq h0
  subst r
  exact AW.ret (xr (Wk.to (L := [(4, (i64 n4)), (5, (i64 n4))]) ⟨.rfl, .rfl, trivial⟩))
 refine sr rfl fun K7 hK7 => ?_
 iterate 2 refine zq tb rfl ?_
 refine dn hK7 rfl ?_
 refine AW.block ?_
 refine AW.seq fun K8 hK8 => ?_
 obtain ⟨o10, h2, h1⟩ := Sh.bind_some h1
 have M10 : ∀ (t9 : Bool), o10 = t9 → ∀ s, Wk 0 s ⟨53, envL [(2, (.ptr 0 0 0 0)), (3, (.ptr 1 0 0 0)), (6, (i64 1)), (8, (i64 p1.op)), (9, (.bool t9))], [⟨0, 96, 2, [(eRSignatures p0)]⟩, ⟨0, 100, 6, [(eRInstr p1)]⟩]⟩ → K8 s := by
  intro t9 hq s hw
  subst o10
  try dsimp only at h1
  refine hK8 _ (AW.weaken hw ?_)
  refine ci h1 rfl ?_ ?_ <;> clear h1
  ·intro b11 h1
   refine AW.regionO (by rfl) ?_
   refine zq tb rfl ?_
   exact AO.done (M5 0 (Sh.some_eq h1).symm _ (Wk.d0 _ rfl))
  ·intro b11 h1
   refine AW.seq fun K12 hK12 => ?_
   obtain ⟨o14, h2, h1⟩ := Sh.bind_some h1
   have M14 : ∀ (t13 : Bool), o14 = t13 → ∀ s, Wk 0 s ⟨53, envL [(2, (.ptr 0 0 0 0)), (3, (.ptr 1 0 0 0)), (6, (i64 1)), (8, (i64 p1.op)), (12, (.bool t13))], [⟨0, 96, 2, [(eRSignatures p0)]⟩, ⟨0, 100, 6, [(eRInstr p1)]⟩]⟩ → K12 s := by
    intro t13 hq s hw
    subst o14
    try dsimp only at h1
    refine hK12 _ (AW.weaken hw ?_)
    refine ci h1 rfl ?_ ?_ <;> clear h1
    ·intro b15 h1
     refine AW.regionO (by rfl) ?_
     refine zq tb rfl ?_
     exact AO.done (M5 2 (Sh.some_eq h1).symm _ (Wk.d0 _ rfl))
    ·intro b15 h1
     refine sr rfl fun K16 hK16 => ?_
     iterate 2 refine zq tb rfl ?_
     refine dn hK16 rfl ?_
     refine ci h1 rfl ?_ ?_ <;> clear h1
     ·intro b17 h1
      refine AW.regionO (by rfl) ?_
      iterate 4 refine zq tb rfl ?_
      obtain ⟨q18, gq18, h1⟩ := Sh.bind_some h1
      refine zc hb99 (impl_fieldsOf_ok gq18) rfl rfl rfl ?_
      refine zl tb rfl rfl ?_
      refine zq tb rfl ?_
      exact AO.done (M5 (Sh.len q18) (Sh.some_eq h1).symm _ (Wk.d0 _ rfl))
     ·intro b17 h1
      refine AW.seq fun K19 hK19 => ?_
      obtain ⟨o21, h2, h1⟩ := Sh.bind_some h1
      have M21 : ∀ (t20 : Bool), o21 = t20 → ∀ s, Wk 0 s ⟨53, envL [(2, (.ptr 0 0 0 0)), (3, (.ptr 1 0 0 0)), (6, (i64 1)), (8, (i64 p1.op)), (26, (.bool t20))], [⟨0, 96, 2, [(eRSignatures p0)]⟩, ⟨0, 100, 6, [(eRInstr p1)]⟩]⟩ → K19 s := by
       intro t20 hq s hw
       subst o21
       try dsimp only at h1
       refine hK19 _ (AW.weaken hw ?_)
       refine ci h1 rfl ?_ ?_ <;> clear h1
       ·intro b22 h1
        refine AW.regionO (by rfl) ?_
        iterate 4 refine zq tb rfl ?_
        obtain ⟨c23, gc23, h1⟩ := Sh.bind_some h1
        refine zx ei94 gc23 rfl rfl rfl ?_
        iterate 2 refine zq tb rfl ?_
        refine zl tb rfl rfl ?_
        refine zq tb rfl ?_
        exact AO.done (M5 (Sh.len c23.params) (Sh.some_eq h1).symm _ (Wk.d0 _ rfl))
       ·intro b22 h1
        refine sr rfl fun K24 hK24 => ?_
        iterate 2 refine zq tb rfl ?_
        refine dn hK24 rfl ?_
        refine ci h1 rfl ?_ ?_ <;> clear h1
        ·intro b25 h1
         refine AW.regionO (by rfl) ?_
         iterate 4 refine zq tb rfl ?_
         obtain ⟨c26, gc26, h1⟩ := Sh.bind_some h1
         refine zx ei94 gc26 rfl rfl rfl ?_
         iterate 2 refine zq tb rfl ?_
         refine zl tb rfl rfl ?_
         iterate 2 refine zq tb rfl ?_
         exact AO.done (M5 (Sh.w ((Sh.len c26.params) - 1)) (Sh.some_eq h1).symm _ (Wk.d0 _ rfl))
        ·intro b25 h1
         refine AW.seq fun K27 hK27 => ?_
         obtain ⟨o29, h2, h1⟩ := Sh.bind_some h1
         have M29 : ∀ (t28 : Bool), o29 = t28 → ∀ s, Wk 0 s ⟨53, envL [(6, (i64 1)), (48, (.bool t28))], []⟩ → K27 s := by
          intro t28 hq s hw
          subst o29
          try dsimp only at h1
          refine hK27 _ (AW.weaken hw ?_)
          refine ci h1 rfl ?_ ?_ <;> clear h1
          ·intro b30 h1
           refine sr rfl fun K31 hK31 => ?_
           iterate 2 refine zq tb rfl ?_
           refine dn hK31 rfl ?_
           replace h1 := Sh.some_eq h1
           subst o5
           try dsimp only [id] at h0
           replace h0 := Sh.some_eq h0
           subst r
           exact AW.ret (xr (Wk.to (L := [(4, (i64 1)), (5, (i64 4))]) ⟨.rfl, .rfl, trivial⟩))
          ·intro b30 h1
           exact AW.skip (M5 1 (Sh.some_eq h1).symm _ (Wk.tr rfl))
         refine sr rfl fun K32 hK32 => ?_
         iterate 2 refine zq tb rfl ?_
         refine dn hK32 rfl ?_
         refine ci h2 rfl ?_ ?_ <;> clear h2
         ·intro b33 h2
          exact AW.skip (M29 true (Sh.some_eq h2).symm _ (by refine Wk.trans (Wk.permk (L := [(6, (i64 1)), (48, (.bool (decide (p1.op = 16))))]) (st' := []) (st1 := []) [] rfl .nil (by decide) rfl rfl .nil ⟨.rfl, .rfl, trivial⟩) ?_; exact Wk.to (L := [(6, (i64 1)), (48, (.bool true))]) ⟨.rfl, (.of (congrArg AV.bool b33)), trivial⟩))
         ·intro b33 h2
          refine AW.regionO (by rfl) ?_
          iterate 2 refine zq tb rfl ?_
          exact AO.done (M29 (decide (p1.op = 17)) (Sh.some_eq h2).symm _ (Wk.d0 _ rfl))
      refine sr rfl fun K34 hK34 => ?_
      iterate 2 refine zq tb rfl ?_
      refine dn hK34 rfl ?_
      refine ci h2 rfl ?_ ?_ <;> clear h2
      ·intro b35 h2
       exact AW.skip (M21 true (Sh.some_eq h2).symm _ (Wk.to (L := [(2, (.ptr 0 0 0 0)), (3, (.ptr 1 0 0 0)), (6, (i64 1)), (8, (i64 p1.op)), (26, (.bool true))]) ⟨.rfl, .rfl, .rfl, .rfl, (.of (congrArg AV.bool b35)), trivial⟩))
      ·intro b35 h2
       refine AW.regionO (by rfl) ?_
       iterate 2 refine zq tb rfl ?_
       exact AO.done (M21 (decide (p1.op = 24)) (Sh.some_eq h2).symm _ (Wk.tr rfl))
   refine sr rfl fun K36 hK36 => ?_
   iterate 2 refine zq tb rfl ?_
   refine dn hK36 rfl ?_
   refine ci h2 rfl ?_ ?_ <;> clear h2
   ·intro b37 h2
    exact AW.skip (M14 true (Sh.some_eq h2).symm _ (Wk.to (L := [(2, (.ptr 0 0 0 0)), (3, (.ptr 1 0 0 0)), (6, (i64 1)), (8, (i64 p1.op)), (12, (.bool true))]) ⟨.rfl, .rfl, .rfl, .rfl, (.of (congrArg AV.bool b37)), trivial⟩))
   ·intro b37 h2
    refine sr rfl fun K38 hK38 => ?_
    iterate 2 refine zq tb rfl ?_
    refine dn hK38 rfl ?_
    refine ci h2 rfl ?_ ?_ <;> clear h2
    ·intro b39 h2
     exact AW.skip (M14 true (Sh.some_eq h2).symm _ (Wk.to (L := [(2, (.ptr 0 0 0 0)), (3, (.ptr 1 0 0 0)), (6, (i64 1)), (8, (i64 p1.op)), (12, (.bool true))]) ⟨.rfl, .rfl, .rfl, .rfl, (.of (congrArg AV.bool b39)), trivial⟩))
    ·intro b39 h2
     refine sr rfl fun K40 hK40 => ?_
     iterate 2 refine zq tb rfl ?_
     refine dn hK40 rfl ?_
     refine ci h2 rfl ?_ ?_ <;> clear h2
     ·intro b41 h2
      exact AW.skip (M14 true (Sh.some_eq h2).symm _ (Wk.to (L := [(2, (.ptr 0 0 0 0)), (3, (.ptr 1 0 0 0)), (6, (i64 1)), (8, (i64 p1.op)), (12, (.bool true))]) ⟨.rfl, .rfl, .rfl, .rfl, (.of (congrArg AV.bool b41)), trivial⟩))
     ·intro b41 h2
      refine sr rfl fun K42 hK42 => ?_
      iterate 2 refine zq tb rfl ?_
      refine dn hK42 rfl ?_
      refine ci h2 rfl ?_ ?_ <;> clear h2
      ·intro b43 h2
       exact AW.skip (M14 true (Sh.some_eq h2).symm _ (Wk.to (L := [(2, (.ptr 0 0 0 0)), (3, (.ptr 1 0 0 0)), (6, (i64 1)), (8, (i64 p1.op)), (12, (.bool true))]) ⟨.rfl, .rfl, .rfl, .rfl, (.of (congrArg AV.bool b43)), trivial⟩))
      ·intro b43 h2
       refine AW.regionO (by rfl) ?_
       iterate 2 refine zq tb rfl ?_
       exact AO.done (M14 (decide (p1.op = 11)) (Sh.some_eq h2).symm _ (Wk.tr rfl))
 refine sr rfl fun K44 hK44 => ?_
 iterate 2 refine zq tb rfl ?_
 refine dn hK44 rfl ?_
 refine ci h2 rfl ?_ ?_ <;> clear h2
 ·intro b45 h2
  exact AW.skip (M10 true (Sh.some_eq h2).symm _ (Wk.to (L := [(2, (.ptr 0 0 0 0)), (3, (.ptr 1 0 0 0)), (6, (i64 1)), (8, (i64 p1.op)), (9, (.bool true))]) ⟨.rfl, .rfl, .rfl, .rfl, (.of (congrArg AV.bool b45)), trivial⟩))
 ·intro b45 h2
  refine AW.regionO (by rfl) ?_
  iterate 2 refine zq tb rfl ?_
  exact AO.done (M10 (decide (p1.op = 22)) (Sh.some_eq h2).symm _ (Wk.tr rfl))
theorem impl_signatures_instrValid_ok {N : Nat} {p0 : RSignatures} {p1 : RProc} {p2 : Int} {p3 : RInstr} {r : Bool} (h0 : impl_signatures_instrValid N p0 p1 p2 p3 = some r) : ACalls Tryz.prog 46 [(.agg (eRSignatures p0)), (.agg (eRProc p1)), (i64 p2), (.agg (eRInstr p3))] [] (fun v st => v = (.bool r) ∧ st = []) := by
 unfold impl_signatures_instrValid at h0
 refine ACalls.intro Tryz.func46 rfl (by show 4 ≤ 140; decide) ?_
 show AW _ 0 _ (aret _ 0 Tryz.f46 _) ⟨140, _, _⟩
 refine AW.weaken (Wk.to (L := [(0, (.agg (eRSignatures p0))), (1, (.agg (eRProc p1))), (2, (i64 p2)), (3, (.agg (eRInstr p3)))]) ⟨.rfl, .rfl, .rfl, .rfl, trivial⟩) ?_
 refine sr rfl fun K1 hK1 => ?_
 refine ao_box (m := 0) (st' := [⟨0, 96, 2, [(eRSignatures p0)]⟩]) go0 rfl rfl rfl rfl rfl ?_
 refine ao_box (m := 1) (st' := [⟨0, 96, 2, [(eRSignatures p0)]⟩, ⟨0, 88, 5, [(eRProc p1)]⟩]) go0 rfl rfl rfl rfl rfl ?_
 refine ao_box (m := 2) (st' := [⟨0, 96, 2, [(eRSignatures p0)]⟩, ⟨0, 88, 5, [(eRProc p1)]⟩, ⟨0, 3, 1, [[(i64 p2)]]⟩]) go0 rfl rfl rfl rfl rfl ?_
 refine ao_box (m := 3) (st' := [⟨0, 96, 2, [(eRSignatures p0)]⟩, ⟨0, 88, 5, [(eRProc p1)]⟩, ⟨0, 3, 1, [[(i64 p2)]]⟩, ⟨0, 100, 6, [(eRInstr p3)]⟩]) go0 rfl rfl rfl rfl rfl ?_
 refine zq tb rfl ?_
 refine dn hK1 rfl ?_
 refine AW.seq fun K2 hK2 => ?_
 refine AW.seq fun K3 hK3 => ?_
 obtain ⟨o5, h1, h0⟩ := Sh.bind_some h0
 have M5 : ∀ (t4 : Bool), o5 = t4 → ∀ s, Wk 0 s ⟨140, envL [(4, (.ptr 0 0 0 0)), (5, (.ptr 1 0 0 0)), (6, (.ptr 2 0 0 0)), (7, (.ptr 3 0 0 0)), (41, (.bool t4))], [⟨0, 96, 2, [(eRSignatures p0)]⟩, ⟨0, 88, 5, [(eRProc p1)]⟩, ⟨0, 3, 1, [[(i64 p2)]]⟩, ⟨0, 100, 6, [(eRInstr p3)]⟩]⟩ → K3 s := by
  intro t4 hq s hw
  subst o5
  try dsimp only at h0
  refine hK3 _ (AW.weaken hw ?_)
  refine ci h0 rfl ?_ ?_ <;> clear h0
  ·intro b6 h0
   refine sr rfl fun K7 hK7 => ?_
   refine zq tb rfl ?_
   refine dn hK7 rfl ?_
   replace h0 := Sh.some_eq h0
   subst r
   exact AW.ret (xr (Wk.d0 [(8, (.bool false))] rfl))
  ·intro b6 h0
   refine AW.skip (hK2 _ ?_)
   refine AW.seq fun K8 hK8 => ?_
   refine AW.seq fun K9 hK9 => ?_
   obtain ⟨o11, h1, h0⟩ := Sh.bind_some h0
   have M11 : ∀ (t10 : Bool), o11 = t10 → ∀ s, Wk 0 s ⟨140, envL [(4, (.ptr 0 0 0 0)), (5, (.ptr 1 0 0 0)), (6, (.ptr 2 0 0 0)), (7, (.ptr 3 0 0 0)), (84, (.bool t10))], [⟨0, 96, 2, [(eRSignatures p0)]⟩, ⟨0, 88, 5, [(eRProc p1)]⟩, ⟨0, 3, 1, [[(i64 p2)]]⟩, ⟨0, 100, 6, [(eRInstr p3)]⟩]⟩ → K9 s := by
    intro t10 hq s hw
    subst o11
    try dsimp only at h0
    refine hK9 _ (AW.weaken hw ?_)
    refine ci h0 rfl ?_ ?_ <;> clear h0
    ·intro b12 h0
     refine sr rfl fun K13 hK13 => ?_
     refine zq tb rfl ?_
     refine dn hK13 rfl ?_
     replace h0 := Sh.some_eq h0
     subst r
     exact AW.ret (xr (Wk.d0 [(8, (.bool false))] rfl))
    ·intro b12 h0
     refine AW.skip (hK8 _ ?_)
     refine AW.seq fun K14 hK14 => ?_
     refine sr rfl fun K15 hK15 => ?_
     iterate 2 refine zq tb rfl ?_
     refine zl tb rfl rfl ?_
     refine zq tb rfl ?_
     refine dn hK15 rfl ?_
     obtain ⟨o17, h1, h0⟩ := Sh.cont_some h0
     have M17 : ∀ (_ : Unit), o17 = Sum.inr () → ∀ s, Wk 0 s ⟨140, envL [(4, (.ptr 0 0 0 0)), (5, (.ptr 1 0 0 0)), (6, (.ptr 2 0 0 0)), (7, (.ptr 3 0 0 0))], [⟨0, 96, 2, [(eRSignatures p0)]⟩, ⟨0, 88, 5, [(eRProc p1)]⟩, ⟨0, 3, 1, [[(i64 p2)]]⟩, ⟨0, 100, 6, [(eRInstr p3)]⟩]⟩ → K14 s := by
      intro _ hq s hw
      subst o17
      try dsimp only at h0
      refine hK14 _ (AW.weaken hw ?_)
      refine sr rfl fun K18 hK18 => ?_
      refine zz (.fn 72 [(.ptr 2 0 0 0), (.ptr 1 0 0 0)]) (aq_fn rfl) rfl ?_
      refine ao_alloc (m := 4) (st' := [⟨0, 96, 2, [(eRSignatures p0)]⟩, ⟨0, 88, 5, [(eRProc p1)]⟩, ⟨0, 3, 1, [[(i64 p2)]]⟩, ⟨0, 100, 6, [(eRInstr p3)]⟩, ⟨0, 102, 1, [[.nilf]]⟩]) go0 zi102 rfl rfl ?_
      refine ao_str (st' := [⟨0, 96, 2, [(eRSignatures p0)]⟩, ⟨0, 88, 5, [(eRProc p1)]⟩, ⟨0, 3, 1, [[(i64 p2)]]⟩, ⟨0, 100, 6, [(eRInstr p3)]⟩, ⟨0, 102, 1, [[(.fn 72 [(.ptr 2 0 0 0), (.ptr 1 0 0 0)])]]⟩]) go0 ti102 rfl rfl rfl rfl rfl rfl (show 0 + 1 ≤ 1 by decide) rfl ?_
      refine dn hK18 rfl ?_
      refine AW.seq fun K19 hK19 => ?_
      refine AW.seq fun K20 hK20 => ?_
      obtain ⟨o22, h1, h0⟩ := Sh.bind_some h0
      have M22 : ∀ (t21 : Bool), o22 = t21 → ∀ s, Wk 0 s ⟨140, envL [(4, (.ptr 0 0 0 0)), (7, (.ptr 3 0 0 0)), (11, (.ptr 4 0 0 0)), (116, (.bool t21))], [⟨0, 96, 2, [(eRSignatures p0)]⟩, ⟨0, 88, 5, [(eRProc p1)]⟩, ⟨0, 3, 1, [[(i64 p2)]]⟩, ⟨0, 100, 6, [(eRInstr p3)]⟩, ⟨0, 102, 1, [[(.fn 72 [(.ptr 2 0 0 0), (.ptr 1 0 0 0)])]]⟩]⟩ → K20 s := by
       intro t21 hq s hw
       subst o22
       try dsimp only at h0
       refine hK20 _ (AW.weaken hw ?_)
       refine ci h0 rfl ?_ ?_ <;> clear h0
       ·intro b23 h0
        refine sr rfl fun K24 hK24 => ?_
        refine zq tb rfl ?_
        refine dn hK24 rfl ?_
        replace h0 := Sh.some_eq h0
        subst r
        exact AW.ret (xr (Wk.d0 [(8, (.bool false))] rfl))
       ·intro b23 h0
        refine AW.skip (hK19 _ ?_)
        refine AW.seq fun K25 hK25 => ?_
        refine sr rfl fun K26 hK26 => ?_
        iterate 3 refine zq tb rfl ?_
        obtain ⟨q27, gq27, h0⟩ := Sh.bind_some h0
        refine ao_calls (rowsP := [⟨0, 3, 1, [[(i64 p2)]]⟩, ⟨0, 88, 5, [(eRProc p1)]⟩]) (rows0 := [⟨0, 3, 1, [[(i64 p2)]]⟩, ⟨0, 88, 5, [(eRProc p1)]⟩]) (rows1 := [⟨0, 3, 1, [[(i64 p2)]]⟩, ⟨0, 88, 5, [(eRProc p1)]⟩]) (rows2 := []) (rows1' := [⟨0, 3, 1, [[(i64 p2)]]⟩, ⟨0, 88, 5, [(eRProc p1)]⟩]) (rows2' := []) (st' := [⟨0, 96, 2, [(eRSignatures p0)]⟩, ⟨0, 88, 5, [(eRProc p1)]⟩, ⟨0, 3, 1, [[(i64 p2)]]⟩, ⟨0, 100, 6, [(eRInstr p3)]⟩, ⟨0, 102, 1, [[(.fn 72 [(.ptr 2 0 0 0), (.ptr 1 0 0 0)])]]⟩]) (v' := (.bool q27)) [2, 1] go0 hb74 (impl_signatures_numValid_ok gq27) rfl (by decide) rfl rfl (.raw rfl rfl (.raw rfl rfl .nil)) rfl rfl (.raw rfl rfl (.raw rfl rfl .nil)) .nil rfl rfl ?_
        refine zq tb rfl ?_
        refine dn hK26 rfl ?_
        refine ci h0 rfl ?_ ?_ <;> clear h0
        ·intro b28 h0
         have b29 : q27 = false := by simpa using b28
         refine sr rfl fun K30 hK30 => ?_
         refine zq tb rfl ?_
         refine dn hK30 rfl ?_
         replace h0 := Sh.some_eq h0
         subst r
         exact AW.ret (xr (Wk.d0 [(8, (.bool false))] rfl))
        ·intro b28 h0
         have b31 : q27 = true := by simpa using b28
         refine AW.skip (hK25 _ ?_)
         refine sr rfl fun K32 hK32 => ?_
         iterate 2 refine zq tb rfl ?_
         obtain ⟨q33, gq33, h0⟩ := Sh.bind_some h0
         refine zc (v' := (.tup [(i64 q33.1), (i64 q33.2)])) hb75 (impl_signatures_argsOf_ok gq33) rfl rfl rfl ?_
         iterate 5 refine zq tb rfl ?_
         refine dn hK32 rfl ?_
         refine AW.seq fun K34 hK34 => ?_
         obtain ⟨o36, h1, h0⟩ := Sh.bind_some h0
         have M36 : ∀ (t35 : Bool), o36 = t35 → ∀ s, Wk 0 s ⟨140, envL [(8, (.bool t35))], []⟩ → K34 s := by
          intro t35 hq s hw
          subst o36
          try dsimp only at h0
          refine hK34 _ (AW.weaken hw ?_)
          replace h0 := Sh.some_eq h0
          subst r
          exact AW.ret (xr (Wk.to (L := [(8, (.bool t35))]) ⟨.rfl, trivial⟩))
         refine AW.regionO (by rfl) ?_
         iterate 2 refine zq tb rfl ?_
         refine zl tb rfl rfl ?_
         iterate 3 refine zq tb rfl ?_
         rcases Sh.ite_some h1 with ⟨b37, h1⟩ | ⟨b37, h1⟩
         ·refine zg tb b37 rfl ?_
          refine zg tb b37 rfl ?_
          refine ao_q (v := (i64 (Sh.len p3.args))) (go1 rfl rfl b37) rfl (aq_lens sl26 rfl) ?_
          iterate 2 refine zg tb b37 rfl ?_
          refine zt b37 rfl ?_
          refine zq tb rfl ?_
          exact AO.done (M36 (decide ((Sh.len p3.args) ≤ q33.2)) (Sh.some_eq h1).symm _ (Wk.d0 _ rfl))
         ·refine zs b37 rfl ?_
          iterate 4 refine zs b37 rfl ?_
          refine zf b37 rfl ?_
          refine zq tb rfl ?_
          exact AO.done (M36 false (Sh.some_eq h1).symm _ (Wk.d0 _ rfl))
      refine AW.regionO (by rfl) ?_
      iterate 2 refine zq tb rfl ?_
      refine zl tb rfl rfl ?_
      iterate 2 refine zq tb rfl ?_
      rcases Sh.ite_some h1 with ⟨b38, h1⟩ | ⟨b38, h1⟩
      ·refine zg tb b38 rfl ?_
       iterate 2 refine zg tb b38 rfl ?_
       refine zt b38 rfl ?_
       refine zq tb rfl ?_
       rcases Sh.ite_some h1 with ⟨b39, h1⟩ | ⟨b39, h1⟩
       ·refine zs b39 rfl ?_
        iterate 3 refine zs b39 rfl ?_
        refine zt b39 rfl ?_
        exact AO.done (M22 true (Sh.some_eq h1).symm _ (Wk.tr rfl))
       ·refine zg tb b39 rfl ?_
        refine zg tb b39 rfl ?_
        refine ao_q (v := (.fn 73 [(.ptr 4 0 0 0)])) (go1 rfl rfl b39) rfl (aq_fn rfl) ?_
        obtain ⟨q40, gq40, h1⟩ := Sh.bind_some h1
        refine ao_calls (rowsP := [⟨0, 102, 1, [[(.fn 72 [(.ptr 2 0 0 0), (.ptr 1 0 0 0)])]]⟩, ⟨0, 3, 1, [[(i64 p2)]]⟩, ⟨0, 88, 5, [(eRProc p1)]⟩]) (rows0 := [⟨0, 102, 1, [[(.fn 72 [(.ptr 1 0 0 0), (.ptr 2 0 0 0)])]]⟩, ⟨0, 3, 1, [[(i64 p2)]]⟩, ⟨0, 88, 5, [(eRProc p1)]⟩]) (rows1 := [⟨0, 102, 1, [[(.fn 72 [(.ptr 1 0 0 0), (.ptr 2 0 0 0)])]]⟩, ⟨0, 3, 1, [[(i64 p2)]]⟩, ⟨0, 88, 5, [(eRProc p1)]⟩]) (rows2 := []) (rows1' := [⟨0, 102, 1, [[(.fn 72 [(.ptr 2 0 0 0), (.ptr 1 0 0 0)])]]⟩, ⟨0, 3, 1, [[(i64 p2)]]⟩, ⟨0, 88, 5, [(eRProc p1)]⟩]) (rows2' := []) (st' := [⟨0, 96, 2, [(eRSignatures p0)]⟩, ⟨0, 88, 5, [(eRProc p1)]⟩, ⟨0, 3, 1, [[(i64 p2)]]⟩, ⟨0, 100, 6, [(eRInstr p3)]⟩, ⟨0, 102, 1, [[(.fn 72 [(.ptr 2 0 0 0), (.ptr 1 0 0 0)])]]⟩]) (v' := (.bool q40)) [4, 2, 1] (go1 rfl rfl b39) hb49 (slices_ContainsFunc_int_int_ok gq40) rfl (by decide) rfl rfl (.raw rfl rfl (.raw rfl rfl (.raw rfl rfl .nil))) rfl rfl (.raw rfl rfl (.raw rfl rfl (.raw rfl rfl .nil))) .nil rfl rfl ?_
        refine zf b39 rfl ?_
        exact AO.done (M22 q40 (Sh.some_eq h1).symm _ (Wk.tr rfl))
      ·refine zs b38 rfl ?_
       iterate 2 refine zs b38 rfl ?_
       refine zf b38 rfl ?_
       refine zq tb rfl ?_
       iterate 2 refine zg tb rfl rfl ?_
       refine ao_q (v := (.fn 73 [(.ptr 4 0 0 0)])) (go1 rfl rfl rfl) rfl (aq_fn rfl) ?_
       obtain ⟨q41, gq41, h1⟩ := Sh.bind_some h1
       refine ao_calls (rowsP := [⟨0, 102, 1, [[(.fn 72 [(.ptr 2 0 0 0), (.ptr 1 0 0 0)])]]⟩, ⟨0, 3, 1, [[(i64 p2)]]⟩, ⟨0, 88, 5, [(eRProc p1)]⟩]) (rows0 := [⟨0, 102, 1, [[(.fn 72 [(.ptr 1 0 0 0), (.ptr 2 0 0 0)])]]⟩, ⟨0, 3, 1, [[(i64 p2)]]⟩, ⟨0, 88, 5, [(eRProc p1)]⟩]) (rows1 := [⟨0, 102, 1, [[(.fn 72 [(.ptr 1 0 0 0), (.ptr 2 0 0 0)])]]⟩, ⟨0, 3, 1, [[(i64 p2)]]⟩, ⟨0, 88, 5, [(eRProc p1)]⟩]) (rows2 := []) (rows1' := [⟨0, 102, 1, [[(.fn 72 [(.ptr 2 0 0 0), (.ptr 1 0 0 0)])]]⟩, ⟨0, 3, 1, [[(i64 p2)]]⟩, ⟨0, 88, 5, [(eRProc p1)]⟩]) (rows2' := []) (st' := [⟨0, 96, 2, [(eRSignatures p0)]⟩, ⟨0, 88, 5, [(eRProc p1)]⟩, ⟨0, 3, 1, [[(i64 p2)]]⟩, ⟨0, 100, 6, [(eRInstr p3)]⟩, ⟨0, 102, 1, [[(.fn 72 [(.ptr 2 0 0 0), (.ptr 1 0 0 0)])]]⟩]) (v' := (.bool q41)) [4, 2, 1] (go1 rfl rfl rfl) hb49 (slices_ContainsFunc_int_int_ok gq41) rfl (by decide) rfl rfl (.raw rfl rfl (.raw rfl rfl (.raw rfl rfl .nil))) rfl rfl (.raw rfl rfl (.raw rfl rfl (.raw rfl rfl .nil))) .nil rfl rfl ?_
       refine zf rfl rfl ?_
       exact AO.done (M22 q41 (Sh.some_eq h1).symm _ (Wk.tr rfl))
     refine AW.block (AW.loopF (σ := Int) (fun n v => impl_signatures_instrValid_L1 p1 p3 n v = some o17) (fun t16 => ⟨140, envL [(4, (.ptr 0 0 0 0)), (5, (.ptr 1 0 0 0)), (6, (.ptr 2 0 0 0)), (7, (.ptr 3 0 0 0)), (86, (.sl (List.map eI p3.args))), (87, (i64 (Sh.len p3.args))), (88, (i64 t16))], [⟨0, 96, 2, [(eRSignatures p0)]⟩, ⟨0, 88, 5, [(eRProc p1)]⟩, ⟨0, 3, 1, [[(i64 p2)]]⟩, ⟨0, 100, 6, [(eRInstr p3)]⟩]⟩) N 0 h1 (Wk.tr rfl) (fun _ hv => by rw [impl_signatures_instrValid_L1] at hv; cases hv) ?_)
     rintro n t16 h1
     try dsimp only at h1 ⊢
     rw [impl_signatures_instrValid_L1] at h1
     refine sr rfl fun K42 hK42 => ?_
     refine zq tb rfl ?_
     refine dn hK42 rfl ?_
     refine AW.seq fun K43 hK43 => ?_
     refine ci h1 rfl ?_ ?_ <;> clear h1
     ·intro b44 h1
      refine AW.skip (hK43 _ ?_)
      refine AW.seq fun K45 hK45 => ?_
      refine AW.block ?_
      refine sr rfl fun K46 hK46 => ?_
      obtain ⟨c47, gc47, h1⟩ := Sh.bind_some h1
      refine zx ei26 gc47 rfl rfl rfl ?_
      iterate 2 refine zq tb rfl ?_
      refine dn hK46 rfl ?_
      refine AW.seq fun K48 hK48 => ?_
      obtain ⟨o50, h2, h1⟩ := Sh.bind_some h1
      have M50 : ∀ (t49 : Bool), o50 = t49 → ∀ s, Wk 0 s ⟨140, envL [(4, (.ptr 0 0 0 0)), (5, (.ptr 1 0 0 0)), (6, (.ptr 2 0 0 0)), (7, (.ptr 3 0 0 0)), (86, (.sl (List.map eI p3.args))), (87, (i64 (Sh.len p3.args))), (88, (i64 t16)), (99, (.bool t49))], [⟨0, 96, 2, [(eRSignatures p0)]⟩, ⟨0, 88, 5, [(eRProc p1)]⟩, ⟨0, 3, 1, [[(i64 p2)]]⟩, ⟨0, 100, 6, [(eRInstr p3)]⟩]⟩ → K48 s := by
       intro t49 hq s hw
       subst o50
       try dsimp only at h1
       refine hK48 _ (AW.weaken hw ?_)
       refine ci h1 rfl ?_ ?_ <;> clear h1
       ·intro b51 h1
        refine sr rfl fun K52 hK52 => ?_
        refine zq tb rfl ?_
        refine dn hK52 rfl ?_
        replace h1 := Sh.some_eq h1
        subst o17
        try dsimp only [id] at h0
        replace h0 := Sh.some_eq h0
        subst r
        exact AW.ret (xr (Wk.d0 [(8, (.bool false))] rfl))
       ·intro b51 h1
        refine AW.skip (hK45 _ ?_)
        refine AW.regionO (by rfl) ?_
        iterate 2 refine zq tb rfl ?_
        exact AO.done (xi (Sh.w (t16 + 1)) h1 (Wk.tr rfl))
      refine AW.regionO (by rfl) ?_
      iterate 3 refine zq tb rfl ?_
      rcases Sh.ite_some h2 with ⟨b53, h2⟩ | ⟨b53, h2⟩
      ·refine zs b53 rfl ?_
       iterate 3 refine zs b53 rfl ?_
       refine zt b53 rfl ?_
       exact AO.done (M50 true (Sh.some_eq h2).symm _ (Wk.tr rfl))
      ·refine zg tb b53 rfl ?_
       iterate 3 refine zg tb b53 rfl ?_
       refine zf b53 rfl ?_
       exact AO.done (M50 (decide (p1.regs ≤ c47)) (Sh.some_eq h2).symm _ (Wk.tr rfl))
     ·intro b44 h1
      exact AW.exit (M17 () (Sh.some_eq h1).symm _ (Wk.tr rfl))
   refine AW.regionO (by rfl) ?_
   iterate 4 refine zq tb rfl ?_
   rcases Sh.ite_some h1 with ⟨b54, h1⟩ | ⟨b54, h1⟩
   ·refine zs b54 rfl ?_
    iterate 4 refine zs b54 rfl ?_
    refine zt b54 rfl ?_
    refine zq tb rfl ?_
    iterate 4 refine zs rfl rfl ?_
    iterate 4 refine zn rfl ?_
    refine zs rfl rfl ?_
    refine zt rfl rfl ?_
    refine zq tb rfl ?_
    iterate 3 refine zs rfl rfl ?_
    refine zt rfl rfl ?_
    refine zq tb rfl ?_
    iterate 5 refine zs rfl rfl ?_
    refine zt rfl rfl ?_
    refine zq tb rfl ?_
    iterate 4 refine zs rfl rfl ?_
    iterate 3 refine zn rfl ?_
    refine zs rfl rfl ?_
    refine zt rfl rfl ?_
    exact AO.done (M11 true (Sh.some_eq h1).symm _ (Wk.tr rfl))
   ·refine zg tb b54 rfl ?_
    iterate 4 refine zg tb b54 rfl ?_
    refine zf b54 rfl ?_
    refine zq tb rfl ?_
    rcases Sh.ite_some h1 with ⟨b55, h1⟩ | ⟨b55, h1⟩
    ·refine zs b55 rfl ?_
     iterate 3 refine zs b55 rfl ?_
     iterate 4 refine zn rfl ?_
     refine zs b55 rfl ?_
     refine zt b55 rfl ?_
     refine zq tb rfl ?_
     iterate 3 refine zs rfl rfl ?_
     refine zt rfl rfl ?_
     refine zq tb rfl ?_
     iterate 5 refine zs rfl rfl ?_
     refine zt rfl rfl ?_
     refine zq tb rfl ?_
     iterate 4 refine zs rfl rfl ?_
     iterate 3 refine zn rfl ?_
     refine zs rfl rfl ?_
     refine zt rfl rfl ?_
     exact AO.done (M11 true (Sh.some_eq h1).symm _ (Wk.tr rfl))
    ·refine zg tb b55 rfl ?_
     iterate 3 refine zg tb b55 rfl ?_
     rcases Sh.ite_some h1 with ⟨b56, h1⟩ | ⟨b56, h1⟩
     ·refine zg tb b56 rfl ?_
      refine zg tb b56 rfl ?_
      obtain ⟨q57, gq57, h1⟩ := Sh.bind_some h1
      refine zd b56 hb71 (impl_setsRegister_ok gq57) rfl rfl rfl rfl ?_
      refine zg tb b56 rfl ?_
      refine ao_q (v := (.bool (!q57))) (go1 rfl rfl b55) rfl (aq_pkt rfl b56 rfl) ?_
      refine zf b55 rfl ?_
      refine zq tb rfl ?_
      rcases Sh.ite_some h1 with ⟨b58, h1⟩ | ⟨b58, h1⟩
      ·refine zs b58 rfl ?_
       iterate 2 refine zs b58 rfl ?_
       refine zt b58 rfl ?_
       refine zq tb rfl ?_
       iterate 5 refine zs rfl rfl ?_
       refine zt rfl rfl ?_
       refine zq tb rfl ?_
       iterate 4 refine zs rfl rfl ?_
       iterate 3 refine zn rfl ?_
       refine zs rfl rfl ?_
       refine zt rfl rfl ?_
       exact AO.done (M11 true (Sh.some_eq h1).symm _ (Wk.tr rfl))
      ·refine zg tb b58 rfl ?_
       iterate 2 refine zg tb b58 rfl ?_
       refine zf b58 rfl ?_
       refine zq tb rfl ?_
       rcases Sh.ite_some h1 with ⟨b59, h1⟩ | ⟨b59, h1⟩
       ·refine zs b59 rfl ?_
        iterate 4 refine zs b59 rfl ?_
        refine zt b59 rfl ?_
        refine zq tb rfl ?_
        iterate 4 refine zs rfl rfl ?_
        iterate 3 refine zn rfl ?_
        refine zs rfl rfl ?_
        refine zt rfl rfl ?_
        exact AO.done (M11 true (Sh.some_eq h1).symm _ (Wk.tr rfl))
       ·refine zg tb b59 rfl ?_
        iterate 4 refine zg tb b59 rfl ?_
        refine zf b59 rfl ?_
        refine zq tb rfl ?_
        rcases Sh.ite_some h1 with ⟨b60, h1⟩ | ⟨b60, h1⟩
        ·refine zs b60 rfl ?_
         iterate 3 refine zs b60 rfl ?_
         iterate 3 refine zn rfl ?_
         refine zs b60 rfl ?_
         refine zt b60 rfl ?_
         exact AO.done (M11 true (Sh.some_eq h1).symm _ (Wk.tr rfl))
        ·refine zg tb b60 rfl ?_
         iterate 3 refine zg tb b60 rfl ?_
         rcases Sh.ite_some h1 with ⟨b61, h1⟩ | ⟨b61, h1⟩
         ·refine zg tb b61 rfl ?_
          iterate 2 refine zg tb b61 rfl ?_
          refine ao_q (v := (.bool (!decide (p3.op = 6)))) (go1 rfl rfl b60) rfl (aq_pkt rfl b61 rfl) ?_
          refine zf b60 rfl ?_
          exact AO.done (M11 (!decide (p3.op = 6)) (Sh.some_eq h1).symm _ (Wk.tr rfl))
         ·refine zs b61 rfl ?_
          iterate 2 refine zs b61 rfl ?_
          refine ao_q (v := (.bool false)) (go1 rfl rfl b60) rfl (aq_pkf rfl b61 rfl) ?_
          refine zf b60 rfl ?_
          exact AO.done (M11 false (Sh.some_eq h1).symm _ (Wk.tr rfl))
     ·refine zs b56 rfl ?_
      iterate 3 refine zs b56 rfl ?_
      refine ao_q (v := (.bool false)) (go1 rfl rfl b55) rfl (aq_pkf rfl b56 rfl) ?_
      refine zf b55 rfl ?_
      refine zq tb rfl ?_
      iterate 3 refine zg tb rfl rfl ?_
      refine zf rfl rfl ?_
      refine zq tb rfl ?_
      rcases Sh.ite_some h1 with ⟨b62, h1⟩ | ⟨b62, h1⟩
      ·refine zs b62 rfl ?_
       iterate 4 refine zs b62 rfl ?_
       refine zt b62 rfl ?_
       refine zq tb rfl ?_
       iterate 4 refine zs rfl rfl ?_
       iterate 3 refine zn rfl ?_
       refine zs rfl rfl ?_
       refine zt rfl rfl ?_
       exact AO.done (M11 true (Sh.some_eq h1).symm _ (Wk.tr rfl))
      ·refine zg tb b62 rfl ?_
       iterate 4 refine zg tb b62 rfl ?_
       refine zf b62 rfl ?_
       refine zq tb rfl ?_
       rcases Sh.ite_some h1 with ⟨b63, h1⟩ | ⟨b63, h1⟩
       ·refine zs b63 rfl ?_
        iterate 3 refine zs b63 rfl ?_
        iterate 3 refine zn rfl ?_
        refine zs b63 rfl ?_
        refine zt b63 rfl ?_
        exact AO.done (M11 true (Sh.some_eq h1).symm _ (Wk.tr rfl))
       ·refine zg tb b63 rfl ?_
        iterate 3 refine zg tb b63 rfl ?_
        rcases Sh.ite_some h1 with ⟨b64, h1⟩ | ⟨b64, h1⟩
        ·refine zg tb b64 rfl ?_
         iterate 2 refine zg tb b64 rfl ?_
         refine ao_q (v := (.bool (!decide (p3.op = 6)))) (go1 rfl rfl b63) rfl (aq_pkt rfl b64 rfl) ?_
         refine zf b63 rfl ?_
         exact AO.done (M11 (!decide (p3.op = 6)) (Sh.some_eq h1).symm _ (Wk.tr rfl))
        ·refine zs b64 rfl ?_
         iterate 2 refine zs b64 rfl ?_
         refine ao_q (v := (.bool false)) (go1 rfl rfl b63) rfl (aq_pkf rfl b64 rfl) ?_
         refine zf b63 rfl ?_
         exact AO.done (M11 false (Sh.some_eq h1).symm _ (Wk.tr rfl))
 refine AW.regionO (by rfl) ?_
 iterate 4 refine zq tb rfl ?_
 rcases Sh.ite_some h1 with ⟨b65, h1⟩ | ⟨b65, h1⟩
 ·refine zs b65 rfl ?_
  iterate 2 refine zs b65 rfl ?_
  refine zt b65 rfl ?_
  refine zq tb rfl ?_
  iterate 3 refine zs rfl rfl ?_
  refine zt rfl rfl ?_
  refine zq tb rfl ?_
  iterate 3 refine zs rfl rfl ?_
  refine zt rfl rfl ?_
  refine zq tb rfl ?_
  iterate 3 refine zs rfl rfl ?_
  refine zt rfl rfl ?_
  refine zq tb rfl ?_
  iterate 3 refine zs rfl rfl ?_
  refine zt rfl rfl ?_
  exact AO.done (M5 true (Sh.some_eq h1).symm _ (Wk.tr rfl))
 ·refine zg tb b65 rfl ?_
  iterate 2 refine zg tb b65 rfl ?_
  refine zf b65 rfl ?_
  refine zq tb rfl ?_
  rcases Sh.ite_some h1 with ⟨b66, h1⟩ | ⟨b66, h1⟩
  ·refine zs b66 rfl ?_
   iterate 2 refine zs b66 rfl ?_
   refine zt b66 rfl ?_
   refine zq tb rfl ?_
   iterate 3 refine zs rfl rfl ?_
   refine zt rfl rfl ?_
   refine zq tb rfl ?_
   iterate 3 refine zs rfl rfl ?_
   refine zt rfl rfl ?_
   refine zq tb rfl ?_
   iterate 3 refine zs rfl rfl ?_
   refine zt rfl rfl ?_
   exact AO.done (M5 true (Sh.some_eq h1).symm _ (Wk.tr rfl))
  ·refine zg tb b66 rfl ?_
   iterate 2 refine zg tb b66 rfl ?_
   refine zf b66 rfl ?_
   refine zq tb rfl ?_
   rcases Sh.ite_some h1 with ⟨b67, h1⟩ | ⟨b67, h1⟩
   ·refine zs b67 rfl ?_
    iterate 2 refine zs b67 rfl ?_
    refine zt b67 rfl ?_
    refine zq tb rfl ?_
    iterate 3 refine zs rfl rfl ?_
    refine zt rfl rfl ?_
    refine zq tb rfl ?_
    iterate 3 refine zs rfl rfl ?_
    refine zt rfl rfl ?_
    exact AO.done (M5 true (Sh.some_eq h1).symm _ (Wk.tr rfl))
   ·refine zg tb b67 rfl ?_
    iterate 2 refine zg tb b67 rfl ?_
    refine zf b67 rfl ?_
    refine zq tb rfl ?_
    rcases Sh.ite_some h1 with ⟨b68, h1⟩ | ⟨b68, h1⟩
    ·refine zs b68 rfl ?_
     iterate 2 refine zs b68 rfl ?_
     refine zt b68 rfl ?_
     refine zq tb rfl ?_
     iterate 3 refine zs rfl rfl ?_
     refine zt rfl rfl ?_
     exact AO.done (M5 true (Sh.some_eq h1).symm _ (Wk.tr rfl))
    ·refine zg tb b68 rfl ?_
     iterate 2 refine zg tb b68 rfl ?_
     refine zf b68 rfl ?_
     refine zq tb rfl ?_
     rcases Sh.ite_some h1 with ⟨b69, h1⟩ | ⟨b69, h1⟩
     ·refine zs b69 rfl ?_
      iterate 2 refine zs b69 rfl ?_
      refine zt b69 rfl ?_
      exact AO.done (M5 true (Sh.some_eq h1).symm _ (Wk.tr rfl))
     ·refine zg tb b69 rfl ?_
      iterate 2 refine zg tb b69 rfl ?_
      refine zf b69 rfl ?_
      exact AO.done (M5 (decide (p3.op = 13)) (Sh.some_eq h1).symm _ (Wk.tr rfl))
theorem impl_ValidImage_ok {N : Nat} {p0 : RImage} {r : Bool} (h0 : impl_ValidImage N p0 = some r) : ACalls Tryz.prog 23 [(.agg (eRImage p0))] [] (fun v st => v = (.bool r) ∧ st = []) := by
 unfold impl_ValidImage at h0
 refine ACalls.intro Tryz.func23 rfl (by show 1 ≤ 79; decide) ?_
 show AW _ 0 _ (aret _ 0 Tryz.f23 _) ⟨79, _, _⟩
 refine AW.weaken (Wk.to (L := [(0, (.agg (eRImage p0)))]) ⟨.rfl, trivial⟩) ?_
 refine sr rfl fun K1 hK1 => ?_
 refine ao_box (m := 0) (st' := [⟨0, 37, 2, [(eRImage p0)]⟩]) go0 rfl rfl rfl rfl rfl ?_
 refine zq tb rfl ?_
 refine dn hK1 rfl ?_
 refine sr rfl fun K2 hK2 => ?_
 refine zq tb rfl ?_
 obtain ⟨q3, gq3, h0⟩ := Sh.bind_some h0
 refine zc (v' := (.tup [(.agg (eRSignatures q3.1)), (.bool q3.2)])) hb45 (impl_imageSigs_ok gq3) rfl rfl rfl ?_
 iterate 3 refine zq tb rfl ?_
 refine ao_alloc (m := 1) (st' := [⟨0, 37, 2, [(eRImage p0)]⟩, ⟨0, 96, 2, [[.zc, .zc]]⟩]) go0 zi96 rfl rfl ?_
 refine ao_str (st' := [⟨0, 37, 2, [(eRImage p0)]⟩, ⟨0, 96, 2, [(eRSignatures q3.1)]⟩]) go0 ti96 rfl rfl rfl rfl rfl rfl (show 0 + 2 ≤ 2 by decide) rfl ?_
 refine zq tb rfl ?_
 refine dn hK2 rfl ?_
 refine AW.seq fun K4 hK4 => ?_
 refine sr rfl fun K5 hK5 => ?_
 iterate 2 refine zq tb rfl ?_
 refine dn hK5 rfl ?_
 refine ci h0 rfl ?_ ?_ <;> clear h0
 ·intro b6 h0
  have b7 : q3.2 = false := by simpa using b6
  refine sr rfl fun K8 hK8 => ?_
  refine zq tb rfl ?_
  refine dn hK8 rfl ?_
  replace h0 := Sh.some_eq h0
  subst r
  exact AW.ret (xr (Wk.d0 [(2, (.bool false))] rfl))
 ·intro b6 h0
  have b9 : q3.2 = true := by simpa using b6
  refine AW.skip (hK4 _ ?_)
  refine AW.seq fun K10 hK10 => ?_
  refine sr rfl fun K11 hK11 => ?_
  iterate 2 refine zq tb rfl ?_
  refine zl tb rfl rfl ?_
  refine zq tb rfl ?_
  refine dn hK11 rfl ?_
  obtain ⟨o13, h1, h0⟩ := Sh.cont_some h0
  have M13 : ∀ (_ : Unit), o13 = Sum.inr () → ∀ s, Wk 0 s ⟨79, envL [], []⟩ → K10 s := by
   intro _ hq s hw
   subst o13
   try dsimp only at h0
   refine hK10 _ (AW.weaken hw ?_)
   refine sr rfl fun K14 hK14 => ?_
   refine zq tb rfl ?_
   refine dn hK14 rfl ?_
   replace h0 := Sh.some_eq h0
   subst r
   exact AW.ret (xr (Wk.to (L := [(2, (.bool true))]) ⟨.rfl, trivial⟩))
  refine AW.block (AW.loopF (σ := Int) (fun n v => impl_ValidImage_L1 N p0 q3 n v = some o13) (fun t12 => ⟨79, envL [(3, (.ptr 0 0 0 0)), (18, (.sl (List.map eRProc p0.procs))), (19, (i64 (Sh.len p0.procs))), (20, (i64 t12))], [⟨0, 96, 2, [(eRSignatures q3.1)]⟩]⟩) N 0 h1 (Wk.permk (L := [(3, (.ptr 0 0 0 0)), (18, (.sl (List.map eRProc p0.procs))), (19, (i64 (Sh.len p0.procs))), (20, (i64 0))]) (st' := [⟨0, 96, 2, [(eRSignatures q3.1)]⟩]) (st1 := [⟨0, 96, 2, [(eRSignatures q3.1)]⟩]) [1] rfl .nil (by decide) rfl rfl (.raw rfl rfl .nil) ⟨.rfl, .rfl, .rfl, .rfl, trivial⟩) (fun _ hv => by rw [impl_ValidImage_L1] at hv; cases hv) ?_)
  rintro n t12 h1
  try dsimp only at h1 ⊢
  rw [impl_ValidImage_L1] at h1
  refine sr rfl fun K15 hK15 => ?_
  refine zq tb rfl ?_
  refine dn hK15 rfl ?_
  refine AW.seq fun K16 hK16 => ?_
  refine ci h1 rfl ?_ ?_ <;> clear h1
  ·intro b17 h1
   refine AW.skip (hK16 _ ?_)
   refine AW.seq fun K18 hK18 => ?_
   refine AW.block ?_
   refine sr rfl fun K19 hK19 => ?_
   obtain ⟨c20, gc20, h1⟩ := Sh.bind_some h1
   refine zx ei35 gc20 rfl rfl rfl ?_
   refine zq tb rfl ?_
   refine ao_alloc (m := 1) (st' := [⟨0, 96, 2, [(eRSignatures q3.1)]⟩, ⟨0, 88, 5, [[.zc, .zc, (i64 0), (i64 0), .zc]]⟩]) go0 zi88 rfl rfl ?_
   refine ao_str (st' := [⟨0, 96, 2, [(eRSignatures q3.1)]⟩, ⟨0, 88, 5, [(eRProc c20)]⟩]) go0 ti88 rfl rfl rfl rfl rfl rfl (show 0 + 5 ≤ 5 by decide) rfl ?_
   refine dn hK19 rfl ?_
   refine AW.seq fun K21 hK21 => ?_
   refine AW.seq fun K22 hK22 => ?_
   obtain ⟨o24, h2, h1⟩ := Sh.bind_some h1
   have M24 : ∀ (t23 : Bool), o24 = t23 → ∀ s, Wk 0 s ⟨79, envL [(3, (.ptr 0 0 0 0)), (6, (.ptr 1 0 0 0)), (18, (.sl (List.map eRProc p0.procs))), (19, (i64 (Sh.len p0.procs))), (20, (i64 t12)), (47, (.bool t23))], [⟨0, 96, 2, [(eRSignatures q3.1)]⟩, ⟨0, 88, 5, [(eRProc c20)]⟩]⟩ → K22 s := by
    intro t23 hq s hw
    subst o24
    try dsimp only at h1
    refine hK22 _ (AW.weaken hw ?_)
    refine ci h1 rfl ?_ ?_ <;> clear h1
    ·intro b25 h1
     refine sr rfl fun K26 hK26 => ?_
     refine zq tb rfl ?_
     refine dn hK26 rfl ?_
     replace h1 := Sh.some_eq h1
     subst o13
     try dsimp only [id] at h0
     replace h0 := Sh.some_eq h0
     subst r
     exact AW.ret (xr (Wk.d0 [(2, (.bool false))] rfl))
    ·intro b25 h1
     refine AW.skip (hK21 _ ?_)
     refine AW.seq fun K27 hK27 => ?_
     refine sr rfl fun K28 hK28 => ?_
     iterate 4 refine zq tb rfl ?_
     refine zl tb rfl rfl ?_
     refine zq tb rfl ?_
     obtain ⟨c29, gc29, h1⟩ := Sh.bind_some h1
     refine zx ei86 gc29 rfl rfl rfl ?_
     iterate 3 refine zq tb rfl ?_
     refine dn hK28 rfl ?_
     refine AW.seq fun K30 hK30 => ?_
     obtain ⟨o32, h2, h1⟩ := Sh.bind_some h1
     have M32 : ∀ (t31 : Bool), o32 = t31 → ∀ s, Wk 0 s ⟨79, envL [(3, (.ptr 0 0 0 0)), (6, (.ptr 1 0 0 0)), (18, (.sl (List.map eRProc p0.procs))), (19, (i64 (Sh.len p0.procs))), (20, (i64 t12)), (62, (.bool t31))], [⟨0, 96, 2, [(eRSignatures q3.1)]⟩, ⟨0, 88, 5, [(eRProc c20)]⟩]⟩ → K30 s := by
      intro t31 hq s hw
      subst o32
      try dsimp only at h1
      refine hK30 _ (AW.weaken hw ?_)
      refine ci h1 rfl ?_ ?_ <;> clear h1
      ·intro b33 h1
       refine sr rfl fun K34 hK34 => ?_
       refine zq tb rfl ?_
       refine dn hK34 rfl ?_
       replace h1 := Sh.some_eq h1
       subst o13
       try dsimp only [id] at h0
       replace h0 := Sh.some_eq h0
       subst r
       exact AW.ret (xr (Wk.d0 [(2, (.bool false))] rfl))
      ·intro b33 h1
       refine AW.skip (hK27 _ ?_)
       refine sr rfl fun K35 hK35 => ?_
       iterate 2 refine zq tb rfl ?_
       refine zl tb rfl rfl ?_
       refine zq tb rfl ?_
       refine dn hK35 rfl ?_
       obtain ⟨o37, h2, h1⟩ := Sh.cont_some h1
       have M37 : ∀ (_ : Unit), o37 = Sum.inr () → ∀ s, Wk 0 s ⟨79, envL [(3, (.ptr 0 0 0 0)), (18, (.sl (List.map eRProc p0.procs))), (19, (i64 (Sh.len p0.procs))), (20, (i64 t12))], [⟨0, 96, 2, [(eRSignatures q3.1)]⟩]⟩ → K18 s := by
        intro _ hq s hw
        subst o37
        try dsimp only at h1
        refine hK18 _ (AW.weaken hw ?_)
        refine AW.regionO (by rfl) ?_
        iterate 2 refine zq tb rfl ?_
        exact AO.done (xi (Sh.w (t12 + 1)) h1 (Wk.tr rfl))
       refine AW.block (AW.loopF (σ := Int) (fun n v => impl_ValidImage_L2 N c20 q3 n v = some o37) (fun t36 => ⟨79, envL [(3, (.ptr 0 0 0 0)), (6, (.ptr 1 0 0 0)), (18, (.sl (List.map eRProc p0.procs))), (19, (i64 (Sh.len p0.procs))), (20, (i64 t12)), (64, (.sl (List.map eRInstr c20.code))), (65, (i64 (Sh.len c20.code))), (66, (i64 t36))], [⟨0, 96, 2, [(eRSignatures q3.1)]⟩, ⟨0, 88, 5, [(eRProc c20)]⟩]⟩) N 0 h2 (Wk.tr rfl) (fun _ hv => by rw [impl_ValidImage_L2] at hv; cases hv) ?_)
       rintro n t36 h2
       try dsimp only at h2 ⊢
       rw [impl_ValidImage_L2] at h2
       refine sr rfl fun K38 hK38 => ?_
       refine zq tb rfl ?_
       refine dn hK38 rfl ?_
       refine AW.seq fun K39 hK39 => ?_
       refine ci h2 rfl ?_ ?_ <;> clear h2
       ·intro b40 h2
        refine AW.skip (hK39 _ ?_)
        refine AW.seq fun K41 hK41 => ?_
        refine AW.block ?_
        refine sr rfl fun K42 hK42 => ?_
        refine zq tb rfl ?_
        obtain ⟨c43, gc43, h2⟩ := Sh.bind_some h2
        refine zx ei86 gc43 rfl rfl rfl ?_
        refine zq tb rfl ?_
        refine ao_alloc (m := 2) (st' := [⟨0, 96, 2, [(eRSignatures q3.1)]⟩, ⟨0, 88, 5, [(eRProc c20)]⟩, ⟨0, 100, 6, [[(i64 0), (i64 0), (i64 0), (i64 0), .zc, .zc]]⟩]) go0 zi100 rfl rfl ?_
        refine zq tb rfl ?_
        refine ao_str (st' := [⟨0, 96, 2, [(eRSignatures q3.1)]⟩, ⟨0, 88, 5, [(eRProc c20)]⟩, ⟨0, 100, 6, [(eRInstr c43)]⟩]) go0 ti100 rfl rfl rfl rfl rfl rfl (show 0 + 6 ≤ 6 by decide) rfl ?_
        refine dn hK42 rfl ?_
        refine sr rfl fun K44 hK44 => ?_
        iterate 4 refine zq tb rfl ?_
        obtain ⟨q45, gq45, h2⟩ := Sh.bind_some h2
        refine zc hb46 (impl_signatures_instrValid_ok gq45) rfl rfl rfl ?_
        refine zq tb rfl ?_
        refine dn hK44 rfl ?_
        refine ci h2 rfl ?_ ?_ <;> clear h2
        ·intro b46 h2
         have b47 : q45 = false := by simpa using b46
         refine sr rfl fun K48 hK48 => ?_
         refine zq tb rfl ?_
         refine dn hK48 rfl ?_
         replace h2 := Sh.some_eq h2
         subst o37
         try dsimp only [id] at h1
         replace h1 := Sh.some_eq h1
         subst o13
         try dsimp only [id] at h0
         replace h0 := Sh.some_eq h0
         subst r
         exact AW.ret (xr (Wk.d0 [(2, (.bool false))] rfl))
        ·intro b46 h2
         have b49 : q45 = true := by simpa using b46
         refine AW.skip (hK41 _ ?_)
         refine AW.regionO (by rfl) ?_
         iterate 2 refine zq tb rfl ?_
         exact AO.done (xi (Sh.w (t36 + 1)) h2 (Wk.permk (L := [(3, (.ptr 0 0 0 0)), (6, (.ptr 1 0 0 0)), (18, (.sl (List.map eRProc p0.procs))), (19, (i64 (Sh.len p0.procs))), (20, (i64 t12)), (64, (.sl (List.map eRInstr c20.code))), (65, (i64 (Sh.len c20.code))), (66, (i64 (Sh.w (t36 + 1))))]) (st' := [⟨0, 96, 2, [(eRSignatures q3.1)]⟩, ⟨0, 88, 5, [(eRProc c20)]⟩]) (st1 := [⟨0, 96, 2, [(eRSignatures q3.1)]⟩, ⟨0, 88, 5, [(eRProc c20)]⟩]) [0, 1] rfl .nil (by decide) rfl rfl (.raw rfl rfl (.raw rfl rfl .nil)) ⟨.rfl, .rfl, .rfl, .rfl, .rfl, .rfl, .rfl, .rfl, trivial⟩))
       ·intro b40 h2
        exact AW.exit (M37 () (Sh.some_eq h2).symm _ (Wk.permk (L := [(3, (.ptr 0 0 0 0)), (18, (.sl (List.map eRProc p0.procs))), (19, (i64 (Sh.len p0.procs))), (20, (i64 t12))]) (st' := [⟨0, 96, 2, [(eRSignatures q3.1)]⟩]) (st1 := [⟨0, 96, 2, [(eRSignatures q3.1)]⟩]) [0] rfl .nil (by decide) rfl rfl (.raw rfl rfl .nil) ⟨.rfl, .rfl, .rfl, .rfl, trivial⟩))
     refine AW.regionO (by rfl) ?_
     iterate 3 refine zq tb rfl ?_
     rcases Sh.ite_some h2 with ⟨b50, h2⟩ | ⟨b50, h2⟩
     ·refine zg tb b50 rfl ?_
      refine zg tb b50 rfl ?_
      refine zt b50 rfl ?_
      exact AO.done (M32 (!decide (c29.op = 24)) (Sh.some_eq h2).symm _ (Wk.tr rfl))
     ·refine zs b50 rfl ?_
      refine zs b50 rfl ?_
      refine zf b50 rfl ?_
      exact AO.done (M32 false (Sh.some_eq h2).symm _ (Wk.tr rfl))
   refine AW.regionO (by rfl) ?_
   iterate 4 refine zq tb rfl ?_
   refine zl tb rfl rfl ?_
   refine zz (i64 (if (Sh.len c20.params) > 1 then (Sh.len c20.params) else 1)) (aq_max rfl rfl) rfl ?_
   iterate 2 refine zq tb rfl ?_
   rcases Sh.ite_some h2 with ⟨b51, h2⟩ | ⟨b51, h2⟩
   ·refine zs b51 rfl ?_
    iterate 2 refine zs b51 rfl ?_
    refine zt b51 rfl ?_
    refine zq tb rfl ?_
    iterate 4 refine zs rfl rfl ?_
    refine zt rfl rfl ?_
    refine zq tb rfl ?_
    iterate 4 refine zs rfl rfl ?_
    refine zt rfl rfl ?_
    exact AO.done (M24 true (Sh.some_eq h2).symm _ (Wk.tr rfl))
   ·refine zg tb b51 rfl ?_
    iterate 2 refine zg tb b51 rfl ?_
    refine zf b51 rfl ?_
    refine zq tb rfl ?_
    rcases Sh.ite_some h2 with ⟨b52, h2⟩ | ⟨b52, h2⟩
    ·refine zs b52 rfl ?_
     iterate 3 refine zs b52 rfl ?_
     refine zt b52 rfl ?_
     refine zq tb rfl ?_
     iterate 4 refine zs rfl rfl ?_
     refine zt rfl rfl ?_
     exact AO.done (M24 true (Sh.some_eq h2).symm _ (Wk.tr rfl))
    ·refine zg tb b52 rfl ?_
     refine zg tb b52 rfl ?_
     refine ao_q (v := (i64 (Sh.len c20.code))) (go1 rfl rfl b52) rfl (aq_lens sl86 rfl) ?_
     refine zg tb b52 rfl ?_
     refine zf b52 rfl ?_
     refine zq tb rfl ?_
     rcases Sh.ite_some h2 with ⟨b53, h2⟩ | ⟨b53, h2⟩
     ·refine zs b53 rfl ?_
      iterate 3 refine zs b53 rfl ?_
      refine zt b53 rfl ?_
      exact AO.done (M24 true (Sh.some_eq h2).symm _ (Wk.tr rfl))
     ·refine zg tb b53 rfl ?_
      refine zg tb b53 rfl ?_
      refine ao_q (v := (i64 (Sh.len c20.code))) (go1 rfl rfl b53) rfl (aq_lens sl86 rfl) ?_
      refine zg tb b53 rfl ?_
      refine zf b53 rfl ?_
      exact AO.done (M24 (decide (2000 < (Sh.len c20.code))) (Sh.some_eq h2).symm _ (Wk.tr rfl))
  ·intro b17 h1
   exact AW.exit (M13 () (Sh.some_eq h1).symm _ (Wk.d0 _ rfl))
theorem impl_isInt_ok {p0 : Int} {r : Bool} (h0 : impl_isInt p0 = some r) : ACalls Tryz.prog 47 [(i64 p0)] [] (fun v st => v = (.bool r) ∧ st = []) := by
 unfold impl_isInt at h0
 refine ACalls.intro Tryz.func47 rfl (by show 1 ≤ 9; decide) ?_
 show AW _ 0 _ (aret _ 0 Tryz.f47 _) ⟨9, _, _⟩
 refine AW.weaken (Wk.to (L := [(0, (i64 p0))]) ⟨.rfl, trivial⟩) ?_
 refine sr rfl fun K1 hK1 => ?_
 refine zq tb rfl ?_
 refine dn hK1 rfl ?_
 refine AW.seq fun K2 hK2 => ?_
 obtain ⟨o4, h1, h0⟩ := Sh.bind_some h0
 have M4 : ∀ (t3 : Bool), o4 = t3 → ∀ s, Wk 0 s ⟨9, envL [(2, (.bool t3))], []⟩ → K2 s := by
  intro t3 hq s hw
  subst o4
  try dsimp only at h0
  refine hK2 _ (AW.weaken hw ?_)
  replace h0 := Sh.some_eq h0
  subst r
  exact AW.ret (xr (Wk.to (L := [(2, (.bool t3))]) ⟨.rfl, trivial⟩))
 refine AW.regionO (by rfl) ?_
 iterate 3 refine zq tb rfl ?_
 rcases Sh.ite_some h1 with ⟨b5, h1⟩ | ⟨b5, h1⟩
 ·refine zg tb b5 rfl ?_
  refine zg tb b5 rfl ?_
  refine zt b5 rfl ?_
  refine zq tb rfl ?_
  exact AO.done (M4 (decide (p0 ≤ 999)) (Sh.some_eq h1).symm _ (Wk.tr rfl))
 ·refine zs b5 rfl ?_
  refine zs b5 rfl ?_
  refine zf b5 rfl ?_
  refine zq tb rfl ?_
  exact AO.done (M4 false (Sh.some_eq h1).symm _ (Wk.tr rfl))
theorem impl_liveAt_ok {p0 : (List Cell)} {p1 : Int} {r : Int × Bool} (h0 : impl_liveAt p0 p1 = some r) : ACalls Tryz.prog 77 [(.sl (List.map eCell p0)), (i64 p1)] [] (fun v st => v = (.tup [(i64 r.1), (.bool r.2)]) ∧ st = []) := by
 unfold impl_liveAt at h0
 refine ACalls.intro Tryz.func77 rfl (by show 2 ≤ 26; decide) ?_
 show AW _ 0 _ (aret _ 0 Tryz.f77 _) ⟨26, _, _⟩
 refine AW.weaken (Wk.to (L := [(0, (.sl (List.map eCell p0))), (1, (i64 p1))]) ⟨.rfl, .rfl, trivial⟩) ?_
 refine sr rfl fun K1 hK1 => ?_
 iterate 2 refine zq tb rfl ?_
 refine dn hK1 rfl ?_
 refine sr rfl fun K2 hK2 => ?_
 iterate 3 refine zq tb rfl ?_
 refine dn hK2 rfl ?_
 refine AW.seq fun K3 hK3 => ?_
 obtain ⟨o5, h1, h0⟩ := Sh.bind_some h0
 have M5 : ∀ (t4 : Bool), o5 = t4 → ∀ s, Wk 0 s ⟨26, envL [(4, (i64 (Sh.w (p1 - 1000)))), (5, (.bool t4))], []⟩ → K3 s := by
  intro t4 hq s hw
  subst o5
  try dsimp only at h0
  refine hK3 _ (AW.weaken hw ?_)
  replace h0 := Sh.some_eq h0
  subst r
  exact AW.ret (xr (Wk.to (L := [(4, (i64 (Sh.w (p1 - 1000)))), (5, (.bool t4))]) ⟨.rfl, .rfl, trivial⟩))
 refine AW.draw (by kernel_rfl) (by kernel_rfl) (by rfl) ?_
 iterate 4 refine yq tb rfl ?_
 rcases Sh.ite_some h1 with ⟨b6, h1⟩ | ⟨b6, h1⟩
 ·refine yg tb b6 rfl ?_
  refine yg tb b6 rfl ?_
  refine d_q (v := (i64 (Sh.len p0))) (go1 rfl rfl b6) rfl (aq_lens sl39 rfl) ?_
  refine yg tb b6 rfl ?_
  refine yt b6 rfl ?_
  refine yq tb rfl ?_
  rcases Sh.ite_some h1 with ⟨b7, h1⟩ | ⟨b7, h1⟩
  ·refine yg tb b7 rfl ?_
   refine yg tb b7 rfl ?_
   obtain ⟨c8, gc8, h1⟩ := Sh.bind_some h1
   refine d_q (v := (.iptr (eCell c8) 0)) (go1 rfl rfl b7) rfl (aq_ixs ei39 rfl rfl gc8 rfl) ?_
   iterate 3 refine yg tb b7 rfl ?_
   refine yt b7 rfl ?_
   iterate 2 refine yq tb rfl ?_
   exact d_done (M5 (decide (0 < c8.count)) (Sh.some_eq h1).symm _ (Wk.tr rfl))
  ·refine ys b7 rfl ?_
   iterate 5 refine ys b7 rfl ?_
   refine yf b7 rfl ?_
   iterate 2 refine yq tb rfl ?_
   exact d_done (M5 false (Sh.some_eq h1).symm _ (Wk.tr rfl))
 ·refine ys b6 rfl ?_
  iterate 3 refine ys b6 rfl ?_
  refine yf b6 rfl ?_
  refine yq tb rfl ?_
  iterate 6 refine ys rfl rfl ?_
  refine yf rfl rfl ?_
  iterate 2 refine yq tb rfl ?_
  exact d_done (M5 false (Sh.some_eq h1).symm _ (Wk.tr rfl))
theorem impl_wordValid_ok {p0 : (List Cell)} {p1 : Int} {r : Bool} (h0 : impl_wordValid p0 p1 = some r) : ACalls Tryz.prog 100 [(.sl (List.map eCell p0)), (i64 p1)] [] (fun v st => v = (.bool r) ∧ st = []) := by
 unfold impl_wordValid at h0
 refine ACalls.intro Tryz.func100 rfl (by show 2 ≤ 18; decide) ?_
 show AW _ 0 _ (aret _ 0 Tryz.f100 _) ⟨18, _, _⟩
 refine AW.weaken (Wk.to (L := [(0, (.sl (List.map eCell p0))), (1, (i64 p1))]) ⟨.rfl, .rfl, trivial⟩) ?_
 refine sr rfl fun K1 hK1 => ?_
 refine zq tb rfl ?_
 refine dn hK1 rfl ?_
 refine sr rfl fun K2 hK2 => ?_
 iterate 2 refine zq tb rfl ?_
 obtain ⟨q3, gq3, h0⟩ := Sh.bind_some h0
 refine zc (v' := (.tup [(i64 q3.1), (.bool q3.2)])) hb77 (impl_liveAt_ok gq3) rfl rfl rfl ?_
 iterate 5 refine zq tb rfl ?_
 refine dn hK2 rfl ?_
 refine AW.seq fun K4 hK4 => ?_
 obtain ⟨o6, h1, h0⟩ := Sh.bind_some h0
 have M6 : ∀ (t5 : Bool), o6 = t5 → ∀ s, Wk 0 s ⟨18, envL [(4, (.bool t5))], []⟩ → K4 s := by
  intro t5 hq s hw
  subst o6
  try dsimp only at h0
  refine hK4 _ (AW.weaken hw ?_)
  replace h0 := Sh.some_eq h0
  subst r
  exact AW.ret (xr (Wk.to (L := [(4, (.bool t5))]) ⟨.rfl, trivial⟩))
 refine AW.regionO (by rfl) ?_
 iterate 2 refine zq tb rfl ?_
 rcases Sh.ite_some h1 with ⟨b7, h1⟩ | ⟨b7, h1⟩
 ·refine zs b7 rfl ?_
  refine zs b7 rfl ?_
  refine zt b7 rfl ?_
  refine zq tb rfl ?_
  exact AO.done (M6 true (Sh.some_eq h1).symm _ (Wk.tr rfl))
 ·refine zg tb b7 rfl ?_
  obtain ⟨q8, gq8, h1⟩ := Sh.bind_some h1
  refine zd b7 hb47 (impl_isInt_ok gq8) rfl rfl rfl rfl ?_
  refine zf b7 rfl ?_
  refine zq tb rfl ?_
  exact AO.done (M6 q8 (Sh.some_eq h1).symm _ (Wk.tr rfl))
theorem impl_cellValid_ok {N : Nat} {p0 : (List Cell)} {p1 : Cell} {r : Bool} (h0 : impl_cellValid N p0 p1 = some r) : ACalls Tryz.prog 76 [(.sl (List.map eCell p0)), (.agg (eCell p1))] [] (fun v st => v = (.bool r) ∧ st = []) := by
 unfold impl_cellValid at h0
 refine ACalls.intro Tryz.func76 rfl (by show 2 ≤ 66; decide) ?_
 show AW _ 0 _ (aret _ 0 Tryz.f76 _) ⟨66, _, _⟩
 refine AW.weaken (Wk.to (L := [(0, (.sl (List.map eCell p0))), (1, (.agg (eCell p1)))]) ⟨.rfl, .rfl, trivial⟩) ?_
 refine sr rfl fun K1 hK1 => ?_
 refine ao_box (m := 0) (st' := [⟨0, 90, 3, [(eCell p1)]⟩]) go0 rfl rfl rfl rfl rfl ?_
 refine zq tb rfl ?_
 refine dn hK1 rfl ?_
 refine AW.seq fun K2 hK2 => ?_
 refine AW.seq fun K3 hK3 => ?_
 obtain ⟨o5, h1, h0⟩ := Sh.bind_some h0
 have M5 : ∀ (t4 : Bool), o5 = t4 → ∀ s, Wk 0 s ⟨66, envL [(0, (.sl (List.map eCell p0))), (3, (.ptr 0 0 0 0)), (25, (.bool t4))], [⟨0, 90, 3, [(eCell p1)]⟩]⟩ → K3 s := by
  intro t4 hq s hw
  subst o5
  try dsimp only at h0
  refine hK3 _ (AW.weaken hw ?_)
  refine ci h0 rfl ?_ ?_ <;> clear h0
  ·intro b6 h0
   refine sr rfl fun K7 hK7 => ?_
   refine zq tb rfl ?_
   refine dn hK7 rfl ?_
   replace h0 := Sh.some_eq h0
   subst r
   exact AW.ret (xr (Wk.d0 [(4, (.bool false))] rfl))
  ·intro b6 h0
   refine AW.skip (hK2 _ ?_)
   refine AW.seq fun K8 hK8 => ?_
   refine AW.seq fun K9 hK9 => ?_
   obtain ⟨o11, h1, h0⟩ := Sh.bind_some h0
   have M11 : ∀ (t10 : Bool), o11 = t10 → ∀ s, Wk 0 s ⟨66, envL [(0, (.sl (List.map eCell p0))), (3, (.ptr 0 0 0 0)), (44, (.bool t10))], [⟨0, 90, 3, [(eCell p1)]⟩]⟩ → K9 s := by
    intro t10 hq s hw
    subst o11
    try dsimp only at h0
    refine hK9 _ (AW.weaken hw ?_)
    refine ci h0 rfl ?_ ?_ <;> clear h0
    ·intro b12 h0
     refine sr rfl fun K13 hK13 => ?_
     refine zq tb rfl ?_
     refine dn hK13 rfl ?_
     replace h0 := Sh.some_eq h0
     subst r
     exact AW.ret (xr (Wk.d0 [(4, (.bool false))] rfl))
    ·intro b12 h0
     refine AW.skip (hK8 _ ?_)
     refine AW.seq fun K14 hK14 => ?_
     refine sr rfl fun K15 hK15 => ?_
     iterate 2 refine zq tb rfl ?_
     refine zl tb rfl rfl ?_
     refine zq tb rfl ?_
     refine dn hK15 rfl ?_
     obtain ⟨o17, h1, h0⟩ := Sh.cont_some h0
     have M17 : ∀ (_ : Unit), o17 = Sum.inr () → ∀ s, Wk 0 s ⟨66, envL [], []⟩ → K14 s := by
      intro _ hq s hw
      subst o17
      try dsimp only at h0
      refine hK14 _ (AW.weaken hw ?_)
      refine sr rfl fun K18 hK18 => ?_
      refine zq tb rfl ?_
      refine dn hK18 rfl ?_
      replace h0 := Sh.some_eq h0
      subst r
      exact AW.ret (xr (Wk.to (L := [(4, (.bool true))]) ⟨.rfl, trivial⟩))
     refine AW.block (AW.loopF (σ := Int) (fun n v => impl_cellValid_L1 p0 p1 n v = some o17) (fun t16 => ⟨66, envL [(0, (.sl (List.map eCell p0))), (3, (.ptr 0 0 0 0)), (46, (.sl (List.map eI p1.fields))), (47, (i64 (Sh.len p1.fields))), (48, (i64 t16))], [⟨0, 90, 3, [(eCell p1)]⟩]⟩) N 0 h1 (Wk.tr rfl) (fun _ hv => by rw [impl_cellValid_L1] at hv; cases hv) ?_)
     rintro n t16 h1
     try dsimp only at h1 ⊢
     rw [impl_cellValid_L1] at h1
     refine sr rfl fun K19 hK19 => ?_
     refine zq tb rfl ?_
     refine dn hK19 rfl ?_
     refine AW.seq fun K20 hK20 => ?_
     refine ci h1 rfl ?_ ?_ <;> clear h1
     ·intro b21 h1
      refine AW.skip (hK20 _ ?_)
      refine AW.seq fun K22 hK22 => ?_
      refine AW.block ?_
      refine sr rfl fun K23 hK23 => ?_
      obtain ⟨c24, gc24, h1⟩ := Sh.bind_some h1
      refine zx ei26 gc24 rfl rfl rfl ?_
      iterate 2 refine zq tb rfl ?_
      refine dn hK23 rfl ?_
      refine AW.seq fun K25 hK25 => ?_
      obtain ⟨o27, h2, h1⟩ := Sh.bind_some h1
      have M27 : ∀ (t26 : Bool), o27 = t26 → ∀ s, Wk 0 s ⟨66, envL [(0, (.sl (List.map eCell p0))), (3, (.ptr 0 0 0 0)), (46, (.sl (List.map eI p1.fields))), (47, (i64 (Sh.len p1.fields))), (48, (i64 t16)), (64, (.bool t26))], [⟨0, 90, 3, [(eCell p1)]⟩]⟩ → K25 s := by
       intro t26 hq s hw
       subst o27
       try dsimp only at h1
       refine hK25 _ (AW.weaken hw ?_)
       refine ci h1 rfl ?_ ?_ <;> clear h1
       ·intro b28 h1
        refine sr rfl fun K29 hK29 => ?_
        refine zq tb rfl ?_
        refine dn hK29 rfl ?_
        replace h1 := Sh.some_eq h1
        subst o17
        try dsimp only [id] at h0
        replace h0 := Sh.some_eq h0
        subst r
        exact AW.ret (xr (Wk.d0 [(4, (.bool false))] rfl))
       ·intro b28 h1
        refine AW.skip (hK22 _ ?_)
        refine AW.regionO (by rfl) ?_
        iterate 2 refine zq tb rfl ?_
        exact AO.done (xi (Sh.w (t16 + 1)) h1 (Wk.tr rfl))
      refine AW.regionO (by rfl) ?_
      iterate 2 refine zq tb rfl ?_
      obtain ⟨q30, gq30, h2⟩ := Sh.bind_some h2
      refine zc hb100 (impl_wordValid_ok gq30) rfl rfl rfl ?_
      iterate 2 refine zq tb rfl ?_
      rcases Sh.ite_some h2 with ⟨b31, h2⟩ | ⟨b31, h2⟩
      ·refine zs b31 rfl ?_
       iterate 3 refine zs b31 rfl ?_
       iterate 2 refine zn rfl ?_
       refine zs b31 rfl ?_
       refine zt b31 rfl ?_
       exact AO.done (M27 true (Sh.some_eq h2).symm _ (Wk.tr rfl))
      ·refine zg tb b31 rfl ?_
       iterate 3 refine zg tb b31 rfl ?_
       rcases Sh.ite_some h2 with ⟨b32, h2⟩ | ⟨b32, h2⟩
       ·refine zg tb b32 rfl ?_
        refine zg tb b32 rfl ?_
        refine ao_q (v := (.bool (!decide (c24 = 0)))) (go1 rfl rfl b31) rfl (aq_pkt rfl b32 rfl) ?_
        refine zf b31 rfl ?_
        exact AO.done (M27 (!decide (c24 = 0)) (Sh.some_eq h2).symm _ (Wk.tr rfl))
       ·refine zs b32 rfl ?_
        refine zs b32 rfl ?_
        refine ao_q (v := (.bool false)) (go1 rfl rfl b31) rfl (aq_pkf rfl b32 rfl) ?_
        refine zf b31 rfl ?_
        exact AO.done (M27 false (Sh.some_eq h2).symm _ (Wk.tr rfl))
     ·intro b21 h1
      exact AW.exit (M17 () (Sh.some_eq h1).symm _ (Wk.d0 _ rfl))
   refine AW.regionO (by rfl) ?_
   iterate 4 refine zq tb rfl ?_
   rcases Sh.ite_some h1 with ⟨b33, h1⟩ | ⟨b33, h1⟩
   ·refine zg tb b33 rfl ?_
    iterate 2 refine zg tb b33 rfl ?_
    refine zt b33 rfl ?_
    refine zq tb rfl ?_
    rcases Sh.ite_some h1 with ⟨b34, h1⟩ | ⟨b34, h1⟩
    ·refine zs b34 rfl ?_
     iterate 3 refine zs b34 rfl ?_
     iterate 4 refine zn rfl ?_
     refine zs b34 rfl ?_
     refine zt b34 rfl ?_
     exact AO.done (M11 true (Sh.some_eq h1).symm _ (Wk.tr rfl))
    ·refine zg tb b34 rfl ?_
     iterate 3 refine zg tb b34 rfl ?_
     rcases Sh.ite_some h1 with ⟨b35, h1⟩ | ⟨b35, h1⟩
     ·refine zg tb b35 rfl ?_
      refine zg tb b35 rfl ?_
      refine ao_q (v := (i64 (Sh.len p1.fields))) (go1 rfl rfl b35) rfl (aq_lens sl26 rfl) ?_
      refine zg tb b35 rfl ?_
      refine ao_q (v := (.bool (decide (0 < (Sh.len p1.fields))))) (go1 rfl rfl b34) rfl (aq_pkt rfl b35 rfl) ?_
      refine zf b34 rfl ?_
      exact AO.done (M11 (decide (0 < (Sh.len p1.fields))) (Sh.some_eq h1).symm _ (Wk.tr rfl))
     ·refine zs b35 rfl ?_
      iterate 3 refine zs b35 rfl ?_
      refine ao_q (v := (.bool false)) (go1 rfl rfl b34) rfl (aq_pkf rfl b35 rfl) ?_
      refine zf b34 rfl ?_
      exact AO.done (M11 false (Sh.some_eq h1).symm _ (Wk.tr rfl))
   ·refine zs b33 rfl ?_
    iterate 2 refine zs b33 rfl ?_
    refine zf b33 rfl ?_
    refine zq tb rfl ?_
    iterate 4 refine zg tb rfl rfl ?_
    rcases Sh.ite_some h1 with ⟨b36, h1⟩ | ⟨b36, h1⟩
    ·refine zg tb b36 rfl ?_
     refine zg tb b36 rfl ?_
     refine ao_q (v := (i64 (Sh.len p1.fields))) (go1 rfl rfl b36) rfl (aq_lens sl26 rfl) ?_
     refine zg tb b36 rfl ?_
     refine ao_q (v := (.bool (decide (0 < (Sh.len p1.fields))))) (go1 rfl rfl rfl) rfl (aq_pkt rfl b36 rfl) ?_
     refine zf rfl rfl ?_
     exact AO.done (M11 (decide (0 < (Sh.len p1.fields))) (Sh.some_eq h1).symm _ (Wk.tr rfl))
    ·refine zs b36 rfl ?_
     iterate 3 refine zs b36 rfl ?_
     refine ao_q (v := (.bool false)) (go1 rfl rfl rfl) rfl (aq_pkf rfl b36 rfl) ?_
     refine zf rfl rfl ?_
     exact AO.done (M11 false (Sh.some_eq h1).symm _ (Wk.tr rfl))
 refine AW.regionO (by rfl) ?_
 iterate 4 refine zq tb rfl ?_
 rcases Sh.ite_some h1 with ⟨b37, h1⟩ | ⟨b37, h1⟩
 ·refine zs b37 rfl ?_
  iterate 2 refine zs b37 rfl ?_
  refine zt b37 rfl ?_
  refine zq tb rfl ?_
  iterate 3 refine zs rfl rfl ?_
  refine zt rfl rfl ?_
  refine zq tb rfl ?_
  iterate 4 refine zs rfl rfl ?_
  refine zt rfl rfl ?_
  exact AO.done (M5 true (Sh.some_eq h1).symm _ (Wk.tr rfl))
 ·refine zg tb b37 rfl ?_
  iterate 2 refine zg tb b37 rfl ?_
  refine zf b37 rfl ?_
  refine zq tb rfl ?_
  rcases Sh.ite_some h1 with ⟨b38, h1⟩ | ⟨b38, h1⟩
  ·refine zs b38 rfl ?_
   iterate 2 refine zs b38 rfl ?_
   refine zt b38 rfl ?_
   refine zq tb rfl ?_
   iterate 4 refine zs rfl rfl ?_
   refine zt rfl rfl ?_
   exact AO.done (M5 true (Sh.some_eq h1).symm _ (Wk.tr rfl))
  ·refine zg tb b38 rfl ?_
   iterate 2 refine zg tb b38 rfl ?_
   refine zf b38 rfl ?_
   refine zq tb rfl ?_
   rcases Sh.ite_some h1 with ⟨b39, h1⟩ | ⟨b39, h1⟩
   ·refine zs b39 rfl ?_
    iterate 3 refine zs b39 rfl ?_
    refine zt b39 rfl ?_
    exact AO.done (M5 true (Sh.some_eq h1).symm _ (Wk.tr rfl))
   ·refine zg tb b39 rfl ?_
    refine zg tb b39 rfl ?_
    refine ao_q (v := (i64 (Sh.len p1.fields))) (go1 rfl rfl b39) rfl (aq_lens sl26 rfl) ?_
    refine zg tb b39 rfl ?_
    refine zf b39 rfl ?_
    exact AO.done (M5 (decide (3 < (Sh.len p1.fields))) (Sh.some_eq h1).symm _ (Wk.tr rfl))
theorem slices_Clone_int_int_ok {p0 : (List Int)} {r : (List Int)} (h0 : slices_Clone_int_int p0 = some r) : ACalls Tryz.prog 78 [(.sl (List.map eI p0))] [] (fun v st => v = (.own 0 0 (List.length r)) ∧ st = [⟨0, 3, 1, List.map eI r⟩]) := by
 unfold slices_Clone_int_int at h0
 refine ACalls.intro Tryz.func78 rfl (by show 1 ≤ 8; decide) ?_
 show AW _ 0 _ (aret _ 0 Tryz.f78 _) ⟨8, _, _⟩
 refine AW.weaken (Wk.to (L := [(0, (.sl (List.map eI p0)))]) ⟨.rfl, trivial⟩) ?_
 refine sr rfl fun K1 hK1 => ?_
 refine zq tb rfl ?_
 refine dn hK1 rfl ?_
 refine AW.seq fun K2 hK2 => ?_
 refine sr rfl fun K3 hK3 => ?_
 refine zq tb rfl ?_
 refine ao_nil go0 sl26 rfl (fun hn => ?_) ?_
 ·subst hn
  replace h0 : some [] = some r := by rw [← h0]; first | rfl | simp [Sh.app]
  refine dn hK3 rfl ?_
  refine AW.cond' (b := true) rfl (fun _ => ?_) (fun q => nomatch (show true = false from (rfl : true = true).symm.trans q))
  refine sr rfl fun K4 hK4 => ?_
  refine zq tb rfl ?_
  refine dn hK4 rfl ?_
  replace h0 := Sh.some_eq h0
  subst r
  exact AW.ret (xr (((Wk.adopt (t := 2) rfl 3 (size := 1) (by decide)).trans (Wk.to (L := [(2, (.own 0 0 (List.length ([] : List Int))))]) ⟨.rfl, trivial⟩)).trans (Wk.to (L := [(2, (.own 0 0 (List.length ([] : List Int))))]) ⟨.rfl, trivial⟩)))
 ·refine dn hK3 rfl ?_
  refine AW.cond' (b := false) rfl (fun q => nomatch (show false = true from (rfl : false = false).symm.trans q)) (fun _ => ?_)
  refine AW.skip (hK2 _ ?_)
  refine sr rfl fun K5 hK5 => ?_
  refine ao_bs (m := 0) (st' := [⟨0, 3, 1, List.map eI ([] : List Int)⟩]) (l := ([] : List Int)) (enc := eI) go0 ei26 (by decide) rfl rfl rfl rfl rfl rfl ?_
  refine zq tb rfl ?_
  obtain ⟨l6, gl6, h0⟩ := Sh.bind_some h0
  refine ao_apo (st' := [⟨1, 3, 1, List.map eI l6⟩]) (l2 := p0) go0 ei26 rfl rfl rfl rfl el_s (fun _ => rfl) gl6 rfl ?_
  refine zq tb rfl ?_
  refine dn hK5 rfl ?_
  replace h0 := Sh.some_eq h0
  subst r
  exact AW.ret (xr (Wk.rg (L := [(2, (.own 0 0 (List.length l6)))]) (st' := [⟨0, 3, 1, List.map eI l6⟩]) (.pure (pure_map fun _ => rfl) .nil) ⟨.rfl, trivial⟩))
theorem impl_checkedHeap_ok {N : Nat} {p0 : (List Cell)} {r : (List Int) × Bool} (h0 : impl_checkedHeap N p0 = some r) : ACalls Tryz.prog 48 [(.sl (List.map eCell p0))] [] (fun v st => v = (.tup [(.own 0 0 (List.length r.1)), (.bool r.2)]) ∧ st = [⟨0, 3, 1, List.map eI r.1⟩]) := by
 unfold impl_checkedHeap at h0
 refine ACalls.intro Tryz.func48 rfl (by show 1 ≤ 159; decide) ?_
 show AW _ 0 _ (aret _ 0 Tryz.f48 _) ⟨159, _, _⟩
 refine AW.weaken (Wk.to (L := [(0, (.sl (List.map eCell p0)))]) ⟨.rfl, trivial⟩) ?_
 refine sr rfl fun K1 hK1 => ?_
 iterate 2 refine zq tb rfl ?_
 refine dn hK1 rfl ?_
 refine sr rfl fun K2 hK2 => ?_
 refine zq tb rfl ?_
 refine zl tb rfl rfl ?_
 obtain ⟨l3, gl3, h0⟩ := Sh.bind_some h0
 refine ao_make (m := 0) (st' := [⟨0, 3, 1, List.map eI l3⟩]) (enc := eI) (u := 0) go0 ei26 rfl rfl rfl gl3 rfl rfl ?_
 refine zq tb rfl ?_
 refine dn hK2 rfl ?_
 refine AW.seq fun K4 hK4 => ?_
 refine sr rfl fun K5 hK5 => ?_
 refine zq tb rfl ?_
 refine zl tb rfl rfl ?_
 refine zq tb rfl ?_
 refine dn hK5 rfl ?_
 obtain ⟨o9, h1, h0⟩ := Sh.cont_some h0
 have M9 : ∀ (l8 : (List Int)), o9 = Sum.inr l8 → ∀ s, Wk 0 s ⟨159, envL [(0, (.sl (List.map eCell p0))), (4, (.own 0 0 (List.length l8)))], [⟨0, 3, 1, List.map eI l8⟩]⟩ → K4 s := by
  intro l8 hq s hw
  subst o9
  try dsimp only at h0
  refine hK4 _ (AW.weaken hw ?_)
  refine AW.seq fun K10 hK10 => ?_
  refine AW.seq fun K11 hK11 => ?_
  obtain ⟨o13, h1, h0⟩ := Sh.bind_some h0
  have M13 : ∀ (t12 : Bool), o13 = t12 → ∀ s, Wk 0 s ⟨159, envL [(0, (.sl (List.map eCell p0))), (4, (.own 0 0 (List.length l8))), (68, (.bool t12))], [⟨0, 3, 1, List.map eI l8⟩]⟩ → K11 s := by
   intro t12 hq s hw
   subst o13
   try dsimp only at h0
   refine hK11 _ (AW.weaken hw ?_)
   refine ci h0 rfl ?_ ?_ <;> clear h0
   ·intro b14 h0
    refine sr rfl fun K15 hK15 => ?_
    iterate 2 refine zq tb rfl ?_
    refine dn hK15 rfl ?_
    replace h0 := Sh.some_eq h0
    subst r
    exact AW.ret (xr ((((Wk.adopt (t := 2) rfl 3 (size := 1) (by decide)).trans (Wk.to (L := [(2, (.own 1 0 (List.length ([] : List Int)))), (3, (.bool false))]) ⟨.rfl, .rfl, trivial⟩)).trans (Wk.permk (L := [(2, (.own 0 0 (List.length ([] : List Int)))), (3, (.bool false))]) (st' := [⟨0, 3, 1, List.map eI ([] : List Int)⟩]) (st1 := [⟨0, 3, 1, List.map eI ([] : List Int)⟩]) [1] rfl .nil (by decide) rfl rfl (.pure (pure_map fun _ => rfl) .nil) ⟨.rfl, .rfl, trivial⟩)).trans (Wk.to (L := [(2, (.own 0 0 (List.length ([] : List Int)))), (3, (.bool false))]) ⟨.rfl, .rfl, trivial⟩)))
   ·intro b14 h0
    refine AW.skip (hK10 _ ?_)
    refine sr rfl fun K16 hK16 => ?_
    refine zq tb rfl ?_
    obtain ⟨q17, gq17, h0⟩ := Sh.bind_some h0
    refine ao_callb (v' := (.own 1 0 (List.length q17))) (st' := [⟨0, 3, 1, List.map eI l8⟩, ⟨0, 3, 1, List.map eI q17⟩]) go0 hb78 (slices_Clone_int_int_ok gq17) rfl (.own rfl rfl (fun _ => rfl) .nil) rfl (srow (fun _ => rfl) trivial) rfl rfl ?_
    refine zq tb rfl ?_
    refine dn hK16 rfl ?_
    refine sr rfl fun K18 hK18 => ?_
    refine zq tb rfl ?_
    refine dn hK18 rfl ?_
    refine sr rfl fun K19 hK19 => ?_
    refine zq tb rfl ?_
    refine dn hK19 rfl ?_
    refine AW.seq fun K20 hK20 => ?_
    refine sr rfl fun K21 hK21 => ?_
    refine zq tb rfl ?_
    refine zl tb rfl rfl ?_
    refine zq tb rfl ?_
    refine dn hK21 rfl ?_
    obtain ⟨o25, h1, h0⟩ := Sh.cont_some h0
    have M25 : ∀ (l24 : (List Int)), o25 = Sum.inr l24 → ∀ s, Wk 0 s ⟨159, envL [(0, (.sl (List.map eCell p0))), (4, (.own 0 0 (List.length l8))), (11, (.own 1 0 (List.length q17))), (12, (.own 2 0 (List.length l24))), (13, (i64 0))], [⟨0, 3, 1, List.map eI l8⟩, ⟨0, 3, 1, List.map eI q17⟩, ⟨0, 3, 1, List.map eI l24⟩]⟩ → K20 s := by
     intro l24 hq s hw
     subst o25
     try dsimp only at h0
     refine hK20 _ (AW.weaken hw ?_)
     refine AW.seq fun K26 hK26 => ?_
     obtain ⟨o31, h1, h0⟩ := Sh.bind_some h0
     have M31 : ∀ (many30 : Int), o31 = many30 → ∀ s, Wk 0 s ⟨159, envL [(0, (.sl (List.map eCell p0))), (4, (.own 0 0 (List.length l8))), (13, (i64 many30))], [⟨0, 3, 1, List.map eI l8⟩]⟩ → K26 s := by
      intro many30 hq s hw
      subst o31
      try dsimp only at h0
      refine hK26 _ (AW.weaken hw ?_)
      refine sr rfl fun K32 hK32 => ?_
      iterate 3 refine zq tb rfl ?_
      refine zl tb rfl rfl ?_
      iterate 3 refine zq tb rfl ?_
      refine dn hK32 rfl ?_
      replace h0 := Sh.some_eq h0
      subst r
      exact AW.ret (xr (Wk.to (L := [(2, (.own 0 0 (List.length l8))), (3, (.bool (decide (many30 = (Sh.len p0)))))]) ⟨.rfl, .rfl, trivial⟩))
     refine AW.block (AW.loopF (σ := Int × (List Int) × (List Int)) (fun n v => impl_checkedHeap_L3 N p0 n v.1 v.2.1 v.2.2 = some o31) (fun (many27, l28, l29) => ⟨159, envL [(0, (.sl (List.map eCell p0))), (4, (.own 0 0 (List.length l8))), (11, (.own 1 0 (List.length l28))), (12, (.own 2 0 (List.length l29))), (13, (i64 many27))], [⟨0, 3, 1, List.map eI l8⟩, ⟨0, 3, 1, List.map eI l28⟩, ⟨0, 3, 1, List.map eI l29⟩]⟩) N (0, q17, l24) h1 (Wk.tr rfl) (fun _ hv => by rw [impl_checkedHeap_L3] at hv; cases hv) ?_)
     rintro n ⟨many27, l28, l29⟩ h1
     try dsimp only at h1 ⊢
     rw [impl_checkedHeap_L3] at h1
     refine AW.seq fun K33 hK33 => ?_
     refine sr rfl fun K34 hK34 => ?_
     refine zq tb rfl ?_
     refine zz (i64 (Sh.len l29)) (aq_leno sl26 rfl rfl rfl) rfl ?_
     refine zq tb rfl ?_
     refine dn hK34 rfl ?_
     refine ci h1 rfl ?_ ?_ <;> clear h1
     ·intro b35 h1
      refine AW.skip (hK33 _ ?_)
      refine AW.seq fun K36 hK36 => ?_
      refine AW.block ?_
      refine sr rfl fun K37 hK37 => ?_
      iterate 3 refine zq tb rfl ?_
      refine zz (i64 (Sh.len l29)) (aq_leno sl26 rfl rfl rfl) rfl ?_
      refine zq tb rfl ?_
      obtain ⟨c38, gc38, h1⟩ := Sh.bind_some h1
      refine zz (.ptr 2 0 (Int.toNat (Sh.w ((Sh.len l29) - 1))) 0) (aq_ixo ei26 rfl rfl rfl rfl gc38) rfl ?_
      refine zz (i64 c38) (aq_ldp ti3 rfl rfl (map_get gc38) rfl) rfl ?_
      obtain ⟨c39, gc39, h1⟩ := Sh.bind_some h1
      refine zx ei39 gc39 rfl rfl rfl ?_
      refine zq tb rfl ?_
      refine ao_alloc (m := 3) (st' := [⟨0, 3, 1, List.map eI l8⟩, ⟨0, 3, 1, List.map eI l28⟩, ⟨0, 3, 1, List.map eI l29⟩, ⟨0, 90, 3, [[(i64 0), (i64 0), .zc]]⟩]) go0 zi90 rfl rfl ?_
      refine ao_str (st' := [⟨0, 3, 1, List.map eI l8⟩, ⟨0, 3, 1, List.map eI l28⟩, ⟨0, 3, 1, List.map eI l29⟩, ⟨0, 90, 3, [(eCell c39)]⟩]) go0 ti90 rfl rfl rfl rfl rfl rfl (show 0 + 3 ≤ 3 by decide) rfl ?_
      refine dn hK37 rfl ?_
      refine sr rfl fun K40 hK40 => ?_
      iterate 2 refine zq tb rfl ?_
      refine zz (i64 (Sh.len l29)) (aq_leno sl26 rfl rfl rfl) rfl ?_
      refine zq tb rfl ?_
      obtain ⟨l41, gl41, h1⟩ := Sh.bind_some h1
      refine ao_hio (st' := [⟨0, 3, 1, List.map eI l8⟩, ⟨0, 3, 1, List.map eI l28⟩, ⟨1, 3, 1, List.map eI l41⟩, ⟨0, 90, 3, [(eCell c39)]⟩]) go0 ei26 rfl rfl rfl rfl gl41 rfl ?_
      refine zq tb rfl ?_
      refine dn hK40 rfl ?_
      refine sr rfl fun K42 hK42 => ?_
      iterate 2 refine zq tb rfl ?_
      refine zl tb rfl rfl ?_
      refine zq tb rfl ?_
      refine dn hK42 rfl ?_
      obtain ⟨o48, h2, h1⟩ := Sh.bind_some h1
      have M48 : ∀ (l46 : (List Int)) (l47 : (List Int)), o48 = (l46, l47) → ∀ s, Wk 0 s ⟨159, envL [(0, (.sl (List.map eCell p0))), (4, (.own 0 0 (List.length l8))), (11, (.own 1 0 (List.length l46))), (12, (.own 2 0 (List.length l47))), (13, (i64 many27))], [⟨0, 3, 1, List.map eI l8⟩, ⟨0, 3, 1, List.map eI l46⟩, ⟨0, 3, 1, List.map eI l47⟩]⟩ → K36 s := by
       intro l46 l47 hq s hw
       subst o48
       try dsimp only at h1
       refine hK36 _ (AW.weaken hw ?_)
       refine AW.regionO (by rfl) ?_
       iterate 3 refine zq tb rfl ?_
       exact AO.done (xi (Sh.w (many27 + 1), l46, l47) h1 (Wk.tr rfl))
      refine AW.block (AW.loopF (σ := Int × (List Int) × (List Int)) (fun n v => impl_checkedHeap_L4 c39 p0 n v.1 v.2.1 v.2.2 = some o48) (fun (t43, l44, l45) => ⟨159, envL [(0, (.sl (List.map eCell p0))), (4, (.own 0 0 (List.length l8))), (11, (.own 1 0 (List.length l44))), (12, (.own 2 0 (List.length l45))), (13, (i64 many27)), (125, (.sl (List.map eI c39.fields))), (126, (i64 (Sh.len c39.fields))), (127, (i64 t43))], [⟨0, 3, 1, List.map eI l8⟩, ⟨0, 3, 1, List.map eI l44⟩, ⟨0, 3, 1, List.map eI l45⟩]⟩) N (0, l28, l41) h2 (by refine Wk.trans (Wk.rg (L := [(0, (.sl (List.map eCell p0))), (4, (.own 0 0 (List.length l8))), (11, (.own 1 0 (List.length l28))), (12, (.own 2 0 (List.length l41))), (13, (i64 many27)), (125, (.sl (List.map eI c39.fields))), (126, (i64 (Sh.len c39.fields))), (127, (i64 0))]) (st' := [⟨0, 3, 1, List.map eI l8⟩, ⟨0, 3, 1, List.map eI l28⟩, ⟨0, 3, 1, List.map eI l41⟩, ⟨0, 90, 3, [(eCell c39)]⟩]) (.pure (pure_map fun _ => rfl) (.pure (pure_map fun _ => rfl) (.pure (pure_map fun _ => rfl) (.raw rfl rfl .nil)))) ⟨.rfl, .rfl, .rfl, .rfl, .rfl, .rfl, .rfl, .rfl, trivial⟩) ?_; exact Wk.permk (L := [(0, (.sl (List.map eCell p0))), (4, (.own 0 0 (List.length l8))), (11, (.own 1 0 (List.length l28))), (12, (.own 2 0 (List.length l41))), (13, (i64 many27)), (125, (.sl (List.map eI c39.fields))), (126, (i64 (Sh.len c39.fields))), (127, (i64 0))]) (st' := [⟨0, 3, 1, List.map eI l8⟩, ⟨0, 3, 1, List.map eI l28⟩, ⟨0, 3, 1, List.map eI l41⟩]) (st1 := [⟨0, 3, 1, List.map eI l8⟩, ⟨0, 3, 1, List.map eI l28⟩, ⟨0, 3, 1, List.map eI l41⟩]) [0, 1, 2] rfl .nil (by decide) rfl rfl (.pure (pure_map fun _ => rfl) (.pure (pure_map fun _ => rfl) (.pure (pure_map fun _ => rfl) .nil))) ⟨.rfl, .rfl, .rfl, .rfl, .rfl, .rfl, .rfl, .rfl, trivial⟩) (fun _ hv => by rw [impl_checkedHeap_L4] at hv; cases hv) ?_)
      rintro n ⟨t43, l44, l45⟩ h2
      try dsimp only at h2 ⊢
      rw [impl_checkedHeap_L4] at h2
      refine sr rfl fun K49 hK49 => ?_
      refine zq tb rfl ?_
      refine dn hK49 rfl ?_
      refine AW.seq fun K50 hK50 => ?_
      refine ci h2 rfl ?_ ?_ <;> clear h2
      ·intro b51 h2
       refine AW.skip (hK50 _ ?_)
       refine AW.seq fun K52 hK52 => ?_
       obtain ⟨o55, h3, h2⟩ := Sh.bind_some h2
       have M55 : ∀ (l53 : (List Int)) (l54 : (List Int)), o55 = (l53, l54) → ∀ s, Wk 0 s ⟨159, envL [(0, (.sl (List.map eCell p0))), (4, (.own 0 0 (List.length l8))), (11, (.own 1 0 (List.length l53))), (12, (.own 2 0 (List.length l54))), (13, (i64 many27)), (125, (.sl (List.map eI c39.fields))), (126, (i64 (Sh.len c39.fields))), (127, (i64 t43))], [⟨0, 3, 1, List.map eI l8⟩, ⟨0, 3, 1, List.map eI l53⟩, ⟨0, 3, 1, List.map eI l54⟩]⟩ → K52 s := by
        intro l53 l54 hq s hw
        subst o55
        try dsimp only at h2
        refine hK52 _ (AW.weaken hw ?_)
        refine AW.regionO (by rfl) ?_
        iterate 2 refine zq tb rfl ?_
        exact AO.done (xi (Sh.w (t43 + 1), l53, l54) h2 (Wk.tr rfl))
       refine AW.block ?_
       refine sr rfl fun K56 hK56 => ?_
       obtain ⟨c57, gc57, h3⟩ := Sh.bind_some h3
       refine zx ei26 gc57 rfl rfl rfl ?_
       iterate 2 refine zq tb rfl ?_
       refine dn hK56 rfl ?_
       refine sr rfl fun K58 hK58 => ?_
       iterate 2 refine zq tb rfl ?_
       obtain ⟨q59, gq59, h3⟩ := Sh.bind_some h3
       refine zc (v' := (.tup [(i64 q59.1), (.bool q59.2)])) hb77 (impl_liveAt_ok gq59) rfl rfl rfl ?_
       iterate 5 refine zq tb rfl ?_
       refine dn hK58 rfl ?_
       refine sr rfl fun K60 hK60 => ?_
       refine zq tb rfl ?_
       refine dn hK60 rfl ?_
       refine ci h3 rfl ?_ ?_ <;> clear h3
       ·intro b61 h3
        refine sr rfl fun K62 hK62 => ?_
        iterate 2 refine zq tb rfl ?_
        obtain ⟨c63, gc63, h3⟩ := Sh.bind_some h3
        refine zz (.ptr 1 0 (Int.toNat q59.1) 0) (aq_ixo ei26 rfl rfl rfl rfl gc63) rfl ?_
        refine zz (i64 c63) (aq_ldp ti3 rfl rfl (map_get gc63) rfl) rfl ?_
        refine zq tb rfl ?_
        refine zz (.ptr 1 0 (Int.toNat q59.1) 0) (aq_ixo ei26 rfl rfl rfl rfl gc63) rfl ?_
        refine ao_stl (st' := [⟨0, 3, 1, List.map eI l8⟩, ⟨0, 3, 1, List.map eI (Sh.put l44 q59.1 (Sh.w (c63 - 1)))⟩, ⟨0, 3, 1, List.map eI l45⟩]) (u' := Sh.w (c63 - 1)) go0 ti3 rfl rfl gc63 rfl rfl rfl (show 0 + 1 ≤ 1 by decide) rfl rfl ?_
        refine dn hK62 rfl ?_
        refine sr rfl fun K64 hK64 => ?_
        iterate 2 refine zq tb rfl ?_
        obtain ⟨c65, gc65, h3⟩ := Sh.bind_some h3
        refine zz (.ptr 1 0 (Int.toNat q59.1) 0) (aq_ixo ei26 rfl rfl rfl (by simp only [Sh.put_len]) gc65) rfl ?_
        refine zz (i64 c65) (aq_ldp ti3 rfl rfl (map_get gc65) rfl) rfl ?_
        refine zq tb rfl ?_
        refine dn hK64 rfl ?_
        refine ci h3 rfl ?_ ?_ <;> clear h3
        ·intro b66 h3
         refine AW.regionO (by rfl) ?_
         iterate 2 refine zq tb rfl ?_
         refine ao_bs (m := 3) (st' := [⟨0, 3, 1, List.map eI l8⟩, ⟨0, 3, 1, List.map eI (Sh.put l44 q59.1 (Sh.w (c63 - 1)))⟩, ⟨0, 3, 1, List.map eI l45⟩, ⟨0, 3, 1, List.map eI [q59.1]⟩]) (l := [q59.1]) (enc := eI) go0 ei26 (by decide) rfl rfl rfl rfl rfl rfl ?_
         obtain ⟨l67, gl67, h3⟩ := Sh.bind_some h3
         refine ao_apo (st' := [⟨0, 3, 1, List.map eI l8⟩, ⟨0, 3, 1, List.map eI (Sh.put l44 q59.1 (Sh.w (c63 - 1)))⟩, ⟨1, 3, 1, List.map eI l67⟩, ⟨0, 3, 1, List.map eI [q59.1]⟩]) (l2 := [q59.1]) go0 ei26 rfl rfl rfl rfl (el_o rfl rfl) (fun _ => rfl) gl67 rfl ?_
         refine zq tb rfl ?_
         exact AO.done (M55 (Sh.put l44 q59.1 (Sh.w (c63 - 1))) l67 (Sh.some_eq h3).symm _ (by refine Wk.trans (Wk.rg (L := [(0, (.sl (List.map eCell p0))), (4, (.own 0 0 (List.length l8))), (11, (.own 1 0 (List.length l44))), (12, (.own 2 0 (List.length l67))), (13, (i64 many27)), (125, (.sl (List.map eI c39.fields))), (126, (i64 (Sh.len c39.fields))), (127, (i64 t43))]) (st' := [⟨0, 3, 1, List.map eI l8⟩, ⟨0, 3, 1, List.map eI (Sh.put l44 q59.1 (Sh.w (c63 - 1)))⟩, ⟨0, 3, 1, List.map eI l67⟩, ⟨0, 3, 1, List.map eI [q59.1]⟩]) (.pure (pure_map fun _ => rfl) (.pure (pure_map fun _ => rfl) (.pure (pure_map fun _ => rfl) (.pure (pure_map fun _ => rfl) .nil)))) ⟨.rfl, .rfl, .rfl, .rfl, .rfl, .rfl, .rfl, .rfl, trivial⟩) ?_; refine Wk.trans (Wk.permk (L := [(0, (.sl (List.map eCell p0))), (4, (.own 0 0 (List.length l8))), (11, (.own 1 0 (List.length l44))), (12, (.own 2 0 (List.length l67))), (13, (i64 many27)), (125, (.sl (List.map eI c39.fields))), (126, (i64 (Sh.len c39.fields))), (127, (i64 t43))]) (st' := [⟨0, 3, 1, List.map eI l8⟩, ⟨0, 3, 1, List.map eI (Sh.put l44 q59.1 (Sh.w (c63 - 1)))⟩, ⟨0, 3, 1, List.map eI l67⟩]) (st1 := [⟨0, 3, 1, List.map eI l8⟩, ⟨0, 3, 1, List.map eI (Sh.put l44 q59.1 (Sh.w (c63 - 1)))⟩, ⟨0, 3, 1, List.map eI l67⟩]) [0, 1, 2] rfl .nil (by decide) rfl rfl (.pure (pure_map fun _ => rfl) (.pure (pure_map fun _ => rfl) (.pure (pure_map fun _ => rfl) .nil))) ⟨.rfl, .rfl, .rfl, .rfl, .rfl, .rfl, .rfl, .rfl, trivial⟩) ?_; exact Wk.to (L := [(0, (.sl (List.map eCell p0))), (4, (.own 0 0 (List.length l8))), (11, (.own 1 0 (List.length (Sh.put l44 q59.1 (Sh.w (c63 - 1)))))), (12, (.own 2 0 (List.length l67))), (13, (i64 many27)), (125, (.sl (List.map eI c39.fields))), (126, (i64 (Sh.len c39.fields))), (127, (i64 t43))]) ⟨.rfl, .rfl, (.len (by simp only [Sh.put_len])), .rfl, .rfl, .rfl, .rfl, .rfl, trivial⟩))
        ·intro b66 h3
         exact AW.skip (M55 (Sh.put l44 q59.1 (Sh.w (c63 - 1))) l45 (Sh.some_eq h3).symm _ (Wk.to (L := [(0, (.sl (List.map eCell p0))), (4, (.own 0 0 (List.length l8))), (11, (.own 1 0 (List.length (Sh.put l44 q59.1 (Sh.w (c63 - 1)))))), (12, (.own 2 0 (List.length l45))), (13, (i64 many27)), (125, (.sl (List.map eI c39.fields))), (126, (i64 (Sh.len c39.fields))), (127, (i64 t43))]) ⟨.rfl, .rfl, (.len (by simp only [Sh.put_len])), .rfl, .rfl, .rfl, .rfl, .rfl, trivial⟩))
       ·intro b61 h3
        exact AW.skip (M55 l44 l45 (Sh.some_eq h3).symm _ (Wk.tr rfl))
      ·intro b51 h2
       exact AW.exit (M48 l44 l45 (Sh.some_eq h2).symm _ (Wk.tr rfl))
     ·intro b35 h1
      exact AW.exit (M31 many27 (Sh.some_eq h1).symm _ (Wk.permk (L := [(0, (.sl (List.map eCell p0))), (4, (.own 0 0 (List.length l8))), (13, (i64 many27))]) (st' := [⟨0, 3, 1, List.map eI l8⟩]) (st1 := [⟨0, 3, 1, List.map eI l8⟩]) [0] rfl .nil (by decide) rfl rfl (.pure (pure_map fun _ => rfl) .nil) ⟨.rfl, .rfl, .rfl, trivial⟩))
    refine AW.block (AW.loopF (σ := Int × (List Int)) (fun n v => impl_checkedHeap_L2 l8 p0 n v.1 v.2 = some o25) (fun (t22, l23) => ⟨159, envL [(0, (.sl (List.map eCell p0))), (4, (.own 0 0 (List.length l8))), (11, (.own 1 0 (List.length q17))), (12, (.own 2 0 (List.length l23))), (13, (i64 0)), (71, (.sl (List.map eCell p0))), (72, (i64 (Sh.len p0))), (73, (i64 t22))], [⟨0, 3, 1, List.map eI l8⟩, ⟨0, 3, 1, List.map eI q17⟩, ⟨0, 3, 1, List.map eI l23⟩]⟩) N (0, []) h1 ((Wk.adopt (t := 12) rfl 3 (size := 1) (by decide)).trans (Wk.to (L := [(0, (.sl (List.map eCell p0))), (4, (.own 0 0 (List.length l8))), (11, (.own 1 0 (List.length q17))), (12, (.own 2 0 (List.length ([] : List Int)))), (13, (i64 0)), (71, (.sl (List.map eCell p0))), (72, (i64 (Sh.len p0))), (73, (i64 0))]) ⟨.rfl, .rfl, .rfl, .rfl, .rfl, .rfl, .rfl, .rfl, trivial⟩)) (fun _ hv => by rw [impl_checkedHeap_L2] at hv; cases hv) ?_)
    rintro n ⟨t22, l23⟩ h1
    try dsimp only at h1 ⊢
    rw [impl_checkedHeap_L2] at h1
    refine sr rfl fun K68 hK68 => ?_
    refine zq tb rfl ?_
    refine dn hK68 rfl ?_
    refine AW.seq fun K69 hK69 => ?_
    refine ci h1 rfl ?_ ?_ <;> clear h1
    ·intro b70 h1
     refine AW.skip (hK69 _ ?_)
     refine AW.seq fun K71 hK71 => ?_
     obtain ⟨o73, h2, h1⟩ := Sh.cont_some h1
     have M73 : ∀ (l72 : (List Int)), o73 = Sum.inr l72 → ∀ s, Wk 0 s ⟨159, envL [(0, (.sl (List.map eCell p0))), (4, (.own 0 0 (List.length l8))), (11, (.own 1 0 (List.length q17))), (12, (.own 2 0 (List.length l72))), (13, (i64 0)), (71, (.sl (List.map eCell p0))), (72, (i64 (Sh.len p0))), (73, (i64 t22))], [⟨0, 3, 1, List.map eI l8⟩, ⟨0, 3, 1, List.map eI q17⟩, ⟨0, 3, 1, List.map eI l72⟩]⟩ → K71 s := by
      intro l72 hq s hw
      subst o73
      try dsimp only at h1
      refine hK71 _ (AW.weaken hw ?_)
      refine AW.regionO (by rfl) ?_
      iterate 2 refine zq tb rfl ?_
      exact AO.done (xi (Sh.w (t22 + 1), l72) h1 (Wk.tr rfl))
     refine AW.block ?_
     refine sr rfl fun K74 hK74 => ?_
     refine zq tb rfl ?_
     obtain ⟨c75, gc75, h2⟩ := Sh.bind_some h2
     refine zx ei39 gc75 rfl rfl rfl ?_
     refine zq tb rfl ?_
     refine ao_alloc (m := 3) (st' := [⟨0, 3, 1, List.map eI l8⟩, ⟨0, 3, 1, List.map eI q17⟩, ⟨0, 3, 1, List.map eI l23⟩, ⟨0, 90, 3, [[(i64 0), (i64 0), .zc]]⟩]) go0 zi90 rfl rfl ?_
     refine zq tb rfl ?_
     refine ao_str (st' := [⟨0, 3, 1, List.map eI l8⟩, ⟨0, 3, 1, List.map eI q17⟩, ⟨0, 3, 1, List.map eI l23⟩, ⟨0, 90, 3, [(eCell c75)]⟩]) go0 ti90 rfl rfl rfl rfl rfl rfl (show 0 + 3 ≤ 3 by decide) rfl ?_
     refine dn hK74 rfl ?_
     refine AW.seq fun K76 hK76 => ?_
     refine AW.seq fun K77 hK77 => ?_
     obtain ⟨o79, h3, h2⟩ := Sh.bind_some h2
     have M79 : ∀ (t78 : Bool), o79 = t78 → ∀ s, Wk 0 s ⟨159, envL [(0, (.sl (List.map eCell p0))), (4, (.own 0 0 (List.length l8))), (11, (.own 1 0 (List.length q17))), (12, (.own 2 0 (List.length l23))), (13, (i64 0)), (14, (i64 t22)), (71, (.sl (List.map eCell p0))), (72, (i64 (Sh.len p0))), (73, (i64 t22)), (94, (.bool t78))], [⟨0, 3, 1, List.map eI l8⟩, ⟨0, 3, 1, List.map eI q17⟩, ⟨0, 3, 1, List.map eI l23⟩]⟩ → K77 s := by
      intro t78 hq s hw
      subst o79
      try dsimp only at h2
      refine hK77 _ (AW.weaken hw ?_)
      refine ci h2 rfl ?_ ?_ <;> clear h2
      ·intro b80 h2
       refine sr rfl fun K81 hK81 => ?_
       iterate 2 refine zq tb rfl ?_
       refine dn hK81 rfl ?_
       replace h2 := Sh.some_eq h2
       subst o73
       try dsimp only [id] at h1
       replace h1 := Sh.some_eq h1
       subst o25
       try dsimp only [id] at h0
       replace h0 := Sh.some_eq h0
       subst r
       exact AW.ret (xr ((((Wk.adopt (t := 2) rfl 3 (size := 1) (by decide)).trans (Wk.to (L := [(2, (.own 3 0 (List.length ([] : List Int)))), (3, (.bool false))]) ⟨.rfl, .rfl, trivial⟩)).trans (Wk.permk (L := [(2, (.own 0 0 (List.length ([] : List Int)))), (3, (.bool false))]) (st' := [⟨0, 3, 1, List.map eI ([] : List Int)⟩]) (st1 := [⟨0, 3, 1, List.map eI ([] : List Int)⟩]) [3] rfl .nil (by decide) rfl rfl (.pure (pure_map fun _ => rfl) .nil) ⟨.rfl, .rfl, trivial⟩)).trans (Wk.to (L := [(2, (.own 0 0 (List.length ([] : List Int)))), (3, (.bool false))]) ⟨.rfl, .rfl, trivial⟩)))
      ·intro b80 h2
       refine AW.skip (hK76 _ ?_)
       refine sr rfl fun K82 hK82 => ?_
       iterate 2 refine zq tb rfl ?_
       obtain ⟨c83, gc83, h2⟩ := Sh.bind_some h2
       refine zz (.ptr 0 0 (Int.toNat t22) 0) (aq_ixo ei26 rfl rfl rfl rfl gc83) rfl ?_
       refine zz (i64 c83) (aq_ldp ti3 rfl rfl (map_get gc83) rfl) rfl ?_
       refine zq tb rfl ?_
       refine dn hK82 rfl ?_
       refine ci h2 rfl ?_ ?_ <;> clear h2
       ·intro b84 h2
        refine AW.regionO (by rfl) ?_
        iterate 2 refine zq tb rfl ?_
        refine ao_bs (m := 3) (st' := [⟨0, 3, 1, List.map eI l8⟩, ⟨0, 3, 1, List.map eI q17⟩, ⟨0, 3, 1, List.map eI l23⟩, ⟨0, 3, 1, List.map eI [t22]⟩]) (l := [t22]) (enc := eI) go0 ei26 (by decide) rfl rfl rfl rfl rfl rfl ?_
        obtain ⟨l85, gl85, h2⟩ := Sh.bind_some h2
        refine ao_apo (st' := [⟨0, 3, 1, List.map eI l8⟩, ⟨0, 3, 1, List.map eI q17⟩, ⟨1, 3, 1, List.map eI l85⟩, ⟨0, 3, 1, List.map eI [t22]⟩]) (l2 := [t22]) go0 ei26 rfl rfl rfl rfl (el_o rfl rfl) (fun _ => rfl) gl85 rfl ?_
        refine zq tb rfl ?_
        exact AO.done (M73 l85 (Sh.some_eq h2).symm _ (by refine Wk.trans (Wk.rg (L := [(0, (.sl (List.map eCell p0))), (4, (.own 0 0 (List.length l8))), (11, (.own 1 0 (List.length q17))), (12, (.own 2 0 (List.length l85))), (13, (i64 0)), (71, (.sl (List.map eCell p0))), (72, (i64 (Sh.len p0))), (73, (i64 t22))]) (st' := [⟨0, 3, 1, List.map eI l8⟩, ⟨0, 3, 1, List.map eI q17⟩, ⟨0, 3, 1, List.map eI l85⟩, ⟨0, 3, 1, List.map eI [t22]⟩]) (.pure (pure_map fun _ => rfl) (.pure (pure_map fun _ => rfl) (.pure (pure_map fun _ => rfl) (.pure (pure_map fun _ => rfl) .nil)))) ⟨.rfl, .rfl, .rfl, .rfl, .rfl, .rfl, .rfl, .rfl, trivial⟩) ?_; exact Wk.permk (L := [(0, (.sl (List.map eCell p0))), (4, (.own 0 0 (List.length l8))), (11, (.own 1 0 (List.length q17))), (12, (.own 2 0 (List.length l85))), (13, (i64 0)), (71, (.sl (List.map eCell p0))), (72, (i64 (Sh.len p0))), (73, (i64 t22))]) (st' := [⟨0, 3, 1, List.map eI l8⟩, ⟨0, 3, 1, List.map eI q17⟩, ⟨0, 3, 1, List.map eI l85⟩]) (st1 := [⟨0, 3, 1, List.map eI l8⟩, ⟨0, 3, 1, List.map eI q17⟩, ⟨0, 3, 1, List.map eI l85⟩]) [0, 1, 2] rfl .nil (by decide) rfl rfl (.pure (pure_map fun _ => rfl) (.pure (pure_map fun _ => rfl) (.pure (pure_map fun _ => rfl) .nil))) ⟨.rfl, .rfl, .rfl, .rfl, .rfl, .rfl, .rfl, .rfl, trivial⟩))
       ·intro b84 h2
        exact AW.skip (M73 l23 (Sh.some_eq h2).symm _ (Wk.tr rfl))
     refine AW.draw (by kernel_rfl) (by kernel_rfl) (by rfl) ?_
     iterate 4 refine yq tb rfl ?_
     rcases Sh.ite_some h3 with ⟨b86, h3⟩ | ⟨b86, h3⟩
     ·refine yg tb b86 rfl ?_
      iterate 3 refine yg tb b86 rfl ?_
      obtain ⟨c87, gc87, h3⟩ := Sh.bind_some h3
      refine d_q (v := (.ptr 0 0 (Int.toNat t22) 0)) (go1 rfl rfl b86) rfl (aq_ixo ei26 rfl rfl rfl rfl gc87) ?_
      refine d_q (v := (i64 c87)) (go1 rfl rfl b86) rfl (aq_ldp ti3 rfl rfl (map_get gc87) rfl) ?_
      iterate 2 refine yg tb b86 rfl ?_
      rcases Sh.ite_some h3 with ⟨b88, h3⟩ | ⟨b88, h3⟩
      ·refine ys b88 rfl ?_
       iterate 2 refine ys b88 rfl ?_
       refine d_q (v := (.bool true)) (go1 rfl rfl b86) rfl (aq_pkt rfl b88 rfl) ?_
       refine yt b86 rfl ?_
       exact d_done (M79 true (Sh.some_eq h3).symm _ (Wk.permk (L := [(0, (.sl (List.map eCell p0))), (4, (.own 0 0 (List.length l8))), (11, (.own 1 0 (List.length q17))), (12, (.own 2 0 (List.length l23))), (13, (i64 0)), (14, (i64 t22)), (71, (.sl (List.map eCell p0))), (72, (i64 (Sh.len p0))), (73, (i64 t22)), (94, (.bool true))]) (st' := [⟨0, 3, 1, List.map eI l8⟩, ⟨0, 3, 1, List.map eI q17⟩, ⟨0, 3, 1, List.map eI l23⟩]) (st1 := [⟨0, 3, 1, List.map eI l8⟩, ⟨0, 3, 1, List.map eI q17⟩, ⟨0, 3, 1, List.map eI l23⟩]) [0, 1, 2] rfl .nil (by decide) rfl rfl (.pure (pure_map fun _ => rfl) (.pure (pure_map fun _ => rfl) (.pure (pure_map fun _ => rfl) .nil))) ⟨.rfl, .rfl, .rfl, .rfl, .rfl, .rfl, .rfl, .rfl, .rfl, .rfl, trivial⟩))
      ·refine yg tb b88 rfl ?_
       iterate 2 refine yg tb b88 rfl ?_
       refine d_q (v := (.bool (decide (999999 < c75.count)))) (go1 rfl rfl b86) rfl (aq_pkf rfl b88 rfl) ?_
       refine yt b86 rfl ?_
       exact d_done (M79 (decide (999999 < c75.count)) (Sh.some_eq h3).symm _ (Wk.permk (L := [(0, (.sl (List.map eCell p0))), (4, (.own 0 0 (List.length l8))), (11, (.own 1 0 (List.length q17))), (12, (.own 2 0 (List.length l23))), (13, (i64 0)), (14, (i64 t22)), (71, (.sl (List.map eCell p0))), (72, (i64 (Sh.len p0))), (73, (i64 t22)), (94, (.bool (decide (999999 < c75.count))))]) (st' := [⟨0, 3, 1, List.map eI l8⟩, ⟨0, 3, 1, List.map eI q17⟩, ⟨0, 3, 1, List.map eI l23⟩]) (st1 := [⟨0, 3, 1, List.map eI l8⟩, ⟨0, 3, 1, List.map eI q17⟩, ⟨0, 3, 1, List.map eI l23⟩]) [0, 1, 2] rfl .nil (by decide) rfl rfl (.pure (pure_map fun _ => rfl) (.pure (pure_map fun _ => rfl) (.pure (pure_map fun _ => rfl) .nil))) ⟨.rfl, .rfl, .rfl, .rfl, .rfl, .rfl, .rfl, .rfl, .rfl, .rfl, trivial⟩))
     ·refine ys b86 rfl ?_
      iterate 7 refine ys b86 rfl ?_
      iterate 3 refine yn rfl ?_
      refine ys b86 rfl ?_
      refine yf b86 rfl ?_
      exact d_done (M79 false (Sh.some_eq h3).symm _ (Wk.permk (L := [(0, (.sl (List.map eCell p0))), (4, (.own 0 0 (List.length l8))), (11, (.own 1 0 (List.length q17))), (12, (.own 2 0 (List.length l23))), (13, (i64 0)), (14, (i64 t22)), (71, (.sl (List.map eCell p0))), (72, (i64 (Sh.len p0))), (73, (i64 t22)), (94, (.bool false))]) (st' := [⟨0, 3, 1, List.map eI l8⟩, ⟨0, 3, 1, List.map eI q17⟩, ⟨0, 3, 1, List.map eI l23⟩]) (st1 := [⟨0, 3, 1, List.map eI l8⟩, ⟨0, 3, 1, List.map eI q17⟩, ⟨0, 3, 1, List.map eI l23⟩]) [0, 1, 2] rfl .nil (by decide) rfl rfl (.pure (pure_map fun _ => rfl) (.pure (pure_map fun _ => rfl) (.pure (pure_map fun _ => rfl) .nil))) ⟨.rfl, .rfl, .rfl, .rfl, .rfl, .rfl, .rfl, .rfl, .rfl, .rfl, trivial⟩))
    ·intro b70 h1
     exact AW.exit (M25 l23 (Sh.some_eq h1).symm _ (Wk.tr rfl))
  refine AW.regionO (by rfl) ?_
  refine zq tb rfl ?_
  refine zl tb rfl rfl ?_
  iterate 2 refine zq tb rfl ?_
  rcases Sh.ite_some h1 with ⟨b89, h1⟩ | ⟨b89, h1⟩
  ·refine zg tb b89 rfl ?_
   refine zg tb b89 rfl ?_
   refine ao_q (v := (i64 (Sh.len p0))) (go1 rfl rfl b89) rfl (aq_lens sl39 rfl) ?_
   refine zg tb b89 rfl ?_
   obtain ⟨c90, gc90, h1⟩ := Sh.bind_some h1
   refine ao_q (v := (.iptr (eCell c90) 0)) (go1 rfl rfl b89) rfl (aq_ixs ei39 rfl rfl gc90 rfl) ?_
   iterate 3 refine zg tb b89 rfl ?_
   refine zt b89 rfl ?_
   exact AO.done (M13 (decide (c90.count = 0)) (Sh.some_eq h1).symm _ (Wk.tr rfl))
  ·refine zs b89 rfl ?_
   iterate 7 refine zs b89 rfl ?_
   refine zf b89 rfl ?_
   exact AO.done (M13 false (Sh.some_eq h1).symm _ (Wk.tr rfl))
 refine AW.block (AW.loopF (σ := Int × (List Int)) (fun n v => impl_checkedHeap_L1 N p0 n v.1 v.2 = some o9) (fun (t6, l7) => ⟨159, envL [(0, (.sl (List.map eCell p0))), (4, (.own 0 0 (List.length l7))), (24, (.sl (List.map eCell p0))), (25, (i64 (Sh.len p0))), (26, (i64 t6))], [⟨0, 3, 1, List.map eI l7⟩]⟩) N (0, l3) h1 (Wk.tr rfl) (fun _ hv => by rw [impl_checkedHeap_L1] at hv; cases hv) ?_)
 rintro n ⟨t6, l7⟩ h1
 try dsimp only at h1 ⊢
 rw [impl_checkedHeap_L1] at h1
 refine sr rfl fun K91 hK91 => ?_
 refine zq tb rfl ?_
 refine dn hK91 rfl ?_
 refine AW.seq fun K92 hK92 => ?_
 refine ci h1 rfl ?_ ?_ <;> clear h1
 ·intro b93 h1
  refine AW.skip (hK92 _ ?_)
  refine AW.seq fun K94 hK94 => ?_
  refine AW.block ?_
  refine sr rfl fun K95 hK95 => ?_
  obtain ⟨c96, gc96, h1⟩ := Sh.bind_some h1
  refine zx ei39 gc96 rfl rfl rfl ?_
  refine zq tb rfl ?_
  refine ao_alloc (m := 1) (st' := [⟨0, 3, 1, List.map eI l7⟩, ⟨0, 90, 3, [[(i64 0), (i64 0), .zc]]⟩]) go0 zi90 rfl rfl ?_
  refine ao_str (st' := [⟨0, 3, 1, List.map eI l7⟩, ⟨0, 90, 3, [(eCell c96)]⟩]) go0 ti90 rfl rfl rfl rfl rfl rfl (show 0 + 3 ≤ 3 by decide) rfl ?_
  refine dn hK95 rfl ?_
  refine AW.seq fun K97 hK97 => ?_
  refine sr rfl fun K98 hK98 => ?_
  iterate 2 refine zq tb rfl ?_
  obtain ⟨q99, gq99, h1⟩ := Sh.bind_some h1
  refine zc hb76 (impl_cellValid_ok gq99) rfl rfl rfl ?_
  refine zq tb rfl ?_
  refine dn hK98 rfl ?_
  refine ci h1 rfl ?_ ?_ <;> clear h1
  ·intro b100 h1
   have b101 : q99 = false := by simpa using b100
   refine sr rfl fun K102 hK102 => ?_
   iterate 2 refine zq tb rfl ?_
   refine dn hK102 rfl ?_
   replace h1 := Sh.some_eq h1
   subst o9
   try dsimp only [id] at h0
   replace h0 := Sh.some_eq h0
   subst r
   exact AW.ret (xr ((((Wk.adopt (t := 2) rfl 3 (size := 1) (by decide)).trans (Wk.to (L := [(2, (.own 2 0 (List.length ([] : List Int)))), (3, (.bool false))]) ⟨.rfl, .rfl, trivial⟩)).trans (Wk.permk (L := [(2, (.own 0 0 (List.length ([] : List Int)))), (3, (.bool false))]) (st' := [⟨0, 3, 1, List.map eI ([] : List Int)⟩]) (st1 := [⟨0, 3, 1, List.map eI ([] : List Int)⟩]) [2] rfl .nil (by decide) rfl rfl (.pure (pure_map fun _ => rfl) .nil) ⟨.rfl, .rfl, trivial⟩)).trans (Wk.to (L := [(2, (.own 0 0 (List.length ([] : List Int)))), (3, (.bool false))]) ⟨.rfl, .rfl, trivial⟩)))
  ·intro b100 h1
   have b103 : q99 = true := by simpa using b100
   refine AW.skip (hK97 _ ?_)
   refine sr rfl fun K104 hK104 => ?_
   iterate 2 refine zq tb rfl ?_
   refine zl tb rfl rfl ?_
   refine zq tb rfl ?_
   refine dn hK104 rfl ?_
   obtain ⟨o108, h2, h1⟩ := Sh.bind_some h1
   have M108 : ∀ (l107 : (List Int)), o108 = l107 → ∀ s, Wk 0 s ⟨159, envL [(0, (.sl (List.map eCell p0))), (4, (.own 0 0 (List.length l107))), (24, (.sl (List.map eCell p0))), (25, (i64 (Sh.len p0))), (26, (i64 t6))], [⟨0, 3, 1, List.map eI l107⟩]⟩ → K94 s := by
    intro l107 hq s hw
    subst o108
    try dsimp only at h1
    refine hK94 _ (AW.weaken hw ?_)
    refine AW.regionO (by rfl) ?_
    iterate 2 refine zq tb rfl ?_
    exact AO.done (xi (Sh.w (t6 + 1), l107) h1 (Wk.tr rfl))
   refine AW.block (AW.loopF (σ := Int × (List Int)) (fun n v => impl_checkedHeap_L5 c96 p0 n v.1 v.2 = some o108) (fun (t105, l106) => ⟨159, envL [(0, (.sl (List.map eCell p0))), (4, (.own 0 0 (List.length l106))), (24, (.sl (List.map eCell p0))), (25, (i64 (Sh.len p0))), (26, (i64 t6)), (35, (.sl (List.map eI c96.fields))), (36, (i64 (Sh.len c96.fields))), (37, (i64 t105))], [⟨0, 3, 1, List.map eI l106⟩]⟩) N (0, l7) h2 (Wk.permk (L := [(0, (.sl (List.map eCell p0))), (4, (.own 0 0 (List.length l7))), (24, (.sl (List.map eCell p0))), (25, (i64 (Sh.len p0))), (26, (i64 t6)), (35, (.sl (List.map eI c96.fields))), (36, (i64 (Sh.len c96.fields))), (37, (i64 0))]) (st' := [⟨0, 3, 1, List.map eI l7⟩]) (st1 := [⟨0, 3, 1, List.map eI l7⟩]) [0] rfl .nil (by decide) rfl rfl (.pure (pure_map fun _ => rfl) .nil) ⟨.rfl, .rfl, .rfl, .rfl, .rfl, .rfl, .rfl, .rfl, trivial⟩) (fun _ hv => by rw [impl_checkedHeap_L5] at hv; cases hv) ?_)
   rintro n ⟨t105, l106⟩ h2
   try dsimp only at h2 ⊢
   rw [impl_checkedHeap_L5] at h2
   refine sr rfl fun K109 hK109 => ?_
   refine zq tb rfl ?_
   refine dn hK109 rfl ?_
   refine AW.seq fun K110 hK110 => ?_
   refine ci h2 rfl ?_ ?_ <;> clear h2
   ·intro b111 h2
    refine AW.skip (hK110 _ ?_)
    refine AW.seq fun K112 hK112 => ?_
    obtain ⟨o114, h3, h2⟩ := Sh.bind_some h2
    have M114 : ∀ (l113 : (List Int)), o114 = l113 → ∀ s, Wk 0 s ⟨159, envL [(0, (.sl (List.map eCell p0))), (4, (.own 0 0 (List.length l113))), (24, (.sl (List.map eCell p0))), (25, (i64 (Sh.len p0))), (26, (i64 t6)), (35, (.sl (List.map eI c96.fields))), (36, (i64 (Sh.len c96.fields))), (37, (i64 t105))], [⟨0, 3, 1, List.map eI l113⟩]⟩ → K112 s := by
     intro l113 hq s hw
     subst o114
     try dsimp only at h2
     refine hK112 _ (AW.weaken hw ?_)
     refine AW.regionO (by rfl) ?_
     iterate 2 refine zq tb rfl ?_
     exact AO.done (xi (Sh.w (t105 + 1), l113) h2 (Wk.tr rfl))
    refine AW.block ?_
    refine sr rfl fun K115 hK115 => ?_
    obtain ⟨c116, gc116, h3⟩ := Sh.bind_some h3
    refine zx ei26 gc116 rfl rfl rfl ?_
    iterate 2 refine zq tb rfl ?_
    refine dn hK115 rfl ?_
    refine sr rfl fun K117 hK117 => ?_
    iterate 2 refine zq tb rfl ?_
    obtain ⟨q118, gq118, h3⟩ := Sh.bind_some h3
    refine zc (v' := (.tup [(i64 q118.1), (.bool q118.2)])) hb77 (impl_liveAt_ok gq118) rfl rfl rfl ?_
    iterate 5 refine zq tb rfl ?_
    refine dn hK117 rfl ?_
    refine sr rfl fun K119 hK119 => ?_
    refine zq tb rfl ?_
    refine dn hK119 rfl ?_
    refine ci h3 rfl ?_ ?_ <;> clear h3
    ·intro b120 h3
     refine AW.regionO (by rfl) ?_
     iterate 2 refine zq tb rfl ?_
     obtain ⟨c121, gc121, h3⟩ := Sh.bind_some h3
     refine zz (.ptr 0 0 (Int.toNat q118.1) 0) (aq_ixo ei26 rfl rfl rfl rfl gc121) rfl ?_
     refine zz (i64 c121) (aq_ldp ti3 rfl rfl (map_get gc121) rfl) rfl ?_
     refine zq tb rfl ?_
     refine zz (.ptr 0 0 (Int.toNat q118.1) 0) (aq_ixo ei26 rfl rfl rfl rfl gc121) rfl ?_
     refine ao_stl (st' := [⟨0, 3, 1, List.map eI (Sh.put l106 q118.1 (Sh.w (c121 + 1)))⟩]) (u' := Sh.w (c121 + 1)) go0 ti3 rfl rfl gc121 rfl rfl rfl (show 0 + 1 ≤ 1 by decide) rfl rfl ?_
     exact AO.done (M114 (Sh.put l106 q118.1 (Sh.w (c121 + 1))) (Sh.some_eq h3).symm _ (Wk.to (L := [(0, (.sl (List.map eCell p0))), (4, (.own 0 0 (List.length (Sh.put l106 q118.1 (Sh.w (c121 + 1)))))), (24, (.sl (List.map eCell p0))), (25, (i64 (Sh.len p0))), (26, (i64 t6)), (35, (.sl (List.map eI c96.fields))), (36, (i64 (Sh.len c96.fields))), (37, (i64 t105))]) ⟨.rfl, (.len (by simp only [Sh.put_len])), .rfl, .rfl, .rfl, .rfl, .rfl, .rfl, trivial⟩))
    ·intro b120 h3
     exact AW.skip (M114 l106 (Sh.some_eq h3).symm _ (Wk.tr rfl))
   ·intro b111 h2
    exact AW.exit (M108 l106 (Sh.some_eq h2).symm _ (Wk.tr rfl))
 ·intro b93 h1
  exact AW.exit (M9 l7 (Sh.some_eq h1).symm _ (Wk.tr rfl))
theorem impl_stateValid_1_ok {p0 : Int} {r : Bool} (h0 : impl_stateValid_1 p0 = some r) : ACalls Tryz.prog 50 [(i64 p0)] [] (fun v st => v = (.bool r) ∧ st = []) := by
 unfold impl_stateValid_1 at h0
 refine ACalls.intro Tryz.func50 rfl (by show 1 ≤ 6; decide) ?_
 show AW _ 0 _ (aret _ 0 Tryz.f50 _) ⟨6, _, _⟩
 refine AW.weaken (Wk.to (L := [(0, (i64 p0))]) ⟨.rfl, trivial⟩) ?_
 refine sr rfl fun K1 hK1 => ?_
 refine zq tb rfl ?_
 refine dn hK1 rfl ?_
 refine sr rfl fun K2 hK2 => ?_
 refine zq tb rfl ?_
 obtain ⟨q3, gq3, h0⟩ := Sh.bind_some h0
 refine zc hb47 (impl_isInt_ok gq3) rfl rfl rfl ?_
 iterate 2 refine zq tb rfl ?_
 refine dn hK2 rfl ?_
 replace h0 := Sh.some_eq h0
 subst r
 exact AW.ret (xr (Wk.to (L := [(2, (.bool (!q3)))]) ⟨.rfl, trivial⟩))
theorem slices_IndexFunc_int_int_2_ok {N : Nat} {p0 : (List Int)} {r : Int} (h0 : slices_IndexFunc_int_int_2 N p0 = some r) : ACalls Tryz.prog 79 [(.sl (List.map eI p0)), (.fn 50 [])] [] (fun v st => v = (i64 r) ∧ st = []) := by
 unfold slices_IndexFunc_int_int_2 at h0
 refine ACalls.intro Tryz.func79 rfl (by show 2 ≤ 19; decide) ?_
 show AW _ 0 _ (aret _ 0 Tryz.f79 _) ⟨19, _, _⟩
 refine AW.weaken (Wk.to (L := [(0, (.sl (List.map eI p0))), (1, (.fn 50 []))]) ⟨.rfl, .rfl, trivial⟩) ?_
 refine sr rfl fun K1 hK1 => ?_
 refine zq tb rfl ?_
 refine dn hK1 rfl ?_
 refine AW.seq fun K2 hK2 => ?_
 refine sr rfl fun K3 hK3 => ?_
 refine zq tb rfl ?_
 refine zl tb rfl rfl ?_
 refine zq tb rfl ?_
 refine dn hK3 rfl ?_
 obtain ⟨o5, h1, h0⟩ := Sh.cont_some h0
 have M5 : ∀ (_ : Unit), o5 = Sum.inr () → ∀ s, Wk 0 s ⟨19, envL [], []⟩ → K2 s := by
  intro _ hq s hw
  subst o5
  try dsimp only at h0
  refine hK2 _ (AW.weaken hw ?_)
  refine sr rfl fun K6 hK6 => ?_
  refine zq tb rfl ?_
  refine dn hK6 rfl ?_
  replace h0 := Sh.some_eq h0
  subst r
  exact AW.ret (xr (Wk.to (L := [(4, (i64 (-1)))]) ⟨.rfl, trivial⟩))
 refine AW.block (AW.loopF (σ := Int) (fun n v => slices_IndexFunc_int_int_2_L1 p0 n v = some o5) (fun t4 => ⟨19, envL [(0, (.sl (List.map eI p0))), (1, (.fn 50 [])), (7, (i64 (Sh.len p0))), (8, (i64 t4))], []⟩) N 0 h1 (Wk.tr rfl) (fun _ hv => by rw [slices_IndexFunc_int_int_2_L1] at hv; cases hv) ?_)
 rintro n t4 h1
 try dsimp only at h1 ⊢
 rw [slices_IndexFunc_int_int_2_L1] at h1
 refine sr rfl fun K7 hK7 => ?_
 refine zq tb rfl ?_
 refine dn hK7 rfl ?_
 refine AW.seq fun K8 hK8 => ?_
 refine ci h1 rfl ?_ ?_ <;> clear h1
 ·intro b9 h1
  refine AW.skip (hK8 _ ?_)
  refine AW.seq fun K10 hK10 => ?_
  refine AW.block ?_
  refine sr rfl fun K11 hK11 => ?_
  iterate 2 refine zq tb rfl ?_
  refine dn hK11 rfl ?_
  refine sr rfl fun K12 hK12 => ?_
  iterate 3 refine zq tb rfl ?_
  obtain ⟨c13, gc13, h1⟩ := Sh.bind_some h1
  refine zx ei26 gc13 rfl rfl rfl ?_
  refine zq tb rfl ?_
  obtain ⟨q14, gq14, h1⟩ := Sh.bind_some h1
  refine ao_callt (v' := (.bool q14)) (st' := []) go0 rfl hb50 (impl_stateValid_1_ok gq14) rfl rfl trivial rfl rfl ?_
  refine dn hK12 rfl ?_
  refine ci h1 rfl ?_ ?_ <;> clear h1
  ·intro b15 h1
   refine sr rfl fun K16 hK16 => ?_
   iterate 2 refine zq tb rfl ?_
   refine dn hK16 rfl ?_
   replace h1 := Sh.some_eq h1
   subst o5
   try dsimp only [id] at h0
   replace h0 := Sh.some_eq h0
   subst r
   exact AW.ret (xr (Wk.to (L := [(4, (i64 t4))]) ⟨.rfl, trivial⟩))
  ·intro b15 h1
   refine AW.skip (hK10 _ ?_)
   refine AW.regionO (by rfl) ?_
   iterate 2 refine zq tb rfl ?_
   exact AO.done (xi (Sh.w (t4 + 1)) h1 (Wk.tr rfl))
 ·intro b9 h1
  exact AW.exit (M5 () (Sh.some_eq h1).symm _ (Wk.tr rfl))
theorem slices_ContainsFunc_int_int_2_ok {N : Nat} {p0 : (List Int)} {r : Bool} (h0 : slices_ContainsFunc_int_int_2 N p0 = some r) : ACalls Tryz.prog 49 [(.sl (List.map eI p0)), (.fn 50 [])] [] (fun v st => v = (.bool r) ∧ st = []) := by
 unfold slices_ContainsFunc_int_int_2 at h0
 refine ACalls.intro Tryz.func49 rfl (by show 2 ≤ 9; decide) ?_
 show AW _ 0 _ (aret _ 0 Tryz.f49 _) ⟨9, _, _⟩
 refine AW.weaken (Wk.to (L := [(0, (.sl (List.map eI p0))), (1, (.fn 50 []))]) ⟨.rfl, .rfl, trivial⟩) ?_
 refine sr rfl fun K1 hK1 => ?_
 refine zq tb rfl ?_
 refine dn hK1 rfl ?_
 refine sr rfl fun K2 hK2 => ?_
 iterate 2 refine zq tb rfl ?_
 obtain ⟨q3, gq3, h0⟩ := Sh.bind_some h0
 refine zc hb79 (slices_IndexFunc_int_int_2_ok gq3) rfl rfl rfl ?_
 iterate 2 refine zq tb rfl ?_
 refine dn hK2 rfl ?_
 replace h0 := Sh.some_eq h0
 subst r
 exact AW.ret (xr (Wk.to (L := [(4, (.bool (decide (0 ≤ q3))))]) ⟨.rfl, trivial⟩))
theorem impl_frameValid_ok {N : Nat} {p0 : RImage} {p1 : RFrame} {r : Bool} (h0 : impl_frameValid N p0 p1 = some r) : ACalls Tryz.prog 51 [(.agg (eRImage p0)), (.agg (eRFrame p1))] [] (fun v st => v = (.bool r) ∧ st = []) := by
 unfold impl_frameValid at h0
 refine ACalls.intro Tryz.func51 rfl (by show 2 ≤ 92; decide) ?_
 show AW _ 0 _ (aret _ 0 Tryz.f51 _) ⟨92, _, _⟩
 refine AW.weaken (Wk.to (L := [(0, (.agg (eRImage p0))), (1, (.agg (eRFrame p1)))]) ⟨.rfl, .rfl, trivial⟩) ?_
 refine sr rfl fun K1 hK1 => ?_
 refine ao_box (m := 0) (st' := [⟨0, 37, 2, [(eRImage p0)]⟩]) go0 rfl rfl rfl rfl rfl ?_
 refine ao_box (m := 1) (st' := [⟨0, 37, 2, [(eRImage p0)]⟩, ⟨0, 92, 6, [(eRFrame p1)]⟩]) go0 rfl rfl rfl rfl rfl ?_
 refine zq tb rfl ?_
 refine dn hK1 rfl ?_
 refine AW.seq fun K2 hK2 => ?_
 refine AW.seq fun K3 hK3 => ?_
 obtain ⟨o5, h1, h0⟩ := Sh.bind_some h0
 have M5 : ∀ (t4 : Bool), o5 = t4 → ∀ s, Wk 0 s ⟨92, envL [(2, (.ptr 0 0 0 0)), (3, (.ptr 1 0 0 0)), (18, (.bool t4))], [⟨0, 37, 2, [(eRImage p0)]⟩, ⟨0, 92, 6, [(eRFrame p1)]⟩]⟩ → K3 s := by
  intro t4 hq s hw
  subst o5
  try dsimp only at h0
  refine hK3 _ (AW.weaken hw ?_)
  refine ci h0 rfl ?_ ?_ <;> clear h0
  ·intro b6 h0
   refine sr rfl fun K7 hK7 => ?_
   refine zq tb rfl ?_
   refine dn hK7 rfl ?_
   replace h0 := Sh.some_eq h0
   subst r
   exact AW.ret (xr (Wk.d0 [(4, (.bool false))] rfl))
  ·intro b6 h0
   refine AW.skip (hK2 _ ?_)
   refine sr rfl fun K8 hK8 => ?_
   iterate 4 refine zq tb rfl ?_
   obtain ⟨c9, gc9, h0⟩ := Sh.bind_some h0
   refine zx ei35 gc9 rfl rfl rfl ?_
   refine zq tb rfl ?_
   refine ao_alloc (m := 2) (st' := [⟨0, 37, 2, [(eRImage p0)]⟩, ⟨0, 92, 6, [(eRFrame p1)]⟩, ⟨0, 88, 5, [[.zc, .zc, (i64 0), (i64 0), .zc]]⟩]) go0 zi88 rfl rfl ?_
   refine ao_str (st' := [⟨0, 37, 2, [(eRImage p0)]⟩, ⟨0, 92, 6, [(eRFrame p1)]⟩, ⟨0, 88, 5, [(eRProc c9)]⟩]) go0 ti88 rfl rfl rfl rfl rfl rfl (show 0 + 5 ≤ 5 by decide) rfl ?_
   refine dn hK8 rfl ?_
   refine AW.seq fun K10 hK10 => ?_
   refine AW.seq fun K11 hK11 => ?_
   obtain ⟨o13, h1, h0⟩ := Sh.bind_some h0
   have M13 : ∀ (t12 : Bool), o13 = t12 → ∀ s, Wk 0 s ⟨92, envL [(3, (.ptr 0 0 0 0)), (59, (.bool t12))], [⟨0, 92, 6, [(eRFrame p1)]⟩]⟩ → K11 s := by
    intro t12 hq s hw
    subst o13
    try dsimp only at h0
    refine hK11 _ (AW.weaken hw ?_)
    refine ci h0 rfl ?_ ?_ <;> clear h0
    ·intro b14 h0
     refine sr rfl fun K15 hK15 => ?_
     refine zq tb rfl ?_
     refine dn hK15 rfl ?_
     replace h0 := Sh.some_eq h0
     subst r
     exact AW.ret (xr (Wk.d0 [(4, (.bool false))] rfl))
    ·intro b14 h0
     refine AW.skip (hK10 _ ?_)
     refine AW.seq fun K16 hK16 => ?_
     refine sr rfl fun K17 hK17 => ?_
     iterate 2 refine zq tb rfl ?_
     refine zl tb rfl rfl ?_
     refine zq tb rfl ?_
     refine dn hK17 rfl ?_
     obtain ⟨o19, h1, h0⟩ := Sh.cont_some h0
     have M19 : ∀ (_ : Unit), o19 = Sum.inr () → ∀ s, Wk 0 s ⟨92, envL [], []⟩ → K16 s := by
      intro _ hq s hw
      subst o19
      try dsimp only at h0
      refine hK16 _ (AW.weaken hw ?_)
      refine sr rfl fun K20 hK20 => ?_
      refine zq tb rfl ?_
      refine dn hK20 rfl ?_
      replace h0 := Sh.some_eq h0
      subst r
      exact AW.ret (xr (Wk.to (L := [(4, (.bool true))]) ⟨.rfl, trivial⟩))
     refine AW.block (AW.loopF (σ := Int) (fun n v => impl_frameValid_L1 p1 n v = some o19) (fun t18 => ⟨92, envL [(3, (.ptr 0 0 0 0)), (61, (.sl (List.map eI p1.regs))), (62, (i64 (Sh.len p1.regs))), (63, (i64 t18))], [⟨0, 92, 6, [(eRFrame p1)]⟩]⟩) N 0 h1 (Wk.tr rfl) (fun _ hv => by rw [impl_frameValid_L1] at hv; cases hv) ?_)
     rintro n t18 h1
     try dsimp only at h1 ⊢
     rw [impl_frameValid_L1] at h1
     refine sr rfl fun K21 hK21 => ?_
     refine zq tb rfl ?_
     refine dn hK21 rfl ?_
     refine AW.seq fun K22 hK22 => ?_
     refine ci h1 rfl ?_ ?_ <;> clear h1
     ·intro b23 h1
      refine AW.skip (hK22 _ ?_)
      refine AW.seq fun K24 hK24 => ?_
      refine AW.block ?_
      refine sr rfl fun K25 hK25 => ?_
      refine zq tb rfl ?_
      obtain ⟨c26, gc26, h1⟩ := Sh.bind_some h1
      refine zx ei26 gc26 rfl rfl rfl ?_
      iterate 3 refine zq tb rfl ?_
      refine dn hK25 rfl ?_
      refine AW.seq fun K27 hK27 => ?_
      obtain ⟨o29, h2, h1⟩ := Sh.bind_some h1
      have M29 : ∀ (t28 : Bool), o29 = t28 → ∀ s, Wk 0 s ⟨92, envL [(3, (.ptr 0 0 0 0)), (61, (.sl (List.map eI p1.regs))), (62, (i64 (Sh.len p1.regs))), (63, (i64 t18)), (90, (.bool t28))], [⟨0, 92, 6, [(eRFrame p1)]⟩]⟩ → K27 s := by
       intro t28 hq s hw
       subst o29
       try dsimp only at h1
       refine hK27 _ (AW.weaken hw ?_)
       refine ci h1 rfl ?_ ?_ <;> clear h1
       ·intro b30 h1
        refine sr rfl fun K31 hK31 => ?_
        refine zq tb rfl ?_
        refine dn hK31 rfl ?_
        replace h1 := Sh.some_eq h1
        subst o19
        try dsimp only [id] at h0
        replace h0 := Sh.some_eq h0
        subst r
        exact AW.ret (xr (Wk.d0 [(4, (.bool false))] rfl))
       ·intro b30 h1
        refine AW.skip (hK24 _ ?_)
        refine AW.regionO (by rfl) ?_
        iterate 2 refine zq tb rfl ?_
        exact AO.done (xi (Sh.w (t18 + 1)) h1 (Wk.tr rfl))
      refine AW.regionO (by rfl) ?_
      refine zq tb rfl ?_
      obtain ⟨q32, gq32, h2⟩ := Sh.bind_some h2
      refine zc hb47 (impl_isInt_ok gq32) rfl rfl rfl ?_
      iterate 2 refine zq tb rfl ?_
      rcases Sh.ite_some h2 with ⟨b33, h2⟩ | ⟨b33, h2⟩
      ·refine zg tb b33 rfl ?_
       refine zg tb b33 rfl ?_
       refine zt b33 rfl ?_
       refine zq tb rfl ?_
       rcases Sh.ite_some h2 with ⟨b34, h2⟩ | ⟨b34, h2⟩
       ·refine zs b34 rfl ?_
        iterate 5 refine zs b34 rfl ?_
        refine zt b34 rfl ?_
        refine zq tb rfl ?_
        iterate 6 refine zs rfl rfl ?_
        refine zt rfl rfl ?_
        exact AO.done (M29 true (Sh.some_eq h2).symm _ (Wk.tr rfl))
       ·refine zg tb b34 rfl ?_
        iterate 2 refine zg tb b34 rfl ?_
        obtain ⟨c35, gc35, h2⟩ := Sh.bind_some h2
        refine ao_q (v := (.iptr (eI c35) 0)) (go1 rfl rfl b34) rfl (aq_ixs ei26 rfl rfl gc35 rfl) ?_
        iterate 2 refine zg tb b34 rfl ?_
        refine zf b34 rfl ?_
        refine zq tb rfl ?_
        rcases Sh.ite_some h2 with ⟨b36, h2⟩ | ⟨b36, h2⟩
        ·refine zs b36 rfl ?_
         iterate 5 refine zs b36 rfl ?_
         refine zt b36 rfl ?_
         exact AO.done (M29 true (Sh.some_eq h2).symm _ (Wk.tr rfl))
        ·refine zg tb b36 rfl ?_
         iterate 2 refine zg tb b36 rfl ?_
         refine ao_q (v := (.iptr (eI c35) 0)) (go1 rfl rfl b36) rfl (aq_ixs ei26 rfl rfl gc35 rfl) ?_
         iterate 2 refine zg tb b36 rfl ?_
         refine zf b36 rfl ?_
         exact AO.done (M29 (decide (999999 < c35)) (Sh.some_eq h2).symm _ (Wk.tr rfl))
      ·refine zs b33 rfl ?_
       refine zs b33 rfl ?_
       refine zf b33 rfl ?_
       refine zq tb rfl ?_
       iterate 3 refine zg tb rfl rfl ?_
       obtain ⟨c37, gc37, h2⟩ := Sh.bind_some h2
       refine ao_q (v := (.iptr (eI c37) 0)) (go1 rfl rfl rfl) rfl (aq_ixs ei26 rfl rfl gc37 rfl) ?_
       iterate 2 refine zg tb rfl rfl ?_
       refine zf rfl rfl ?_
       refine zq tb rfl ?_
       rcases Sh.ite_some h2 with ⟨b38, h2⟩ | ⟨b38, h2⟩
       ·refine zs b38 rfl ?_
        iterate 5 refine zs b38 rfl ?_
        refine zt b38 rfl ?_
        exact AO.done (M29 true (Sh.some_eq h2).symm _ (Wk.tr rfl))
       ·refine zg tb b38 rfl ?_
        iterate 2 refine zg tb b38 rfl ?_
        refine ao_q (v := (.iptr (eI c37) 0)) (go1 rfl rfl b38) rfl (aq_ixs ei26 rfl rfl gc37 rfl) ?_
        iterate 2 refine zg tb b38 rfl ?_
        refine zf b38 rfl ?_
        exact AO.done (M29 (decide (999999 < c37)) (Sh.some_eq h2).symm _ (Wk.tr rfl))
     ·intro b23 h1
      exact AW.exit (M19 () (Sh.some_eq h1).symm _ (Wk.d0 _ rfl))
   refine AW.regionO (by rfl) ?_
   iterate 4 refine zq tb rfl ?_
   rcases Sh.ite_some h1 with ⟨b39, h1⟩ | ⟨b39, h1⟩
   ·refine zs b39 rfl ?_
    iterate 5 refine zs b39 rfl ?_
    refine zt b39 rfl ?_
    refine zq tb rfl ?_
    iterate 6 refine zs rfl rfl ?_
    refine zt rfl rfl ?_
    refine zq tb rfl ?_
    iterate 6 refine zs rfl rfl ?_
    refine zt rfl rfl ?_
    refine zq tb rfl ?_
    iterate 6 refine zs rfl rfl ?_
    refine zt rfl rfl ?_
    exact AO.done (M13 true (Sh.some_eq h1).symm _ (Wk.permk (L := [(3, (.ptr 0 0 0 0)), (59, (.bool true))]) (st' := [⟨0, 92, 6, [(eRFrame p1)]⟩]) (st1 := [⟨0, 92, 6, [(eRFrame p1)]⟩]) [1] rfl .nil (by decide) rfl rfl (.raw rfl rfl .nil) ⟨.rfl, .rfl, trivial⟩))
   ·refine zg tb b39 rfl ?_
    iterate 3 refine zg tb b39 rfl ?_
    refine ao_q (v := (i64 (Sh.len c9.code))) (go1 rfl rfl b39) rfl (aq_lens sl86 rfl) ?_
    refine zg tb b39 rfl ?_
    refine zf b39 rfl ?_
    refine zq tb rfl ?_
    rcases Sh.ite_some h1 with ⟨b40, h1⟩ | ⟨b40, h1⟩
    ·refine zs b40 rfl ?_
     iterate 5 refine zs b40 rfl ?_
     refine zt b40 rfl ?_
     refine zq tb rfl ?_
     iterate 6 refine zs rfl rfl ?_
     refine zt rfl rfl ?_
     refine zq tb rfl ?_
     iterate 6 refine zs rfl rfl ?_
     refine zt rfl rfl ?_
     exact AO.done (M13 true (Sh.some_eq h1).symm _ (Wk.permk (L := [(3, (.ptr 0 0 0 0)), (59, (.bool true))]) (st' := [⟨0, 92, 6, [(eRFrame p1)]⟩]) (st1 := [⟨0, 92, 6, [(eRFrame p1)]⟩]) [1] rfl .nil (by decide) rfl rfl (.raw rfl rfl .nil) ⟨.rfl, .rfl, trivial⟩))
    ·refine zg tb b40 rfl ?_
     refine zg tb b40 rfl ?_
     refine ao_q (v := (i64 (Sh.len p1.regs))) (go1 rfl rfl b40) rfl (aq_lens sl26 rfl) ?_
     iterate 3 refine zg tb b40 rfl ?_
     refine zf b40 rfl ?_
     refine zq tb rfl ?_
     rcases Sh.ite_some h1 with ⟨b41, h1⟩ | ⟨b41, h1⟩
     ·refine zs b41 rfl ?_
      iterate 5 refine zs b41 rfl ?_
      refine zt b41 rfl ?_
      refine zq tb rfl ?_
      iterate 6 refine zs rfl rfl ?_
      refine zt rfl rfl ?_
      exact AO.done (M13 true (Sh.some_eq h1).symm _ (Wk.permk (L := [(3, (.ptr 0 0 0 0)), (59, (.bool true))]) (st' := [⟨0, 92, 6, [(eRFrame p1)]⟩]) (st1 := [⟨0, 92, 6, [(eRFrame p1)]⟩]) [1] rfl .nil (by decide) rfl rfl (.raw rfl rfl .nil) ⟨.rfl, .rfl, trivial⟩))
     ·refine zg tb b41 rfl ?_
      refine zg tb b41 rfl ?_
      refine ao_q (v := (i64 (Sh.len p1.own))) (go1 rfl rfl b41) rfl (aq_lens sl26 rfl) ?_
      iterate 3 refine zg tb b41 rfl ?_
      refine zf b41 rfl ?_
      refine zq tb rfl ?_
      rcases Sh.ite_some h1 with ⟨b42, h1⟩ | ⟨b42, h1⟩
      ·refine zs b42 rfl ?_
       iterate 5 refine zs b42 rfl ?_
       refine zt b42 rfl ?_
       exact AO.done (M13 true (Sh.some_eq h1).symm _ (Wk.permk (L := [(3, (.ptr 0 0 0 0)), (59, (.bool true))]) (st' := [⟨0, 92, 6, [(eRFrame p1)]⟩]) (st1 := [⟨0, 92, 6, [(eRFrame p1)]⟩]) [1] rfl .nil (by decide) rfl rfl (.raw rfl rfl .nil) ⟨.rfl, .rfl, trivial⟩))
      ·refine zg tb b42 rfl ?_
       refine zg tb b42 rfl ?_
       refine ao_q (v := (i64 (Sh.len p1.held))) (go1 rfl rfl b42) rfl (aq_lens sl26 rfl) ?_
       iterate 3 refine zg tb b42 rfl ?_
       refine zf b42 rfl ?_
       exact AO.done (M13 (!decide ((Sh.len p1.held) = c9.regs)) (Sh.some_eq h1).symm _ (Wk.permk (L := [(3, (.ptr 0 0 0 0)), (59, (.bool (!decide ((Sh.len p1.held) = c9.regs))))]) (st' := [⟨0, 92, 6, [(eRFrame p1)]⟩]) (st1 := [⟨0, 92, 6, [(eRFrame p1)]⟩]) [1] rfl .nil (by decide) rfl rfl (.raw rfl rfl .nil) ⟨.rfl, .rfl, trivial⟩))
 refine AW.regionO (by rfl) ?_
 iterate 4 refine zq tb rfl ?_
 rcases Sh.ite_some h1 with ⟨b43, h1⟩ | ⟨b43, h1⟩
 ·refine zs b43 rfl ?_
  iterate 5 refine zs b43 rfl ?_
  refine zt b43 rfl ?_
  exact AO.done (M5 true (Sh.some_eq h1).symm _ (Wk.tr rfl))
 ·refine zg tb b43 rfl ?_
  iterate 3 refine zg tb b43 rfl ?_
  refine ao_q (v := (i64 (Sh.len p0.procs))) (go1 rfl rfl b43) rfl (aq_lens sl35 rfl) ?_
  refine zg tb b43 rfl ?_
  refine zf b43 rfl ?_
  exact AO.done (M5 (decide ((Sh.len p0.procs) ≤ p1.proc)) (Sh.some_eq h1).symm _ (Wk.tr rfl))
theorem impl_Frame_tally_ok {N : Nat} {s0 : (List Int)} {s1 : (List Int)} {p0 : RFrame} {p1 : (List Cell)} {r : Bool × (List Int) × (List Int)} (h0 : impl_Frame_tally N s0 s1 p0 p1 = some r) : ACalls Tryz.prog 52 [(.agg (eRFrame p0)), (.sl (List.map eCell p1)), (.own 0 0 (List.length s0)), (.own 1 0 (List.length s1))] [⟨0, 3, 1, List.map eI s0⟩, ⟨0, 3, 1, List.map eI s1⟩] (fun v st => v = (.bool r.1) ∧ st = [⟨0, 3, 1, List.map eI r.2.1⟩, ⟨0, 3, 1, List.map eI r.2.2⟩]) := by
 unfold impl_Frame_tally at h0
 refine ACalls.intro Tryz.func52 rfl (by show 4 ≤ 78; decide) ?_
 show AW _ 2 _ (aret _ 2 Tryz.f52 _) ⟨78, _, _⟩
 refine AW.weaken (Wk.to (L := [(0, (.agg (eRFrame p0))), (1, (.sl (List.map eCell p1))), (2, (.own 0 0 (List.length s0))), (3, (.own 1 0 (List.length s1)))]) ⟨.rfl, .rfl, .rfl, .rfl, trivial⟩) ?_
 refine sr rfl fun K1 hK1 => ?_
 refine ao_box (m := 2) (st' := [⟨0, 3, 1, List.map eI s0⟩, ⟨0, 3, 1, List.map eI s1⟩, ⟨0, 92, 6, [(eRFrame p0)]⟩]) go0 rfl rfl rfl rfl rfl ?_
 refine zq tb rfl ?_
 refine dn hK1 rfl ?_
 refine AW.seq fun K2 hK2 => ?_
 refine sr rfl fun K3 hK3 => ?_
 iterate 2 refine zq tb rfl ?_
 refine zl tb rfl rfl ?_
 refine zq tb rfl ?_
 refine dn hK3 rfl ?_
 obtain ⟨o9, h1, h0⟩ := Sh.cont_some h0
 have M9 : ∀ (l7 : (List Int)) (l8 : (List Int)), o9 = Sum.inr (l7, l8) → ∀ s, Wk 2 s ⟨78, envL [], [⟨0, 3, 1, List.map eI l7⟩, ⟨0, 3, 1, List.map eI l8⟩]⟩ → K2 s := by
  intro l7 l8 hq s hw
  subst o9
  try dsimp only at h0
  refine hK2 _ (AW.weaken hw ?_)
  refine sr rfl fun K10 hK10 => ?_
  refine zq tb rfl ?_
  refine dn hK10 rfl ?_
  replace h0 := Sh.some_eq h0
  subst r
  exact AW.ret (xr (Wk.to (L := [(8, (.bool true))]) ⟨.rfl, trivial⟩))
 refine AW.block (AW.loopF (σ := Int × (List Int) × (List Int)) (fun n v => impl_Frame_tally_L1 p0 p1 n v.1 v.2.1 v.2.2 = some o9) (fun (t4, l5, l6) => ⟨78, envL [(1, (.sl (List.map eCell p1))), (2, (.own 0 0 (List.length l5))), (3, (.own 1 0 (List.length l6))), (4, (.ptr 2 0 0 0)), (15, (.sl (List.map eI p0.own))), (16, (i64 (Sh.len p0.own))), (17, (i64 t4))], [⟨0, 3, 1, List.map eI l5⟩, ⟨0, 3, 1, List.map eI l6⟩, ⟨0, 92, 6, [(eRFrame p0)]⟩]⟩) N (0, s0, s1) h1 (Wk.tr rfl) (fun _ hv => by rw [impl_Frame_tally_L1] at hv; cases hv) ?_)
 rintro n ⟨t4, l5, l6⟩ h1
 try dsimp only at h1 ⊢
 rw [impl_Frame_tally_L1] at h1
 refine sr rfl fun K11 hK11 => ?_
 refine zq tb rfl ?_
 refine dn hK11 rfl ?_
 refine AW.seq fun K12 hK12 => ?_
 refine ci h1 rfl ?_ ?_ <;> clear h1
 ·intro b13 h1
  refine AW.skip (hK12 _ ?_)
  refine AW.seq fun K14 hK14 => ?_
  obtain ⟨o17, h2, h1⟩ := Sh.cont_some h1
  have M17 : ∀ (l15 : (List Int)) (l16 : (List Int)), o17 = Sum.inr (l15, l16) → ∀ s, Wk 2 s ⟨78, envL [(1, (.sl (List.map eCell p1))), (2, (.own 0 0 (List.length l15))), (3, (.own 1 0 (List.length l16))), (4, (.ptr 2 0 0 0)), (15, (.sl (List.map eI p0.own))), (16, (i64 (Sh.len p0.own))), (17, (i64 t4))], [⟨0, 3, 1, List.map eI l15⟩, ⟨0, 3, 1, List.map eI l16⟩, ⟨0, 92, 6, [(eRFrame p0)]⟩]⟩ → K14 s := by
   intro l15 l16 hq s hw
   subst o17
   try dsimp only at h1
   refine hK14 _ (AW.weaken hw ?_)
   refine AW.regionO (by rfl) ?_
   iterate 2 refine zq tb rfl ?_
   exact AO.done (xi (Sh.w (t4 + 1), l15, l16) h1 (Wk.tr rfl))
  refine AW.block ?_
  refine sr rfl fun K18 hK18 => ?_
  refine zq tb rfl ?_
  obtain ⟨c19, gc19, h2⟩ := Sh.bind_some h2
  refine zx ei26 gc19 rfl rfl rfl ?_
  iterate 3 refine zq tb rfl ?_
  refine dn hK18 rfl ?_
  refine AW.seq fun K20 hK20 => ?_
  obtain ⟨o22, h3, h2⟩ := Sh.cont_some h2
  have M22 : ∀ (l21 : (List Int)), o22 = Sum.inr l21 → ∀ s, Wk 2 s ⟨78, envL [(1, (.sl (List.map eCell p1))), (2, (.own 0 0 (List.length l21))), (3, (.own 1 0 (List.length l6))), (4, (.ptr 2 0 0 0)), (9, (i64 t4)), (15, (.sl (List.map eI p0.own))), (16, (i64 (Sh.len p0.own))), (17, (i64 t4))], [⟨0, 3, 1, List.map eI l21⟩, ⟨0, 3, 1, List.map eI l6⟩, ⟨0, 92, 6, [(eRFrame p0)]⟩]⟩ → K20 s := by
   intro l21 hq s hw
   subst o22
   try dsimp only at h2
   refine hK20 _ (AW.weaken hw ?_)
   refine sr rfl fun K23 hK23 => ?_
   iterate 3 refine zq tb rfl ?_
   obtain ⟨c24, gc24, h2⟩ := Sh.bind_some h2
   refine zx ei26 gc24 rfl rfl rfl ?_
   iterate 2 refine zq tb rfl ?_
   refine dn hK23 rfl ?_
   refine ci h2 rfl ?_ ?_ <;> clear h2
   ·intro b25 h2
    have b26 : decide (c24 = 0) = false := by simpa using b25
    refine sr rfl fun K27 hK27 => ?_
    iterate 3 refine zq tb rfl ?_
    refine zx ei26 gc24 rfl rfl rfl ?_
    iterate 3 refine zq tb rfl ?_
    refine dn hK27 rfl ?_
    refine AW.seq fun K28 hK28 => ?_
    refine AW.seq fun K29 hK29 => ?_
    obtain ⟨o31, h3, h2⟩ := Sh.bind_some h2
    have M31 : ∀ (t30 : Bool), o31 = t30 → ∀ s, Wk 2 s ⟨78, envL [(1, (.sl (List.map eCell p1))), (2, (.own 0 0 (List.length l21))), (3, (.own 1 0 (List.length l6))), (4, (.ptr 2 0 0 0)), (13, (i64 (Sh.w (c24 - 1000)))), (15, (.sl (List.map eI p0.own))), (16, (i64 (Sh.len p0.own))), (17, (i64 t4)), (70, (.bool t30))], [⟨0, 3, 1, List.map eI l21⟩, ⟨0, 3, 1, List.map eI l6⟩, ⟨0, 92, 6, [(eRFrame p0)]⟩]⟩ → K29 s := by
     intro t30 hq s hw
     subst o31
     try dsimp only at h2
     refine hK29 _ (AW.weaken hw ?_)
     refine ci h2 rfl ?_ ?_ <;> clear h2
     ·intro b32 h2
      refine sr rfl fun K33 hK33 => ?_
      refine zq tb rfl ?_
      refine dn hK33 rfl ?_
      replace h2 := Sh.some_eq h2
      subst o17
      try dsimp only [id] at h1
      replace h1 := Sh.some_eq h1
      subst o9
      try dsimp only [id] at h0
      replace h0 := Sh.some_eq h0
      subst r
      exact AW.ret (xr (Wk.permk (L := [(8, (.bool false))]) (st' := [⟨0, 3, 1, List.map eI l21⟩, ⟨0, 3, 1, List.map eI l6⟩]) (st1 := [⟨0, 3, 1, List.map eI l21⟩, ⟨0, 3, 1, List.map eI l6⟩]) [0, 1] rfl (.pure (pure_map fun _ => rfl) (.pure (pure_map fun _ => rfl) .nil)) (by decide) rfl rfl (.pure (pure_map fun _ => rfl) (.pure (pure_map fun _ => rfl) .nil)) ⟨.rfl, trivial⟩))
     ·intro b32 h2
      refine AW.skip (hK28 _ ?_)
      refine AW.regionO (by rfl) ?_
      iterate 2 refine zq tb rfl ?_
      obtain ⟨c34, gc34, h2⟩ := Sh.bind_some h2
      refine zz (.ptr 1 0 (Int.toNat (Sh.w (c24 - 1000))) 0) (aq_ixo ei26 rfl rfl rfl rfl gc34) rfl ?_
      refine zz (i64 c34) (aq_ldp ti3 rfl rfl (map_get gc34) rfl) rfl ?_
      refine zq tb rfl ?_
      refine zz (.ptr 1 0 (Int.toNat (Sh.w (c24 - 1000))) 0) (aq_ixo ei26 rfl rfl rfl rfl gc34) rfl ?_
      refine ao_stl (st' := [⟨0, 3, 1, List.map eI l21⟩, ⟨0, 3, 1, List.map eI (Sh.put l6 (Sh.w (c24 - 1000)) (Sh.w (c34 + 1)))⟩, ⟨0, 92, 6, [(eRFrame p0)]⟩]) (u' := Sh.w (c34 + 1)) go0 ti3 rfl rfl gc34 rfl rfl rfl (show 0 + 1 ≤ 1 by decide) rfl rfl ?_
      exact AO.done (M17 l21 (Sh.put l6 (Sh.w (c24 - 1000)) (Sh.w (c34 + 1))) (Sh.some_eq h2).symm _ (Wk.to (L := [(1, (.sl (List.map eCell p1))), (2, (.own 0 0 (List.length l21))), (3, (.own 1 0 (List.length (Sh.put l6 (Sh.w (c24 - 1000)) (Sh.w (c34 + 1)))))), (4, (.ptr 2 0 0 0)), (15, (.sl (List.map eI p0.own))), (16, (i64 (Sh.len p0.own))), (17, (i64 t4))]) ⟨.rfl, .rfl, (.len (by simp only [Sh.put_len])), .rfl, .rfl, .rfl, .rfl, trivial⟩))
    refine AW.regionO (by rfl) ?_
    iterate 3 refine zq tb rfl ?_
    rcases Sh.ite_some h3 with ⟨b35, h3⟩ | ⟨b35, h3⟩
    ·refine zs b35 rfl ?_
     iterate 3 refine zs b35 rfl ?_
     refine zt b35 rfl ?_
     refine zq tb rfl ?_
     iterate 6 refine zs rfl rfl ?_
     refine zt rfl rfl ?_
     exact AO.done (M31 true (Sh.some_eq h3).symm _ (Wk.tr rfl))
    ·refine zg tb b35 rfl ?_
     refine zg tb b35 rfl ?_
     refine ao_q (v := (i64 (Sh.len p1))) (go1 rfl rfl b35) rfl (aq_lens sl39 rfl) ?_
     refine zg tb b35 rfl ?_
     refine zf b35 rfl ?_
     refine zq tb rfl ?_
     rcases Sh.ite_some h3 with ⟨b36, h3⟩ | ⟨b36, h3⟩
     ·refine zs b36 rfl ?_
      iterate 5 refine zs b36 rfl ?_
      refine zt b36 rfl ?_
      exact AO.done (M31 true (Sh.some_eq h3).symm _ (Wk.tr rfl))
     ·refine zg tb b36 rfl ?_
      refine zg tb b36 rfl ?_
      obtain ⟨c37, gc37, h3⟩ := Sh.bind_some h3
      refine ao_q (v := (.iptr (eCell c37) 0)) (go1 rfl rfl b36) rfl (aq_ixs ei39 rfl rfl gc37 rfl) ?_
      iterate 3 refine zg tb b36 rfl ?_
      refine zf b36 rfl ?_
      exact AO.done (M31 (decide (0 ≤ c37.count)) (Sh.some_eq h3).symm _ (Wk.tr rfl))
   ·intro b25 h2
    have b38 : decide (c24 = 0) = true := by simpa using b25
    exact AW.skip (M17 l21 l6 (Sh.some_eq h2).symm _ (Wk.tr rfl))
  refine sr rfl fun K39 hK39 => ?_
  iterate 2 refine zq tb rfl ?_
  refine dn hK39 rfl ?_
  refine ci h3 rfl ?_ ?_ <;> clear h3
  ·intro b40 h3
   refine sr rfl fun K41 hK41 => ?_
   iterate 4 refine zq tb rfl ?_
   obtain ⟨c42, gc42, h3⟩ := Sh.bind_some h3
   refine zx ei26 gc42 rfl rfl rfl ?_
   refine zq tb rfl ?_
   obtain ⟨q43, gq43, h3⟩ := Sh.bind_some h3
   refine zc (v' := (.tup [(i64 q43.1), (.bool q43.2)])) hb77 (impl_liveAt_ok gq43) rfl rfl rfl ?_
   iterate 5 refine zq tb rfl ?_
   refine dn hK41 rfl ?_
   refine AW.seq fun K44 hK44 => ?_
   refine sr rfl fun K45 hK45 => ?_
   iterate 2 refine zq tb rfl ?_
   refine dn hK45 rfl ?_
   refine ci h3 rfl ?_ ?_ <;> clear h3
   ·intro b46 h3
    have b47 : q43.2 = false := by simpa using b46
    refine sr rfl fun K48 hK48 => ?_
    refine zq tb rfl ?_
    refine dn hK48 rfl ?_
    replace h3 := Sh.some_eq h3
    subst o22
    try dsimp only [id] at h2
    replace h2 := Sh.some_eq h2
    subst o17
    try dsimp only [id] at h1
    replace h1 := Sh.some_eq h1
    subst o9
    try dsimp only [id] at h0
    replace h0 := Sh.some_eq h0
    subst r
    exact AW.ret (xr (Wk.permk (L := [(8, (.bool false))]) (st' := [⟨0, 3, 1, List.map eI l5⟩, ⟨0, 3, 1, List.map eI l6⟩]) (st1 := [⟨0, 3, 1, List.map eI l5⟩, ⟨0, 3, 1, List.map eI l6⟩]) [0, 1] rfl (.pure (pure_map fun _ => rfl) (.pure (pure_map fun _ => rfl) .nil)) (by decide) rfl rfl (.pure (pure_map fun _ => rfl) (.pure (pure_map fun _ => rfl) .nil)) ⟨.rfl, trivial⟩))
   ·intro b46 h3
    have b49 : q43.2 = true := by simpa using b46
    refine AW.skip (hK44 _ ?_)
    refine AW.regionO (by rfl) ?_
    iterate 2 refine zq tb rfl ?_
    obtain ⟨c50, gc50, h3⟩ := Sh.bind_some h3
    refine zz (.ptr 0 0 (Int.toNat q43.1) 0) (aq_ixo ei26 rfl rfl rfl rfl gc50) rfl ?_
    refine zz (i64 c50) (aq_ldp ti3 rfl rfl (map_get gc50) rfl) rfl ?_
    iterate 2 refine zq tb rfl ?_
    refine zz (.ptr 0 0 (Int.toNat q43.1) 0) (aq_ixo ei26 rfl rfl rfl rfl gc50) rfl ?_
    refine ao_stl (st' := [⟨0, 3, 1, List.map eI (Sh.put l5 q43.1 (Sh.w (c50 + c19)))⟩, ⟨0, 3, 1, List.map eI l6⟩, ⟨0, 92, 6, [(eRFrame p0)]⟩]) (u' := Sh.w (c50 + c19)) go0 ti3 rfl rfl gc50 rfl rfl rfl (show 0 + 1 ≤ 1 by decide) rfl rfl ?_
    exact AO.done (M22 (Sh.put l5 q43.1 (Sh.w (c50 + c19))) (Sh.some_eq h3).symm _ (Wk.to (L := [(1, (.sl (List.map eCell p1))), (2, (.own 0 0 (List.length (Sh.put l5 q43.1 (Sh.w (c50 + c19)))))), (3, (.own 1 0 (List.length l6))), (4, (.ptr 2 0 0 0)), (9, (i64 t4)), (15, (.sl (List.map eI p0.own))), (16, (i64 (Sh.len p0.own))), (17, (i64 t4))]) ⟨.rfl, (.len (by simp only [Sh.put_len])), .rfl, .rfl, .rfl, .rfl, .rfl, .rfl, trivial⟩))
  ·intro b40 h3
   exact AW.skip (M22 l5 (Sh.some_eq h3).symm _ (Wk.tr rfl))
 ·intro b13 h1
  exact AW.exit (M9 l5 l6 (Sh.some_eq h1).symm _ (Wk.permk (L := []) (st' := [⟨0, 3, 1, List.map eI l5⟩, ⟨0, 3, 1, List.map eI l6⟩]) (st1 := [⟨0, 3, 1, List.map eI l5⟩, ⟨0, 3, 1, List.map eI l6⟩]) [0, 1] rfl (.pure (pure_map fun _ => rfl) (.pure (pure_map fun _ => rfl) .nil)) (by decide) rfl rfl (.pure (pure_map fun _ => rfl) (.pure (pure_map fun _ => rfl) .nil)) trivial))
end Go.Proofs.YtefefailnbbooaaGreat

