import Derived.Test.YtgcghdgbahfcjaaProg
import Derived.Test.YtgcghdgbahfcjaaRGDefs
import Derived.Test.YtgcghdgbahfcjaaAbsQ
namespace Go.Proofs.Ytgcghdgbahfcjaa
open Go Go.Abs RC
attribute [local irreducible] Go.Abs.dops
set_option maxRecDepth 100000
set_option maxHeartbeats 4000000

def tb : Tab Try.prog where
 t := [(108, false, 1), (126, true, 5), (132, true, 3), (141, true, 1), (143, true, 1), (145, true, 6), (22, false, 1), (23, false, 1), (25, true, 2), (27, false, 1), (29, false, 1), (3, false, 1), (30, false, 1), (32, true, 2), (4, false, 1), (53, false, 1), (55, true, 5), (63, true, 6), (79, false, 1), (81, true, 3), (83, false, 1), (85, true, 5), (87, false, 1), (89, true, 2), (92, false, 1), (94, true, 3), (97, false, 1), (99, true, 2)]
 f := [(126, 0, 0), (126, 1, 1), (132, 0, 0), (132, 1, 1), (132, 2, 2), (141, 0, 0), (143, 0, 0), (145, 0, 0), (145, 1, 1), (145, 2, 2), (145, 3, 3), (145, 4, 4), (145, 5, 5), (25, 0, 0), (25, 1, 1), (32, 0, 0), (32, 1, 1), (55, 0, 0), (55, 1, 1), (55, 2, 2), (55, 3, 3), (55, 4, 4), (63, 0, 0), (63, 1, 1), (63, 2, 2), (63, 3, 3), (63, 4, 4), (63, 5, 5), (81, 0, 0), (81, 1, 1), (81, 2, 2), (85, 0, 0), (85, 1, 1), (85, 2, 2), (85, 3, 3), (85, 4, 4), (89, 0, 0), (89, 1, 1), (94, 0, 0), (94, 1, 1), (94, 2, 2), (99, 0, 0), (99, 1, 1)]
 v := []
 b := []
 s := [22, 23, 27, 29, 30, 53, 61, 79, 83, 87, 92, 97]
 ht := by kernel_rfl
 hf := by kernel_rfl
 hv := by kernel_rfl
 hb := by kernel_rfl
 hs := by kernel_rfl

theorem ai126 : allInfo Try.prog 126 = true := by kernel_rfl
theorem ai89 : allInfo Try.prog 89 = true := by kernel_rfl
theorem bi126 : finfos Try.prog 126 = some [(0, 1), (1, 1), (2, 3)] := by kernel_rfl
theorem bi89 : finfos Try.prog 89 = some [(0, 1), (1, 1)] := by kernel_rfl
theorem ei22 : einfo Try.prog 22 = some ⟨81, 3, 40, [.int .i64 0, .int .i64 0, .sl []]⟩ := by kernel_rfl
theorem ei23 : einfo Try.prog 23 = some ⟨85, 5, 88, [.sl [], .sl [], .int .i64 0, .int .i64 0, .sl []]⟩ := by kernel_rfl
theorem ei27 : einfo Try.prog 27 = some ⟨3, 1, 8, [.int .i64 0]⟩ := by kernel_rfl
theorem ei29 : einfo Try.prog 29 = some ⟨94, 3, 40, [.int .i64 0, .int .i64 0, .sl []]⟩ := by kernel_rfl
theorem ei30 : einfo Try.prog 30 = some ⟨55, 5, 88, [.sl [], .sl [], .int .i64 0, .int .i64 0, .sl []]⟩ := by kernel_rfl
theorem ei53 : einfo Try.prog 53 = some ⟨63, 6, 80, [.int .i64 0, .int .i64 0, .int .i64 0, .int .i64 0, .sl [], .sl []]⟩ := by kernel_rfl
theorem ei79 : einfo Try.prog 79 = some ⟨143, 1, 24, [.sl []]⟩ := by kernel_rfl
theorem ei83 : einfo Try.prog 83 = some ⟨145, 6, 80, [.int .i64 0, .int .i64 0, .int .i64 0, .int .i64 0, .sl [], .sl []]⟩ := by kernel_rfl
theorem ei87 : einfo Try.prog 87 = some ⟨126, 5, 72, [.sl [], .int .i64 0, .int .i64 0, .int .i64 0, .sl []]⟩ := by kernel_rfl
theorem ei92 : einfo Try.prog 92 = some ⟨141, 1, 24, [.sl []]⟩ := by kernel_rfl
theorem hb100 : hasBody Try.prog 100 = true := by kernel_rfl
theorem hb110 : hasBody Try.prog 110 = true := by kernel_rfl
theorem hb22 : hasBody Try.prog 22 = true := by kernel_rfl
theorem hb23 : hasBody Try.prog 23 = true := by kernel_rfl
theorem hb25 : hasBody Try.prog 25 = true := by kernel_rfl
theorem hb28 : hasBody Try.prog 28 = true := by kernel_rfl
theorem hb29 : hasBody Try.prog 29 = true := by kernel_rfl
theorem hb30 : hasBody Try.prog 30 = true := by kernel_rfl
theorem hb49 : hasBody Try.prog 49 = true := by kernel_rfl
theorem hb50 : hasBody Try.prog 50 = true := by kernel_rfl
theorem hb51 : hasBody Try.prog 51 = true := by kernel_rfl
theorem hb52 : hasBody Try.prog 52 = true := by kernel_rfl
theorem hb53 : hasBody Try.prog 53 = true := by kernel_rfl
theorem hb54 : hasBody Try.prog 54 = true := by kernel_rfl
theorem hb55 : hasBody Try.prog 55 = true := by kernel_rfl
theorem hb63 : hasBody Try.prog 63 = true := by kernel_rfl
theorem hb71 : hasBody Try.prog 71 = true := by kernel_rfl
theorem hb72 : hasBody Try.prog 72 = true := by kernel_rfl
theorem hb73 : hasBody Try.prog 73 = true := by kernel_rfl
theorem hb74 : hasBody Try.prog 74 = true := by kernel_rfl
theorem hb75 : hasBody Try.prog 75 = true := by kernel_rfl
theorem hb76 : hasBody Try.prog 76 = true := by kernel_rfl
theorem hb77 : hasBody Try.prog 77 = true := by kernel_rfl
theorem hb78 : hasBody Try.prog 78 = true := by kernel_rfl
theorem hb79 : hasBody Try.prog 79 = true := by kernel_rfl
theorem hb80 : hasBody Try.prog 80 = true := by kernel_rfl
theorem hb89 : hasBody Try.prog 89 = true := by kernel_rfl
theorem hb91 : hasBody Try.prog 91 = true := by kernel_rfl
theorem hb92 : hasBody Try.prog 92 = true := by kernel_rfl
theorem hb93 : hasBody Try.prog 93 = true := by kernel_rfl
theorem hb94 : hasBody Try.prog 94 = true := by kernel_rfl
theorem hb95 : hasBody Try.prog 95 = true := by kernel_rfl
theorem hb96 : hasBody Try.prog 96 = true := by kernel_rfl
theorem hb97 : hasBody Try.prog 97 = true := by kernel_rfl
theorem hb98 : hasBody Try.prog 98 = true := by kernel_rfl
theorem hb99 : hasBody Try.prog 99 = true := by kernel_rfl
theorem sl27 : isSliceT Try.prog 27 = true := by kernel_rfl
theorem sl29 : isSliceT Try.prog 29 = true := by kernel_rfl
theorem sl53 : isSliceT Try.prog 53 = true := by kernel_rfl
theorem sl87 : isSliceT Try.prog 87 = true := by kernel_rfl
theorem ti126 : tinfo Try.prog 126 = some (true, 5) := by kernel_rfl
theorem ti141 : tinfo Try.prog 141 = some (true, 1) := by kernel_rfl
theorem ti27 : tinfo Try.prog 27 = some (false, 1) := by kernel_rfl
theorem ti29 : tinfo Try.prog 29 = some (false, 1) := by kernel_rfl
theorem ti3 : tinfo Try.prog 3 = some (false, 1) := by kernel_rfl
theorem ti30 : tinfo Try.prog 30 = some (false, 1) := by kernel_rfl
theorem ti32 : tinfo Try.prog 32 = some (true, 2) := by kernel_rfl
theorem ti53 : tinfo Try.prog 53 = some (false, 1) := by kernel_rfl
theorem ti55 : tinfo Try.prog 55 = some (true, 5) := by kernel_rfl
theorem ti63 : tinfo Try.prog 63 = some (true, 6) := by kernel_rfl
theorem ti87 : tinfo Try.prog 87 = some (false, 1) := by kernel_rfl
theorem ti89 : tinfo Try.prog 89 = some (true, 2) := by kernel_rfl
theorem ti92 : tinfo Try.prog 92 = some (false, 1) := by kernel_rfl
theorem ti94 : tinfo Try.prog 94 = some (true, 3) := by kernel_rfl
theorem zi126 : zinfo Try.prog 126 = some [.zc, .int .i64 0, .int .i64 0, .int .i64 0, .zc] := by kernel_rfl
theorem zi141 : zinfo Try.prog 141 = some [.zc] := by kernel_rfl
theorem zi32 : zinfo Try.prog 32 = some [.zc, .zc] := by kernel_rfl
theorem zi55 : zinfo Try.prog 55 = some [.zc, .zc, .int .i64 0, .int .i64 0, .zc] := by kernel_rfl
theorem zi63 : zinfo Try.prog 63 = some [.int .i64 0, .int .i64 0, .int .i64 0, .int .i64 0, .zc, .zc] := by kernel_rfl
theorem zi89 : zinfo Try.prog 89 = some [.zc, .zc] := by kernel_rfl
theorem zi94 : zinfo Try.prog 94 = some [.int .i64 0, .int .i64 0, .zc] := by kernel_rfl

theorem laws_szIntS_ok {p0 : (List Int)} {p1 : Int} {r : Int} (h0 : laws_szIntS p0 p1 = some r) : ACalls Try.prog 72 [(.sl (List.map eI p0)), (i64 p1)] [] (fun v st => v = (i64 r) ∧ st = []) := by
 unfold laws_szIntS at h0
 refine ACalls.intro Try.func72 rfl (by show 2 ≤ 12; decide) ?_
 show AW _ 0 _ (aret _ 0 Try.f72 _) ⟨12, _, _⟩
 refine AW.weaken (Wk.to (L := [(0, (.sl (List.map eI p0))), (1, (i64 p1))]) ⟨.rfl, .rfl, trivial⟩) ?_
 refine sr rfl fun K1 hK1 => ?_
 refine zq tb rfl ?_
 refine dn hK1 rfl ?_
 refine sr rfl fun K2 hK2 => ?_
 iterate 2 refine zq tb rfl ?_
 refine zl tb rfl rfl ?_
 iterate 2 refine zq tb rfl ?_
 refine dn hK2 rfl ?_
 refine AW.seq fun K3 hK3 => ?_
 refine sr rfl fun K4 hK4 => ?_
 iterate 2 refine zq tb rfl ?_
 refine dn hK4 rfl ?_
 refine ci h0 rfl ?_ ?_ <;> clear h0
 ·intro b5 h0
  refine sr rfl fun K6 hK6 => ?_
  refine zq tb rfl ?_
  refine dn hK6 rfl ?_
  replace h0 := Sh.some_eq h0
  subst r
  exact AW.ret (xr (Wk.to (L := [(4, (i64 (-1)))]) ⟨.rfl, trivial⟩))
 ·intro b5 h0
  refine AW.skip (hK3 _ ?_)
  refine sr rfl fun K7 hK7 => ?_
  iterate 2 refine zq tb rfl ?_
  refine dn hK7 rfl ?_
  replace h0 := Sh.some_eq h0
  subst r
  exact AW.ret (xr (Wk.to (L := [(4, (i64 (Sh.w (p1 - (Sh.len p0)))))]) ⟨.rfl, trivial⟩))
theorem laws_szCon_ok {p0 : RCon} {p1 : Int} {r : Int} (h0 : laws_szCon p0 p1 = some r) : ACalls Try.prog 91 [(.agg (eRCon p0)), (i64 p1)] [] (fun v st => v = (i64 r) ∧ st = []) := by
 unfold laws_szCon at h0
 refine ACalls.intro Try.func91 rfl (by show 2 ≤ 12; decide) ?_
 show AW _ 0 _ (aret _ 0 Try.f91 _) ⟨12, _, _⟩
 refine AW.weaken (Wk.to (L := [(0, (.agg (eRCon p0))), (1, (i64 p1))]) ⟨.rfl, .rfl, trivial⟩) ?_
 refine sr rfl fun K1 hK1 => ?_
 refine ao_box (m := 0) (st' := [⟨0, 143, 1, [(eRCon p0)]⟩]) go0 rfl rfl rfl rfl rfl ?_
 refine zq tb rfl ?_
 refine dn hK1 rfl ?_
 refine sr rfl fun K2 hK2 => ?_
 iterate 3 refine zq tb rfl ?_
 obtain ⟨q3, gq3, h0⟩ := Sh.bind_some h0
 refine zc hb72 (laws_szIntS_ok gq3) rfl rfl rfl ?_
 refine zq tb rfl ?_
 refine dn hK2 rfl ?_
 refine AW.seq fun K4 hK4 => ?_
 refine sr rfl fun K5 hK5 => ?_
 iterate 2 refine zq tb rfl ?_
 refine dn hK5 rfl ?_
 refine ci h0 rfl ?_ ?_ <;> clear h0
 ·intro b6 h0
  refine sr rfl fun K7 hK7 => ?_
  refine zq tb rfl ?_
  refine dn hK7 rfl ?_
  replace h0 := Sh.some_eq h0
  subst r
  exact AW.ret (xr (Wk.d0 [(4, (i64 (-1)))] rfl))
 ·intro b6 h0
  refine AW.skip (hK4 _ ?_)
  refine sr rfl fun K8 hK8 => ?_
  iterate 2 refine zq tb rfl ?_
  refine dn hK8 rfl ?_
  replace h0 := Sh.some_eq h0
  subst r
  exact AW.ret (xr (Wk.d0 [(4, (i64 q3))] rfl))
theorem laws_szConS_ok {N : Nat} {p0 : (List RCon)} {p1 : Int} {r : Int} (h0 : laws_szConS N p0 p1 = some r) : ACalls Try.prog 71 [(.sl (List.map eRCon p0)), (i64 p1)] [] (fun v st => v = (i64 r) ∧ st = []) := by
 unfold laws_szConS at h0
 refine ACalls.intro Try.func71 rfl (by show 2 ≤ 27; decide) ?_
 show AW _ 0 _ (aret _ 0 Try.f71 _) ⟨27, _, _⟩
 refine AW.weaken (Wk.to (L := [(0, (.sl (List.map eRCon p0))), (1, (i64 p1))]) ⟨.rfl, .rfl, trivial⟩) ?_
 refine sr rfl fun K1 hK1 => ?_
 refine zq tb rfl ?_
 refine dn hK1 rfl ?_
 refine sr rfl fun K2 hK2 => ?_
 iterate 2 refine zq tb rfl ?_
 refine zl tb rfl rfl ?_
 iterate 2 refine zq tb rfl ?_
 refine dn hK2 rfl ?_
 refine AW.seq fun K3 hK3 => ?_
 refine sr rfl fun K4 hK4 => ?_
 iterate 2 refine zq tb rfl ?_
 refine dn hK4 rfl ?_
 refine ci h0 rfl ?_ ?_ <;> clear h0
 ·intro b5 h0
  refine sr rfl fun K6 hK6 => ?_
  refine zq tb rfl ?_
  refine dn hK6 rfl ?_
  replace h0 := Sh.some_eq h0
  subst r
  exact AW.ret (xr (Wk.to (L := [(4, (i64 (-1)))]) ⟨.rfl, trivial⟩))
 ·intro b5 h0
  refine AW.skip (hK3 _ ?_)
  refine AW.seq fun K7 hK7 => ?_
  refine sr rfl fun K8 hK8 => ?_
  refine zq tb rfl ?_
  refine dn hK8 rfl ?_
  obtain ⟨o12, h1, h0⟩ := Sh.cont_some h0
  have M12 : ∀ (left11 : Int), o12 = Sum.inr left11 → ∀ s, Wk 0 s ⟨27, envL [(1, (i64 left11))], []⟩ → K7 s := by
   intro left11 hq s hw
   subst o12
   try dsimp only at h0
   refine hK7 _ (AW.weaken hw ?_)
   refine sr rfl fun K13 hK13 => ?_
   iterate 2 refine zq tb rfl ?_
   refine dn hK13 rfl ?_
   replace h0 := Sh.some_eq h0
   subst r
   exact AW.ret (xr (Wk.to (L := [(4, (i64 left11))]) ⟨.rfl, trivial⟩))
  refine AW.block (AW.loopF (σ := Int × Int) (fun n v => laws_szConS_L1 p0 n v.1 v.2 = some o12) (fun (left9, i10) => ⟨27, envL [(0, (.sl (List.map eRCon p0))), (1, (i64 left9)), (5, (i64 i10))], []⟩) N (Sh.w (p1 - (Sh.len p0)), 0) h1 (Wk.tr rfl) (fun _ hv => by rw [laws_szConS_L1] at hv; cases hv) ?_)
  rintro n ⟨left9, i10⟩ h1
  try dsimp only at h1 ⊢
  rw [laws_szConS_L1] at h1
  refine AW.seq fun K14 hK14 => ?_
  refine sr rfl fun K15 hK15 => ?_
  iterate 2 refine zq tb rfl ?_
  refine zl tb rfl rfl ?_
  refine zq tb rfl ?_
  refine dn hK15 rfl ?_
  refine ci h1 rfl ?_ ?_ <;> clear h1
  ·intro b16 h1
   refine AW.skip (hK14 _ ?_)
   refine AW.seq fun K17 hK17 => ?_
   refine AW.block ?_
   refine sr rfl fun K18 hK18 => ?_
   iterate 2 refine zq tb rfl ?_
   obtain ⟨c19, gc19, h1⟩ := Sh.bind_some h1
   refine zx ei79 gc19 rfl rfl rfl ?_
   iterate 2 refine zq tb rfl ?_
   obtain ⟨q20, gq20, h1⟩ := Sh.bind_some h1
   refine zc hb91 (laws_szCon_ok gq20) rfl rfl rfl ?_
   refine zq tb rfl ?_
   refine dn hK18 rfl ?_
   refine sr rfl fun K21 hK21 => ?_
   iterate 2 refine zq tb rfl ?_
   refine dn hK21 rfl ?_
   refine ci h1 rfl ?_ ?_ <;> clear h1
   ·intro b22 h1
    refine sr rfl fun K23 hK23 => ?_
    refine zq tb rfl ?_
    refine dn hK23 rfl ?_
    replace h1 := Sh.some_eq h1
    subst o12
    try dsimp only [id] at h0
    replace h0 := Sh.some_eq h0
    subst r
    exact AW.ret (xr (Wk.to (L := [(4, (i64 (-1)))]) ⟨.rfl, trivial⟩))
   ·intro b22 h1
    refine AW.skip (hK17 _ ?_)
    refine AW.regionO (by rfl) ?_
    iterate 3 refine zq tb rfl ?_
    exact AO.done (xi (q20, Sh.w (i10 + 1)) h1 (Wk.tr rfl))
  ·intro b16 h1
   exact AW.exit (M12 left9 (Sh.some_eq h1).symm _ (Wk.tr rfl))
theorem laws_szDecl_ok {N : Nat} {p0 : RDecl} {p1 : Int} {r : Int} (h0 : laws_szDecl N p0 p1 = some r) : ACalls Try.prog 49 [(.agg (eRDecl p0)), (i64 p1)] [] (fun v st => v = (i64 r) ∧ st = []) := by
 unfold laws_szDecl at h0
 refine ACalls.intro Try.func49 rfl (by show 2 ≤ 12; decide) ?_
 show AW _ 0 _ (aret _ 0 Try.f49 _) ⟨12, _, _⟩
 refine AW.weaken (Wk.to (L := [(0, (.agg (eRDecl p0))), (1, (i64 p1))]) ⟨.rfl, .rfl, trivial⟩) ?_
 refine sr rfl fun K1 hK1 => ?_
 refine ao_box (m := 0) (st' := [⟨0, 81, 3, [(eRDecl p0)]⟩]) go0 rfl rfl rfl rfl rfl ?_
 refine zq tb rfl ?_
 refine dn hK1 rfl ?_
 refine sr rfl fun K2 hK2 => ?_
 iterate 3 refine zq tb rfl ?_
 obtain ⟨q3, gq3, h0⟩ := Sh.bind_some h0
 refine zc hb71 (laws_szConS_ok gq3) rfl rfl rfl ?_
 refine zq tb rfl ?_
 refine dn hK2 rfl ?_
 refine AW.seq fun K4 hK4 => ?_
 refine sr rfl fun K5 hK5 => ?_
 iterate 2 refine zq tb rfl ?_
 refine dn hK5 rfl ?_
 refine ci h0 rfl ?_ ?_ <;> clear h0
 ·intro b6 h0
  refine sr rfl fun K7 hK7 => ?_
  refine zq tb rfl ?_
  refine dn hK7 rfl ?_
  replace h0 := Sh.some_eq h0
  subst r
  exact AW.ret (xr (Wk.d0 [(4, (i64 (-1)))] rfl))
 ·intro b6 h0
  refine AW.skip (hK4 _ ?_)
  refine sr rfl fun K8 hK8 => ?_
  iterate 2 refine zq tb rfl ?_
  refine dn hK8 rfl ?_
  replace h0 := Sh.some_eq h0
  subst r
  exact AW.ret (xr (Wk.d0 [(4, (i64 q3))] rfl))
theorem laws_szDeclS_ok {N : Nat} {p0 : (List RDecl)} {p1 : Int} {r : Int} (h0 : laws_szDeclS N p0 p1 = some r) : ACalls Try.prog 22 [(.sl (List.map eRDecl p0)), (i64 p1)] [] (fun v st => v = (i64 r) ∧ st = []) := by
 unfold laws_szDeclS at h0
 refine ACalls.intro Try.func22 rfl (by show 2 ≤ 27; decide) ?_
 show AW _ 0 _ (aret _ 0 Try.f22 _) ⟨27, _, _⟩
 refine AW.weaken (Wk.to (L := [(0, (.sl (List.map eRDecl p0))), (1, (i64 p1))]) ⟨.rfl, .rfl, trivial⟩) ?_
 refine sr rfl fun K1 hK1 => ?_
 refine zq tb rfl ?_
 refine dn hK1 rfl ?_
 refine sr rfl fun K2 hK2 => ?_
 iterate 2 refine zq tb rfl ?_
 refine zl tb rfl rfl ?_
 iterate 2 refine zq tb rfl ?_
 refine dn hK2 rfl ?_
 refine AW.seq fun K3 hK3 => ?_
 refine sr rfl fun K4 hK4 => ?_
 iterate 2 refine zq tb rfl ?_
 refine dn hK4 rfl ?_
 refine ci h0 rfl ?_ ?_ <;> clear h0
 ·intro b5 h0
  refine sr rfl fun K6 hK6 => ?_
  refine zq tb rfl ?_
  refine dn hK6 rfl ?_
  replace h0 := Sh.some_eq h0
  subst r
  exact AW.ret (xr (Wk.to (L := [(4, (i64 (-1)))]) ⟨.rfl, trivial⟩))
 ·intro b5 h0
  refine AW.skip (hK3 _ ?_)
  refine AW.seq fun K7 hK7 => ?_
  refine sr rfl fun K8 hK8 => ?_
  refine zq tb rfl ?_
  refine dn hK8 rfl ?_
  obtain ⟨o12, h1, h0⟩ := Sh.cont_some h0
  have M12 : ∀ (left11 : Int), o12 = Sum.inr left11 → ∀ s, Wk 0 s ⟨27, envL [(1, (i64 left11))], []⟩ → K7 s := by
   intro left11 hq s hw
   subst o12
   try dsimp only at h0
   refine hK7 _ (AW.weaken hw ?_)
   refine sr rfl fun K13 hK13 => ?_
   iterate 2 refine zq tb rfl ?_
   refine dn hK13 rfl ?_
   replace h0 := Sh.some_eq h0
   subst r
   exact AW.ret (xr (Wk.to (L := [(4, (i64 left11))]) ⟨.rfl, trivial⟩))
  refine AW.block (AW.loopF (σ := Int × Int) (fun n v => laws_szDeclS_L1 N p0 n v.1 v.2 = some o12) (fun (left9, i10) => ⟨27, envL [(0, (.sl (List.map eRDecl p0))), (1, (i64 left9)), (5, (i64 i10))], []⟩) N (Sh.w (p1 - (Sh.len p0)), 0) h1 (Wk.tr rfl) (fun _ hv => by rw [laws_szDeclS_L1] at hv; cases hv) ?_)
  rintro n ⟨left9, i10⟩ h1
  try dsimp only at h1 ⊢
  rw [laws_szDeclS_L1] at h1
  refine AW.seq fun K14 hK14 => ?_
  refine sr rfl fun K15 hK15 => ?_
  iterate 2 refine zq tb rfl ?_
  refine zl tb rfl rfl ?_
  refine zq tb rfl ?_
  refine dn hK15 rfl ?_
  refine ci h1 rfl ?_ ?_ <;> clear h1
  ·intro b16 h1
   refine AW.skip (hK14 _ ?_)
   refine AW.seq fun K17 hK17 => ?_
   refine AW.block ?_
   refine sr rfl fun K18 hK18 => ?_
   iterate 2 refine zq tb rfl ?_
   obtain ⟨c19, gc19, h1⟩ := Sh.bind_some h1
   refine zx ei22 gc19 rfl rfl rfl ?_
   iterate 2 refine zq tb rfl ?_
   obtain ⟨q20, gq20, h1⟩ := Sh.bind_some h1
   refine zc hb49 (laws_szDecl_ok gq20) rfl rfl rfl ?_
   refine zq tb rfl ?_
   refine dn hK18 rfl ?_
   refine sr rfl fun K21 hK21 => ?_
   iterate 2 refine zq tb rfl ?_
   refine dn hK21 rfl ?_
   refine ci h1 rfl ?_ ?_ <;> clear h1
   ·intro b22 h1
    refine sr rfl fun K23 hK23 => ?_
    refine zq tb rfl ?_
    refine dn hK23 rfl ?_
    replace h1 := Sh.some_eq h1
    subst o12
    try dsimp only [id] at h0
    replace h0 := Sh.some_eq h0
    subst r
    exact AW.ret (xr (Wk.to (L := [(4, (i64 (-1)))]) ⟨.rfl, trivial⟩))
   ·intro b22 h1
    refine AW.skip (hK17 _ ?_)
    refine AW.regionO (by rfl) ?_
    iterate 3 refine zq tb rfl ?_
    exact AO.done (xi (q20, Sh.w (i10 + 1)) h1 (Wk.tr rfl))
  ·intro b16 h1
   exact AW.exit (M12 left9 (Sh.some_eq h1).symm _ (Wk.tr rfl))
theorem laws_szInstr_ok {p0 : RInstr} {p1 : Int} {r : Int} (h0 : laws_szInstr p0 p1 = some r) : ACalls Try.prog 92 [(.agg (eRInstr p0)), (i64 p1)] [] (fun v st => v = (i64 r) ∧ st = []) := by
 unfold laws_szInstr at h0
 refine ACalls.intro Try.func92 rfl (by show 2 ≤ 18; decide) ?_
 show AW _ 0 _ (aret _ 0 Try.f92 _) ⟨18, _, _⟩
 refine AW.weaken (Wk.to (L := [(0, (.agg (eRInstr p0))), (1, (i64 p1))]) ⟨.rfl, .rfl, trivial⟩) ?_
 refine sr rfl fun K1 hK1 => ?_
 refine ao_box (m := 0) (st' := [⟨0, 145, 6, [(eRInstr p0)]⟩]) go0 rfl rfl rfl rfl rfl ?_
 refine zq tb rfl ?_
 refine dn hK1 rfl ?_
 refine sr rfl fun K2 hK2 => ?_
 iterate 3 refine zq tb rfl ?_
 obtain ⟨q3, gq3, h0⟩ := Sh.bind_some h0
 refine zc hb72 (laws_szIntS_ok gq3) rfl rfl rfl ?_
 refine zq tb rfl ?_
 refine dn hK2 rfl ?_
 refine AW.seq fun K4 hK4 => ?_
 refine sr rfl fun K5 hK5 => ?_
 iterate 2 refine zq tb rfl ?_
 refine dn hK5 rfl ?_
 refine ci h0 rfl ?_ ?_ <;> clear h0
 ·intro b6 h0
  refine sr rfl fun K7 hK7 => ?_
  refine zq tb rfl ?_
  refine dn hK7 rfl ?_
  replace h0 := Sh.some_eq h0
  subst r
  exact AW.ret (xr (Wk.d0 [(4, (i64 (-1)))] rfl))
 ·intro b6 h0
  refine AW.skip (hK4 _ ?_)
  refine sr rfl fun K8 hK8 => ?_
  iterate 3 refine zq tb rfl ?_
  obtain ⟨q9, gq9, h0⟩ := Sh.bind_some h0
  refine zc hb72 (laws_szIntS_ok gq9) rfl rfl rfl ?_
  refine zq tb rfl ?_
  refine dn hK8 rfl ?_
  refine AW.seq fun K10 hK10 => ?_
  refine sr rfl fun K11 hK11 => ?_
  iterate 2 refine zq tb rfl ?_
  refine dn hK11 rfl ?_
  refine ci h0 rfl ?_ ?_ <;> clear h0
  ·intro b12 h0
   refine sr rfl fun K13 hK13 => ?_
   refine zq tb rfl ?_
   refine dn hK13 rfl ?_
   replace h0 := Sh.some_eq h0
   subst r
   exact AW.ret (xr (Wk.d0 [(4, (i64 (-1)))] rfl))
  ·intro b12 h0
   refine AW.skip (hK10 _ ?_)
   refine sr rfl fun K14 hK14 => ?_
   iterate 2 refine zq tb rfl ?_
   refine dn hK14 rfl ?_
   replace h0 := Sh.some_eq h0
   subst r
   exact AW.ret (xr (Wk.d0 [(4, (i64 q9))] rfl))
theorem laws_szInstrS_ok {N : Nat} {p0 : (List RInstr)} {p1 : Int} {r : Int} (h0 : laws_szInstrS N p0 p1 = some r) : ACalls Try.prog 73 [(.sl (List.map eRInstr p0)), (i64 p1)] [] (fun v st => v = (i64 r) ∧ st = []) := by
 unfold laws_szInstrS at h0
 refine ACalls.intro Try.func73 rfl (by show 2 ≤ 27; decide) ?_
 show AW _ 0 _ (aret _ 0 Try.f73 _) ⟨27, _, _⟩
 refine AW.weaken (Wk.to (L := [(0, (.sl (List.map eRInstr p0))), (1, (i64 p1))]) ⟨.rfl, .rfl, trivial⟩) ?_
 refine sr rfl fun K1 hK1 => ?_
 refine zq tb rfl ?_
 refine dn hK1 rfl ?_
 refine sr rfl fun K2 hK2 => ?_
 iterate 2 refine zq tb rfl ?_
 refine zl tb rfl rfl ?_
 iterate 2 refine zq tb rfl ?_
 refine dn hK2 rfl ?_
 refine AW.seq fun K3 hK3 => ?_
 refine sr rfl fun K4 hK4 => ?_
 iterate 2 refine zq tb rfl ?_
 refine dn hK4 rfl ?_
 refine ci h0 rfl ?_ ?_ <;> clear h0
 ·intro b5 h0
  refine sr rfl fun K6 hK6 => ?_
  refine zq tb rfl ?_
  refine dn hK6 rfl ?_
  replace h0 := Sh.some_eq h0
  subst r
  exact AW.ret (xr (Wk.to (L := [(4, (i64 (-1)))]) ⟨.rfl, trivial⟩))
 ·intro b5 h0
  refine AW.skip (hK3 _ ?_)
  refine AW.seq fun K7 hK7 => ?_
  refine sr rfl fun K8 hK8 => ?_
  refine zq tb rfl ?_
  refine dn hK8 rfl ?_
  obtain ⟨o12, h1, h0⟩ := Sh.cont_some h0
  have M12 : ∀ (left11 : Int), o12 = Sum.inr left11 → ∀ s, Wk 0 s ⟨27, envL [(1, (i64 left11))], []⟩ → K7 s := by
   intro left11 hq s hw
   subst o12
   try dsimp only at h0
   refine hK7 _ (AW.weaken hw ?_)
   refine sr rfl fun K13 hK13 => ?_
   iterate 2 refine zq tb rfl ?_
   refine dn hK13 rfl ?_
   replace h0 := Sh.some_eq h0
   subst r
   exact AW.ret (xr (Wk.to (L := [(4, (i64 left11))]) ⟨.rfl, trivial⟩))
  refine AW.block (AW.loopF (σ := Int × Int) (fun n v => laws_szInstrS_L1 p0 n v.1 v.2 = some o12) (fun (left9, i10) => ⟨27, envL [(0, (.sl (List.map eRInstr p0))), (1, (i64 left9)), (5, (i64 i10))], []⟩) N (Sh.w (p1 - (Sh.len p0)), 0) h1 (Wk.tr rfl) (fun _ hv => by rw [laws_szInstrS_L1] at hv; cases hv) ?_)
  rintro n ⟨left9, i10⟩ h1
  try dsimp only at h1 ⊢
  rw [laws_szInstrS_L1] at h1
  refine AW.seq fun K14 hK14 => ?_
  refine sr rfl fun K15 hK15 => ?_
  iterate 2 refine zq tb rfl ?_
  refine zl tb rfl rfl ?_
  refine zq tb rfl ?_
  refine dn hK15 rfl ?_
  refine ci h1 rfl ?_ ?_ <;> clear h1
  ·intro b16 h1
   refine AW.skip (hK14 _ ?_)
   refine AW.seq fun K17 hK17 => ?_
   refine AW.block ?_
   refine sr rfl fun K18 hK18 => ?_
   iterate 2 refine zq tb rfl ?_
   obtain ⟨c19, gc19, h1⟩ := Sh.bind_some h1
   refine zx ei83 gc19 rfl rfl rfl ?_
   iterate 2 refine zq tb rfl ?_
   obtain ⟨q20, gq20, h1⟩ := Sh.bind_some h1
   refine zc hb92 (laws_szInstr_ok gq20) rfl rfl rfl ?_
   refine zq tb rfl ?_
   refine dn hK18 rfl ?_
   refine sr rfl fun K21 hK21 => ?_
   iterate 2 refine zq tb rfl ?_
   refine dn hK21 rfl ?_
   refine ci h1 rfl ?_ ?_ <;> clear h1
   ·intro b22 h1
    refine sr rfl fun K23 hK23 => ?_
    refine zq tb rfl ?_
    refine dn hK23 rfl ?_
    replace h1 := Sh.some_eq h1
    subst o12
    try dsimp only [id] at h0
    replace h0 := Sh.some_eq h0
    subst r
    exact AW.ret (xr (Wk.to (L := [(4, (i64 (-1)))]) ⟨.rfl, trivial⟩))
   ·intro b22 h1
    refine AW.skip (hK17 _ ?_)
    refine AW.regionO (by rfl) ?_
    iterate 3 refine zq tb rfl ?_
    exact AO.done (xi (q20, Sh.w (i10 + 1)) h1 (Wk.tr rfl))
  ·intro b16 h1
   exact AW.exit (M12 left9 (Sh.some_eq h1).symm _ (Wk.tr rfl))
theorem laws_szProc_ok {N : Nat} {p0 : RProc} {p1 : Int} {r : Int} (h0 : laws_szProc N p0 p1 = some r) : ACalls Try.prog 50 [(.agg (eRProc p0)), (i64 p1)] [] (fun v st => v = (i64 r) ∧ st = []) := by
 unfold laws_szProc at h0
 refine ACalls.intro Try.func50 rfl (by show 2 ≤ 24; decide) ?_
 show AW _ 0 _ (aret _ 0 Try.f50 _) ⟨24, _, _⟩
 refine AW.weaken (Wk.to (L := [(0, (.agg (eRProc p0))), (1, (i64 p1))]) ⟨.rfl, .rfl, trivial⟩) ?_
 refine sr rfl fun K1 hK1 => ?_
 refine ao_box (m := 0) (st' := [⟨0, 85, 5, [(eRProc p0)]⟩]) go0 rfl rfl rfl rfl rfl ?_
 refine zq tb rfl ?_
 refine dn hK1 rfl ?_
 refine sr rfl fun K2 hK2 => ?_
 iterate 3 refine zq tb rfl ?_
 obtain ⟨q3, gq3, h0⟩ := Sh.bind_some h0
 refine zc hb72 (laws_szIntS_ok gq3) rfl rfl rfl ?_
 refine zq tb rfl ?_
 refine dn hK2 rfl ?_
 refine AW.seq fun K4 hK4 => ?_
 refine sr rfl fun K5 hK5 => ?_
 iterate 2 refine zq tb rfl ?_
 refine dn hK5 rfl ?_
 refine ci h0 rfl ?_ ?_ <;> clear h0
 ·intro b6 h0
  refine sr rfl fun K7 hK7 => ?_
  refine zq tb rfl ?_
  refine dn hK7 rfl ?_
  replace h0 := Sh.some_eq h0
  subst r
  exact AW.ret (xr (Wk.d0 [(4, (i64 (-1)))] rfl))
 ·intro b6 h0
  refine AW.skip (hK4 _ ?_)
  refine sr rfl fun K8 hK8 => ?_
  iterate 3 refine zq tb rfl ?_
  obtain ⟨q9, gq9, h0⟩ := Sh.bind_some h0
  refine zc hb72 (laws_szIntS_ok gq9) rfl rfl rfl ?_
  refine zq tb rfl ?_
  refine dn hK8 rfl ?_
  refine AW.seq fun K10 hK10 => ?_
  refine sr rfl fun K11 hK11 => ?_
  iterate 2 refine zq tb rfl ?_
  refine dn hK11 rfl ?_
  refine ci h0 rfl ?_ ?_ <;> clear h0
  ·intro b12 h0
   refine sr rfl fun K13 hK13 => ?_
   refine zq tb rfl ?_
   refine dn hK13 rfl ?_
   replace h0 := Sh.some_eq h0
   subst r
   exact AW.ret (xr (Wk.d0 [(4, (i64 (-1)))] rfl))
  ·intro b12 h0
   refine AW.skip (hK10 _ ?_)
   refine sr rfl fun K14 hK14 => ?_
   iterate 3 refine zq tb rfl ?_
   obtain ⟨q15, gq15, h0⟩ := Sh.bind_some h0
   refine zc hb73 (laws_szInstrS_ok gq15) rfl rfl rfl ?_
   refine zq tb rfl ?_
   refine dn hK14 rfl ?_
   refine AW.seq fun K16 hK16 => ?_
   refine sr rfl fun K17 hK17 => ?_
   iterate 2 refine zq tb rfl ?_
   refine dn hK17 rfl ?_
   refine ci h0 rfl ?_ ?_ <;> clear h0
   ·intro b18 h0
    refine sr rfl fun K19 hK19 => ?_
    refine zq tb rfl ?_
    refine dn hK19 rfl ?_
    replace h0 := Sh.some_eq h0
    subst r
    exact AW.ret (xr (Wk.d0 [(4, (i64 (-1)))] rfl))
   ·intro b18 h0
    refine AW.skip (hK16 _ ?_)
    refine sr rfl fun K20 hK20 => ?_
    iterate 2 refine zq tb rfl ?_
    refine dn hK20 rfl ?_
    replace h0 := Sh.some_eq h0
    subst r
    exact AW.ret (xr (Wk.d0 [(4, (i64 q15))] rfl))
theorem laws_szProcS_ok {N : Nat} {p0 : (List RProc)} {p1 : Int} {r : Int} (h0 : laws_szProcS N p0 p1 = some r) : ACalls Try.prog 23 [(.sl (List.map eRProc p0)), (i64 p1)] [] (fun v st => v = (i64 r) ∧ st = []) := by
 unfold laws_szProcS at h0
 refine ACalls.intro Try.func23 rfl (by show 2 ≤ 27; decide) ?_
 show AW _ 0 _ (aret _ 0 Try.f23 _) ⟨27, _, _⟩
 refine AW.weaken (Wk.to (L := [(0, (.sl (List.map eRProc p0))), (1, (i64 p1))]) ⟨.rfl, .rfl, trivial⟩) ?_
 refine sr rfl fun K1 hK1 => ?_
 refine zq tb rfl ?_
 refine dn hK1 rfl ?_
 refine sr rfl fun K2 hK2 => ?_
 iterate 2 refine zq tb rfl ?_
 refine zl tb rfl rfl ?_
 iterate 2 refine zq tb rfl ?_
 refine dn hK2 rfl ?_
 refine AW.seq fun K3 hK3 => ?_
 refine sr rfl fun K4 hK4 => ?_
 iterate 2 refine zq tb rfl ?_
 refine dn hK4 rfl ?_
 refine ci h0 rfl ?_ ?_ <;> clear h0
 ·intro b5 h0
  refine sr rfl fun K6 hK6 => ?_
  refine zq tb rfl ?_
  refine dn hK6 rfl ?_
  replace h0 := Sh.some_eq h0
  subst r
  exact AW.ret (xr (Wk.to (L := [(4, (i64 (-1)))]) ⟨.rfl, trivial⟩))
 ·intro b5 h0
  refine AW.skip (hK3 _ ?_)
  refine AW.seq fun K7 hK7 => ?_
  refine sr rfl fun K8 hK8 => ?_
  refine zq tb rfl ?_
  refine dn hK8 rfl ?_
  obtain ⟨o12, h1, h0⟩ := Sh.cont_some h0
  have M12 : ∀ (left11 : Int), o12 = Sum.inr left11 → ∀ s, Wk 0 s ⟨27, envL [(1, (i64 left11))], []⟩ → K7 s := by
   intro left11 hq s hw
   subst o12
   try dsimp only at h0
   refine hK7 _ (AW.weaken hw ?_)
   refine sr rfl fun K13 hK13 => ?_
   iterate 2 refine zq tb rfl ?_
   refine dn hK13 rfl ?_
   replace h0 := Sh.some_eq h0
   subst r
   exact AW.ret (xr (Wk.to (L := [(4, (i64 left11))]) ⟨.rfl, trivial⟩))
  refine AW.block (AW.loopF (σ := Int × Int) (fun n v => laws_szProcS_L1 N p0 n v.1 v.2 = some o12) (fun (left9, i10) => ⟨27, envL [(0, (.sl (List.map eRProc p0))), (1, (i64 left9)), (5, (i64 i10))], []⟩) N (Sh.w (p1 - (Sh.len p0)), 0) h1 (Wk.tr rfl) (fun _ hv => by rw [laws_szProcS_L1] at hv; cases hv) ?_)
  rintro n ⟨left9, i10⟩ h1
  try dsimp only at h1 ⊢
  rw [laws_szProcS_L1] at h1
  refine AW.seq fun K14 hK14 => ?_
  refine sr rfl fun K15 hK15 => ?_
  iterate 2 refine zq tb rfl ?_
  refine zl tb rfl rfl ?_
  refine zq tb rfl ?_
  refine dn hK15 rfl ?_
  refine ci h1 rfl ?_ ?_ <;> clear h1
  ·intro b16 h1
   refine AW.skip (hK14 _ ?_)
   refine AW.seq fun K17 hK17 => ?_
   refine AW.block ?_
   refine sr rfl fun K18 hK18 => ?_
   iterate 2 refine zq tb rfl ?_
   obtain ⟨c19, gc19, h1⟩ := Sh.bind_some h1
   refine zx ei23 gc19 rfl rfl rfl ?_
   iterate 2 refine zq tb rfl ?_
   obtain ⟨q20, gq20, h1⟩ := Sh.bind_some h1
   refine zc hb50 (laws_szProc_ok gq20) rfl rfl rfl ?_
   refine zq tb rfl ?_
   refine dn hK18 rfl ?_
   refine sr rfl fun K21 hK21 => ?_
   iterate 2 refine zq tb rfl ?_
   refine dn hK21 rfl ?_
   refine ci h1 rfl ?_ ?_ <;> clear h1
   ·intro b22 h1
    refine sr rfl fun K23 hK23 => ?_
    refine zq tb rfl ?_
    refine dn hK23 rfl ?_
    replace h1 := Sh.some_eq h1
    subst o12
    try dsimp only [id] at h0
    replace h0 := Sh.some_eq h0
    subst r
    exact AW.ret (xr (Wk.to (L := [(4, (i64 (-1)))]) ⟨.rfl, trivial⟩))
   ·intro b22 h1
    refine AW.skip (hK17 _ ?_)
    refine AW.regionO (by rfl) ?_
    iterate 3 refine zq tb rfl ?_
    exact AO.done (xi (q20, Sh.w (i10 + 1)) h1 (Wk.tr rfl))
  ·intro b16 h1
   exact AW.exit (M12 left9 (Sh.some_eq h1).symm _ (Wk.tr rfl))
theorem laws_szImage_ok {N : Nat} {p0 : RImage} {p1 : Int} {r : Int} (h0 : laws_szImage N p0 p1 = some r) : ACalls Try.prog 6 [(.agg (eRImage p0)), (i64 p1)] [] (fun v st => v = (i64 r) ∧ st = []) := by
 unfold laws_szImage at h0
 refine ACalls.intro Try.func6 rfl (by show 2 ≤ 18; decide) ?_
 show AW _ 0 _ (aret _ 0 Try.f6 _) ⟨18, _, _⟩
 refine AW.weaken (Wk.to (L := [(0, (.agg (eRImage p0))), (1, (i64 p1))]) ⟨.rfl, .rfl, trivial⟩) ?_
 refine sr rfl fun K1 hK1 => ?_
 refine ao_box (m := 0) (st' := [⟨0, 25, 2, [(eRImage p0)]⟩]) go0 rfl rfl rfl rfl rfl ?_
 refine zq tb rfl ?_
 refine dn hK1 rfl ?_
 refine sr rfl fun K2 hK2 => ?_
 iterate 3 refine zq tb rfl ?_
 obtain ⟨q3, gq3, h0⟩ := Sh.bind_some h0
 refine zc hb22 (laws_szDeclS_ok gq3) rfl rfl rfl ?_
 refine zq tb rfl ?_
 refine dn hK2 rfl ?_
 refine AW.seq fun K4 hK4 => ?_
 refine sr rfl fun K5 hK5 => ?_
 iterate 2 refine zq tb rfl ?_
 refine dn hK5 rfl ?_
 refine ci h0 rfl ?_ ?_ <;> clear h0
 ·intro b6 h0
  refine sr rfl fun K7 hK7 => ?_
  refine zq tb rfl ?_
  refine dn hK7 rfl ?_
  replace h0 := Sh.some_eq h0
  subst r
  exact AW.ret (xr (Wk.d0 [(4, (i64 (-1)))] rfl))
 ·intro b6 h0
  refine AW.skip (hK4 _ ?_)
  refine sr rfl fun K8 hK8 => ?_
  iterate 3 refine zq tb rfl ?_
  obtain ⟨q9, gq9, h0⟩ := Sh.bind_some h0
  refine zc hb23 (laws_szProcS_ok gq9) rfl rfl rfl ?_
  refine zq tb rfl ?_
  refine dn hK8 rfl ?_
  refine AW.seq fun K10 hK10 => ?_
  refine sr rfl fun K11 hK11 => ?_
  iterate 2 refine zq tb rfl ?_
  refine dn hK11 rfl ?_
  refine ci h0 rfl ?_ ?_ <;> clear h0
  ·intro b12 h0
   refine sr rfl fun K13 hK13 => ?_
   refine zq tb rfl ?_
   refine dn hK13 rfl ?_
   replace h0 := Sh.some_eq h0
   subst r
   exact AW.ret (xr (Wk.d0 [(4, (i64 (-1)))] rfl))
  ·intro b12 h0
   refine AW.skip (hK10 _ ?_)
   refine sr rfl fun K14 hK14 => ?_
   iterate 2 refine zq tb rfl ?_
   refine dn hK14 rfl ?_
   replace h0 := Sh.some_eq h0
   subst r
   exact AW.ret (xr (Wk.d0 [(4, (i64 q9))] rfl))
theorem laws_toIntS_ok {N : Nat} {p0 : (List Int)} {r : (List Int)} (h0 : laws_toIntS N p0 = some r) : ACalls Try.prog 79 [(.sl (List.map eI p0))] [] (fun v st => v = (.own 0 0 (List.length r)) ∧ st = [⟨0, 3, 1, List.map eI r⟩]) := by
 unfold laws_toIntS at h0
 refine ACalls.intro Try.func79 rfl (by show 1 ≤ 22; decide) ?_
 show AW _ 0 _ (aret _ 0 Try.f79 _) ⟨22, _, _⟩
 refine AW.weaken (Wk.to (L := [(0, (.sl (List.map eI p0)))]) ⟨.rfl, trivial⟩) ?_
 refine sr rfl fun K1 hK1 => ?_
 refine zq tb rfl ?_
 refine dn hK1 rfl ?_
 refine sr rfl fun K2 hK2 => ?_
 refine zq tb rfl ?_
 refine zl tb rfl rfl ?_
 obtain ⟨l3, gl3, h0⟩ := Sh.bind_some h0
 refine ao_make (m := 0) (st' := [⟨0, 3, 1, List.map eI l3⟩]) (enc := eI) (u := 0) go0 ei27 rfl rfl rfl gl3 rfl rfl ?_
 refine zq tb rfl ?_
 refine dn hK2 rfl ?_
 refine AW.seq fun K4 hK4 => ?_
 refine sr rfl fun K5 hK5 => ?_
 refine zq tb rfl ?_
 refine dn hK5 rfl ?_
 obtain ⟨o9, h1, h0⟩ := Sh.bind_some h0
 have M9 : ∀ (l8 : (List Int)), o9 = l8 → ∀ s, Wk 0 s ⟨22, envL [(3, (.own 0 0 (List.length l8)))], [⟨0, 3, 1, List.map eI l8⟩]⟩ → K4 s := by
  intro l8 hq s hw
  subst o9
  try dsimp only at h0
  refine hK4 _ (AW.weaken hw ?_)
  refine sr rfl fun K10 hK10 => ?_
  iterate 2 refine zq tb rfl ?_
  refine dn hK10 rfl ?_
  replace h0 := Sh.some_eq h0
  subst r
  exact AW.ret (xr (Wk.to (L := [(2, (.own 0 0 (List.length l8)))]) ⟨.rfl, trivial⟩))
 refine AW.block (AW.loopF (σ := Int × (List Int)) (fun n v => laws_toIntS_L1 p0 n v.1 v.2 = some o9) (fun (i6, l7) => ⟨22, envL [(0, (.sl (List.map eI p0))), (3, (.own 0 0 (List.length l7))), (4, (i64 i6))], [⟨0, 3, 1, List.map eI l7⟩]⟩) N (0, l3) h1 (Wk.tr rfl) (fun _ hv => by rw [laws_toIntS_L1] at hv; cases hv) ?_)
 rintro n ⟨i6, l7⟩ h1
 try dsimp only at h1 ⊢
 rw [laws_toIntS_L1] at h1
 refine AW.seq fun K11 hK11 => ?_
 refine sr rfl fun K12 hK12 => ?_
 iterate 2 refine zq tb rfl ?_
 refine zl tb rfl rfl ?_
 refine zq tb rfl ?_
 refine dn hK12 rfl ?_
 refine ci h1 rfl ?_ ?_ <;> clear h1
 ·intro b13 h1
  refine AW.skip (hK11 _ ?_)
  refine AW.seq fun K14 hK14 => ?_
  refine AW.block ?_
  refine AW.regionO (by rfl) ?_
  iterate 4 refine zq tb rfl ?_
  obtain ⟨c15, gc15, h1⟩ := Sh.bind_some h1
  refine zx ei27 gc15 rfl rfl rfl ?_
  refine zq tb rfl ?_
  obtain ⟨c16, gc16, h1⟩ := Sh.bind_some h1
  refine zz (.ptr 0 0 (Int.toNat i6) 0) (aq_ixo ei27 rfl rfl rfl rfl gc16) rfl ?_
  refine ao_stl (st' := [⟨0, 3, 1, List.map eI (Sh.put l7 i6 c15)⟩]) (u' := c15) go0 ti3 rfl rfl gc16 rfl rfl rfl (show 0 + 1 ≤ 1 by decide) rfl rfl ?_
  refine dn hK14 rfl ?_
  refine AW.regionO (by rfl) ?_
  iterate 3 refine zq tb rfl ?_
  exact AO.done (xi (Sh.w (i6 + 1), Sh.put l7 i6 c15) h1 (Wk.to (L := [(0, (.sl (List.map eI p0))), (3, (.own 0 0 (List.length (Sh.put l7 i6 c15)))), (4, (i64 (Sh.w (i6 + 1))))]) ⟨.rfl, (.len (by simp only [Sh.put_len])), .rfl, trivial⟩))
 ·intro b13 h1
  exact AW.exit (M9 l7 (Sh.some_eq h1).symm _ (Wk.tr rfl))
theorem laws_toCon_ok {N : Nat} {p0 : RCon} {r : RCon} (h0 : laws_toCon N p0 = some r) : ACalls Try.prog 99 [(.agg (eRCon p0))] [] (fun v st => v = (.agg (eRCon r)) ∧ st = []) := by
 unfold laws_toCon at h0
 refine ACalls.flat rfl ?_
 refine ACalls.intro Try.func99 rfl (by show 1 ≤ 9; decide) ?_
 show AW _ 0 _ (aret _ 0 Try.f99 _) ⟨9, _, _⟩
 refine AW.weaken (Wk.to (L := [(0, (.agg (eRCon p0)))]) ⟨.rfl, trivial⟩) ?_
 refine sr rfl fun K1 hK1 => ?_
 refine ao_box (m := 0) (st' := [⟨0, 143, 1, [(eRCon p0)]⟩]) go0 rfl rfl rfl rfl rfl ?_
 refine ao_alloc (m := 1) (st' := [⟨0, 143, 1, [(eRCon p0)]⟩, ⟨0, 141, 1, [[.zc]]⟩]) go0 zi141 rfl rfl ?_
 refine dn hK1 rfl ?_
 refine sr rfl fun K2 hK2 => ?_
 refine ao_alloc (m := 2) (st' := [⟨0, 143, 1, [(eRCon p0)]⟩, ⟨0, 141, 1, [[.zc]]⟩, ⟨0, 141, 1, [[.zc]]⟩]) go0 zi141 rfl rfl ?_
 refine dn hK2 rfl ?_
 refine sr rfl fun K3 hK3 => ?_
 iterate 2 refine zq tb rfl ?_
 obtain ⟨q4, gq4, h0⟩ := Sh.bind_some h0
 refine ao_call (v' := (.own 3 0 (List.length q4))) (st' := [⟨0, 143, 1, [(eRCon p0)]⟩, ⟨0, 141, 1, [[.zc]]⟩, ⟨0, 141, 1, [[.zc]]⟩, ⟨0, 3, 1, List.map eI q4⟩]) go0 hb79 (laws_toIntS_ok gq4) rfl rfl ⟨(pure_map' fun _ => rfl), trivial⟩ rfl rfl ?_
 refine zq tb rfl ?_
 refine AO.weaken (Wk.frz (L := [(2, (.ptr 1 0 0 0)), (3, (.ptr 2 0 0 0)), (6, (.sl (List.map eI q4))), (7, (.ptr 2 0 0 0))]) (st' := [⟨0, 143, 1, [(eRCon p0)]⟩, ⟨0, 141, 1, [[.zc]]⟩, ⟨0, 141, 1, [[.zc]]⟩, ⟨1, 3, 1, []⟩]) (id := 3) rfl (show 0 ≤ 3 by decide) (pure_map fun _ => rfl) ⟨.rfl, .rfl, (.frz rfl), .rfl, trivial⟩ rfl) ?_
 refine ao_str (st' := [⟨0, 143, 1, [(eRCon p0)]⟩, ⟨0, 141, 1, [[.zc]]⟩, ⟨0, 141, 1, [[(.sl (List.map eI q4))]]⟩, ⟨1, 3, 1, []⟩]) go0 ti27 rfl rfl rfl rfl rfl rfl (show 0 + 1 ≤ 1 by decide) rfl ?_
 refine dn hK3 rfl ?_
 refine sr rfl fun K5 hK5 => ?_
 refine zq tb rfl ?_
 refine ao_str (st' := [⟨0, 143, 1, [(eRCon p0)]⟩, ⟨0, 141, 1, [[(.sl (List.map eI q4))]]⟩, ⟨0, 141, 1, [[(.sl (List.map eI q4))]]⟩, ⟨1, 3, 1, []⟩]) go0 ti141 rfl rfl rfl rfl rfl rfl (show 0 + 1 ≤ 1 by decide) rfl ?_
 refine dn hK5 rfl ?_
 replace h0 := Sh.some_eq h0
 subst r
 exact AW.ret (Exists.intro _ (And.intro (Wk.refl _ _) (aq_ldpa (x := .tmp 2) (off := 0) (cs := [(.sl (List.map eI q4))]) (vs := [(.sl (List.map eI q4))]) ti141 rfl rfl rfl (show 0 + 1 ≤ 1 by decide) rfl _ rfl)))
theorem laws_toConS_ok {N : Nat} {p0 : (List RCon)} {r : (List RCon)} (h0 : laws_toConS N p0 = some r) : ACalls Try.prog 78 [(.sl (List.map eRCon p0))] [] (fun v st => v = (.own 0 0 (List.length r)) ∧ st = [⟨0, 141, 1, List.map eRCon r⟩]) := by
 unfold laws_toConS at h0
 refine ACalls.intro Try.func78 rfl (by show 1 ≤ 23; decide) ?_
 show AW _ 0 _ (aret _ 0 Try.f78 _) ⟨23, _, _⟩
 refine AW.weaken (Wk.to (L := [(0, (.sl (List.map eRCon p0)))]) ⟨.rfl, trivial⟩) ?_
 refine sr rfl fun K1 hK1 => ?_
 refine zq tb rfl ?_
 refine dn hK1 rfl ?_
 refine sr rfl fun K2 hK2 => ?_
 refine zq tb rfl ?_
 refine zl tb rfl rfl ?_
 obtain ⟨l3, gl3, h0⟩ := Sh.bind_some h0
 refine ao_make (m := 0) (st' := [⟨0, 141, 1, List.map eRCon l3⟩]) (enc := eRCon) (u := (RCon.mk [])) go0 ei92 rfl rfl rfl gl3 rfl rfl ?_
 refine zq tb rfl ?_
 refine dn hK2 rfl ?_
 refine AW.seq fun K4 hK4 => ?_
 refine sr rfl fun K5 hK5 => ?_
 refine zq tb rfl ?_
 refine dn hK5 rfl ?_
 obtain ⟨o9, h1, h0⟩ := Sh.bind_some h0
 have M9 : ∀ (l8 : (List RCon)), o9 = l8 → ∀ s, Wk 0 s ⟨23, envL [(3, (.own 0 0 (List.length l8)))], [⟨0, 141, 1, List.map eRCon l8⟩]⟩ → K4 s := by
  intro l8 hq s hw
  subst o9
  try dsimp only at h0
  refine hK4 _ (AW.weaken hw ?_)
  refine sr rfl fun K10 hK10 => ?_
  iterate 2 refine zq tb rfl ?_
  refine dn hK10 rfl ?_
  replace h0 := Sh.some_eq h0
  subst r
  exact AW.ret (xr (Wk.to (L := [(2, (.own 0 0 (List.length l8)))]) ⟨.rfl, trivial⟩))
 refine AW.block (AW.loopF (σ := Int × (List RCon)) (fun n v => laws_toConS_L1 N p0 n v.1 v.2 = some o9) (fun (i6, l7) => ⟨23, envL [(0, (.sl (List.map eRCon p0))), (3, (.own 0 0 (List.length l7))), (4, (i64 i6))], [⟨0, 141, 1, List.map eRCon l7⟩]⟩) N (0, l3) h1 (Wk.tr rfl) (fun _ hv => by rw [laws_toConS_L1] at hv; cases hv) ?_)
 rintro n ⟨i6, l7⟩ h1
 try dsimp only at h1 ⊢
 rw [laws_toConS_L1] at h1
 refine AW.seq fun K11 hK11 => ?_
 refine sr rfl fun K12 hK12 => ?_
 iterate 2 refine zq tb rfl ?_
 refine zl tb rfl rfl ?_
 refine zq tb rfl ?_
 refine dn hK12 rfl ?_
 refine ci h1 rfl ?_ ?_ <;> clear h1
 ·intro b13 h1
  refine AW.skip (hK11 _ ?_)
  refine AW.seq fun K14 hK14 => ?_
  refine AW.block ?_
  refine AW.regionO (by rfl) ?_
  iterate 4 refine zq tb rfl ?_
  obtain ⟨c15, gc15, h1⟩ := Sh.bind_some h1
  refine zx ei79 gc15 rfl rfl rfl ?_
  refine zq tb rfl ?_
  obtain ⟨q16, gq16, h1⟩ := Sh.bind_some h1
  refine zc (v' := (.agg (eRCon q16))) hb99 (laws_toCon_ok gq16) rfl rfl rfl ?_
  obtain ⟨c17, gc17, h1⟩ := Sh.bind_some h1
  refine zz (.ptr 0 0 (Int.toNat i6) 0) (aq_ixo ei92 rfl rfl rfl rfl gc17) rfl ?_
  refine ao_stl (st' := [⟨0, 141, 1, List.map eRCon (Sh.put l7 i6 q16)⟩]) (u' := q16) go0 ti141 rfl rfl gc17 rfl rfl rfl (show 0 + 1 ≤ 1 by decide) rfl rfl ?_
  refine dn hK14 rfl ?_
  refine AW.regionO (by rfl) ?_
  iterate 3 refine zq tb rfl ?_
  exact AO.done (xi (Sh.w (i6 + 1), Sh.put l7 i6 q16) h1 (Wk.to (L := [(0, (.sl (List.map eRCon p0))), (3, (.own 0 0 (List.length (Sh.put l7 i6 q16)))), (4, (i64 (Sh.w (i6 + 1))))]) ⟨.rfl, (.len (by simp only [Sh.put_len])), .rfl, trivial⟩))
 ·intro b13 h1
  exact AW.exit (M9 l7 (Sh.some_eq h1).symm _ (Wk.tr rfl))
theorem laws_toDecl_ok {N : Nat} {p0 : RDecl} {r : RDecl} (h0 : laws_toDecl N p0 = some r) : ACalls Try.prog 54 [(.agg (eRDecl p0))] [] (fun v st => v = (.agg (eRDecl r)) ∧ st = []) := by
 unfold laws_toDecl at h0
 refine ACalls.flat rfl ?_
 refine ACalls.intro Try.func54 rfl (by show 1 ≤ 15; decide) ?_
 show AW _ 0 _ (aret _ 0 Try.f54 _) ⟨15, _, _⟩
 refine AW.weaken (Wk.to (L := [(0, (.agg (eRDecl p0)))]) ⟨.rfl, trivial⟩) ?_
 refine sr rfl fun K1 hK1 => ?_
 refine ao_box (m := 0) (st' := [⟨0, 81, 3, [(eRDecl p0)]⟩]) go0 rfl rfl rfl rfl rfl ?_
 refine ao_alloc (m := 1) (st' := [⟨0, 81, 3, [(eRDecl p0)]⟩, ⟨0, 94, 3, [[(i64 0), (i64 0), .zc]]⟩]) go0 zi94 rfl rfl ?_
 refine dn hK1 rfl ?_
 refine sr rfl fun K2 hK2 => ?_
 refine ao_alloc (m := 2) (st' := [⟨0, 81, 3, [(eRDecl p0)]⟩, ⟨0, 94, 3, [[(i64 0), (i64 0), .zc]]⟩, ⟨0, 94, 3, [[(i64 0), (i64 0), .zc]]⟩]) go0 zi94 rfl rfl ?_
 refine dn hK2 rfl ?_
 refine sr rfl fun K3 hK3 => ?_
 iterate 3 refine zq tb rfl ?_
 refine ao_str (st' := [⟨0, 81, 3, [(eRDecl p0)]⟩, ⟨0, 94, 3, [[(i64 0), (i64 0), .zc]]⟩, ⟨0, 94, 3, [[(i64 p0.from_), (i64 0), .zc]]⟩]) go0 ti3 rfl rfl rfl rfl rfl rfl (show 0 + 1 ≤ 3 by decide) rfl ?_
 refine dn hK3 rfl ?_
 refine sr rfl fun K4 hK4 => ?_
 iterate 3 refine zq tb rfl ?_
 refine ao_str (st' := [⟨0, 81, 3, [(eRDecl p0)]⟩, ⟨0, 94, 3, [[(i64 0), (i64 0), .zc]]⟩, ⟨0, 94, 3, [[(i64 p0.from_), (i64 p0.to), .zc]]⟩]) go0 ti3 rfl rfl rfl rfl rfl rfl (show 1 + 1 ≤ 3 by decide) rfl ?_
 refine dn hK4 rfl ?_
 refine sr rfl fun K5 hK5 => ?_
 iterate 2 refine zq tb rfl ?_
 obtain ⟨q6, gq6, h0⟩ := Sh.bind_some h0
 refine ao_call (v' := (.own 3 0 (List.length q6))) (st' := [⟨0, 81, 3, [(eRDecl p0)]⟩, ⟨0, 94, 3, [[(i64 0), (i64 0), .zc]]⟩, ⟨0, 94, 3, [[(i64 p0.from_), (i64 p0.to), .zc]]⟩, ⟨0, 141, 1, List.map eRCon q6⟩]) go0 hb78 (laws_toConS_ok gq6) rfl rfl ⟨(pure_map' fun _ => rfl), trivial⟩ rfl rfl ?_
 refine zq tb rfl ?_
 refine AO.weaken (Wk.frz (L := [(2, (.ptr 1 0 0 0)), (3, (.ptr 2 0 0 0)), (12, (.sl (List.map eRCon q6))), (13, (.ptr 2 0 0 2))]) (st' := [⟨0, 81, 3, [(eRDecl p0)]⟩, ⟨0, 94, 3, [[(i64 0), (i64 0), .zc]]⟩, ⟨0, 94, 3, [[(i64 p0.from_), (i64 p0.to), .zc]]⟩, ⟨1, 141, 1, []⟩]) (id := 3) rfl (show 0 ≤ 3 by decide) (pure_map fun _ => rfl) ⟨.rfl, .rfl, (.frz rfl), .rfl, trivial⟩ rfl) ?_
 refine ao_str (st' := [⟨0, 81, 3, [(eRDecl p0)]⟩, ⟨0, 94, 3, [[(i64 0), (i64 0), .zc]]⟩, ⟨0, 94, 3, [[(i64 p0.from_), (i64 p0.to), (.sl (List.map eRCon q6))]]⟩, ⟨1, 141, 1, []⟩]) go0 ti92 rfl rfl rfl rfl rfl rfl (show 2 + 1 ≤ 3 by decide) rfl ?_
 refine dn hK5 rfl ?_
 refine sr rfl fun K7 hK7 => ?_
 refine zq tb rfl ?_
 refine ao_str (st' := [⟨0, 81, 3, [(eRDecl p0)]⟩, ⟨0, 94, 3, [[(i64 p0.from_), (i64 p0.to), (.sl (List.map eRCon q6))]]⟩, ⟨0, 94, 3, [[(i64 p0.from_), (i64 p0.to), (.sl (List.map eRCon q6))]]⟩, ⟨1, 141, 1, []⟩]) go0 ti94 rfl rfl rfl rfl rfl rfl (show 0 + 3 ≤ 3 by decide) rfl ?_
 refine dn hK7 rfl ?_
 replace h0 := Sh.some_eq h0
 subst r
 exact AW.ret (Exists.intro _ (And.intro (Wk.refl _ _) (aq_ldpa (x := .tmp 2) (off := 0) (cs := [(i64 p0.from_), (i64 p0.to), (.sl (List.map eRCon q6))]) (vs := [(i64 p0.from_), (i64 p0.to), (.sl (List.map eRCon q6))]) ti94 rfl rfl rfl (show 0 + 3 ≤ 3 by decide) rfl _ rfl)))
theorem laws_toDeclS_ok {N : Nat} {p0 : (List RDecl)} {r : (List RDecl)} (h0 : laws_toDeclS N p0 = some r) : ACalls Try.prog 29 [(.sl (List.map eRDecl p0))] [] (fun v st => v = (.own 0 0 (List.length r)) ∧ st = [⟨0, 94, 3, List.map eRDecl r⟩]) := by
 unfold laws_toDeclS at h0
 refine ACalls.intro Try.func29 rfl (by show 1 ≤ 23; decide) ?_
 show AW _ 0 _ (aret _ 0 Try.f29 _) ⟨23, _, _⟩
 refine AW.weaken (Wk.to (L := [(0, (.sl (List.map eRDecl p0)))]) ⟨.rfl, trivial⟩) ?_
 refine sr rfl fun K1 hK1 => ?_
 refine zq tb rfl ?_
 refine dn hK1 rfl ?_
 refine sr rfl fun K2 hK2 => ?_
 refine zq tb rfl ?_
 refine zl tb rfl rfl ?_
 obtain ⟨l3, gl3, h0⟩ := Sh.bind_some h0
 refine ao_make (m := 0) (st' := [⟨0, 94, 3, List.map eRDecl l3⟩]) (enc := eRDecl) (u := (RDecl.mk 0 0 [])) go0 ei29 rfl rfl rfl gl3 rfl rfl ?_
 refine zq tb rfl ?_
 refine dn hK2 rfl ?_
 refine AW.seq fun K4 hK4 => ?_
 refine sr rfl fun K5 hK5 => ?_
 refine zq tb rfl ?_
 refine dn hK5 rfl ?_
 obtain ⟨o9, h1, h0⟩ := Sh.bind_some h0
 have M9 : ∀ (l8 : (List RDecl)), o9 = l8 → ∀ s, Wk 0 s ⟨23, envL [(3, (.own 0 0 (List.length l8)))], [⟨0, 94, 3, List.map eRDecl l8⟩]⟩ → K4 s := by
  intro l8 hq s hw
  subst o9
  try dsimp only at h0
  refine hK4 _ (AW.weaken hw ?_)
  refine sr rfl fun K10 hK10 => ?_
  iterate 2 refine zq tb rfl ?_
  refine dn hK10 rfl ?_
  replace h0 := Sh.some_eq h0
  subst r
  exact AW.ret (xr (Wk.to (L := [(2, (.own 0 0 (List.length l8)))]) ⟨.rfl, trivial⟩))
 refine AW.block (AW.loopF (σ := Int × (List RDecl)) (fun n v => laws_toDeclS_L1 N p0 n v.1 v.2 = some o9) (fun (i6, l7) => ⟨23, envL [(0, (.sl (List.map eRDecl p0))), (3, (.own 0 0 (List.length l7))), (4, (i64 i6))], [⟨0, 94, 3, List.map eRDecl l7⟩]⟩) N (0, l3) h1 (Wk.tr rfl) (fun _ hv => by rw [laws_toDeclS_L1] at hv; cases hv) ?_)
 rintro n ⟨i6, l7⟩ h1
 try dsimp only at h1 ⊢
 rw [laws_toDeclS_L1] at h1
 refine AW.seq fun K11 hK11 => ?_
 refine sr rfl fun K12 hK12 => ?_
 iterate 2 refine zq tb rfl ?_
 refine zl tb rfl rfl ?_
 refine zq tb rfl ?_
 refine dn hK12 rfl ?_
 refine ci h1 rfl ?_ ?_ <;> clear h1
 ·intro b13 h1
  refine AW.skip (hK11 _ ?_)
  refine AW.seq fun K14 hK14 => ?_
  refine AW.block ?_
  refine AW.regionO (by rfl) ?_
  iterate 4 refine zq tb rfl ?_
  obtain ⟨c15, gc15, h1⟩ := Sh.bind_some h1
  refine zx ei22 gc15 rfl rfl rfl ?_
  refine zq tb rfl ?_
  obtain ⟨q16, gq16, h1⟩ := Sh.bind_some h1
  refine zc (v' := (.agg (eRDecl q16))) hb54 (laws_toDecl_ok gq16) rfl rfl rfl ?_
  obtain ⟨c17, gc17, h1⟩ := Sh.bind_some h1
  refine zz (.ptr 0 0 (Int.toNat i6) 0) (aq_ixo ei29 rfl rfl rfl rfl gc17) rfl ?_
  refine ao_stl (st' := [⟨0, 94, 3, List.map eRDecl (Sh.put l7 i6 q16)⟩]) (u' := q16) go0 ti94 rfl rfl gc17 rfl rfl rfl (show 0 + 3 ≤ 3 by decide) rfl rfl ?_
  refine dn hK14 rfl ?_
  refine AW.regionO (by rfl) ?_
  iterate 3 refine zq tb rfl ?_
  exact AO.done (xi (Sh.w (i6 + 1), Sh.put l7 i6 q16) h1 (Wk.to (L := [(0, (.sl (List.map eRDecl p0))), (3, (.own 0 0 (List.length (Sh.put l7 i6 q16)))), (4, (i64 (Sh.w (i6 + 1))))]) ⟨.rfl, (.len (by simp only [Sh.put_len])), .rfl, trivial⟩))
 ·intro b13 h1
  exact AW.exit (M9 l7 (Sh.some_eq h1).symm _ (Wk.tr rfl))
theorem laws_toInstr_ok {N : Nat} {p0 : RInstr} {r : RInstr} (h0 : laws_toInstr N p0 = some r) : ACalls Try.prog 100 [(.agg (eRInstr p0))] [] (fun v st => v = (.agg (eRInstr r)) ∧ st = []) := by
 unfold laws_toInstr at h0
 refine ACalls.flat rfl ?_
 refine ACalls.intro Try.func100 rfl (by show 1 ≤ 25; decide) ?_
 show AW _ 0 _ (aret _ 0 Try.f100 _) ⟨25, _, _⟩
 refine AW.weaken (Wk.to (L := [(0, (.agg (eRInstr p0)))]) ⟨.rfl, trivial⟩) ?_
 refine sr rfl fun K1 hK1 => ?_
 refine ao_box (m := 0) (st' := [⟨0, 145, 6, [(eRInstr p0)]⟩]) go0 rfl rfl rfl rfl rfl ?_
 refine ao_alloc (m := 1) (st' := [⟨0, 145, 6, [(eRInstr p0)]⟩, ⟨0, 63, 6, [[(i64 0), (i64 0), (i64 0), (i64 0), .zc, .zc]]⟩]) go0 zi63 rfl rfl ?_
 refine dn hK1 rfl ?_
 refine sr rfl fun K2 hK2 => ?_
 refine ao_alloc (m := 2) (st' := [⟨0, 145, 6, [(eRInstr p0)]⟩, ⟨0, 63, 6, [[(i64 0), (i64 0), (i64 0), (i64 0), .zc, .zc]]⟩, ⟨0, 63, 6, [[(i64 0), (i64 0), (i64 0), (i64 0), .zc, .zc]]⟩]) go0 zi63 rfl rfl ?_
 refine dn hK2 rfl ?_
 refine sr rfl fun K3 hK3 => ?_
 iterate 3 refine zq tb rfl ?_
 refine ao_str (st' := [⟨0, 145, 6, [(eRInstr p0)]⟩, ⟨0, 63, 6, [[(i64 0), (i64 0), (i64 0), (i64 0), .zc, .zc]]⟩, ⟨0, 63, 6, [[(i64 p0.op), (i64 0), (i64 0), (i64 0), .zc, .zc]]⟩]) go0 ti3 rfl rfl rfl rfl rfl rfl (show 0 + 1 ≤ 6 by decide) rfl ?_
 refine dn hK3 rfl ?_
 refine sr rfl fun K4 hK4 => ?_
 iterate 3 refine zq tb rfl ?_
 refine ao_str (st' := [⟨0, 145, 6, [(eRInstr p0)]⟩, ⟨0, 63, 6, [[(i64 0), (i64 0), (i64 0), (i64 0), .zc, .zc]]⟩, ⟨0, 63, 6, [[(i64 p0.op), (i64 p0.dst), (i64 0), (i64 0), .zc, .zc]]⟩]) go0 ti3 rfl rfl rfl rfl rfl rfl (show 1 + 1 ≤ 6 by decide) rfl ?_
 refine dn hK4 rfl ?_
 refine sr rfl fun K5 hK5 => ?_
 iterate 3 refine zq tb rfl ?_
 refine ao_str (st' := [⟨0, 145, 6, [(eRInstr p0)]⟩, ⟨0, 63, 6, [[(i64 0), (i64 0), (i64 0), (i64 0), .zc, .zc]]⟩, ⟨0, 63, 6, [[(i64 p0.op), (i64 p0.dst), (i64 p0.num), (i64 0), .zc, .zc]]⟩]) go0 ti3 rfl rfl rfl rfl rfl rfl (show 2 + 1 ≤ 6 by decide) rfl ?_
 refine dn hK5 rfl ?_
 refine sr rfl fun K6 hK6 => ?_
 iterate 3 refine zq tb rfl ?_
 refine ao_str (st' := [⟨0, 145, 6, [(eRInstr p0)]⟩, ⟨0, 63, 6, [[(i64 0), (i64 0), (i64 0), (i64 0), .zc, .zc]]⟩, ⟨0, 63, 6, [[(i64 p0.op), (i64 p0.dst), (i64 p0.num), (i64 p0.into), .zc, .zc]]⟩]) go0 ti3 rfl rfl rfl rfl rfl rfl (show 3 + 1 ≤ 6 by decide) rfl ?_
 refine dn hK6 rfl ?_
 refine sr rfl fun K7 hK7 => ?_
 iterate 2 refine zq tb rfl ?_
 obtain ⟨q8, gq8, h0⟩ := Sh.bind_some h0
 refine ao_call (v' := (.own 3 0 (List.length q8))) (st' := [⟨0, 145, 6, [(eRInstr p0)]⟩, ⟨0, 63, 6, [[(i64 0), (i64 0), (i64 0), (i64 0), .zc, .zc]]⟩, ⟨0, 63, 6, [[(i64 p0.op), (i64 p0.dst), (i64 p0.num), (i64 p0.into), .zc, .zc]]⟩, ⟨0, 3, 1, List.map eI q8⟩]) go0 hb79 (laws_toIntS_ok gq8) rfl rfl ⟨(pure_map' fun _ => rfl), trivial⟩ rfl rfl ?_
 refine zq tb rfl ?_
 refine AO.weaken (Wk.frz (L := [(1, (.ptr 0 0 0 0)), (2, (.ptr 1 0 0 0)), (3, (.ptr 2 0 0 0)), (18, (.sl (List.map eI q8))), (19, (.ptr 2 0 0 4))]) (st' := [⟨0, 145, 6, [(eRInstr p0)]⟩, ⟨0, 63, 6, [[(i64 0), (i64 0), (i64 0), (i64 0), .zc, .zc]]⟩, ⟨0, 63, 6, [[(i64 p0.op), (i64 p0.dst), (i64 p0.num), (i64 p0.into), .zc, .zc]]⟩, ⟨1, 3, 1, []⟩]) (id := 3) rfl (show 0 ≤ 3 by decide) (pure_map fun _ => rfl) ⟨.rfl, .rfl, .rfl, (.frz rfl), .rfl, trivial⟩ rfl) ?_
 refine ao_str (st' := [⟨0, 145, 6, [(eRInstr p0)]⟩, ⟨0, 63, 6, [[(i64 0), (i64 0), (i64 0), (i64 0), .zc, .zc]]⟩, ⟨0, 63, 6, [[(i64 p0.op), (i64 p0.dst), (i64 p0.num), (i64 p0.into), (.sl (List.map eI q8)), .zc]]⟩, ⟨1, 3, 1, []⟩]) go0 ti27 rfl rfl rfl rfl rfl rfl (show 4 + 1 ≤ 6 by decide) rfl ?_
 refine dn hK7 rfl ?_
 refine sr rfl fun K9 hK9 => ?_
 iterate 2 refine zq tb rfl ?_
 obtain ⟨q10, gq10, h0⟩ := Sh.bind_some h0
 refine ao_call (v' := (.own 4 0 (List.length q10))) (st' := [⟨0, 145, 6, [(eRInstr p0)]⟩, ⟨0, 63, 6, [[(i64 0), (i64 0), (i64 0), (i64 0), .zc, .zc]]⟩, ⟨0, 63, 6, [[(i64 p0.op), (i64 p0.dst), (i64 p0.num), (i64 p0.into), (.sl (List.map eI q8)), .zc]]⟩, ⟨1, 3, 1, []⟩, ⟨0, 3, 1, List.map eI q10⟩]) go0 hb79 (laws_toIntS_ok gq10) rfl rfl ⟨(pure_map' fun _ => rfl), trivial⟩ rfl rfl ?_
 refine zq tb rfl ?_
 refine AO.weaken (Wk.frz (L := [(2, (.ptr 1 0 0 0)), (3, (.ptr 2 0 0 0)), (22, (.sl (List.map eI q10))), (23, (.ptr 2 0 0 5))]) (st' := [⟨0, 145, 6, [(eRInstr p0)]⟩, ⟨0, 63, 6, [[(i64 0), (i64 0), (i64 0), (i64 0), .zc, .zc]]⟩, ⟨0, 63, 6, [[(i64 p0.op), (i64 p0.dst), (i64 p0.num), (i64 p0.into), (.sl (List.map eI q8)), .zc]]⟩, ⟨1, 3, 1, []⟩, ⟨1, 3, 1, []⟩]) (id := 4) rfl (show 0 ≤ 4 by decide) (pure_map fun _ => rfl) ⟨.rfl, .rfl, (.frz rfl), .rfl, trivial⟩ rfl) ?_
 refine ao_str (st' := [⟨0, 145, 6, [(eRInstr p0)]⟩, ⟨0, 63, 6, [[(i64 0), (i64 0), (i64 0), (i64 0), .zc, .zc]]⟩, ⟨0, 63, 6, [[(i64 p0.op), (i64 p0.dst), (i64 p0.num), (i64 p0.into), (.sl (List.map eI q8)), (.sl (List.map eI q10))]]⟩, ⟨1, 3, 1, []⟩, ⟨1, 3, 1, []⟩]) go0 ti27 rfl rfl rfl rfl rfl rfl (show 5 + 1 ≤ 6 by decide) rfl ?_
 refine dn hK9 rfl ?_
 refine sr rfl fun K11 hK11 => ?_
 refine zq tb rfl ?_
 refine ao_str (st' := [⟨0, 145, 6, [(eRInstr p0)]⟩, ⟨0, 63, 6, [[(i64 p0.op), (i64 p0.dst), (i64 p0.num), (i64 p0.into), (.sl (List.map eI q8)), (.sl (List.map eI q10))]]⟩, ⟨0, 63, 6, [[(i64 p0.op), (i64 p0.dst), (i64 p0.num), (i64 p0.into), (.sl (List.map eI q8)), (.sl (List.map eI q10))]]⟩, ⟨1, 3, 1, []⟩, ⟨1, 3, 1, []⟩]) go0 ti63 rfl rfl rfl rfl rfl rfl (show 0 + 6 ≤ 6 by decide) rfl ?_
 refine dn hK11 rfl ?_
 replace h0 := Sh.some_eq h0
 subst r
 exact AW.ret (Exists.intro _ (And.intro (Wk.refl _ _) (aq_ldpa (x := .tmp 2) (off := 0) (cs := [(i64 p0.op), (i64 p0.dst), (i64 p0.num), (i64 p0.into), (.sl (List.map eI q8)), (.sl (List.map eI q10))]) (vs := [(i64 p0.op), (i64 p0.dst), (i64 p0.num), (i64 p0.into), (.sl (List.map eI q8)), (.sl (List.map eI q10))]) ti63 rfl rfl rfl (show 0 + 6 ≤ 6 by decide) rfl _ rfl)))
theorem laws_toInstrS_ok {N : Nat} {p0 : (List RInstr)} {r : (List RInstr)} (h0 : laws_toInstrS N p0 = some r) : ACalls Try.prog 80 [(.sl (List.map eRInstr p0))] [] (fun v st => v = (.own 0 0 (List.length r)) ∧ st = [⟨0, 63, 6, List.map eRInstr r⟩]) := by
 unfold laws_toInstrS at h0
 refine ACalls.intro Try.func80 rfl (by show 1 ≤ 23; decide) ?_
 show AW _ 0 _ (aret _ 0 Try.f80 _) ⟨23, _, _⟩
 refine AW.weaken (Wk.to (L := [(0, (.sl (List.map eRInstr p0)))]) ⟨.rfl, trivial⟩) ?_
 refine sr rfl fun K1 hK1 => ?_
 refine zq tb rfl ?_
 refine dn hK1 rfl ?_
 refine sr rfl fun K2 hK2 => ?_
 refine zq tb rfl ?_
 refine zl tb rfl rfl ?_
 obtain ⟨l3, gl3, h0⟩ := Sh.bind_some h0
 refine ao_make (m := 0) (st' := [⟨0, 63, 6, List.map eRInstr l3⟩]) (enc := eRInstr) (u := (RInstr.mk 0 0 0 0 [] [])) go0 ei53 rfl rfl rfl gl3 rfl rfl ?_
 refine zq tb rfl ?_
 refine dn hK2 rfl ?_
 refine AW.seq fun K4 hK4 => ?_
 refine sr rfl fun K5 hK5 => ?_
 refine zq tb rfl ?_
 refine dn hK5 rfl ?_
 obtain ⟨o9, h1, h0⟩ := Sh.bind_some h0
 have M9 : ∀ (l8 : (List RInstr)), o9 = l8 → ∀ s, Wk 0 s ⟨23, envL [(3, (.own 0 0 (List.length l8)))], [⟨0, 63, 6, List.map eRInstr l8⟩]⟩ → K4 s := by
  intro l8 hq s hw
  subst o9
  try dsimp only at h0
  refine hK4 _ (AW.weaken hw ?_)
  refine sr rfl fun K10 hK10 => ?_
  iterate 2 refine zq tb rfl ?_
  refine dn hK10 rfl ?_
  replace h0 := Sh.some_eq h0
  subst r
  exact AW.ret (xr (Wk.to (L := [(2, (.own 0 0 (List.length l8)))]) ⟨.rfl, trivial⟩))
 refine AW.block (AW.loopF (σ := Int × (List RInstr)) (fun n v => laws_toInstrS_L1 N p0 n v.1 v.2 = some o9) (fun (i6, l7) => ⟨23, envL [(0, (.sl (List.map eRInstr p0))), (3, (.own 0 0 (List.length l7))), (4, (i64 i6))], [⟨0, 63, 6, List.map eRInstr l7⟩]⟩) N (0, l3) h1 (Wk.tr rfl) (fun _ hv => by rw [laws_toInstrS_L1] at hv; cases hv) ?_)
 rintro n ⟨i6, l7⟩ h1
 try dsimp only at h1 ⊢
 rw [laws_toInstrS_L1] at h1
 refine AW.seq fun K11 hK11 => ?_
 refine sr rfl fun K12 hK12 => ?_
 iterate 2 refine zq tb rfl ?_
 refine zl tb rfl rfl ?_
 refine zq tb rfl ?_
 refine dn hK12 rfl ?_
 refine ci h1 rfl ?_ ?_ <;> clear h1
 ·intro b13 h1
  refine AW.skip (hK11 _ ?_)
  refine AW.seq fun K14 hK14 => ?_
  refine AW.block ?_
  refine AW.regionO (by rfl) ?_
  iterate 4 refine zq tb rfl ?_
  obtain ⟨c15, gc15, h1⟩ := Sh.bind_some h1
  refine zx ei83 gc15 rfl rfl rfl ?_
  refine zq tb rfl ?_
  obtain ⟨q16, gq16, h1⟩ := Sh.bind_some h1
  refine zc (v' := (.agg (eRInstr q16))) hb100 (laws_toInstr_ok gq16) rfl rfl rfl ?_
  obtain ⟨c17, gc17, h1⟩ := Sh.bind_some h1
  refine zz (.ptr 0 0 (Int.toNat i6) 0) (aq_ixo ei53 rfl rfl rfl rfl gc17) rfl ?_
  refine ao_stl (st' := [⟨0, 63, 6, List.map eRInstr (Sh.put l7 i6 q16)⟩]) (u' := q16) go0 ti63 rfl rfl gc17 rfl rfl rfl (show 0 + 6 ≤ 6 by decide) rfl rfl ?_
  refine dn hK14 rfl ?_
  refine AW.regionO (by rfl) ?_
  iterate 3 refine zq tb rfl ?_
  exact AO.done (xi (Sh.w (i6 + 1), Sh.put l7 i6 q16) h1 (Wk.to (L := [(0, (.sl (List.map eRInstr p0))), (3, (.own 0 0 (List.length (Sh.put l7 i6 q16)))), (4, (i64 (Sh.w (i6 + 1))))]) ⟨.rfl, (.len (by simp only [Sh.put_len])), .rfl, trivial⟩))
 ·intro b13 h1
  exact AW.exit (M9 l7 (Sh.some_eq h1).symm _ (Wk.tr rfl))
theorem laws_toProc_ok {N : Nat} {p0 : RProc} {r : RProc} (h0 : laws_toProc N p0 = some r) : ACalls Try.prog 55 [(.agg (eRProc p0))] [] (fun v st => v = (.agg (eRProc r)) ∧ st = []) := by
 unfold laws_toProc at h0
 refine ACalls.flat rfl ?_
 refine ACalls.intro Try.func55 rfl (by show 1 ≤ 23; decide) ?_
 show AW _ 0 _ (aret _ 0 Try.f55 _) ⟨23, _, _⟩
 refine AW.weaken (Wk.to (L := [(0, (.agg (eRProc p0)))]) ⟨.rfl, trivial⟩) ?_
 refine sr rfl fun K1 hK1 => ?_
 refine ao_box (m := 0) (st' := [⟨0, 85, 5, [(eRProc p0)]⟩]) go0 rfl rfl rfl rfl rfl ?_
 refine ao_alloc (m := 1) (st' := [⟨0, 85, 5, [(eRProc p0)]⟩, ⟨0, 55, 5, [[.zc, .zc, (i64 0), (i64 0), .zc]]⟩]) go0 zi55 rfl rfl ?_
 refine dn hK1 rfl ?_
 refine sr rfl fun K2 hK2 => ?_
 refine ao_alloc (m := 2) (st' := [⟨0, 85, 5, [(eRProc p0)]⟩, ⟨0, 55, 5, [[.zc, .zc, (i64 0), (i64 0), .zc]]⟩, ⟨0, 55, 5, [[.zc, .zc, (i64 0), (i64 0), .zc]]⟩]) go0 zi55 rfl rfl ?_
 refine dn hK2 rfl ?_
 refine sr rfl fun K3 hK3 => ?_
 iterate 2 refine zq tb rfl ?_
 obtain ⟨q4, gq4, h0⟩ := Sh.bind_some h0
 refine ao_call (v' := (.own 3 0 (List.length q4))) (st' := [⟨0, 85, 5, [(eRProc p0)]⟩, ⟨0, 55, 5, [[.zc, .zc, (i64 0), (i64 0), .zc]]⟩, ⟨0, 55, 5, [[.zc, .zc, (i64 0), (i64 0), .zc]]⟩, ⟨0, 3, 1, List.map eI q4⟩]) go0 hb79 (laws_toIntS_ok gq4) rfl rfl ⟨(pure_map' fun _ => rfl), trivial⟩ rfl rfl ?_
 refine zq tb rfl ?_
 refine AO.weaken (Wk.frz (L := [(1, (.ptr 0 0 0 0)), (2, (.ptr 1 0 0 0)), (3, (.ptr 2 0 0 0)), (6, (.sl (List.map eI q4))), (7, (.ptr 2 0 0 0))]) (st' := [⟨0, 85, 5, [(eRProc p0)]⟩, ⟨0, 55, 5, [[.zc, .zc, (i64 0), (i64 0), .zc]]⟩, ⟨0, 55, 5, [[.zc, .zc, (i64 0), (i64 0), .zc]]⟩, ⟨1, 3, 1, []⟩]) (id := 3) rfl (show 0 ≤ 3 by decide) (pure_map fun _ => rfl) ⟨.rfl, .rfl, .rfl, (.frz rfl), .rfl, trivial⟩ rfl) ?_
 refine ao_str (st' := [⟨0, 85, 5, [(eRProc p0)]⟩, ⟨0, 55, 5, [[.zc, .zc, (i64 0), (i64 0), .zc]]⟩, ⟨0, 55, 5, [[(.sl (List.map eI q4)), .zc, (i64 0), (i64 0), .zc]]⟩, ⟨1, 3, 1, []⟩]) go0 ti27 rfl rfl rfl rfl rfl rfl (show 0 + 1 ≤ 5 by decide) rfl ?_
 refine dn hK3 rfl ?_
 refine sr rfl fun K5 hK5 => ?_
 iterate 2 refine zq tb rfl ?_
 obtain ⟨q6, gq6, h0⟩ := Sh.bind_some h0
 refine ao_call (v' := (.own 4 0 (List.length q6))) (st' := [⟨0, 85, 5, [(eRProc p0)]⟩, ⟨0, 55, 5, [[.zc, .zc, (i64 0), (i64 0), .zc]]⟩, ⟨0, 55, 5, [[(.sl (List.map eI q4)), .zc, (i64 0), (i64 0), .zc]]⟩, ⟨1, 3, 1, []⟩, ⟨0, 3, 1, List.map eI q6⟩]) go0 hb79 (laws_toIntS_ok gq6) rfl rfl ⟨(pure_map' fun _ => rfl), trivial⟩ rfl rfl ?_
 refine zq tb rfl ?_
 refine AO.weaken (Wk.frz (L := [(1, (.ptr 0 0 0 0)), (2, (.ptr 1 0 0 0)), (3, (.ptr 2 0 0 0)), (10, (.sl (List.map eI q6))), (11, (.ptr 2 0 0 1))]) (st' := [⟨0, 85, 5, [(eRProc p0)]⟩, ⟨0, 55, 5, [[.zc, .zc, (i64 0), (i64 0), .zc]]⟩, ⟨0, 55, 5, [[(.sl (List.map eI q4)), .zc, (i64 0), (i64 0), .zc]]⟩, ⟨1, 3, 1, []⟩, ⟨1, 3, 1, []⟩]) (id := 4) rfl (show 0 ≤ 4 by decide) (pure_map fun _ => rfl) ⟨.rfl, .rfl, .rfl, (.frz rfl), .rfl, trivial⟩ rfl) ?_
 refine ao_str (st' := [⟨0, 85, 5, [(eRProc p0)]⟩, ⟨0, 55, 5, [[.zc, .zc, (i64 0), (i64 0), .zc]]⟩, ⟨0, 55, 5, [[(.sl (List.map eI q4)), (.sl (List.map eI q6)), (i64 0), (i64 0), .zc]]⟩, ⟨1, 3, 1, []⟩, ⟨1, 3, 1, []⟩]) go0 ti27 rfl rfl rfl rfl rfl rfl (show 1 + 1 ≤ 5 by decide) rfl ?_
 refine dn hK5 rfl ?_
 refine sr rfl fun K7 hK7 => ?_
 iterate 3 refine zq tb rfl ?_
 refine ao_str (st' := [⟨0, 85, 5, [(eRProc p0)]⟩, ⟨0, 55, 5, [[.zc, .zc, (i64 0), (i64 0), .zc]]⟩, ⟨0, 55, 5, [[(.sl (List.map eI q4)), (.sl (List.map eI q6)), (i64 p0.result), (i64 0), .zc]]⟩, ⟨1, 3, 1, []⟩, ⟨1, 3, 1, []⟩]) go0 ti3 rfl rfl rfl rfl rfl rfl (show 2 + 1 ≤ 5 by decide) rfl ?_
 refine dn hK7 rfl ?_
 refine sr rfl fun K8 hK8 => ?_
 iterate 3 refine zq tb rfl ?_
 refine ao_str (st' := [⟨0, 85, 5, [(eRProc p0)]⟩, ⟨0, 55, 5, [[.zc, .zc, (i64 0), (i64 0), .zc]]⟩, ⟨0, 55, 5, [[(.sl (List.map eI q4)), (.sl (List.map eI q6)), (i64 p0.result), (i64 p0.regs), .zc]]⟩, ⟨1, 3, 1, []⟩, ⟨1, 3, 1, []⟩]) go0 ti3 rfl rfl rfl rfl rfl rfl (show 3 + 1 ≤ 5 by decide) rfl ?_
 refine dn hK8 rfl ?_
 refine sr rfl fun K9 hK9 => ?_
 iterate 2 refine zq tb rfl ?_
 obtain ⟨q10, gq10, h0⟩ := Sh.bind_some h0
 refine ao_call (v' := (.own 5 0 (List.length q10))) (st' := [⟨0, 85, 5, [(eRProc p0)]⟩, ⟨0, 55, 5, [[.zc, .zc, (i64 0), (i64 0), .zc]]⟩, ⟨0, 55, 5, [[(.sl (List.map eI q4)), (.sl (List.map eI q6)), (i64 p0.result), (i64 p0.regs), .zc]]⟩, ⟨1, 3, 1, []⟩, ⟨1, 3, 1, []⟩, ⟨0, 63, 6, List.map eRInstr q10⟩]) go0 hb80 (laws_toInstrS_ok gq10) rfl rfl ⟨(pure_map' fun _ => rfl), trivial⟩ rfl rfl ?_
 refine zq tb rfl ?_
 refine AO.weaken (Wk.frz (L := [(2, (.ptr 1 0 0 0)), (3, (.ptr 2 0 0 0)), (20, (.sl (List.map eRInstr q10))), (21, (.ptr 2 0 0 4))]) (st' := [⟨0, 85, 5, [(eRProc p0)]⟩, ⟨0, 55, 5, [[.zc, .zc, (i64 0), (i64 0), .zc]]⟩, ⟨0, 55, 5, [[(.sl (List.map eI q4)), (.sl (List.map eI q6)), (i64 p0.result), (i64 p0.regs), .zc]]⟩, ⟨1, 3, 1, []⟩, ⟨1, 3, 1, []⟩, ⟨1, 63, 6, []⟩]) (id := 5) rfl (show 0 ≤ 5 by decide) (pure_map fun _ => rfl) ⟨.rfl, .rfl, (.frz rfl), .rfl, trivial⟩ rfl) ?_
 refine ao_str (st' := [⟨0, 85, 5, [(eRProc p0)]⟩, ⟨0, 55, 5, [[.zc, .zc, (i64 0), (i64 0), .zc]]⟩, ⟨0, 55, 5, [[(.sl (List.map eI q4)), (.sl (List.map eI q6)), (i64 p0.result), (i64 p0.regs), (.sl (List.map eRInstr q10))]]⟩, ⟨1, 3, 1, []⟩, ⟨1, 3, 1, []⟩, ⟨1, 63, 6, []⟩]) go0 ti53 rfl rfl rfl rfl rfl rfl (show 4 + 1 ≤ 5 by decide) rfl ?_
 refine dn hK9 rfl ?_
 refine sr rfl fun K11 hK11 => ?_
 refine zq tb rfl ?_
 refine ao_str (st' := [⟨0, 85, 5, [(eRProc p0)]⟩, ⟨0, 55, 5, [[(.sl (List.map eI q4)), (.sl (List.map eI q6)), (i64 p0.result), (i64 p0.regs), (.sl (List.map eRInstr q10))]]⟩, ⟨0, 55, 5, [[(.sl (List.map eI q4)), (.sl (List.map eI q6)), (i64 p0.result), (i64 p0.regs), (.sl (List.map eRInstr q10))]]⟩, ⟨1, 3, 1, []⟩, ⟨1, 3, 1, []⟩, ⟨1, 63, 6, []⟩]) go0 ti55 rfl rfl rfl rfl rfl rfl (show 0 + 5 ≤ 5 by decide) rfl ?_
 refine dn hK11 rfl ?_
 replace h0 := Sh.some_eq h0
 subst r
 exact AW.ret (Exists.intro _ (And.intro (Wk.refl _ _) (aq_ldpa (x := .tmp 2) (off := 0) (cs := [(.sl (List.map eI q4)), (.sl (List.map eI q6)), (i64 p0.result), (i64 p0.regs), (.sl (List.map eRInstr q10))]) (vs := [(.sl (List.map eI q4)), (.sl (List.map eI q6)), (i64 p0.result), (i64 p0.regs), (.sl (List.map eRInstr q10))]) ti55 rfl rfl rfl (show 0 + 5 ≤ 5 by decide) rfl _ rfl)))
theorem laws_toProcS_ok {N : Nat} {p0 : (List RProc)} {r : (List RProc)} (h0 : laws_toProcS N p0 = some r) : ACalls Try.prog 30 [(.sl (List.map eRProc p0))] [] (fun v st => v = (.own 0 0 (List.length r)) ∧ st = [⟨0, 55, 5, List.map eRProc r⟩]) := by
 unfold laws_toProcS at h0
 refine ACalls.intro Try.func30 rfl (by show 1 ≤ 23; decide) ?_
 show AW _ 0 _ (aret _ 0 Try.f30 _) ⟨23, _, _⟩
 refine AW.weaken (Wk.to (L := [(0, (.sl (List.map eRProc p0)))]) ⟨.rfl, trivial⟩) ?_
 refine sr rfl fun K1 hK1 => ?_
 refine zq tb rfl ?_
 refine dn hK1 rfl ?_
 refine sr rfl fun K2 hK2 => ?_
 refine zq tb rfl ?_
 refine zl tb rfl rfl ?_
 obtain ⟨l3, gl3, h0⟩ := Sh.bind_some h0
 refine ao_make (m := 0) (st' := [⟨0, 55, 5, List.map eRProc l3⟩]) (enc := eRProc) (u := (RProc.mk [] [] 0 0 [])) go0 ei30 rfl rfl rfl gl3 rfl rfl ?_
 refine zq tb rfl ?_
 refine dn hK2 rfl ?_
 refine AW.seq fun K4 hK4 => ?_
 refine sr rfl fun K5 hK5 => ?_
 refine zq tb rfl ?_
 refine dn hK5 rfl ?_
 obtain ⟨o9, h1, h0⟩ := Sh.bind_some h0
 have M9 : ∀ (l8 : (List RProc)), o9 = l8 → ∀ s, Wk 0 s ⟨23, envL [(3, (.own 0 0 (List.length l8)))], [⟨0, 55, 5, List.map eRProc l8⟩]⟩ → K4 s := by
  intro l8 hq s hw
  subst o9
  try dsimp only at h0
  refine hK4 _ (AW.weaken hw ?_)
  refine sr rfl fun K10 hK10 => ?_
  iterate 2 refine zq tb rfl ?_
  refine dn hK10 rfl ?_
  replace h0 := Sh.some_eq h0
  subst r
  exact AW.ret (xr (Wk.to (L := [(2, (.own 0 0 (List.length l8)))]) ⟨.rfl, trivial⟩))
 refine AW.block (AW.loopF (σ := Int × (List RProc)) (fun n v => laws_toProcS_L1 N p0 n v.1 v.2 = some o9) (fun (i6, l7) => ⟨23, envL [(0, (.sl (List.map eRProc p0))), (3, (.own 0 0 (List.length l7))), (4, (i64 i6))], [⟨0, 55, 5, List.map eRProc l7⟩]⟩) N (0, l3) h1 (Wk.tr rfl) (fun _ hv => by rw [laws_toProcS_L1] at hv; cases hv) ?_)
 rintro n ⟨i6, l7⟩ h1
 try dsimp only at h1 ⊢
 rw [laws_toProcS_L1] at h1
 refine AW.seq fun K11 hK11 => ?_
 refine sr rfl fun K12 hK12 => ?_
 iterate 2 refine zq tb rfl ?_
 refine zl tb rfl rfl ?_
 refine zq tb rfl ?_
 refine dn hK12 rfl ?_
 refine ci h1 rfl ?_ ?_ <;> clear h1
 ·intro b13 h1
  refine AW.skip (hK11 _ ?_)
  refine AW.seq fun K14 hK14 => ?_
  refine AW.block ?_
  refine AW.regionO (by rfl) ?_
  iterate 4 refine zq tb rfl ?_
  obtain ⟨c15, gc15, h1⟩ := Sh.bind_some h1
  refine zx ei23 gc15 rfl rfl rfl ?_
  refine zq tb rfl ?_
  obtain ⟨q16, gq16, h1⟩ := Sh.bind_some h1
  refine zc (v' := (.agg (eRProc q16))) hb55 (laws_toProc_ok gq16) rfl rfl rfl ?_
  obtain ⟨c17, gc17, h1⟩ := Sh.bind_some h1
  refine zz (.ptr 0 0 (Int.toNat i6) 0) (aq_ixo ei30 rfl rfl rfl rfl gc17) rfl ?_
  refine ao_stl (st' := [⟨0, 55, 5, List.map eRProc (Sh.put l7 i6 q16)⟩]) (u' := q16) go0 ti55 rfl rfl gc17 rfl rfl rfl (show 0 + 5 ≤ 5 by decide) rfl rfl ?_
  refine dn hK14 rfl ?_
  refine AW.regionO (by rfl) ?_
  iterate 3 refine zq tb rfl ?_
  exact AO.done (xi (Sh.w (i6 + 1), Sh.put l7 i6 q16) h1 (Wk.to (L := [(0, (.sl (List.map eRProc p0))), (3, (.own 0 0 (List.length (Sh.put l7 i6 q16)))), (4, (i64 (Sh.w (i6 + 1))))]) ⟨.rfl, (.len (by simp only [Sh.put_len])), .rfl, trivial⟩))
 ·intro b13 h1
  exact AW.exit (M9 l7 (Sh.some_eq h1).symm _ (Wk.tr rfl))
theorem laws_toImage_ok {N : Nat} {p0 : RImage} {r : RImage} (h0 : laws_toImage N p0 = some r) : ACalls Try.prog 8 [(.agg (eRImage p0))] [] (fun v st => v = (.agg (eRImage r)) ∧ st = []) := by
 unfold laws_toImage at h0
 refine ACalls.flat rfl ?_
 refine ACalls.intro Try.func8 rfl (by show 1 ≤ 13; decide) ?_
 show AW _ 0 _ (aret _ 0 Try.f8 _) ⟨13, _, _⟩
 refine AW.weaken (Wk.to (L := [(0, (.agg (eRImage p0)))]) ⟨.rfl, trivial⟩) ?_
 refine sr rfl fun K1 hK1 => ?_
 refine ao_box (m := 0) (st' := [⟨0, 25, 2, [(eRImage p0)]⟩]) go0 rfl rfl rfl rfl rfl ?_
 refine ao_alloc (m := 1) (st' := [⟨0, 25, 2, [(eRImage p0)]⟩, ⟨0, 32, 2, [[.zc, .zc]]⟩]) go0 zi32 rfl rfl ?_
 refine dn hK1 rfl ?_
 refine sr rfl fun K2 hK2 => ?_
 refine ao_alloc (m := 2) (st' := [⟨0, 25, 2, [(eRImage p0)]⟩, ⟨0, 32, 2, [[.zc, .zc]]⟩, ⟨0, 32, 2, [[.zc, .zc]]⟩]) go0 zi32 rfl rfl ?_
 refine dn hK2 rfl ?_
 refine sr rfl fun K3 hK3 => ?_
 iterate 2 refine zq tb rfl ?_
 obtain ⟨q4, gq4, h0⟩ := Sh.bind_some h0
 refine ao_call (v' := (.own 3 0 (List.length q4))) (st' := [⟨0, 25, 2, [(eRImage p0)]⟩, ⟨0, 32, 2, [[.zc, .zc]]⟩, ⟨0, 32, 2, [[.zc, .zc]]⟩, ⟨0, 94, 3, List.map eRDecl q4⟩]) go0 hb29 (laws_toDeclS_ok gq4) rfl rfl ⟨(pure_map' fun _ => rfl), trivial⟩ rfl rfl ?_
 refine zq tb rfl ?_
 refine AO.weaken (Wk.frz (L := [(1, (.ptr 0 0 0 0)), (2, (.ptr 1 0 0 0)), (3, (.ptr 2 0 0 0)), (6, (.sl (List.map eRDecl q4))), (7, (.ptr 2 0 0 0))]) (st' := [⟨0, 25, 2, [(eRImage p0)]⟩, ⟨0, 32, 2, [[.zc, .zc]]⟩, ⟨0, 32, 2, [[.zc, .zc]]⟩, ⟨1, 94, 3, []⟩]) (id := 3) rfl (show 0 ≤ 3 by decide) (pure_map fun _ => rfl) ⟨.rfl, .rfl, .rfl, (.frz rfl), .rfl, trivial⟩ rfl) ?_
 refine ao_str (st' := [⟨0, 25, 2, [(eRImage p0)]⟩, ⟨0, 32, 2, [[.zc, .zc]]⟩, ⟨0, 32, 2, [[(.sl (List.map eRDecl q4)), .zc]]⟩, ⟨1, 94, 3, []⟩]) go0 ti29 rfl rfl rfl rfl rfl rfl (show 0 + 1 ≤ 2 by decide) rfl ?_
 refine dn hK3 rfl ?_
 refine sr rfl fun K5 hK5 => ?_
 iterate 2 refine zq tb rfl ?_
 obtain ⟨q6, gq6, h0⟩ := Sh.bind_some h0
 refine ao_call (v' := (.own 4 0 (List.length q6))) (st' := [⟨0, 25, 2, [(eRImage p0)]⟩, ⟨0, 32, 2, [[.zc, .zc]]⟩, ⟨0, 32, 2, [[(.sl (List.map eRDecl q4)), .zc]]⟩, ⟨1, 94, 3, []⟩, ⟨0, 55, 5, List.map eRProc q6⟩]) go0 hb30 (laws_toProcS_ok gq6) rfl rfl ⟨(pure_map' fun _ => rfl), trivial⟩ rfl rfl ?_
 refine zq tb rfl ?_
 refine AO.weaken (Wk.frz (L := [(2, (.ptr 1 0 0 0)), (3, (.ptr 2 0 0 0)), (10, (.sl (List.map eRProc q6))), (11, (.ptr 2 0 0 1))]) (st' := [⟨0, 25, 2, [(eRImage p0)]⟩, ⟨0, 32, 2, [[.zc, .zc]]⟩, ⟨0, 32, 2, [[(.sl (List.map eRDecl q4)), .zc]]⟩, ⟨1, 94, 3, []⟩, ⟨1, 55, 5, []⟩]) (id := 4) rfl (show 0 ≤ 4 by decide) (pure_map fun _ => rfl) ⟨.rfl, .rfl, (.frz rfl), .rfl, trivial⟩ rfl) ?_
 refine ao_str (st' := [⟨0, 25, 2, [(eRImage p0)]⟩, ⟨0, 32, 2, [[.zc, .zc]]⟩, ⟨0, 32, 2, [[(.sl (List.map eRDecl q4)), (.sl (List.map eRProc q6))]]⟩, ⟨1, 94, 3, []⟩, ⟨1, 55, 5, []⟩]) go0 ti30 rfl rfl rfl rfl rfl rfl (show 1 + 1 ≤ 2 by decide) rfl ?_
 refine dn hK5 rfl ?_
 refine sr rfl fun K7 hK7 => ?_
 refine zq tb rfl ?_
 refine ao_str (st' := [⟨0, 25, 2, [(eRImage p0)]⟩, ⟨0, 32, 2, [[(.sl (List.map eRDecl q4)), (.sl (List.map eRProc q6))]]⟩, ⟨0, 32, 2, [[(.sl (List.map eRDecl q4)), (.sl (List.map eRProc q6))]]⟩, ⟨1, 94, 3, []⟩, ⟨1, 55, 5, []⟩]) go0 ti32 rfl rfl rfl rfl rfl rfl (show 0 + 2 ≤ 2 by decide) rfl ?_
 refine dn hK7 rfl ?_
 replace h0 := Sh.some_eq h0
 subst r
 exact AW.ret (Exists.intro _ (And.intro (Wk.refl _ _) (aq_ldpa (x := .tmp 2) (off := 0) (cs := [(.sl (List.map eRDecl q4)), (.sl (List.map eRProc q6))]) (vs := [(.sl (List.map eRDecl q4)), (.sl (List.map eRProc q6))]) ti32 rfl rfl rfl (show 0 + 2 ≤ 2 by decide) rfl _ rfl)))
theorem spec_sigsOfImage_ok {N : Nat} {p0 : RImage} {r : RProgram} (h0 : spec_sigsOfImage N p0 = some r) : ACalls Try.prog 52 [(.agg (eRImage p0))] [] (fun v st => v = (.agg [(.sl (List.map eRDecl r.decls)), (.sl (List.map eRFunc r.funcs))]) ∧ st = []) := by
 unfold spec_sigsOfImage at h0
 refine ACalls.flat rfl ?_
 refine ACalls.intro Try.func52 rfl (by show 1 ≤ 35; decide) ?_
 show AW _ 0 _ (aret _ 0 Try.f52 _) ⟨35, _, _⟩
 refine AW.weaken (Wk.to (L := [(0, (.agg (eRImage p0)))]) ⟨.rfl, trivial⟩) ?_
 refine sr rfl fun K1 hK1 => ?_
 refine ao_box (m := 0) (st' := [⟨0, 32, 2, [(eRImage p0)]⟩]) go0 rfl rfl rfl rfl rfl ?_
 refine ao_alloc (m := 1) (st' := [⟨0, 32, 2, [(eRImage p0)]⟩, ⟨0, 89, 2, [[.zc, .zc]]⟩]) go0 zi89 rfl rfl ?_
 refine dn hK1 rfl ?_
 refine sr rfl fun K2 hK2 => ?_
 iterate 2 refine zq tb rfl ?_
 refine ao_bs (m := 2) (st' := [⟨0, 32, 2, [(eRImage p0)]⟩, ⟨0, 89, 2, [[.zc, .zc]]⟩, ⟨0, 126, 5, List.map eRFunc ([] : List RFunc)⟩]) (l := ([] : List RFunc)) (enc := eRFunc) go0 ei87 (by decide) rfl rfl rfl rfl rfl rfl ?_
 refine zz (.agg [(.sl (List.map eRDecl p0.decls)), (.own 2 0 (List.length ([] : List RFunc)))]) (aq_bd ai89 bi89 zi89 rfl rfl) rfl ?_
 refine ao_alloc (m := 3) (st' := [⟨0, 32, 2, [(eRImage p0)]⟩, ⟨0, 89, 2, [[.zc, .zc]]⟩, ⟨0, 126, 5, List.map eRFunc ([] : List RFunc)⟩, ⟨0, 89, 2, [[.zc, .zc]]⟩]) go0 zi89 rfl rfl ?_
 refine ao_str (st' := [⟨0, 32, 2, [(eRImage p0)]⟩, ⟨0, 89, 2, [[.zc, .zc]]⟩, ⟨0, 126, 5, List.map eRFunc ([] : List RFunc)⟩, ⟨0, 89, 2, [[(.sl (List.map eRDecl p0.decls)), (.own 2 0 (List.length ([] : List RFunc)))]]⟩]) go0 ti89 rfl rfl rfl rfl rfl rfl (show 0 + 2 ≤ 2 by decide) rfl ?_
 refine dn hK2 rfl ?_
 refine AW.seq fun K3 hK3 => ?_
 refine sr rfl fun K4 hK4 => ?_
 refine zq tb rfl ?_
 refine dn hK4 rfl ?_
 obtain ⟨o8, h1, h0⟩ := Sh.bind_some h0
 have M8 : ∀ (l7 : (List RFunc)), o8 = l7 → ∀ s, Wk 0 s ⟨35, envL [(2, (.ptr 0 0 0 0)), (3, (.ptr 2 0 0 0))], [⟨0, 89, 2, [[.zc, .zc]]⟩, ⟨0, 126, 5, List.map eRFunc l7⟩, ⟨0, 89, 2, [[(.sl (List.map eRDecl p0.decls)), (.own 1 0 (List.length l7))]]⟩]⟩ → K3 s := by
  intro l7 hq s hw
  subst o8
  try dsimp only at h0
  refine hK3 _ (AW.weaken hw ?_)
  refine sr rfl fun K9 hK9 => ?_
  refine zq tb rfl ?_
  refine AO.weaken (Wk.frz (L := [(2, (.ptr 0 0 0 0)), (34, (.agg [(.sl (List.map eRDecl p0.decls)), (.sl (List.map eRFunc l7))]))]) (st' := [⟨0, 89, 2, [[.zc, .zc]]⟩, ⟨1, 126, 5, []⟩, ⟨0, 89, 2, [[(.sl (List.map eRDecl p0.decls)), (.own 1 0 (List.length l7))]]⟩]) (id := 1) rfl (show 0 ≤ 1 by decide) (pure_map fun _ => rfl) ⟨.rfl, (.agg ⟨.rfl, (.frz1 rfl), trivial⟩), trivial⟩ rfl) ?_
  refine ao_str (st' := [⟨0, 89, 2, [[(.sl (List.map eRDecl p0.decls)), (.sl (List.map eRFunc l7))]]⟩, ⟨1, 126, 5, []⟩, ⟨0, 89, 2, [[(.sl (List.map eRDecl p0.decls)), (.own 1 0 (List.length l7))]]⟩]) go0 ti89 rfl rfl rfl rfl rfl rfl (show 0 + 2 ≤ 2 by decide) rfl ?_
  refine dn hK9 rfl ?_
  replace h0 := Sh.some_eq h0
  subst r
  exact AW.ret (Exists.intro _ (And.intro (Wk.refl _ _) (aq_ldpa (x := .tmp 2) (off := 0) (cs := [(.sl (List.map eRDecl p0.decls)), (.sl (List.map eRFunc l7))]) (vs := [(.sl (List.map eRDecl p0.decls)), (.sl (List.map eRFunc l7))]) ti89 rfl rfl rfl (show 0 + 2 ≤ 2 by decide) rfl _ rfl)))
 refine AW.block (AW.loopF (σ := Int × (List RFunc)) (fun n v => spec_sigsOfImage_L1 p0 n v.1 v.2 = some o8) (fun (i5, l6) => ⟨35, envL [(1, (.ptr 0 0 0 0)), (2, (.ptr 1 0 0 0)), (3, (.ptr 3 0 0 0)), (4, (i64 i5))], [⟨0, 32, 2, [(eRImage p0)]⟩, ⟨0, 89, 2, [[.zc, .zc]]⟩, ⟨0, 126, 5, List.map eRFunc l6⟩, ⟨0, 89, 2, [[(.sl (List.map eRDecl p0.decls)), (.own 2 0 (List.length l6))]]⟩]⟩) N (0, []) h1 (Wk.tr rfl) (fun _ hv => by rw [spec_sigsOfImage_L1] at hv; cases hv) ?_)
 rintro n ⟨i5, l6⟩ h1
 try dsimp only at h1 ⊢
 rw [spec_sigsOfImage_L1] at h1
 refine AW.seq fun K10 hK10 => ?_
 refine sr rfl fun K11 hK11 => ?_
 iterate 3 refine zq tb rfl ?_
 refine zl tb rfl rfl ?_
 refine zq tb rfl ?_
 refine dn hK11 rfl ?_
 refine ci h1 rfl ?_ ?_ <;> clear h1
 ·intro b12 h1
  refine AW.skip (hK10 _ ?_)
  refine AW.seq fun K13 hK13 => ?_
  refine AW.block ?_
  refine AW.drawTailO 16 (by kernel_rfl) (by kernel_rfl) (by rfl) ?_
  iterate 5 refine yq tb rfl ?_
  obtain ⟨c14, gc14, h1⟩ := Sh.bind_some h1
  refine yx ei30 gc14 rfl rfl rfl ?_
  iterate 5 refine yq tb rfl ?_
  refine yx ei30 gc14 rfl rfl rfl ?_
  iterate 2 refine yq tb rfl ?_
  refine yz (.agg [(.sl (List.map eI c14.params)), (i64 c14.result), (i64 0), (i64 0), .zc]) (aq_bd ai126 bi126 zi126 rfl rfl) rfl ?_
  refine d_bsz (l := ([(RFunc.mk c14.params c14.result (RExpr.mk 0 0 []))])) (enc := eRFunc) (pv' := [(0, (.agg [(.sl (List.map eI c14.params)), (i64 c14.result), (i64 0), (i64 0), (.sl (List.map eRExpr []))]))]) go0 ei87 (by decide) rfl rfl (.cons (le.agg ⟨le.rfl, le.rfl, le.rfl, le.rfl, le.zc, trivial⟩) .nil) rfl rfl rfl (pure_map fun _ => rfl) ?_
  refine d_done ?_
  obtain ⟨l15, gl15, h1⟩ := Sh.bind_some h1
  refine ao_apo (st' := [⟨0, 32, 2, [(eRImage p0)]⟩, ⟨0, 89, 2, [[.zc, .zc]]⟩, ⟨1, 126, 5, List.map eRFunc l15⟩, ⟨0, 89, 2, [[(.sl (List.map eRDecl p0.decls)), (.own 2 0 (List.length l6))]]⟩]) (l2 := ([(RFunc.mk c14.params c14.result (RExpr.mk 0 0 []))])) go0 ei87 rfl rfl rfl rfl el_s (fun _ => rfl) gl15 rfl ?_
  refine zq tb rfl ?_
  refine ao_str (st' := [⟨0, 32, 2, [(eRImage p0)]⟩, ⟨0, 89, 2, [[.zc, .zc]]⟩, ⟨1, 126, 5, List.map eRFunc l15⟩, ⟨0, 89, 2, [[(.sl (List.map eRDecl p0.decls)), (.own 2 1 (List.length l15))]]⟩]) go0 ti87 rfl rfl rfl rfl rfl rfl (show 1 + 1 ≤ 2 by decide) rfl ?_
  refine dn hK13 rfl ?_
  refine AW.regionO (by rfl) ?_
  iterate 3 refine zq tb rfl ?_
  exact AO.done (xi (Sh.w (i5 + 1), l15) h1 (Wk.rg (L := [(1, (.ptr 0 0 0 0)), (2, (.ptr 1 0 0 0)), (3, (.ptr 3 0 0 0)), (4, (i64 (Sh.w (i5 + 1))))]) (st' := [⟨0, 32, 2, [(eRImage p0)]⟩, ⟨0, 89, 2, [[.zc, .zc]]⟩, ⟨0, 126, 5, List.map eRFunc l15⟩, ⟨0, 89, 2, [[(.sl (List.map eRDecl p0.decls)), (.own 2 0 (List.length l15))]]⟩]) (.raw rfl rfl (.raw rfl rfl (.pure (pure_map fun _ => rfl) (.raw rfl rfl .nil)))) ⟨.rfl, .rfl, .rfl, .rfl, trivial⟩))
 ·intro b12 h1
  exact AW.exit (M8 l6 (Sh.some_eq h1).symm _ (Wk.permk (L := [(2, (.ptr 0 0 0 0)), (3, (.ptr 2 0 0 0))]) (st' := [⟨0, 89, 2, [[.zc, .zc]]⟩, ⟨0, 126, 5, List.map eRFunc l6⟩, ⟨0, 89, 2, [[(.sl (List.map eRDecl p0.decls)), (.own 1 0 (List.length l6))]]⟩]) (st1 := [⟨0, 89, 2, [[.zc, .zc]]⟩, ⟨0, 126, 5, List.map eRFunc l6⟩, ⟨0, 89, 2, [[(.sl (List.map eRDecl p0.decls)), (.own 2 0 (List.length l6))]]⟩]) [1, 2, 3] rfl .nil (by decide) rfl rfl (.raw rfl rfl (.pure (pure_map fun _ => rfl) (.raw rfl rfl .nil))) ⟨.rfl, .rfl, trivial⟩))
theorem spec_inRange_ok {p0 : Int} {p1 : Int} {p2 : Int} {r : Bool} (h0 : spec_inRange p0 p1 p2 = some r) : ACalls Try.prog 25 [(i64 p0), (i64 p1), (i64 p2)] [] (fun v st => v = (.bool r) ∧ st = []) := by
 unfold spec_inRange at h0
 refine ACalls.intro Try.func25 rfl (by show 3 ≤ 15; decide) ?_
 show AW _ 0 _ (aret _ 0 Try.f25 _) ⟨15, _, _⟩
 refine AW.weaken (Wk.to (L := [(0, (i64 p0)), (1, (i64 p1)), (2, (i64 p2))]) ⟨.rfl, .rfl, .rfl, trivial⟩) ?_
 refine sr rfl fun K1 hK1 => ?_
 refine zq tb rfl ?_
 refine dn hK1 rfl ?_
 refine AW.seq fun K2 hK2 => ?_
 obtain ⟨o4, h1, h0⟩ := Sh.bind_some h0
 have M4 : ∀ (t3 : Bool), o4 = t3 → ∀ s, Wk 0 s ⟨15, envL [(6, (.bool t3))], []⟩ → K2 s := by
  intro t3 hq s hw
  subst o4
  try dsimp only at h0
  refine hK2 _ (AW.weaken hw ?_)
  replace h0 := Sh.some_eq h0
  subst r
  exact AW.ret (xr (Wk.to (L := [(6, (.bool t3))]) ⟨.rfl, trivial⟩))
 refine AW.regionO (by rfl) ?_
 iterate 4 refine zq tb rfl ?_
 rcases Sh.ite_some h1 with ⟨b5, h1⟩ | ⟨b5, h1⟩
 ·refine zg tb b5 rfl ?_
  iterate 2 refine zg tb b5 rfl ?_
  refine zt b5 rfl ?_
  refine zq tb rfl ?_
  exact AO.done (M4 (decide (p0 ≤ p2)) (Sh.some_eq h1).symm _ (Wk.tr rfl))
 ·refine zs b5 rfl ?_
  iterate 2 refine zs b5 rfl ?_
  refine zf b5 rfl ?_
  refine zq tb rfl ?_
  exact AO.done (M4 false (Sh.some_eq h1).symm _ (Wk.tr rfl))
theorem spec_allTypes_ok {N : Nat} {p0 : (List RDecl)} {p1 : (List Int)} {r : Bool} (h0 : spec_allTypes N p0 p1 = some r) : ACalls Try.prog 75 [(.sl (List.map eRDecl p0)), (.sl (List.map eI p1))] [] (fun v st => v = (.bool r) ∧ st = []) := by
 unfold spec_allTypes at h0
 refine ACalls.intro Try.func75 rfl (by show 2 ≤ 20; decide) ?_
 show AW _ 0 _ (aret _ 0 Try.f75 _) ⟨20, _, _⟩
 refine AW.weaken (Wk.to (L := [(0, (.sl (List.map eRDecl p0))), (1, (.sl (List.map eI p1)))]) ⟨.rfl, .rfl, trivial⟩) ?_
 refine sr rfl fun K1 hK1 => ?_
 refine zq tb rfl ?_
 refine dn hK1 rfl ?_
 refine AW.seq fun K2 hK2 => ?_
 refine sr rfl fun K3 hK3 => ?_
 refine zq tb rfl ?_
 refine dn hK3 rfl ?_
 obtain ⟨o5, h1, h0⟩ := Sh.cont_some h0
 have M5 : ∀ (_ : Unit), o5 = Sum.inr () → ∀ s, Wk 0 s ⟨20, envL [], []⟩ → K2 s := by
  intro _ hq s hw
  subst o5
  try dsimp only at h0
  refine hK2 _ (AW.weaken hw ?_)
  refine sr rfl fun K6 hK6 => ?_
  refine zq tb rfl ?_
  refine dn hK6 rfl ?_
  replace h0 := Sh.some_eq h0
  subst r
  exact AW.ret (xr (Wk.to (L := [(4, (.bool true))]) ⟨.rfl, trivial⟩))
 refine AW.block (AW.loopF (σ := Int) (fun n v => spec_allTypes_L1 p0 p1 n v = some o5) (fun i4 => ⟨20, envL [(0, (.sl (List.map eRDecl p0))), (1, (.sl (List.map eI p1))), (5, (i64 i4))], []⟩) N 0 h1 (Wk.tr rfl) (fun _ hv => by rw [spec_allTypes_L1] at hv; cases hv) ?_)
 rintro n i4 h1
 try dsimp only at h1 ⊢
 rw [spec_allTypes_L1] at h1
 refine AW.seq fun K7 hK7 => ?_
 refine sr rfl fun K8 hK8 => ?_
 iterate 2 refine zq tb rfl ?_
 refine zl tb rfl rfl ?_
 refine zq tb rfl ?_
 refine dn hK8 rfl ?_
 refine ci h1 rfl ?_ ?_ <;> clear h1
 ·intro b9 h1
  refine AW.skip (hK7 _ ?_)
  refine AW.seq fun K10 hK10 => ?_
  refine AW.block ?_
  refine sr rfl fun K11 hK11 => ?_
  iterate 2 refine zq tb rfl ?_
  obtain ⟨c12, gc12, h1⟩ := Sh.bind_some h1
  refine zx ei27 gc12 rfl rfl rfl ?_
  iterate 2 refine zq tb rfl ?_
  refine zl tb rfl rfl ?_
  obtain ⟨q13, gq13, h1⟩ := Sh.bind_some h1
  refine zc hb25 (spec_inRange_ok gq13) rfl rfl rfl ?_
  refine zq tb rfl ?_
  refine dn hK11 rfl ?_
  refine ci h1 rfl ?_ ?_ <;> clear h1
  ·intro b14 h1
   have b15 : q13 = false := by simpa using b14
   refine sr rfl fun K16 hK16 => ?_
   refine zq tb rfl ?_
   refine dn hK16 rfl ?_
   replace h1 := Sh.some_eq h1
   subst o5
   try dsimp only [id] at h0
   replace h0 := Sh.some_eq h0
   subst r
   exact AW.ret (xr (Wk.to (L := [(4, (.bool false))]) ⟨.rfl, trivial⟩))
  ·intro b14 h1
   have b17 : q13 = true := by simpa using b14
   refine AW.skip (hK10 _ ?_)
   refine AW.regionO (by rfl) ?_
   iterate 3 refine zq tb rfl ?_
   exact AO.done (xi (Sh.w (i4 + 1)) h1 (Wk.tr rfl))
 ·intro b9 h1
  exact AW.exit (M5 () (Sh.some_eq h1).symm _ (Wk.tr rfl))
theorem spec_validDecl_ok {N : Nat} {p0 : (List RDecl)} {p1 : Int} {r : Bool} (h0 : spec_validDecl N p0 p1 = some r) : ACalls Try.prog 93 [(.sl (List.map eRDecl p0)), (i64 p1)] [] (fun v st => v = (.bool r) ∧ st = []) := by
 unfold spec_validDecl at h0
 refine ACalls.intro Try.func93 rfl (by show 2 ≤ 100; decide) ?_
 show AW _ 0 _ (aret _ 0 Try.f93 _) ⟨100, _, _⟩
 refine AW.weaken (Wk.to (L := [(0, (.sl (List.map eRDecl p0))), (1, (i64 p1))]) ⟨.rfl, .rfl, trivial⟩) ?_
 refine sr rfl fun K1 hK1 => ?_
 refine zq tb rfl ?_
 refine dn hK1 rfl ?_
 refine sr rfl fun K2 hK2 => ?_
 iterate 2 refine zq tb rfl ?_
 obtain ⟨c3, gc3, h0⟩ := Sh.bind_some h0
 refine zx ei29 gc3 rfl rfl rfl ?_
 refine zq tb rfl ?_
 refine ao_alloc (m := 0) (st' := [⟨0, 94, 3, [[(i64 0), (i64 0), .zc]]⟩]) go0 zi94 rfl rfl ?_
 refine ao_str (st' := [⟨0, 94, 3, [(eRDecl c3)]⟩]) go0 ti94 rfl rfl rfl rfl rfl rfl (show 0 + 3 ≤ 3 by decide) rfl ?_
 refine dn hK2 rfl ?_
 refine AW.seq fun K4 hK4 => ?_
 refine sr rfl fun K5 hK5 => ?_
 iterate 2 refine zq tb rfl ?_
 refine zl tb rfl rfl ?_
 refine zq tb rfl ?_
 refine dn hK5 rfl ?_
 refine ci h0 rfl ?_ ?_ <;> clear h0
 ·intro b6 h0
  refine AW.seq fun K7 hK7 => ?_
  refine AW.seq fun K8 hK8 => ?_
  obtain ⟨o10, h1, h0⟩ := Sh.bind_some h0
  have M10 : ∀ (t9 : Bool), o10 = t9 → ∀ s, Wk 0 s ⟨100, envL [(0, (.sl (List.map eRDecl p0))), (5, (.ptr 0 0 0 0)), (29, (.bool t9))], [⟨0, 94, 3, [(eRDecl c3)]⟩]⟩ → K8 s := by
   intro t9 hq s hw
   subst o10
   try dsimp only at h0
   refine hK8 _ (AW.weaken hw ?_)
   refine ci h0 rfl ?_ ?_ <;> clear h0
   ·intro b11 h0
    refine sr rfl fun K12 hK12 => ?_
    refine zq tb rfl ?_
    refine dn hK12 rfl ?_
    replace h0 := Sh.some_eq h0
    subst r
    exact AW.ret (xr (Wk.d0 [(4, (.bool false))] rfl))
   ·intro b11 h0
    refine AW.skip (hK7 _ ?_)
    refine AW.seq fun K13 hK13 => ?_
    refine sr rfl fun K14 hK14 => ?_
    refine zq tb rfl ?_
    refine dn hK14 rfl ?_
    obtain ⟨o16, h1, h0⟩ := Sh.cont_some h0
    have M16 : ∀ (_ : Unit), o16 = Sum.inr () → ∀ s, Wk 0 s ⟨100, envL [], []⟩ → K13 s := by
     intro _ hq s hw
     subst o16
     try dsimp only at h0
     refine hK13 _ (AW.weaken hw ?_)
     refine sr rfl fun K17 hK17 => ?_
     refine zq tb rfl ?_
     refine dn hK17 rfl ?_
     replace h0 := Sh.some_eq h0
     subst r
     exact AW.ret (xr (Wk.to (L := [(4, (.bool true))]) ⟨.rfl, trivial⟩))
    refine AW.block (AW.loopF (σ := Int) (fun n v => spec_validDecl_L1 N c3 p0 n v = some o16) (fun i15 => ⟨100, envL [(0, (.sl (List.map eRDecl p0))), (5, (.ptr 0 0 0 0)), (6, (i64 i15))], [⟨0, 94, 3, [(eRDecl c3)]⟩]⟩) N 0 h1 (Wk.tr rfl) (fun _ hv => by rw [spec_validDecl_L1] at hv; cases hv) ?_)
    rintro n i15 h1
    try dsimp only at h1 ⊢
    rw [spec_validDecl_L1] at h1
    refine AW.seq fun K18 hK18 => ?_
    refine sr rfl fun K19 hK19 => ?_
    iterate 3 refine zq tb rfl ?_
    refine zl tb rfl rfl ?_
    refine zq tb rfl ?_
    refine dn hK19 rfl ?_
    refine ci h1 rfl ?_ ?_ <;> clear h1
    ·intro b20 h1
     refine AW.skip (hK18 _ ?_)
     refine AW.seq fun K21 hK21 => ?_
     refine AW.block ?_
     refine AW.seq fun K22 hK22 => ?_
     obtain ⟨o24, h2, h1⟩ := Sh.bind_some h1
     have M24 : ∀ (t23 : Bool), o24 = t23 → ∀ s, Wk 0 s ⟨100, envL [(0, (.sl (List.map eRDecl p0))), (5, (.ptr 0 0 0 0)), (6, (i64 i15)), (55, (.bool t23))], [⟨0, 94, 3, [(eRDecl c3)]⟩]⟩ → K22 s := by
      intro t23 hq s hw
      subst o24
      try dsimp only at h1
      refine hK22 _ (AW.weaken hw ?_)
      refine ci h1 rfl ?_ ?_ <;> clear h1
      ·intro b25 h1
       refine sr rfl fun K26 hK26 => ?_
       refine zq tb rfl ?_
       refine dn hK26 rfl ?_
       replace h1 := Sh.some_eq h1
       subst o16
       try dsimp only [id] at h0
       replace h0 := Sh.some_eq h0
       subst r
       exact AW.ret (xr (Wk.d0 [(4, (.bool false))] rfl))
      ·intro b25 h1
       refine AW.skip (hK21 _ ?_)
       refine AW.regionO (by rfl) ?_
       iterate 3 refine zq tb rfl ?_
       exact AO.done (xi (Sh.w (i15 + 1)) h1 (Wk.tr rfl))
     refine AW.regionO (by rfl) ?_
     iterate 3 refine zq tb rfl ?_
     obtain ⟨c27, gc27, h2⟩ := Sh.bind_some h2
     refine zx ei92 gc27 rfl rfl rfl ?_
     iterate 2 refine zq tb rfl ?_
     refine zl tb rfl rfl ?_
     iterate 2 refine zq tb rfl ?_
     rcases Sh.ite_some h2 with ⟨b28, h2⟩ | ⟨b28, h2⟩
     ·refine zs b28 rfl ?_
      iterate 8 refine zs b28 rfl ?_
      refine zt b28 rfl ?_
      exact AO.done (M24 true (Sh.some_eq h2).symm _ (Wk.tr rfl))
     ·refine zg tb b28 rfl ?_
      iterate 3 refine zg tb b28 rfl ?_
      refine ao_q (v := (.iptr (eRCon c27) 0)) (go1 rfl rfl b28) rfl (aq_ixs ei92 rfl rfl gc27 rfl) ?_
      iterate 2 refine zg tb b28 rfl ?_
      obtain ⟨q29, gq29, h2⟩ := Sh.bind_some h2
      refine zd b28 hb75 (spec_allTypes_ok gq29) rfl rfl rfl rfl ?_
      refine zg tb b28 rfl ?_
      refine zf b28 rfl ?_
      exact AO.done (M24 (!q29) (Sh.some_eq h2).symm _ (Wk.tr rfl))
    ·intro b20 h1
     exact AW.exit (M16 () (Sh.some_eq h1).symm _ (Wk.d0 _ rfl))
  refine AW.regionO (by rfl) ?_
  iterate 2 refine zq tb rfl ?_
  refine zl tb rfl rfl ?_
  iterate 2 refine zq tb rfl ?_
  rcases Sh.ite_some h1 with ⟨b30, h1⟩ | ⟨b30, h1⟩
  ·refine zs b30 rfl ?_
   iterate 2 refine zs b30 rfl ?_
   refine zt b30 rfl ?_
   refine zq tb rfl ?_
   iterate 3 refine zs rfl rfl ?_
   refine zt rfl rfl ?_
   exact AO.done (M10 true (Sh.some_eq h1).symm _ (Wk.tr rfl))
  ·refine zg tb b30 rfl ?_
   iterate 2 refine zg tb b30 rfl ?_
   refine zf b30 rfl ?_
   refine zq tb rfl ?_
   rcases Sh.ite_some h1 with ⟨b31, h1⟩ | ⟨b31, h1⟩
   ·refine zs b31 rfl ?_
    iterate 2 refine zs b31 rfl ?_
    refine zt b31 rfl ?_
    exact AO.done (M10 true (Sh.some_eq h1).symm _ (Wk.tr rfl))
   ·refine zg tb b31 rfl ?_
    iterate 2 refine zg tb b31 rfl ?_
    refine zf b31 rfl ?_
    exact AO.done (M10 (!decide (c3.to = 0)) (Sh.some_eq h1).symm _ (Wk.tr rfl))
 ·intro b6 h0
  refine AW.skip (hK4 _ ?_)
  refine AW.seq fun K32 hK32 => ?_
  refine sr rfl fun K33 hK33 => ?_
  refine zq tb rfl ?_
  refine dn hK33 rfl ?_
  obtain ⟨o35, h1, h0⟩ := Sh.cont_some h0
  have M35 : ∀ (_ : Unit), o35 = Sum.inr () → ∀ s, Wk 0 s ⟨100, envL [(0, (.sl (List.map eRDecl p0))), (5, (.ptr 0 0 0 0))], [⟨0, 94, 3, [(eRDecl c3)]⟩]⟩ → K32 s := by
   intro _ hq s hw
   subst o35
   try dsimp only at h0
   refine hK32 _ (AW.weaken hw ?_)
   refine AW.seq fun K36 hK36 => ?_
   obtain ⟨o38, h1, h0⟩ := Sh.bind_some h0
   have M38 : ∀ (t37 : Bool), o38 = t37 → ∀ s, Wk 0 s ⟨100, envL [(4, (.bool t37))], []⟩ → K36 s := by
    intro t37 hq s hw
    subst o38
    try dsimp only at h0
    refine hK36 _ (AW.weaken hw ?_)
    replace h0 := Sh.some_eq h0
    subst r
    exact AW.ret (xr (Wk.to (L := [(4, (.bool t37))]) ⟨.rfl, trivial⟩))
   refine AW.regionO (by rfl) ?_
   iterate 3 refine zq tb rfl ?_
   refine zl tb rfl rfl ?_
   obtain ⟨q39, gq39, h1⟩ := Sh.bind_some h1
   refine zc hb25 (spec_inRange_ok gq39) rfl rfl rfl ?_
   refine zq tb rfl ?_
   rcases Sh.ite_some h1 with ⟨b40, h1⟩ | ⟨b40, h1⟩
   ·refine zg tb b40 rfl ?_
    iterate 2 refine zg tb b40 rfl ?_
    refine ao_q (v := (i64 (Sh.len p0))) (go1 rfl rfl b40) rfl (aq_lens sl29 rfl) ?_
    obtain ⟨q41, gq41, h1⟩ := Sh.bind_some h1
    refine zd b40 hb25 (spec_inRange_ok gq41) rfl rfl rfl rfl ?_
    refine zt b40 rfl ?_
    refine zq tb rfl ?_
    exact AO.done (M38 q41 (Sh.some_eq h1).symm _ (Wk.d0 _ rfl))
   ·refine zs b40 rfl ?_
    iterate 4 refine zs b40 rfl ?_
    refine zf b40 rfl ?_
    refine zq tb rfl ?_
    exact AO.done (M38 false (Sh.some_eq h1).symm _ (Wk.d0 _ rfl))
  refine AW.block (AW.loopF (σ := Int) (fun n v => spec_validDecl_L2 c3 p0 p1 n v = some o35) (fun i34 => ⟨100, envL [(0, (.sl (List.map eRDecl p0))), (1, (i64 p1)), (5, (.ptr 0 0 0 0)), (7, (i64 i34))], [⟨0, 94, 3, [(eRDecl c3)]⟩]⟩) N 0 h1 (Wk.tr rfl) (fun _ hv => by rw [spec_validDecl_L2] at hv; cases hv) ?_)
  rintro n i34 h1
  try dsimp only at h1 ⊢
  rw [spec_validDecl_L2] at h1
  refine AW.seq fun K42 hK42 => ?_
  refine sr rfl fun K43 hK43 => ?_
  iterate 3 refine zq tb rfl ?_
  refine dn hK43 rfl ?_
  refine ci h1 rfl ?_ ?_ <;> clear h1
  ·intro b44 h1
   refine AW.skip (hK42 _ ?_)
   refine AW.seq fun K45 hK45 => ?_
   refine AW.block ?_
   refine AW.seq fun K46 hK46 => ?_
   obtain ⟨o48, h2, h1⟩ := Sh.bind_some h1
   have M48 : ∀ (t47 : Bool), o48 = t47 → ∀ s, Wk 0 s ⟨100, envL [(0, (.sl (List.map eRDecl p0))), (1, (i64 p1)), (5, (.ptr 0 0 0 0)), (7, (i64 i34)), (87, (.bool t47))], [⟨0, 94, 3, [(eRDecl c3)]⟩]⟩ → K46 s := by
    intro t47 hq s hw
    subst o48
    try dsimp only at h1
    refine hK46 _ (AW.weaken hw ?_)
    refine ci h1 rfl ?_ ?_ <;> clear h1
    ·intro b49 h1
     refine sr rfl fun K50 hK50 => ?_
     refine zq tb rfl ?_
     refine dn hK50 rfl ?_
     replace h1 := Sh.some_eq h1
     subst o35
     try dsimp only [id] at h0
     replace h0 := Sh.some_eq h0
     subst r
     exact AW.ret (xr (Wk.d0 [(4, (.bool false))] rfl))
    ·intro b49 h1
     refine AW.skip (hK45 _ ?_)
     refine AW.regionO (by rfl) ?_
     iterate 3 refine zq tb rfl ?_
     exact AO.done (xi (Sh.w (i34 + 1)) h1 (Wk.tr rfl))
   refine AW.draw (by kernel_rfl) (by kernel_rfl) (by rfl) ?_
   iterate 2 refine yq tb rfl ?_
   obtain ⟨c51, gc51, h2⟩ := Sh.bind_some h2
   refine yx ei29 gc51 rfl rfl rfl ?_
   iterate 2 refine yq tb rfl ?_
   refine yl tb rfl rfl ?_
   iterate 2 refine yq tb rfl ?_
   rcases Sh.ite_some h2 with ⟨b52, h2⟩ | ⟨b52, h2⟩
   ·refine yg tb b52 rfl ?_
    refine yg tb b52 rfl ?_
    refine d_q (v := (.iptr (eRDecl c51) 0)) (go1 rfl rfl b52) rfl (aq_ixs ei29 rfl rfl gc51 rfl) ?_
    iterate 5 refine yg tb b52 rfl ?_
    refine yt b52 rfl ?_
    refine yq tb rfl ?_
    rcases Sh.ite_some h2 with ⟨b53, h2⟩ | ⟨b53, h2⟩
    ·refine yg tb b53 rfl ?_
     refine yg tb b53 rfl ?_
     refine d_q (v := (.iptr (eRDecl c51) 0)) (go1 rfl rfl b53) rfl (aq_ixs ei29 rfl rfl gc51 rfl) ?_
     iterate 5 refine yg tb b53 rfl ?_
     refine yt b53 rfl ?_
     exact d_done (M48 (decide (c51.to = c3.to)) (Sh.some_eq h2).symm _ (Wk.tr rfl))
    ·refine ys b53 rfl ?_
     iterate 7 refine ys b53 rfl ?_
     refine yf b53 rfl ?_
     exact d_done (M48 false (Sh.some_eq h2).symm _ (Wk.tr rfl))
   ·refine ys b52 rfl ?_
    iterate 7 refine ys b52 rfl ?_
    refine yf b52 rfl ?_
    refine yq tb rfl ?_
    iterate 8 refine ys rfl rfl ?_
    refine yf rfl rfl ?_
    exact d_done (M48 false (Sh.some_eq h2).symm _ (Wk.tr rfl))
  ·intro b44 h1
   exact AW.exit (M35 () (Sh.some_eq h1).symm _ (Wk.tr rfl))
theorem spec_validTypes_ok {N : Nat} {p0 : (List RDecl)} {r : Bool} (h0 : spec_validTypes N p0 = some r) : ACalls Try.prog 74 [(.sl (List.map eRDecl p0))] [] (fun v st => v = (.bool r) ∧ st = []) := by
 unfold spec_validTypes at h0
 refine ACalls.intro Try.func74 rfl (by show 1 ≤ 17; decide) ?_
 show AW _ 0 _ (aret _ 0 Try.f74 _) ⟨17, _, _⟩
 refine AW.weaken (Wk.to (L := [(0, (.sl (List.map eRDecl p0)))]) ⟨.rfl, trivial⟩) ?_
 refine sr rfl fun K1 hK1 => ?_
 refine zq tb rfl ?_
 refine dn hK1 rfl ?_
 refine AW.seq fun K2 hK2 => ?_
 refine sr rfl fun K3 hK3 => ?_
 refine zq tb rfl ?_
 refine zl tb rfl rfl ?_
 refine zq tb rfl ?_
 refine dn hK3 rfl ?_
 refine ci h0 rfl ?_ ?_ <;> clear h0
 ·intro b4 h0
  refine sr rfl fun K5 hK5 => ?_
  refine zq tb rfl ?_
  refine dn hK5 rfl ?_
  replace h0 := Sh.some_eq h0
  subst r
  exact AW.ret (xr (Wk.to (L := [(2, (.bool false))]) ⟨.rfl, trivial⟩))
 ·intro b4 h0
  refine AW.skip (hK2 _ ?_)
  refine AW.seq fun K6 hK6 => ?_
  refine sr rfl fun K7 hK7 => ?_
  refine zq tb rfl ?_
  refine dn hK7 rfl ?_
  obtain ⟨o9, h1, h0⟩ := Sh.cont_some h0
  have M9 : ∀ (_ : Unit), o9 = Sum.inr () → ∀ s, Wk 0 s ⟨17, envL [], []⟩ → K6 s := by
   intro _ hq s hw
   subst o9
   try dsimp only at h0
   refine hK6 _ (AW.weaken hw ?_)
   refine sr rfl fun K10 hK10 => ?_
   refine zq tb rfl ?_
   refine dn hK10 rfl ?_
   replace h0 := Sh.some_eq h0
   subst r
   exact AW.ret (xr (Wk.to (L := [(2, (.bool true))]) ⟨.rfl, trivial⟩))
  refine AW.block (AW.loopF (σ := Int) (fun n v => spec_validTypes_L1 N p0 n v = some o9) (fun i8 => ⟨17, envL [(0, (.sl (List.map eRDecl p0))), (3, (i64 i8))], []⟩) N 0 h1 (Wk.tr rfl) (fun _ hv => by rw [spec_validTypes_L1] at hv; cases hv) ?_)
  rintro n i8 h1
  try dsimp only at h1 ⊢
  rw [spec_validTypes_L1] at h1
  refine AW.seq fun K11 hK11 => ?_
  refine sr rfl fun K12 hK12 => ?_
  iterate 2 refine zq tb rfl ?_
  refine zl tb rfl rfl ?_
  refine zq tb rfl ?_
  refine dn hK12 rfl ?_
  refine ci h1 rfl ?_ ?_ <;> clear h1
  ·intro b13 h1
   refine AW.skip (hK11 _ ?_)
   refine AW.seq fun K14 hK14 => ?_
   refine AW.block ?_
   refine sr rfl fun K15 hK15 => ?_
   iterate 2 refine zq tb rfl ?_
   obtain ⟨q16, gq16, h1⟩ := Sh.bind_some h1
   refine zc hb93 (spec_validDecl_ok gq16) rfl rfl rfl ?_
   refine zq tb rfl ?_
   refine dn hK15 rfl ?_
   refine ci h1 rfl ?_ ?_ <;> clear h1
   ·intro b17 h1
    have b18 : q16 = false := by simpa using b17
    refine sr rfl fun K19 hK19 => ?_
    refine zq tb rfl ?_
    refine dn hK19 rfl ?_
    replace h1 := Sh.some_eq h1
    subst o9
    try dsimp only [id] at h0
    replace h0 := Sh.some_eq h0
    subst r
    exact AW.ret (xr (Wk.to (L := [(2, (.bool false))]) ⟨.rfl, trivial⟩))
   ·intro b17 h1
    have b20 : q16 = true := by simpa using b17
    refine AW.skip (hK14 _ ?_)
    refine AW.regionO (by rfl) ?_
    iterate 3 refine zq tb rfl ?_
    exact AO.done (xi (Sh.w (i8 + 1)) h1 (Wk.tr rfl))
  ·intro b13 h1
   exact AW.exit (M9 () (Sh.some_eq h1).symm _ (Wk.tr rfl))
theorem spec_validSigs_ok {N : Nat} {p0 : RProgram} {r : Bool} (h0 : spec_validSigs N p0 = some r) : ACalls Try.prog 51 [(.agg [(.sl (List.map eRDecl p0.decls)), (.sl (List.map eRFunc p0.funcs))])] [] (fun v st => v = (.bool r) ∧ st = []) := by
 unfold spec_validSigs at h0
 refine ACalls.intro Try.func51 rfl (by show 1 ≤ 64; decide) ?_
 show AW _ 0 _ (aret _ 0 Try.f51 _) ⟨64, _, _⟩
 refine AW.weaken (Wk.to (L := [(0, (.agg [(.sl (List.map eRDecl p0.decls)), (.sl (List.map eRFunc p0.funcs))]))]) ⟨.rfl, trivial⟩) ?_
 refine sr rfl fun K1 hK1 => ?_
 refine ao_box (m := 0) (st' := [⟨0, 89, 2, [[(.sl (List.map eRDecl p0.decls)), (.sl (List.map eRFunc p0.funcs))]]⟩]) go0 rfl rfl rfl rfl rfl ?_
 refine zq tb rfl ?_
 refine dn hK1 rfl ?_
 refine AW.seq fun K2 hK2 => ?_
 refine AW.seq fun K3 hK3 => ?_
 obtain ⟨o5, h1, h0⟩ := Sh.bind_some h0
 have M5 : ∀ (t4 : Bool), o5 = t4 → ∀ s, Wk 0 s ⟨64, envL [(1, (.ptr 0 0 0 0)), (15, (.bool t4))], [⟨0, 89, 2, [[(.sl (List.map eRDecl p0.decls)), (.sl (List.map eRFunc p0.funcs))]]⟩]⟩ → K3 s := by
  intro t4 hq s hw
  subst o5
  try dsimp only at h0
  refine hK3 _ (AW.weaken hw ?_)
  refine ci h0 rfl ?_ ?_ <;> clear h0
  ·intro b6 h0
   refine sr rfl fun K7 hK7 => ?_
   refine zq tb rfl ?_
   refine dn hK7 rfl ?_
   replace h0 := Sh.some_eq h0
   subst r
   exact AW.ret (xr (Wk.d0 [(2, (.bool false))] rfl))
  ·intro b6 h0
   refine AW.skip (hK2 _ ?_)
   refine AW.seq fun K8 hK8 => ?_
   refine sr rfl fun K9 hK9 => ?_
   refine zq tb rfl ?_
   refine dn hK9 rfl ?_
   obtain ⟨o11, h1, h0⟩ := Sh.cont_some h0
   have M11 : ∀ (_ : Unit), o11 = Sum.inr () → ∀ s, Wk 0 s ⟨64, envL [(1, (.ptr 0 0 0 0))], [⟨0, 89, 2, [[(.sl (List.map eRDecl p0.decls)), (.sl (List.map eRFunc p0.funcs))]]⟩]⟩ → K8 s := by
    intro _ hq s hw
    subst o11
    try dsimp only at h0
    refine hK8 _ (AW.weaken hw ?_)
    refine AW.seq fun K12 hK12 => ?_
    obtain ⟨o14, h1, h0⟩ := Sh.bind_some h0
    have M14 : ∀ (t13 : Bool), o14 = t13 → ∀ s, Wk 0 s ⟨64, envL [(2, (.bool t13))], []⟩ → K12 s := by
     intro t13 hq s hw
     subst o14
     try dsimp only at h0
     refine hK12 _ (AW.weaken hw ?_)
     replace h0 := Sh.some_eq h0
     subst r
     exact AW.ret (xr (Wk.to (L := [(2, (.bool t13))]) ⟨.rfl, trivial⟩))
    refine AW.regionO (by rfl) ?_
    iterate 2 refine zq tb rfl ?_
    obtain ⟨c15, gc15, h1⟩ := Sh.bind_some h1
    refine zx ei87 gc15 rfl rfl rfl ?_
    iterate 2 refine zq tb rfl ?_
    refine zl tb rfl rfl ?_
    iterate 2 refine zq tb rfl ?_
    rcases Sh.ite_some h1 with ⟨b16, h1⟩ | ⟨b16, h1⟩
    ·refine zg tb b16 rfl ?_
     refine zg tb b16 rfl ?_
     refine ao_q (v := (.iptr (eRFunc c15) 0)) (go1 rfl rfl b16) rfl (aq_ixs ei87 rfl rfl gc15 rfl) ?_
     iterate 3 refine zg tb b16 rfl ?_
     refine zt b16 rfl ?_
     refine zq tb rfl ?_
     exact AO.done (M14 (decide (c15.result = 0)) (Sh.some_eq h1).symm _ (Wk.d0 _ rfl))
    ·refine zs b16 rfl ?_
     iterate 5 refine zs b16 rfl ?_
     refine zf b16 rfl ?_
     refine zq tb rfl ?_
     exact AO.done (M14 false (Sh.some_eq h1).symm _ (Wk.d0 _ rfl))
   refine AW.block (AW.loopF (σ := Int) (fun n v => spec_validSigs_L1 N p0 n v = some o11) (fun i10 => ⟨64, envL [(1, (.ptr 0 0 0 0)), (3, (i64 i10))], [⟨0, 89, 2, [[(.sl (List.map eRDecl p0.decls)), (.sl (List.map eRFunc p0.funcs))]]⟩]⟩) N 0 h1 (Wk.tr rfl) (fun _ hv => by rw [spec_validSigs_L1] at hv; cases hv) ?_)
   rintro n i10 h1
   try dsimp only at h1 ⊢
   rw [spec_validSigs_L1] at h1
   refine AW.seq fun K17 hK17 => ?_
   refine sr rfl fun K18 hK18 => ?_
   iterate 3 refine zq tb rfl ?_
   refine zl tb rfl rfl ?_
   refine zq tb rfl ?_
   refine dn hK18 rfl ?_
   refine ci h1 rfl ?_ ?_ <;> clear h1
   ·intro b19 h1
    refine AW.skip (hK17 _ ?_)
    refine AW.seq fun K20 hK20 => ?_
    refine AW.block ?_
    refine sr rfl fun K21 hK21 => ?_
    iterate 3 refine zq tb rfl ?_
    obtain ⟨c22, gc22, h1⟩ := Sh.bind_some h1
    refine zx ei87 gc22 rfl rfl rfl ?_
    refine zq tb rfl ?_
    refine ao_alloc (m := 1) (st' := [⟨0, 89, 2, [[(.sl (List.map eRDecl p0.decls)), (.sl (List.map eRFunc p0.funcs))]]⟩, ⟨0, 126, 5, [[.zc, (i64 0), (i64 0), (i64 0), .zc]]⟩]) go0 zi126 rfl rfl ?_
    refine ao_str (st' := [⟨0, 89, 2, [[(.sl (List.map eRDecl p0.decls)), (.sl (List.map eRFunc p0.funcs))]]⟩, ⟨0, 126, 5, [[(.sl (List.map eI c22.params)), (i64 c22.result), (i64 c22.body.op), (i64 c22.body.num), (.sl (List.map eRExpr c22.body.kids))]]⟩]) go0 ti126 rfl rfl rfl rfl rfl rfl (show 0 + 5 ≤ 5 by decide) rfl ?_
    refine dn hK21 rfl ?_
    refine AW.seq fun K23 hK23 => ?_
    obtain ⟨o25, h2, h1⟩ := Sh.bind_some h1
    have M25 : ∀ (t24 : Bool), o25 = t24 → ∀ s, Wk 0 s ⟨64, envL [(1, (.ptr 0 0 0 0)), (3, (i64 i10)), (48, (.bool t24))], [⟨0, 89, 2, [[(.sl (List.map eRDecl p0.decls)), (.sl (List.map eRFunc p0.funcs))]]⟩]⟩ → K23 s := by
     intro t24 hq s hw
     subst o25
     try dsimp only at h1
     refine hK23 _ (AW.weaken hw ?_)
     refine ci h1 rfl ?_ ?_ <;> clear h1
     ·intro b26 h1
      refine sr rfl fun K27 hK27 => ?_
      refine zq tb rfl ?_
      refine dn hK27 rfl ?_
      replace h1 := Sh.some_eq h1
      subst o11
      try dsimp only [id] at h0
      replace h0 := Sh.some_eq h0
      subst r
      exact AW.ret (xr (Wk.d0 [(2, (.bool false))] rfl))
     ·intro b26 h1
      refine AW.skip (hK20 _ ?_)
      refine AW.regionO (by rfl) ?_
      iterate 3 refine zq tb rfl ?_
      exact AO.done (xi (Sh.w (i10 + 1)) h1 (Wk.tr rfl))
    refine AW.regionO (by rfl) ?_
    iterate 2 refine zq tb rfl ?_
    refine zl tb rfl rfl ?_
    iterate 2 refine zq tb rfl ?_
    rcases Sh.ite_some h2 with ⟨b28, h2⟩ | ⟨b28, h2⟩
    ·refine zs b28 rfl ?_
     iterate 5 refine zs b28 rfl ?_
     refine zt b28 rfl ?_
     refine zq tb rfl ?_
     iterate 7 refine zs rfl rfl ?_
     refine zt rfl rfl ?_
     exact AO.done (M25 true (Sh.some_eq h2).symm _ (Wk.permk (L := [(1, (.ptr 0 0 0 0)), (3, (i64 i10)), (48, (.bool true))]) (st' := [⟨0, 89, 2, [[(.sl (List.map eRDecl p0.decls)), (.sl (List.map eRFunc p0.funcs))]]⟩]) (st1 := [⟨0, 89, 2, [[(.sl (List.map eRDecl p0.decls)), (.sl (List.map eRFunc p0.funcs))]]⟩]) [0] rfl .nil (by decide) rfl rfl (.raw rfl rfl .nil) ⟨.rfl, .rfl, .rfl, trivial⟩))
    ·refine zg tb b28 rfl ?_
     iterate 3 refine zg tb b28 rfl ?_
     obtain ⟨q29, gq29, h2⟩ := Sh.bind_some h2
     refine zd b28 hb75 (spec_allTypes_ok gq29) rfl rfl rfl rfl ?_
     refine zg tb b28 rfl ?_
     refine zf b28 rfl ?_
     refine zq tb rfl ?_
     rcases Sh.ite_some h2 with ⟨b30, h2⟩ | ⟨b30, h2⟩
     ·refine zs b30 rfl ?_
      iterate 6 refine zs b30 rfl ?_
      refine zt b30 rfl ?_
      exact AO.done (M25 true (Sh.some_eq h2).symm _ (Wk.permk (L := [(1, (.ptr 0 0 0 0)), (3, (i64 i10)), (48, (.bool true))]) (st' := [⟨0, 89, 2, [[(.sl (List.map eRDecl p0.decls)), (.sl (List.map eRFunc p0.funcs))]]⟩]) (st1 := [⟨0, 89, 2, [[(.sl (List.map eRDecl p0.decls)), (.sl (List.map eRFunc p0.funcs))]]⟩]) [0] rfl .nil (by decide) rfl rfl (.raw rfl rfl .nil) ⟨.rfl, .rfl, .rfl, trivial⟩))
     ·refine zg tb b30 rfl ?_
      iterate 3 refine zg tb b30 rfl ?_
      refine ao_q (v := (i64 (Sh.len p0.decls))) (go1 rfl rfl b30) rfl (aq_lens sl29 rfl) ?_
      obtain ⟨q31, gq31, h2⟩ := Sh.bind_some h2
      refine zd b30 hb25 (spec_inRange_ok gq31) rfl rfl rfl rfl ?_
      refine zg tb b30 rfl ?_
      refine zf b30 rfl ?_
      exact AO.done (M25 (!q31) (Sh.some_eq h2).symm _ (Wk.permk (L := [(1, (.ptr 0 0 0 0)), (3, (i64 i10)), (48, (.bool (!q31)))]) (st' := [⟨0, 89, 2, [[(.sl (List.map eRDecl p0.decls)), (.sl (List.map eRFunc p0.funcs))]]⟩]) (st1 := [⟨0, 89, 2, [[(.sl (List.map eRDecl p0.decls)), (.sl (List.map eRFunc p0.funcs))]]⟩]) [0] rfl .nil (by decide) rfl rfl (.raw rfl rfl .nil) ⟨.rfl, .rfl, .rfl, trivial⟩))
   ·intro b19 h1
    exact AW.exit (M11 () (Sh.some_eq h1).symm _ (Wk.tr rfl))
 refine AW.regionO (by rfl) ?_
 iterate 2 refine zq tb rfl ?_
 obtain ⟨q32, gq32, h1⟩ := Sh.bind_some h1
 refine zc hb74 (spec_validTypes_ok gq32) rfl rfl rfl ?_
 iterate 2 refine zq tb rfl ?_
 rcases Sh.ite_some h1 with ⟨b33, h1⟩ | ⟨b33, h1⟩
 ·refine zs b33 rfl ?_
  iterate 4 refine zs b33 rfl ?_
  refine zt b33 rfl ?_
  exact AO.done (M5 true (Sh.some_eq h1).symm _ (Wk.tr rfl))
 ·refine zg tb b33 rfl ?_
  refine zg tb b33 rfl ?_
  refine ao_q (v := (i64 (Sh.len p0.funcs))) (go1 rfl rfl b33) rfl (aq_lens sl87 rfl) ?_
  obtain ⟨q34, gq34, h1⟩ := Sh.bind_some h1
  refine zd b33 hb25 (spec_inRange_ok gq34) rfl rfl rfl rfl ?_
  refine zg tb b33 rfl ?_
  refine zf b33 rfl ?_
  exact AO.done (M5 (!q34) (Sh.some_eq h1).symm _ (Wk.tr rfl))
theorem spec_validLent_ok {N : Nat} {p0 : (List Int)} {p1 : (List Int)} {r : Bool} (h0 : spec_validLent N p0 p1 = some r) : ACalls Try.prog 76 [(.sl (List.map eI p0)), (.sl (List.map eI p1))] [] (fun v st => v = (.bool r) ∧ st = []) := by
 unfold spec_validLent at h0
 refine ACalls.intro Try.func76 rfl (by show 2 ≤ 47; decide) ?_
 show AW _ 0 _ (aret _ 0 Try.f76 _) ⟨47, _, _⟩
 refine AW.weaken (Wk.to (L := [(0, (.sl (List.map eI p0))), (1, (.sl (List.map eI p1)))]) ⟨.rfl, .rfl, trivial⟩) ?_
 refine sr rfl fun K1 hK1 => ?_
 refine zq tb rfl ?_
 refine dn hK1 rfl ?_
 refine AW.seq fun K2 hK2 => ?_
 refine sr rfl fun K3 hK3 => ?_
 refine zq tb rfl ?_
 refine dn hK3 rfl ?_
 obtain ⟨o5, h1, h0⟩ := Sh.cont_some h0
 have M5 : ∀ (_ : Unit), o5 = Sum.inr () → ∀ s, Wk 0 s ⟨47, envL [], []⟩ → K2 s := by
  intro _ hq s hw
  subst o5
  try dsimp only at h0
  refine hK2 _ (AW.weaken hw ?_)
  refine sr rfl fun K6 hK6 => ?_
  refine zq tb rfl ?_
  refine dn hK6 rfl ?_
  replace h0 := Sh.some_eq h0
  subst r
  exact AW.ret (xr (Wk.to (L := [(4, (.bool true))]) ⟨.rfl, trivial⟩))
 refine AW.block (AW.loopF (σ := Int) (fun n v => spec_validLent_L1 p0 p1 n v = some o5) (fun i4 => ⟨47, envL [(0, (.sl (List.map eI p0))), (1, (.sl (List.map eI p1))), (5, (i64 i4))], []⟩) N 0 h1 (Wk.tr rfl) (fun _ hv => by rw [spec_validLent_L1] at hv; cases hv) ?_)
 rintro n i4 h1
 try dsimp only at h1 ⊢
 rw [spec_validLent_L1] at h1
 refine AW.seq fun K7 hK7 => ?_
 refine sr rfl fun K8 hK8 => ?_
 iterate 2 refine zq tb rfl ?_
 refine zl tb rfl rfl ?_
 refine zq tb rfl ?_
 refine dn hK8 rfl ?_
 refine ci h1 rfl ?_ ?_ <;> clear h1
 ·intro b9 h1
  refine AW.skip (hK7 _ ?_)
  refine AW.seq fun K10 hK10 => ?_
  refine AW.block ?_
  refine AW.seq fun K11 hK11 => ?_
  obtain ⟨o13, h2, h1⟩ := Sh.bind_some h1
  have M13 : ∀ (t12 : Bool), o13 = t12 → ∀ s, Wk 0 s ⟨47, envL [(0, (.sl (List.map eI p0))), (1, (.sl (List.map eI p1))), (5, (i64 i4)), (46, (.bool t12))], []⟩ → K11 s := by
   intro t12 hq s hw
   subst o13
   try dsimp only at h1
   refine hK11 _ (AW.weaken hw ?_)
   refine ci h1 rfl ?_ ?_ <;> clear h1
   ·intro b14 h1
    refine sr rfl fun K15 hK15 => ?_
    refine zq tb rfl ?_
    refine dn hK15 rfl ?_
    replace h1 := Sh.some_eq h1
    subst o5
    try dsimp only [id] at h0
    replace h0 := Sh.some_eq h0
    subst r
    exact AW.ret (xr (Wk.to (L := [(4, (.bool false))]) ⟨.rfl, trivial⟩))
   ·intro b14 h1
    refine AW.skip (hK10 _ ?_)
    refine AW.regionO (by rfl) ?_
    iterate 3 refine zq tb rfl ?_
    exact AO.done (xi (Sh.w (i4 + 1)) h1 (Wk.tr rfl))
  refine AW.draw (by kernel_rfl) (by kernel_rfl) (by rfl) ?_
  iterate 2 refine yq tb rfl ?_
  obtain ⟨c16, gc16, h2⟩ := Sh.bind_some h2
  refine yx ei27 gc16 rfl rfl rfl ?_
  iterate 2 refine yq tb rfl ?_
  refine yl tb rfl rfl ?_
  refine yq tb rfl ?_
  obtain ⟨q17, gq17, h2⟩ := Sh.bind_some h2
  refine d_call (v := (.bool q17)) go0 hb25 (spec_inRange_ok gq17) rfl rfl rfl ?_
  iterate 2 refine yq tb rfl ?_
  rcases Sh.ite_some h2 with ⟨b18, h2⟩ | ⟨b18, h2⟩
  ·refine ys b18 rfl ?_
   iterate 7 refine ys b18 rfl ?_
   refine yt b18 rfl ?_
   refine yq tb rfl ?_
   iterate 3 refine ys rfl rfl ?_
   iterate 10 refine yn rfl ?_
   refine ys rfl rfl ?_
   refine yt rfl rfl ?_
   exact d_done (M13 true (Sh.some_eq h2).symm _ (Wk.tr rfl))
  ·refine yg tb b18 rfl ?_
   iterate 2 refine yg tb b18 rfl ?_
   refine d_q (v := (.iptr (eI c16) 0)) (go1 rfl rfl b18) rfl (aq_ixs ei27 rfl rfl gc16 rfl) ?_
   refine yg tb b18 rfl ?_
   obtain ⟨c19, gc19, h2⟩ := Sh.bind_some h2
   refine d_q (v := (.iptr (eI c19) 0)) (go1 rfl rfl b18) rfl (aq_ixs ei27 rfl rfl gc19 rfl) ?_
   iterate 2 refine yg tb b18 rfl ?_
   refine yf b18 rfl ?_
   refine yq tb rfl ?_
   rcases Sh.ite_some h2 with ⟨b20, h2⟩ | ⟨b20, h2⟩
   ·refine ys b20 rfl ?_
    iterate 2 refine ys b20 rfl ?_
    iterate 10 refine yn rfl ?_
    refine ys b20 rfl ?_
    refine yt b20 rfl ?_
    exact d_done (M13 true (Sh.some_eq h2).symm _ (Wk.tr rfl))
   ·refine yg tb b20 rfl ?_
    iterate 2 refine yg tb b20 rfl ?_
    rcases Sh.ite_some h2 with ⟨b21, h2⟩ | ⟨b21, h2⟩
    ·refine yg tb b21 rfl ?_
     refine yg tb b21 rfl ?_
     refine d_q (v := (.iptr (eI c16) 0)) (go1 rfl rfl b21) rfl (aq_ixs ei27 rfl rfl gc16 rfl) ?_
     iterate 4 refine yg tb b21 rfl ?_
     obtain ⟨c22, gc22, h2⟩ := Sh.bind_some h2
     refine d_q (v := (.iptr (eI c22) 0)) (go1 rfl rfl b21) rfl (aq_ixs ei27 rfl rfl gc22 rfl) ?_
     iterate 2 refine yg tb b21 rfl ?_
     refine d_q (v := (.bool (decide (c16 ≤ c22)))) (go1 rfl rfl b20) rfl (aq_pkt rfl b21 rfl) ?_
     refine yf b20 rfl ?_
     exact d_done (M13 (decide (c16 ≤ c22)) (Sh.some_eq h2).symm _ (Wk.tr rfl))
    ·refine ys b21 rfl ?_
     iterate 9 refine ys b21 rfl ?_
     refine d_q (v := (.bool false)) (go1 rfl rfl b20) rfl (aq_pkf rfl b21 rfl) ?_
     refine yf b20 rfl ?_
     exact d_done (M13 false (Sh.some_eq h2).symm _ (Wk.tr rfl))
 ·intro b9 h1
  exact AW.exit (M5 () (Sh.some_eq h1).symm _ (Wk.tr rfl))
theorem spec_defines_ok {p0 : Int} {r : Bool} (h0 : spec_defines p0 = some r) : ACalls Try.prog 89 [(i64 p0)] [] (fun v st => v = (.bool r) ∧ st = []) := by
 unfold spec_defines at h0
 refine ACalls.intro Try.func89 rfl (by show 1 ≤ 5; decide) ?_
 show AW _ 0 _ (aret _ 0 Try.f89 _) ⟨5, _, _⟩
 refine AW.weaken (Wk.to (L := [(0, (i64 p0))]) ⟨.rfl, trivial⟩) ?_
 refine sr rfl fun K1 hK1 => ?_
 refine zq tb rfl ?_
 refine dn hK1 rfl ?_
 refine sr rfl fun K2 hK2 => ?_
 refine zq tb rfl ?_
 obtain ⟨q3, gq3, h0⟩ := Sh.bind_some h0
 refine zc hb25 (spec_inRange_ok gq3) rfl rfl rfl ?_
 refine zq tb rfl ?_
 refine dn hK2 rfl ?_
 replace h0 := Sh.some_eq h0
 subst r
 exact AW.ret (xr (Wk.to (L := [(2, (.bool q3))]) ⟨.rfl, trivial⟩))
theorem spec_sets_ok {p0 : Int} {r : Bool} (h0 : spec_sets p0 = some r) : ACalls Try.prog 63 [(i64 p0)] [] (fun v st => v = (.bool r) ∧ st = []) := by
 unfold spec_sets at h0
 refine ACalls.intro Try.func63 rfl (by show 1 ≤ 21; decide) ?_
 show AW _ 0 _ (aret _ 0 Try.f63 _) ⟨21, _, _⟩
 refine AW.weaken (Wk.to (L := [(0, (i64 p0))]) ⟨.rfl, trivial⟩) ?_
 refine sr rfl fun K1 hK1 => ?_
 refine zq tb rfl ?_
 refine dn hK1 rfl ?_
 refine AW.seq fun K2 hK2 => ?_
 obtain ⟨o4, h1, h0⟩ := Sh.bind_some h0
 have M4 : ∀ (t3 : Bool), o4 = t3 → ∀ s, Wk 0 s ⟨21, envL [(2, (.bool t3))], []⟩ → K2 s := by
  intro t3 hq s hw
  subst o4
  try dsimp only at h0
  refine hK2 _ (AW.weaken hw ?_)
  replace h0 := Sh.some_eq h0
  subst r
  exact AW.ret (xr (Wk.to (L := [(2, (.bool t3))]) ⟨.rfl, trivial⟩))
 refine AW.regionO (by rfl) ?_
 refine zq tb rfl ?_
 obtain ⟨q5, gq5, h1⟩ := Sh.bind_some h1
 refine zc hb89 (spec_defines_ok gq5) rfl rfl rfl ?_
 refine zq tb rfl ?_
 rcases Sh.ite_some h1 with ⟨b6, h1⟩ | ⟨b6, h1⟩
 ·refine zg tb b6 rfl ?_
  refine zg tb b6 rfl ?_
  refine zt b6 rfl ?_
  refine zq tb rfl ?_
  rcases Sh.ite_some h1 with ⟨b7, h1⟩ | ⟨b7, h1⟩
  ·refine zg tb b7 rfl ?_
   refine zg tb b7 rfl ?_
   refine zt b7 rfl ?_
   refine zq tb rfl ?_
   rcases Sh.ite_some h1 with ⟨b8, h1⟩ | ⟨b8, h1⟩
   ·refine zs b8 rfl ?_
    refine zs b8 rfl ?_
    refine zt b8 rfl ?_
    refine zq tb rfl ?_
    iterate 2 refine zs rfl rfl ?_
    refine zt rfl rfl ?_
    refine zq tb rfl ?_
    exact AO.done (M4 true (Sh.some_eq h1).symm _ (Wk.tr rfl))
   ·refine zg tb b8 rfl ?_
    refine zg tb b8 rfl ?_
    refine zf b8 rfl ?_
    refine zq tb rfl ?_
    rcases Sh.ite_some h1 with ⟨b9, h1⟩ | ⟨b9, h1⟩
    ·refine zs b9 rfl ?_
     refine zs b9 rfl ?_
     refine zt b9 rfl ?_
     refine zq tb rfl ?_
     exact AO.done (M4 true (Sh.some_eq h1).symm _ (Wk.tr rfl))
    ·refine zg tb b9 rfl ?_
     refine zg tb b9 rfl ?_
     refine zf b9 rfl ?_
     refine zq tb rfl ?_
     exact AO.done (M4 (decide (p0 = 19)) (Sh.some_eq h1).symm _ (Wk.tr rfl))
  ·refine zs b7 rfl ?_
   refine zs b7 rfl ?_
   refine zf b7 rfl ?_
   refine zq tb rfl ?_
   iterate 2 refine zg tb rfl rfl ?_
   refine zf rfl rfl ?_
   refine zq tb rfl ?_
   rcases Sh.ite_some h1 with ⟨b10, h1⟩ | ⟨b10, h1⟩
   ·refine zs b10 rfl ?_
    refine zs b10 rfl ?_
    refine zt b10 rfl ?_
    refine zq tb rfl ?_
    exact AO.done (M4 true (Sh.some_eq h1).symm _ (Wk.tr rfl))
   ·refine zg tb b10 rfl ?_
    refine zg tb b10 rfl ?_
    refine zf b10 rfl ?_
    refine zq tb rfl ?_
    exact AO.done (M4 (decide (p0 = 19)) (Sh.some_eq h1).symm _ (Wk.tr rfl))
 ·refine zs b6 rfl ?_
  refine zs b6 rfl ?_
  refine zf b6 rfl ?_
  refine zq tb rfl ?_
  iterate 2 refine zs rfl rfl ?_
  refine zf rfl rfl ?_
  refine zq tb rfl ?_
  iterate 2 refine zg tb rfl rfl ?_
  refine zf rfl rfl ?_
  refine zq tb rfl ?_
  rcases Sh.ite_some h1 with ⟨b11, h1⟩ | ⟨b11, h1⟩
  ·refine zs b11 rfl ?_
   refine zs b11 rfl ?_
   refine zt b11 rfl ?_
   refine zq tb rfl ?_
   exact AO.done (M4 true (Sh.some_eq h1).symm _ (Wk.tr rfl))
  ·refine zg tb b11 rfl ?_
   refine zg tb b11 rfl ?_
   refine zf b11 rfl ?_
   refine zq tb rfl ?_
   exact AO.done (M4 (decide (p0 = 19)) (Sh.some_eq h1).symm _ (Wk.tr rfl))
theorem spec_firstCon_ok {N : Nat} {p0 : (List RDecl)} {p1 : Int} {r : Int} (h0 : spec_firstCon N p0 p1 = some r) : ACalls Try.prog 110 [(.sl (List.map eRDecl p0)), (i64 p1)] [] (fun v st => v = (i64 r) ∧ st = []) := by
 unfold spec_firstCon at h0
 refine ACalls.intro Try.func110 rfl (by show 2 ≤ 21; decide) ?_
 show AW _ 0 _ (aret _ 0 Try.f110 _) ⟨21, _, _⟩
 refine AW.weaken (Wk.to (L := [(0, (.sl (List.map eRDecl p0))), (1, (i64 p1))]) ⟨.rfl, .rfl, trivial⟩) ?_
 refine sr rfl fun K1 hK1 => ?_
 refine zq tb rfl ?_
 refine dn hK1 rfl ?_
 refine sr rfl fun K2 hK2 => ?_
 refine zq tb rfl ?_
 refine dn hK2 rfl ?_
 refine AW.seq fun K3 hK3 => ?_
 refine sr rfl fun K4 hK4 => ?_
 refine zq tb rfl ?_
 refine dn hK4 rfl ?_
 obtain ⟨o8, h1, h0⟩ := Sh.bind_some h0
 have M8 : ∀ (n7 : Int), o8 = n7 → ∀ s, Wk 0 s ⟨21, envL [(5, (i64 n7))], []⟩ → K3 s := by
  intro n7 hq s hw
  subst o8
  try dsimp only at h0
  refine hK3 _ (AW.weaken hw ?_)
  refine sr rfl fun K9 hK9 => ?_
  iterate 2 refine zq tb rfl ?_
  refine dn hK9 rfl ?_
  replace h0 := Sh.some_eq h0
  subst r
  exact AW.ret (xr (Wk.to (L := [(4, (i64 n7))]) ⟨.rfl, trivial⟩))
 refine AW.block (AW.loopF (σ := Int × Int) (fun n v => spec_firstCon_L1 p0 p1 n v.1 v.2 = some o8) (fun (n5, i6) => ⟨21, envL [(0, (.sl (List.map eRDecl p0))), (1, (i64 p1)), (5, (i64 n5)), (6, (i64 i6))], []⟩) N (0, 0) h1 (Wk.tr rfl) (fun _ hv => by rw [spec_firstCon_L1] at hv; cases hv) ?_)
 rintro n ⟨n5, i6⟩ h1
 try dsimp only at h1 ⊢
 rw [spec_firstCon_L1] at h1
 refine AW.seq fun K10 hK10 => ?_
 refine sr rfl fun K11 hK11 => ?_
 iterate 3 refine zq tb rfl ?_
 refine dn hK11 rfl ?_
 refine ci h1 rfl ?_ ?_ <;> clear h1
 ·intro b12 h1
  refine AW.skip (hK10 _ ?_)
  refine AW.seq fun K13 hK13 => ?_
  refine AW.block ?_
  refine AW.regionO (by rfl) ?_
  iterate 3 refine zq tb rfl ?_
  obtain ⟨c14, gc14, h1⟩ := Sh.bind_some h1
  refine zx ei29 gc14 rfl rfl rfl ?_
  iterate 2 refine zq tb rfl ?_
  refine zl tb rfl rfl ?_
  iterate 2 refine zq tb rfl ?_
  refine dn hK13 rfl ?_
  refine AW.regionO (by rfl) ?_
  iterate 3 refine zq tb rfl ?_
  exact AO.done (xi (Sh.w (n5 + (Sh.len c14.cons)), Sh.w (i6 + 1)) h1 (Wk.tr rfl))
 ·intro b12 h1
  exact AW.exit (M8 n5 (Sh.some_eq h1).symm _ (Wk.tr rfl))
theorem spec_conType_ok {N : Nat} {p0 : (List RDecl)} {p1 : Int} {r : Int} (h0 : spec_conType N p0 p1 = some r) : ACalls Try.prog 94 [(.sl (List.map eRDecl p0)), (i64 p1)] [] (fun v st => v = (i64 r) ∧ st = []) := by
 unfold spec_conType at h0
 refine ACalls.intro Try.func94 rfl (by show 2 ≤ 30; decide) ?_
 show AW _ 0 _ (aret _ 0 Try.f94 _) ⟨30, _, _⟩
 refine AW.weaken (Wk.to (L := [(0, (.sl (List.map eRDecl p0))), (1, (i64 p1))]) ⟨.rfl, .rfl, trivial⟩) ?_
 refine sr rfl fun K1 hK1 => ?_
 refine zq tb rfl ?_
 refine dn hK1 rfl ?_
 refine AW.seq fun K2 hK2 => ?_
 refine sr rfl fun K3 hK3 => ?_
 refine zq tb rfl ?_
 refine dn hK3 rfl ?_
 obtain ⟨o5, h1, h0⟩ := Sh.cont_some h0
 have M5 : ∀ (_ : Unit), o5 = Sum.inr () → ∀ s, Wk 0 s ⟨30, envL [], []⟩ → K2 s := by
  intro _ hq s hw
  subst o5
  try dsimp only at h0
  refine hK2 _ (AW.weaken hw ?_)
  refine sr rfl fun K6 hK6 => ?_
  refine zq tb rfl ?_
  refine dn hK6 rfl ?_
  replace h0 := Sh.some_eq h0
  subst r
  exact AW.ret (xr (Wk.to (L := [(4, (i64 (-1)))]) ⟨.rfl, trivial⟩))
 refine AW.block (AW.loopF (σ := Int) (fun n v => spec_conType_L1 N p0 p1 n v = some o5) (fun i4 => ⟨30, envL [(0, (.sl (List.map eRDecl p0))), (1, (i64 p1)), (5, (i64 i4))], []⟩) N 0 h1 (Wk.tr rfl) (fun _ hv => by rw [spec_conType_L1] at hv; cases hv) ?_)
 rintro n i4 h1
 try dsimp only at h1 ⊢
 rw [spec_conType_L1] at h1
 refine AW.seq fun K7 hK7 => ?_
 refine sr rfl fun K8 hK8 => ?_
 iterate 2 refine zq tb rfl ?_
 refine zl tb rfl rfl ?_
 refine zq tb rfl ?_
 refine dn hK8 rfl ?_
 refine ci h1 rfl ?_ ?_ <;> clear h1
 ·intro b9 h1
  refine AW.skip (hK7 _ ?_)
  refine AW.seq fun K10 hK10 => ?_
  refine AW.block ?_
  refine sr rfl fun K11 hK11 => ?_
  iterate 2 refine zq tb rfl ?_
  obtain ⟨q12, gq12, h1⟩ := Sh.bind_some h1
  refine zc hb110 (spec_firstCon_ok gq12) rfl rfl rfl ?_
  refine zq tb rfl ?_
  refine dn hK11 rfl ?_
  refine sr rfl fun K13 hK13 => ?_
  iterate 5 refine zq tb rfl ?_
  obtain ⟨c14, gc14, h1⟩ := Sh.bind_some h1
  refine zx ei29 gc14 rfl rfl rfl ?_
  iterate 2 refine zq tb rfl ?_
  refine zl tb rfl rfl ?_
  iterate 2 refine zq tb rfl ?_
  obtain ⟨q15, gq15, h1⟩ := Sh.bind_some h1
  refine zc hb25 (spec_inRange_ok gq15) rfl rfl rfl ?_
  refine dn hK13 rfl ?_
  refine ci h1 rfl ?_ ?_ <;> clear h1
  ·intro b16 h1
   refine sr rfl fun K17 hK17 => ?_
   iterate 3 refine zq tb rfl ?_
   refine dn hK17 rfl ?_
   replace h1 := Sh.some_eq h1
   subst o5
   try dsimp only [id] at h0
   replace h0 := Sh.some_eq h0
   subst r
   exact AW.ret (xr (Wk.to (L := [(4, (i64 (Sh.w (i4 + 1))))]) ⟨.rfl, trivial⟩))
  ·intro b16 h1
   refine AW.skip (hK10 _ ?_)
   refine AW.regionO (by rfl) ?_
   iterate 3 refine zq tb rfl ?_
   exact AO.done (xi (Sh.w (i4 + 1)) h1 (Wk.tr rfl))
 ·intro b9 h1
  exact AW.exit (M5 () (Sh.some_eq h1).symm _ (Wk.tr rfl))
theorem spec_conFields_ok {N : Nat} {p0 : (List RDecl)} {p1 : Int} {r : (List Int)} (h0 : spec_conFields N p0 p1 = some r) : ACalls Try.prog 95 [(.sl (List.map eRDecl p0)), (i64 p1)] [] (fun v st => v = (.sl (List.map eI r)) ∧ st = []) := by
 unfold spec_conFields at h0
 refine ACalls.intro Try.func95 rfl (by show 2 ≤ 27; decide) ?_
 show AW _ 0 _ (aret _ 0 Try.f95 _) ⟨27, _, _⟩
 refine AW.weaken (Wk.to (L := [(0, (.sl (List.map eRDecl p0))), (1, (i64 p1))]) ⟨.rfl, .rfl, trivial⟩) ?_
 refine sr rfl fun K1 hK1 => ?_
 refine zq tb rfl ?_
 refine dn hK1 rfl ?_
 refine sr rfl fun K2 hK2 => ?_
 iterate 2 refine zq tb rfl ?_
 obtain ⟨q3, gq3, h0⟩ := Sh.bind_some h0
 refine zc hb94 (spec_conType_ok gq3) rfl rfl rfl ?_
 refine zq tb rfl ?_
 refine dn hK2 rfl ?_
 refine AW.seq fun K4 hK4 => ?_
 refine sr rfl fun K5 hK5 => ?_
 iterate 2 refine zq tb rfl ?_
 refine dn hK5 rfl ?_
 refine ci h0 rfl ?_ ?_ <;> clear h0
 ·intro b6 h0
  refine sr rfl fun K7 hK7 => ?_
  refine ao_bs (m := 0) (st' := [⟨0, 3, 1, List.map eI ([] : List Int)⟩]) (l := ([] : List Int)) (enc := eI) go0 ei27 (by decide) rfl rfl rfl rfl rfl rfl ?_
  refine zq tb rfl ?_
  refine dn hK7 rfl ?_
  replace h0 := Sh.some_eq h0
  subst r
  exact AW.ret (Exists.intro ⟨27, envL [(4, (.sl (List.map eI [])))], []⟩ (And.intro (by refine Wk.trans (Wk.frz (L := [(4, (.sl (List.map eI [])))]) (st' := [⟨1, 3, 1, []⟩]) (id := 0) rfl (show 0 ≤ 0 by decide) (pure_map fun _ => rfl) ⟨(.frz rfl), trivial⟩ rfl) ?_; refine Wk.trans (Wk.permk (L := [(4, (.sl (List.map eI [])))]) (st' := []) (st1 := []) [] rfl .nil (by decide) rfl rfl .nil ⟨.rfl, trivial⟩) ?_; exact Wk.to (L := [(4, (.sl (List.map eI [])))]) ⟨.rfl, trivial⟩) (And.intro rfl rfl)))
 ·intro b6 h0
  refine AW.skip (hK4 _ ?_)
  refine AW.seq fun K8 hK8 => ?_
  refine AW.draw (by kernel_rfl) (by kernel_rfl) (by rfl) ?_
  iterate 3 refine yq tb rfl ?_
  obtain ⟨c9, gc9, h0⟩ := Sh.bind_some h0
  refine yx ei29 gc9 rfl rfl rfl ?_
  iterate 6 refine yq tb rfl ?_
  obtain ⟨q10, gq10, h0⟩ := Sh.bind_some h0
  refine d_call (v := (i64 q10)) go0 hb110 (spec_firstCon_ok gq10) rfl rfl rfl ?_
  refine yq tb rfl ?_
  obtain ⟨c11, gc11, h0⟩ := Sh.bind_some h0
  refine yx ei92 gc11 rfl rfl rfl ?_
  iterate 3 refine yq tb rfl ?_
  refine d_done (hK8 _ ?_)
  replace h0 := Sh.some_eq h0
  subst r
  exact AW.ret (xr (Wk.to (L := [(4, (.sl (List.map eI c11.fields)))]) ⟨.rfl, trivial⟩))
theorem spec_procWith_ok {p0 : RImage} {p1 : Int} {p2 : Int} {p3 : Int} {r : Bool} (h0 : spec_procWith p0 p1 p2 p3 = some r) : ACalls Try.prog 96 [(.agg (eRImage p0)), (i64 p1), (i64 p2), (i64 p3)] [] (fun v st => v = (.bool r) ∧ st = []) := by
 unfold spec_procWith at h0
 refine ACalls.intro Try.func96 rfl (by show 4 ≤ 28; decide) ?_
 show AW _ 0 _ (aret _ 0 Try.f96 _) ⟨28, _, _⟩
 refine AW.weaken (Wk.to (L := [(0, (.agg (eRImage p0))), (1, (i64 p1)), (2, (i64 p2)), (3, (i64 p3))]) ⟨.rfl, .rfl, .rfl, .rfl, trivial⟩) ?_
 refine sr rfl fun K1 hK1 => ?_
 refine ao_box (m := 0) (st' := [⟨0, 32, 2, [(eRImage p0)]⟩]) go0 rfl rfl rfl rfl rfl ?_
 refine zq tb rfl ?_
 refine dn hK1 rfl ?_
 refine AW.seq fun K2 hK2 => ?_
 obtain ⟨o4, h1, h0⟩ := Sh.bind_some h0
 have M4 : ∀ (t3 : Bool), o4 = t3 → ∀ s, Wk 0 s ⟨28, envL [(8, (.bool t3))], []⟩ → K2 s := by
  intro t3 hq s hw
  subst o4
  try dsimp only at h0
  refine hK2 _ (AW.weaken hw ?_)
  replace h0 := Sh.some_eq h0
  subst r
  exact AW.ret (xr (Wk.to (L := [(8, (.bool t3))]) ⟨.rfl, trivial⟩))
 refine AW.regionO (by rfl) ?_
 iterate 3 refine zq tb rfl ?_
 refine zl tb rfl rfl ?_
 refine zq tb rfl ?_
 obtain ⟨q5, gq5, h1⟩ := Sh.bind_some h1
 refine zc hb25 (spec_inRange_ok gq5) rfl rfl rfl ?_
 refine zq tb rfl ?_
 rcases Sh.ite_some h1 with ⟨b6, h1⟩ | ⟨b6, h1⟩
 ·refine zg tb b6 rfl ?_
  iterate 2 refine zg tb b6 rfl ?_
  obtain ⟨c7, gc7, h1⟩ := Sh.bind_some h1
  refine ao_q (v := (.iptr (eRProc c7) 0)) (go1 rfl rfl b6) rfl (aq_ixs ei30 rfl rfl gc7 rfl) ?_
  iterate 2 refine zg tb b6 rfl ?_
  refine ao_q (v := (i64 (Sh.len c7.params))) (go1 rfl rfl b6) rfl (aq_lens sl27 rfl) ?_
  iterate 4 refine zg tb b6 rfl ?_
  refine zt b6 rfl ?_
  refine zq tb rfl ?_
  exact AO.done (M4 (decide ((Sh.len c7.params) = (Sh.w (p2 + p3)))) (Sh.some_eq h1).symm _ (Wk.d0 _ rfl))
 ·refine zs b6 rfl ?_
  iterate 10 refine zs b6 rfl ?_
  refine zf b6 rfl ?_
  refine zq tb rfl ?_
  exact AO.done (M4 false (Sh.some_eq h1).symm _ (Wk.d0 _ rfl))
theorem spec_consOf_ok {N : Nat} {p0 : (List RDecl)} {p1 : Int} {r : (List Int)} (h0 : spec_consOf N p0 p1 = some r) : ACalls Try.prog 97 [(.sl (List.map eRDecl p0)), (i64 p1)] [] (fun v st => v = (.own 0 0 (List.length r)) ∧ st = [⟨0, 3, 1, List.map eI r⟩]) := by
 unfold spec_consOf at h0
 refine ACalls.intro Try.func97 rfl (by show 2 ≤ 35; decide) ?_
 show AW _ 0 _ (aret _ 0 Try.f97 _) ⟨35, _, _⟩
 refine AW.weaken (Wk.to (L := [(0, (.sl (List.map eRDecl p0))), (1, (i64 p1))]) ⟨.rfl, .rfl, trivial⟩) ?_
 refine sr rfl fun K1 hK1 => ?_
 refine zq tb rfl ?_
 refine dn hK1 rfl ?_
 refine sr rfl fun K2 hK2 => ?_
 refine ao_bs (m := 0) (st' := [⟨0, 3, 1, List.map eI ([] : List Int)⟩]) (l := ([] : List Int)) (enc := eI) go0 ei27 (by decide) rfl rfl rfl rfl rfl rfl ?_
 refine zq tb rfl ?_
 refine dn hK2 rfl ?_
 refine AW.seq fun K3 hK3 => ?_
 refine sr rfl fun K4 hK4 => ?_
 iterate 2 refine zq tb rfl ?_
 refine zl tb rfl rfl ?_
 obtain ⟨q5, gq5, h0⟩ := Sh.bind_some h0
 refine zc hb25 (spec_inRange_ok gq5) rfl rfl rfl ?_
 refine zq tb rfl ?_
 refine dn hK4 rfl ?_
 refine ci h0 rfl ?_ ?_ <;> clear h0
 ·intro b6 h0
  have b7 : q5 = false := by simpa using b6
  refine sr rfl fun K8 hK8 => ?_
  iterate 2 refine zq tb rfl ?_
  refine dn hK8 rfl ?_
  replace h0 := Sh.some_eq h0
  subst r
  exact AW.ret (xr (Wk.to (L := [(4, (.own 0 0 (List.length ([] : List Int))))]) ⟨.rfl, trivial⟩))
 ·intro b6 h0
  have b9 : q5 = true := by simpa using b6
  refine AW.skip (hK3 _ ?_)
  refine AW.seq fun K10 hK10 => ?_
  refine sr rfl fun K11 hK11 => ?_
  refine zq tb rfl ?_
  refine dn hK11 rfl ?_
  obtain ⟨o15, h1, h0⟩ := Sh.bind_some h0
  have M15 : ∀ (l14 : (List Int)), o15 = l14 → ∀ s, Wk 0 s ⟨35, envL [(5, (.own 0 0 (List.length l14)))], [⟨0, 3, 1, List.map eI l14⟩]⟩ → K10 s := by
   intro l14 hq s hw
   subst o15
   try dsimp only at h0
   refine hK10 _ (AW.weaken hw ?_)
   refine sr rfl fun K16 hK16 => ?_
   iterate 2 refine zq tb rfl ?_
   refine dn hK16 rfl ?_
   replace h0 := Sh.some_eq h0
   subst r
   exact AW.ret (xr (Wk.to (L := [(4, (.own 0 0 (List.length l14)))]) ⟨.rfl, trivial⟩))
  refine AW.block (AW.loopF (σ := Int × (List Int)) (fun n v => spec_consOf_L1 N p0 p1 n v.1 v.2 = some o15) (fun (i12, l13) => ⟨35, envL [(0, (.sl (List.map eRDecl p0))), (1, (i64 p1)), (5, (.own 0 0 (List.length l13))), (6, (i64 i12))], [⟨0, 3, 1, List.map eI l13⟩]⟩) N (0, []) h1 (Wk.tr rfl) (fun _ hv => by rw [spec_consOf_L1] at hv; cases hv) ?_)
  rintro n ⟨i12, l13⟩ h1
  try dsimp only at h1 ⊢
  rw [spec_consOf_L1] at h1
  refine AW.seq fun K17 hK17 => ?_
  refine sr rfl fun K18 hK18 => ?_
  iterate 4 refine zq tb rfl ?_
  obtain ⟨c19, gc19, h1⟩ := Sh.bind_some h1
  refine zx ei29 gc19 rfl rfl rfl ?_
  iterate 2 refine zq tb rfl ?_
  refine zl tb rfl rfl ?_
  refine zq tb rfl ?_
  refine dn hK18 rfl ?_
  refine ci h1 rfl ?_ ?_ <;> clear h1
  ·intro b20 h1
   refine AW.skip (hK17 _ ?_)
   refine AW.seq fun K21 hK21 => ?_
   refine AW.block ?_
   refine AW.regionO (by rfl) ?_
   iterate 4 refine zq tb rfl ?_
   obtain ⟨q22, gq22, h1⟩ := Sh.bind_some h1
   refine zc hb110 (spec_firstCon_ok gq22) rfl rfl rfl ?_
   iterate 2 refine zq tb rfl ?_
   refine ao_bs (m := 1) (st' := [⟨0, 3, 1, List.map eI l13⟩, ⟨0, 3, 1, List.map eI [Sh.w (q22 + i12)]⟩]) (l := [Sh.w (q22 + i12)]) (enc := eI) go0 ei27 (by decide) rfl rfl rfl rfl rfl rfl ?_
   obtain ⟨l23, gl23, h1⟩ := Sh.bind_some h1
   refine ao_apo (st' := [⟨1, 3, 1, List.map eI l23⟩, ⟨0, 3, 1, List.map eI [Sh.w (q22 + i12)]⟩]) (l2 := [Sh.w (q22 + i12)]) go0 ei27 rfl rfl rfl rfl (el_o rfl rfl) (fun _ => rfl) gl23 rfl ?_
   refine zq tb rfl ?_
   refine dn hK21 rfl ?_
   refine AW.regionO (by rfl) ?_
   iterate 3 refine zq tb rfl ?_
   exact AO.done (xi (Sh.w (i12 + 1), l23) h1 (by refine Wk.trans (Wk.rg (L := [(0, (.sl (List.map eRDecl p0))), (1, (i64 p1)), (5, (.own 0 0 (List.length l23))), (6, (i64 (Sh.w (i12 + 1))))]) (st' := [⟨0, 3, 1, List.map eI l23⟩, ⟨0, 3, 1, List.map eI [Sh.w (q22 + i12)]⟩]) (.pure (pure_map fun _ => rfl) (.pure (pure_map fun _ => rfl) .nil)) ⟨.rfl, .rfl, .rfl, .rfl, trivial⟩) ?_; exact Wk.permk (L := [(0, (.sl (List.map eRDecl p0))), (1, (i64 p1)), (5, (.own 0 0 (List.length l23))), (6, (i64 (Sh.w (i12 + 1))))]) (st' := [⟨0, 3, 1, List.map eI l23⟩]) (st1 := [⟨0, 3, 1, List.map eI l23⟩]) [0] rfl .nil (by decide) rfl rfl (.pure (pure_map fun _ => rfl) .nil) ⟨.rfl, .rfl, .rfl, .rfl, trivial⟩))
  ·intro b20 h1
   exact AW.exit (M15 l13 (Sh.some_eq h1).symm _ (Wk.tr rfl))
theorem spec_validJumps_ok {N : Nat} {p0 : (List Int)} {p1 : Int} {p2 : Int} {p3 : Int} {r : Bool} (h0 : spec_validJumps N p0 p1 p2 p3 = some r) : ACalls Try.prog 98 [(.sl (List.map eI p0)), (i64 p1), (i64 p2), (i64 p3)] [] (fun v st => v = (.bool r) ∧ st = []) := by
 unfold spec_validJumps at h0
 refine ACalls.intro Try.func98 rfl (by show 4 ≤ 29; decide) ?_
 show AW _ 0 _ (aret _ 0 Try.f98 _) ⟨29, _, _⟩
 refine AW.weaken (Wk.to (L := [(0, (.sl (List.map eI p0))), (1, (i64 p1)), (2, (i64 p2)), (3, (i64 p3))]) ⟨.rfl, .rfl, .rfl, .rfl, trivial⟩) ?_
 refine sr rfl fun K1 hK1 => ?_
 refine zq tb rfl ?_
 refine dn hK1 rfl ?_
 refine AW.seq fun K2 hK2 => ?_
 refine sr rfl fun K3 hK3 => ?_
 refine zq tb rfl ?_
 refine zl tb rfl rfl ?_
 iterate 2 refine zq tb rfl ?_
 refine dn hK3 rfl ?_
 refine ci h0 rfl ?_ ?_ <;> clear h0
 ·intro b4 h0
  have b5 : decide ((Sh.len p0) = p1) = false := by simpa using b4
  refine sr rfl fun K6 hK6 => ?_
  refine zq tb rfl ?_
  refine dn hK6 rfl ?_
  replace h0 := Sh.some_eq h0
  subst r
  exact AW.ret (xr (Wk.to (L := [(8, (.bool false))]) ⟨.rfl, trivial⟩))
 ·intro b4 h0
  have b7 : decide ((Sh.len p0) = p1) = true := by simpa using b4
  refine AW.skip (hK2 _ ?_)
  refine AW.seq fun K8 hK8 => ?_
  refine sr rfl fun K9 hK9 => ?_
  refine zq tb rfl ?_
  refine dn hK9 rfl ?_
  obtain ⟨o11, h1, h0⟩ := Sh.cont_some h0
  have M11 : ∀ (_ : Unit), o11 = Sum.inr () → ∀ s, Wk 0 s ⟨29, envL [], []⟩ → K8 s := by
   intro _ hq s hw
   subst o11
   try dsimp only at h0
   refine hK8 _ (AW.weaken hw ?_)
   refine sr rfl fun K12 hK12 => ?_
   refine zq tb rfl ?_
   refine dn hK12 rfl ?_
   replace h0 := Sh.some_eq h0
   subst r
   exact AW.ret (xr (Wk.to (L := [(8, (.bool true))]) ⟨.rfl, trivial⟩))
  refine AW.block (AW.loopF (σ := Int) (fun n v => spec_validJumps_L1 p0 p1 p2 p3 n v = some o11) (fun i10 => ⟨29, envL [(0, (.sl (List.map eI p0))), (1, (i64 p1)), (2, (i64 p2)), (3, (i64 p3)), (9, (i64 i10))], []⟩) N 0 h1 (Wk.tr rfl) (fun _ hv => by rw [spec_validJumps_L1] at hv; cases hv) ?_)
  rintro n i10 h1
  try dsimp only at h1 ⊢
  rw [spec_validJumps_L1] at h1
  refine AW.seq fun K13 hK13 => ?_
  refine sr rfl fun K14 hK14 => ?_
  iterate 3 refine zq tb rfl ?_
  refine dn hK14 rfl ?_
  refine ci h1 rfl ?_ ?_ <;> clear h1
  ·intro b15 h1
   refine AW.skip (hK13 _ ?_)
   refine AW.seq fun K16 hK16 => ?_
   refine AW.block ?_
   refine sr rfl fun K17 hK17 => ?_
   iterate 2 refine zq tb rfl ?_
   obtain ⟨c18, gc18, h1⟩ := Sh.bind_some h1
   refine zx ei27 gc18 rfl rfl rfl ?_
   iterate 5 refine zq tb rfl ?_
   obtain ⟨q19, gq19, h1⟩ := Sh.bind_some h1
   refine zc hb25 (spec_inRange_ok gq19) rfl rfl rfl ?_
   refine zq tb rfl ?_
   refine dn hK17 rfl ?_
   refine ci h1 rfl ?_ ?_ <;> clear h1
   ·intro b20 h1
    have b21 : q19 = false := by simpa using b20
    refine sr rfl fun K22 hK22 => ?_
    refine zq tb rfl ?_
    refine dn hK22 rfl ?_
    replace h1 := Sh.some_eq h1
    subst o11
    try dsimp only [id] at h0
    replace h0 := Sh.some_eq h0
    subst r
    exact AW.ret (xr (Wk.to (L := [(8, (.bool false))]) ⟨.rfl, trivial⟩))
   ·intro b20 h1
    have b23 : q19 = true := by simpa using b20
    refine AW.skip (hK16 _ ?_)
    refine AW.regionO (by rfl) ?_
    iterate 3 refine zq tb rfl ?_
    exact AO.done (xi (Sh.w (i10 + 1)) h1 (Wk.tr rfl))
  ·intro b15 h1
   exact AW.exit (M11 () (Sh.some_eq h1).symm _ (Wk.tr rfl))
theorem spec_validInstr_ok {N : Nat} {p0 : RImage} {p1 : RProc} {p2 : Int} {r : Bool} (h0 : spec_validInstr N p0 p1 p2 = some r) : ACalls Try.prog 77 [(.agg (eRImage p0)), (.agg (eRProc p1)), (i64 p2)] [] (fun v st => v = (.bool r) ∧ st = []) := by
 unfold spec_validInstr at h0
 refine ACalls.intro Try.func77 rfl (by show 3 ≤ 234; decide) ?_
 show AW _ 0 _ (aret _ 0 Try.f77 _) ⟨234, _, _⟩
 refine AW.weaken (Wk.to (L := [(0, (.agg (eRImage p0))), (1, (.agg (eRProc p1))), (2, (i64 p2))]) ⟨.rfl, .rfl, .rfl, trivial⟩) ?_
 refine sr rfl fun K1 hK1 => ?_
 refine ao_box (m := 0) (st' := [⟨0, 32, 2, [(eRImage p0)]⟩]) go0 rfl rfl rfl rfl rfl ?_
 refine ao_box (m := 1) (st' := [⟨0, 32, 2, [(eRImage p0)]⟩, ⟨0, 55, 5, [(eRProc p1)]⟩]) go0 rfl rfl rfl rfl rfl ?_
 refine zq tb rfl ?_
 refine dn hK1 rfl ?_
 refine sr rfl fun K2 hK2 => ?_
 iterate 3 refine zq tb rfl ?_
 obtain ⟨c3, gc3, h0⟩ := Sh.bind_some h0
 refine zx ei53 gc3 rfl rfl rfl ?_
 refine zq tb rfl ?_
 refine ao_alloc (m := 2) (st' := [⟨0, 32, 2, [(eRImage p0)]⟩, ⟨0, 55, 5, [(eRProc p1)]⟩, ⟨0, 63, 6, [[(i64 0), (i64 0), (i64 0), (i64 0), .zc, .zc]]⟩]) go0 zi63 rfl rfl ?_
 refine ao_str (st' := [⟨0, 32, 2, [(eRImage p0)]⟩, ⟨0, 55, 5, [(eRProc p1)]⟩, ⟨0, 63, 6, [(eRInstr c3)]⟩]) go0 ti63 rfl rfl rfl rfl rfl rfl (show 0 + 6 ≤ 6 by decide) rfl ?_
 refine dn hK2 rfl ?_
 refine sr rfl fun K4 hK4 => ?_
 iterate 2 refine zq tb rfl ?_
 refine zl tb rfl rfl ?_
 refine zq tb rfl ?_
 refine dn hK4 rfl ?_
 refine AW.seq fun K5 hK5 => ?_
 refine sr rfl fun K6 hK6 => ?_
 refine zq tb rfl ?_
 refine dn hK6 rfl ?_
 obtain ⟨o8, h1, h0⟩ := Sh.cont_some h0
 have M8 : ∀ (_ : Unit), o8 = Sum.inr () → ∀ s, Wk 0 s ⟨234, envL [(2, (i64 p2)), (3, (.ptr 0 0 0 0)), (4, (.ptr 1 0 0 0)), (7, (.ptr 2 0 0 0)), (8, (i64 (Sh.len c3.args)))], [⟨0, 32, 2, [(eRImage p0)]⟩, ⟨0, 55, 5, [(eRProc p1)]⟩, ⟨0, 63, 6, [(eRInstr c3)]⟩]⟩ → K5 s := by
  intro _ hq s hw
  subst o8
  try dsimp only at h0
  refine hK5 _ (AW.weaken hw ?_)
  refine AW.seq fun K9 hK9 => ?_
  refine AW.seq fun K10 hK10 => ?_
  obtain ⟨o12, h1, h0⟩ := Sh.bind_some h0
  have M12 : ∀ (t11 : Bool), o12 = t11 → ∀ s, Wk 0 s ⟨234, envL [(2, (i64 p2)), (3, (.ptr 0 0 0 0)), (4, (.ptr 1 0 0 0)), (7, (.ptr 2 0 0 0)), (8, (i64 (Sh.len c3.args))), (72, (.bool t11))], [⟨0, 32, 2, [(eRImage p0)]⟩, ⟨0, 55, 5, [(eRProc p1)]⟩, ⟨0, 63, 6, [(eRInstr c3)]⟩]⟩ → K10 s := by
   intro t11 hq s hw
   subst o12
   try dsimp only at h0
   refine hK10 _ (AW.weaken hw ?_)
   refine ci h0 rfl ?_ ?_ <;> clear h0
   ·intro b13 h0
    refine sr rfl fun K14 hK14 => ?_
    refine zq tb rfl ?_
    refine dn hK14 rfl ?_
    replace h0 := Sh.some_eq h0
    subst r
    exact AW.ret (xr (Wk.d0 [(6, (.bool false))] rfl))
   ·intro b13 h0
    refine AW.skip (hK9 _ ?_)
    refine AW.seq fun K15 hK15 => ?_
    refine sr rfl fun K16 hK16 => ?_
    iterate 2 refine zq tb rfl ?_
    refine dn hK16 rfl ?_
    refine AW.block ?_
    refine sr rfl fun K17 hK17 => ?_
    iterate 2 refine zq tb rfl ?_
    refine dn hK17 rfl ?_
    refine ci h0 rfl ?_ ?_ <;> clear h0
    ·intro b18 h0
     refine AW.seq fun K19 hK19 => ?_
     obtain ⟨o21, h1, h0⟩ := Sh.bind_some h0
     have M21 : ∀ (t20 : Bool), o21 = t20 → ∀ s, Wk 0 s ⟨234, envL [(6, (.bool t20))], []⟩ → K19 s := by
      intro t20 hq s hw
      subst o21
      try dsimp only at h0
      refine hK19 _ (AW.weaken hw ?_)
      replace h0 := Sh.some_eq h0
      subst r
      exact AW.ret (xr (Wk.to (L := [(6, (.bool t20))]) ⟨.rfl, trivial⟩))
     refine AW.regionO (by rfl) ?_
     iterate 3 refine zq tb rfl ?_
     rcases Sh.ite_some h1 with ⟨b22, h1⟩ | ⟨b22, h1⟩
     ·refine zg tb b22 rfl ?_
      refine zg tb b22 rfl ?_
      obtain ⟨q23, gq23, h1⟩ := Sh.bind_some h1
      refine zd b22 hb25 (spec_inRange_ok gq23) rfl rfl rfl rfl ?_
      refine zt b22 rfl ?_
      refine zq tb rfl ?_
      exact AO.done (M21 q23 (Sh.some_eq h1).symm _ (Wk.d0 _ rfl))
     ·refine zs b22 rfl ?_
      iterate 2 refine zs b22 rfl ?_
      refine zf b22 rfl ?_
      refine zq tb rfl ?_
      exact AO.done (M21 false (Sh.some_eq h1).symm _ (Wk.d0 _ rfl))
    ·intro b18 h0
     refine AW.seq fun K24 hK24 => ?_
     obtain ⟨o26, h1, h0⟩ := Sh.bind_some h0
     have M26 : ∀ (t25 : Bool), o26 = t25 → ∀ s, Wk 0 s ⟨234, envL [(2, (i64 p2)), (3, (.ptr 0 0 0 0)), (4, (.ptr 1 0 0 0)), (7, (.ptr 2 0 0 0)), (8, (i64 (Sh.len c3.args))), (74, (i64 c3.op)), (84, (.bool t25))], [⟨0, 32, 2, [(eRImage p0)]⟩, ⟨0, 55, 5, [(eRProc p1)]⟩, ⟨0, 63, 6, [(eRInstr c3)]⟩]⟩ → K24 s := by
      intro t25 hq s hw
      subst o26
      try dsimp only at h0
      refine hK24 _ (AW.weaken hw ?_)
      refine ci h0 rfl ?_ ?_ <;> clear h0
      ·intro b27 h0
       refine AW.seq fun K28 hK28 => ?_
       obtain ⟨o30, h1, h0⟩ := Sh.bind_some h0
       have M30 : ∀ (t29 : Bool), o30 = t29 → ∀ s, Wk 0 s ⟨234, envL [(6, (.bool t29))], []⟩ → K28 s := by
        intro t29 hq s hw
        subst o30
        try dsimp only at h0
        refine hK28 _ (AW.weaken hw ?_)
        replace h0 := Sh.some_eq h0
        subst r
        exact AW.ret (xr (Wk.to (L := [(6, (.bool t29))]) ⟨.rfl, trivial⟩))
       refine AW.regionO (by rfl) ?_
       iterate 3 refine zq tb rfl ?_
       rcases Sh.ite_some h1 with ⟨b31, h1⟩ | ⟨b31, h1⟩
       ·refine zg tb b31 rfl ?_
        iterate 2 refine zg tb b31 rfl ?_
        refine zt b31 rfl ?_
        refine zq tb rfl ?_
        exact AO.done (M30 (decide (c3.num = 0)) (Sh.some_eq h1).symm _ (Wk.d0 _ rfl))
       ·refine zs b31 rfl ?_
        iterate 2 refine zs b31 rfl ?_
        refine zf b31 rfl ?_
        refine zq tb rfl ?_
        exact AO.done (M30 false (Sh.some_eq h1).symm _ (Wk.d0 _ rfl))
      ·intro b27 h0
       refine AW.seq fun K32 hK32 => ?_
       obtain ⟨o34, h1, h0⟩ := Sh.bind_some h0
       have M34 : ∀ (t33 : Bool), o34 = t33 → ∀ s, Wk 0 s ⟨234, envL [(2, (i64 p2)), (3, (.ptr 0 0 0 0)), (4, (.ptr 1 0 0 0)), (7, (.ptr 2 0 0 0)), (8, (i64 (Sh.len c3.args))), (74, (i64 c3.op)), (97, (.bool t33))], [⟨0, 32, 2, [(eRImage p0)]⟩, ⟨0, 55, 5, [(eRProc p1)]⟩, ⟨0, 63, 6, [(eRInstr c3)]⟩]⟩ → K32 s := by
        intro t33 hq s hw
        subst o34
        try dsimp only at h0
        refine hK32 _ (AW.weaken hw ?_)
        refine ci h0 rfl ?_ ?_ <;> clear h0
        ·intro b35 h0
         refine AW.seq fun K36 hK36 => ?_
         obtain ⟨o38, h1, h0⟩ := Sh.bind_some h0
         have M38 : ∀ (t37 : Bool), o38 = t37 → ∀ s, Wk 0 s ⟨234, envL [(6, (.bool t37))], []⟩ → K36 s := by
          intro t37 hq s hw
          subst o38
          try dsimp only at h0
          refine hK36 _ (AW.weaken hw ?_)
          replace h0 := Sh.some_eq h0
          subst r
          exact AW.ret (xr (Wk.to (L := [(6, (.bool t37))]) ⟨.rfl, trivial⟩))
         refine AW.regionO (by rfl) ?_
         iterate 3 refine zq tb rfl ?_
         rcases Sh.ite_some h1 with ⟨b39, h1⟩ | ⟨b39, h1⟩
         ·refine zg tb b39 rfl ?_
          iterate 2 refine zg tb b39 rfl ?_
          refine zt b39 rfl ?_
          refine zq tb rfl ?_
          exact AO.done (M38 (decide (c3.num = 0)) (Sh.some_eq h1).symm _ (Wk.d0 _ rfl))
         ·refine zs b39 rfl ?_
          iterate 2 refine zs b39 rfl ?_
          refine zf b39 rfl ?_
          refine zq tb rfl ?_
          exact AO.done (M38 false (Sh.some_eq h1).symm _ (Wk.d0 _ rfl))
        ·intro b35 h0
         refine sr rfl fun K40 hK40 => ?_
         iterate 2 refine zq tb rfl ?_
         refine dn hK40 rfl ?_
         refine ci h0 rfl ?_ ?_ <;> clear h0
         ·intro b41 h0
          refine AW.seq fun K42 hK42 => ?_
          obtain ⟨o44, h1, h0⟩ := Sh.bind_some h0
          have M44 : ∀ (t43 : Bool), o44 = t43 → ∀ s, Wk 0 s ⟨234, envL [(6, (.bool t43))], []⟩ → K42 s := by
           intro t43 hq s hw
           subst o44
           try dsimp only at h0
           refine hK42 _ (AW.weaken hw ?_)
           replace h0 := Sh.some_eq h0
           subst r
           exact AW.ret (xr (Wk.to (L := [(6, (.bool t43))]) ⟨.rfl, trivial⟩))
          refine AW.regionO (by rfl) ?_
          iterate 4 refine zq tb rfl ?_
          obtain ⟨q45, gq45, h1⟩ := Sh.bind_some h1
          refine zc hb94 (spec_conType_ok gq45) rfl rfl rfl ?_
          iterate 2 refine zq tb rfl ?_
          rcases Sh.ite_some h1 with ⟨b46, h1⟩ | ⟨b46, h1⟩
          ·refine zg tb b46 rfl ?_
           iterate 4 refine zg tb b46 rfl ?_
           obtain ⟨q47, gq47, h1⟩ := Sh.bind_some h1
           refine zd b46 hb95 (spec_conFields_ok gq47) rfl rfl rfl rfl ?_
           refine ao_q (v := (i64 (Sh.len q47))) (go1 rfl rfl b46) rfl (aq_lens sl27 rfl) ?_
           refine zg tb b46 rfl ?_
           refine zt b46 rfl ?_
           refine zq tb rfl ?_
           rcases Sh.ite_some h1 with ⟨b48, h1⟩ | ⟨b48, h1⟩
           ·refine zg tb b48 rfl ?_
            iterate 3 refine zg tb b48 rfl ?_
            obtain ⟨q49, gq49, h1⟩ := Sh.bind_some h1
            refine zd b48 hb25 (spec_inRange_ok gq49) rfl rfl rfl rfl ?_
            refine zt b48 rfl ?_
            refine zq tb rfl ?_
            exact AO.done (M44 q49 (Sh.some_eq h1).symm _ (Wk.d0 _ rfl))
           ·refine zs b48 rfl ?_
            iterate 4 refine zs b48 rfl ?_
            refine zf b48 rfl ?_
            refine zq tb rfl ?_
            exact AO.done (M44 false (Sh.some_eq h1).symm _ (Wk.d0 _ rfl))
          ·refine zs b46 rfl ?_
           iterate 7 refine zs b46 rfl ?_
           refine zf b46 rfl ?_
           refine zq tb rfl ?_
           iterate 5 refine zs rfl rfl ?_
           refine zf rfl rfl ?_
           refine zq tb rfl ?_
           exact AO.done (M44 false (Sh.some_eq h1).symm _ (Wk.d0 _ rfl))
         ·intro b41 h0
          refine AW.seq fun K50 hK50 => ?_
          obtain ⟨o52, h1, h0⟩ := Sh.bind_some h0
          have M52 : ∀ (t51 : Bool), o52 = t51 → ∀ s, Wk 0 s ⟨234, envL [(2, (i64 p2)), (3, (.ptr 0 0 0 0)), (4, (.ptr 1 0 0 0)), (7, (.ptr 2 0 0 0)), (8, (i64 (Sh.len c3.args))), (74, (i64 c3.op)), (135, (.bool t51))], [⟨0, 32, 2, [(eRImage p0)]⟩, ⟨0, 55, 5, [(eRProc p1)]⟩, ⟨0, 63, 6, [(eRInstr c3)]⟩]⟩ → K50 s := by
           intro t51 hq s hw
           subst o52
           try dsimp only at h0
           refine hK50 _ (AW.weaken hw ?_)
           refine ci h0 rfl ?_ ?_ <;> clear h0
           ·intro b53 h0
            refine sr rfl fun K54 hK54 => ?_
            iterate 4 refine zq tb rfl ?_
            obtain ⟨q55, gq55, h0⟩ := Sh.bind_some h0
            refine zc hb96 (spec_procWith_ok gq55) rfl rfl rfl ?_
            refine zq tb rfl ?_
            refine dn hK54 rfl ?_
            replace h0 := Sh.some_eq h0
            subst r
            exact AW.ret (xr (Wk.d0 [(6, (.bool q55))] rfl))
           ·intro b53 h0
            refine sr rfl fun K56 hK56 => ?_
            iterate 2 refine zq tb rfl ?_
            refine dn hK56 rfl ?_
            refine ci h0 rfl ?_ ?_ <;> clear h0
            ·intro b57 h0
             refine AW.seq fun K58 hK58 => ?_
             obtain ⟨o60, h1, h0⟩ := Sh.bind_some h0
             have M60 : ∀ (t59 : Bool), o60 = t59 → ∀ s, Wk 0 s ⟨234, envL [(6, (.bool t59))], []⟩ → K58 s := by
              intro t59 hq s hw
              subst o60
              try dsimp only at h0
              refine hK58 _ (AW.weaken hw ?_)
              replace h0 := Sh.some_eq h0
              subst r
              exact AW.ret (xr (Wk.to (L := [(6, (.bool t59))]) ⟨.rfl, trivial⟩))
             refine AW.regionO (by rfl) ?_
             iterate 4 refine zq tb rfl ?_
             obtain ⟨q61, gq61, h1⟩ := Sh.bind_some h1
             refine zc hb96 (spec_procWith_ok gq61) rfl rfl rfl ?_
             refine zq tb rfl ?_
             rcases Sh.ite_some h1 with ⟨b62, h1⟩ | ⟨b62, h1⟩
             ·refine zg tb b62 rfl ?_
              iterate 3 refine zg tb b62 rfl ?_
              obtain ⟨c63, gc63, h1⟩ := Sh.bind_some h1
              refine ao_q (v := (.iptr (eRProc c63) 0)) (go1 rfl rfl b62) rfl (aq_ixs ei30 rfl rfl gc63 rfl) ?_
              iterate 2 refine zg tb b62 rfl ?_
              refine ao_q (v := (i64 (Sh.len c63.lent))) (go1 rfl rfl b62) rfl (aq_lens sl27 rfl) ?_
              refine zg tb b62 rfl ?_
              refine zt b62 rfl ?_
              refine zq tb rfl ?_
              exact AO.done (M60 (decide ((Sh.len c63.lent) = 0)) (Sh.some_eq h1).symm _ (Wk.d0 _ rfl))
             ·refine zs b62 rfl ?_
              iterate 8 refine zs b62 rfl ?_
              refine zf b62 rfl ?_
              refine zq tb rfl ?_
              exact AO.done (M60 false (Sh.some_eq h1).symm _ (Wk.d0 _ rfl))
            ·intro b57 h0
             refine AW.seq fun K64 hK64 => ?_
             obtain ⟨o66, h1, h0⟩ := Sh.bind_some h0
             have M66 : ∀ (t65 : Bool), o66 = t65 → ∀ s, Wk 0 s ⟨234, envL [(2, (i64 p2)), (3, (.ptr 0 0 0 0)), (4, (.ptr 1 0 0 0)), (7, (.ptr 2 0 0 0)), (8, (i64 (Sh.len c3.args))), (74, (i64 c3.op)), (161, (.bool t65))], [⟨0, 32, 2, [(eRImage p0)]⟩, ⟨0, 55, 5, [(eRProc p1)]⟩, ⟨0, 63, 6, [(eRInstr c3)]⟩]⟩ → K64 s := by
              intro t65 hq s hw
              subst o66
              try dsimp only at h0
              refine hK64 _ (AW.weaken hw ?_)
              refine ci h0 rfl ?_ ?_ <;> clear h0
              ·intro b67 h0
               refine AW.seq fun K68 hK68 => ?_
               obtain ⟨o70, h1, h0⟩ := Sh.bind_some h0
               have M70 : ∀ (t69 : Bool), o70 = t69 → ∀ s, Wk 0 s ⟨234, envL [(6, (.bool t69))], []⟩ → K68 s := by
                intro t69 hq s hw
                subst o70
                try dsimp only at h0
                refine hK68 _ (AW.weaken hw ?_)
                replace h0 := Sh.some_eq h0
                subst r
                exact AW.ret (xr (Wk.to (L := [(6, (.bool t69))]) ⟨.rfl, trivial⟩))
               refine AW.regionO (by rfl) ?_
               refine zq tb rfl ?_
               obtain ⟨q71, gq71, h1⟩ := Sh.bind_some h1
               refine zc hb25 (spec_inRange_ok gq71) rfl rfl rfl ?_
               refine zq tb rfl ?_
               rcases Sh.ite_some h1 with ⟨b72, h1⟩ | ⟨b72, h1⟩
               ·refine zg tb b72 rfl ?_
                iterate 2 refine zg tb b72 rfl ?_
                refine zt b72 rfl ?_
                refine zq tb rfl ?_
                exact AO.done (M70 (decide (c3.num = 0)) (Sh.some_eq h1).symm _ (Wk.d0 _ rfl))
               ·refine zs b72 rfl ?_
                iterate 2 refine zs b72 rfl ?_
                refine zf b72 rfl ?_
                refine zq tb rfl ?_
                exact AO.done (M70 false (Sh.some_eq h1).symm _ (Wk.d0 _ rfl))
              ·intro b67 h0
               refine sr rfl fun K73 hK73 => ?_
               iterate 2 refine zq tb rfl ?_
               refine dn hK73 rfl ?_
               refine ci h0 rfl ?_ ?_ <;> clear h0
               ·intro b74 h0
                refine AW.seq fun K75 hK75 => ?_
                obtain ⟨o77, h1, h0⟩ := Sh.bind_some h0
                have M77 : ∀ (t76 : Bool), o77 = t76 → ∀ s, Wk 0 s ⟨234, envL [(6, (.bool t76))], []⟩ → K75 s := by
                 intro t76 hq s hw
                 subst o77
                 try dsimp only at h0
                 refine hK75 _ (AW.weaken hw ?_)
                 replace h0 := Sh.some_eq h0
                 subst r
                 exact AW.ret (xr (Wk.to (L := [(6, (.bool t76))]) ⟨.rfl, trivial⟩))
                refine AW.regionO (by rfl) ?_
                iterate 3 refine zq tb rfl ?_
                rcases Sh.ite_some h1 with ⟨b78, h1⟩ | ⟨b78, h1⟩
                ·refine zg tb b78 rfl ?_
                 refine zg tb b78 rfl ?_
                 obtain ⟨q79, gq79, h1⟩ := Sh.bind_some h1
                 refine zd b78 hb25 (spec_inRange_ok gq79) rfl rfl rfl rfl ?_
                 refine zt b78 rfl ?_
                 refine zq tb rfl ?_
                 exact AO.done (M77 q79 (Sh.some_eq h1).symm _ (Wk.d0 _ rfl))
                ·refine zs b78 rfl ?_
                 iterate 2 refine zs b78 rfl ?_
                 refine zf b78 rfl ?_
                 refine zq tb rfl ?_
                 exact AO.done (M77 false (Sh.some_eq h1).symm _ (Wk.d0 _ rfl))
               ·intro b74 h0
                refine sr rfl fun K80 hK80 => ?_
                iterate 2 refine zq tb rfl ?_
                refine dn hK80 rfl ?_
                refine ci h0 rfl ?_ ?_ <;> clear h0
                ·intro b81 h0
                 refine AW.seq fun K82 hK82 => ?_
                 obtain ⟨o84, h1, h0⟩ := Sh.bind_some h0
                 have M84 : ∀ (t83 : Bool), o84 = t83 → ∀ s, Wk 0 s ⟨234, envL [(6, (.bool t83))], []⟩ → K82 s := by
                  intro t83 hq s hw
                  subst o84
                  try dsimp only at h0
                  refine hK82 _ (AW.weaken hw ?_)
                  replace h0 := Sh.some_eq h0
                  subst r
                  exact AW.ret (xr (Wk.to (L := [(6, (.bool t83))]) ⟨.rfl, trivial⟩))
                 refine AW.regionO (by rfl) ?_
                 iterate 3 refine zq tb rfl ?_
                 rcases Sh.ite_some h1 with ⟨b85, h1⟩ | ⟨b85, h1⟩
                 ·refine zg tb b85 rfl ?_
                  iterate 5 refine zg tb b85 rfl ?_
                  refine ao_q (v := (i64 (Sh.len p1.code))) (go1 rfl rfl b85) rfl (aq_lens sl53 rfl) ?_
                  refine zg tb b85 rfl ?_
                  obtain ⟨q86, gq86, h1⟩ := Sh.bind_some h1
                  refine zd b85 hb25 (spec_inRange_ok gq86) rfl rfl rfl rfl ?_
                  refine zt b85 rfl ?_
                  refine zq tb rfl ?_
                  exact AO.done (M84 q86 (Sh.some_eq h1).symm _ (Wk.d0 _ rfl))
                 ·refine zs b85 rfl ?_
                  iterate 8 refine zs b85 rfl ?_
                  refine zf b85 rfl ?_
                  refine zq tb rfl ?_
                  exact AO.done (M84 false (Sh.some_eq h1).symm _ (Wk.d0 _ rfl))
                ·intro b81 h0
                 refine sr rfl fun K87 hK87 => ?_
                 iterate 2 refine zq tb rfl ?_
                 refine dn hK87 rfl ?_
                 refine ci h0 rfl ?_ ?_ <;> clear h0
                 ·intro b88 h0
                  refine AW.seq fun K89 hK89 => ?_
                  obtain ⟨o91, h1, h0⟩ := Sh.bind_some h0
                  have M91 : ∀ (t90 : Bool), o91 = t90 → ∀ s, Wk 0 s ⟨234, envL [(6, (.bool t90))], []⟩ → K89 s := by
                   intro t90 hq s hw
                   subst o91
                   try dsimp only at h0
                   refine hK89 _ (AW.weaken hw ?_)
                   replace h0 := Sh.some_eq h0
                   subst r
                   exact AW.ret (xr (Wk.to (L := [(6, (.bool t90))]) ⟨.rfl, trivial⟩))
                  refine AW.regionO (by rfl) ?_
                  iterate 3 refine zq tb rfl ?_
                  rcases Sh.ite_some h1 with ⟨b92, h1⟩ | ⟨b92, h1⟩
                  ·refine zg tb b92 rfl ?_
                   iterate 5 refine zg tb b92 rfl ?_
                   refine ao_q (v := (i64 (Sh.len p1.code))) (go1 rfl rfl b92) rfl (aq_lens sl53 rfl) ?_
                   refine zg tb b92 rfl ?_
                   obtain ⟨q93, gq93, h1⟩ := Sh.bind_some h1
                   refine zd b92 hb25 (spec_inRange_ok gq93) rfl rfl rfl rfl ?_
                   refine zt b92 rfl ?_
                   refine zq tb rfl ?_
                   exact AO.done (M91 q93 (Sh.some_eq h1).symm _ (Wk.d0 _ rfl))
                  ·refine zs b92 rfl ?_
                   iterate 8 refine zs b92 rfl ?_
                   refine zf b92 rfl ?_
                   refine zq tb rfl ?_
                   exact AO.done (M91 false (Sh.some_eq h1).symm _ (Wk.d0 _ rfl))
                 ·intro b88 h0
                  refine sr rfl fun K94 hK94 => ?_
                  iterate 2 refine zq tb rfl ?_
                  refine dn hK94 rfl ?_
                  refine ci h0 rfl ?_ ?_ <;> clear h0
                  ·intro b95 h0
                   refine sr rfl fun K96 hK96 => ?_
                   iterate 4 refine zq tb rfl ?_
                   obtain ⟨q97, gq97, h0⟩ := Sh.bind_some h0
                   refine ao_call (v' := (.own 3 0 (List.length q97))) (st' := [⟨0, 32, 2, [(eRImage p0)]⟩, ⟨0, 55, 5, [(eRProc p1)]⟩, ⟨0, 63, 6, [(eRInstr c3)]⟩, ⟨0, 3, 1, List.map eI q97⟩]) go0 hb97 (spec_consOf_ok gq97) rfl rfl ⟨(pure_map' fun _ => rfl), trivial⟩ rfl rfl ?_
                   refine zz (i64 (Sh.len q97)) (aq_leno sl27 rfl rfl rfl) rfl ?_
                   refine zq tb rfl ?_
                   refine dn hK96 rfl ?_
                   refine AW.seq fun K98 hK98 => ?_
                   obtain ⟨o100, h1, h0⟩ := Sh.bind_some h0
                   have M100 : ∀ (t99 : Bool), o100 = t99 → ∀ s, Wk 0 s ⟨234, envL [(6, (.bool t99))], []⟩ → K98 s := by
                    intro t99 hq s hw
                    subst o100
                    try dsimp only at h0
                    refine hK98 _ (AW.weaken hw ?_)
                    replace h0 := Sh.some_eq h0
                    subst r
                    exact AW.ret (xr (Wk.to (L := [(6, (.bool t99))]) ⟨.rfl, trivial⟩))
                   refine AW.regionO (by rfl) ?_
                   iterate 3 refine zq tb rfl ?_
                   rcases Sh.ite_some h1 with ⟨b101, h1⟩ | ⟨b101, h1⟩
                   ·refine zg tb b101 rfl ?_
                    refine zg tb b101 rfl ?_
                    refine zt b101 rfl ?_
                    refine zq tb rfl ?_
                    rcases Sh.ite_some h1 with ⟨b102, h1⟩ | ⟨b102, h1⟩
                    ·refine zg tb b102 rfl ?_
                     iterate 5 refine zg tb b102 rfl ?_
                     refine ao_q (v := (i64 (Sh.len p1.code))) (go1 rfl rfl b102) rfl (aq_lens sl53 rfl) ?_
                     obtain ⟨q103, gq103, h1⟩ := Sh.bind_some h1
                     refine zd b102 hb98 (spec_validJumps_ok gq103) rfl rfl rfl rfl ?_
                     refine zt b102 rfl ?_
                     refine zq tb rfl ?_
                     exact AO.done (M100 q103 (Sh.some_eq h1).symm _ (Wk.d0 _ rfl))
                    ·refine zs b102 rfl ?_
                     iterate 7 refine zs b102 rfl ?_
                     refine zf b102 rfl ?_
                     refine zq tb rfl ?_
                     exact AO.done (M100 false (Sh.some_eq h1).symm _ (Wk.d0 _ rfl))
                   ·refine zs b101 rfl ?_
                    refine zs b101 rfl ?_
                    refine zf b101 rfl ?_
                    refine zq tb rfl ?_
                    iterate 8 refine zs rfl rfl ?_
                    refine zf rfl rfl ?_
                    refine zq tb rfl ?_
                    exact AO.done (M100 false (Sh.some_eq h1).symm _ (Wk.d0 _ rfl))
                  ·intro b95 h0
                   refine AW.skip (hK15 _ ?_)
                   refine sr rfl fun K104 hK104 => ?_
                   refine zq tb rfl ?_
                   refine dn hK104 rfl ?_
                   replace h0 := Sh.some_eq h0
                   subst r
                   exact AW.ret (xr (Wk.d0 [(6, (.bool false))] rfl))
             refine sr rfl fun K105 hK105 => ?_
             iterate 2 refine zq tb rfl ?_
             refine dn hK105 rfl ?_
             refine ci h1 rfl ?_ ?_ <;> clear h1
             ·intro b106 h1
              exact AW.skip (M66 true (Sh.some_eq h1).symm _ (Wk.to (L := [(2, (i64 p2)), (3, (.ptr 0 0 0 0)), (4, (.ptr 1 0 0 0)), (7, (.ptr 2 0 0 0)), (8, (i64 (Sh.len c3.args))), (74, (i64 c3.op)), (161, (.bool true))]) ⟨.rfl, .rfl, .rfl, .rfl, .rfl, .rfl, (.of (congrArg AV.bool b106)), trivial⟩))
             ·intro b106 h1
              refine AW.regionO (by rfl) ?_
              iterate 2 refine zq tb rfl ?_
              exact AO.done (M66 (decide (c3.op = 17)) (Sh.some_eq h1).symm _ (Wk.tr rfl))
          refine sr rfl fun K107 hK107 => ?_
          iterate 2 refine zq tb rfl ?_
          refine dn hK107 rfl ?_
          refine ci h1 rfl ?_ ?_ <;> clear h1
          ·intro b108 h1
           exact AW.skip (M52 true (Sh.some_eq h1).symm _ (Wk.to (L := [(2, (i64 p2)), (3, (.ptr 0 0 0 0)), (4, (.ptr 1 0 0 0)), (7, (.ptr 2 0 0 0)), (8, (i64 (Sh.len c3.args))), (74, (i64 c3.op)), (135, (.bool true))]) ⟨.rfl, .rfl, .rfl, .rfl, .rfl, .rfl, (.of (congrArg AV.bool b108)), trivial⟩))
          ·intro b108 h1
           refine AW.regionO (by rfl) ?_
           iterate 2 refine zq tb rfl ?_
           exact AO.done (M52 (decide (c3.op = 24)) (Sh.some_eq h1).symm _ (Wk.tr rfl))
       refine sr rfl fun K109 hK109 => ?_
       iterate 2 refine zq tb rfl ?_
       refine dn hK109 rfl ?_
       refine ci h1 rfl ?_ ?_ <;> clear h1
       ·intro b110 h1
        exact AW.skip (M34 true (Sh.some_eq h1).symm _ (Wk.to (L := [(2, (i64 p2)), (3, (.ptr 0 0 0 0)), (4, (.ptr 1 0 0 0)), (7, (.ptr 2 0 0 0)), (8, (i64 (Sh.len c3.args))), (74, (i64 c3.op)), (97, (.bool true))]) ⟨.rfl, .rfl, .rfl, .rfl, .rfl, .rfl, (.of (congrArg AV.bool b110)), trivial⟩))
       ·intro b110 h1
        refine sr rfl fun K111 hK111 => ?_
        iterate 2 refine zq tb rfl ?_
        refine dn hK111 rfl ?_
        refine ci h1 rfl ?_ ?_ <;> clear h1
        ·intro b112 h1
         exact AW.skip (M34 true (Sh.some_eq h1).symm _ (Wk.to (L := [(2, (i64 p2)), (3, (.ptr 0 0 0 0)), (4, (.ptr 1 0 0 0)), (7, (.ptr 2 0 0 0)), (8, (i64 (Sh.len c3.args))), (74, (i64 c3.op)), (97, (.bool true))]) ⟨.rfl, .rfl, .rfl, .rfl, .rfl, .rfl, (.of (congrArg AV.bool b112)), trivial⟩))
        ·intro b112 h1
         refine sr rfl fun K113 hK113 => ?_
         iterate 2 refine zq tb rfl ?_
         refine dn hK113 rfl ?_
         refine ci h1 rfl ?_ ?_ <;> clear h1
         ·intro b114 h1
          exact AW.skip (M34 true (Sh.some_eq h1).symm _ (Wk.to (L := [(2, (i64 p2)), (3, (.ptr 0 0 0 0)), (4, (.ptr 1 0 0 0)), (7, (.ptr 2 0 0 0)), (8, (i64 (Sh.len c3.args))), (74, (i64 c3.op)), (97, (.bool true))]) ⟨.rfl, .rfl, .rfl, .rfl, .rfl, .rfl, (.of (congrArg AV.bool b114)), trivial⟩))
         ·intro b114 h1
          refine sr rfl fun K115 hK115 => ?_
          iterate 2 refine zq tb rfl ?_
          refine dn hK115 rfl ?_
          refine ci h1 rfl ?_ ?_ <;> clear h1
          ·intro b116 h1
           exact AW.skip (M34 true (Sh.some_eq h1).symm _ (Wk.to (L := [(2, (i64 p2)), (3, (.ptr 0 0 0 0)), (4, (.ptr 1 0 0 0)), (7, (.ptr 2 0 0 0)), (8, (i64 (Sh.len c3.args))), (74, (i64 c3.op)), (97, (.bool true))]) ⟨.rfl, .rfl, .rfl, .rfl, .rfl, .rfl, (.of (congrArg AV.bool b116)), trivial⟩))
          ·intro b116 h1
           refine AW.regionO (by rfl) ?_
           iterate 2 refine zq tb rfl ?_
           exact AO.done (M34 (decide (c3.op = 23)) (Sh.some_eq h1).symm _ (Wk.tr rfl))
     refine sr rfl fun K117 hK117 => ?_
     iterate 2 refine zq tb rfl ?_
     refine dn hK117 rfl ?_
     refine ci h1 rfl ?_ ?_ <;> clear h1
     ·intro b118 h1
      exact AW.skip (M26 true (Sh.some_eq h1).symm _ (Wk.to (L := [(2, (i64 p2)), (3, (.ptr 0 0 0 0)), (4, (.ptr 1 0 0 0)), (7, (.ptr 2 0 0 0)), (8, (i64 (Sh.len c3.args))), (74, (i64 c3.op)), (84, (.bool true))]) ⟨.rfl, .rfl, .rfl, .rfl, .rfl, .rfl, (.of (congrArg AV.bool b118)), trivial⟩))
     ·intro b118 h1
      refine sr rfl fun K119 hK119 => ?_
      iterate 2 refine zq tb rfl ?_
      refine dn hK119 rfl ?_
      refine ci h1 rfl ?_ ?_ <;> clear h1
      ·intro b120 h1
       exact AW.skip (M26 true (Sh.some_eq h1).symm _ (Wk.to (L := [(2, (i64 p2)), (3, (.ptr 0 0 0 0)), (4, (.ptr 1 0 0 0)), (7, (.ptr 2 0 0 0)), (8, (i64 (Sh.len c3.args))), (74, (i64 c3.op)), (84, (.bool true))]) ⟨.rfl, .rfl, .rfl, .rfl, .rfl, .rfl, (.of (congrArg AV.bool b120)), trivial⟩))
      ·intro b120 h1
       refine sr rfl fun K121 hK121 => ?_
       iterate 2 refine zq tb rfl ?_
       refine dn hK121 rfl ?_
       refine ci h1 rfl ?_ ?_ <;> clear h1
       ·intro b122 h1
        exact AW.skip (M26 true (Sh.some_eq h1).symm _ (Wk.to (L := [(2, (i64 p2)), (3, (.ptr 0 0 0 0)), (4, (.ptr 1 0 0 0)), (7, (.ptr 2 0 0 0)), (8, (i64 (Sh.len c3.args))), (74, (i64 c3.op)), (84, (.bool true))]) ⟨.rfl, .rfl, .rfl, .rfl, .rfl, .rfl, (.of (congrArg AV.bool b122)), trivial⟩))
       ·intro b122 h1
        refine sr rfl fun K123 hK123 => ?_
        iterate 2 refine zq tb rfl ?_
        refine dn hK123 rfl ?_
        refine ci h1 rfl ?_ ?_ <;> clear h1
        ·intro b124 h1
         exact AW.skip (M26 true (Sh.some_eq h1).symm _ (Wk.to (L := [(2, (i64 p2)), (3, (.ptr 0 0 0 0)), (4, (.ptr 1 0 0 0)), (7, (.ptr 2 0 0 0)), (8, (i64 (Sh.len c3.args))), (74, (i64 c3.op)), (84, (.bool true))]) ⟨.rfl, .rfl, .rfl, .rfl, .rfl, .rfl, (.of (congrArg AV.bool b124)), trivial⟩))
        ·intro b124 h1
         refine AW.regionO (by rfl) ?_
         iterate 2 refine zq tb rfl ?_
         exact AO.done (M26 (decide (c3.op = 11)) (Sh.some_eq h1).symm _ (Wk.tr rfl))
  refine AW.regionO (by rfl) ?_
  iterate 5 refine zq tb rfl ?_
  obtain ⟨q125, gq125, h1⟩ := Sh.bind_some h1
  refine zc hb25 (spec_inRange_ok gq125) rfl rfl rfl ?_
  iterate 2 refine zq tb rfl ?_
  rcases Sh.ite_some h1 with ⟨b126, h1⟩ | ⟨b126, h1⟩
  ·refine zs b126 rfl ?_
   iterate 3 refine zs b126 rfl ?_
   iterate 4 refine zn rfl ?_
   refine zs b126 rfl ?_
   refine zt b126 rfl ?_
   refine zq tb rfl ?_
   iterate 4 refine zs rfl rfl ?_
   iterate 3 refine zn rfl ?_
   refine zs rfl rfl ?_
   refine zt rfl rfl ?_
   refine zq tb rfl ?_
   iterate 4 refine zs rfl rfl ?_
   iterate 4 refine zn rfl ?_
   refine zs rfl rfl ?_
   refine zt rfl rfl ?_
   exact AO.done (M12 true (Sh.some_eq h1).symm _ (Wk.tr rfl))
  ·refine zg tb b126 rfl ?_
   iterate 3 refine zg tb b126 rfl ?_
   rcases Sh.ite_some h1 with ⟨b127, h1⟩ | ⟨b127, h1⟩
   ·refine zg tb b127 rfl ?_
    refine zg tb b127 rfl ?_
    obtain ⟨q128, gq128, h1⟩ := Sh.bind_some h1
    refine zd b127 hb63 (spec_sets_ok gq128) rfl rfl rfl rfl ?_
    refine zg tb b127 rfl ?_
    refine ao_q (v := (.bool (!q128))) (go1 rfl rfl b126) rfl (aq_pkt rfl b127 rfl) ?_
    refine zf b126 rfl ?_
    refine zq tb rfl ?_
    rcases Sh.ite_some h1 with ⟨b129, h1⟩ | ⟨b129, h1⟩
    ·refine zs b129 rfl ?_
     iterate 3 refine zs b129 rfl ?_
     iterate 3 refine zn rfl ?_
     refine zs b129 rfl ?_
     refine zt b129 rfl ?_
     refine zq tb rfl ?_
     iterate 4 refine zs rfl rfl ?_
     iterate 4 refine zn rfl ?_
     refine zs rfl rfl ?_
     refine zt rfl rfl ?_
     exact AO.done (M12 true (Sh.some_eq h1).symm _ (Wk.tr rfl))
    ·refine zg tb b129 rfl ?_
     iterate 3 refine zg tb b129 rfl ?_
     rcases Sh.ite_some h1 with ⟨b130, h1⟩ | ⟨b130, h1⟩
     ·refine zg tb b130 rfl ?_
      iterate 2 refine zg tb b130 rfl ?_
      refine ao_q (v := (.bool (!decide (c3.op = 6)))) (go1 rfl rfl b129) rfl (aq_pkt rfl b130 rfl) ?_
      refine zf b129 rfl ?_
      refine zq tb rfl ?_
      rcases Sh.ite_some h1 with ⟨b131, h1⟩ | ⟨b131, h1⟩
      ·refine zs b131 rfl ?_
       iterate 3 refine zs b131 rfl ?_
       iterate 4 refine zn rfl ?_
       refine zs b131 rfl ?_
       refine zt b131 rfl ?_
       exact AO.done (M12 true (Sh.some_eq h1).symm _ (Wk.tr rfl))
      ·refine zg tb b131 rfl ?_
       iterate 3 refine zg tb b131 rfl ?_
       rcases Sh.ite_some h1 with ⟨b132, h1⟩ | ⟨b132, h1⟩
       ·refine zg tb b132 rfl ?_
        refine zg tb b132 rfl ?_
        refine ao_q (v := (i64 (Sh.len c3.jumps))) (go1 rfl rfl b132) rfl (aq_lens sl27 rfl) ?_
        refine zg tb b132 rfl ?_
        refine ao_q (v := (.bool (decide (0 < (Sh.len c3.jumps))))) (go1 rfl rfl b131) rfl (aq_pkt rfl b132 rfl) ?_
        refine zf b131 rfl ?_
        exact AO.done (M12 (decide (0 < (Sh.len c3.jumps))) (Sh.some_eq h1).symm _ (Wk.tr rfl))
       ·refine zs b132 rfl ?_
        iterate 3 refine zs b132 rfl ?_
        refine ao_q (v := (.bool false)) (go1 rfl rfl b131) rfl (aq_pkf rfl b132 rfl) ?_
        refine zf b131 rfl ?_
        exact AO.done (M12 false (Sh.some_eq h1).symm _ (Wk.tr rfl))
     ·refine zs b130 rfl ?_
      iterate 2 refine zs b130 rfl ?_
      refine ao_q (v := (.bool false)) (go1 rfl rfl b129) rfl (aq_pkf rfl b130 rfl) ?_
      refine zf b129 rfl ?_
      refine zq tb rfl ?_
      iterate 4 refine zg tb rfl rfl ?_
      rcases Sh.ite_some h1 with ⟨b133, h1⟩ | ⟨b133, h1⟩
      ·refine zg tb b133 rfl ?_
       refine zg tb b133 rfl ?_
       refine ao_q (v := (i64 (Sh.len c3.jumps))) (go1 rfl rfl b133) rfl (aq_lens sl27 rfl) ?_
       refine zg tb b133 rfl ?_
       refine ao_q (v := (.bool (decide (0 < (Sh.len c3.jumps))))) (go1 rfl rfl rfl) rfl (aq_pkt rfl b133 rfl) ?_
       refine zf rfl rfl ?_
       exact AO.done (M12 (decide (0 < (Sh.len c3.jumps))) (Sh.some_eq h1).symm _ (Wk.tr rfl))
      ·refine zs b133 rfl ?_
       iterate 3 refine zs b133 rfl ?_
       refine ao_q (v := (.bool false)) (go1 rfl rfl rfl) rfl (aq_pkf rfl b133 rfl) ?_
       refine zf rfl rfl ?_
       exact AO.done (M12 false (Sh.some_eq h1).symm _ (Wk.tr rfl))
   ·refine zs b127 rfl ?_
    iterate 3 refine zs b127 rfl ?_
    refine ao_q (v := (.bool false)) (go1 rfl rfl b126) rfl (aq_pkf rfl b127 rfl) ?_
    refine zf b126 rfl ?_
    refine zq tb rfl ?_
    iterate 4 refine zg tb rfl rfl ?_
    rcases Sh.ite_some h1 with ⟨b134, h1⟩ | ⟨b134, h1⟩
    ·refine zg tb b134 rfl ?_
     iterate 2 refine zg tb b134 rfl ?_
     refine ao_q (v := (.bool (!decide (c3.op = 6)))) (go1 rfl rfl rfl) rfl (aq_pkt rfl b134 rfl) ?_
     refine zf rfl rfl ?_
     refine zq tb rfl ?_
     rcases Sh.ite_some h1 with ⟨b135, h1⟩ | ⟨b135, h1⟩
     ·refine zs b135 rfl ?_
      iterate 3 refine zs b135 rfl ?_
      iterate 4 refine zn rfl ?_
      refine zs b135 rfl ?_
      refine zt b135 rfl ?_
      exact AO.done (M12 true (Sh.some_eq h1).symm _ (Wk.tr rfl))
     ·refine zg tb b135 rfl ?_
      iterate 3 refine zg tb b135 rfl ?_
      rcases Sh.ite_some h1 with ⟨b136, h1⟩ | ⟨b136, h1⟩
      ·refine zg tb b136 rfl ?_
       refine zg tb b136 rfl ?_
       refine ao_q (v := (i64 (Sh.len c3.jumps))) (go1 rfl rfl b136) rfl (aq_lens sl27 rfl) ?_
       refine zg tb b136 rfl ?_
       refine ao_q (v := (.bool (decide (0 < (Sh.len c3.jumps))))) (go1 rfl rfl b135) rfl (aq_pkt rfl b136 rfl) ?_
       refine zf b135 rfl ?_
       exact AO.done (M12 (decide (0 < (Sh.len c3.jumps))) (Sh.some_eq h1).symm _ (Wk.tr rfl))
      ·refine zs b136 rfl ?_
       iterate 3 refine zs b136 rfl ?_
       refine ao_q (v := (.bool false)) (go1 rfl rfl b135) rfl (aq_pkf rfl b136 rfl) ?_
       refine zf b135 rfl ?_
       exact AO.done (M12 false (Sh.some_eq h1).symm _ (Wk.tr rfl))
    ·refine zs b134 rfl ?_
     iterate 2 refine zs b134 rfl ?_
     refine ao_q (v := (.bool false)) (go1 rfl rfl rfl) rfl (aq_pkf rfl b134 rfl) ?_
     refine zf rfl rfl ?_
     refine zq tb rfl ?_
     iterate 4 refine zg tb rfl rfl ?_
     rcases Sh.ite_some h1 with ⟨b137, h1⟩ | ⟨b137, h1⟩
     ·refine zg tb b137 rfl ?_
      refine zg tb b137 rfl ?_
      refine ao_q (v := (i64 (Sh.len c3.jumps))) (go1 rfl rfl b137) rfl (aq_lens sl27 rfl) ?_
      refine zg tb b137 rfl ?_
      refine ao_q (v := (.bool (decide (0 < (Sh.len c3.jumps))))) (go1 rfl rfl rfl) rfl (aq_pkt rfl b137 rfl) ?_
      refine zf rfl rfl ?_
      exact AO.done (M12 (decide (0 < (Sh.len c3.jumps))) (Sh.some_eq h1).symm _ (Wk.tr rfl))
     ·refine zs b137 rfl ?_
      iterate 3 refine zs b137 rfl ?_
      refine ao_q (v := (.bool false)) (go1 rfl rfl rfl) rfl (aq_pkf rfl b137 rfl) ?_
      refine zf rfl rfl ?_
      exact AO.done (M12 false (Sh.some_eq h1).symm _ (Wk.tr rfl))
 refine AW.block (AW.loopF (σ := Int) (fun n v => spec_validInstr_L1 c3 p1 n v = some o8) (fun k7 => ⟨234, envL [(2, (i64 p2)), (3, (.ptr 0 0 0 0)), (4, (.ptr 1 0 0 0)), (7, (.ptr 2 0 0 0)), (8, (i64 (Sh.len c3.args))), (9, (i64 k7))], [⟨0, 32, 2, [(eRImage p0)]⟩, ⟨0, 55, 5, [(eRProc p1)]⟩, ⟨0, 63, 6, [(eRInstr c3)]⟩]⟩) N 0 h1 (Wk.tr rfl) (fun _ hv => by rw [spec_validInstr_L1] at hv; cases hv) ?_)
 rintro n k7 h1
 try dsimp only at h1 ⊢
 rw [spec_validInstr_L1] at h1
 refine AW.seq fun K138 hK138 => ?_
 refine sr rfl fun K139 hK139 => ?_
 iterate 3 refine zq tb rfl ?_
 refine dn hK139 rfl ?_
 refine ci h1 rfl ?_ ?_ <;> clear h1
 ·intro b140 h1
  refine AW.skip (hK138 _ ?_)
  refine AW.seq fun K141 hK141 => ?_
  refine AW.block ?_
  refine AW.seq fun K142 hK142 => ?_
  refine AW.draw (by kernel_rfl) (by kernel_rfl) (by rfl) ?_
  iterate 3 refine yq tb rfl ?_
  obtain ⟨c143, gc143, h1⟩ := Sh.bind_some h1
  refine yx ei27 gc143 rfl rfl rfl ?_
  iterate 4 refine yq tb rfl ?_
  obtain ⟨q144, gq144, h1⟩ := Sh.bind_some h1
  refine d_call (v := (.bool q144)) go0 hb25 (spec_inRange_ok gq144) rfl rfl rfl ?_
  refine yq tb rfl ?_
  refine d_done (hK142 _ ?_)
  refine ci h1 rfl ?_ ?_ <;> clear h1
  ·intro b145 h1
   have b146 : q144 = false := by simpa using b145
   refine sr rfl fun K147 hK147 => ?_
   refine zq tb rfl ?_
   refine dn hK147 rfl ?_
   replace h1 := Sh.some_eq h1
   subst o8
   try dsimp only [id] at h0
   replace h0 := Sh.some_eq h0
   subst r
   exact AW.ret (xr (Wk.d0 [(6, (.bool false))] rfl))
  ·intro b145 h1
   have b148 : q144 = true := by simpa using b145
   refine AW.skip (hK141 _ ?_)
   refine AW.regionO (by rfl) ?_
   iterate 3 refine zq tb rfl ?_
   exact AO.done (xi (Sh.w (k7 + 1)) h1 (Wk.tr rfl))
 ·intro b140 h1
  exact AW.exit (M8 () (Sh.some_eq h1).symm _ (Wk.tr rfl))
theorem spec_validProc_ok {N : Nat} {p0 : RImage} {p1 : RProc} {r : Bool} (h0 : spec_validProc N p0 p1 = some r) : ACalls Try.prog 53 [(.agg (eRImage p0)), (.agg (eRProc p1))] [] (fun v st => v = (.bool r) ∧ st = []) := by
 unfold spec_validProc at h0
 refine ACalls.intro Try.func53 rfl (by show 2 ≤ 59; decide) ?_
 show AW _ 0 _ (aret _ 0 Try.f53 _) ⟨59, _, _⟩
 refine AW.weaken (Wk.to (L := [(0, (.agg (eRImage p0))), (1, (.agg (eRProc p1)))]) ⟨.rfl, .rfl, trivial⟩) ?_
 refine sr rfl fun K1 hK1 => ?_
 refine ao_box (m := 0) (st' := [⟨0, 32, 2, [(eRImage p0)]⟩]) go0 rfl rfl rfl rfl rfl ?_
 refine ao_box (m := 1) (st' := [⟨0, 32, 2, [(eRImage p0)]⟩, ⟨0, 55, 5, [(eRProc p1)]⟩]) go0 rfl rfl rfl rfl rfl ?_
 refine zq tb rfl ?_
 refine dn hK1 rfl ?_
 refine sr rfl fun K2 hK2 => ?_
 iterate 2 refine zq tb rfl ?_
 refine zl tb rfl rfl ?_
 refine zq tb rfl ?_
 refine dn hK2 rfl ?_
 refine AW.seq fun K3 hK3 => ?_
 refine AW.seq fun K4 hK4 => ?_
 obtain ⟨o6, h1, h0⟩ := Sh.bind_some h0
 have M6 : ∀ (t5 : Bool), o6 = t5 → ∀ s, Wk 0 s ⟨59, envL [(2, (.ptr 0 0 0 0)), (3, (.ptr 1 0 0 0)), (5, (i64 (Sh.len p1.code))), (30, (.bool t5))], [⟨0, 32, 2, [(eRImage p0)]⟩, ⟨0, 55, 5, [(eRProc p1)]⟩]⟩ → K4 s := by
  intro t5 hq s hw
  subst o6
  try dsimp only at h0
  refine hK4 _ (AW.weaken hw ?_)
  refine ci h0 rfl ?_ ?_ <;> clear h0
  ·intro b7 h0
   refine sr rfl fun K8 hK8 => ?_
   refine zq tb rfl ?_
   refine dn hK8 rfl ?_
   replace h0 := Sh.some_eq h0
   subst r
   exact AW.ret (xr (Wk.d0 [(4, (.bool false))] rfl))
  ·intro b7 h0
   refine AW.skip (hK3 _ ?_)
   refine AW.seq fun K9 hK9 => ?_
   refine sr rfl fun K10 hK10 => ?_
   refine zq tb rfl ?_
   refine dn hK10 rfl ?_
   obtain ⟨o12, h1, h0⟩ := Sh.cont_some h0
   have M12 : ∀ (_ : Unit), o12 = Sum.inr () → ∀ s, Wk 0 s ⟨59, envL [(3, (.ptr 0 0 0 0)), (5, (i64 (Sh.len p1.code)))], [⟨0, 55, 5, [(eRProc p1)]⟩]⟩ → K9 s := by
    intro _ hq s hw
    subst o12
    try dsimp only at h0
    refine hK9 _ (AW.weaken hw ?_)
    refine AW.seq fun K13 hK13 => ?_
    obtain ⟨o15, h1, h0⟩ := Sh.bind_some h0
    have M15 : ∀ (t14 : Bool), o15 = t14 → ∀ s, Wk 0 s ⟨59, envL [(4, (.bool t14))], []⟩ → K13 s := by
     intro t14 hq s hw
     subst o15
     try dsimp only at h0
     refine hK13 _ (AW.weaken hw ?_)
     replace h0 := Sh.some_eq h0
     subst r
     exact AW.ret (xr (Wk.to (L := [(4, (.bool t14))]) ⟨.rfl, trivial⟩))
    refine AW.regionO (by rfl) ?_
    iterate 4 refine zq tb rfl ?_
    obtain ⟨c16, gc16, h1⟩ := Sh.bind_some h1
    refine zx ei53 gc16 rfl rfl rfl ?_
    iterate 4 refine zq tb rfl ?_
    rcases Sh.ite_some h1 with ⟨b17, h1⟩ | ⟨b17, h1⟩
    ·refine zs b17 rfl ?_
     iterate 7 refine zs b17 rfl ?_
     refine zt b17 rfl ?_
     refine zq tb rfl ?_
     exact AO.done (M15 true (Sh.some_eq h1).symm _ (Wk.d0 _ rfl))
    ·refine zg tb b17 rfl ?_
     iterate 3 refine zg tb b17 rfl ?_
     refine ao_q (v := (.iptr (eRInstr c16) 0)) (go1 rfl rfl b17) rfl (aq_ixs ei53 rfl rfl gc16 rfl) ?_
     iterate 3 refine zg tb b17 rfl ?_
     refine zf b17 rfl ?_
     refine zq tb rfl ?_
     exact AO.done (M15 (decide (c16.op = 24)) (Sh.some_eq h1).symm _ (Wk.d0 _ rfl))
   refine AW.block (AW.loopF (σ := Int) (fun n v => spec_validProc_L1 N p0 p1 n v = some o12) (fun at11 => ⟨59, envL [(2, (.ptr 0 0 0 0)), (3, (.ptr 1 0 0 0)), (5, (i64 (Sh.len p1.code))), (6, (i64 at11))], [⟨0, 32, 2, [(eRImage p0)]⟩, ⟨0, 55, 5, [(eRProc p1)]⟩]⟩) N 0 h1 (Wk.tr rfl) (fun _ hv => by rw [spec_validProc_L1] at hv; cases hv) ?_)
   rintro n at11 h1
   try dsimp only at h1 ⊢
   rw [spec_validProc_L1] at h1
   refine AW.seq fun K18 hK18 => ?_
   refine sr rfl fun K19 hK19 => ?_
   iterate 3 refine zq tb rfl ?_
   refine dn hK19 rfl ?_
   refine ci h1 rfl ?_ ?_ <;> clear h1
   ·intro b20 h1
    refine AW.skip (hK18 _ ?_)
    refine AW.seq fun K21 hK21 => ?_
    refine AW.block ?_
    refine sr rfl fun K22 hK22 => ?_
    iterate 3 refine zq tb rfl ?_
    obtain ⟨q23, gq23, h1⟩ := Sh.bind_some h1
    refine zc hb77 (spec_validInstr_ok gq23) rfl rfl rfl ?_
    refine zq tb rfl ?_
    refine dn hK22 rfl ?_
    refine ci h1 rfl ?_ ?_ <;> clear h1
    ·intro b24 h1
     have b25 : q23 = false := by simpa using b24
     refine sr rfl fun K26 hK26 => ?_
     refine zq tb rfl ?_
     refine dn hK26 rfl ?_
     replace h1 := Sh.some_eq h1
     subst o12
     try dsimp only [id] at h0
     replace h0 := Sh.some_eq h0
     subst r
     exact AW.ret (xr (Wk.d0 [(4, (.bool false))] rfl))
    ·intro b24 h1
     have b27 : q23 = true := by simpa using b24
     refine AW.skip (hK21 _ ?_)
     refine AW.regionO (by rfl) ?_
     iterate 3 refine zq tb rfl ?_
     exact AO.done (xi (Sh.w (at11 + 1)) h1 (Wk.tr rfl))
   ·intro b20 h1
    exact AW.exit (M12 () (Sh.some_eq h1).symm _ (Wk.permk (L := [(3, (.ptr 0 0 0 0)), (5, (i64 (Sh.len p1.code)))]) (st' := [⟨0, 55, 5, [(eRProc p1)]⟩]) (st1 := [⟨0, 55, 5, [(eRProc p1)]⟩]) [1] rfl .nil (by decide) rfl rfl (.raw rfl rfl .nil) ⟨.rfl, .rfl, trivial⟩))
 refine AW.regionO (by rfl) ?_
 iterate 4 refine zq tb rfl ?_
 obtain ⟨q28, gq28, h1⟩ := Sh.bind_some h1
 refine zc hb76 (spec_validLent_ok gq28) rfl rfl rfl ?_
 iterate 2 refine zq tb rfl ?_
 rcases Sh.ite_some h1 with ⟨b29, h1⟩ | ⟨b29, h1⟩
 ·refine zs b29 rfl ?_
  iterate 7 refine zs b29 rfl ?_
  refine zt b29 rfl ?_
  refine zq tb rfl ?_
  iterate 3 refine zs rfl rfl ?_
  refine zt rfl rfl ?_
  exact AO.done (M6 true (Sh.some_eq h1).symm _ (Wk.tr rfl))
 ·refine zg tb b29 rfl ?_
  iterate 3 refine zg tb b29 rfl ?_
  refine ao_q (v := (i64 (Sh.len p1.params))) (go1 rfl rfl b29) rfl (aq_lens sl27 rfl) ?_
  refine ao_q (v := (i64 (if (Sh.len p1.params) > 1 then (Sh.len p1.params) else 1))) (go1 rfl rfl b29) rfl (aq_max rfl rfl) ?_
  obtain ⟨q30, gq30, h1⟩ := Sh.bind_some h1
  refine zd b29 hb25 (spec_inRange_ok gq30) rfl rfl rfl rfl ?_
  refine zg tb b29 rfl ?_
  refine zf b29 rfl ?_
  refine zq tb rfl ?_
  rcases Sh.ite_some h1 with ⟨b31, h1⟩ | ⟨b31, h1⟩
  ·refine zs b31 rfl ?_
   iterate 2 refine zs b31 rfl ?_
   refine zt b31 rfl ?_
   exact AO.done (M6 true (Sh.some_eq h1).symm _ (Wk.tr rfl))
  ·refine zg tb b31 rfl ?_
   obtain ⟨q32, gq32, h1⟩ := Sh.bind_some h1
   refine zd b31 hb25 (spec_inRange_ok gq32) rfl rfl rfl rfl ?_
   refine zg tb b31 rfl ?_
   refine zf b31 rfl ?_
   exact AO.done (M6 (!q32) (Sh.some_eq h1).symm _ (Wk.tr rfl))
theorem spec_validImage_ok {N : Nat} {p0 : RImage} {r : Bool} (h0 : spec_validImage N p0 = some r) : ACalls Try.prog 24 [(.agg (eRImage p0))] [] (fun v st => v = (.bool r) ∧ st = []) := by
 unfold spec_validImage at h0
 refine ACalls.intro Try.func24 rfl (by show 1 ≤ 29; decide) ?_
 show AW _ 0 _ (aret _ 0 Try.f24 _) ⟨29, _, _⟩
 refine AW.weaken (Wk.to (L := [(0, (.agg (eRImage p0)))]) ⟨.rfl, trivial⟩) ?_
 refine sr rfl fun K1 hK1 => ?_
 refine ao_box (m := 0) (st' := [⟨0, 32, 2, [(eRImage p0)]⟩]) go0 rfl rfl rfl rfl rfl ?_
 refine zq tb rfl ?_
 refine dn hK1 rfl ?_
 refine AW.seq fun K2 hK2 => ?_
 refine AW.seq fun K3 hK3 => ?_
 obtain ⟨o5, h1, h0⟩ := Sh.bind_some h0
 have M5 : ∀ (t4 : Bool), o5 = t4 → ∀ s, Wk 0 s ⟨29, envL [(1, (.ptr 0 0 0 0)), (13, (.bool t4))], [⟨0, 32, 2, [(eRImage p0)]⟩]⟩ → K3 s := by
  intro t4 hq s hw
  subst o5
  try dsimp only at h0
  refine hK3 _ (AW.weaken hw ?_)
  refine ci h0 rfl ?_ ?_ <;> clear h0
  ·intro b6 h0
   refine sr rfl fun K7 hK7 => ?_
   refine zq tb rfl ?_
   refine dn hK7 rfl ?_
   replace h0 := Sh.some_eq h0
   subst r
   exact AW.ret (xr (Wk.d0 [(2, (.bool false))] rfl))
  ·intro b6 h0
   refine AW.skip (hK2 _ ?_)
   refine AW.seq fun K8 hK8 => ?_
   refine sr rfl fun K9 hK9 => ?_
   refine zq tb rfl ?_
   refine dn hK9 rfl ?_
   obtain ⟨o11, h1, h0⟩ := Sh.cont_some h0
   have M11 : ∀ (_ : Unit), o11 = Sum.inr () → ∀ s, Wk 0 s ⟨29, envL [], []⟩ → K8 s := by
    intro _ hq s hw
    subst o11
    try dsimp only at h0
    refine hK8 _ (AW.weaken hw ?_)
    refine sr rfl fun K12 hK12 => ?_
    refine zq tb rfl ?_
    refine dn hK12 rfl ?_
    replace h0 := Sh.some_eq h0
    subst r
    exact AW.ret (xr (Wk.to (L := [(2, (.bool true))]) ⟨.rfl, trivial⟩))
   refine AW.block (AW.loopF (σ := Int) (fun n v => spec_validImage_L1 N p0 n v = some o11) (fun i10 => ⟨29, envL [(1, (.ptr 0 0 0 0)), (3, (i64 i10))], [⟨0, 32, 2, [(eRImage p0)]⟩]⟩) N 0 h1 (Wk.tr rfl) (fun _ hv => by rw [spec_validImage_L1] at hv; cases hv) ?_)
   rintro n i10 h1
   try dsimp only at h1 ⊢
   rw [spec_validImage_L1] at h1
   refine AW.seq fun K13 hK13 => ?_
   refine sr rfl fun K14 hK14 => ?_
   iterate 3 refine zq tb rfl ?_
   refine zl tb rfl rfl ?_
   refine zq tb rfl ?_
   refine dn hK14 rfl ?_
   refine ci h1 rfl ?_ ?_ <;> clear h1
   ·intro b15 h1
    refine AW.skip (hK13 _ ?_)
    refine AW.seq fun K16 hK16 => ?_
    refine AW.block ?_
    refine AW.seq fun K17 hK17 => ?_
    refine AW.draw (by kernel_rfl) (by kernel_rfl) (by rfl) ?_
    iterate 4 refine yq tb rfl ?_
    obtain ⟨c18, gc18, h1⟩ := Sh.bind_some h1
    refine yx ei30 gc18 rfl rfl rfl ?_
    refine yq tb rfl ?_
    obtain ⟨q19, gq19, h1⟩ := Sh.bind_some h1
    refine d_call (v := (.bool q19)) go0 hb53 (spec_validProc_ok gq19) rfl rfl rfl ?_
    refine yq tb rfl ?_
    refine d_done (hK17 _ ?_)
    refine ci h1 rfl ?_ ?_ <;> clear h1
    ·intro b20 h1
     have b21 : q19 = false := by simpa using b20
     refine sr rfl fun K22 hK22 => ?_
     refine zq tb rfl ?_
     refine dn hK22 rfl ?_
     replace h1 := Sh.some_eq h1
     subst o11
     try dsimp only [id] at h0
     replace h0 := Sh.some_eq h0
     subst r
     exact AW.ret (xr (Wk.d0 [(2, (.bool false))] rfl))
    ·intro b20 h1
     have b23 : q19 = true := by simpa using b20
     refine AW.skip (hK16 _ ?_)
     refine AW.regionO (by rfl) ?_
     iterate 3 refine zq tb rfl ?_
     exact AO.done (xi (Sh.w (i10 + 1)) h1 (Wk.tr rfl))
   ·intro b15 h1
    exact AW.exit (M11 () (Sh.some_eq h1).symm _ (Wk.d0 _ rfl))
 refine AW.regionO (by rfl) ?_
 iterate 2 refine zq tb rfl ?_
 refine zl tb rfl rfl ?_
 iterate 2 refine zq tb rfl ?_
 rcases Sh.ite_some h1 with ⟨b24, h1⟩ | ⟨b24, h1⟩
 ·refine zs b24 rfl ?_
  iterate 3 refine zs b24 rfl ?_
  refine zt b24 rfl ?_
  exact AO.done (M5 true (Sh.some_eq h1).symm _ (Wk.tr rfl))
 ·refine zg tb b24 rfl ?_
  obtain ⟨q25, gq25, h1⟩ := Sh.bind_some h1
  refine zd (v' := (.agg [(.sl (List.map eRDecl q25.decls)), (.sl (List.map eRFunc q25.funcs))])) b24 hb52 (spec_sigsOfImage_ok gq25) rfl rfl rfl rfl ?_
  obtain ⟨q26, gq26, h1⟩ := Sh.bind_some h1
  refine zd b24 hb51 (spec_validSigs_ok gq26) rfl rfl rfl rfl ?_
  refine zg tb b24 rfl ?_
  refine zf b24 rfl ?_
  exact AO.done (M5 (!q26) (Sh.some_eq h1).symm _ (Wk.tr rfl))
theorem spec_isIn_ok {N : Nat} {p0 : (List Int)} {p1 : Int} {r : Bool} (h0 : spec_isIn N p0 p1 = some r) : ACalls Try.prog 26 [(.sl (List.map eI p0)), (i64 p1)] [] (fun v st => v = (.bool r) ∧ st = []) := by
 unfold spec_isIn at h0
 refine ACalls.intro Try.func26 rfl (by show 2 ≤ 18; decide) ?_
 show AW _ 0 _ (aret _ 0 Try.f26 _) ⟨18, _, _⟩
 refine AW.weaken (Wk.to (L := [(0, (.sl (List.map eI p0))), (1, (i64 p1))]) ⟨.rfl, .rfl, trivial⟩) ?_
 refine sr rfl fun K1 hK1 => ?_
 refine zq tb rfl ?_
 refine dn hK1 rfl ?_
 refine AW.seq fun K2 hK2 => ?_
 refine sr rfl fun K3 hK3 => ?_
 refine zq tb rfl ?_
 refine dn hK3 rfl ?_
 obtain ⟨o5, h1, h0⟩ := Sh.cont_some h0
 have M5 : ∀ (_ : Unit), o5 = Sum.inr () → ∀ s, Wk 0 s ⟨18, envL [], []⟩ → K2 s := by
  intro _ hq s hw
  subst o5
  try dsimp only at h0
  refine hK2 _ (AW.weaken hw ?_)
  refine sr rfl fun K6 hK6 => ?_
  refine zq tb rfl ?_
  refine dn hK6 rfl ?_
  replace h0 := Sh.some_eq h0
  subst r
  exact AW.ret (xr (Wk.to (L := [(4, (.bool false))]) ⟨.rfl, trivial⟩))
 refine AW.block (AW.loopF (σ := Int) (fun n v => spec_isIn_L1 p0 p1 n v = some o5) (fun i4 => ⟨18, envL [(0, (.sl (List.map eI p0))), (1, (i64 p1)), (5, (i64 i4))], []⟩) N 0 h1 (Wk.tr rfl) (fun _ hv => by rw [spec_isIn_L1] at hv; cases hv) ?_)
 rintro n i4 h1
 try dsimp only at h1 ⊢
 rw [spec_isIn_L1] at h1
 refine AW.seq fun K7 hK7 => ?_
 refine sr rfl fun K8 hK8 => ?_
 iterate 2 refine zq tb rfl ?_
 refine zl tb rfl rfl ?_
 refine zq tb rfl ?_
 refine dn hK8 rfl ?_
 refine ci h1 rfl ?_ ?_ <;> clear h1
 ·intro b9 h1
  refine AW.skip (hK7 _ ?_)
  refine AW.seq fun K10 hK10 => ?_
  refine AW.block ?_
  refine sr rfl fun K11 hK11 => ?_
  iterate 2 refine zq tb rfl ?_
  obtain ⟨c12, gc12, h1⟩ := Sh.bind_some h1
  refine zx ei27 gc12 rfl rfl rfl ?_
  iterate 3 refine zq tb rfl ?_
  refine dn hK11 rfl ?_
  refine ci h1 rfl ?_ ?_ <;> clear h1
  ·intro b13 h1
   refine sr rfl fun K14 hK14 => ?_
   refine zq tb rfl ?_
   refine dn hK14 rfl ?_
   replace h1 := Sh.some_eq h1
   subst o5
   try dsimp only [id] at h0
   replace h0 := Sh.some_eq h0
   subst r
   exact AW.ret (xr (Wk.to (L := [(4, (.bool true))]) ⟨.rfl, trivial⟩))
  ·intro b13 h1
   refine AW.skip (hK10 _ ?_)
   refine AW.regionO (by rfl) ?_
   iterate 3 refine zq tb rfl ?_
   exact AO.done (xi (Sh.w (i4 + 1)) h1 (Wk.tr rfl))
 ·intro b9 h1
  exact AW.exit (M5 () (Sh.some_eq h1).symm _ (Wk.tr rfl))
theorem spec_insert_ok {N : Nat} {p0 : (List Int)} {p1 : Int} {r : (List Int)} (h0 : spec_insert N p0 p1 = some r) : ACalls Try.prog 28 [(.sl (List.map eI p0)), (i64 p1)] [] (fun v st => v = (.own 0 0 (List.length r)) ∧ st = [⟨0, 3, 1, List.map eI r⟩]) := by
 unfold spec_insert at h0
 refine ACalls.intro Try.func28 rfl (by show 2 ≤ 49; decide) ?_
 show AW _ 0 _ (aret _ 0 Try.f28 _) ⟨49, _, _⟩
 refine AW.weaken (Wk.to (L := [(0, (.sl (List.map eI p0))), (1, (i64 p1))]) ⟨.rfl, .rfl, trivial⟩) ?_
 refine sr rfl fun K1 hK1 => ?_
 refine zq tb rfl ?_
 refine dn hK1 rfl ?_
 refine sr rfl fun K2 hK2 => ?_
 refine ao_bs (m := 0) (st' := [⟨0, 3, 1, List.map eI ([] : List Int)⟩]) (l := ([] : List Int)) (enc := eI) go0 ei27 (by decide) rfl rfl rfl rfl rfl rfl ?_
 refine zq tb rfl ?_
 refine dn hK2 rfl ?_
 refine sr rfl fun K3 hK3 => ?_
 refine zq tb rfl ?_
 refine dn hK3 rfl ?_
 refine AW.seq fun K4 hK4 => ?_
 refine sr rfl fun K5 hK5 => ?_
 refine zq tb rfl ?_
 refine dn hK5 rfl ?_
 obtain ⟨o11, h1, h0⟩ := Sh.bind_some h0
 have M11 : ∀ (done9 : Bool) (l10 : (List Int)), o11 = (done9, l10) → ∀ s, Wk 0 s ⟨49, envL [(1, (i64 p1)), (5, (.own 0 0 (List.length l10))), (6, (.bool done9))], [⟨0, 3, 1, List.map eI l10⟩]⟩ → K4 s := by
  intro done9 l10 hq s hw
  subst o11
  try dsimp only at h0
  refine hK4 _ (AW.weaken hw ?_)
  refine AW.seq fun K12 hK12 => ?_
  obtain ⟨o14, h1, h0⟩ := Sh.bind_some h0
  have M14 : ∀ (l13 : (List Int)), o14 = l13 → ∀ s, Wk 0 s ⟨49, envL [(5, (.own 0 0 (List.length l13)))], [⟨0, 3, 1, List.map eI l13⟩]⟩ → K12 s := by
   intro l13 hq s hw
   subst o14
   try dsimp only at h0
   refine hK12 _ (AW.weaken hw ?_)
   refine sr rfl fun K15 hK15 => ?_
   iterate 2 refine zq tb rfl ?_
   refine dn hK15 rfl ?_
   replace h0 := Sh.some_eq h0
   subst r
   exact AW.ret (xr (Wk.to (L := [(4, (.own 0 0 (List.length l13)))]) ⟨.rfl, trivial⟩))
  refine sr rfl fun K16 hK16 => ?_
  iterate 2 refine zq tb rfl ?_
  refine dn hK16 rfl ?_
  refine ci h1 rfl ?_ ?_ <;> clear h1
  ·intro b17 h1
   have b18 : done9 = false := by simpa using b17
   refine AW.regionO (by rfl) ?_
   iterate 2 refine zq tb rfl ?_
   refine ao_bs (m := 1) (st' := [⟨0, 3, 1, List.map eI l10⟩, ⟨0, 3, 1, List.map eI [p1]⟩]) (l := [p1]) (enc := eI) go0 ei27 (by decide) rfl rfl rfl rfl rfl rfl ?_
   obtain ⟨l19, gl19, h1⟩ := Sh.bind_some h1
   refine ao_apo (st' := [⟨1, 3, 1, List.map eI l19⟩, ⟨0, 3, 1, List.map eI [p1]⟩]) (l2 := [p1]) go0 ei27 rfl rfl rfl rfl (el_o rfl rfl) (fun _ => rfl) gl19 rfl ?_
   refine zq tb rfl ?_
   exact AO.done (M14 l19 (Sh.some_eq h1).symm _ (by refine Wk.trans (Wk.rg (L := [(5, (.own 0 0 (List.length l19)))]) (st' := [⟨0, 3, 1, List.map eI l19⟩, ⟨0, 3, 1, List.map eI [p1]⟩]) (.pure (pure_map fun _ => rfl) (.pure (pure_map fun _ => rfl) .nil)) ⟨.rfl, trivial⟩) ?_; exact Wk.permk (L := [(5, (.own 0 0 (List.length l19)))]) (st' := [⟨0, 3, 1, List.map eI l19⟩]) (st1 := [⟨0, 3, 1, List.map eI l19⟩]) [0] rfl .nil (by decide) rfl rfl (.pure (pure_map fun _ => rfl) .nil) ⟨.rfl, trivial⟩))
  ·intro b17 h1
   have b20 : done9 = true := by simpa using b17
   exact AW.skip (M14 l10 (Sh.some_eq h1).symm _ (Wk.tr rfl))
 refine AW.block (AW.loopF (σ := Bool × Int × (List Int)) (fun n v => spec_insert_L1 p0 p1 n v.1 v.2.1 v.2.2 = some o11) (fun (done6, i7, l8) => ⟨49, envL [(0, (.sl (List.map eI p0))), (1, (i64 p1)), (5, (.own 0 0 (List.length l8))), (6, (.bool done6)), (7, (i64 i7))], [⟨0, 3, 1, List.map eI l8⟩]⟩) N (false, 0, []) h1 (Wk.tr rfl) (fun _ hv => by rw [spec_insert_L1] at hv; cases hv) ?_)
 rintro n ⟨done6, i7, l8⟩ h1
 try dsimp only at h1 ⊢
 rw [spec_insert_L1] at h1
 refine AW.seq fun K21 hK21 => ?_
 refine sr rfl fun K22 hK22 => ?_
 iterate 2 refine zq tb rfl ?_
 refine zl tb rfl rfl ?_
 refine zq tb rfl ?_
 refine dn hK22 rfl ?_
 refine ci h1 rfl ?_ ?_ <;> clear h1
 ·intro b23 h1
  refine AW.skip (hK21 _ ?_)
  refine AW.seq fun K24 hK24 => ?_
  refine AW.block ?_
  refine AW.seq fun K25 hK25 => ?_
  obtain ⟨o28, h2, h1⟩ := Sh.bind_some h1
  have M28 : ∀ (done26 : Bool) (l27 : (List Int)), o28 = (done26, l27) → ∀ s, Wk 0 s ⟨49, envL [(0, (.sl (List.map eI p0))), (1, (i64 p1)), (5, (.own 0 0 (List.length l27))), (6, (.bool done26)), (7, (i64 i7))], [⟨0, 3, 1, List.map eI l27⟩]⟩ → K25 s := by
   intro done26 l27 hq s hw
   subst o28
   try dsimp only at h1
   refine hK25 _ (AW.weaken hw ?_)
   refine AW.regionO (by rfl) ?_
   iterate 3 refine zq tb rfl ?_
   obtain ⟨c29, gc29, h1⟩ := Sh.bind_some h1
   refine zx ei27 gc29 rfl rfl rfl ?_
   refine zq tb rfl ?_
   refine ao_bs (m := 1) (st' := [⟨0, 3, 1, List.map eI l27⟩, ⟨0, 3, 1, List.map eI [c29]⟩]) (l := [c29]) (enc := eI) go0 ei27 (by decide) rfl rfl rfl rfl rfl rfl ?_
   obtain ⟨l30, gl30, h1⟩ := Sh.bind_some h1
   refine ao_apo (st' := [⟨1, 3, 1, List.map eI l30⟩, ⟨0, 3, 1, List.map eI [c29]⟩]) (l2 := [c29]) go0 ei27 rfl rfl rfl rfl (el_o rfl rfl) (fun _ => rfl) gl30 rfl ?_
   refine zq tb rfl ?_
   refine dn hK24 rfl ?_
   refine AW.regionO (by rfl) ?_
   iterate 3 refine zq tb rfl ?_
   exact AO.done (xi (done26, Sh.w (i7 + 1), l30) h1 (by refine Wk.trans (Wk.rg (L := [(0, (.sl (List.map eI p0))), (1, (i64 p1)), (5, (.own 0 0 (List.length l30))), (6, (.bool done26)), (7, (i64 (Sh.w (i7 + 1))))]) (st' := [⟨0, 3, 1, List.map eI l30⟩, ⟨0, 3, 1, List.map eI [c29]⟩]) (.pure (pure_map fun _ => rfl) (.pure (pure_map fun _ => rfl) .nil)) ⟨.rfl, .rfl, .rfl, .rfl, .rfl, trivial⟩) ?_; exact Wk.permk (L := [(0, (.sl (List.map eI p0))), (1, (i64 p1)), (5, (.own 0 0 (List.length l30))), (6, (.bool done26)), (7, (i64 (Sh.w (i7 + 1))))]) (st' := [⟨0, 3, 1, List.map eI l30⟩]) (st1 := [⟨0, 3, 1, List.map eI l30⟩]) [0] rfl .nil (by decide) rfl rfl (.pure (pure_map fun _ => rfl) .nil) ⟨.rfl, .rfl, .rfl, .rfl, .rfl, trivial⟩))
  refine AW.seq fun K31 hK31 => ?_
  obtain ⟨o33, h3, h2⟩ := Sh.bind_some h2
  have M33 : ∀ (t32 : Bool), o33 = t32 → ∀ s, Wk 0 s ⟨49, envL [(0, (.sl (List.map eI p0))), (1, (i64 p1)), (5, (.own 0 0 (List.length l8))), (6, (.bool done6)), (7, (i64 i7)), (24, (.bool t32))], [⟨0, 3, 1, List.map eI l8⟩]⟩ → K31 s := by
   intro t32 hq s hw
   subst o33
   try dsimp only at h2
   refine hK31 _ (AW.weaken hw ?_)
   refine ci h2 rfl ?_ ?_ <;> clear h2
   ·intro b34 h2
    refine AW.seq fun K35 hK35 => ?_
    obtain ⟨o37, h3, h2⟩ := Sh.bind_some h2
    have M37 : ∀ (l36 : (List Int)), o37 = l36 → ∀ s, Wk 0 s ⟨49, envL [(0, (.sl (List.map eI p0))), (1, (i64 p1)), (5, (.own 0 0 (List.length l36))), (7, (i64 i7))], [⟨0, 3, 1, List.map eI l36⟩]⟩ → K35 s := by
     intro l36 hq s hw
     subst o37
     try dsimp only at h2
     refine hK35 _ (AW.weaken hw ?_)
     refine AW.regionO (by rfl) ?_
     refine zq tb rfl ?_
     exact AO.done (M28 true l36 (Sh.some_eq h2).symm _ (Wk.tr rfl))
    refine sr rfl fun K38 hK38 => ?_
    iterate 2 refine zq tb rfl ?_
    obtain ⟨c39, gc39, h3⟩ := Sh.bind_some h3
    refine zx ei27 gc39 rfl rfl rfl ?_
    iterate 3 refine zq tb rfl ?_
    refine dn hK38 rfl ?_
    refine ci h3 rfl ?_ ?_ <;> clear h3
    ·intro b40 h3
     refine AW.regionO (by rfl) ?_
     iterate 2 refine zq tb rfl ?_
     refine ao_bs (m := 1) (st' := [⟨0, 3, 1, List.map eI l8⟩, ⟨0, 3, 1, List.map eI [p1]⟩]) (l := [p1]) (enc := eI) go0 ei27 (by decide) rfl rfl rfl rfl rfl rfl ?_
     obtain ⟨l41, gl41, h3⟩ := Sh.bind_some h3
     refine ao_apo (st' := [⟨1, 3, 1, List.map eI l41⟩, ⟨0, 3, 1, List.map eI [p1]⟩]) (l2 := [p1]) go0 ei27 rfl rfl rfl rfl (el_o rfl rfl) (fun _ => rfl) gl41 rfl ?_
     refine zq tb rfl ?_
     exact AO.done (M37 l41 (Sh.some_eq h3).symm _ (by refine Wk.trans (Wk.rg (L := [(0, (.sl (List.map eI p0))), (1, (i64 p1)), (5, (.own 0 0 (List.length l41))), (7, (i64 i7))]) (st' := [⟨0, 3, 1, List.map eI l41⟩, ⟨0, 3, 1, List.map eI [p1]⟩]) (.pure (pure_map fun _ => rfl) (.pure (pure_map fun _ => rfl) .nil)) ⟨.rfl, .rfl, .rfl, .rfl, trivial⟩) ?_; exact Wk.permk (L := [(0, (.sl (List.map eI p0))), (1, (i64 p1)), (5, (.own 0 0 (List.length l41))), (7, (i64 i7))]) (st' := [⟨0, 3, 1, List.map eI l41⟩]) (st1 := [⟨0, 3, 1, List.map eI l41⟩]) [0] rfl .nil (by decide) rfl rfl (.pure (pure_map fun _ => rfl) .nil) ⟨.rfl, .rfl, .rfl, .rfl, trivial⟩))
    ·intro b40 h3
     exact AW.skip (M37 l8 (Sh.some_eq h3).symm _ (Wk.tr rfl))
   ·intro b34 h2
    exact AW.skip (M28 done6 l8 (Sh.some_eq h2).symm _ (Wk.tr rfl))
  refine AW.regionO (by rfl) ?_
  iterate 3 refine zq tb rfl ?_
  rcases Sh.ite_some h3 with ⟨b42, h3⟩ | ⟨b42, h3⟩
  ·refine zg tb b42 rfl ?_
   refine zg tb b42 rfl ?_
   obtain ⟨c43, gc43, h3⟩ := Sh.bind_some h3
   refine ao_q (v := (.iptr (eI c43) 0)) (go1 rfl rfl b42) rfl (aq_ixs ei27 rfl rfl gc43 rfl) ?_
   iterate 3 refine zg tb b42 rfl ?_
   refine zt b42 rfl ?_
   exact AO.done (M33 (decide (p1 ≤ c43)) (Sh.some_eq h3).symm _ (Wk.tr rfl))
  ·refine zs b42 rfl ?_
   iterate 5 refine zs b42 rfl ?_
   refine zf b42 rfl ?_
   exact AO.done (M33 false (Sh.some_eq h3).symm _ (Wk.tr rfl))
 ·intro b23 h1
  exact AW.exit (M11 done6 l8 (Sh.some_eq h1).symm _ (Wk.tr rfl))
theorem spec_nextOf_ok {N : Nat} {p0 : (List RInstr)} {p1 : Int} {r : (List Int)} (h0 : spec_nextOf N p0 p1 = some r) : ACalls Try.prog 27 [(.sl (List.map eRInstr p0)), (i64 p1)] [] (fun v st => v = (.own 0 0 (List.length r)) ∧ st = [⟨0, 3, 1, List.map eI r⟩]) := by
 unfold spec_nextOf at h0
 refine ACalls.intro Try.func27 rfl (by show 2 ≤ 52; decide) ?_
 show AW _ 0 _ (aret _ 0 Try.f27 _) ⟨52, _, _⟩
 refine AW.weaken (Wk.to (L := [(0, (.sl (List.map eRInstr p0))), (1, (i64 p1))]) ⟨.rfl, .rfl, trivial⟩) ?_
 refine sr rfl fun K1 hK1 => ?_
 refine zq tb rfl ?_
 refine dn hK1 rfl ?_
 refine sr rfl fun K2 hK2 => ?_
 iterate 2 refine zq tb rfl ?_
 obtain ⟨c3, gc3, h0⟩ := Sh.bind_some h0
 refine zx ei53 gc3 rfl rfl rfl ?_
 refine zq tb rfl ?_
 refine ao_alloc (m := 0) (st' := [⟨0, 63, 6, [[(i64 0), (i64 0), (i64 0), (i64 0), .zc, .zc]]⟩]) go0 zi63 rfl rfl ?_
 refine ao_str (st' := [⟨0, 63, 6, [(eRInstr c3)]⟩]) go0 ti63 rfl rfl rfl rfl rfl rfl (show 0 + 6 ≤ 6 by decide) rfl ?_
 refine dn hK2 rfl ?_
 refine AW.seq fun K4 hK4 => ?_
 refine sr rfl fun K5 hK5 => ?_
 iterate 2 refine zq tb rfl ?_
 refine dn hK5 rfl ?_
 refine AW.block ?_
 refine AW.seq fun K6 hK6 => ?_
 obtain ⟨o8, h1, h0⟩ := Sh.bind_some h0
 have M8 : ∀ (t7 : Bool), o8 = t7 → ∀ s, Wk 0 s ⟨52, envL [(1, (i64 p1)), (5, (.ptr 0 0 0 0)), (13, (i64 c3.op)), (14, (.bool t7))], [⟨0, 63, 6, [(eRInstr c3)]⟩]⟩ → K6 s := by
  intro t7 hq s hw
  subst o8
  try dsimp only at h0
  refine hK6 _ (AW.weaken hw ?_)
  refine ci h0 rfl ?_ ?_ <;> clear h0
  ·intro b9 h0
   refine sr rfl fun K10 hK10 => ?_
   refine ao_bs (m := 1) (st' := [⟨0, 63, 6, [(eRInstr c3)]⟩, ⟨0, 3, 1, List.map eI ([] : List Int)⟩]) (l := ([] : List Int)) (enc := eI) go0 ei27 (by decide) rfl rfl rfl rfl rfl rfl ?_
   refine zq tb rfl ?_
   refine dn hK10 rfl ?_
   replace h0 := Sh.some_eq h0
   subst r
   exact AW.ret (xr (Wk.permk (L := [(4, (.own 0 0 (List.length ([] : List Int))))]) (st' := [⟨0, 3, 1, List.map eI ([] : List Int)⟩]) (st1 := [⟨0, 3, 1, List.map eI ([] : List Int)⟩]) [1] rfl .nil (by decide) rfl rfl (.pure (pure_map fun _ => rfl) .nil) ⟨.rfl, trivial⟩))
  ·intro b9 h0
   refine sr rfl fun K11 hK11 => ?_
   iterate 2 refine zq tb rfl ?_
   refine dn hK11 rfl ?_
   refine ci h0 rfl ?_ ?_ <;> clear h0
   ·intro b12 h0
    refine sr rfl fun K13 hK13 => ?_
    iterate 2 refine zq tb rfl ?_
    refine ao_bs (m := 1) (st' := [⟨0, 63, 6, [(eRInstr c3)]⟩, ⟨0, 3, 1, List.map eI [c3.num]⟩]) (l := [c3.num]) (enc := eI) go0 ei27 (by decide) rfl rfl rfl rfl rfl rfl ?_
    refine zq tb rfl ?_
    refine dn hK13 rfl ?_
    replace h0 := Sh.some_eq h0
    subst r
    exact AW.ret (xr (Wk.permk (L := [(4, (.own 0 0 (List.length [c3.num])))]) (st' := [⟨0, 3, 1, List.map eI [c3.num]⟩]) (st1 := [⟨0, 3, 1, List.map eI [c3.num]⟩]) [1] rfl .nil (by decide) rfl rfl (.pure (pure_map fun _ => rfl) .nil) ⟨.rfl, trivial⟩))
   ·intro b12 h0
    refine sr rfl fun K14 hK14 => ?_
    iterate 2 refine zq tb rfl ?_
    refine dn hK14 rfl ?_
    refine ci h0 rfl ?_ ?_ <;> clear h0
    ·intro b15 h0
     refine sr rfl fun K16 hK16 => ?_
     iterate 2 refine zq tb rfl ?_
     refine ao_bs (m := 1) (st' := [⟨0, 63, 6, [(eRInstr c3)]⟩, ⟨0, 3, 1, List.map eI [Sh.w (p1 + 1)]⟩]) (l := [Sh.w (p1 + 1)]) (enc := eI) go0 ei27 (by decide) rfl rfl rfl rfl rfl rfl ?_
     iterate 2 refine zq tb rfl ?_
     refine AO.weaken (Wk.frz (L := [(27, (.sl (List.map eI [Sh.w (p1 + 1)]))), (29, (i64 c3.num))]) (st' := [⟨0, 63, 6, [(eRInstr c3)]⟩, ⟨1, 3, 1, []⟩]) (id := 1) rfl (show 0 ≤ 1 by decide) (pure_map fun _ => rfl) ⟨(.frz rfl), .rfl, trivial⟩ rfl) ?_
     obtain ⟨q17, gq17, h0⟩ := Sh.bind_some h0
     refine ao_call (v' := (.own 2 0 (List.length q17))) (st' := [⟨0, 63, 6, [(eRInstr c3)]⟩, ⟨1, 3, 1, []⟩, ⟨0, 3, 1, List.map eI q17⟩]) go0 hb28 (spec_insert_ok gq17) rfl rfl ⟨(pure_map' fun _ => rfl), trivial⟩ rfl rfl ?_
     refine zq tb rfl ?_
     refine dn hK16 rfl ?_
     replace h0 := Sh.some_eq h0
     subst r
     exact AW.ret (xr (Wk.permk (L := [(4, (.own 0 0 (List.length q17)))]) (st' := [⟨0, 3, 1, List.map eI q17⟩]) (st1 := [⟨0, 3, 1, List.map eI q17⟩]) [2] rfl .nil (by decide) rfl rfl (.pure (pure_map fun _ => rfl) .nil) ⟨.rfl, trivial⟩))
    ·intro b15 h0
     refine sr rfl fun K18 hK18 => ?_
     iterate 2 refine zq tb rfl ?_
     refine dn hK18 rfl ?_
     refine ci h0 rfl ?_ ?_ <;> clear h0
     ·intro b19 h0
      refine sr rfl fun K20 hK20 => ?_
      refine ao_bs (m := 1) (st' := [⟨0, 63, 6, [(eRInstr c3)]⟩, ⟨0, 3, 1, List.map eI ([] : List Int)⟩]) (l := ([] : List Int)) (enc := eI) go0 ei27 (by decide) rfl rfl rfl rfl rfl rfl ?_
      refine zq tb rfl ?_
      refine dn hK20 rfl ?_
      refine AW.seq fun K21 hK21 => ?_
      refine sr rfl fun K22 hK22 => ?_
      refine zq tb rfl ?_
      refine dn hK22 rfl ?_
      obtain ⟨o26, h1, h0⟩ := Sh.bind_some h0
      have M26 : ∀ (l25 : (List Int)), o26 = l25 → ∀ s, Wk 0 s ⟨52, envL [(6, (.own 0 0 (List.length l25)))], [⟨0, 3, 1, List.map eI l25⟩]⟩ → K21 s := by
       intro l25 hq s hw
       subst o26
       try dsimp only at h0
       refine hK21 _ (AW.weaken hw ?_)
       refine sr rfl fun K27 hK27 => ?_
       iterate 2 refine zq tb rfl ?_
       refine dn hK27 rfl ?_
       replace h0 := Sh.some_eq h0
       subst r
       exact AW.ret (xr (Wk.to (L := [(4, (.own 0 0 (List.length l25)))]) ⟨.rfl, trivial⟩))
      refine AW.block (AW.loopF (σ := Int × (List Int)) (fun n v => spec_nextOf_L1 N c3 n v.1 v.2 = some o26) (fun (k23, l24) => ⟨52, envL [(5, (.ptr 0 0 0 0)), (6, (.own 1 0 (List.length l24))), (7, (i64 k23))], [⟨0, 63, 6, [(eRInstr c3)]⟩, ⟨0, 3, 1, List.map eI l24⟩]⟩) N (0, []) h1 (Wk.tr rfl) (fun _ hv => by rw [spec_nextOf_L1] at hv; cases hv) ?_)
      rintro n ⟨k23, l24⟩ h1
      try dsimp only at h1 ⊢
      rw [spec_nextOf_L1] at h1
      refine AW.seq fun K28 hK28 => ?_
      refine sr rfl fun K29 hK29 => ?_
      iterate 3 refine zq tb rfl ?_
      refine zl tb rfl rfl ?_
      refine zq tb rfl ?_
      refine dn hK29 rfl ?_
      refine ci h1 rfl ?_ ?_ <;> clear h1
      ·intro b30 h1
       refine AW.skip (hK28 _ ?_)
       refine AW.seq fun K31 hK31 => ?_
       refine AW.block ?_
       refine AW.regionO (by rfl) ?_
       iterate 4 refine zq tb rfl ?_
       obtain ⟨c32, gc32, h1⟩ := Sh.bind_some h1
       refine zx ei27 gc32 rfl rfl rfl ?_
       refine zq tb rfl ?_
       refine AO.weaken (Wk.frz (L := [(5, (.ptr 0 0 0 0)), (7, (i64 k23)), (41, (.sl (List.map eI l24))), (46, (i64 c32))]) (st' := [⟨0, 63, 6, [(eRInstr c3)]⟩, ⟨1, 3, 1, []⟩]) (id := 1) rfl (show 0 ≤ 1 by decide) (pure_map fun _ => rfl) ⟨.rfl, .rfl, (.frz rfl), .rfl, trivial⟩ rfl) ?_
       obtain ⟨q33, gq33, h1⟩ := Sh.bind_some h1
       refine ao_call (v' := (.own 2 0 (List.length q33))) (st' := [⟨0, 63, 6, [(eRInstr c3)]⟩, ⟨1, 3, 1, []⟩, ⟨0, 3, 1, List.map eI q33⟩]) go0 hb28 (spec_insert_ok gq33) rfl rfl ⟨(pure_map' fun _ => rfl), trivial⟩ rfl rfl ?_
       refine zq tb rfl ?_
       refine dn hK31 rfl ?_
       refine AW.regionO (by rfl) ?_
       iterate 3 refine zq tb rfl ?_
       exact AO.done (xi (Sh.w (k23 + 1), q33) h1 (Wk.permk (L := [(5, (.ptr 0 0 0 0)), (6, (.own 1 0 (List.length q33))), (7, (i64 (Sh.w (k23 + 1))))]) (st' := [⟨0, 63, 6, [(eRInstr c3)]⟩, ⟨0, 3, 1, List.map eI q33⟩]) (st1 := [⟨0, 63, 6, [(eRInstr c3)]⟩, ⟨0, 3, 1, List.map eI q33⟩]) [0, 2] rfl .nil (by decide) rfl rfl (.raw rfl rfl (.pure (pure_map fun _ => rfl) .nil)) ⟨.rfl, .rfl, .rfl, trivial⟩))
      ·intro b30 h1
       exact AW.exit (M26 l24 (Sh.some_eq h1).symm _ (Wk.permk (L := [(6, (.own 0 0 (List.length l24)))]) (st' := [⟨0, 3, 1, List.map eI l24⟩]) (st1 := [⟨0, 3, 1, List.map eI l24⟩]) [1] rfl .nil (by decide) rfl rfl (.pure (pure_map fun _ => rfl) .nil) ⟨.rfl, trivial⟩))
     ·intro b19 h0
      refine AW.skip (hK4 _ ?_)
      refine sr rfl fun K34 hK34 => ?_
      iterate 2 refine zq tb rfl ?_
      refine ao_bs (m := 1) (st' := [⟨0, 63, 6, [(eRInstr c3)]⟩, ⟨0, 3, 1, List.map eI [Sh.w (p1 + 1)]⟩]) (l := [Sh.w (p1 + 1)]) (enc := eI) go0 ei27 (by decide) rfl rfl rfl rfl rfl rfl ?_
      refine zq tb rfl ?_
      refine dn hK34 rfl ?_
      replace h0 := Sh.some_eq h0
      subst r
      exact AW.ret (xr (Wk.permk (L := [(4, (.own 0 0 (List.length [Sh.w (p1 + 1)])))]) (st' := [⟨0, 3, 1, List.map eI [Sh.w (p1 + 1)]⟩]) (st1 := [⟨0, 3, 1, List.map eI [Sh.w (p1 + 1)]⟩]) [1] rfl .nil (by decide) rfl rfl (.pure (pure_map fun _ => rfl) .nil) ⟨.rfl, trivial⟩))
 refine sr rfl fun K35 hK35 => ?_
 iterate 2 refine zq tb rfl ?_
 refine dn hK35 rfl ?_
 refine ci h1 rfl ?_ ?_ <;> clear h1
 ·intro b36 h1
  exact AW.skip (M8 true (Sh.some_eq h1).symm _ (Wk.to (L := [(1, (i64 p1)), (5, (.ptr 0 0 0 0)), (13, (i64 c3.op)), (14, (.bool true))]) ⟨.rfl, .rfl, .rfl, (.of (congrArg AV.bool b36)), trivial⟩))
 ·intro b36 h1
  refine AW.regionO (by rfl) ?_
  iterate 2 refine zq tb rfl ?_
  exact AO.done (M8 (decide (c3.op = 24)) (Sh.some_eq h1).symm _ (Wk.tr rfl))
end Go.Proofs.Ytgcghdgbahfcjaa

