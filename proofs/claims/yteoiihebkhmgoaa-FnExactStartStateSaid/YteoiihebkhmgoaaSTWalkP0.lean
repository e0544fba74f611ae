import Derived.Test.YteoiihebkhmgoaaProg
import Derived.Test.YteoiihebkhmgoaaGHADefsToSTDefs
import Derived.Test.YteoiihebkhmgoaaAbsQ
namespace Go.Proofs.Yteoiihebkhmgoaa
open Go Go.Abs RC
attribute [local irreducible] Go.Abs.dops
set_option maxRecDepth 100000
set_option maxHeartbeats 4000000

def tb : Tab Try.prog where
 t := [(110, true, 5), (118, true, 3), (120, false, 1), (128, true, 1), (130, true, 1), (132, true, 6), (22, false, 1), (23, false, 1), (25, true, 2), (27, false, 1), (28, false, 1), (29, false, 1), (3, false, 1), (31, true, 7), (34, false, 1), (35, false, 1), (37, true, 2), (62, false, 1), (64, true, 3), (66, false, 1), (68, true, 5), (70, false, 1), (72, true, 2), (75, false, 1), (77, true, 5), (79, true, 6), (81, false, 1), (83, true, 3), (86, false, 1), (88, true, 2), (92, true, 6), (97, true, 3)]
 f := [(110, 0, 0), (110, 1, 1), (118, 0, 0), (118, 1, 1), (118, 2, 2), (128, 0, 0), (130, 0, 0), (132, 0, 0), (132, 1, 1), (132, 2, 2), (132, 3, 3), (132, 4, 4), (132, 5, 5), (25, 0, 0), (25, 1, 1), (31, 0, 0), (31, 1, 1), (31, 2, 2), (31, 3, 3), (31, 4, 4), (31, 5, 5), (31, 6, 6), (37, 0, 0), (37, 1, 1), (64, 0, 0), (64, 1, 1), (64, 2, 2), (68, 0, 0), (68, 1, 1), (68, 2, 2), (68, 3, 3), (68, 4, 4), (72, 0, 0), (72, 1, 1), (77, 0, 0), (77, 1, 1), (77, 2, 2), (77, 3, 3), (77, 4, 4), (79, 0, 0), (79, 1, 1), (79, 2, 2), (79, 3, 3), (79, 4, 4), (79, 5, 5), (83, 0, 0), (83, 1, 1), (83, 2, 2), (88, 0, 0), (88, 1, 1), (92, 0, 0), (92, 1, 1), (92, 2, 2), (92, 3, 3), (92, 4, 4), (92, 5, 5), (97, 0, 0), (97, 1, 1), (97, 2, 2)]
 v := []
 b := [4]
 s := [22, 23, 27, 28, 29, 34, 35, 62, 66, 70, 75, 81, 86]
 ht := by kernel_rfl
 hf := by kernel_rfl
 hv := by kernel_rfl
 hb := by kernel_rfl
 hs := by kernel_rfl

theorem ai110 : allInfo Try.prog 110 = true := by kernel_rfl
theorem ai31 : allInfo Try.prog 31 = true := by kernel_rfl
theorem ai72 : allInfo Try.prog 72 = true := by kernel_rfl
theorem ai79 : allInfo Try.prog 79 = true := by kernel_rfl
theorem bi110 : finfos Try.prog 110 = some [(0, 1), (1, 1), (2, 3)] := by kernel_rfl
theorem bi31 : finfos Try.prog 31 = some [(0, 1), (1, 1), (2, 1), (3, 1), (4, 1), (5, 1), (6, 1)] := by kernel_rfl
theorem bi72 : finfos Try.prog 72 = some [(0, 1), (1, 1)] := by kernel_rfl
theorem bi79 : finfos Try.prog 79 = some [(0, 1), (1, 1), (2, 1), (3, 1), (4, 1), (5, 1)] := by kernel_rfl
theorem ei22 : einfo Try.prog 22 = some ⟨64, 3, 40, [.int .i64 0, .int .i64 0, .sl []]⟩ := by kernel_rfl
theorem ei23 : einfo Try.prog 23 = some ⟨68, 5, 88, [.sl [], .sl [], .int .i64 0, .int .i64 0, .sl []]⟩ := by kernel_rfl
theorem ei27 : einfo Try.prog 27 = some ⟨3, 1, 8, [.int .i64 0]⟩ := by kernel_rfl
theorem ei28 : einfo Try.prog 28 = some ⟨97, 3, 40, [.int .i64 0, .int .i64 0, .sl []]⟩ := by kernel_rfl
theorem ei29 : einfo Try.prog 29 = some ⟨79, 6, 96, [.int .i64 0, .int .i64 0, .int .i64 0, .sl [], .sl [], .sl []]⟩ := by kernel_rfl
theorem ei34 : einfo Try.prog 34 = some ⟨83, 3, 40, [.int .i64 0, .int .i64 0, .sl []]⟩ := by kernel_rfl
theorem ei35 : einfo Try.prog 35 = some ⟨77, 5, 88, [.sl [], .sl [], .int .i64 0, .int .i64 0, .sl []]⟩ := by kernel_rfl
theorem ei62 : einfo Try.prog 62 = some ⟨130, 1, 24, [.sl []]⟩ := by kernel_rfl
theorem ei66 : einfo Try.prog 66 = some ⟨132, 6, 80, [.int .i64 0, .int .i64 0, .int .i64 0, .int .i64 0, .sl [], .sl []]⟩ := by kernel_rfl
theorem ei70 : einfo Try.prog 70 = some ⟨110, 5, 72, [.sl [], .int .i64 0, .int .i64 0, .int .i64 0, .sl []]⟩ := by kernel_rfl
theorem ei75 : einfo Try.prog 75 = some ⟨92, 6, 80, [.int .i64 0, .int .i64 0, .int .i64 0, .int .i64 0, .sl [], .sl []]⟩ := by kernel_rfl
theorem ei81 : einfo Try.prog 81 = some ⟨128, 1, 24, [.sl []]⟩ := by kernel_rfl
theorem hb13 : hasBody Try.prog 13 = true := by kernel_rfl
theorem hb14 : hasBody Try.prog 14 = true := by kernel_rfl
theorem hb15 : hasBody Try.prog 15 = true := by kernel_rfl
theorem hb16 : hasBody Try.prog 16 = true := by kernel_rfl
theorem hb17 : hasBody Try.prog 17 = true := by kernel_rfl
theorem hb18 : hasBody Try.prog 18 = true := by kernel_rfl
theorem hb19 : hasBody Try.prog 19 = true := by kernel_rfl
theorem hb35 : hasBody Try.prog 35 = true := by kernel_rfl
theorem hb36 : hasBody Try.prog 36 = true := by kernel_rfl
theorem hb37 : hasBody Try.prog 37 = true := by kernel_rfl
theorem hb38 : hasBody Try.prog 38 = true := by kernel_rfl
theorem hb39 : hasBody Try.prog 39 = true := by kernel_rfl
theorem hb40 : hasBody Try.prog 40 = true := by kernel_rfl
theorem hb41 : hasBody Try.prog 41 = true := by kernel_rfl
theorem hb42 : hasBody Try.prog 42 = true := by kernel_rfl
theorem hb52 : hasBody Try.prog 52 = true := by kernel_rfl
theorem hb53 : hasBody Try.prog 53 = true := by kernel_rfl
theorem hb54 : hasBody Try.prog 54 = true := by kernel_rfl
theorem hb55 : hasBody Try.prog 55 = true := by kernel_rfl
theorem hb56 : hasBody Try.prog 56 = true := by kernel_rfl
theorem hb57 : hasBody Try.prog 57 = true := by kernel_rfl
theorem hb58 : hasBody Try.prog 58 = true := by kernel_rfl
theorem hb59 : hasBody Try.prog 59 = true := by kernel_rfl
theorem hb60 : hasBody Try.prog 60 = true := by kernel_rfl
theorem hb61 : hasBody Try.prog 61 = true := by kernel_rfl
theorem hb62 : hasBody Try.prog 62 = true := by kernel_rfl
theorem hb72 : hasBody Try.prog 72 = true := by kernel_rfl
theorem hb73 : hasBody Try.prog 73 = true := by kernel_rfl
theorem hb74 : hasBody Try.prog 74 = true := by kernel_rfl
theorem hb75 : hasBody Try.prog 75 = true := by kernel_rfl
theorem hb76 : hasBody Try.prog 76 = true := by kernel_rfl
theorem hb77 : hasBody Try.prog 77 = true := by kernel_rfl
theorem hb78 : hasBody Try.prog 78 = true := by kernel_rfl
theorem hb79 : hasBody Try.prog 79 = true := by kernel_rfl
theorem hb80 : hasBody Try.prog 80 = true := by kernel_rfl
theorem hb81 : hasBody Try.prog 81 = true := by kernel_rfl
theorem hb82 : hasBody Try.prog 82 = true := by kernel_rfl
theorem hb92 : hasBody Try.prog 92 = true := by kernel_rfl
theorem hb93 : hasBody Try.prog 93 = true := by kernel_rfl
theorem sl27 : isSliceT Try.prog 27 = true := by kernel_rfl
theorem sl34 : isSliceT Try.prog 34 = true := by kernel_rfl
theorem sl70 : isSliceT Try.prog 70 = true := by kernel_rfl
theorem sl75 : isSliceT Try.prog 75 = true := by kernel_rfl
theorem ti110 : tinfo Try.prog 110 = some (true, 5) := by kernel_rfl
theorem ti128 : tinfo Try.prog 128 = some (true, 1) := by kernel_rfl
theorem ti27 : tinfo Try.prog 27 = some (false, 1) := by kernel_rfl
theorem ti3 : tinfo Try.prog 3 = some (false, 1) := by kernel_rfl
theorem ti31 : tinfo Try.prog 31 = some (true, 7) := by kernel_rfl
theorem ti34 : tinfo Try.prog 34 = some (false, 1) := by kernel_rfl
theorem ti35 : tinfo Try.prog 35 = some (false, 1) := by kernel_rfl
theorem ti37 : tinfo Try.prog 37 = some (true, 2) := by kernel_rfl
theorem ti70 : tinfo Try.prog 70 = some (false, 1) := by kernel_rfl
theorem ti72 : tinfo Try.prog 72 = some (true, 2) := by kernel_rfl
theorem ti75 : tinfo Try.prog 75 = some (false, 1) := by kernel_rfl
theorem ti77 : tinfo Try.prog 77 = some (true, 5) := by kernel_rfl
theorem ti79 : tinfo Try.prog 79 = some (true, 6) := by kernel_rfl
theorem ti81 : tinfo Try.prog 81 = some (false, 1) := by kernel_rfl
theorem ti83 : tinfo Try.prog 83 = some (true, 3) := by kernel_rfl
theorem ti92 : tinfo Try.prog 92 = some (true, 6) := by kernel_rfl
theorem zi110 : zinfo Try.prog 110 = some [.zc, .int .i64 0, .int .i64 0, .int .i64 0, .zc] := by kernel_rfl
theorem zi128 : zinfo Try.prog 128 = some [.zc] := by kernel_rfl
theorem zi31 : zinfo Try.prog 31 = some [.int .i64 0, .int .i64 0, .int .i64 0, .int .i64 0, .zc, .zc, .zc] := by kernel_rfl
theorem zi37 : zinfo Try.prog 37 = some [.zc, .zc] := by kernel_rfl
theorem zi72 : zinfo Try.prog 72 = some [.zc, .zc] := by kernel_rfl
theorem zi77 : zinfo Try.prog 77 = some [.zc, .zc, .int .i64 0, .int .i64 0, .zc] := by kernel_rfl
theorem zi79 : zinfo Try.prog 79 = some [.int .i64 0, .int .i64 0, .int .i64 0, .zc, .zc, .zc] := by kernel_rfl
theorem zi83 : zinfo Try.prog 83 = some [.int .i64 0, .int .i64 0, .zc] := by kernel_rfl
theorem zi92 : zinfo Try.prog 92 = some [.int .i64 0, .int .i64 0, .int .i64 0, .int .i64 0, .zc, .zc] := by kernel_rfl

theorem laws_szIntS_ok {p0 : (List Int)} {p1 : Int} {r : Int} (h0 : laws_szIntS p0 p1 = some r) : ACalls Try.prog 53 [(ls eI p0), (i64 p1)] [] (fun v st => v = (i64 r) ∧ st = []) := by
 unfold laws_szIntS at h0
 refine ai Try.func53 rfl rfl rfl rfl (zr tb rfl rfl (sr rfl fun K2 hK2 => zm tb 2 rfl (zl tb rfl rfl (zm tb 2 rfl (dn hK2 rfl (AW.seq fun K3 hK3 => zr tb rfl rfl ?_))))))
 refine ci h0 rfl ?_ ?_ <;> clear h0
 ·intro b5 h0
  refine zr tb rfl rfl ?_
  replace h0 := Sh.some_eq h0
  subst r
  exact AW.ret (xr (Wk.to (L := [(4, (i64 (-1)))]) ⟨.rfl, trivial⟩))
 ·intro b5 h0
  refine AW.skip (hK3 _ (zr tb rfl rfl ?_))
  replace h0 := Sh.some_eq h0
  subst r
  exact AW.ret (xr (Wk.to (L := [(4, (i64 (Sh.w (p1 - (Sh.len p0)))))]) ⟨.rfl, trivial⟩))
theorem laws_szCon_ok {p0 : RCon} {p1 : Int} {r : Int} (h0 : laws_szCon p0 p1 = some r) : ACalls Try.prog 72 [(.agg (eRCon p0)), (i64 p1)] [] (fun v st => v = (i64 r) ∧ st = []) := by
 unfold laws_szCon at h0
 refine ai Try.func72 rfl rfl rfl rfl (sr rfl fun K1 hK1 => ao_box (m := 0) (st' := [⟨0, 130, 1, [(eRCon p0)]⟩]) go0 rfl rfl rfl rfl rfl (zq tb rfl (dn hK1 rfl (sr rfl fun K2 hK2 => zm tb 3 rfl (bs h0 fun q3 gq3 h0 => zc hb53 (laws_szIntS_ok gq3) rfl rfl rfl (zq tb rfl (dn hK2 rfl (AW.seq fun K4 hK4 => ?_))))))))
 refine zr tb rfl rfl ?_
 refine ci h0 rfl ?_ ?_ <;> clear h0
 ·intro b6 h0
  refine zr tb rfl rfl ?_
  replace h0 := Sh.some_eq h0
  subst r
  exact AW.ret (xr (Wk.d0 [(4, (i64 (-1)))] rfl))
 ·intro b6 h0
  refine AW.skip (hK4 _ (zr tb rfl rfl ?_))
  replace h0 := Sh.some_eq h0
  subst r
  exact AW.ret (xr (Wk.d0 [(4, (i64 q3))] rfl))
theorem laws_szConS_ok {N : Nat} {p0 : (List RCon)} {p1 : Int} {r : Int} (h0 : laws_szConS N p0 p1 = some r) : ACalls Try.prog 52 [(ls eRCon p0), (i64 p1)] [] (fun v st => v = (i64 r) ∧ st = []) := by
 unfold laws_szConS at h0
 refine ai Try.func52 rfl rfl rfl rfl (zr tb rfl rfl (sr rfl fun K2 hK2 => zm tb 2 rfl (zl tb rfl rfl (zm tb 2 rfl (dn hK2 rfl (AW.seq fun K3 hK3 => zr tb rfl rfl ?_))))))
 refine ci h0 rfl ?_ ?_ <;> clear h0
 ·intro b5 h0
  refine zr tb rfl rfl ?_
  replace h0 := Sh.some_eq h0
  subst r
  exact AW.ret (xr (Wk.to (L := [(4, (i64 (-1)))]) ⟨.rfl, trivial⟩))
 ·intro b5 h0
  refine AW.skip (hK3 _ (AW.seq fun K7 hK7 => zr tb rfl rfl ?_))
  obtain ⟨o12, h1, h0⟩ := Sh.cont_some h0
  have M12 : ∀ (left11 : Int), o12 = Sum.inr left11 → ∀ s, Wk 0 s ⟨27, envL [(1, (i64 left11))], []⟩ → K7 s := by
   intro left11 hq s hw
   subst o12
   try dsimp only at h0
   refine hK7 _ (AW.weaken hw (zr tb rfl rfl ?_))
   replace h0 := Sh.some_eq h0
   subst r
   exact AW.ret (xr (Wk.to (L := [(4, (i64 left11))]) ⟨.rfl, trivial⟩))
  refine AW.block (AW.loopF (σ := Int × Int) (fun n v => laws_szConS_L1 p0 n v.1 v.2 = some o12) (fun (left9, i10) => ⟨27, envL [(0, (ls eRCon p0)), (1, (i64 left9)), (5, (i64 i10))], []⟩) N (Sh.w (p1 - (Sh.len p0)), 0) h1 (Wk.tr rfl) (fun _ hv => by rw [laws_szConS_L1] at hv; cases hv) ?_)
  rintro n ⟨left9, i10⟩ h1
  try dsimp only at h1 ⊢
  rw [laws_szConS_L1] at h1
  refine AW.seq fun K14 hK14 => sr rfl fun K15 hK15 => zm tb 2 rfl (zl tb rfl rfl (zq tb rfl (dn hK15 rfl ?_)))
  refine ci h1 rfl ?_ ?_ <;> clear h1
  ·intro b16 h1
   refine AW.skip (hK14 _ (AW.seq fun K17 hK17 => AW.block (sr rfl fun K18 hK18 => zm tb 2 rfl (bs h1 fun c19 gc19 h1 => zx ei62 gc19 rfl rfl rfl (zm tb 2 rfl (bs h1 fun q20 gq20 h1 => zc hb72 (laws_szCon_ok gq20) rfl rfl rfl (zq tb rfl (dn hK18 rfl ?_))))))))
   refine zr tb rfl rfl ?_
   refine ci h1 rfl ?_ ?_ <;> clear h1
   ·intro b22 h1
    refine zr tb rfl rfl ?_
    replace h1 := Sh.some_eq h1
    subst o12
    try dsimp only [id] at h0
    replace h0 := Sh.some_eq h0
    subst r
    exact AW.ret (xr (Wk.to (L := [(4, (i64 (-1)))]) ⟨.rfl, trivial⟩))
   ·intro b22 h1
    exact AW.skip (hK17 _ (AW.regionO rfl (zm tb 3 rfl (AO.done (xi (q20, Sh.w (i10 + 1)) h1 (Wk.tr rfl))))))
  ·intro b16 h1
   exact AW.exit (M12 left9 (Sh.some_eq h1).symm _ (Wk.tr rfl))
theorem laws_szDecl_ok {N : Nat} {p0 : RDecl} {p1 : Int} {r : Int} (h0 : laws_szDecl N p0 p1 = some r) : ACalls Try.prog 35 [(.agg (eRDecl p0)), (i64 p1)] [] (fun v st => v = (i64 r) ∧ st = []) := by
 unfold laws_szDecl at h0
 refine ai Try.func35 rfl rfl rfl rfl (sr rfl fun K1 hK1 => ao_box (m := 0) (st' := [⟨0, 64, 3, [(eRDecl p0)]⟩]) go0 rfl rfl rfl rfl rfl (zq tb rfl (dn hK1 rfl (sr rfl fun K2 hK2 => zm tb 3 rfl (bs h0 fun q3 gq3 h0 => zc hb52 (laws_szConS_ok gq3) rfl rfl rfl (zq tb rfl (dn hK2 rfl (AW.seq fun K4 hK4 => ?_))))))))
 refine zr tb rfl rfl ?_
 refine ci h0 rfl ?_ ?_ <;> clear h0
 ·intro b6 h0
  refine zr tb rfl rfl ?_
  replace h0 := Sh.some_eq h0
  subst r
  exact AW.ret (xr (Wk.d0 [(4, (i64 (-1)))] rfl))
 ·intro b6 h0
  refine AW.skip (hK4 _ (zr tb rfl rfl ?_))
  replace h0 := Sh.some_eq h0
  subst r
  exact AW.ret (xr (Wk.d0 [(4, (i64 q3))] rfl))
theorem laws_szDeclS_ok {N : Nat} {p0 : (List RDecl)} {p1 : Int} {r : Int} (h0 : laws_szDeclS N p0 p1 = some r) : ACalls Try.prog 13 [(ls eRDecl p0), (i64 p1)] [] (fun v st => v = (i64 r) ∧ st = []) := by
 unfold laws_szDeclS at h0
 refine ai Try.func13 rfl rfl rfl rfl (zr tb rfl rfl (sr rfl fun K2 hK2 => zm tb 2 rfl (zl tb rfl rfl (zm tb 2 rfl (dn hK2 rfl (AW.seq fun K3 hK3 => zr tb rfl rfl ?_))))))
 refine ci h0 rfl ?_ ?_ <;> clear h0
 ·intro b5 h0
  refine zr tb rfl rfl ?_
  replace h0 := Sh.some_eq h0
  subst r
  exact AW.ret (xr (Wk.to (L := [(4, (i64 (-1)))]) ⟨.rfl, trivial⟩))
 ·intro b5 h0
  refine AW.skip (hK3 _ (AW.seq fun K7 hK7 => zr tb rfl rfl ?_))
  obtain ⟨o12, h1, h0⟩ := Sh.cont_some h0
  have M12 : ∀ (left11 : Int), o12 = Sum.inr left11 → ∀ s, Wk 0 s ⟨27, envL [(1, (i64 left11))], []⟩ → K7 s := by
   intro left11 hq s hw
   subst o12
   try dsimp only at h0
   refine hK7 _ (AW.weaken hw (zr tb rfl rfl ?_))
   replace h0 := Sh.some_eq h0
   subst r
   exact AW.ret (xr (Wk.to (L := [(4, (i64 left11))]) ⟨.rfl, trivial⟩))
  refine AW.block (AW.loopF (σ := Int × Int) (fun n v => laws_szDeclS_L1 N p0 n v.1 v.2 = some o12) (fun (left9, i10) => ⟨27, envL [(0, (ls eRDecl p0)), (1, (i64 left9)), (5, (i64 i10))], []⟩) N (Sh.w (p1 - (Sh.len p0)), 0) h1 (Wk.tr rfl) (fun _ hv => by rw [laws_szDeclS_L1] at hv; cases hv) ?_)
  rintro n ⟨left9, i10⟩ h1
  try dsimp only at h1 ⊢
  rw [laws_szDeclS_L1] at h1
  refine AW.seq fun K14 hK14 => sr rfl fun K15 hK15 => zm tb 2 rfl (zl tb rfl rfl (zq tb rfl (dn hK15 rfl ?_)))
  refine ci h1 rfl ?_ ?_ <;> clear h1
  ·intro b16 h1
   refine AW.skip (hK14 _ (AW.seq fun K17 hK17 => AW.block (sr rfl fun K18 hK18 => zm tb 2 rfl (bs h1 fun c19 gc19 h1 => zx ei22 gc19 rfl rfl rfl (zm tb 2 rfl (bs h1 fun q20 gq20 h1 => zc hb35 (laws_szDecl_ok gq20) rfl rfl rfl (zq tb rfl (dn hK18 rfl ?_))))))))
   refine zr tb rfl rfl ?_
   refine ci h1 rfl ?_ ?_ <;> clear h1
   ·intro b22 h1
    refine zr tb rfl rfl ?_
    replace h1 := Sh.some_eq h1
    subst o12
    try dsimp only [id] at h0
    replace h0 := Sh.some_eq h0
    subst r
    exact AW.ret (xr (Wk.to (L := [(4, (i64 (-1)))]) ⟨.rfl, trivial⟩))
   ·intro b22 h1
    exact AW.skip (hK17 _ (AW.regionO rfl (zm tb 3 rfl (AO.done (xi (q20, Sh.w (i10 + 1)) h1 (Wk.tr rfl))))))
  ·intro b16 h1
   exact AW.exit (M12 left9 (Sh.some_eq h1).symm _ (Wk.tr rfl))
theorem laws_szInstr_ok {p0 : RInstr} {p1 : Int} {r : Int} (h0 : laws_szInstr p0 p1 = some r) : ACalls Try.prog 73 [(.agg (eRInstr p0)), (i64 p1)] [] (fun v st => v = (i64 r) ∧ st = []) := by
 unfold laws_szInstr at h0
 refine ai Try.func73 rfl rfl rfl rfl (sr rfl fun K1 hK1 => ao_box (m := 0) (st' := [⟨0, 132, 6, [(eRInstr p0)]⟩]) go0 rfl rfl rfl rfl rfl (zq tb rfl (dn hK1 rfl (sr rfl fun K2 hK2 => zm tb 3 rfl (bs h0 fun q3 gq3 h0 => zc hb53 (laws_szIntS_ok gq3) rfl rfl rfl (zq tb rfl (dn hK2 rfl (AW.seq fun K4 hK4 => ?_))))))))
 refine zr tb rfl rfl ?_
 refine ci h0 rfl ?_ ?_ <;> clear h0
 ·intro b6 h0
  refine zr tb rfl rfl ?_
  replace h0 := Sh.some_eq h0
  subst r
  exact AW.ret (xr (Wk.d0 [(4, (i64 (-1)))] rfl))
 ·intro b6 h0
  refine AW.skip (hK4 _ (sr rfl fun K8 hK8 => zm tb 3 rfl (bs h0 fun q9 gq9 h0 => zc hb53 (laws_szIntS_ok gq9) rfl rfl rfl (zq tb rfl (dn hK8 rfl (AW.seq fun K10 hK10 => zr tb rfl rfl ?_))))))
  refine ci h0 rfl ?_ ?_ <;> clear h0
  ·intro b12 h0
   refine zr tb rfl rfl ?_
   replace h0 := Sh.some_eq h0
   subst r
   exact AW.ret (xr (Wk.d0 [(4, (i64 (-1)))] rfl))
  ·intro b12 h0
   refine AW.skip (hK10 _ (zr tb rfl rfl ?_))
   replace h0 := Sh.some_eq h0
   subst r
   exact AW.ret (xr (Wk.d0 [(4, (i64 q9))] rfl))
theorem laws_szInstrS_ok {N : Nat} {p0 : (List RInstr)} {p1 : Int} {r : Int} (h0 : laws_szInstrS N p0 p1 = some r) : ACalls Try.prog 54 [(ls eRInstr p0), (i64 p1)] [] (fun v st => v = (i64 r) ∧ st = []) := by
 unfold laws_szInstrS at h0
 refine ai Try.func54 rfl rfl rfl rfl (zr tb rfl rfl (sr rfl fun K2 hK2 => zm tb 2 rfl (zl tb rfl rfl (zm tb 2 rfl (dn hK2 rfl (AW.seq fun K3 hK3 => zr tb rfl rfl ?_))))))
 refine ci h0 rfl ?_ ?_ <;> clear h0
 ·intro b5 h0
  refine zr tb rfl rfl ?_
  replace h0 := Sh.some_eq h0
  subst r
  exact AW.ret (xr (Wk.to (L := [(4, (i64 (-1)))]) ⟨.rfl, trivial⟩))
 ·intro b5 h0
  refine AW.skip (hK3 _ (AW.seq fun K7 hK7 => zr tb rfl rfl ?_))
  obtain ⟨o12, h1, h0⟩ := Sh.cont_some h0
  have M12 : ∀ (left11 : Int), o12 = Sum.inr left11 → ∀ s, Wk 0 s ⟨27, envL [(1, (i64 left11))], []⟩ → K7 s := by
   intro left11 hq s hw
   subst o12
   try dsimp only at h0
   refine hK7 _ (AW.weaken hw (zr tb rfl rfl ?_))
   replace h0 := Sh.some_eq h0
   subst r
   exact AW.ret (xr (Wk.to (L := [(4, (i64 left11))]) ⟨.rfl, trivial⟩))
  refine AW.block (AW.loopF (σ := Int × Int) (fun n v => laws_szInstrS_L1 p0 n v.1 v.2 = some o12) (fun (left9, i10) => ⟨27, envL [(0, (ls eRInstr p0)), (1, (i64 left9)), (5, (i64 i10))], []⟩) N (Sh.w (p1 - (Sh.len p0)), 0) h1 (Wk.tr rfl) (fun _ hv => by rw [laws_szInstrS_L1] at hv; cases hv) ?_)
  rintro n ⟨left9, i10⟩ h1
  try dsimp only at h1 ⊢
  rw [laws_szInstrS_L1] at h1
  refine AW.seq fun K14 hK14 => sr rfl fun K15 hK15 => zm tb 2 rfl (zl tb rfl rfl (zq tb rfl (dn hK15 rfl ?_)))
  refine ci h1 rfl ?_ ?_ <;> clear h1
  ·intro b16 h1
   refine AW.skip (hK14 _ (AW.seq fun K17 hK17 => AW.block (sr rfl fun K18 hK18 => zm tb 2 rfl (bs h1 fun c19 gc19 h1 => zx ei66 gc19 rfl rfl rfl (zm tb 2 rfl (bs h1 fun q20 gq20 h1 => zc hb73 (laws_szInstr_ok gq20) rfl rfl rfl (zq tb rfl (dn hK18 rfl ?_))))))))
   refine zr tb rfl rfl ?_
   refine ci h1 rfl ?_ ?_ <;> clear h1
   ·intro b22 h1
    refine zr tb rfl rfl ?_
    replace h1 := Sh.some_eq h1
    subst o12
    try dsimp only [id] at h0
    replace h0 := Sh.some_eq h0
    subst r
    exact AW.ret (xr (Wk.to (L := [(4, (i64 (-1)))]) ⟨.rfl, trivial⟩))
   ·intro b22 h1
    exact AW.skip (hK17 _ (AW.regionO rfl (zm tb 3 rfl (AO.done (xi (q20, Sh.w (i10 + 1)) h1 (Wk.tr rfl))))))
  ·intro b16 h1
   exact AW.exit (M12 left9 (Sh.some_eq h1).symm _ (Wk.tr rfl))
theorem laws_szProc_ok {N : Nat} {p0 : RProc} {p1 : Int} {r : Int} (h0 : laws_szProc N p0 p1 = some r) : ACalls Try.prog 36 [(.agg (eRProc p0)), (i64 p1)] [] (fun v st => v = (i64 r) ∧ st = []) := by
 unfold laws_szProc at h0
 refine ai Try.func36 rfl rfl rfl rfl (sr rfl fun K1 hK1 => ao_box (m := 0) (st' := [⟨0, 68, 5, [(eRProc p0)]⟩]) go0 rfl rfl rfl rfl rfl (zq tb rfl (dn hK1 rfl (sr rfl fun K2 hK2 => zm tb 3 rfl (bs h0 fun q3 gq3 h0 => zc hb53 (laws_szIntS_ok gq3) rfl rfl rfl (zq tb rfl (dn hK2 rfl (AW.seq fun K4 hK4 => ?_))))))))
 refine zr tb rfl rfl ?_
 refine ci h0 rfl ?_ ?_ <;> clear h0
 ·intro b6 h0
  refine zr tb rfl rfl ?_
  replace h0 := Sh.some_eq h0
  subst r
  exact AW.ret (xr (Wk.d0 [(4, (i64 (-1)))] rfl))
 ·intro b6 h0
  refine AW.skip (hK4 _ (sr rfl fun K8 hK8 => zm tb 3 rfl (bs h0 fun q9 gq9 h0 => zc hb53 (laws_szIntS_ok gq9) rfl rfl rfl (zq tb rfl (dn hK8 rfl (AW.seq fun K10 hK10 => zr tb rfl rfl ?_))))))
  refine ci h0 rfl ?_ ?_ <;> clear h0
  ·intro b12 h0
   refine zr tb rfl rfl ?_
   replace h0 := Sh.some_eq h0
   subst r
   exact AW.ret (xr (Wk.d0 [(4, (i64 (-1)))] rfl))
  ·intro b12 h0
   refine AW.skip (hK10 _ (sr rfl fun K14 hK14 => zm tb 3 rfl (bs h0 fun q15 gq15 h0 => zc hb54 (laws_szInstrS_ok gq15) rfl rfl rfl (zq tb rfl (dn hK14 rfl (AW.seq fun K16 hK16 => zr tb rfl rfl ?_))))))
   refine ci h0 rfl ?_ ?_ <;> clear h0
   ·intro b18 h0
    refine zr tb rfl rfl ?_
    replace h0 := Sh.some_eq h0
    subst r
    exact AW.ret (xr (Wk.d0 [(4, (i64 (-1)))] rfl))
   ·intro b18 h0
    refine AW.skip (hK16 _ (zr tb rfl rfl ?_))
    replace h0 := Sh.some_eq h0
    subst r
    exact AW.ret (xr (Wk.d0 [(4, (i64 q15))] rfl))
theorem laws_szProcS_ok {N : Nat} {p0 : (List RProc)} {p1 : Int} {r : Int} (h0 : laws_szProcS N p0 p1 = some r) : ACalls Try.prog 14 [(ls eRProc p0), (i64 p1)] [] (fun v st => v = (i64 r) ∧ st = []) := by
 unfold laws_szProcS at h0
 refine ai Try.func14 rfl rfl rfl rfl (zr tb rfl rfl (sr rfl fun K2 hK2 => zm tb 2 rfl (zl tb rfl rfl (zm tb 2 rfl (dn hK2 rfl (AW.seq fun K3 hK3 => zr tb rfl rfl ?_))))))
 refine ci h0 rfl ?_ ?_ <;> clear h0
 ·intro b5 h0
  refine zr tb rfl rfl ?_
  replace h0 := Sh.some_eq h0
  subst r
  exact AW.ret (xr (Wk.to (L := [(4, (i64 (-1)))]) ⟨.rfl, trivial⟩))
 ·intro b5 h0
  refine AW.skip (hK3 _ (AW.seq fun K7 hK7 => zr tb rfl rfl ?_))
  obtain ⟨o12, h1, h0⟩ := Sh.cont_some h0
  have M12 : ∀ (left11 : Int), o12 = Sum.inr left11 → ∀ s, Wk 0 s ⟨27, envL [(1, (i64 left11))], []⟩ → K7 s := by
   intro left11 hq s hw
   subst o12
   try dsimp only at h0
   refine hK7 _ (AW.weaken hw (zr tb rfl rfl ?_))
   replace h0 := Sh.some_eq h0
   subst r
   exact AW.ret (xr (Wk.to (L := [(4, (i64 left11))]) ⟨.rfl, trivial⟩))
  refine AW.block (AW.loopF (σ := Int × Int) (fun n v => laws_szProcS_L1 N p0 n v.1 v.2 = some o12) (fun (left9, i10) => ⟨27, envL [(0, (ls eRProc p0)), (1, (i64 left9)), (5, (i64 i10))], []⟩) N (Sh.w (p1 - (Sh.len p0)), 0) h1 (Wk.tr rfl) (fun _ hv => by rw [laws_szProcS_L1] at hv; cases hv) ?_)
  rintro n ⟨left9, i10⟩ h1
  try dsimp only at h1 ⊢
  rw [laws_szProcS_L1] at h1
  refine AW.seq fun K14 hK14 => sr rfl fun K15 hK15 => zm tb 2 rfl (zl tb rfl rfl (zq tb rfl (dn hK15 rfl ?_)))
  refine ci h1 rfl ?_ ?_ <;> clear h1
  ·intro b16 h1
   refine AW.skip (hK14 _ (AW.seq fun K17 hK17 => AW.block (sr rfl fun K18 hK18 => zm tb 2 rfl (bs h1 fun c19 gc19 h1 => zx ei23 gc19 rfl rfl rfl (zm tb 2 rfl (bs h1 fun q20 gq20 h1 => zc hb36 (laws_szProc_ok gq20) rfl rfl rfl (zq tb rfl (dn hK18 rfl ?_))))))))
   refine zr tb rfl rfl ?_
   refine ci h1 rfl ?_ ?_ <;> clear h1
   ·intro b22 h1
    refine zr tb rfl rfl ?_
    replace h1 := Sh.some_eq h1
    subst o12
    try dsimp only [id] at h0
    replace h0 := Sh.some_eq h0
    subst r
    exact AW.ret (xr (Wk.to (L := [(4, (i64 (-1)))]) ⟨.rfl, trivial⟩))
   ·intro b22 h1
    exact AW.skip (hK17 _ (AW.regionO rfl (zm tb 3 rfl (AO.done (xi (q20, Sh.w (i10 + 1)) h1 (Wk.tr rfl))))))
  ·intro b16 h1
   exact AW.exit (M12 left9 (Sh.some_eq h1).symm _ (Wk.tr rfl))
theorem laws_szImage_ok {N : Nat} {p0 : RImage} {p1 : Int} {r : Int} (h0 : laws_szImage N p0 p1 = some r) : ACalls Try.prog 4 [(.agg (eRImage p0)), (i64 p1)] [] (fun v st => v = (i64 r) ∧ st = []) := by
 unfold laws_szImage at h0
 refine ai Try.func4 rfl rfl rfl rfl (sr rfl fun K1 hK1 => ao_box (m := 0) (st' := [⟨0, 25, 2, [(eRImage p0)]⟩]) go0 rfl rfl rfl rfl rfl (zq tb rfl (dn hK1 rfl (sr rfl fun K2 hK2 => zm tb 3 rfl (bs h0 fun q3 gq3 h0 => zc hb13 (laws_szDeclS_ok gq3) rfl rfl rfl (zq tb rfl (dn hK2 rfl (AW.seq fun K4 hK4 => ?_))))))))
 refine zr tb rfl rfl ?_
 refine ci h0 rfl ?_ ?_ <;> clear h0
 ·intro b6 h0
  refine zr tb rfl rfl ?_
  replace h0 := Sh.some_eq h0
  subst r
  exact AW.ret (xr (Wk.d0 [(4, (i64 (-1)))] rfl))
 ·intro b6 h0
  refine AW.skip (hK4 _ (sr rfl fun K8 hK8 => zm tb 3 rfl (bs h0 fun q9 gq9 h0 => zc hb14 (laws_szProcS_ok gq9) rfl rfl rfl (zq tb rfl (dn hK8 rfl (AW.seq fun K10 hK10 => zr tb rfl rfl ?_))))))
  refine ci h0 rfl ?_ ?_ <;> clear h0
  ·intro b12 h0
   refine zr tb rfl rfl ?_
   replace h0 := Sh.some_eq h0
   subst r
   exact AW.ret (xr (Wk.d0 [(4, (i64 (-1)))] rfl))
  ·intro b12 h0
   refine AW.skip (hK10 _ (zr tb rfl rfl ?_))
   replace h0 := Sh.some_eq h0
   subst r
   exact AW.ret (xr (Wk.d0 [(4, (i64 q9))] rfl))
theorem laws_toIntS_ok {N : Nat} {p0 : (List Int)} {r : (List Int)} (h0 : laws_toIntS N p0 = some r) : ACalls Try.prog 61 [(ls eI p0)] [] (fun v st => v = (ow 0 0 r) ∧ st = [(ro 0 3 1 eI r)]) := by
 unfold laws_toIntS at h0
 refine ai Try.func61 rfl rfl rfl rfl (zr tb rfl rfl (sr rfl fun K2 hK2 => zq tb rfl (zl tb rfl rfl (bs h0 fun l3 gl3 h0 => ao_make (m := 0) (st' := [(ro 0 3 1 eI l3)]) (enc := eI) (u := 0) go0 ei27 rfl rfl rfl gl3 rfl rfl (zq tb rfl (dn hK2 rfl (AW.seq fun K4 hK4 => zr tb rfl rfl (bs h0 fun o9 h1 h0 => ?_))))))))
 have M9 : ∀ (l8 : (List Int)), o9 = l8 → ∀ s, Wk 0 s ⟨22, envL [(3, (ow 0 0 l8))], [(ro 0 3 1 eI l8)]⟩ → K4 s := by
  intro l8 hq s hw
  subst o9
  try dsimp only at h0
  refine hK4 _ (AW.weaken hw (zr tb rfl rfl ?_))
  replace h0 := Sh.some_eq h0
  subst r
  exact AW.ret (xr (Wk.to (L := [(2, (ow 0 0 l8))]) ⟨.rfl, trivial⟩))
 refine AW.block (AW.loopF (σ := Int × (List Int)) (fun n v => laws_toIntS_L1 p0 n v.1 v.2 = some o9) (fun (i6, l7) => ⟨22, envL [(0, (ls eI p0)), (3, (ow 0 0 l7)), (4, (i64 i6))], [(ro 0 3 1 eI l7)]⟩) N (0, l3) h1 (Wk.tr rfl) (fun _ hv => by rw [laws_toIntS_L1] at hv; cases hv) ?_)
 rintro n ⟨i6, l7⟩ h1
 try dsimp only at h1 ⊢
 rw [laws_toIntS_L1] at h1
 refine AW.seq fun K11 hK11 => sr rfl fun K12 hK12 => zm tb 2 rfl (zl tb rfl rfl (zq tb rfl (dn hK12 rfl ?_)))
 refine ci h1 rfl ?_ ?_ <;> clear h1
 ·intro b13 h1
  refine AW.skip (hK11 _ (AW.seq fun K14 hK14 => AW.block (AW.regionO rfl (zm tb 4 rfl (bs h1 fun c15 gc15 h1 => zx ei27 gc15 rfl rfl rfl (zq tb rfl (bs h1 fun c16 gc16 h1 => zz (.ptr 0 0 (Int.toNat i6) 0) (aq_ixo ei27 rfl rfl rfl rfl gc16) rfl (ao_stl (st' := [(ro 0 3 1 eI (Sh.put l7 i6 c15))]) (u' := c15) go0 ti3 rfl rfl gc16 rfl rfl rfl (show 0 + 1 ≤ 1 by decide) rfl rfl (dn hK14 rfl ?_)))))))))
  refine AW.regionO rfl (zm tb 3 rfl ?_)
  exact AO.done (xi (Sh.w (i6 + 1), Sh.put l7 i6 c15) h1 (Wk.to (L := [(0, (.sl (List.map eI p0))), (3, (.own 0 0 (List.length (Sh.put l7 i6 c15)))), (4, (i64 (Sh.w (i6 + 1))))]) ⟨.rfl, (.len (by simp only [Sh.put_len])), .rfl, trivial⟩))
 ·intro b13 h1
  exact AW.exit (M9 l7 (Sh.some_eq h1).symm _ (Wk.tr rfl))
theorem laws_toCon_ok {N : Nat} {p0 : RCon} {r : RCon} (h0 : laws_toCon N p0 = some r) : ACalls Try.prog 81 [(.agg (eRCon p0))] [] (fun v st => v = (.agg (eRCon r)) ∧ st = []) := by
 unfold laws_toCon at h0
 refine ACalls.flat rfl (ai Try.func81 rfl rfl rfl rfl (sr rfl fun K1 hK1 => ao_box (m := 0) (st' := [⟨0, 130, 1, [(eRCon p0)]⟩]) go0 rfl rfl rfl rfl rfl (ao_alloc (m := 1) (st' := [⟨0, 130, 1, [(eRCon p0)]⟩, ⟨0, 128, 1, [[.zc]]⟩]) go0 zi128 rfl rfl (dn hK1 rfl (sr rfl fun K2 hK2 => ao_alloc (m := 2) (st' := [⟨0, 130, 1, [(eRCon p0)]⟩, ⟨0, 128, 1, [[.zc]]⟩, ⟨0, 128, 1, [[.zc]]⟩]) go0 zi128 rfl rfl (dn hK2 rfl (sr rfl fun K3 hK3 => zm tb 2 rfl (bs h0 fun q4 gq4 h0 => ?_))))))))
 refine ao_call (v' := (ow 3 0 q4)) (st' := [⟨0, 130, 1, [(eRCon p0)]⟩, ⟨0, 128, 1, [[.zc]]⟩, ⟨0, 128, 1, [[.zc]]⟩, (ro 0 3 1 eI q4)]) go0 hb61 (laws_toIntS_ok gq4) rfl rfl ⟨(pure_map' fun _ => rfl), trivial⟩ rfl rfl (zq tb rfl (AO.weaken (Wk.frz (L := [(2, (.ptr 1 0 0 0)), (3, (.ptr 2 0 0 0)), (6, (ls eI q4)), (7, (.ptr 2 0 0 0))]) (st' := [⟨0, 130, 1, [(eRCon p0)]⟩, ⟨0, 128, 1, [[.zc]]⟩, ⟨0, 128, 1, [[.zc]]⟩, ⟨1, 3, 1, []⟩]) (id := 3) rfl (show 0 ≤ 3 by decide) (pure_map fun _ => rfl) ⟨.rfl, .rfl, (.frz rfl), .rfl, trivial⟩ rfl) (ao_str (st' := [⟨0, 130, 1, [(eRCon p0)]⟩, ⟨0, 128, 1, [[.zc]]⟩, ⟨0, 128, 1, [[(ls eI q4)]]⟩, ⟨1, 3, 1, []⟩]) go0 ti27 rfl rfl rfl rfl rfl rfl (show 0 + 1 ≤ 1 by decide) rfl (dn hK3 rfl (sr rfl fun K5 hK5 => zq tb rfl (ao_str (st' := [⟨0, 130, 1, [(eRCon p0)]⟩, ⟨0, 128, 1, [[(ls eI q4)]]⟩, ⟨0, 128, 1, [[(ls eI q4)]]⟩, ⟨1, 3, 1, []⟩]) go0 ti128 rfl rfl rfl rfl rfl rfl (show 0 + 1 ≤ 1 by decide) rfl (dn hK5 rfl ?_)))))))
 replace h0 := Sh.some_eq h0
 subst r
 exact AW.ret (Exists.intro _ (And.intro (Wk.refl _ _) (aq_ldpa (x := .tmp 2) (off := 0) (cs := [(ls eI q4)]) (vs := [(ls eI q4)]) ti128 rfl rfl rfl (show 0 + 1 ≤ 1 by decide) rfl _ rfl)))
theorem laws_toConS_ok {N : Nat} {p0 : (List RCon)} {r : (List RCon)} (h0 : laws_toConS N p0 = some r) : ACalls Try.prog 60 [(ls eRCon p0)] [] (fun v st => v = (ow 0 0 r) ∧ st = [(ro 0 128 1 eRCon r)]) := by
 unfold laws_toConS at h0
 refine ai Try.func60 rfl rfl rfl rfl (zr tb rfl rfl (sr rfl fun K2 hK2 => zq tb rfl (zl tb rfl rfl (bs h0 fun l3 gl3 h0 => ao_make (m := 0) (st' := [(ro 0 128 1 eRCon l3)]) (enc := eRCon) (u := (RCon.mk [])) go0 ei81 rfl rfl rfl gl3 rfl rfl (zq tb rfl (dn hK2 rfl (AW.seq fun K4 hK4 => zr tb rfl rfl (bs h0 fun o9 h1 h0 => ?_))))))))
 have M9 : ∀ (l8 : (List RCon)), o9 = l8 → ∀ s, Wk 0 s ⟨23, envL [(3, (ow 0 0 l8))], [(ro 0 128 1 eRCon l8)]⟩ → K4 s := by
  intro l8 hq s hw
  subst o9
  try dsimp only at h0
  refine hK4 _ (AW.weaken hw (zr tb rfl rfl ?_))
  replace h0 := Sh.some_eq h0
  subst r
  exact AW.ret (xr (Wk.to (L := [(2, (ow 0 0 l8))]) ⟨.rfl, trivial⟩))
 refine AW.block (AW.loopF (σ := Int × (List RCon)) (fun n v => laws_toConS_L1 N p0 n v.1 v.2 = some o9) (fun (i6, l7) => ⟨23, envL [(0, (ls eRCon p0)), (3, (ow 0 0 l7)), (4, (i64 i6))], [(ro 0 128 1 eRCon l7)]⟩) N (0, l3) h1 (Wk.tr rfl) (fun _ hv => by rw [laws_toConS_L1] at hv; cases hv) ?_)
 rintro n ⟨i6, l7⟩ h1
 try dsimp only at h1 ⊢
 rw [laws_toConS_L1] at h1
 refine AW.seq fun K11 hK11 => sr rfl fun K12 hK12 => zm tb 2 rfl (zl tb rfl rfl (zq tb rfl (dn hK12 rfl ?_)))
 refine ci h1 rfl ?_ ?_ <;> clear h1
 ·intro b13 h1
  refine AW.skip (hK11 _ (AW.seq fun K14 hK14 => AW.block (AW.regionO rfl (zm tb 4 rfl (bs h1 fun c15 gc15 h1 => zx ei62 gc15 rfl rfl rfl (zq tb rfl (bs h1 fun q16 gq16 h1 => zc (v' := (.agg (eRCon q16))) hb81 (laws_toCon_ok gq16) rfl rfl rfl (bs h1 fun c17 gc17 h1 => zz (.ptr 0 0 (Int.toNat i6) 0) (aq_ixo ei81 rfl rfl rfl rfl gc17) rfl ?_))))))))
  refine ao_stl (st' := [(ro 0 128 1 eRCon (Sh.put l7 i6 q16))]) (u' := q16) go0 ti128 rfl rfl gc17 rfl rfl rfl (show 0 + 1 ≤ 1 by decide) rfl rfl (dn hK14 rfl (AW.regionO rfl (zm tb 3 rfl ?_)))
  exact AO.done (xi (Sh.w (i6 + 1), Sh.put l7 i6 q16) h1 (Wk.to (L := [(0, (.sl (List.map eRCon p0))), (3, (.own 0 0 (List.length (Sh.put l7 i6 q16)))), (4, (i64 (Sh.w (i6 + 1))))]) ⟨.rfl, (.len (by simp only [Sh.put_len])), .rfl, trivial⟩))
 ·intro b13 h1
  exact AW.exit (M9 l7 (Sh.some_eq h1).symm _ (Wk.tr rfl))
theorem laws_toDecl_ok {N : Nat} {p0 : RDecl} {r : RDecl} (h0 : laws_toDecl N p0 = some r) : ACalls Try.prog 41 [(.agg (eRDecl p0))] [] (fun v st => v = (.agg (eRDecl r)) ∧ st = []) := by
 unfold laws_toDecl at h0
 refine ACalls.flat rfl (ai Try.func41 rfl rfl rfl rfl (sr rfl fun K1 hK1 => ao_box (m := 0) (st' := [⟨0, 64, 3, [(eRDecl p0)]⟩]) go0 rfl rfl rfl rfl rfl (ao_alloc (m := 1) (st' := [⟨0, 64, 3, [(eRDecl p0)]⟩, ⟨0, 83, 3, [[(i64 0), (i64 0), .zc]]⟩]) go0 zi83 rfl rfl (dn hK1 rfl (sr rfl fun K2 hK2 => ao_alloc (m := 2) (st' := [⟨0, 64, 3, [(eRDecl p0)]⟩, ⟨0, 83, 3, [[(i64 0), (i64 0), .zc]]⟩, ⟨0, 83, 3, [[(i64 0), (i64 0), .zc]]⟩]) go0 zi83 rfl rfl (dn hK2 rfl (sr rfl fun K3 hK3 => zm tb 3 rfl (ao_str (st' := [⟨0, 64, 3, [(eRDecl p0)]⟩, ⟨0, 83, 3, [[(i64 0), (i64 0), .zc]]⟩, ⟨0, 83, 3, [[(i64 p0.from_), (i64 0), .zc]]⟩]) go0 ti3 rfl rfl rfl rfl rfl rfl (show 0 + 1 ≤ 3 by decide) rfl ?_))))))))
 refine dn hK3 rfl (sr rfl fun K4 hK4 => zm tb 3 rfl (ao_str (st' := [⟨0, 64, 3, [(eRDecl p0)]⟩, ⟨0, 83, 3, [[(i64 0), (i64 0), .zc]]⟩, ⟨0, 83, 3, [[(i64 p0.from_), (i64 p0.to), .zc]]⟩]) go0 ti3 rfl rfl rfl rfl rfl rfl (show 1 + 1 ≤ 3 by decide) rfl (dn hK4 rfl (sr rfl fun K5 hK5 => zm tb 2 rfl (bs h0 fun q6 gq6 h0 => ao_call (v' := (ow 3 0 q6)) (st' := [⟨0, 64, 3, [(eRDecl p0)]⟩, ⟨0, 83, 3, [[(i64 0), (i64 0), .zc]]⟩, ⟨0, 83, 3, [[(i64 p0.from_), (i64 p0.to), .zc]]⟩, (ro 0 128 1 eRCon q6)]) go0 hb60 (laws_toConS_ok gq6) rfl rfl ⟨(pure_map' fun _ => rfl), trivial⟩ rfl rfl (zq tb rfl (AO.weaken (Wk.frz (L := [(2, (.ptr 1 0 0 0)), (3, (.ptr 2 0 0 0)), (12, (ls eRCon q6)), (13, (.ptr 2 0 0 2))]) (st' := [⟨0, 64, 3, [(eRDecl p0)]⟩, ⟨0, 83, 3, [[(i64 0), (i64 0), .zc]]⟩, ⟨0, 83, 3, [[(i64 p0.from_), (i64 p0.to), .zc]]⟩, ⟨1, 128, 1, []⟩]) (id := 3) rfl (show 0 ≤ 3 by decide) (pure_map fun _ => rfl) ⟨.rfl, .rfl, (.frz rfl), .rfl, trivial⟩ rfl) (ao_str (st' := [⟨0, 64, 3, [(eRDecl p0)]⟩, ⟨0, 83, 3, [[(i64 0), (i64 0), .zc]]⟩, ⟨0, 83, 3, [[(i64 p0.from_), (i64 p0.to), (ls eRCon q6)]]⟩, ⟨1, 128, 1, []⟩]) go0 ti81 rfl rfl rfl rfl rfl rfl (show 2 + 1 ≤ 3 by decide) rfl ?_))))))))
 refine dn hK5 rfl (sr rfl fun K7 hK7 => zq tb rfl (ao_str (st' := [⟨0, 64, 3, [(eRDecl p0)]⟩, ⟨0, 83, 3, [[(i64 p0.from_), (i64 p0.to), (ls eRCon q6)]]⟩, ⟨0, 83, 3, [[(i64 p0.from_), (i64 p0.to), (ls eRCon q6)]]⟩, ⟨1, 128, 1, []⟩]) go0 ti83 rfl rfl rfl rfl rfl rfl (show 0 + 3 ≤ 3 by decide) rfl (dn hK7 rfl ?_)))
 replace h0 := Sh.some_eq h0
 subst r
 exact AW.ret (Exists.intro _ (And.intro (Wk.refl _ _) (aq_ldpa (x := .tmp 2) (off := 0) (cs := [(i64 p0.from_), (i64 p0.to), (ls eRCon q6)]) (vs := [(i64 p0.from_), (i64 p0.to), (ls eRCon q6)]) ti83 rfl rfl rfl (show 0 + 3 ≤ 3 by decide) rfl _ rfl)))
theorem laws_toDeclS_ok {N : Nat} {p0 : (List RDecl)} {r : (List RDecl)} (h0 : laws_toDeclS N p0 = some r) : ACalls Try.prog 18 [(ls eRDecl p0)] [] (fun v st => v = (ow 0 0 r) ∧ st = [(ro 0 83 3 eRDecl r)]) := by
 unfold laws_toDeclS at h0
 refine ai Try.func18 rfl rfl rfl rfl (zr tb rfl rfl (sr rfl fun K2 hK2 => zq tb rfl (zl tb rfl rfl (bs h0 fun l3 gl3 h0 => ao_make (m := 0) (st' := [(ro 0 83 3 eRDecl l3)]) (enc := eRDecl) (u := (RDecl.mk 0 0 [])) go0 ei34 rfl rfl rfl gl3 rfl rfl (zq tb rfl (dn hK2 rfl (AW.seq fun K4 hK4 => zr tb rfl rfl (bs h0 fun o9 h1 h0 => ?_))))))))
 have M9 : ∀ (l8 : (List RDecl)), o9 = l8 → ∀ s, Wk 0 s ⟨23, envL [(3, (ow 0 0 l8))], [(ro 0 83 3 eRDecl l8)]⟩ → K4 s := by
  intro l8 hq s hw
  subst o9
  try dsimp only at h0
  refine hK4 _ (AW.weaken hw (zr tb rfl rfl ?_))
  replace h0 := Sh.some_eq h0
  subst r
  exact AW.ret (xr (Wk.to (L := [(2, (ow 0 0 l8))]) ⟨.rfl, trivial⟩))
 refine AW.block (AW.loopF (σ := Int × (List RDecl)) (fun n v => laws_toDeclS_L1 N p0 n v.1 v.2 = some o9) (fun (i6, l7) => ⟨23, envL [(0, (ls eRDecl p0)), (3, (ow 0 0 l7)), (4, (i64 i6))], [(ro 0 83 3 eRDecl l7)]⟩) N (0, l3) h1 (Wk.tr rfl) (fun _ hv => by rw [laws_toDeclS_L1] at hv; cases hv) ?_)
 rintro n ⟨i6, l7⟩ h1
 try dsimp only at h1 ⊢
 rw [laws_toDeclS_L1] at h1
 refine AW.seq fun K11 hK11 => sr rfl fun K12 hK12 => zm tb 2 rfl (zl tb rfl rfl (zq tb rfl (dn hK12 rfl ?_)))
 refine ci h1 rfl ?_ ?_ <;> clear h1
 ·intro b13 h1
  refine AW.skip (hK11 _ (AW.seq fun K14 hK14 => AW.block (AW.regionO rfl (zm tb 4 rfl (bs h1 fun c15 gc15 h1 => zx ei22 gc15 rfl rfl rfl (zq tb rfl (bs h1 fun q16 gq16 h1 => zc (v' := (.agg (eRDecl q16))) hb41 (laws_toDecl_ok gq16) rfl rfl rfl (bs h1 fun c17 gc17 h1 => zz (.ptr 0 0 (Int.toNat i6) 0) (aq_ixo ei34 rfl rfl rfl rfl gc17) rfl ?_))))))))
  refine ao_stl (st' := [(ro 0 83 3 eRDecl (Sh.put l7 i6 q16))]) (u' := q16) go0 ti83 rfl rfl gc17 rfl rfl rfl (show 0 + 3 ≤ 3 by decide) rfl rfl (dn hK14 rfl (AW.regionO rfl (zm tb 3 rfl ?_)))
  exact AO.done (xi (Sh.w (i6 + 1), Sh.put l7 i6 q16) h1 (Wk.to (L := [(0, (.sl (List.map eRDecl p0))), (3, (.own 0 0 (List.length (Sh.put l7 i6 q16)))), (4, (i64 (Sh.w (i6 + 1))))]) ⟨.rfl, (.len (by simp only [Sh.put_len])), .rfl, trivial⟩))
 ·intro b13 h1
  exact AW.exit (M9 l7 (Sh.some_eq h1).symm _ (Wk.tr rfl))
theorem laws_toInstr_ok {N : Nat} {p0 : RInstr} {r : RInstr} (h0 : laws_toInstr N p0 = some r) : ACalls Try.prog 82 [(.agg (eRInstr p0))] [] (fun v st => v = (.agg (eRInstr r)) ∧ st = []) := by
 unfold laws_toInstr at h0
 refine ACalls.flat rfl (ai Try.func82 rfl rfl rfl rfl (sr rfl fun K1 hK1 => ao_box (m := 0) (st' := [⟨0, 132, 6, [(eRInstr p0)]⟩]) go0 rfl rfl rfl rfl rfl (ao_alloc (m := 1) (st' := [⟨0, 132, 6, [(eRInstr p0)]⟩, ⟨0, 92, 6, [[(i64 0), (i64 0), (i64 0), (i64 0), .zc, .zc]]⟩]) go0 zi92 rfl rfl (dn hK1 rfl (sr rfl fun K2 hK2 => ao_alloc (m := 2) (st' := [⟨0, 132, 6, [(eRInstr p0)]⟩, ⟨0, 92, 6, [[(i64 0), (i64 0), (i64 0), (i64 0), .zc, .zc]]⟩, ⟨0, 92, 6, [[(i64 0), (i64 0), (i64 0), (i64 0), .zc, .zc]]⟩]) go0 zi92 rfl rfl (dn hK2 rfl (sr rfl fun K3 hK3 => zm tb 3 rfl (ao_str (st' := [⟨0, 132, 6, [(eRInstr p0)]⟩, ⟨0, 92, 6, [[(i64 0), (i64 0), (i64 0), (i64 0), .zc, .zc]]⟩, ⟨0, 92, 6, [[(i64 p0.op), (i64 0), (i64 0), (i64 0), .zc, .zc]]⟩]) go0 ti3 rfl rfl rfl rfl rfl rfl (show 0 + 1 ≤ 6 by decide) rfl ?_))))))))
 refine dn hK3 rfl (sr rfl fun K4 hK4 => zm tb 3 rfl (ao_str (st' := [⟨0, 132, 6, [(eRInstr p0)]⟩, ⟨0, 92, 6, [[(i64 0), (i64 0), (i64 0), (i64 0), .zc, .zc]]⟩, ⟨0, 92, 6, [[(i64 p0.op), (i64 p0.dst), (i64 0), (i64 0), .zc, .zc]]⟩]) go0 ti3 rfl rfl rfl rfl rfl rfl (show 1 + 1 ≤ 6 by decide) rfl (dn hK4 rfl (sr rfl fun K5 hK5 => zm tb 3 rfl (ao_str (st' := [⟨0, 132, 6, [(eRInstr p0)]⟩, ⟨0, 92, 6, [[(i64 0), (i64 0), (i64 0), (i64 0), .zc, .zc]]⟩, ⟨0, 92, 6, [[(i64 p0.op), (i64 p0.dst), (i64 p0.num), (i64 0), .zc, .zc]]⟩]) go0 ti3 rfl rfl rfl rfl rfl rfl (show 2 + 1 ≤ 6 by decide) rfl (dn hK5 rfl (sr rfl fun K6 hK6 => zm tb 3 rfl (ao_str (st' := [⟨0, 132, 6, [(eRInstr p0)]⟩, ⟨0, 92, 6, [[(i64 0), (i64 0), (i64 0), (i64 0), .zc, .zc]]⟩, ⟨0, 92, 6, [[(i64 p0.op), (i64 p0.dst), (i64 p0.num), (i64 p0.into), .zc, .zc]]⟩]) go0 ti3 rfl rfl rfl rfl rfl rfl (show 3 + 1 ≤ 6 by decide) rfl ?_))))))))
 refine dn hK6 rfl (sr rfl fun K7 hK7 => zm tb 2 rfl (bs h0 fun q8 gq8 h0 => ao_call (v' := (ow 3 0 q8)) (st' := [⟨0, 132, 6, [(eRInstr p0)]⟩, ⟨0, 92, 6, [[(i64 0), (i64 0), (i64 0), (i64 0), .zc, .zc]]⟩, ⟨0, 92, 6, [[(i64 p0.op), (i64 p0.dst), (i64 p0.num), (i64 p0.into), .zc, .zc]]⟩, (ro 0 3 1 eI q8)]) go0 hb61 (laws_toIntS_ok gq8) rfl rfl ⟨(pure_map' fun _ => rfl), trivial⟩ rfl rfl (zq tb rfl (AO.weaken (Wk.frz (L := [(1, (.ptr 0 0 0 0)), (2, (.ptr 1 0 0 0)), (3, (.ptr 2 0 0 0)), (18, (ls eI q8)), (19, (.ptr 2 0 0 4))]) (st' := [⟨0, 132, 6, [(eRInstr p0)]⟩, ⟨0, 92, 6, [[(i64 0), (i64 0), (i64 0), (i64 0), .zc, .zc]]⟩, ⟨0, 92, 6, [[(i64 p0.op), (i64 p0.dst), (i64 p0.num), (i64 p0.into), .zc, .zc]]⟩, ⟨1, 3, 1, []⟩]) (id := 3) rfl (show 0 ≤ 3 by decide) (pure_map fun _ => rfl) ⟨.rfl, .rfl, .rfl, (.frz rfl), .rfl, trivial⟩ rfl) (ao_str (st' := [⟨0, 132, 6, [(eRInstr p0)]⟩, ⟨0, 92, 6, [[(i64 0), (i64 0), (i64 0), (i64 0), .zc, .zc]]⟩, ⟨0, 92, 6, [[(i64 p0.op), (i64 p0.dst), (i64 p0.num), (i64 p0.into), (ls eI q8), .zc]]⟩, ⟨1, 3, 1, []⟩]) go0 ti27 rfl rfl rfl rfl rfl rfl (show 4 + 1 ≤ 6 by decide) rfl (dn hK7 rfl (sr rfl fun K9 hK9 => zm tb 2 rfl (bs h0 fun q10 gq10 h0 => ?_))))))))
 refine ao_call (v' := (ow 4 0 q10)) (st' := [⟨0, 132, 6, [(eRInstr p0)]⟩, ⟨0, 92, 6, [[(i64 0), (i64 0), (i64 0), (i64 0), .zc, .zc]]⟩, ⟨0, 92, 6, [[(i64 p0.op), (i64 p0.dst), (i64 p0.num), (i64 p0.into), (ls eI q8), .zc]]⟩, ⟨1, 3, 1, []⟩, (ro 0 3 1 eI q10)]) go0 hb61 (laws_toIntS_ok gq10) rfl rfl ⟨(pure_map' fun _ => rfl), trivial⟩ rfl rfl (zq tb rfl (AO.weaken (Wk.frz (L := [(2, (.ptr 1 0 0 0)), (3, (.ptr 2 0 0 0)), (22, (ls eI q10)), (23, (.ptr 2 0 0 5))]) (st' := [⟨0, 132, 6, [(eRInstr p0)]⟩, ⟨0, 92, 6, [[(i64 0), (i64 0), (i64 0), (i64 0), .zc, .zc]]⟩, ⟨0, 92, 6, [[(i64 p0.op), (i64 p0.dst), (i64 p0.num), (i64 p0.into), (ls eI q8), .zc]]⟩, ⟨1, 3, 1, []⟩, ⟨1, 3, 1, []⟩]) (id := 4) rfl (show 0 ≤ 4 by decide) (pure_map fun _ => rfl) ⟨.rfl, .rfl, (.frz rfl), .rfl, trivial⟩ rfl) (ao_str (st' := [⟨0, 132, 6, [(eRInstr p0)]⟩, ⟨0, 92, 6, [[(i64 0), (i64 0), (i64 0), (i64 0), .zc, .zc]]⟩, ⟨0, 92, 6, [[(i64 p0.op), (i64 p0.dst), (i64 p0.num), (i64 p0.into), (ls eI q8), (ls eI q10)]]⟩, ⟨1, 3, 1, []⟩, ⟨1, 3, 1, []⟩]) go0 ti27 rfl rfl rfl rfl rfl rfl (show 5 + 1 ≤ 6 by decide) rfl (dn hK9 rfl (sr rfl fun K11 hK11 => zq tb rfl (ao_str (st' := [⟨0, 132, 6, [(eRInstr p0)]⟩, ⟨0, 92, 6, [[(i64 p0.op), (i64 p0.dst), (i64 p0.num), (i64 p0.into), (ls eI q8), (ls eI q10)]]⟩, ⟨0, 92, 6, [[(i64 p0.op), (i64 p0.dst), (i64 p0.num), (i64 p0.into), (ls eI q8), (ls eI q10)]]⟩, ⟨1, 3, 1, []⟩, ⟨1, 3, 1, []⟩]) go0 ti92 rfl rfl rfl rfl rfl rfl (show 0 + 6 ≤ 6 by decide) rfl (dn hK11 rfl ?_)))))))
 replace h0 := Sh.some_eq h0
 subst r
 exact AW.ret (Exists.intro _ (And.intro (Wk.refl _ _) (aq_ldpa (x := .tmp 2) (off := 0) (cs := [(i64 p0.op), (i64 p0.dst), (i64 p0.num), (i64 p0.into), (ls eI q8), (ls eI q10)]) (vs := [(i64 p0.op), (i64 p0.dst), (i64 p0.num), (i64 p0.into), (ls eI q8), (ls eI q10)]) ti92 rfl rfl rfl (show 0 + 6 ≤ 6 by decide) rfl _ rfl)))
theorem laws_toInstrS_ok {N : Nat} {p0 : (List RInstr)} {r : (List RInstr)} (h0 : laws_toInstrS N p0 = some r) : ACalls Try.prog 62 [(ls eRInstr p0)] [] (fun v st => v = (ow 0 0 r) ∧ st = [(ro 0 92 6 eRInstr r)]) := by
 unfold laws_toInstrS at h0
 refine ai Try.func62 rfl rfl rfl rfl (zr tb rfl rfl (sr rfl fun K2 hK2 => zq tb rfl (zl tb rfl rfl (bs h0 fun l3 gl3 h0 => ao_make (m := 0) (st' := [(ro 0 92 6 eRInstr l3)]) (enc := eRInstr) (u := (RInstr.mk 0 0 0 0 [] [])) go0 ei75 rfl rfl rfl gl3 rfl rfl (zq tb rfl (dn hK2 rfl (AW.seq fun K4 hK4 => zr tb rfl rfl (bs h0 fun o9 h1 h0 => ?_))))))))
 have M9 : ∀ (l8 : (List RInstr)), o9 = l8 → ∀ s, Wk 0 s ⟨23, envL [(3, (ow 0 0 l8))], [(ro 0 92 6 eRInstr l8)]⟩ → K4 s := by
  intro l8 hq s hw
  subst o9
  try dsimp only at h0
  refine hK4 _ (AW.weaken hw (zr tb rfl rfl ?_))
  replace h0 := Sh.some_eq h0
  subst r
  exact AW.ret (xr (Wk.to (L := [(2, (ow 0 0 l8))]) ⟨.rfl, trivial⟩))
 refine AW.block (AW.loopF (σ := Int × (List RInstr)) (fun n v => laws_toInstrS_L1 N p0 n v.1 v.2 = some o9) (fun (i6, l7) => ⟨23, envL [(0, (ls eRInstr p0)), (3, (ow 0 0 l7)), (4, (i64 i6))], [(ro 0 92 6 eRInstr l7)]⟩) N (0, l3) h1 (Wk.tr rfl) (fun _ hv => by rw [laws_toInstrS_L1] at hv; cases hv) ?_)
 rintro n ⟨i6, l7⟩ h1
 try dsimp only at h1 ⊢
 rw [laws_toInstrS_L1] at h1
 refine AW.seq fun K11 hK11 => sr rfl fun K12 hK12 => zm tb 2 rfl (zl tb rfl rfl (zq tb rfl (dn hK12 rfl ?_)))
 refine ci h1 rfl ?_ ?_ <;> clear h1
 ·intro b13 h1
  refine AW.skip (hK11 _ (AW.seq fun K14 hK14 => AW.block (AW.regionO rfl (zm tb 4 rfl (bs h1 fun c15 gc15 h1 => zx ei66 gc15 rfl rfl rfl (zq tb rfl (bs h1 fun q16 gq16 h1 => zc (v' := (.agg (eRInstr q16))) hb82 (laws_toInstr_ok gq16) rfl rfl rfl (bs h1 fun c17 gc17 h1 => zz (.ptr 0 0 (Int.toNat i6) 0) (aq_ixo ei75 rfl rfl rfl rfl gc17) rfl ?_))))))))
  refine ao_stl (st' := [(ro 0 92 6 eRInstr (Sh.put l7 i6 q16))]) (u' := q16) go0 ti92 rfl rfl gc17 rfl rfl rfl (show 0 + 6 ≤ 6 by decide) rfl rfl (dn hK14 rfl (AW.regionO rfl (zm tb 3 rfl ?_)))
  exact AO.done (xi (Sh.w (i6 + 1), Sh.put l7 i6 q16) h1 (Wk.to (L := [(0, (.sl (List.map eRInstr p0))), (3, (.own 0 0 (List.length (Sh.put l7 i6 q16)))), (4, (i64 (Sh.w (i6 + 1))))]) ⟨.rfl, (.len (by simp only [Sh.put_len])), .rfl, trivial⟩))
 ·intro b13 h1
  exact AW.exit (M9 l7 (Sh.some_eq h1).symm _ (Wk.tr rfl))
theorem laws_toProc_ok {N : Nat} {p0 : RProc} {r : RProc} (h0 : laws_toProc N p0 = some r) : ACalls Try.prog 42 [(.agg (eRProc p0))] [] (fun v st => v = (.agg (eRProc r)) ∧ st = []) := by
 unfold laws_toProc at h0
 refine ACalls.flat rfl (ai Try.func42 rfl rfl rfl rfl (sr rfl fun K1 hK1 => ao_box (m := 0) (st' := [⟨0, 68, 5, [(eRProc p0)]⟩]) go0 rfl rfl rfl rfl rfl (ao_alloc (m := 1) (st' := [⟨0, 68, 5, [(eRProc p0)]⟩, ⟨0, 77, 5, [[.zc, .zc, (i64 0), (i64 0), .zc]]⟩]) go0 zi77 rfl rfl (dn hK1 rfl (sr rfl fun K2 hK2 => ao_alloc (m := 2) (st' := [⟨0, 68, 5, [(eRProc p0)]⟩, ⟨0, 77, 5, [[.zc, .zc, (i64 0), (i64 0), .zc]]⟩, ⟨0, 77, 5, [[.zc, .zc, (i64 0), (i64 0), .zc]]⟩]) go0 zi77 rfl rfl (dn hK2 rfl (sr rfl fun K3 hK3 => zm tb 2 rfl (bs h0 fun q4 gq4 h0 => ?_))))))))
 refine ao_call (v' := (ow 3 0 q4)) (st' := [⟨0, 68, 5, [(eRProc p0)]⟩, ⟨0, 77, 5, [[.zc, .zc, (i64 0), (i64 0), .zc]]⟩, ⟨0, 77, 5, [[.zc, .zc, (i64 0), (i64 0), .zc]]⟩, (ro 0 3 1 eI q4)]) go0 hb61 (laws_toIntS_ok gq4) rfl rfl ⟨(pure_map' fun _ => rfl), trivial⟩ rfl rfl (zq tb rfl (AO.weaken (Wk.frz (L := [(1, (.ptr 0 0 0 0)), (2, (.ptr 1 0 0 0)), (3, (.ptr 2 0 0 0)), (6, (ls eI q4)), (7, (.ptr 2 0 0 0))]) (st' := [⟨0, 68, 5, [(eRProc p0)]⟩, ⟨0, 77, 5, [[.zc, .zc, (i64 0), (i64 0), .zc]]⟩, ⟨0, 77, 5, [[.zc, .zc, (i64 0), (i64 0), .zc]]⟩, ⟨1, 3, 1, []⟩]) (id := 3) rfl (show 0 ≤ 3 by decide) (pure_map fun _ => rfl) ⟨.rfl, .rfl, .rfl, (.frz rfl), .rfl, trivial⟩ rfl) (ao_str (st' := [⟨0, 68, 5, [(eRProc p0)]⟩, ⟨0, 77, 5, [[.zc, .zc, (i64 0), (i64 0), .zc]]⟩, ⟨0, 77, 5, [[(ls eI q4), .zc, (i64 0), (i64 0), .zc]]⟩, ⟨1, 3, 1, []⟩]) go0 ti27 rfl rfl rfl rfl rfl rfl (show 0 + 1 ≤ 5 by decide) rfl (dn hK3 rfl (sr rfl fun K5 hK5 => zm tb 2 rfl (bs h0 fun q6 gq6 h0 => ao_call (v' := (ow 4 0 q6)) (st' := [⟨0, 68, 5, [(eRProc p0)]⟩, ⟨0, 77, 5, [[.zc, .zc, (i64 0), (i64 0), .zc]]⟩, ⟨0, 77, 5, [[(ls eI q4), .zc, (i64 0), (i64 0), .zc]]⟩, ⟨1, 3, 1, []⟩, (ro 0 3 1 eI q6)]) go0 hb61 (laws_toIntS_ok gq6) rfl rfl ⟨(pure_map' fun _ => rfl), trivial⟩ rfl rfl (zq tb rfl (AO.weaken (Wk.frz (L := [(1, (.ptr 0 0 0 0)), (2, (.ptr 1 0 0 0)), (3, (.ptr 2 0 0 0)), (10, (ls eI q6)), (11, (.ptr 2 0 0 1))]) (st' := [⟨0, 68, 5, [(eRProc p0)]⟩, ⟨0, 77, 5, [[.zc, .zc, (i64 0), (i64 0), .zc]]⟩, ⟨0, 77, 5, [[(ls eI q4), .zc, (i64 0), (i64 0), .zc]]⟩, ⟨1, 3, 1, []⟩, ⟨1, 3, 1, []⟩]) (id := 4) rfl (show 0 ≤ 4 by decide) (pure_map fun _ => rfl) ⟨.rfl, .rfl, .rfl, (.frz rfl), .rfl, trivial⟩ rfl) (ao_str (st' := [⟨0, 68, 5, [(eRProc p0)]⟩, ⟨0, 77, 5, [[.zc, .zc, (i64 0), (i64 0), .zc]]⟩, ⟨0, 77, 5, [[(ls eI q4), (ls eI q6), (i64 0), (i64 0), .zc]]⟩, ⟨1, 3, 1, []⟩, ⟨1, 3, 1, []⟩]) go0 ti27 rfl rfl rfl rfl rfl rfl (show 1 + 1 ≤ 5 by decide) rfl ?_)))))))))
 refine dn hK5 rfl (sr rfl fun K7 hK7 => zm tb 3 rfl (ao_str (st' := [⟨0, 68, 5, [(eRProc p0)]⟩, ⟨0, 77, 5, [[.zc, .zc, (i64 0), (i64 0), .zc]]⟩, ⟨0, 77, 5, [[(ls eI q4), (ls eI q6), (i64 p0.result), (i64 0), .zc]]⟩, ⟨1, 3, 1, []⟩, ⟨1, 3, 1, []⟩]) go0 ti3 rfl rfl rfl rfl rfl rfl (show 2 + 1 ≤ 5 by decide) rfl (dn hK7 rfl (sr rfl fun K8 hK8 => zm tb 3 rfl (ao_str (st' := [⟨0, 68, 5, [(eRProc p0)]⟩, ⟨0, 77, 5, [[.zc, .zc, (i64 0), (i64 0), .zc]]⟩, ⟨0, 77, 5, [[(ls eI q4), (ls eI q6), (i64 p0.result), (i64 p0.regs), .zc]]⟩, ⟨1, 3, 1, []⟩, ⟨1, 3, 1, []⟩]) go0 ti3 rfl rfl rfl rfl rfl rfl (show 3 + 1 ≤ 5 by decide) rfl (dn hK8 rfl (sr rfl fun K9 hK9 => zm tb 2 rfl (bs h0 fun q10 gq10 h0 => ?_))))))))
 refine ao_call (v' := (ow 5 0 q10)) (st' := [⟨0, 68, 5, [(eRProc p0)]⟩, ⟨0, 77, 5, [[.zc, .zc, (i64 0), (i64 0), .zc]]⟩, ⟨0, 77, 5, [[(ls eI q4), (ls eI q6), (i64 p0.result), (i64 p0.regs), .zc]]⟩, ⟨1, 3, 1, []⟩, ⟨1, 3, 1, []⟩, (ro 0 92 6 eRInstr q10)]) go0 hb62 (laws_toInstrS_ok gq10) rfl rfl ⟨(pure_map' fun _ => rfl), trivial⟩ rfl rfl (zq tb rfl (AO.weaken (Wk.frz (L := [(2, (.ptr 1 0 0 0)), (3, (.ptr 2 0 0 0)), (20, (ls eRInstr q10)), (21, (.ptr 2 0 0 4))]) (st' := [⟨0, 68, 5, [(eRProc p0)]⟩, ⟨0, 77, 5, [[.zc, .zc, (i64 0), (i64 0), .zc]]⟩, ⟨0, 77, 5, [[(ls eI q4), (ls eI q6), (i64 p0.result), (i64 p0.regs), .zc]]⟩, ⟨1, 3, 1, []⟩, ⟨1, 3, 1, []⟩, ⟨1, 92, 6, []⟩]) (id := 5) rfl (show 0 ≤ 5 by decide) (pure_map fun _ => rfl) ⟨.rfl, .rfl, (.frz rfl), .rfl, trivial⟩ rfl) (ao_str (st' := [⟨0, 68, 5, [(eRProc p0)]⟩, ⟨0, 77, 5, [[.zc, .zc, (i64 0), (i64 0), .zc]]⟩, ⟨0, 77, 5, [[(ls eI q4), (ls eI q6), (i64 p0.result), (i64 p0.regs), (ls eRInstr q10)]]⟩, ⟨1, 3, 1, []⟩, ⟨1, 3, 1, []⟩, ⟨1, 92, 6, []⟩]) go0 ti75 rfl rfl rfl rfl rfl rfl (show 4 + 1 ≤ 5 by decide) rfl (dn hK9 rfl (sr rfl fun K11 hK11 => zq tb rfl (ao_str (st' := [⟨0, 68, 5, [(eRProc p0)]⟩, ⟨0, 77, 5, [[(ls eI q4), (ls eI q6), (i64 p0.result), (i64 p0.regs), (ls eRInstr q10)]]⟩, ⟨0, 77, 5, [[(ls eI q4), (ls eI q6), (i64 p0.result), (i64 p0.regs), (ls eRInstr q10)]]⟩, ⟨1, 3, 1, []⟩, ⟨1, 3, 1, []⟩, ⟨1, 92, 6, []⟩]) go0 ti77 rfl rfl rfl rfl rfl rfl (show 0 + 5 ≤ 5 by decide) rfl (dn hK11 rfl ?_)))))))
 replace h0 := Sh.some_eq h0
 subst r
 exact AW.ret (Exists.intro _ (And.intro (Wk.refl _ _) (aq_ldpa (x := .tmp 2) (off := 0) (cs := [(ls eI q4), (ls eI q6), (i64 p0.result), (i64 p0.regs), (ls eRInstr q10)]) (vs := [(ls eI q4), (ls eI q6), (i64 p0.result), (i64 p0.regs), (ls eRInstr q10)]) ti77 rfl rfl rfl (show 0 + 5 ≤ 5 by decide) rfl _ rfl)))
theorem laws_toProcS_ok {N : Nat} {p0 : (List RProc)} {r : (List RProc)} (h0 : laws_toProcS N p0 = some r) : ACalls Try.prog 19 [(ls eRProc p0)] [] (fun v st => v = (ow 0 0 r) ∧ st = [(ro 0 77 5 eRProc r)]) := by
 unfold laws_toProcS at h0
 refine ai Try.func19 rfl rfl rfl rfl (zr tb rfl rfl (sr rfl fun K2 hK2 => zq tb rfl (zl tb rfl rfl (bs h0 fun l3 gl3 h0 => ao_make (m := 0) (st' := [(ro 0 77 5 eRProc l3)]) (enc := eRProc) (u := (RProc.mk [] [] 0 0 [])) go0 ei35 rfl rfl rfl gl3 rfl rfl (zq tb rfl (dn hK2 rfl (AW.seq fun K4 hK4 => zr tb rfl rfl (bs h0 fun o9 h1 h0 => ?_))))))))
 have M9 : ∀ (l8 : (List RProc)), o9 = l8 → ∀ s, Wk 0 s ⟨23, envL [(3, (ow 0 0 l8))], [(ro 0 77 5 eRProc l8)]⟩ → K4 s := by
  intro l8 hq s hw
  subst o9
  try dsimp only at h0
  refine hK4 _ (AW.weaken hw (zr tb rfl rfl ?_))
  replace h0 := Sh.some_eq h0
  subst r
  exact AW.ret (xr (Wk.to (L := [(2, (ow 0 0 l8))]) ⟨.rfl, trivial⟩))
 refine AW.block (AW.loopF (σ := Int × (List RProc)) (fun n v => laws_toProcS_L1 N p0 n v.1 v.2 = some o9) (fun (i6, l7) => ⟨23, envL [(0, (ls eRProc p0)), (3, (ow 0 0 l7)), (4, (i64 i6))], [(ro 0 77 5 eRProc l7)]⟩) N (0, l3) h1 (Wk.tr rfl) (fun _ hv => by rw [laws_toProcS_L1] at hv; cases hv) ?_)
 rintro n ⟨i6, l7⟩ h1
 try dsimp only at h1 ⊢
 rw [laws_toProcS_L1] at h1
 refine AW.seq fun K11 hK11 => sr rfl fun K12 hK12 => zm tb 2 rfl (zl tb rfl rfl (zq tb rfl (dn hK12 rfl ?_)))
 refine ci h1 rfl ?_ ?_ <;> clear h1
 ·intro b13 h1
  refine AW.skip (hK11 _ (AW.seq fun K14 hK14 => AW.block (AW.regionO rfl (zm tb 4 rfl (bs h1 fun c15 gc15 h1 => zx ei23 gc15 rfl rfl rfl (zq tb rfl (bs h1 fun q16 gq16 h1 => zc (v' := (.agg (eRProc q16))) hb42 (laws_toProc_ok gq16) rfl rfl rfl (bs h1 fun c17 gc17 h1 => zz (.ptr 0 0 (Int.toNat i6) 0) (aq_ixo ei35 rfl rfl rfl rfl gc17) rfl ?_))))))))
  refine ao_stl (st' := [(ro 0 77 5 eRProc (Sh.put l7 i6 q16))]) (u' := q16) go0 ti77 rfl rfl gc17 rfl rfl rfl (show 0 + 5 ≤ 5 by decide) rfl rfl (dn hK14 rfl (AW.regionO rfl (zm tb 3 rfl ?_)))
  exact AO.done (xi (Sh.w (i6 + 1), Sh.put l7 i6 q16) h1 (Wk.to (L := [(0, (.sl (List.map eRProc p0))), (3, (.own 0 0 (List.length (Sh.put l7 i6 q16)))), (4, (i64 (Sh.w (i6 + 1))))]) ⟨.rfl, (.len (by simp only [Sh.put_len])), .rfl, trivial⟩))
 ·intro b13 h1
  exact AW.exit (M9 l7 (Sh.some_eq h1).symm _ (Wk.tr rfl))
theorem laws_toImage_ok {N : Nat} {p0 : RImage} {r : RImage} (h0 : laws_toImage N p0 = some r) : ACalls Try.prog 6 [(.agg (eRImage p0))] [] (fun v st => v = (.agg (eRImage r)) ∧ st = []) := by
 unfold laws_toImage at h0
 refine ACalls.flat rfl (ai Try.func6 rfl rfl rfl rfl (sr rfl fun K1 hK1 => ao_box (m := 0) (st' := [⟨0, 25, 2, [(eRImage p0)]⟩]) go0 rfl rfl rfl rfl rfl (ao_alloc (m := 1) (st' := [⟨0, 25, 2, [(eRImage p0)]⟩, ⟨0, 37, 2, [[.zc, .zc]]⟩]) go0 zi37 rfl rfl (dn hK1 rfl (sr rfl fun K2 hK2 => ao_alloc (m := 2) (st' := [⟨0, 25, 2, [(eRImage p0)]⟩, ⟨0, 37, 2, [[.zc, .zc]]⟩, ⟨0, 37, 2, [[.zc, .zc]]⟩]) go0 zi37 rfl rfl (dn hK2 rfl (sr rfl fun K3 hK3 => zm tb 2 rfl (bs h0 fun q4 gq4 h0 => ?_))))))))
 refine ao_call (v' := (ow 3 0 q4)) (st' := [⟨0, 25, 2, [(eRImage p0)]⟩, ⟨0, 37, 2, [[.zc, .zc]]⟩, ⟨0, 37, 2, [[.zc, .zc]]⟩, (ro 0 83 3 eRDecl q4)]) go0 hb18 (laws_toDeclS_ok gq4) rfl rfl ⟨(pure_map' fun _ => rfl), trivial⟩ rfl rfl (zq tb rfl (AO.weaken (Wk.frz (L := [(1, (.ptr 0 0 0 0)), (2, (.ptr 1 0 0 0)), (3, (.ptr 2 0 0 0)), (6, (ls eRDecl q4)), (7, (.ptr 2 0 0 0))]) (st' := [⟨0, 25, 2, [(eRImage p0)]⟩, ⟨0, 37, 2, [[.zc, .zc]]⟩, ⟨0, 37, 2, [[.zc, .zc]]⟩, ⟨1, 83, 3, []⟩]) (id := 3) rfl (show 0 ≤ 3 by decide) (pure_map fun _ => rfl) ⟨.rfl, .rfl, .rfl, (.frz rfl), .rfl, trivial⟩ rfl) (ao_str (st' := [⟨0, 25, 2, [(eRImage p0)]⟩, ⟨0, 37, 2, [[.zc, .zc]]⟩, ⟨0, 37, 2, [[(ls eRDecl q4), .zc]]⟩, ⟨1, 83, 3, []⟩]) go0 ti34 rfl rfl rfl rfl rfl rfl (show 0 + 1 ≤ 2 by decide) rfl (dn hK3 rfl (sr rfl fun K5 hK5 => zm tb 2 rfl (bs h0 fun q6 gq6 h0 => ao_call (v' := (ow 4 0 q6)) (st' := [⟨0, 25, 2, [(eRImage p0)]⟩, ⟨0, 37, 2, [[.zc, .zc]]⟩, ⟨0, 37, 2, [[(ls eRDecl q4), .zc]]⟩, ⟨1, 83, 3, []⟩, (ro 0 77 5 eRProc q6)]) go0 hb19 (laws_toProcS_ok gq6) rfl rfl ⟨(pure_map' fun _ => rfl), trivial⟩ rfl rfl (zq tb rfl (AO.weaken (Wk.frz (L := [(2, (.ptr 1 0 0 0)), (3, (.ptr 2 0 0 0)), (10, (ls eRProc q6)), (11, (.ptr 2 0 0 1))]) (st' := [⟨0, 25, 2, [(eRImage p0)]⟩, ⟨0, 37, 2, [[.zc, .zc]]⟩, ⟨0, 37, 2, [[(ls eRDecl q4), .zc]]⟩, ⟨1, 83, 3, []⟩, ⟨1, 77, 5, []⟩]) (id := 4) rfl (show 0 ≤ 4 by decide) (pure_map fun _ => rfl) ⟨.rfl, .rfl, (.frz rfl), .rfl, trivial⟩ rfl) (ao_str (st' := [⟨0, 25, 2, [(eRImage p0)]⟩, ⟨0, 37, 2, [[.zc, .zc]]⟩, ⟨0, 37, 2, [[(ls eRDecl q4), (ls eRProc q6)]]⟩, ⟨1, 83, 3, []⟩, ⟨1, 77, 5, []⟩]) go0 ti35 rfl rfl rfl rfl rfl rfl (show 1 + 1 ≤ 2 by decide) rfl ?_)))))))))
 refine dn hK5 rfl (sr rfl fun K7 hK7 => zq tb rfl (ao_str (st' := [⟨0, 25, 2, [(eRImage p0)]⟩, ⟨0, 37, 2, [[(ls eRDecl q4), (ls eRProc q6)]]⟩, ⟨0, 37, 2, [[(ls eRDecl q4), (ls eRProc q6)]]⟩, ⟨1, 83, 3, []⟩, ⟨1, 77, 5, []⟩]) go0 ti37 rfl rfl rfl rfl rfl rfl (show 0 + 2 ≤ 2 by decide) rfl (dn hK7 rfl ?_)))
 replace h0 := Sh.some_eq h0
 subst r
 exact AW.ret (Exists.intro _ (And.intro (Wk.refl _ _) (aq_ldpa (x := .tmp 2) (off := 0) (cs := [(ls eRDecl q4), (ls eRProc q6)]) (vs := [(ls eRDecl q4), (ls eRProc q6)]) ti37 rfl rfl rfl (show 0 + 2 ≤ 2 by decide) rfl _ rfl)))
theorem spec_sigsOfImage_ok {N : Nat} {p0 : RImage} {r : RProgram} (h0 : spec_sigsOfImage N p0 = some r) : ACalls Try.prog 38 [(.agg (eRImage p0))] [] (fun v st => v = (.agg [(ls eRDecl r.decls), (ls eRFunc r.funcs)]) ∧ st = []) := by
 unfold spec_sigsOfImage at h0
 refine ACalls.flat rfl (ai Try.func38 rfl rfl rfl rfl (sr rfl fun K1 hK1 => ao_box (m := 0) (st' := [⟨0, 37, 2, [(eRImage p0)]⟩]) go0 rfl rfl rfl rfl rfl (ao_alloc (m := 1) (st' := [⟨0, 37, 2, [(eRImage p0)]⟩, ⟨0, 72, 2, [[.zc, .zc]]⟩]) go0 zi72 rfl rfl (dn hK1 rfl (sr rfl fun K2 hK2 => zm tb 2 rfl ?_)))))
 refine ao_bs (m := 2) (st' := [⟨0, 37, 2, [(eRImage p0)]⟩, ⟨0, 72, 2, [[.zc, .zc]]⟩, (ro 0 110 5 eRFunc ([] : List RFunc))]) (l := ([] : List RFunc)) (enc := eRFunc) go0 ei70 (by decide) rfl rfl rfl rfl rfl rfl ?_
 refine zz (.agg [(ls eRDecl p0.decls), (.own 2 0 (List.length ([] : List RFunc)))]) (aq_bd ai72 bi72 zi72 rfl rfl) rfl (ao_alloc (m := 3) (st' := [⟨0, 37, 2, [(eRImage p0)]⟩, ⟨0, 72, 2, [[.zc, .zc]]⟩, (ro 0 110 5 eRFunc ([] : List RFunc)), ⟨0, 72, 2, [[.zc, .zc]]⟩]) go0 zi72 rfl rfl (ao_str (st' := [⟨0, 37, 2, [(eRImage p0)]⟩, ⟨0, 72, 2, [[.zc, .zc]]⟩, (ro 0 110 5 eRFunc ([] : List RFunc)), ⟨0, 72, 2, [[(ls eRDecl p0.decls), (.own 2 0 (List.length ([] : List RFunc)))]]⟩]) go0 ti72 rfl rfl rfl rfl rfl rfl (show 0 + 2 ≤ 2 by decide) rfl (dn hK2 rfl (AW.seq fun K3 hK3 => zr tb rfl rfl (bs h0 fun o8 h1 h0 => ?_)))))
 have M8 : ∀ (l7 : (List RFunc)), o8 = l7 → ∀ s, Wk 0 s ⟨35, envL [(2, (.ptr 0 0 0 0)), (3, (.ptr 2 0 0 0))], [⟨0, 72, 2, [[.zc, .zc]]⟩, (ro 0 110 5 eRFunc l7), ⟨0, 72, 2, [[(ls eRDecl p0.decls), (ow 1 0 l7)]]⟩]⟩ → K3 s := by
  intro l7 hq s hw
  subst o8
  try dsimp only at h0
  refine hK3 _ (AW.weaken hw (sr rfl fun K9 hK9 => zq tb rfl (AO.weaken (Wk.frz (L := [(2, (.ptr 0 0 0 0)), (34, (.agg [(ls eRDecl p0.decls), (ls eRFunc l7)]))]) (st' := [⟨0, 72, 2, [[.zc, .zc]]⟩, ⟨1, 110, 5, []⟩, ⟨0, 72, 2, [[(ls eRDecl p0.decls), (ow 1 0 l7)]]⟩]) (id := 1) rfl (show 0 ≤ 1 by decide) (pure_map fun _ => rfl) ⟨.rfl, (.agg ⟨.rfl, (.frz1 rfl), trivial⟩), trivial⟩ rfl) (ao_str (st' := [⟨0, 72, 2, [[(ls eRDecl p0.decls), (ls eRFunc l7)]]⟩, ⟨1, 110, 5, []⟩, ⟨0, 72, 2, [[(ls eRDecl p0.decls), (ow 1 0 l7)]]⟩]) go0 ti72 rfl rfl rfl rfl rfl rfl (show 0 + 2 ≤ 2 by decide) rfl (dn hK9 rfl ?_)))))
  replace h0 := Sh.some_eq h0
  subst r
  exact AW.ret (Exists.intro _ (And.intro (Wk.refl _ _) (aq_ldpa (x := .tmp 2) (off := 0) (cs := [(ls eRDecl p0.decls), (ls eRFunc l7)]) (vs := [(ls eRDecl p0.decls), (ls eRFunc l7)]) ti72 rfl rfl rfl (show 0 + 2 ≤ 2 by decide) rfl _ rfl)))
 refine AW.block (AW.loopF (σ := Int × (List RFunc)) (fun n v => spec_sigsOfImage_L1 p0 n v.1 v.2 = some o8) (fun (i5, l6) => ⟨35, envL [(1, (.ptr 0 0 0 0)), (2, (.ptr 1 0 0 0)), (3, (.ptr 3 0 0 0)), (4, (i64 i5))], [⟨0, 37, 2, [(eRImage p0)]⟩, ⟨0, 72, 2, [[.zc, .zc]]⟩, (ro 0 110 5 eRFunc l6), ⟨0, 72, 2, [[(ls eRDecl p0.decls), (ow 2 0 l6)]]⟩]⟩) N (0, []) h1 (Wk.tr rfl) (fun _ hv => by rw [spec_sigsOfImage_L1] at hv; cases hv) ?_)
 rintro n ⟨i5, l6⟩ h1
 try dsimp only at h1 ⊢
 rw [spec_sigsOfImage_L1] at h1
 refine AW.seq fun K10 hK10 => sr rfl fun K11 hK11 => zm tb 3 rfl (zl tb rfl rfl (zq tb rfl (dn hK11 rfl ?_)))
 refine ci h1 rfl ?_ ?_ <;> clear h1
 ·intro b12 h1
  refine AW.skip (hK10 _ (AW.seq fun K13 hK13 => AW.block ?_))
  refine AW.drawTailO 16 (by kernel_rfl) (by kernel_rfl) (by rfl) ?_
  iterate 5 refine yq tb rfl ?_
  refine bs h1 fun c14 gc14 h1 => yx ei35 gc14 rfl rfl rfl ?_
  iterate 5 refine yq tb rfl ?_
  refine yx ei35 gc14 rfl rfl rfl ?_
  iterate 2 refine yq tb rfl ?_
  refine yz (.agg [(ls eI c14.params), (i64 c14.result), (i64 0), (i64 0), .zc]) (aq_bd ai110 bi110 zi110 rfl rfl) rfl ?_
  refine d_bsz (l := ([(RFunc.mk c14.params c14.result (RExpr.mk 0 0 []))])) (enc := eRFunc) (pv' := [(0, (.agg [(ls eI c14.params), (i64 c14.result), (i64 0), (i64 0), (.sl (List.map eRExpr []))]))]) go0 ei70 (by decide) rfl rfl (.cons (le.agg ⟨le.rfl, le.rfl, le.rfl, le.rfl, le.zc, trivial⟩) .nil) rfl rfl rfl (pure_map fun _ => rfl) ?_
  exact d_done (bs h1 fun l15 gl15 h1 => ao_apo (st' := [⟨0, 37, 2, [(eRImage p0)]⟩, ⟨0, 72, 2, [[.zc, .zc]]⟩, (ro 1 110 5 eRFunc l15), ⟨0, 72, 2, [[(ls eRDecl p0.decls), (ow 2 0 l6)]]⟩]) (l2 := ([(RFunc.mk c14.params c14.result (RExpr.mk 0 0 []))])) go0 ei70 rfl rfl rfl rfl el_s (fun _ => rfl) gl15 rfl (zq tb rfl (ao_str (st' := [⟨0, 37, 2, [(eRImage p0)]⟩, ⟨0, 72, 2, [[.zc, .zc]]⟩, (ro 1 110 5 eRFunc l15), ⟨0, 72, 2, [[(ls eRDecl p0.decls), (ow 2 1 l15)]]⟩]) go0 ti70 rfl rfl rfl rfl rfl rfl (show 1 + 1 ≤ 2 by decide) rfl (dn hK13 rfl (AW.regionO rfl (zm tb 3 rfl (AO.done (xi (Sh.w (i5 + 1), l15) h1 (Wk.rg (L := [(1, (.ptr 0 0 0 0)), (2, (.ptr 1 0 0 0)), (3, (.ptr 3 0 0 0)), (4, (i64 (Sh.w (i5 + 1))))]) (st' := [⟨0, 37, 2, [(eRImage p0)]⟩, ⟨0, 72, 2, [[.zc, .zc]]⟩, (ro 0 110 5 eRFunc l15), ⟨0, 72, 2, [[(ls eRDecl p0.decls), (ow 2 0 l15)]]⟩]) (.raw rfl rfl (.raw rfl rfl (.pure (pure_map fun _ => rfl) (.raw rfl rfl .nil)))) ⟨.rfl, .rfl, .rfl, .rfl, trivial⟩)))))))))
 ·intro b12 h1
  exact AW.exit (M8 l6 (Sh.some_eq h1).symm _ (Wk.permk (L := [(2, (.ptr 0 0 0 0)), (3, (.ptr 2 0 0 0))]) (st' := [⟨0, 72, 2, [[.zc, .zc]]⟩, (ro 0 110 5 eRFunc l6), ⟨0, 72, 2, [[(ls eRDecl p0.decls), (ow 1 0 l6)]]⟩]) (st1 := [⟨0, 72, 2, [[.zc, .zc]]⟩, (ro 0 110 5 eRFunc l6), ⟨0, 72, 2, [[(ls eRDecl p0.decls), (ow 2 0 l6)]]⟩]) [1, 2, 3] rfl .nil (by decide) rfl rfl (.raw rfl rfl (.pure (pure_map fun _ => rfl) (.raw rfl rfl .nil))) ⟨.rfl, .rfl, trivial⟩))
theorem spec_inRange_ok {p0 : Int} {p1 : Int} {p2 : Int} {r : Bool} (h0 : spec_inRange p0 p1 p2 = some r) : ACalls Try.prog 16 [(i64 p0), (i64 p1), (i64 p2)] [] (fun v st => v = (.bool r) ∧ st = []) := by
 unfold spec_inRange at h0
 refine ai Try.func16 rfl rfl rfl rfl (zr tb rfl rfl (AW.seq fun K2 hK2 => bs h0 fun o4 h1 h0 => ?_))
 have M4 : ∀ (t3 : Bool), o4 = t3 → ∀ s, Wk 0 s ⟨15, envL [(6, (.bool t3))], []⟩ → K2 s := by
  intro t3 hq s hw
  subst o4
  try dsimp only at h0
  refine hK2 _ (AW.weaken hw ?_)
  replace h0 := Sh.some_eq h0
  subst r
  exact AW.ret (xr (Wk.to (L := [(6, (.bool t3))]) ⟨.rfl, trivial⟩))
 refine AW.regionO rfl (zm tb 4 rfl ?_)
 rcases Sh.ite_some h1 with ⟨b5, h1⟩ | ⟨b5, h1⟩
 ·exact zg tb b5 rfl (zg tb b5 rfl (zg tb b5 rfl (zt b5 rfl (zq tb rfl (AO.done (M4 (decide (p0 ≤ p2)) (Sh.some_eq h1).symm _ (Wk.tr rfl)))))))
 ·exact zs b5 rfl (zs b5 rfl (zs b5 rfl (zf b5 rfl (zq tb rfl (AO.done (M4 false (Sh.some_eq h1).symm _ (Wk.tr rfl)))))))
theorem spec_allTypes_ok {N : Nat} {p0 : (List RDecl)} {p1 : (List Int)} {r : Bool} (h0 : spec_allTypes N p0 p1 = some r) : ACalls Try.prog 56 [(ls eRDecl p0), (ls eI p1)] [] (fun v st => v = (.bool r) ∧ st = []) := by
 unfold spec_allTypes at h0
 refine ai Try.func56 rfl rfl rfl rfl (zr tb rfl rfl (AW.seq fun K2 hK2 => zr tb rfl rfl ?_))
 obtain ⟨o5, h1, h0⟩ := Sh.cont_some h0
 have M5 : ∀ (_ : Unit), o5 = Sum.inr () → ∀ s, Wk 0 s ⟨20, envL [], []⟩ → K2 s := by
  intro _ hq s hw
  subst o5
  try dsimp only at h0
  refine hK2 _ (AW.weaken hw (zr tb rfl rfl ?_))
  replace h0 := Sh.some_eq h0
  subst r
  exact AW.ret (xr (Wk.to (L := [(4, (.bool true))]) ⟨.rfl, trivial⟩))
 refine AW.block (AW.loopF (σ := Int) (fun n v => spec_allTypes_L1 p0 p1 n v = some o5) (fun i4 => ⟨20, envL [(0, (ls eRDecl p0)), (1, (ls eI p1)), (5, (i64 i4))], []⟩) N 0 h1 (Wk.tr rfl) (fun _ hv => by rw [spec_allTypes_L1] at hv; cases hv) ?_)
 rintro n i4 h1
 try dsimp only at h1 ⊢
 rw [spec_allTypes_L1] at h1
 refine AW.seq fun K7 hK7 => sr rfl fun K8 hK8 => zm tb 2 rfl (zl tb rfl rfl (zq tb rfl (dn hK8 rfl ?_)))
 refine ci h1 rfl ?_ ?_ <;> clear h1
 ·intro b9 h1
  refine AW.skip (hK7 _ (AW.seq fun K10 hK10 => AW.block (sr rfl fun K11 hK11 => zm tb 2 rfl (bs h1 fun c12 gc12 h1 => zx ei27 gc12 rfl rfl rfl (zm tb 2 rfl (zl tb rfl rfl (bs h1 fun q13 gq13 h1 => zc hb16 (spec_inRange_ok gq13) rfl rfl rfl (zq tb rfl ?_))))))))
  refine dn hK11 rfl ?_
  refine ci h1 rfl ?_ ?_ <;> clear h1
  ·intro b14 h1
   have b15 : q13 = false := by simpa using b14
   refine zr tb rfl rfl ?_
   replace h1 := Sh.some_eq h1
   subst o5
   try dsimp only [id] at h0
   replace h0 := Sh.some_eq h0
   subst r
   exact AW.ret (xr (Wk.to (L := [(4, (.bool false))]) ⟨.rfl, trivial⟩))
  ·intro b14 h1
   have b17 : q13 = true := by simpa using b14
   exact AW.skip (hK10 _ (AW.regionO rfl (zm tb 3 rfl (AO.done (xi (Sh.w (i4 + 1)) h1 (Wk.tr rfl))))))
 ·intro b9 h1
  exact AW.exit (M5 () (Sh.some_eq h1).symm _ (Wk.tr rfl))
theorem spec_validDecl_ok {N : Nat} {p0 : (List RDecl)} {p1 : Int} {r : Bool} (h0 : spec_validDecl N p0 p1 = some r) : ACalls Try.prog 74 [(ls eRDecl p0), (i64 p1)] [] (fun v st => v = (.bool r) ∧ st = []) := by
 unfold spec_validDecl at h0
 refine ai Try.func74 rfl rfl rfl rfl (zr tb rfl rfl (sr rfl fun K2 hK2 => zm tb 2 rfl (bs h0 fun c3 gc3 h0 => zx ei34 gc3 rfl rfl rfl (zq tb rfl (ao_alloc (m := 0) (st' := [⟨0, 83, 3, [[(i64 0), (i64 0), .zc]]⟩]) go0 zi83 rfl rfl (ao_str (st' := [⟨0, 83, 3, [(eRDecl c3)]⟩]) go0 ti83 rfl rfl rfl rfl rfl rfl (show 0 + 3 ≤ 3 by decide) rfl (dn hK2 rfl (AW.seq fun K4 hK4 => sr rfl fun K5 hK5 => ?_))))))))
 refine zm tb 2 rfl (zl tb rfl rfl (zq tb rfl (dn hK5 rfl ?_)))
 refine ci h0 rfl ?_ ?_ <;> clear h0
 ·intro b6 h0
  refine AW.seq fun K7 hK7 => AW.seq fun K8 hK8 => bs h0 fun o10 h1 h0 => ?_
  have M10 : ∀ (t9 : Bool), o10 = t9 → ∀ s, Wk 0 s ⟨100, envL [(0, (ls eRDecl p0)), (5, (.ptr 0 0 0 0)), (29, (.bool t9))], [⟨0, 83, 3, [(eRDecl c3)]⟩]⟩ → K8 s := by
   intro t9 hq s hw
   subst o10
   try dsimp only at h0
   refine hK8 _ (AW.weaken hw ?_)
   refine ci h0 rfl ?_ ?_ <;> clear h0
   ·intro b11 h0
    refine zr tb rfl rfl ?_
    replace h0 := Sh.some_eq h0
    subst r
    exact AW.ret (xr (Wk.d0 [(4, (.bool false))] rfl))
   ·intro b11 h0
    refine AW.skip (hK7 _ (AW.seq fun K13 hK13 => zr tb rfl rfl ?_))
    obtain ⟨o16, h1, h0⟩ := Sh.cont_some h0
    have M16 : ∀ (_ : Unit), o16 = Sum.inr () → ∀ s, Wk 0 s ⟨100, envL [], []⟩ → K13 s := by
     intro _ hq s hw
     subst o16
     try dsimp only at h0
     refine hK13 _ (AW.weaken hw (zr tb rfl rfl ?_))
     replace h0 := Sh.some_eq h0
     subst r
     exact AW.ret (xr (Wk.to (L := [(4, (.bool true))]) ⟨.rfl, trivial⟩))
    refine AW.block (AW.loopF (σ := Int) (fun n v => spec_validDecl_L1 N c3 p0 n v = some o16) (fun i15 => ⟨100, envL [(0, (ls eRDecl p0)), (5, (.ptr 0 0 0 0)), (6, (i64 i15))], [⟨0, 83, 3, [(eRDecl c3)]⟩]⟩) N 0 h1 (Wk.tr rfl) (fun _ hv => by rw [spec_validDecl_L1] at hv; cases hv) ?_)
    rintro n i15 h1
    try dsimp only at h1 ⊢
    rw [spec_validDecl_L1] at h1
    refine AW.seq fun K18 hK18 => sr rfl fun K19 hK19 => zm tb 3 rfl (zl tb rfl rfl (zq tb rfl (dn hK19 rfl ?_)))
    refine ci h1 rfl ?_ ?_ <;> clear h1
    ·intro b20 h1
     refine AW.skip (hK18 _ (AW.seq fun K21 hK21 => AW.block (AW.seq fun K22 hK22 => bs h1 fun o24 h2 h1 => ?_)))
     have M24 : ∀ (t23 : Bool), o24 = t23 → ∀ s, Wk 0 s ⟨100, envL [(0, (ls eRDecl p0)), (5, (.ptr 0 0 0 0)), (6, (i64 i15)), (55, (.bool t23))], [⟨0, 83, 3, [(eRDecl c3)]⟩]⟩ → K22 s := by
      intro t23 hq s hw
      subst o24
      try dsimp only at h1
      refine hK22 _ (AW.weaken hw ?_)
      refine ci h1 rfl ?_ ?_ <;> clear h1
      ·intro b25 h1
       refine zr tb rfl rfl ?_
       replace h1 := Sh.some_eq h1
       subst o16
       try dsimp only [id] at h0
       replace h0 := Sh.some_eq h0
       subst r
       exact AW.ret (xr (Wk.d0 [(4, (.bool false))] rfl))
      ·intro b25 h1
       exact AW.skip (hK21 _ (AW.regionO rfl (zm tb 3 rfl (AO.done (xi (Sh.w (i15 + 1)) h1 (Wk.tr rfl))))))
     refine AW.regionO rfl (zm tb 3 rfl (bs h2 fun c27 gc27 h2 => zx ei81 gc27 rfl rfl rfl (zm tb 2 rfl (zl tb rfl rfl (zm tb 2 rfl ?_)))))
     rcases Sh.ite_some h2 with ⟨b28, h2⟩ | ⟨b28, h2⟩
     ·refine zs b28 rfl ?_
      iterate 8 refine zs b28 rfl ?_
      exact zt b28 rfl (AO.done (M24 true (Sh.some_eq h2).symm _ (Wk.tr rfl)))
     ·refine zg tb b28 rfl ?_
      iterate 3 refine zg tb b28 rfl ?_
      exact ao_q (v := (.iptr (eRCon c27) 0)) (go1 rfl rfl b28) rfl (aq_ixs ei81 rfl rfl gc27 rfl) (zg tb b28 rfl (zg tb b28 rfl (bs h2 fun q29 gq29 h2 => zd b28 hb56 (spec_allTypes_ok gq29) rfl rfl rfl rfl (zg tb b28 rfl (zf b28 rfl (AO.done (M24 (!q29) (Sh.some_eq h2).symm _ (Wk.tr rfl))))))))
    ·intro b20 h1
     exact AW.exit (M16 () (Sh.some_eq h1).symm _ (Wk.d0 _ rfl))
  refine AW.regionO rfl (zm tb 2 rfl (zl tb rfl rfl (zm tb 2 rfl ?_)))
  rcases Sh.ite_some h1 with ⟨b30, h1⟩ | ⟨b30, h1⟩
  ·refine zs b30 rfl (zs b30 rfl (zs b30 rfl (zt b30 rfl (zq tb rfl ?_))))
   iterate 3 refine zs rfl rfl ?_
   exact zt rfl rfl (AO.done (M10 true (Sh.some_eq h1).symm _ (Wk.tr rfl)))
  ·refine zg tb b30 rfl (zg tb b30 rfl (zg tb b30 rfl (zf b30 rfl (zq tb rfl ?_))))
   rcases Sh.ite_some h1 with ⟨b31, h1⟩ | ⟨b31, h1⟩
   ·exact zs b31 rfl (zs b31 rfl (zs b31 rfl (zt b31 rfl (AO.done (M10 true (Sh.some_eq h1).symm _ (Wk.tr rfl))))))
   ·exact zg tb b31 rfl (zg tb b31 rfl (zg tb b31 rfl (zf b31 rfl (AO.done (M10 (!decide (c3.to = 0)) (Sh.some_eq h1).symm _ (Wk.tr rfl))))))
 ·intro b6 h0
  refine AW.skip (hK4 _ (AW.seq fun K32 hK32 => zr tb rfl rfl ?_))
  obtain ⟨o35, h1, h0⟩ := Sh.cont_some h0
  have M35 : ∀ (_ : Unit), o35 = Sum.inr () → ∀ s, Wk 0 s ⟨100, envL [(0, (ls eRDecl p0)), (5, (.ptr 0 0 0 0))], [⟨0, 83, 3, [(eRDecl c3)]⟩]⟩ → K32 s := by
   intro _ hq s hw
   subst o35
   try dsimp only at h0
   refine hK32 _ (AW.weaken hw (AW.seq fun K36 hK36 => bs h0 fun o38 h1 h0 => ?_))
   have M38 : ∀ (t37 : Bool), o38 = t37 → ∀ s, Wk 0 s ⟨100, envL [(4, (.bool t37))], []⟩ → K36 s := by
    intro t37 hq s hw
    subst o38
    try dsimp only at h0
    refine hK36 _ (AW.weaken hw ?_)
    replace h0 := Sh.some_eq h0
    subst r
    exact AW.ret (xr (Wk.to (L := [(4, (.bool t37))]) ⟨.rfl, trivial⟩))
   refine AW.regionO rfl (zm tb 3 rfl (zl tb rfl rfl (bs h1 fun q39 gq39 h1 => zc hb16 (spec_inRange_ok gq39) rfl rfl rfl (zq tb rfl ?_))))
   rcases Sh.ite_some h1 with ⟨b40, h1⟩ | ⟨b40, h1⟩
   ·exact zg tb b40 rfl (zg tb b40 rfl (zg tb b40 rfl (ao_q (v := (i64 (Sh.len p0))) (go1 rfl rfl b40) rfl (aq_lens sl34 rfl) (bs h1 fun q41 gq41 h1 => zd b40 hb16 (spec_inRange_ok gq41) rfl rfl rfl rfl (zt b40 rfl (zq tb rfl (AO.done (M38 q41 (Sh.some_eq h1).symm _ (Wk.d0 _ rfl)))))))))
   ·refine zs b40 rfl ?_
    iterate 4 refine zs b40 rfl ?_
    exact zf b40 rfl (zq tb rfl (AO.done (M38 false (Sh.some_eq h1).symm _ (Wk.d0 _ rfl))))
  refine AW.block (AW.loopF (σ := Int) (fun n v => spec_validDecl_L2 c3 p0 p1 n v = some o35) (fun i34 => ⟨100, envL [(0, (ls eRDecl p0)), (1, (i64 p1)), (5, (.ptr 0 0 0 0)), (7, (i64 i34))], [⟨0, 83, 3, [(eRDecl c3)]⟩]⟩) N 0 h1 (Wk.tr rfl) (fun _ hv => by rw [spec_validDecl_L2] at hv; cases hv) ?_)
  rintro n i34 h1
  try dsimp only at h1 ⊢
  rw [spec_validDecl_L2] at h1
  refine AW.seq fun K42 hK42 => zr tb rfl rfl ?_
  refine ci h1 rfl ?_ ?_ <;> clear h1
  ·intro b44 h1
   refine AW.skip (hK42 _ (AW.seq fun K45 hK45 => AW.block (AW.seq fun K46 hK46 => bs h1 fun o48 h2 h1 => ?_)))
   have M48 : ∀ (t47 : Bool), o48 = t47 → ∀ s, Wk 0 s ⟨100, envL [(0, (ls eRDecl p0)), (1, (i64 p1)), (5, (.ptr 0 0 0 0)), (7, (i64 i34)), (87, (.bool t47))], [⟨0, 83, 3, [(eRDecl c3)]⟩]⟩ → K46 s := by
    intro t47 hq s hw
    subst o48
    try dsimp only at h1
    refine hK46 _ (AW.weaken hw ?_)
    refine ci h1 rfl ?_ ?_ <;> clear h1
    ·intro b49 h1
     refine zr tb rfl rfl ?_
     replace h1 := Sh.some_eq h1
     subst o35
     try dsimp only [id] at h0
     replace h0 := Sh.some_eq h0
     subst r
     exact AW.ret (xr (Wk.d0 [(4, (.bool false))] rfl))
    ·intro b49 h1
     exact AW.skip (hK45 _ (AW.regionO rfl (zm tb 3 rfl (AO.done (xi (Sh.w (i34 + 1)) h1 (Wk.tr rfl))))))
   refine AW.draw (by kernel_rfl) (by kernel_rfl) (by rfl) ?_
   iterate 2 refine yq tb rfl ?_
   refine bs h2 fun c51 gc51 h2 => yx ei34 gc51 rfl rfl rfl ?_
   iterate 2 refine yq tb rfl ?_
   refine yl tb rfl rfl ?_
   iterate 2 refine yq tb rfl ?_
   rcases Sh.ite_some h2 with ⟨b52, h2⟩ | ⟨b52, h2⟩
   ·refine yg tb b52 rfl (yg tb b52 rfl (d_q (v := (.iptr (eRDecl c51) 0)) (go1 rfl rfl b52) rfl (aq_ixs ei34 rfl rfl gc51 rfl) ?_))
    iterate 5 refine yg tb b52 rfl ?_
    refine yt b52 rfl (yq tb rfl ?_)
    rcases Sh.ite_some h2 with ⟨b53, h2⟩ | ⟨b53, h2⟩
    ·refine yg tb b53 rfl (yg tb b53 rfl (d_q (v := (.iptr (eRDecl c51) 0)) (go1 rfl rfl b53) rfl (aq_ixs ei34 rfl rfl gc51 rfl) ?_))
     iterate 5 refine yg tb b53 rfl ?_
     exact yt b53 rfl (d_done (M48 (decide (c51.to = c3.to)) (Sh.some_eq h2).symm _ (Wk.tr rfl)))
    ·refine ys b53 rfl ?_
     iterate 7 refine ys b53 rfl ?_
     exact yf b53 rfl (d_done (M48 false (Sh.some_eq h2).symm _ (Wk.tr rfl)))
   ·refine ys b52 rfl ?_
    iterate 7 refine ys b52 rfl ?_
    refine yf b52 rfl (yq tb rfl ?_)
    iterate 8 refine ys rfl rfl ?_
    exact yf rfl rfl (d_done (M48 false (Sh.some_eq h2).symm _ (Wk.tr rfl)))
  ·intro b44 h1
   exact AW.exit (M35 () (Sh.some_eq h1).symm _ (Wk.tr rfl))
theorem spec_validTypes_ok {N : Nat} {p0 : (List RDecl)} {r : Bool} (h0 : spec_validTypes N p0 = some r) : ACalls Try.prog 55 [(ls eRDecl p0)] [] (fun v st => v = (.bool r) ∧ st = []) := by
 unfold spec_validTypes at h0
 refine ai Try.func55 rfl rfl rfl rfl (zr tb rfl rfl (AW.seq fun K2 hK2 => sr rfl fun K3 hK3 => zq tb rfl (zl tb rfl rfl (zq tb rfl (dn hK3 rfl ?_)))))
 refine ci h0 rfl ?_ ?_ <;> clear h0
 ·intro b4 h0
  refine zr tb rfl rfl ?_
  replace h0 := Sh.some_eq h0
  subst r
  exact AW.ret (xr (Wk.to (L := [(2, (.bool false))]) ⟨.rfl, trivial⟩))
 ·intro b4 h0
  refine AW.skip (hK2 _ (AW.seq fun K6 hK6 => zr tb rfl rfl ?_))
  obtain ⟨o9, h1, h0⟩ := Sh.cont_some h0
  have M9 : ∀ (_ : Unit), o9 = Sum.inr () → ∀ s, Wk 0 s ⟨17, envL [], []⟩ → K6 s := by
   intro _ hq s hw
   subst o9
   try dsimp only at h0
   refine hK6 _ (AW.weaken hw (zr tb rfl rfl ?_))
   replace h0 := Sh.some_eq h0
   subst r
   exact AW.ret (xr (Wk.to (L := [(2, (.bool true))]) ⟨.rfl, trivial⟩))
  refine AW.block (AW.loopF (σ := Int) (fun n v => spec_validTypes_L1 N p0 n v = some o9) (fun i8 => ⟨17, envL [(0, (ls eRDecl p0)), (3, (i64 i8))], []⟩) N 0 h1 (Wk.tr rfl) (fun _ hv => by rw [spec_validTypes_L1] at hv; cases hv) ?_)
  rintro n i8 h1
  try dsimp only at h1 ⊢
  rw [spec_validTypes_L1] at h1
  refine AW.seq fun K11 hK11 => sr rfl fun K12 hK12 => zm tb 2 rfl (zl tb rfl rfl (zq tb rfl (dn hK12 rfl ?_)))
  refine ci h1 rfl ?_ ?_ <;> clear h1
  ·intro b13 h1
   refine AW.skip (hK11 _ (AW.seq fun K14 hK14 => AW.block (sr rfl fun K15 hK15 => zm tb 2 rfl (bs h1 fun q16 gq16 h1 => zc hb74 (spec_validDecl_ok gq16) rfl rfl rfl (zq tb rfl (dn hK15 rfl ?_))))))
   refine ci h1 rfl ?_ ?_ <;> clear h1
   ·intro b17 h1
    have b18 : q16 = false := by simpa using b17
    refine zr tb rfl rfl ?_
    replace h1 := Sh.some_eq h1
    subst o9
    try dsimp only [id] at h0
    replace h0 := Sh.some_eq h0
    subst r
    exact AW.ret (xr (Wk.to (L := [(2, (.bool false))]) ⟨.rfl, trivial⟩))
   ·intro b17 h1
    have b20 : q16 = true := by simpa using b17
    exact AW.skip (hK14 _ (AW.regionO rfl (zm tb 3 rfl (AO.done (xi (Sh.w (i8 + 1)) h1 (Wk.tr rfl))))))
  ·intro b13 h1
   exact AW.exit (M9 () (Sh.some_eq h1).symm _ (Wk.tr rfl))
theorem spec_validSigs_ok {N : Nat} {p0 : RProgram} {r : Bool} (h0 : spec_validSigs N p0 = some r) : ACalls Try.prog 37 [(.agg [(ls eRDecl p0.decls), (ls eRFunc p0.funcs)])] [] (fun v st => v = (.bool r) ∧ st = []) := by
 unfold spec_validSigs at h0
 refine ai Try.func37 rfl rfl rfl rfl (sr rfl fun K1 hK1 => ao_box (m := 0) (st' := [⟨0, 72, 2, [[(ls eRDecl p0.decls), (ls eRFunc p0.funcs)]]⟩]) go0 rfl rfl rfl rfl rfl (zq tb rfl (dn hK1 rfl (AW.seq fun K2 hK2 => AW.seq fun K3 hK3 => bs h0 fun o5 h1 h0 => ?_))))
 have M5 : ∀ (t4 : Bool), o5 = t4 → ∀ s, Wk 0 s ⟨64, envL [(1, (.ptr 0 0 0 0)), (15, (.bool t4))], [⟨0, 72, 2, [[(ls eRDecl p0.decls), (ls eRFunc p0.funcs)]]⟩]⟩ → K3 s := by
  intro t4 hq s hw
  subst o5
  try dsimp only at h0
  refine hK3 _ (AW.weaken hw ?_)
  refine ci h0 rfl ?_ ?_ <;> clear h0
  ·intro b6 h0
   refine zr tb rfl rfl ?_
   replace h0 := Sh.some_eq h0
   subst r
   exact AW.ret (xr (Wk.d0 [(2, (.bool false))] rfl))
  ·intro b6 h0
   refine AW.skip (hK2 _ (AW.seq fun K8 hK8 => zr tb rfl rfl ?_))
   obtain ⟨o11, h1, h0⟩ := Sh.cont_some h0
   have M11 : ∀ (_ : Unit), o11 = Sum.inr () → ∀ s, Wk 0 s ⟨64, envL [(1, (.ptr 0 0 0 0))], [⟨0, 72, 2, [[(ls eRDecl p0.decls), (ls eRFunc p0.funcs)]]⟩]⟩ → K8 s := by
    intro _ hq s hw
    subst o11
    try dsimp only at h0
    refine hK8 _ (AW.weaken hw (AW.seq fun K12 hK12 => bs h0 fun o14 h1 h0 => ?_))
    have M14 : ∀ (t13 : Bool), o14 = t13 → ∀ s, Wk 0 s ⟨64, envL [(2, (.bool t13))], []⟩ → K12 s := by
     intro t13 hq s hw
     subst o14
     try dsimp only at h0
     refine hK12 _ (AW.weaken hw ?_)
     replace h0 := Sh.some_eq h0
     subst r
     exact AW.ret (xr (Wk.to (L := [(2, (.bool t13))]) ⟨.rfl, trivial⟩))
    refine AW.regionO rfl (zm tb 2 rfl (bs h1 fun c15 gc15 h1 => zx ei70 gc15 rfl rfl rfl (zm tb 2 rfl (zl tb rfl rfl (zm tb 2 rfl ?_)))))
    rcases Sh.ite_some h1 with ⟨b16, h1⟩ | ⟨b16, h1⟩
    ·refine zg tb b16 rfl (zg tb b16 rfl (ao_q (v := (.iptr (eRFunc c15) 0)) (go1 rfl rfl b16) rfl (aq_ixs ei70 rfl rfl gc15 rfl) ?_))
     iterate 3 refine zg tb b16 rfl ?_
     exact zt b16 rfl (zq tb rfl (AO.done (M14 (decide (c15.result = 0)) (Sh.some_eq h1).symm _ (Wk.d0 _ rfl))))
    ·refine zs b16 rfl ?_
     iterate 5 refine zs b16 rfl ?_
     exact zf b16 rfl (zq tb rfl (AO.done (M14 false (Sh.some_eq h1).symm _ (Wk.d0 _ rfl))))
   refine AW.block (AW.loopF (σ := Int) (fun n v => spec_validSigs_L1 N p0 n v = some o11) (fun i10 => ⟨64, envL [(1, (.ptr 0 0 0 0)), (3, (i64 i10))], [⟨0, 72, 2, [[(ls eRDecl p0.decls), (ls eRFunc p0.funcs)]]⟩]⟩) N 0 h1 (Wk.tr rfl) (fun _ hv => by rw [spec_validSigs_L1] at hv; cases hv) ?_)
   rintro n i10 h1
   try dsimp only at h1 ⊢
   rw [spec_validSigs_L1] at h1
   refine AW.seq fun K17 hK17 => sr rfl fun K18 hK18 => zm tb 3 rfl (zl tb rfl rfl (zq tb rfl (dn hK18 rfl ?_)))
   refine ci h1 rfl ?_ ?_ <;> clear h1
   ·intro b19 h1
    refine AW.skip (hK17 _ (AW.seq fun K20 hK20 => AW.block (sr rfl fun K21 hK21 => zm tb 3 rfl (bs h1 fun c22 gc22 h1 => zx ei70 gc22 rfl rfl rfl (zq tb rfl (ao_alloc (m := 1) (st' := [⟨0, 72, 2, [[(ls eRDecl p0.decls), (ls eRFunc p0.funcs)]]⟩, ⟨0, 110, 5, [[.zc, (i64 0), (i64 0), (i64 0), .zc]]⟩]) go0 zi110 rfl rfl (ao_str (st' := [⟨0, 72, 2, [[(ls eRDecl p0.decls), (ls eRFunc p0.funcs)]]⟩, ⟨0, 110, 5, [[(ls eI c22.params), (i64 c22.result), (i64 c22.body.op), (i64 c22.body.num), (ls eRExpr c22.body.kids)]]⟩]) go0 ti110 rfl rfl rfl rfl rfl rfl (show 0 + 5 ≤ 5 by decide) rfl (dn hK21 rfl (AW.seq fun K23 hK23 => ?_)))))))))
    refine bs h1 fun o25 h2 h1 => ?_
    have M25 : ∀ (t24 : Bool), o25 = t24 → ∀ s, Wk 0 s ⟨64, envL [(1, (.ptr 0 0 0 0)), (3, (i64 i10)), (48, (.bool t24))], [⟨0, 72, 2, [[(ls eRDecl p0.decls), (ls eRFunc p0.funcs)]]⟩]⟩ → K23 s := by
     intro t24 hq s hw
     subst o25
     try dsimp only at h1
     refine hK23 _ (AW.weaken hw ?_)
     refine ci h1 rfl ?_ ?_ <;> clear h1
     ·intro b26 h1
      refine zr tb rfl rfl ?_
      replace h1 := Sh.some_eq h1
      subst o11
      try dsimp only [id] at h0
      replace h0 := Sh.some_eq h0
      subst r
      exact AW.ret (xr (Wk.d0 [(2, (.bool false))] rfl))
     ·intro b26 h1
      exact AW.skip (hK20 _ (AW.regionO rfl (zm tb 3 rfl (AO.done (xi (Sh.w (i10 + 1)) h1 (Wk.tr rfl))))))
    refine AW.regionO rfl (zm tb 2 rfl (zl tb rfl rfl (zm tb 2 rfl ?_)))
    rcases Sh.ite_some h2 with ⟨b28, h2⟩ | ⟨b28, h2⟩
    ·refine zs b28 rfl ?_
     iterate 5 refine zs b28 rfl ?_
     refine zt b28 rfl (zq tb rfl ?_)
     iterate 7 refine zs rfl rfl ?_
     refine zt rfl rfl ?_
     exact AO.done (M25 true (Sh.some_eq h2).symm _ (Wk.permk (L := [(1, (.ptr 0 0 0 0)), (3, (i64 i10)), (48, (.bool true))]) (st' := [⟨0, 72, 2, [[(ls eRDecl p0.decls), (ls eRFunc p0.funcs)]]⟩]) (st1 := [⟨0, 72, 2, [[(ls eRDecl p0.decls), (ls eRFunc p0.funcs)]]⟩]) [0] rfl .nil (by decide) rfl rfl (.raw rfl rfl .nil) ⟨.rfl, .rfl, .rfl, trivial⟩))
    ·refine zg tb b28 rfl ?_
     iterate 3 refine zg tb b28 rfl ?_
     refine bs h2 fun q29 gq29 h2 => zd b28 hb56 (spec_allTypes_ok gq29) rfl rfl rfl rfl (zg tb b28 rfl (zf b28 rfl (zq tb rfl ?_)))
     rcases Sh.ite_some h2 with ⟨b30, h2⟩ | ⟨b30, h2⟩
     ·refine zs b30 rfl ?_
      iterate 6 refine zs b30 rfl ?_
      refine zt b30 rfl ?_
      exact AO.done (M25 true (Sh.some_eq h2).symm _ (Wk.permk (L := [(1, (.ptr 0 0 0 0)), (3, (i64 i10)), (48, (.bool true))]) (st' := [⟨0, 72, 2, [[(ls eRDecl p0.decls), (ls eRFunc p0.funcs)]]⟩]) (st1 := [⟨0, 72, 2, [[(ls eRDecl p0.decls), (ls eRFunc p0.funcs)]]⟩]) [0] rfl .nil (by decide) rfl rfl (.raw rfl rfl .nil) ⟨.rfl, .rfl, .rfl, trivial⟩))
     ·refine zg tb b30 rfl ?_
      iterate 3 refine zg tb b30 rfl ?_
      refine ao_q (v := (i64 (Sh.len p0.decls))) (go1 rfl rfl b30) rfl (aq_lens sl34 rfl) (bs h2 fun q31 gq31 h2 => zd b30 hb16 (spec_inRange_ok gq31) rfl rfl rfl rfl (zg tb b30 rfl (zf b30 rfl ?_)))
      exact AO.done (M25 (!q31) (Sh.some_eq h2).symm _ (Wk.permk (L := [(1, (.ptr 0 0 0 0)), (3, (i64 i10)), (48, (.bool (!q31)))]) (st' := [⟨0, 72, 2, [[(ls eRDecl p0.decls), (ls eRFunc p0.funcs)]]⟩]) (st1 := [⟨0, 72, 2, [[(ls eRDecl p0.decls), (ls eRFunc p0.funcs)]]⟩]) [0] rfl .nil (by decide) rfl rfl (.raw rfl rfl .nil) ⟨.rfl, .rfl, .rfl, trivial⟩))
   ·intro b19 h1
    exact AW.exit (M11 () (Sh.some_eq h1).symm _ (Wk.tr rfl))
 refine AW.regionO rfl (zm tb 2 rfl (bs h1 fun q32 gq32 h1 => zc hb55 (spec_validTypes_ok gq32) rfl rfl rfl (zm tb 2 rfl ?_)))
 rcases Sh.ite_some h1 with ⟨b33, h1⟩ | ⟨b33, h1⟩
 ·refine zs b33 rfl ?_
  iterate 4 refine zs b33 rfl ?_
  exact zt b33 rfl (AO.done (M5 true (Sh.some_eq h1).symm _ (Wk.tr rfl)))
 ·exact zg tb b33 rfl (zg tb b33 rfl (ao_q (v := (i64 (Sh.len p0.funcs))) (go1 rfl rfl b33) rfl (aq_lens sl70 rfl) (bs h1 fun q34 gq34 h1 => zd b33 hb16 (spec_inRange_ok gq34) rfl rfl rfl rfl (zg tb b33 rfl (zf b33 rfl (AO.done (M5 (!q34) (Sh.some_eq h1).symm _ (Wk.tr rfl))))))))
theorem spec_validLent_ok {N : Nat} {p0 : (List Int)} {p1 : (List Int)} {r : Bool} (h0 : spec_validLent N p0 p1 = some r) : ACalls Try.prog 57 [(ls eI p0), (ls eI p1)] [] (fun v st => v = (.bool r) ∧ st = []) := by
 unfold spec_validLent at h0
 refine ai Try.func57 rfl rfl rfl rfl (zr tb rfl rfl (AW.seq fun K2 hK2 => zr tb rfl rfl ?_))
 obtain ⟨o5, h1, h0⟩ := Sh.cont_some h0
 have M5 : ∀ (_ : Unit), o5 = Sum.inr () → ∀ s, Wk 0 s ⟨47, envL [], []⟩ → K2 s := by
  intro _ hq s hw
  subst o5
  try dsimp only at h0
  refine hK2 _ (AW.weaken hw (zr tb rfl rfl ?_))
  replace h0 := Sh.some_eq h0
  subst r
  exact AW.ret (xr (Wk.to (L := [(4, (.bool true))]) ⟨.rfl, trivial⟩))
 refine AW.block (AW.loopF (σ := Int) (fun n v => spec_validLent_L1 p0 p1 n v = some o5) (fun i4 => ⟨47, envL [(0, (ls eI p0)), (1, (ls eI p1)), (5, (i64 i4))], []⟩) N 0 h1 (Wk.tr rfl) (fun _ hv => by rw [spec_validLent_L1] at hv; cases hv) ?_)
 rintro n i4 h1
 try dsimp only at h1 ⊢
 rw [spec_validLent_L1] at h1
 refine AW.seq fun K7 hK7 => sr rfl fun K8 hK8 => zm tb 2 rfl (zl tb rfl rfl (zq tb rfl (dn hK8 rfl ?_)))
 refine ci h1 rfl ?_ ?_ <;> clear h1
 ·intro b9 h1
  refine AW.skip (hK7 _ (AW.seq fun K10 hK10 => AW.block (AW.seq fun K11 hK11 => bs h1 fun o13 h2 h1 => ?_)))
  have M13 : ∀ (t12 : Bool), o13 = t12 → ∀ s, Wk 0 s ⟨47, envL [(0, (ls eI p0)), (1, (ls eI p1)), (5, (i64 i4)), (46, (.bool t12))], []⟩ → K11 s := by
   intro t12 hq s hw
   subst o13
   try dsimp only at h1
   refine hK11 _ (AW.weaken hw ?_)
   refine ci h1 rfl ?_ ?_ <;> clear h1
   ·intro b14 h1
    refine zr tb rfl rfl ?_
    replace h1 := Sh.some_eq h1
    subst o5
    try dsimp only [id] at h0
    replace h0 := Sh.some_eq h0
    subst r
    exact AW.ret (xr (Wk.to (L := [(4, (.bool false))]) ⟨.rfl, trivial⟩))
   ·intro b14 h1
    exact AW.skip (hK10 _ (AW.regionO rfl (zm tb 3 rfl (AO.done (xi (Sh.w (i4 + 1)) h1 (Wk.tr rfl))))))
  refine AW.draw (by kernel_rfl) (by kernel_rfl) (by rfl) ?_
  iterate 2 refine yq tb rfl ?_
  refine bs h2 fun c16 gc16 h2 => yx ei27 gc16 rfl rfl rfl ?_
  iterate 2 refine yq tb rfl ?_
  refine yl tb rfl rfl (yq tb rfl (bs h2 fun q17 gq17 h2 => d_call (v := (.bool q17)) go0 hb16 (spec_inRange_ok gq17) rfl rfl rfl ?_))
  iterate 2 refine yq tb rfl ?_
  rcases Sh.ite_some h2 with ⟨b18, h2⟩ | ⟨b18, h2⟩
  ·refine ys b18 rfl ?_
   iterate 7 refine ys b18 rfl ?_
   refine yt b18 rfl (yq tb rfl ?_)
   iterate 3 refine ys rfl rfl ?_
   iterate 10 refine yn rfl ?_
   exact ys rfl rfl (yt rfl rfl (d_done (M13 true (Sh.some_eq h2).symm _ (Wk.tr rfl))))
  ·refine yg tb b18 rfl ?_
   iterate 2 refine yg tb b18 rfl ?_
   refine d_q (v := (.iptr (eI c16) 0)) (go1 rfl rfl b18) rfl (aq_ixs ei27 rfl rfl gc16 rfl) (yg tb b18 rfl (bs h2 fun c19 gc19 h2 => d_q (v := (.iptr (eI c19) 0)) (go1 rfl rfl b18) rfl (aq_ixs ei27 rfl rfl gc19 rfl) ?_))
   iterate 2 refine yg tb b18 rfl ?_
   refine yf b18 rfl (yq tb rfl ?_)
   rcases Sh.ite_some h2 with ⟨b20, h2⟩ | ⟨b20, h2⟩
   ·refine ys b20 rfl ?_
    iterate 2 refine ys b20 rfl ?_
    iterate 10 refine yn rfl ?_
    exact ys b20 rfl (yt b20 rfl (d_done (M13 true (Sh.some_eq h2).symm _ (Wk.tr rfl))))
   ·refine yg tb b20 rfl ?_
    iterate 2 refine yg tb b20 rfl ?_
    rcases Sh.ite_some h2 with ⟨b21, h2⟩ | ⟨b21, h2⟩
    ·refine yg tb b21 rfl (yg tb b21 rfl (d_q (v := (.iptr (eI c16) 0)) (go1 rfl rfl b21) rfl (aq_ixs ei27 rfl rfl gc16 rfl) ?_))
     iterate 4 refine yg tb b21 rfl ?_
     refine bs h2 fun c22 gc22 h2 => d_q (v := (.iptr (eI c22) 0)) (go1 rfl rfl b21) rfl (aq_ixs ei27 rfl rfl gc22 rfl) ?_
     iterate 2 refine yg tb b21 rfl ?_
     exact d_q (v := (.bool (decide (c16 ≤ c22)))) (go1 rfl rfl b20) rfl (aq_pkt rfl b21 rfl) (yf b20 rfl (d_done (M13 (decide (c16 ≤ c22)) (Sh.some_eq h2).symm _ (Wk.tr rfl))))
    ·refine ys b21 rfl ?_
     iterate 9 refine ys b21 rfl ?_
     exact d_q (v := (.bool false)) (go1 rfl rfl b20) rfl (aq_pkf rfl b21 rfl) (yf b20 rfl (d_done (M13 false (Sh.some_eq h2).symm _ (Wk.tr rfl))))
 ·intro b9 h1
  exact AW.exit (M5 () (Sh.some_eq h1).symm _ (Wk.tr rfl))
theorem spec_defines_ok {p0 : Int} {r : Bool} (h0 : spec_defines p0 = some r) : ACalls Try.prog 92 [(i64 p0)] [] (fun v st => v = (.bool r) ∧ st = []) := by
 unfold spec_defines at h0
 refine ai Try.func92 rfl rfl rfl rfl (zr tb rfl rfl (sr rfl fun K2 hK2 => zq tb rfl (bs h0 fun q3 gq3 h0 => zc hb16 (spec_inRange_ok gq3) rfl rfl rfl (zq tb rfl (dn hK2 rfl ?_)))))
 replace h0 := Sh.some_eq h0
 subst r
 exact AW.ret (xr (Wk.to (L := [(2, (.bool q3))]) ⟨.rfl, trivial⟩))
theorem spec_sets_ok {p0 : Int} {r : Bool} (h0 : spec_sets p0 = some r) : ACalls Try.prog 75 [(i64 p0)] [] (fun v st => v = (.bool r) ∧ st = []) := by
 unfold spec_sets at h0
 refine ai Try.func75 rfl rfl rfl rfl (zr tb rfl rfl (AW.seq fun K2 hK2 => bs h0 fun o4 h1 h0 => ?_))
 have M4 : ∀ (t3 : Bool), o4 = t3 → ∀ s, Wk 0 s ⟨21, envL [(2, (.bool t3))], []⟩ → K2 s := by
  intro t3 hq s hw
  subst o4
  try dsimp only at h0
  refine hK2 _ (AW.weaken hw ?_)
  replace h0 := Sh.some_eq h0
  subst r
  exact AW.ret (xr (Wk.to (L := [(2, (.bool t3))]) ⟨.rfl, trivial⟩))
 refine AW.regionO rfl (zq tb rfl (bs h1 fun q5 gq5 h1 => zc hb92 (spec_defines_ok gq5) rfl rfl rfl (zq tb rfl ?_)))
 rcases Sh.ite_some h1 with ⟨b6, h1⟩ | ⟨b6, h1⟩
 ·refine zg tb b6 rfl (zg tb b6 rfl (zt b6 rfl (zq tb rfl ?_)))
  rcases Sh.ite_some h1 with ⟨b7, h1⟩ | ⟨b7, h1⟩
  ·refine zg tb b7 rfl (zg tb b7 rfl (zt b7 rfl (zq tb rfl ?_)))
   rcases Sh.ite_some h1 with ⟨b8, h1⟩ | ⟨b8, h1⟩
   ·exact zs b8 rfl (zs b8 rfl (zt b8 rfl (zq tb rfl (zs rfl rfl (zs rfl rfl (zt rfl rfl (zq tb rfl (AO.done (M4 true (Sh.some_eq h1).symm _ (Wk.tr rfl))))))))))
   ·refine zg tb b8 rfl (zg tb b8 rfl (zf b8 rfl (zq tb rfl ?_)))
    rcases Sh.ite_some h1 with ⟨b9, h1⟩ | ⟨b9, h1⟩
    ·exact zs b9 rfl (zs b9 rfl (zt b9 rfl (zq tb rfl (AO.done (M4 true (Sh.some_eq h1).symm _ (Wk.tr rfl))))))
    ·exact zg tb b9 rfl (zg tb b9 rfl (zf b9 rfl (zq tb rfl (AO.done (M4 (decide (p0 = 19)) (Sh.some_eq h1).symm _ (Wk.tr rfl))))))
  ·refine zs b7 rfl (zs b7 rfl (zf b7 rfl (zq tb rfl (zg tb rfl rfl (zg tb rfl rfl (zf rfl rfl (zq tb rfl ?_)))))))
   rcases Sh.ite_some h1 with ⟨b10, h1⟩ | ⟨b10, h1⟩
   ·exact zs b10 rfl (zs b10 rfl (zt b10 rfl (zq tb rfl (AO.done (M4 true (Sh.some_eq h1).symm _ (Wk.tr rfl))))))
   ·exact zg tb b10 rfl (zg tb b10 rfl (zf b10 rfl (zq tb rfl (AO.done (M4 (decide (p0 = 19)) (Sh.some_eq h1).symm _ (Wk.tr rfl))))))
 ·refine zs b6 rfl (zs b6 rfl (zf b6 rfl (zq tb rfl (zs rfl rfl (zs rfl rfl (zf rfl rfl (zq tb rfl (zg tb rfl rfl (zg tb rfl rfl (zf rfl rfl (zq tb rfl ?_)))))))))))
  rcases Sh.ite_some h1 with ⟨b11, h1⟩ | ⟨b11, h1⟩
  ·exact zs b11 rfl (zs b11 rfl (zt b11 rfl (zq tb rfl (AO.done (M4 true (Sh.some_eq h1).symm _ (Wk.tr rfl))))))
  ·exact zg tb b11 rfl (zg tb b11 rfl (zf b11 rfl (zq tb rfl (AO.done (M4 (decide (p0 = 19)) (Sh.some_eq h1).symm _ (Wk.tr rfl))))))
theorem spec_firstCon_ok {N : Nat} {p0 : (List RDecl)} {p1 : Int} {r : Int} (h0 : spec_firstCon N p0 p1 = some r) : ACalls Try.prog 93 [(ls eRDecl p0), (i64 p1)] [] (fun v st => v = (i64 r) ∧ st = []) := by
 unfold spec_firstCon at h0
 refine ai Try.func93 rfl rfl rfl rfl ?_
 iterate 2 refine zr tb rfl rfl ?_
 refine AW.seq fun K3 hK3 => zr tb rfl rfl (bs h0 fun o8 h1 h0 => ?_)
 have M8 : ∀ (n7 : Int), o8 = n7 → ∀ s, Wk 0 s ⟨21, envL [(5, (i64 n7))], []⟩ → K3 s := by
  intro n7 hq s hw
  subst o8
  try dsimp only at h0
  refine hK3 _ (AW.weaken hw (zr tb rfl rfl ?_))
  replace h0 := Sh.some_eq h0
  subst r
  exact AW.ret (xr (Wk.to (L := [(4, (i64 n7))]) ⟨.rfl, trivial⟩))
 refine AW.block (AW.loopF (σ := Int × Int) (fun n v => spec_firstCon_L1 p0 p1 n v.1 v.2 = some o8) (fun (n5, i6) => ⟨21, envL [(0, (ls eRDecl p0)), (1, (i64 p1)), (5, (i64 n5)), (6, (i64 i6))], []⟩) N (0, 0) h1 (Wk.tr rfl) (fun _ hv => by rw [spec_firstCon_L1] at hv; cases hv) ?_)
 rintro n ⟨n5, i6⟩ h1
 try dsimp only at h1 ⊢
 rw [spec_firstCon_L1] at h1
 refine AW.seq fun K10 hK10 => zr tb rfl rfl ?_
 refine ci h1 rfl ?_ ?_ <;> clear h1
 ·intro b12 h1
  refine AW.skip (hK10 _ (AW.seq fun K13 hK13 => AW.block (AW.regionO rfl (zm tb 3 rfl (bs h1 fun c14 gc14 h1 => zx ei34 gc14 rfl rfl rfl (zm tb 2 rfl (zl tb rfl rfl (zm tb 2 rfl (dn hK13 rfl (AW.regionO rfl ?_))))))))))
  exact zm tb 3 rfl (AO.done (xi (Sh.w (n5 + (Sh.len c14.cons)), Sh.w (i6 + 1)) h1 (Wk.tr rfl)))
 ·intro b12 h1
  exact AW.exit (M8 n5 (Sh.some_eq h1).symm _ (Wk.tr rfl))
theorem spec_conType_ok {N : Nat} {p0 : (List RDecl)} {p1 : Int} {r : Int} (h0 : spec_conType N p0 p1 = some r) : ACalls Try.prog 76 [(ls eRDecl p0), (i64 p1)] [] (fun v st => v = (i64 r) ∧ st = []) := by
 unfold spec_conType at h0
 refine ai Try.func76 rfl rfl rfl rfl (zr tb rfl rfl (AW.seq fun K2 hK2 => zr tb rfl rfl ?_))
 obtain ⟨o5, h1, h0⟩ := Sh.cont_some h0
 have M5 : ∀ (_ : Unit), o5 = Sum.inr () → ∀ s, Wk 0 s ⟨30, envL [], []⟩ → K2 s := by
  intro _ hq s hw
  subst o5
  try dsimp only at h0
  refine hK2 _ (AW.weaken hw (zr tb rfl rfl ?_))
  replace h0 := Sh.some_eq h0
  subst r
  exact AW.ret (xr (Wk.to (L := [(4, (i64 (-1)))]) ⟨.rfl, trivial⟩))
 refine AW.block (AW.loopF (σ := Int) (fun n v => spec_conType_L1 N p0 p1 n v = some o5) (fun i4 => ⟨30, envL [(0, (ls eRDecl p0)), (1, (i64 p1)), (5, (i64 i4))], []⟩) N 0 h1 (Wk.tr rfl) (fun _ hv => by rw [spec_conType_L1] at hv; cases hv) ?_)
 rintro n i4 h1
 try dsimp only at h1 ⊢
 rw [spec_conType_L1] at h1
 refine AW.seq fun K7 hK7 => sr rfl fun K8 hK8 => zm tb 2 rfl (zl tb rfl rfl (zq tb rfl (dn hK8 rfl ?_)))
 refine ci h1 rfl ?_ ?_ <;> clear h1
 ·intro b9 h1
  refine AW.skip (hK7 _ (AW.seq fun K10 hK10 => AW.block (sr rfl fun K11 hK11 => zm tb 2 rfl (bs h1 fun q12 gq12 h1 => zc hb93 (spec_firstCon_ok gq12) rfl rfl rfl (zq tb rfl (dn hK11 rfl (sr rfl fun K13 hK13 => zm tb 5 rfl (bs h1 fun c14 gc14 h1 => ?_))))))))
  refine zx ei34 gc14 rfl rfl rfl (zm tb 2 rfl (zl tb rfl rfl (zm tb 2 rfl (bs h1 fun q15 gq15 h1 => zc hb16 (spec_inRange_ok gq15) rfl rfl rfl (dn hK13 rfl ?_)))))
  refine ci h1 rfl ?_ ?_ <;> clear h1
  ·intro b16 h1
   refine zr tb rfl rfl ?_
   replace h1 := Sh.some_eq h1
   subst o5
   try dsimp only [id] at h0
   replace h0 := Sh.some_eq h0
   subst r
   exact AW.ret (xr (Wk.to (L := [(4, (i64 (Sh.w (i4 + 1))))]) ⟨.rfl, trivial⟩))
  ·intro b16 h1
   exact AW.skip (hK10 _ (AW.regionO rfl (zm tb 3 rfl (AO.done (xi (Sh.w (i4 + 1)) h1 (Wk.tr rfl))))))
 ·intro b9 h1
  exact AW.exit (M5 () (Sh.some_eq h1).symm _ (Wk.tr rfl))
theorem spec_conFields_ok {N : Nat} {p0 : (List RDecl)} {p1 : Int} {r : (List Int)} (h0 : spec_conFields N p0 p1 = some r) : ACalls Try.prog 77 [(ls eRDecl p0), (i64 p1)] [] (fun v st => v = (ls eI r) ∧ st = []) := by
 unfold spec_conFields at h0
 refine ai Try.func77 rfl rfl rfl rfl (zr tb rfl rfl (sr rfl fun K2 hK2 => zm tb 2 rfl (bs h0 fun q3 gq3 h0 => zc hb76 (spec_conType_ok gq3) rfl rfl rfl (zq tb rfl (dn hK2 rfl (AW.seq fun K4 hK4 => zr tb rfl rfl ?_))))))
 refine ci h0 rfl ?_ ?_ <;> clear h0
 ·intro b6 h0
  refine sr rfl fun K7 hK7 => ?_
  refine ao_bs (m := 0) (st' := [(ro 0 3 1 eI ([] : List Int))]) (l := ([] : List Int)) (enc := eI) go0 ei27 (by decide) rfl rfl rfl rfl rfl rfl ?_
  refine zq tb rfl (dn hK7 rfl ?_)
  replace h0 := Sh.some_eq h0
  subst r
  exact AW.ret (Exists.intro ⟨27, envL [(4, (.sl (List.map eI [])))], []⟩ (And.intro (by refine Wk.trans (Wk.frz (L := [(4, (.sl (List.map eI [])))]) (st' := [⟨1, 3, 1, []⟩]) (id := 0) rfl (show 0 ≤ 0 by decide) (pure_map fun _ => rfl) ⟨(.frz rfl), trivial⟩ rfl) ?_; refine Wk.trans (Wk.permk (L := [(4, (.sl (List.map eI [])))]) (st' := []) (st1 := []) [] rfl .nil (by decide) rfl rfl .nil ⟨.rfl, trivial⟩) ?_; exact Wk.to (L := [(4, (.sl (List.map eI [])))]) ⟨.rfl, trivial⟩) (And.intro rfl rfl)))
 ·intro b6 h0
  refine AW.skip (hK4 _ (AW.seq fun K8 hK8 => ?_))
  refine AW.draw (by kernel_rfl) (by kernel_rfl) (by rfl) ?_
  iterate 3 refine yq tb rfl ?_
  refine bs h0 fun c9 gc9 h0 => yx ei34 gc9 rfl rfl rfl ?_
  iterate 6 refine yq tb rfl ?_
  refine bs h0 fun q10 gq10 h0 => d_call (v := (i64 q10)) go0 hb93 (spec_firstCon_ok gq10) rfl rfl rfl (yq tb rfl (bs h0 fun c11 gc11 h0 => yx ei81 gc11 rfl rfl rfl ?_))
  iterate 3 refine yq tb rfl ?_
  refine d_done (hK8 _ ?_)
  replace h0 := Sh.some_eq h0
  subst r
  exact AW.ret (xr (Wk.to (L := [(4, (ls eI c11.fields))]) ⟨.rfl, trivial⟩))
theorem spec_procWith_ok {p0 : RImage} {p1 : Int} {p2 : Int} {p3 : Int} {r : Bool} (h0 : spec_procWith p0 p1 p2 p3 = some r) : ACalls Try.prog 78 [(.agg (eRImage p0)), (i64 p1), (i64 p2), (i64 p3)] [] (fun v st => v = (.bool r) ∧ st = []) := by
 unfold spec_procWith at h0
 refine ai Try.func78 rfl rfl rfl rfl (sr rfl fun K1 hK1 => ao_box (m := 0) (st' := [⟨0, 37, 2, [(eRImage p0)]⟩]) go0 rfl rfl rfl rfl rfl (zq tb rfl (dn hK1 rfl (AW.seq fun K2 hK2 => bs h0 fun o4 h1 h0 => ?_))))
 have M4 : ∀ (t3 : Bool), o4 = t3 → ∀ s, Wk 0 s ⟨28, envL [(8, (.bool t3))], []⟩ → K2 s := by
  intro t3 hq s hw
  subst o4
  try dsimp only at h0
  refine hK2 _ (AW.weaken hw ?_)
  replace h0 := Sh.some_eq h0
  subst r
  exact AW.ret (xr (Wk.to (L := [(8, (.bool t3))]) ⟨.rfl, trivial⟩))
 refine AW.regionO rfl (zm tb 3 rfl (zl tb rfl rfl (zq tb rfl (bs h1 fun q5 gq5 h1 => zc hb16 (spec_inRange_ok gq5) rfl rfl rfl (zq tb rfl ?_)))))
 rcases Sh.ite_some h1 with ⟨b6, h1⟩ | ⟨b6, h1⟩
 ·refine zg tb b6 rfl (zg tb b6 rfl (zg tb b6 rfl (bs h1 fun c7 gc7 h1 => ao_q (v := (.iptr (eRProc c7) 0)) (go1 rfl rfl b6) rfl (aq_ixs ei35 rfl rfl gc7 rfl) (zg tb b6 rfl (zg tb b6 rfl (ao_q (v := (i64 (Sh.len c7.params))) (go1 rfl rfl b6) rfl (aq_lens sl27 rfl) ?_))))))
  iterate 4 refine zg tb b6 rfl ?_
  exact zt b6 rfl (zq tb rfl (AO.done (M4 (decide ((Sh.len c7.params) = (Sh.w (p2 + p3)))) (Sh.some_eq h1).symm _ (Wk.d0 _ rfl))))
 ·refine zs b6 rfl ?_
  iterate 10 refine zs b6 rfl ?_
  exact zf b6 rfl (zq tb rfl (AO.done (M4 false (Sh.some_eq h1).symm _ (Wk.d0 _ rfl))))
theorem spec_consOf_ok {N : Nat} {p0 : (List RDecl)} {p1 : Int} {r : (List Int)} (h0 : spec_consOf N p0 p1 = some r) : ACalls Try.prog 79 [(ls eRDecl p0), (i64 p1)] [] (fun v st => v = (ow 0 0 r) ∧ st = [(ro 0 3 1 eI r)]) := by
 unfold spec_consOf at h0
 refine ai Try.func79 rfl rfl rfl rfl (zr tb rfl rfl (sr rfl fun K2 hK2 => ?_))
 refine ao_bs (m := 0) (st' := [(ro 0 3 1 eI ([] : List Int))]) (l := ([] : List Int)) (enc := eI) go0 ei27 (by decide) rfl rfl rfl rfl rfl rfl ?_
 refine zq tb rfl (dn hK2 rfl (AW.seq fun K3 hK3 => sr rfl fun K4 hK4 => zm tb 2 rfl (zl tb rfl rfl (bs h0 fun q5 gq5 h0 => zc hb16 (spec_inRange_ok gq5) rfl rfl rfl (zq tb rfl (dn hK4 rfl ?_))))))
 refine ci h0 rfl ?_ ?_ <;> clear h0
 ·intro b6 h0
  have b7 : q5 = false := by simpa using b6
  refine zr tb rfl rfl ?_
  replace h0 := Sh.some_eq h0
  subst r
  exact AW.ret (xr (Wk.to (L := [(4, (.own 0 0 (List.length ([] : List Int))))]) ⟨.rfl, trivial⟩))
 ·intro b6 h0
  have b9 : q5 = true := by simpa using b6
  refine AW.skip (hK3 _ (AW.seq fun K10 hK10 => zr tb rfl rfl (bs h0 fun o15 h1 h0 => ?_)))
  have M15 : ∀ (l14 : (List Int)), o15 = l14 → ∀ s, Wk 0 s ⟨35, envL [(5, (ow 0 0 l14))], [(ro 0 3 1 eI l14)]⟩ → K10 s := by
   intro l14 hq s hw
   subst o15
   try dsimp only at h0
   refine hK10 _ (AW.weaken hw (zr tb rfl rfl ?_))
   replace h0 := Sh.some_eq h0
   subst r
   exact AW.ret (xr (Wk.to (L := [(4, (ow 0 0 l14))]) ⟨.rfl, trivial⟩))
  refine AW.block (AW.loopF (σ := Int × (List Int)) (fun n v => spec_consOf_L1 N p0 p1 n v.1 v.2 = some o15) (fun (i12, l13) => ⟨35, envL [(0, (ls eRDecl p0)), (1, (i64 p1)), (5, (ow 0 0 l13)), (6, (i64 i12))], [(ro 0 3 1 eI l13)]⟩) N (0, []) h1 (Wk.tr rfl) (fun _ hv => by rw [spec_consOf_L1] at hv; cases hv) ?_)
  rintro n ⟨i12, l13⟩ h1
  try dsimp only at h1 ⊢
  rw [spec_consOf_L1] at h1
  refine AW.seq fun K17 hK17 => sr rfl fun K18 hK18 => zm tb 4 rfl (bs h1 fun c19 gc19 h1 => zx ei34 gc19 rfl rfl rfl (zm tb 2 rfl (zl tb rfl rfl (zq tb rfl (dn hK18 rfl ?_)))))
  refine ci h1 rfl ?_ ?_ <;> clear h1
  ·intro b20 h1
   refine AW.skip (hK17 _ (AW.seq fun K21 hK21 => AW.block (AW.regionO rfl (zm tb 4 rfl (bs h1 fun q22 gq22 h1 => zc hb93 (spec_firstCon_ok gq22) rfl rfl rfl (zm tb 2 rfl ?_))))))
   refine ao_bs (m := 1) (st' := [(ro 0 3 1 eI l13), (ro 0 3 1 eI [Sh.w (q22 + i12)])]) (l := [Sh.w (q22 + i12)]) (enc := eI) go0 ei27 (by decide) rfl rfl rfl rfl rfl rfl ?_
   refine bs h1 fun l23 gl23 h1 => ao_apo (st' := [(ro 1 3 1 eI l23), (ro 0 3 1 eI [Sh.w (q22 + i12)])]) (l2 := [Sh.w (q22 + i12)]) go0 ei27 rfl rfl rfl rfl (el_o rfl rfl) (fun _ => rfl) gl23 rfl (zq tb rfl (dn hK21 rfl (AW.regionO rfl (zm tb 3 rfl ?_))))
   exact AO.done (xi (Sh.w (i12 + 1), l23) h1 (by refine Wk.trans (Wk.rg (L := [(0, (ls eRDecl p0)), (1, (i64 p1)), (5, (ow 0 0 l23)), (6, (i64 (Sh.w (i12 + 1))))]) (st' := [(ro 0 3 1 eI l23), (ro 0 3 1 eI [Sh.w (q22 + i12)])]) (.pure (pure_map fun _ => rfl) (.pure (pure_map fun _ => rfl) .nil)) ⟨.rfl, .rfl, .rfl, .rfl, trivial⟩) ?_; exact Wk.permk (L := [(0, (ls eRDecl p0)), (1, (i64 p1)), (5, (ow 0 0 l23)), (6, (i64 (Sh.w (i12 + 1))))]) (st' := [(ro 0 3 1 eI l23)]) (st1 := [(ro 0 3 1 eI l23)]) [0] rfl .nil (by decide) rfl rfl (.pure (pure_map fun _ => rfl) .nil) ⟨.rfl, .rfl, .rfl, .rfl, trivial⟩))
  ·intro b20 h1
   exact AW.exit (M15 l13 (Sh.some_eq h1).symm _ (Wk.tr rfl))
theorem spec_validJumps_ok {N : Nat} {p0 : (List Int)} {p1 : Int} {p2 : Int} {p3 : Int} {r : Bool} (h0 : spec_validJumps N p0 p1 p2 p3 = some r) : ACalls Try.prog 80 [(ls eI p0), (i64 p1), (i64 p2), (i64 p3)] [] (fun v st => v = (.bool r) ∧ st = []) := by
 unfold spec_validJumps at h0
 refine ai Try.func80 rfl rfl rfl rfl (zr tb rfl rfl (AW.seq fun K2 hK2 => sr rfl fun K3 hK3 => zq tb rfl (zl tb rfl rfl (zm tb 2 rfl (dn hK3 rfl ?_)))))
 refine ci h0 rfl ?_ ?_ <;> clear h0
 ·intro b4 h0
  have b5 : decide ((Sh.len p0) = p1) = false := by simpa using b4
  refine zr tb rfl rfl ?_
  replace h0 := Sh.some_eq h0
  subst r
  exact AW.ret (xr (Wk.to (L := [(8, (.bool false))]) ⟨.rfl, trivial⟩))
 ·intro b4 h0
  have b7 : decide ((Sh.len p0) = p1) = true := by simpa using b4
  refine AW.skip (hK2 _ (AW.seq fun K8 hK8 => zr tb rfl rfl ?_))
  obtain ⟨o11, h1, h0⟩ := Sh.cont_some h0
  have M11 : ∀ (_ : Unit), o11 = Sum.inr () → ∀ s, Wk 0 s ⟨29, envL [], []⟩ → K8 s := by
   intro _ hq s hw
   subst o11
   try dsimp only at h0
   refine hK8 _ (AW.weaken hw (zr tb rfl rfl ?_))
   replace h0 := Sh.some_eq h0
   subst r
   exact AW.ret (xr (Wk.to (L := [(8, (.bool true))]) ⟨.rfl, trivial⟩))
  refine AW.block (AW.loopF (σ := Int) (fun n v => spec_validJumps_L1 p0 p1 p2 p3 n v = some o11) (fun i10 => ⟨29, envL [(0, (ls eI p0)), (1, (i64 p1)), (2, (i64 p2)), (3, (i64 p3)), (9, (i64 i10))], []⟩) N 0 h1 (Wk.tr rfl) (fun _ hv => by rw [spec_validJumps_L1] at hv; cases hv) ?_)
  rintro n i10 h1
  try dsimp only at h1 ⊢
  rw [spec_validJumps_L1] at h1
  refine AW.seq fun K13 hK13 => zr tb rfl rfl ?_
  refine ci h1 rfl ?_ ?_ <;> clear h1
  ·intro b15 h1
   refine AW.skip (hK13 _ (AW.seq fun K16 hK16 => AW.block (sr rfl fun K17 hK17 => zm tb 2 rfl (bs h1 fun c18 gc18 h1 => zx ei27 gc18 rfl rfl rfl (zm tb 5 rfl (bs h1 fun q19 gq19 h1 => zc hb16 (spec_inRange_ok gq19) rfl rfl rfl (zq tb rfl (dn hK17 rfl ?_))))))))
   refine ci h1 rfl ?_ ?_ <;> clear h1
   ·intro b20 h1
    have b21 : q19 = false := by simpa using b20
    refine zr tb rfl rfl ?_
    replace h1 := Sh.some_eq h1
    subst o11
    try dsimp only [id] at h0
    replace h0 := Sh.some_eq h0
    subst r
    exact AW.ret (xr (Wk.to (L := [(8, (.bool false))]) ⟨.rfl, trivial⟩))
   ·intro b20 h1
    have b23 : q19 = true := by simpa using b20
    exact AW.skip (hK16 _ (AW.regionO rfl (zm tb 3 rfl (AO.done (xi (Sh.w (i10 + 1)) h1 (Wk.tr rfl))))))
  ·intro b15 h1
   exact AW.exit (M11 () (Sh.some_eq h1).symm _ (Wk.tr rfl))
theorem spec_validInstr_ok {N : Nat} {p0 : RImage} {p1 : RProc} {p2 : Int} {r : Bool} (h0 : spec_validInstr N p0 p1 p2 = some r) : ACalls Try.prog 58 [(.agg (eRImage p0)), (.agg (eRProc p1)), (i64 p2)] [] (fun v st => v = (.bool r) ∧ st = []) := by
 unfold spec_validInstr at h0
 refine ai Try.func58 rfl rfl rfl rfl (sr rfl fun K1 hK1 => ao_box (m := 0) (st' := [⟨0, 37, 2, [(eRImage p0)]⟩]) go0 rfl rfl rfl rfl rfl (ao_box (m := 1) (st' := [⟨0, 37, 2, [(eRImage p0)]⟩, ⟨0, 77, 5, [(eRProc p1)]⟩]) go0 rfl rfl rfl rfl rfl (zq tb rfl (dn hK1 rfl (sr rfl fun K2 hK2 => zm tb 3 rfl (bs h0 fun c3 gc3 h0 => zx ei75 gc3 rfl rfl rfl (zq tb rfl (ao_alloc (m := 2) (st' := [⟨0, 37, 2, [(eRImage p0)]⟩, ⟨0, 77, 5, [(eRProc p1)]⟩, ⟨0, 92, 6, [[(i64 0), (i64 0), (i64 0), (i64 0), .zc, .zc]]⟩]) go0 zi92 rfl rfl ?_))))))))
 refine ao_str (st' := [⟨0, 37, 2, [(eRImage p0)]⟩, ⟨0, 77, 5, [(eRProc p1)]⟩, ⟨0, 92, 6, [(eRInstr c3)]⟩]) go0 ti92 rfl rfl rfl rfl rfl rfl (show 0 + 6 ≤ 6 by decide) rfl (dn hK2 rfl (sr rfl fun K4 hK4 => zm tb 2 rfl (zl tb rfl rfl (zq tb rfl (dn hK4 rfl (AW.seq fun K5 hK5 => zr tb rfl rfl ?_))))))
 obtain ⟨o8, h1, h0⟩ := Sh.cont_some h0
 have M8 : ∀ (_ : Unit), o8 = Sum.inr () → ∀ s, Wk 0 s ⟨234, envL [(2, (i64 p2)), (3, (.ptr 0 0 0 0)), (4, (.ptr 1 0 0 0)), (7, (.ptr 2 0 0 0)), (8, (i64 (Sh.len c3.args)))], [⟨0, 37, 2, [(eRImage p0)]⟩, ⟨0, 77, 5, [(eRProc p1)]⟩, ⟨0, 92, 6, [(eRInstr c3)]⟩]⟩ → K5 s := by
  intro _ hq s hw
  subst o8
  try dsimp only at h0
  refine hK5 _ (AW.weaken hw (AW.seq fun K9 hK9 => AW.seq fun K10 hK10 => bs h0 fun o12 h1 h0 => ?_))
  have M12 : ∀ (t11 : Bool), o12 = t11 → ∀ s, Wk 0 s ⟨234, envL [(2, (i64 p2)), (3, (.ptr 0 0 0 0)), (4, (.ptr 1 0 0 0)), (7, (.ptr 2 0 0 0)), (8, (i64 (Sh.len c3.args))), (72, (.bool t11))], [⟨0, 37, 2, [(eRImage p0)]⟩, ⟨0, 77, 5, [(eRProc p1)]⟩, ⟨0, 92, 6, [(eRInstr c3)]⟩]⟩ → K10 s := by
   intro t11 hq s hw
   subst o12
   try dsimp only at h0
   refine hK10 _ (AW.weaken hw ?_)
   refine ci h0 rfl ?_ ?_ <;> clear h0
   ·intro b13 h0
    refine zr tb rfl rfl ?_
    replace h0 := Sh.some_eq h0
    subst r
    exact AW.ret (xr (Wk.d0 [(6, (.bool false))] rfl))
   ·intro b13 h0
    refine AW.skip (hK9 _ (AW.seq fun K15 hK15 => zr tb rfl rfl (AW.block (zr tb rfl rfl ?_))))
    refine ci h0 rfl ?_ ?_ <;> clear h0
    ·intro b18 h0
     refine AW.seq fun K19 hK19 => bs h0 fun o21 h1 h0 => ?_
     have M21 : ∀ (t20 : Bool), o21 = t20 → ∀ s, Wk 0 s ⟨234, envL [(6, (.bool t20))], []⟩ → K19 s := by
      intro t20 hq s hw
      subst o21
      try dsimp only at h0
      refine hK19 _ (AW.weaken hw ?_)
      replace h0 := Sh.some_eq h0
      subst r
      exact AW.ret (xr (Wk.to (L := [(6, (.bool t20))]) ⟨.rfl, trivial⟩))
     refine AW.regionO rfl (zm tb 3 rfl ?_)
     rcases Sh.ite_some h1 with ⟨b22, h1⟩ | ⟨b22, h1⟩
     ·exact zg tb b22 rfl (zg tb b22 rfl (bs h1 fun q23 gq23 h1 => zd b22 hb16 (spec_inRange_ok gq23) rfl rfl rfl rfl (zt b22 rfl (zq tb rfl (AO.done (M21 q23 (Sh.some_eq h1).symm _ (Wk.d0 _ rfl)))))))
     ·exact zs b22 rfl (zs b22 rfl (zs b22 rfl (zf b22 rfl (zq tb rfl (AO.done (M21 false (Sh.some_eq h1).symm _ (Wk.d0 _ rfl)))))))
    ·intro b18 h0
     refine AW.seq fun K24 hK24 => bs h0 fun o26 h1 h0 => ?_
     have M26 : ∀ (t25 : Bool), o26 = t25 → ∀ s, Wk 0 s ⟨234, envL [(2, (i64 p2)), (3, (.ptr 0 0 0 0)), (4, (.ptr 1 0 0 0)), (7, (.ptr 2 0 0 0)), (8, (i64 (Sh.len c3.args))), (74, (i64 c3.op)), (84, (.bool t25))], [⟨0, 37, 2, [(eRImage p0)]⟩, ⟨0, 77, 5, [(eRProc p1)]⟩, ⟨0, 92, 6, [(eRInstr c3)]⟩]⟩ → K24 s := by
      intro t25 hq s hw
      subst o26
      try dsimp only at h0
      refine hK24 _ (AW.weaken hw ?_)
      refine ci h0 rfl ?_ ?_ <;> clear h0
      ·intro b27 h0
       refine AW.seq fun K28 hK28 => bs h0 fun o30 h1 h0 => ?_
       have M30 : ∀ (t29 : Bool), o30 = t29 → ∀ s, Wk 0 s ⟨234, envL [(6, (.bool t29))], []⟩ → K28 s := by
        intro t29 hq s hw
        subst o30
        try dsimp only at h0
        refine hK28 _ (AW.weaken hw ?_)
        replace h0 := Sh.some_eq h0
        subst r
        exact AW.ret (xr (Wk.to (L := [(6, (.bool t29))]) ⟨.rfl, trivial⟩))
       refine AW.regionO rfl (zm tb 3 rfl ?_)
       rcases Sh.ite_some h1 with ⟨b31, h1⟩ | ⟨b31, h1⟩
       ·exact zg tb b31 rfl (zg tb b31 rfl (zg tb b31 rfl (zt b31 rfl (zq tb rfl (AO.done (M30 (decide (c3.num = 0)) (Sh.some_eq h1).symm _ (Wk.d0 _ rfl)))))))
       ·exact zs b31 rfl (zs b31 rfl (zs b31 rfl (zf b31 rfl (zq tb rfl (AO.done (M30 false (Sh.some_eq h1).symm _ (Wk.d0 _ rfl)))))))
      ·intro b27 h0
       refine AW.seq fun K32 hK32 => bs h0 fun o34 h1 h0 => ?_
       have M34 : ∀ (t33 : Bool), o34 = t33 → ∀ s, Wk 0 s ⟨234, envL [(2, (i64 p2)), (3, (.ptr 0 0 0 0)), (4, (.ptr 1 0 0 0)), (7, (.ptr 2 0 0 0)), (8, (i64 (Sh.len c3.args))), (74, (i64 c3.op)), (97, (.bool t33))], [⟨0, 37, 2, [(eRImage p0)]⟩, ⟨0, 77, 5, [(eRProc p1)]⟩, ⟨0, 92, 6, [(eRInstr c3)]⟩]⟩ → K32 s := by
        intro t33 hq s hw
        subst o34
        try dsimp only at h0
        refine hK32 _ (AW.weaken hw ?_)
        refine ci h0 rfl ?_ ?_ <;> clear h0
        ·intro b35 h0
         refine AW.seq fun K36 hK36 => bs h0 fun o38 h1 h0 => ?_
         have M38 : ∀ (t37 : Bool), o38 = t37 → ∀ s, Wk 0 s ⟨234, envL [(6, (.bool t37))], []⟩ → K36 s := by
          intro t37 hq s hw
          subst o38
          try dsimp only at h0
          refine hK36 _ (AW.weaken hw ?_)
          replace h0 := Sh.some_eq h0
          subst r
          exact AW.ret (xr (Wk.to (L := [(6, (.bool t37))]) ⟨.rfl, trivial⟩))
         refine AW.regionO rfl (zm tb 3 rfl ?_)
         rcases Sh.ite_some h1 with ⟨b39, h1⟩ | ⟨b39, h1⟩
         ·exact zg tb b39 rfl (zg tb b39 rfl (zg tb b39 rfl (zt b39 rfl (zq tb rfl (AO.done (M38 (decide (c3.num = 0)) (Sh.some_eq h1).symm _ (Wk.d0 _ rfl)))))))
         ·exact zs b39 rfl (zs b39 rfl (zs b39 rfl (zf b39 rfl (zq tb rfl (AO.done (M38 false (Sh.some_eq h1).symm _ (Wk.d0 _ rfl)))))))
        ·intro b35 h0
         refine zr tb rfl rfl ?_
         refine ci h0 rfl ?_ ?_ <;> clear h0
         ·intro b41 h0
          refine AW.seq fun K42 hK42 => bs h0 fun o44 h1 h0 => ?_
          have M44 : ∀ (t43 : Bool), o44 = t43 → ∀ s, Wk 0 s ⟨234, envL [(6, (.bool t43))], []⟩ → K42 s := by
           intro t43 hq s hw
           subst o44
           try dsimp only at h0
           refine hK42 _ (AW.weaken hw ?_)
           replace h0 := Sh.some_eq h0
           subst r
           exact AW.ret (xr (Wk.to (L := [(6, (.bool t43))]) ⟨.rfl, trivial⟩))
          refine AW.regionO rfl (zm tb 4 rfl (bs h1 fun q45 gq45 h1 => zc hb76 (spec_conType_ok gq45) rfl rfl rfl (zm tb 2 rfl ?_)))
          rcases Sh.ite_some h1 with ⟨b46, h1⟩ | ⟨b46, h1⟩
          ·refine zg tb b46 rfl ?_
           iterate 4 refine zg tb b46 rfl ?_
           refine bs h1 fun q47 gq47 h1 => zd b46 hb77 (spec_conFields_ok gq47) rfl rfl rfl rfl (ao_q (v := (i64 (Sh.len q47))) (go1 rfl rfl b46) rfl (aq_lens sl27 rfl) (zg tb b46 rfl (zt b46 rfl (zq tb rfl ?_))))
           rcases Sh.ite_some h1 with ⟨b48, h1⟩ | ⟨b48, h1⟩
           ·refine zg tb b48 rfl ?_
            iterate 3 refine zg tb b48 rfl ?_
            exact bs h1 fun q49 gq49 h1 => zd b48 hb16 (spec_inRange_ok gq49) rfl rfl rfl rfl (zt b48 rfl (zq tb rfl (AO.done (M44 q49 (Sh.some_eq h1).symm _ (Wk.d0 _ rfl)))))
           ·refine zs b48 rfl ?_
            iterate 4 refine zs b48 rfl ?_
            exact zf b48 rfl (zq tb rfl (AO.done (M44 false (Sh.some_eq h1).symm _ (Wk.d0 _ rfl))))
          ·refine zs b46 rfl ?_
           iterate 7 refine zs b46 rfl ?_
           refine zf b46 rfl (zq tb rfl ?_)
           iterate 5 refine zs rfl rfl ?_
           exact zf rfl rfl (zq tb rfl (AO.done (M44 false (Sh.some_eq h1).symm _ (Wk.d0 _ rfl))))
         ·intro b41 h0
          refine AW.seq fun K50 hK50 => bs h0 fun o52 h1 h0 => ?_
          have M52 : ∀ (t51 : Bool), o52 = t51 → ∀ s, Wk 0 s ⟨234, envL [(2, (i64 p2)), (3, (.ptr 0 0 0 0)), (4, (.ptr 1 0 0 0)), (7, (.ptr 2 0 0 0)), (8, (i64 (Sh.len c3.args))), (74, (i64 c3.op)), (135, (.bool t51))], [⟨0, 37, 2, [(eRImage p0)]⟩, ⟨0, 77, 5, [(eRProc p1)]⟩, ⟨0, 92, 6, [(eRInstr c3)]⟩]⟩ → K50 s := by
           intro t51 hq s hw
           subst o52
           try dsimp only at h0
           refine hK50 _ (AW.weaken hw ?_)
           refine ci h0 rfl ?_ ?_ <;> clear h0
           ·intro b53 h0
            refine sr rfl fun K54 hK54 => zm tb 4 rfl (bs h0 fun q55 gq55 h0 => zc hb78 (spec_procWith_ok gq55) rfl rfl rfl (zq tb rfl (dn hK54 rfl ?_)))
            replace h0 := Sh.some_eq h0
            subst r
            exact AW.ret (xr (Wk.d0 [(6, (.bool q55))] rfl))
           ·intro b53 h0
            refine zr tb rfl rfl ?_
            refine ci h0 rfl ?_ ?_ <;> clear h0
            ·intro b57 h0
             refine AW.seq fun K58 hK58 => bs h0 fun o60 h1 h0 => ?_
             have M60 : ∀ (t59 : Bool), o60 = t59 → ∀ s, Wk 0 s ⟨234, envL [(6, (.bool t59))], []⟩ → K58 s := by
              intro t59 hq s hw
              subst o60
              try dsimp only at h0
              refine hK58 _ (AW.weaken hw ?_)
              replace h0 := Sh.some_eq h0
              subst r
              exact AW.ret (xr (Wk.to (L := [(6, (.bool t59))]) ⟨.rfl, trivial⟩))
             refine AW.regionO rfl (zm tb 4 rfl (bs h1 fun q61 gq61 h1 => zc hb78 (spec_procWith_ok gq61) rfl rfl rfl (zq tb rfl ?_)))
             rcases Sh.ite_some h1 with ⟨b62, h1⟩ | ⟨b62, h1⟩
             ·refine zg tb b62 rfl ?_
              iterate 3 refine zg tb b62 rfl ?_
              exact bs h1 fun c63 gc63 h1 => ao_q (v := (.iptr (eRProc c63) 0)) (go1 rfl rfl b62) rfl (aq_ixs ei35 rfl rfl gc63 rfl) (zg tb b62 rfl (zg tb b62 rfl (ao_q (v := (i64 (Sh.len c63.lent))) (go1 rfl rfl b62) rfl (aq_lens sl27 rfl) (zg tb b62 rfl (zt b62 rfl (zq tb rfl (AO.done (M60 (decide ((Sh.len c63.lent) = 0)) (Sh.some_eq h1).symm _ (Wk.d0 _ rfl)))))))))
             ·refine zs b62 rfl ?_
              iterate 8 refine zs b62 rfl ?_
              exact zf b62 rfl (zq tb rfl (AO.done (M60 false (Sh.some_eq h1).symm _ (Wk.d0 _ rfl))))
            ·intro b57 h0
             refine AW.seq fun K64 hK64 => bs h0 fun o66 h1 h0 => ?_
             have M66 : ∀ (t65 : Bool), o66 = t65 → ∀ s, Wk 0 s ⟨234, envL [(2, (i64 p2)), (3, (.ptr 0 0 0 0)), (4, (.ptr 1 0 0 0)), (7, (.ptr 2 0 0 0)), (8, (i64 (Sh.len c3.args))), (74, (i64 c3.op)), (161, (.bool t65))], [⟨0, 37, 2, [(eRImage p0)]⟩, ⟨0, 77, 5, [(eRProc p1)]⟩, ⟨0, 92, 6, [(eRInstr c3)]⟩]⟩ → K64 s := by
              intro t65 hq s hw
              subst o66
              try dsimp only at h0
              refine hK64 _ (AW.weaken hw ?_)
              refine ci h0 rfl ?_ ?_ <;> clear h0
              ·intro b67 h0
               refine AW.seq fun K68 hK68 => bs h0 fun o70 h1 h0 => ?_
               have M70 : ∀ (t69 : Bool), o70 = t69 → ∀ s, Wk 0 s ⟨234, envL [(6, (.bool t69))], []⟩ → K68 s := by
                intro t69 hq s hw
                subst o70
                try dsimp only at h0
                refine hK68 _ (AW.weaken hw ?_)
                replace h0 := Sh.some_eq h0
                subst r
                exact AW.ret (xr (Wk.to (L := [(6, (.bool t69))]) ⟨.rfl, trivial⟩))
               refine AW.regionO rfl (zq tb rfl (bs h1 fun q71 gq71 h1 => zc hb16 (spec_inRange_ok gq71) rfl rfl rfl (zq tb rfl ?_)))
               rcases Sh.ite_some h1 with ⟨b72, h1⟩ | ⟨b72, h1⟩
               ·exact zg tb b72 rfl (zg tb b72 rfl (zg tb b72 rfl (zt b72 rfl (zq tb rfl (AO.done (M70 (decide (c3.num = 0)) (Sh.some_eq h1).symm _ (Wk.d0 _ rfl)))))))
               ·exact zs b72 rfl (zs b72 rfl (zs b72 rfl (zf b72 rfl (zq tb rfl (AO.done (M70 false (Sh.some_eq h1).symm _ (Wk.d0 _ rfl)))))))
              ·intro b67 h0
               refine zr tb rfl rfl ?_
               refine ci h0 rfl ?_ ?_ <;> clear h0
               ·intro b74 h0
                refine AW.seq fun K75 hK75 => bs h0 fun o77 h1 h0 => ?_
                have M77 : ∀ (t76 : Bool), o77 = t76 → ∀ s, Wk 0 s ⟨234, envL [(6, (.bool t76))], []⟩ → K75 s := by
                 intro t76 hq s hw
                 subst o77
                 try dsimp only at h0
                 refine hK75 _ (AW.weaken hw ?_)
                 replace h0 := Sh.some_eq h0
                 subst r
                 exact AW.ret (xr (Wk.to (L := [(6, (.bool t76))]) ⟨.rfl, trivial⟩))
                refine AW.regionO rfl (zm tb 3 rfl ?_)
                rcases Sh.ite_some h1 with ⟨b78, h1⟩ | ⟨b78, h1⟩
                ·exact zg tb b78 rfl (zg tb b78 rfl (bs h1 fun q79 gq79 h1 => zd b78 hb16 (spec_inRange_ok gq79) rfl rfl rfl rfl (zt b78 rfl (zq tb rfl (AO.done (M77 q79 (Sh.some_eq h1).symm _ (Wk.d0 _ rfl)))))))
                ·exact zs b78 rfl (zs b78 rfl (zs b78 rfl (zf b78 rfl (zq tb rfl (AO.done (M77 false (Sh.some_eq h1).symm _ (Wk.d0 _ rfl)))))))
               ·intro b74 h0
                refine zr tb rfl rfl ?_
                refine ci h0 rfl ?_ ?_ <;> clear h0
                ·intro b81 h0
                 refine AW.seq fun K82 hK82 => bs h0 fun o84 h1 h0 => ?_
                 have M84 : ∀ (t83 : Bool), o84 = t83 → ∀ s, Wk 0 s ⟨234, envL [(6, (.bool t83))], []⟩ → K82 s := by
                  intro t83 hq s hw
                  subst o84
                  try dsimp only at h0
                  refine hK82 _ (AW.weaken hw ?_)
                  replace h0 := Sh.some_eq h0
                  subst r
                  exact AW.ret (xr (Wk.to (L := [(6, (.bool t83))]) ⟨.rfl, trivial⟩))
                 refine AW.regionO rfl (zm tb 3 rfl ?_)
                 rcases Sh.ite_some h1 with ⟨b85, h1⟩ | ⟨b85, h1⟩
                 ·refine zg tb b85 rfl ?_
                  iterate 5 refine zg tb b85 rfl ?_
                  exact ao_q (v := (i64 (Sh.len p1.code))) (go1 rfl rfl b85) rfl (aq_lens sl75 rfl) (zg tb b85 rfl (bs h1 fun q86 gq86 h1 => zd b85 hb16 (spec_inRange_ok gq86) rfl rfl rfl rfl (zt b85 rfl (zq tb rfl (AO.done (M84 q86 (Sh.some_eq h1).symm _ (Wk.d0 _ rfl)))))))
                 ·refine zs b85 rfl ?_
                  iterate 8 refine zs b85 rfl ?_
                  exact zf b85 rfl (zq tb rfl (AO.done (M84 false (Sh.some_eq h1).symm _ (Wk.d0 _ rfl))))
                ·intro b81 h0
                 refine zr tb rfl rfl ?_
                 refine ci h0 rfl ?_ ?_ <;> clear h0
                 ·intro b88 h0
                  refine AW.seq fun K89 hK89 => bs h0 fun o91 h1 h0 => ?_
                  have M91 : ∀ (t90 : Bool), o91 = t90 → ∀ s, Wk 0 s ⟨234, envL [(6, (.bool t90))], []⟩ → K89 s := by
                   intro t90 hq s hw
                   subst o91
                   try dsimp only at h0
                   refine hK89 _ (AW.weaken hw ?_)
                   replace h0 := Sh.some_eq h0
                   subst r
                   exact AW.ret (xr (Wk.to (L := [(6, (.bool t90))]) ⟨.rfl, trivial⟩))
                  refine AW.regionO rfl (zm tb 3 rfl ?_)
                  rcases Sh.ite_some h1 with ⟨b92, h1⟩ | ⟨b92, h1⟩
                  ·refine zg tb b92 rfl ?_
                   iterate 5 refine zg tb b92 rfl ?_
                   exact ao_q (v := (i64 (Sh.len p1.code))) (go1 rfl rfl b92) rfl (aq_lens sl75 rfl) (zg tb b92 rfl (bs h1 fun q93 gq93 h1 => zd b92 hb16 (spec_inRange_ok gq93) rfl rfl rfl rfl (zt b92 rfl (zq tb rfl (AO.done (M91 q93 (Sh.some_eq h1).symm _ (Wk.d0 _ rfl)))))))
                  ·refine zs b92 rfl ?_
                   iterate 8 refine zs b92 rfl ?_
                   exact zf b92 rfl (zq tb rfl (AO.done (M91 false (Sh.some_eq h1).symm _ (Wk.d0 _ rfl))))
                 ·intro b88 h0
                  refine zr tb rfl rfl ?_
                  refine ci h0 rfl ?_ ?_ <;> clear h0
                  ·intro b95 h0
                   refine sr rfl fun K96 hK96 => zm tb 4 rfl (bs h0 fun q97 gq97 h0 => ao_call (v' := (ow 3 0 q97)) (st' := [⟨0, 37, 2, [(eRImage p0)]⟩, ⟨0, 77, 5, [(eRProc p1)]⟩, ⟨0, 92, 6, [(eRInstr c3)]⟩, (ro 0 3 1 eI q97)]) go0 hb79 (spec_consOf_ok gq97) rfl rfl ⟨(pure_map' fun _ => rfl), trivial⟩ rfl rfl (zz (i64 (Sh.len q97)) (aq_leno sl27 rfl rfl rfl) rfl (zq tb rfl (dn hK96 rfl (AW.seq fun K98 hK98 => bs h0 fun o100 h1 h0 => ?_)))))
                   have M100 : ∀ (t99 : Bool), o100 = t99 → ∀ s, Wk 0 s ⟨234, envL [(6, (.bool t99))], []⟩ → K98 s := by
                    intro t99 hq s hw
                    subst o100
                    try dsimp only at h0
                    refine hK98 _ (AW.weaken hw ?_)
                    replace h0 := Sh.some_eq h0
                    subst r
                    exact AW.ret (xr (Wk.to (L := [(6, (.bool t99))]) ⟨.rfl, trivial⟩))
                   refine AW.regionO rfl (zm tb 3 rfl ?_)
                   rcases Sh.ite_some h1 with ⟨b101, h1⟩ | ⟨b101, h1⟩
                   ·refine zg tb b101 rfl (zg tb b101 rfl (zt b101 rfl (zq tb rfl ?_)))
                    rcases Sh.ite_some h1 with ⟨b102, h1⟩ | ⟨b102, h1⟩
                    ·refine zg tb b102 rfl ?_
                     iterate 5 refine zg tb b102 rfl ?_
                     exact ao_q (v := (i64 (Sh.len p1.code))) (go1 rfl rfl b102) rfl (aq_lens sl75 rfl) (bs h1 fun q103 gq103 h1 => zd b102 hb80 (spec_validJumps_ok gq103) rfl rfl rfl rfl (zt b102 rfl (zq tb rfl (AO.done (M100 q103 (Sh.some_eq h1).symm _ (Wk.d0 _ rfl))))))
                    ·refine zs b102 rfl ?_
                     iterate 7 refine zs b102 rfl ?_
                     exact zf b102 rfl (zq tb rfl (AO.done (M100 false (Sh.some_eq h1).symm _ (Wk.d0 _ rfl))))
                   ·refine zs b101 rfl (zs b101 rfl (zf b101 rfl (zq tb rfl ?_)))
                    iterate 8 refine zs rfl rfl ?_
                    exact zf rfl rfl (zq tb rfl (AO.done (M100 false (Sh.some_eq h1).symm _ (Wk.d0 _ rfl))))
                  ·intro b95 h0
                   refine AW.skip (hK15 _ (zr tb rfl rfl ?_))
                   replace h0 := Sh.some_eq h0
                   subst r
                   exact AW.ret (xr (Wk.d0 [(6, (.bool false))] rfl))
             refine zr tb rfl rfl ?_
             refine ci h1 rfl ?_ ?_ <;> clear h1
             ·intro b106 h1
              exact AW.skip (M66 true (Sh.some_eq h1).symm _ (Wk.to (L := [(2, (i64 p2)), (3, (.ptr 0 0 0 0)), (4, (.ptr 1 0 0 0)), (7, (.ptr 2 0 0 0)), (8, (i64 (Sh.len c3.args))), (74, (i64 c3.op)), (161, (.bool true))]) ⟨.rfl, .rfl, .rfl, .rfl, .rfl, .rfl, (.of (congrArg AV.bool b106)), trivial⟩))
             ·intro b106 h1
              exact AW.regionO rfl (zm tb 2 rfl (AO.done (M66 (decide (c3.op = 17)) (Sh.some_eq h1).symm _ (Wk.tr rfl))))
          refine zr tb rfl rfl ?_
          refine ci h1 rfl ?_ ?_ <;> clear h1
          ·intro b108 h1
           exact AW.skip (M52 true (Sh.some_eq h1).symm _ (Wk.to (L := [(2, (i64 p2)), (3, (.ptr 0 0 0 0)), (4, (.ptr 1 0 0 0)), (7, (.ptr 2 0 0 0)), (8, (i64 (Sh.len c3.args))), (74, (i64 c3.op)), (135, (.bool true))]) ⟨.rfl, .rfl, .rfl, .rfl, .rfl, .rfl, (.of (congrArg AV.bool b108)), trivial⟩))
          ·intro b108 h1
           exact AW.regionO rfl (zm tb 2 rfl (AO.done (M52 (decide (c3.op = 24)) (Sh.some_eq h1).symm _ (Wk.tr rfl))))
       refine zr tb rfl rfl ?_
       refine ci h1 rfl ?_ ?_ <;> clear h1
       ·intro b110 h1
        exact AW.skip (M34 true (Sh.some_eq h1).symm _ (Wk.to (L := [(2, (i64 p2)), (3, (.ptr 0 0 0 0)), (4, (.ptr 1 0 0 0)), (7, (.ptr 2 0 0 0)), (8, (i64 (Sh.len c3.args))), (74, (i64 c3.op)), (97, (.bool true))]) ⟨.rfl, .rfl, .rfl, .rfl, .rfl, .rfl, (.of (congrArg AV.bool b110)), trivial⟩))
       ·intro b110 h1
        refine zr tb rfl rfl ?_
        refine ci h1 rfl ?_ ?_ <;> clear h1
        ·intro b112 h1
         exact AW.skip (M34 true (Sh.some_eq h1).symm _ (Wk.to (L := [(2, (i64 p2)), (3, (.ptr 0 0 0 0)), (4, (.ptr 1 0 0 0)), (7, (.ptr 2 0 0 0)), (8, (i64 (Sh.len c3.args))), (74, (i64 c3.op)), (97, (.bool true))]) ⟨.rfl, .rfl, .rfl, .rfl, .rfl, .rfl, (.of (congrArg AV.bool b112)), trivial⟩))
        ·intro b112 h1
         refine zr tb rfl rfl ?_
         refine ci h1 rfl ?_ ?_ <;> clear h1
         ·intro b114 h1
          exact AW.skip (M34 true (Sh.some_eq h1).symm _ (Wk.to (L := [(2, (i64 p2)), (3, (.ptr 0 0 0 0)), (4, (.ptr 1 0 0 0)), (7, (.ptr 2 0 0 0)), (8, (i64 (Sh.len c3.args))), (74, (i64 c3.op)), (97, (.bool true))]) ⟨.rfl, .rfl, .rfl, .rfl, .rfl, .rfl, (.of (congrArg AV.bool b114)), trivial⟩))
         ·intro b114 h1
          refine zr tb rfl rfl ?_
          refine ci h1 rfl ?_ ?_ <;> clear h1
          ·intro b116 h1
           exact AW.skip (M34 true (Sh.some_eq h1).symm _ (Wk.to (L := [(2, (i64 p2)), (3, (.ptr 0 0 0 0)), (4, (.ptr 1 0 0 0)), (7, (.ptr 2 0 0 0)), (8, (i64 (Sh.len c3.args))), (74, (i64 c3.op)), (97, (.bool true))]) ⟨.rfl, .rfl, .rfl, .rfl, .rfl, .rfl, (.of (congrArg AV.bool b116)), trivial⟩))
          ·intro b116 h1
           exact AW.regionO rfl (zm tb 2 rfl (AO.done (M34 (decide (c3.op = 23)) (Sh.some_eq h1).symm _ (Wk.tr rfl))))
     refine zr tb rfl rfl ?_
     refine ci h1 rfl ?_ ?_ <;> clear h1
     ·intro b118 h1
      exact AW.skip (M26 true (Sh.some_eq h1).symm _ (Wk.to (L := [(2, (i64 p2)), (3, (.ptr 0 0 0 0)), (4, (.ptr 1 0 0 0)), (7, (.ptr 2 0 0 0)), (8, (i64 (Sh.len c3.args))), (74, (i64 c3.op)), (84, (.bool true))]) ⟨.rfl, .rfl, .rfl, .rfl, .rfl, .rfl, (.of (congrArg AV.bool b118)), trivial⟩))
     ·intro b118 h1
      refine zr tb rfl rfl ?_
      refine ci h1 rfl ?_ ?_ <;> clear h1
      ·intro b120 h1
       exact AW.skip (M26 true (Sh.some_eq h1).symm _ (Wk.to (L := [(2, (i64 p2)), (3, (.ptr 0 0 0 0)), (4, (.ptr 1 0 0 0)), (7, (.ptr 2 0 0 0)), (8, (i64 (Sh.len c3.args))), (74, (i64 c3.op)), (84, (.bool true))]) ⟨.rfl, .rfl, .rfl, .rfl, .rfl, .rfl, (.of (congrArg AV.bool b120)), trivial⟩))
      ·intro b120 h1
       refine zr tb rfl rfl ?_
       refine ci h1 rfl ?_ ?_ <;> clear h1
       ·intro b122 h1
        exact AW.skip (M26 true (Sh.some_eq h1).symm _ (Wk.to (L := [(2, (i64 p2)), (3, (.ptr 0 0 0 0)), (4, (.ptr 1 0 0 0)), (7, (.ptr 2 0 0 0)), (8, (i64 (Sh.len c3.args))), (74, (i64 c3.op)), (84, (.bool true))]) ⟨.rfl, .rfl, .rfl, .rfl, .rfl, .rfl, (.of (congrArg AV.bool b122)), trivial⟩))
       ·intro b122 h1
        refine zr tb rfl rfl ?_
        refine ci h1 rfl ?_ ?_ <;> clear h1
        ·intro b124 h1
         exact AW.skip (M26 true (Sh.some_eq h1).symm _ (Wk.to (L := [(2, (i64 p2)), (3, (.ptr 0 0 0 0)), (4, (.ptr 1 0 0 0)), (7, (.ptr 2 0 0 0)), (8, (i64 (Sh.len c3.args))), (74, (i64 c3.op)), (84, (.bool true))]) ⟨.rfl, .rfl, .rfl, .rfl, .rfl, .rfl, (.of (congrArg AV.bool b124)), trivial⟩))
        ·intro b124 h1
         exact AW.regionO rfl (zm tb 2 rfl (AO.done (M26 (decide (c3.op = 11)) (Sh.some_eq h1).symm _ (Wk.tr rfl))))
  refine AW.regionO rfl (zm tb 5 rfl (bs h1 fun q125 gq125 h1 => zc hb16 (spec_inRange_ok gq125) rfl rfl rfl (zm tb 2 rfl ?_)))
  rcases Sh.ite_some h1 with ⟨b126, h1⟩ | ⟨b126, h1⟩
  ·refine zs b126 rfl ?_
   iterate 3 refine zs b126 rfl ?_
   iterate 4 refine zn rfl ?_
   refine zs b126 rfl (zt b126 rfl (zq tb rfl ?_))
   iterate 4 refine zs rfl rfl ?_
   iterate 3 refine zn rfl ?_
   refine zs rfl rfl (zt rfl rfl (zq tb rfl ?_))
   iterate 4 refine zs rfl rfl ?_
   iterate 4 refine zn rfl ?_
   exact zs rfl rfl (zt rfl rfl (AO.done (M12 true (Sh.some_eq h1).symm _ (Wk.tr rfl))))
  ·refine zg tb b126 rfl ?_
   iterate 3 refine zg tb b126 rfl ?_
   rcases Sh.ite_some h1 with ⟨b127, h1⟩ | ⟨b127, h1⟩
   ·refine zg tb b127 rfl (zg tb b127 rfl (bs h1 fun q128 gq128 h1 => zd b127 hb75 (spec_sets_ok gq128) rfl rfl rfl rfl (zg tb b127 rfl (ao_q (v := (.bool (!q128))) (go1 rfl rfl b126) rfl (aq_pkt rfl b127 rfl) (zf b126 rfl (zq tb rfl ?_))))))
    rcases Sh.ite_some h1 with ⟨b129, h1⟩ | ⟨b129, h1⟩
    ·refine zs b129 rfl ?_
     iterate 3 refine zs b129 rfl ?_
     iterate 3 refine zn rfl ?_
     refine zs b129 rfl (zt b129 rfl (zq tb rfl ?_))
     iterate 4 refine zs rfl rfl ?_
     iterate 4 refine zn rfl ?_
     exact zs rfl rfl (zt rfl rfl (AO.done (M12 true (Sh.some_eq h1).symm _ (Wk.tr rfl))))
    ·refine zg tb b129 rfl ?_
     iterate 3 refine zg tb b129 rfl ?_
     rcases Sh.ite_some h1 with ⟨b130, h1⟩ | ⟨b130, h1⟩
     ·refine zg tb b130 rfl (zg tb b130 rfl (zg tb b130 rfl (ao_q (v := (.bool (!decide (c3.op = 6)))) (go1 rfl rfl b129) rfl (aq_pkt rfl b130 rfl) (zf b129 rfl (zq tb rfl ?_)))))
      rcases Sh.ite_some h1 with ⟨b131, h1⟩ | ⟨b131, h1⟩
      ·refine zs b131 rfl ?_
       iterate 3 refine zs b131 rfl ?_
       iterate 4 refine zn rfl ?_
       exact zs b131 rfl (zt b131 rfl (AO.done (M12 true (Sh.some_eq h1).symm _ (Wk.tr rfl))))
      ·refine zg tb b131 rfl ?_
       iterate 3 refine zg tb b131 rfl ?_
       rcases Sh.ite_some h1 with ⟨b132, h1⟩ | ⟨b132, h1⟩
       ·exact zg tb b132 rfl (zg tb b132 rfl (ao_q (v := (i64 (Sh.len c3.jumps))) (go1 rfl rfl b132) rfl (aq_lens sl27 rfl) (zg tb b132 rfl (ao_q (v := (.bool (decide (0 < (Sh.len c3.jumps))))) (go1 rfl rfl b131) rfl (aq_pkt rfl b132 rfl) (zf b131 rfl (AO.done (M12 (decide (0 < (Sh.len c3.jumps))) (Sh.some_eq h1).symm _ (Wk.tr rfl))))))))
       ·refine zs b132 rfl ?_
        iterate 3 refine zs b132 rfl ?_
        exact ao_q (v := (.bool false)) (go1 rfl rfl b131) rfl (aq_pkf rfl b132 rfl) (zf b131 rfl (AO.done (M12 false (Sh.some_eq h1).symm _ (Wk.tr rfl))))
     ·refine zs b130 rfl (zs b130 rfl (zs b130 rfl (ao_q (v := (.bool false)) (go1 rfl rfl b129) rfl (aq_pkf rfl b130 rfl) (zf b129 rfl (zq tb rfl ?_)))))
      iterate 4 refine zg tb rfl rfl ?_
      rcases Sh.ite_some h1 with ⟨b133, h1⟩ | ⟨b133, h1⟩
      ·exact zg tb b133 rfl (zg tb b133 rfl (ao_q (v := (i64 (Sh.len c3.jumps))) (go1 rfl rfl b133) rfl (aq_lens sl27 rfl) (zg tb b133 rfl (ao_q (v := (.bool (decide (0 < (Sh.len c3.jumps))))) (go1 rfl rfl rfl) rfl (aq_pkt rfl b133 rfl) (zf rfl rfl (AO.done (M12 (decide (0 < (Sh.len c3.jumps))) (Sh.some_eq h1).symm _ (Wk.tr rfl))))))))
      ·refine zs b133 rfl ?_
       iterate 3 refine zs b133 rfl ?_
       exact ao_q (v := (.bool false)) (go1 rfl rfl rfl) rfl (aq_pkf rfl b133 rfl) (zf rfl rfl (AO.done (M12 false (Sh.some_eq h1).symm _ (Wk.tr rfl))))
   ·refine zs b127 rfl ?_
    iterate 3 refine zs b127 rfl ?_
    refine ao_q (v := (.bool false)) (go1 rfl rfl b126) rfl (aq_pkf rfl b127 rfl) (zf b126 rfl (zq tb rfl ?_))
    iterate 4 refine zg tb rfl rfl ?_
    rcases Sh.ite_some h1 with ⟨b134, h1⟩ | ⟨b134, h1⟩
    ·refine zg tb b134 rfl (zg tb b134 rfl (zg tb b134 rfl (ao_q (v := (.bool (!decide (c3.op = 6)))) (go1 rfl rfl rfl) rfl (aq_pkt rfl b134 rfl) (zf rfl rfl (zq tb rfl ?_)))))
     rcases Sh.ite_some h1 with ⟨b135, h1⟩ | ⟨b135, h1⟩
     ·refine zs b135 rfl ?_
      iterate 3 refine zs b135 rfl ?_
      iterate 4 refine zn rfl ?_
      exact zs b135 rfl (zt b135 rfl (AO.done (M12 true (Sh.some_eq h1).symm _ (Wk.tr rfl))))
     ·refine zg tb b135 rfl ?_
      iterate 3 refine zg tb b135 rfl ?_
      rcases Sh.ite_some h1 with ⟨b136, h1⟩ | ⟨b136, h1⟩
      ·exact zg tb b136 rfl (zg tb b136 rfl (ao_q (v := (i64 (Sh.len c3.jumps))) (go1 rfl rfl b136) rfl (aq_lens sl27 rfl) (zg tb b136 rfl (ao_q (v := (.bool (decide (0 < (Sh.len c3.jumps))))) (go1 rfl rfl b135) rfl (aq_pkt rfl b136 rfl) (zf b135 rfl (AO.done (M12 (decide (0 < (Sh.len c3.jumps))) (Sh.some_eq h1).symm _ (Wk.tr rfl))))))))
      ·refine zs b136 rfl ?_
       iterate 3 refine zs b136 rfl ?_
       exact ao_q (v := (.bool false)) (go1 rfl rfl b135) rfl (aq_pkf rfl b136 rfl) (zf b135 rfl (AO.done (M12 false (Sh.some_eq h1).symm _ (Wk.tr rfl))))
    ·refine zs b134 rfl (zs b134 rfl (zs b134 rfl (ao_q (v := (.bool false)) (go1 rfl rfl rfl) rfl (aq_pkf rfl b134 rfl) (zf rfl rfl (zq tb rfl ?_)))))
     iterate 4 refine zg tb rfl rfl ?_
     rcases Sh.ite_some h1 with ⟨b137, h1⟩ | ⟨b137, h1⟩
     ·exact zg tb b137 rfl (zg tb b137 rfl (ao_q (v := (i64 (Sh.len c3.jumps))) (go1 rfl rfl b137) rfl (aq_lens sl27 rfl) (zg tb b137 rfl (ao_q (v := (.bool (decide (0 < (Sh.len c3.jumps))))) (go1 rfl rfl rfl) rfl (aq_pkt rfl b137 rfl) (zf rfl rfl (AO.done (M12 (decide (0 < (Sh.len c3.jumps))) (Sh.some_eq h1).symm _ (Wk.tr rfl))))))))
     ·refine zs b137 rfl ?_
      iterate 3 refine zs b137 rfl ?_
      exact ao_q (v := (.bool false)) (go1 rfl rfl rfl) rfl (aq_pkf rfl b137 rfl) (zf rfl rfl (AO.done (M12 false (Sh.some_eq h1).symm _ (Wk.tr rfl))))
 refine AW.block (AW.loopF (σ := Int) (fun n v => spec_validInstr_L1 c3 p1 n v = some o8) (fun k7 => ⟨234, envL [(2, (i64 p2)), (3, (.ptr 0 0 0 0)), (4, (.ptr 1 0 0 0)), (7, (.ptr 2 0 0 0)), (8, (i64 (Sh.len c3.args))), (9, (i64 k7))], [⟨0, 37, 2, [(eRImage p0)]⟩, ⟨0, 77, 5, [(eRProc p1)]⟩, ⟨0, 92, 6, [(eRInstr c3)]⟩]⟩) N 0 h1 (Wk.tr rfl) (fun _ hv => by rw [spec_validInstr_L1] at hv; cases hv) ?_)
 rintro n k7 h1
 try dsimp only at h1 ⊢
 rw [spec_validInstr_L1] at h1
 refine AW.seq fun K138 hK138 => zr tb rfl rfl ?_
 refine ci h1 rfl ?_ ?_ <;> clear h1
 ·intro b140 h1
  refine AW.skip (hK138 _ (AW.seq fun K141 hK141 => AW.block (AW.seq fun K142 hK142 => ?_)))
  refine AW.draw (by kernel_rfl) (by kernel_rfl) (by rfl) ?_
  iterate 3 refine yq tb rfl ?_
  refine bs h1 fun c143 gc143 h1 => yx ei27 gc143 rfl rfl rfl ?_
  iterate 4 refine yq tb rfl ?_
  refine bs h1 fun q144 gq144 h1 => d_call (v := (.bool q144)) go0 hb16 (spec_inRange_ok gq144) rfl rfl rfl (yq tb rfl (d_done (hK142 _ ?_)))
  refine ci h1 rfl ?_ ?_ <;> clear h1
  ·intro b145 h1
   have b146 : q144 = false := by simpa using b145
   refine zr tb rfl rfl ?_
   replace h1 := Sh.some_eq h1
   subst o8
   try dsimp only [id] at h0
   replace h0 := Sh.some_eq h0
   subst r
   exact AW.ret (xr (Wk.d0 [(6, (.bool false))] rfl))
  ·intro b145 h1
   have b148 : q144 = true := by simpa using b145
   exact AW.skip (hK141 _ (AW.regionO rfl (zm tb 3 rfl (AO.done (xi (Sh.w (k7 + 1)) h1 (Wk.tr rfl))))))
 ·intro b140 h1
  exact AW.exit (M8 () (Sh.some_eq h1).symm _ (Wk.tr rfl))
theorem spec_validProc_ok {N : Nat} {p0 : RImage} {p1 : RProc} {r : Bool} (h0 : spec_validProc N p0 p1 = some r) : ACalls Try.prog 39 [(.agg (eRImage p0)), (.agg (eRProc p1))] [] (fun v st => v = (.bool r) ∧ st = []) := by
 unfold spec_validProc at h0
 refine ai Try.func39 rfl rfl rfl rfl (sr rfl fun K1 hK1 => ao_box (m := 0) (st' := [⟨0, 37, 2, [(eRImage p0)]⟩]) go0 rfl rfl rfl rfl rfl (ao_box (m := 1) (st' := [⟨0, 37, 2, [(eRImage p0)]⟩, ⟨0, 77, 5, [(eRProc p1)]⟩]) go0 rfl rfl rfl rfl rfl (zq tb rfl (dn hK1 rfl (sr rfl fun K2 hK2 => zm tb 2 rfl (zl tb rfl rfl (zq tb rfl (dn hK2 rfl (AW.seq fun K3 hK3 => ?_)))))))))
 refine AW.seq fun K4 hK4 => bs h0 fun o6 h1 h0 => ?_
 have M6 : ∀ (t5 : Bool), o6 = t5 → ∀ s, Wk 0 s ⟨59, envL [(2, (.ptr 0 0 0 0)), (3, (.ptr 1 0 0 0)), (5, (i64 (Sh.len p1.code))), (30, (.bool t5))], [⟨0, 37, 2, [(eRImage p0)]⟩, ⟨0, 77, 5, [(eRProc p1)]⟩]⟩ → K4 s := by
  intro t5 hq s hw
  subst o6
  try dsimp only at h0
  refine hK4 _ (AW.weaken hw ?_)
  refine ci h0 rfl ?_ ?_ <;> clear h0
  ·intro b7 h0
   refine zr tb rfl rfl ?_
   replace h0 := Sh.some_eq h0
   subst r
   exact AW.ret (xr (Wk.d0 [(4, (.bool false))] rfl))
  ·intro b7 h0
   refine AW.skip (hK3 _ (AW.seq fun K9 hK9 => zr tb rfl rfl ?_))
   obtain ⟨o12, h1, h0⟩ := Sh.cont_some h0
   have M12 : ∀ (_ : Unit), o12 = Sum.inr () → ∀ s, Wk 0 s ⟨59, envL [(3, (.ptr 0 0 0 0)), (5, (i64 (Sh.len p1.code)))], [⟨0, 77, 5, [(eRProc p1)]⟩]⟩ → K9 s := by
    intro _ hq s hw
    subst o12
    try dsimp only at h0
    refine hK9 _ (AW.weaken hw (AW.seq fun K13 hK13 => bs h0 fun o15 h1 h0 => ?_))
    have M15 : ∀ (t14 : Bool), o15 = t14 → ∀ s, Wk 0 s ⟨59, envL [(4, (.bool t14))], []⟩ → K13 s := by
     intro t14 hq s hw
     subst o15
     try dsimp only at h0
     refine hK13 _ (AW.weaken hw ?_)
     replace h0 := Sh.some_eq h0
     subst r
     exact AW.ret (xr (Wk.to (L := [(4, (.bool t14))]) ⟨.rfl, trivial⟩))
    refine AW.regionO rfl (zm tb 4 rfl (bs h1 fun c16 gc16 h1 => zx ei75 gc16 rfl rfl rfl (zm tb 4 rfl ?_)))
    rcases Sh.ite_some h1 with ⟨b17, h1⟩ | ⟨b17, h1⟩
    ·refine zs b17 rfl ?_
     iterate 7 refine zs b17 rfl ?_
     exact zt b17 rfl (zq tb rfl (AO.done (M15 true (Sh.some_eq h1).symm _ (Wk.d0 _ rfl))))
    ·refine zg tb b17 rfl ?_
     iterate 3 refine zg tb b17 rfl ?_
     refine ao_q (v := (.iptr (eRInstr c16) 0)) (go1 rfl rfl b17) rfl (aq_ixs ei75 rfl rfl gc16 rfl) ?_
     iterate 3 refine zg tb b17 rfl ?_
     exact zf b17 rfl (zq tb rfl (AO.done (M15 (decide (c16.op = 24)) (Sh.some_eq h1).symm _ (Wk.d0 _ rfl))))
   refine AW.block (AW.loopF (σ := Int) (fun n v => spec_validProc_L1 N p0 p1 n v = some o12) (fun at11 => ⟨59, envL [(2, (.ptr 0 0 0 0)), (3, (.ptr 1 0 0 0)), (5, (i64 (Sh.len p1.code))), (6, (i64 at11))], [⟨0, 37, 2, [(eRImage p0)]⟩, ⟨0, 77, 5, [(eRProc p1)]⟩]⟩) N 0 h1 (Wk.tr rfl) (fun _ hv => by rw [spec_validProc_L1] at hv; cases hv) ?_)
   rintro n at11 h1
   try dsimp only at h1 ⊢
   rw [spec_validProc_L1] at h1
   refine AW.seq fun K18 hK18 => zr tb rfl rfl ?_
   refine ci h1 rfl ?_ ?_ <;> clear h1
   ·intro b20 h1
    refine AW.skip (hK18 _ (AW.seq fun K21 hK21 => AW.block (sr rfl fun K22 hK22 => zm tb 3 rfl (bs h1 fun q23 gq23 h1 => zc hb58 (spec_validInstr_ok gq23) rfl rfl rfl (zq tb rfl (dn hK22 rfl ?_))))))
    refine ci h1 rfl ?_ ?_ <;> clear h1
    ·intro b24 h1
     have b25 : q23 = false := by simpa using b24
     refine zr tb rfl rfl ?_
     replace h1 := Sh.some_eq h1
     subst o12
     try dsimp only [id] at h0
     replace h0 := Sh.some_eq h0
     subst r
     exact AW.ret (xr (Wk.d0 [(4, (.bool false))] rfl))
    ·intro b24 h1
     have b27 : q23 = true := by simpa using b24
     exact AW.skip (hK21 _ (AW.regionO rfl (zm tb 3 rfl (AO.done (xi (Sh.w (at11 + 1)) h1 (Wk.tr rfl))))))
   ·intro b20 h1
    exact AW.exit (M12 () (Sh.some_eq h1).symm _ (Wk.permk (L := [(3, (.ptr 0 0 0 0)), (5, (i64 (Sh.len p1.code)))]) (st' := [⟨0, 77, 5, [(eRProc p1)]⟩]) (st1 := [⟨0, 77, 5, [(eRProc p1)]⟩]) [1] rfl .nil (by decide) rfl rfl (.raw rfl rfl .nil) ⟨.rfl, .rfl, trivial⟩))
 refine AW.regionO rfl (zm tb 4 rfl (bs h1 fun q28 gq28 h1 => zc hb57 (spec_validLent_ok gq28) rfl rfl rfl (zm tb 2 rfl ?_)))
 rcases Sh.ite_some h1 with ⟨b29, h1⟩ | ⟨b29, h1⟩
 ·refine zs b29 rfl ?_
  iterate 7 refine zs b29 rfl ?_
  refine zt b29 rfl (zq tb rfl ?_)
  iterate 3 refine zs rfl rfl ?_
  exact zt rfl rfl (AO.done (M6 true (Sh.some_eq h1).symm _ (Wk.tr rfl)))
 ·refine zg tb b29 rfl ?_
  iterate 3 refine zg tb b29 rfl ?_
  refine ao_q (v := (i64 (Sh.len p1.params))) (go1 rfl rfl b29) rfl (aq_lens sl27 rfl) (ao_q (v := (i64 (if (Sh.len p1.params) > 1 then (Sh.len p1.params) else 1))) (go1 rfl rfl b29) rfl (aq_max rfl rfl) (bs h1 fun q30 gq30 h1 => zd b29 hb16 (spec_inRange_ok gq30) rfl rfl rfl rfl (zg tb b29 rfl (zf b29 rfl (zq tb rfl ?_)))))
  rcases Sh.ite_some h1 with ⟨b31, h1⟩ | ⟨b31, h1⟩
  ·exact zs b31 rfl (zs b31 rfl (zs b31 rfl (zt b31 rfl (AO.done (M6 true (Sh.some_eq h1).symm _ (Wk.tr rfl))))))
  ·exact zg tb b31 rfl (bs h1 fun q32 gq32 h1 => zd b31 hb16 (spec_inRange_ok gq32) rfl rfl rfl rfl (zg tb b31 rfl (zf b31 rfl (AO.done (M6 (!q32) (Sh.some_eq h1).symm _ (Wk.tr rfl))))))
theorem spec_validImage_ok {N : Nat} {p0 : RImage} {r : Bool} (h0 : spec_validImage N p0 = some r) : ACalls Try.prog 15 [(.agg (eRImage p0))] [] (fun v st => v = (.bool r) ∧ st = []) := by
 unfold spec_validImage at h0
 refine ai Try.func15 rfl rfl rfl rfl (sr rfl fun K1 hK1 => ao_box (m := 0) (st' := [⟨0, 37, 2, [(eRImage p0)]⟩]) go0 rfl rfl rfl rfl rfl (zq tb rfl (dn hK1 rfl (AW.seq fun K2 hK2 => AW.seq fun K3 hK3 => bs h0 fun o5 h1 h0 => ?_))))
 have M5 : ∀ (t4 : Bool), o5 = t4 → ∀ s, Wk 0 s ⟨29, envL [(1, (.ptr 0 0 0 0)), (13, (.bool t4))], [⟨0, 37, 2, [(eRImage p0)]⟩]⟩ → K3 s := by
  intro t4 hq s hw
  subst o5
  try dsimp only at h0
  refine hK3 _ (AW.weaken hw ?_)
  refine ci h0 rfl ?_ ?_ <;> clear h0
  ·intro b6 h0
   refine zr tb rfl rfl ?_
   replace h0 := Sh.some_eq h0
   subst r
   exact AW.ret (xr (Wk.d0 [(2, (.bool false))] rfl))
  ·intro b6 h0
   refine AW.skip (hK2 _ (AW.seq fun K8 hK8 => zr tb rfl rfl ?_))
   obtain ⟨o11, h1, h0⟩ := Sh.cont_some h0
   have M11 : ∀ (_ : Unit), o11 = Sum.inr () → ∀ s, Wk 0 s ⟨29, envL [], []⟩ → K8 s := by
    intro _ hq s hw
    subst o11
    try dsimp only at h0
    refine hK8 _ (AW.weaken hw (zr tb rfl rfl ?_))
    replace h0 := Sh.some_eq h0
    subst r
    exact AW.ret (xr (Wk.to (L := [(2, (.bool true))]) ⟨.rfl, trivial⟩))
   refine AW.block (AW.loopF (σ := Int) (fun n v => spec_validImage_L1 N p0 n v = some o11) (fun i10 => ⟨29, envL [(1, (.ptr 0 0 0 0)), (3, (i64 i10))], [⟨0, 37, 2, [(eRImage p0)]⟩]⟩) N 0 h1 (Wk.tr rfl) (fun _ hv => by rw [spec_validImage_L1] at hv; cases hv) ?_)
   rintro n i10 h1
   try dsimp only at h1 ⊢
   rw [spec_validImage_L1] at h1
   refine AW.seq fun K13 hK13 => sr rfl fun K14 hK14 => zm tb 3 rfl (zl tb rfl rfl (zq tb rfl (dn hK14 rfl ?_)))
   refine ci h1 rfl ?_ ?_ <;> clear h1
   ·intro b15 h1
    refine AW.skip (hK13 _ (AW.seq fun K16 hK16 => AW.block (AW.seq fun K17 hK17 => ?_)))
    refine AW.draw (by kernel_rfl) (by kernel_rfl) (by rfl) ?_
    iterate 4 refine yq tb rfl ?_
    refine bs h1 fun c18 gc18 h1 => yx ei35 gc18 rfl rfl rfl (yq tb rfl (bs h1 fun q19 gq19 h1 => d_call (v := (.bool q19)) go0 hb39 (spec_validProc_ok gq19) rfl rfl rfl (yq tb rfl (d_done (hK17 _ ?_)))))
    refine ci h1 rfl ?_ ?_ <;> clear h1
    ·intro b20 h1
     have b21 : q19 = false := by simpa using b20
     refine zr tb rfl rfl ?_
     replace h1 := Sh.some_eq h1
     subst o11
     try dsimp only [id] at h0
     replace h0 := Sh.some_eq h0
     subst r
     exact AW.ret (xr (Wk.d0 [(2, (.bool false))] rfl))
    ·intro b20 h1
     have b23 : q19 = true := by simpa using b20
     exact AW.skip (hK16 _ (AW.regionO rfl (zm tb 3 rfl (AO.done (xi (Sh.w (i10 + 1)) h1 (Wk.tr rfl))))))
   ·intro b15 h1
    exact AW.exit (M11 () (Sh.some_eq h1).symm _ (Wk.d0 _ rfl))
 refine AW.regionO rfl (zm tb 2 rfl (zl tb rfl rfl (zm tb 2 rfl ?_)))
 rcases Sh.ite_some h1 with ⟨b24, h1⟩ | ⟨b24, h1⟩
 ·refine zs b24 rfl ?_
  iterate 3 refine zs b24 rfl ?_
  exact zt b24 rfl (AO.done (M5 true (Sh.some_eq h1).symm _ (Wk.tr rfl)))
 ·exact zg tb b24 rfl (bs h1 fun q25 gq25 h1 => zd (v' := (.agg [(ls eRDecl q25.decls), (ls eRFunc q25.funcs)])) b24 hb38 (spec_sigsOfImage_ok gq25) rfl rfl rfl rfl (bs h1 fun q26 gq26 h1 => zd b24 hb37 (spec_validSigs_ok gq26) rfl rfl rfl rfl (zg tb b24 rfl (zf b24 rfl (AO.done (M5 (!q26) (Sh.some_eq h1).symm _ (Wk.tr rfl)))))))
theorem spec_zeros_ok {p0 : Int} {r : (List Int)} (h0 : spec_zeros p0 = some r) : ACalls Try.prog 59 [(i64 p0)] [] (fun v st => v = (ow 0 0 r) ∧ st = [(ro 0 3 1 eI r)]) := by
 unfold spec_zeros at h0
 refine ai Try.func59 rfl rfl rfl rfl (zr tb rfl rfl (sr rfl fun K2 hK2 => zq tb rfl (bs h0 fun l3 gl3 h0 => ao_make (m := 0) (st' := [(ro 0 3 1 eI l3)]) (enc := eI) (u := 0) go0 ei27 rfl rfl rfl gl3 rfl rfl (zq tb rfl (dn hK2 rfl ?_)))))
 replace h0 := Sh.some_eq h0
 subst r
 exact AW.ret (xr (Wk.to (L := [(2, (ow 0 0 l3))]) ⟨.rfl, trivial⟩))
theorem spec_frameOf_ok {p0 : RImage} {p1 : Int} {p2 : Int} {p3 : (List Int)} {p4 : (List Int)} {r : RFrame} (h0 : spec_frameOf p0 p1 p2 p3 p4 = some r) : ACalls Try.prog 40 [(.agg (eRImage p0)), (i64 p1), (i64 p2), (ls eI p3), (ls eI p4)] [] (fun v st => v = (.agg (eRFrame r)) ∧ st = []) := by
 unfold spec_frameOf at h0
 refine ACalls.flat rfl (ai Try.func40 rfl rfl rfl rfl (sr rfl fun K1 hK1 => ao_box (m := 0) (st' := [⟨0, 37, 2, [(eRImage p0)]⟩]) go0 rfl rfl rfl rfl rfl (ao_alloc (m := 1) (st' := [⟨0, 37, 2, [(eRImage p0)]⟩, ⟨0, 79, 6, [[(i64 0), (i64 0), (i64 0), .zc, .zc, .zc]]⟩]) go0 zi79 rfl rfl (dn hK1 rfl (sr rfl fun K2 hK2 => zm tb 3 rfl (bs h0 fun c3 gc3 h0 => zx ei35 gc3 rfl rfl rfl (zm tb 3 rfl (dn hK2 rfl ?_))))))))
 refine sr rfl fun K4 hK4 => zq tb rfl (bs h0 fun q5 gq5 h0 => ao_call (v' := (ow 2 0 q5)) (st' := [⟨0, 37, 2, [(eRImage p0)]⟩, ⟨0, 79, 6, [[(i64 0), (i64 0), (i64 0), .zc, .zc, .zc]]⟩, (ro 0 3 1 eI q5)]) go0 hb59 (spec_zeros_ok gq5) rfl rfl ⟨(pure_map' fun _ => rfl), trivial⟩ rfl rfl (zq tb rfl (dn hK4 rfl (sr rfl fun K6 hK6 => zq tb rfl (bs h0 fun q7 gq7 h0 => ao_call (v' := (ow 3 0 q7)) (st' := [⟨0, 37, 2, [(eRImage p0)]⟩, ⟨0, 79, 6, [[(i64 0), (i64 0), (i64 0), .zc, .zc, .zc]]⟩, (ro 0 3 1 eI q5), (ro 0 3 1 eI q7)]) go0 hb59 (spec_zeros_ok gq7) rfl rfl ⟨(pure_map' fun _ => rfl), trivial⟩ rfl rfl (zq tb rfl (dn hK6 rfl ?_)))))))
 refine sr rfl fun K8 hK8 => zm tb 2 rfl (ao_copyI (st' := [⟨0, 37, 2, [(eRImage p0)]⟩, ⟨0, 79, 6, [[(i64 0), (i64 0), (i64 0), .zc, .zc, .zc]]⟩, (ro 0 3 1 eI (cpy q5 p3)), (ro 0 3 1 eI q7)]) ei27 rfl rfl rfl rfl (dn hK8 rfl (sr rfl fun K9 hK9 => zm tb 2 rfl (ao_copyI (st' := [⟨0, 37, 2, [(eRImage p0)]⟩, ⟨0, 79, 6, [[(i64 0), (i64 0), (i64 0), .zc, .zc, .zc]]⟩, (ro 0 3 1 eI (cpy q5 p3)), (ro 0 3 1 eI (cpy q7 p4))]) ei27 rfl rfl rfl rfl (dn hK9 rfl (sr rfl fun K10 hK10 => zm tb 5 rfl (bs h0 fun q11 gq11 h0 => ao_call (v' := (ow 4 0 q11)) (st' := [⟨0, 37, 2, [(eRImage p0)]⟩, ⟨0, 79, 6, [[(i64 0), (i64 0), (i64 0), .zc, .zc, .zc]]⟩, (ro 0 3 1 eI (cpy q5 p3)), (ro 0 3 1 eI (cpy q7 p4)), (ro 0 3 1 eI q11)]) go0 hb59 (spec_zeros_ok gq11) rfl rfl ⟨(pure_map' fun _ => rfl), trivial⟩ rfl rfl ?_)))))))
 refine zz (.agg [(i64 p1), (i64 0), (i64 p2), (ow 2 0 q5), (ow 3 0 q7), (ow 4 0 q11)]) (aq_bd ai79 bi79 zi79 rfl rfl) rfl ?_
 refine AO.weaken (Wk.frz (L := [(10, (.ptr 1 0 0 0)), (36, (.agg [(i64 p1), (i64 0), (i64 p2), (.sl (List.map eI (cpy q5 p3))), (.own 3 0 (List.length q7)), (.own 4 0 (List.length q11))]))]) (st' := [⟨0, 37, 2, [(eRImage p0)]⟩, ⟨0, 79, 6, [[(i64 0), (i64 0), (i64 0), .zc, .zc, .zc]]⟩, ⟨1, 3, 1, []⟩, ⟨0, 3, 1, List.map eI (cpy q7 p4)⟩, ⟨0, 3, 1, List.map eI q11⟩]) (id := 2) rfl (show 0 ≤ 2 by decide) (pure_map fun _ => rfl) ⟨.rfl, (.agg ⟨.rfl, .rfl, .rfl, (.frz1 (by simp only [Sh.put_len, cpy_len])), .rfl, .rfl, trivial⟩), trivial⟩ rfl) ?_
 refine AO.weaken (Wk.frz (L := [(10, (.ptr 1 0 0 0)), (36, (.agg [(i64 p1), (i64 0), (i64 p2), (.sl (List.map eI (cpy q5 p3))), (.sl (List.map eI (cpy q7 p4))), (.own 4 0 (List.length q11))]))]) (st' := [⟨0, 37, 2, [(eRImage p0)]⟩, ⟨0, 79, 6, [[(i64 0), (i64 0), (i64 0), .zc, .zc, .zc]]⟩, ⟨1, 3, 1, []⟩, ⟨1, 3, 1, []⟩, ⟨0, 3, 1, List.map eI q11⟩]) (id := 3) rfl (show 0 ≤ 3 by decide) (pure_map fun _ => rfl) ⟨.rfl, (.agg ⟨.rfl, .rfl, .rfl, .rfl, (.frz1 (by simp only [Sh.put_len, cpy_len])), .rfl, trivial⟩), trivial⟩ rfl) ?_
 refine AO.weaken (Wk.frz (L := [(10, (.ptr 1 0 0 0)), (36, (.agg [(i64 p1), (i64 0), (i64 p2), (ls eI (cpy q5 p3)), (ls eI (cpy q7 p4)), (ls eI q11)]))]) (st' := [⟨0, 37, 2, [(eRImage p0)]⟩, ⟨0, 79, 6, [[(i64 0), (i64 0), (i64 0), .zc, .zc, .zc]]⟩, ⟨1, 3, 1, []⟩, ⟨1, 3, 1, []⟩, ⟨1, 3, 1, []⟩]) (id := 4) rfl (show 0 ≤ 4 by decide) (pure_map fun _ => rfl) ⟨.rfl, (.agg ⟨.rfl, .rfl, .rfl, .rfl, .rfl, (.frz1 rfl), trivial⟩), trivial⟩ rfl) (ao_str (st' := [⟨0, 37, 2, [(eRImage p0)]⟩, ⟨0, 79, 6, [[(i64 p1), (i64 0), (i64 p2), (ls eI (cpy q5 p3)), (ls eI (cpy q7 p4)), (ls eI q11)]]⟩, ⟨1, 3, 1, []⟩, ⟨1, 3, 1, []⟩, ⟨1, 3, 1, []⟩]) go0 ti79 rfl rfl rfl rfl rfl rfl (show 0 + 6 ≤ 6 by decide) rfl (dn hK10 rfl ?_))
 replace h0 := Sh.some_eq h0
 subst r
 exact AW.ret (Exists.intro _ (And.intro (Wk.refl _ _) (aq_ldpa (x := .tmp 10) (off := 0) (cs := [(i64 p1), (i64 0), (i64 p2), (ls eI (cpy q5 p3)), (ls eI (cpy q7 p4)), (ls eI q11)]) (vs := [(i64 p1), (i64 0), (i64 p2), (ls eI (cpy q5 p3)), (ls eI (cpy q7 p4)), (ls eI q11)]) ti79 rfl rfl rfl (show 0 + 6 ≤ 6 by decide) rfl _ rfl)))
theorem spec_startState_ok {p0 : RImage} {p1 : Int} {r : RState} (h0 : spec_startState p0 p1 = some r) : ACalls Try.prog 17 [(.agg (eRImage p0)), (i64 p1)] [] (fun v st => v = (.agg (eRState r)) ∧ st = []) := by
 unfold spec_startState at h0
 refine ACalls.flat rfl (ai Try.func17 rfl rfl rfl rfl (sr rfl fun K1 hK1 => ao_box (m := 0) (st' := [⟨0, 37, 2, [(eRImage p0)]⟩]) go0 rfl rfl rfl rfl rfl (ao_alloc (m := 1) (st' := [⟨0, 37, 2, [(eRImage p0)]⟩, ⟨0, 31, 7, [[(i64 0), (i64 0), (i64 0), (i64 0), .zc, .zc, .zc]]⟩]) go0 zi31 rfl rfl (dn hK1 rfl (sr rfl fun K2 hK2 => zq tb rfl ?_)))))
 refine ao_bs (m := 2) (st' := [⟨0, 37, 2, [(eRImage p0)]⟩, ⟨0, 31, 7, [[(i64 0), (i64 0), (i64 0), (i64 0), .zc, .zc, .zc]]⟩, (ro 0 3 1 eI ([] : List Int))]) (l := ([] : List Int)) (enc := eI) go0 ei27 (by decide) rfl rfl rfl rfl rfl rfl ?_
 refine ao_bs (m := 3) (st' := [⟨0, 37, 2, [(eRImage p0)]⟩, ⟨0, 31, 7, [[(i64 0), (i64 0), (i64 0), (i64 0), .zc, .zc, .zc]]⟩, (ro 0 3 1 eI ([] : List Int)), (ro 0 97 3 eCell ([] : List Cell))]) (l := ([] : List Cell)) (enc := eCell) go0 ei28 (by decide) rfl rfl rfl rfl rfl rfl ?_
 refine zq tb rfl ?_
 refine ao_bs (m := 4) (st' := [⟨0, 37, 2, [(eRImage p0)]⟩, ⟨0, 31, 7, [[(i64 0), (i64 0), (i64 0), (i64 0), .zc, .zc, .zc]]⟩, (ro 0 3 1 eI ([] : List Int)), (ro 0 97 3 eCell ([] : List Cell)), (ro 0 3 1 eI ([] : List Int))]) (l := ([] : List Int)) (enc := eI) go0 ei27 (by decide) rfl rfl rfl rfl rfl rfl ?_
 refine ao_bs (m := 5) (st' := [⟨0, 37, 2, [(eRImage p0)]⟩, ⟨0, 31, 7, [[(i64 0), (i64 0), (i64 0), (i64 0), .zc, .zc, .zc]]⟩, (ro 0 3 1 eI ([] : List Int)), (ro 0 97 3 eCell ([] : List Cell)), (ro 0 3 1 eI ([] : List Int)), (ro 0 3 1 eI ([] : List Int))]) (l := ([] : List Int)) (enc := eI) go0 ei27 (by decide) rfl rfl rfl rfl rfl rfl ?_
 refine AO.weaken (Wk.frz (L := [(4, (.ptr 1 0 0 0)), (5, (i64 p1)), (6, (.own 2 0 (List.length ([] : List Int)))), (7, (.own 3 0 (List.length ([] : List Cell)))), (8, (.agg (eRImage p0))), (9, (.sl (List.map eI []))), (10, (.own 5 0 (List.length ([] : List Int))))]) (st' := [⟨0, 37, 2, [(eRImage p0)]⟩, ⟨0, 31, 7, [[(i64 0), (i64 0), (i64 0), (i64 0), .zc, .zc, .zc]]⟩, (ro 0 3 1 eI ([] : List Int)), (ro 0 97 3 eCell ([] : List Cell)), ⟨1, 3, 1, []⟩, (ro 0 3 1 eI ([] : List Int))]) (id := 4) rfl (show 0 ≤ 4 by decide) (pure_map fun _ => rfl) ⟨.rfl, .rfl, .rfl, .rfl, .rfl, (.frz rfl), .rfl, trivial⟩ rfl) (AO.weaken (Wk.frz (L := [(4, (.ptr 1 0 0 0)), (5, (i64 p1)), (6, (.own 2 0 (List.length ([] : List Int)))), (7, (.own 3 0 (List.length ([] : List Cell)))), (8, (.agg (eRImage p0))), (9, (.sl (List.map eI []))), (10, (.sl (List.map eI [])))]) (st' := [⟨0, 37, 2, [(eRImage p0)]⟩, ⟨0, 31, 7, [[(i64 0), (i64 0), (i64 0), (i64 0), .zc, .zc, .zc]]⟩, (ro 0 3 1 eI ([] : List Int)), (ro 0 97 3 eCell ([] : List Cell)), ⟨1, 3, 1, []⟩, ⟨1, 3, 1, []⟩]) (id := 5) rfl (show 0 ≤ 5 by decide) (pure_map fun _ => rfl) ⟨.rfl, .rfl, .rfl, .rfl, .rfl, .rfl, (.frz rfl), trivial⟩ rfl) (bs h0 fun q3 gq3 h0 => zc (v' := (.agg (eRFrame q3))) hb40 (spec_frameOf_ok gq3) rfl rfl rfl ?_))
 refine ao_bs (m := 6) (st' := [⟨0, 37, 2, [(eRImage p0)]⟩, ⟨0, 31, 7, [[(i64 0), (i64 0), (i64 0), (i64 0), .zc, .zc, .zc]]⟩, (ro 0 3 1 eI ([] : List Int)), (ro 0 97 3 eCell ([] : List Cell)), ⟨1, 3, 1, []⟩, ⟨1, 3, 1, []⟩, (ro 0 79 6 eRFrame [q3])]) (l := [q3]) (enc := eRFrame) go0 ei29 (by decide) rfl rfl rfl rfl rfl rfl ?_
 refine zz (.agg [(i64 3), (i64 0), (i64 0), (i64 p1), (.own 2 0 (List.length ([] : List Int))), (.own 3 0 (List.length ([] : List Cell))), (ow 6 0 [q3])]) (aq_bd ai31 bi31 zi31 rfl rfl) rfl (AO.weaken (Wk.frz (L := [(4, (.ptr 1 0 0 0)), (13, (.agg [(i64 3), (i64 0), (i64 0), (i64 p1), (.sl (List.map eI [])), (.own 3 0 (List.length ([] : List Cell))), (ow 6 0 [q3])]))]) (st' := [⟨0, 37, 2, [(eRImage p0)]⟩, ⟨0, 31, 7, [[(i64 0), (i64 0), (i64 0), (i64 0), .zc, .zc, .zc]]⟩, ⟨1, 3, 1, []⟩, (ro 0 97 3 eCell ([] : List Cell)), ⟨1, 3, 1, []⟩, ⟨1, 3, 1, []⟩, (ro 0 79 6 eRFrame [q3])]) (id := 2) rfl (show 0 ≤ 2 by decide) (pure_map fun _ => rfl) ⟨.rfl, (.agg ⟨.rfl, .rfl, .rfl, .rfl, (.frz1 rfl), .rfl, .rfl, trivial⟩), trivial⟩ rfl) (AO.weaken (Wk.frz (L := [(4, (.ptr 1 0 0 0)), (13, (.agg [(i64 3), (i64 0), (i64 0), (i64 p1), (.sl (List.map eI [])), (.sl (List.map eCell [])), (ow 6 0 [q3])]))]) (st' := [⟨0, 37, 2, [(eRImage p0)]⟩, ⟨0, 31, 7, [[(i64 0), (i64 0), (i64 0), (i64 0), .zc, .zc, .zc]]⟩, ⟨1, 3, 1, []⟩, ⟨1, 97, 3, []⟩, ⟨1, 3, 1, []⟩, ⟨1, 3, 1, []⟩, (ro 0 79 6 eRFrame [q3])]) (id := 3) rfl (show 0 ≤ 3 by decide) (pure_map fun _ => rfl) ⟨.rfl, (.agg ⟨.rfl, .rfl, .rfl, .rfl, .rfl, (.frz1 rfl), .rfl, trivial⟩), trivial⟩ rfl) (AO.weaken (Wk.frz (L := [(4, (.ptr 1 0 0 0)), (13, (.agg [(i64 3), (i64 0), (i64 0), (i64 p1), (.sl (List.map eI [])), (.sl (List.map eCell [])), (ls eRFrame [q3])]))]) (st' := [⟨0, 37, 2, [(eRImage p0)]⟩, ⟨0, 31, 7, [[(i64 0), (i64 0), (i64 0), (i64 0), .zc, .zc, .zc]]⟩, ⟨1, 3, 1, []⟩, ⟨1, 97, 3, []⟩, ⟨1, 3, 1, []⟩, ⟨1, 3, 1, []⟩, ⟨1, 79, 6, []⟩]) (id := 6) rfl (show 0 ≤ 6 by decide) (pure_map fun _ => rfl) ⟨.rfl, (.agg ⟨.rfl, .rfl, .rfl, .rfl, .rfl, .rfl, (.frz1 rfl), trivial⟩), trivial⟩ rfl) (ao_str (st' := [⟨0, 37, 2, [(eRImage p0)]⟩, ⟨0, 31, 7, [[(i64 3), (i64 0), (i64 0), (i64 p1), (.sl (List.map eI [])), (.sl (List.map eCell [])), (ls eRFrame [q3])]]⟩, ⟨1, 3, 1, []⟩, ⟨1, 97, 3, []⟩, ⟨1, 3, 1, []⟩, ⟨1, 3, 1, []⟩, ⟨1, 79, 6, []⟩]) go0 ti31 rfl rfl rfl rfl rfl rfl (show 0 + 7 ≤ 7 by decide) rfl (dn hK2 rfl ?_)))))
 replace h0 := Sh.some_eq h0
 subst r
 exact AW.ret (Exists.intro _ (And.intro (Wk.refl _ _) (aq_ldpa (x := .tmp 4) (off := 0) (cs := [(i64 3), (i64 0), (i64 0), (i64 p1), (.sl (List.map eI [])), (.sl (List.map eCell [])), (ls eRFrame [q3])]) (vs := [(i64 3), (i64 0), (i64 0), (i64 p1), (.sl (List.map eI [])), (.sl (List.map eCell [])), (ls eRFrame [q3])]) ti31 rfl rfl rfl (show 0 + 7 ≤ 7 by decide) rfl _ rfl)))
theorem spec_StartState_ok {N : Nat} {p0 : RImage} {p1 : Int} {r : RState × Bool} (h0 : spec_StartState N p0 p1 = some r) : ACalls Try.prog 5 [(.agg (eRImage p0)), (i64 p1)] [] (fun v st => v = (.tup [(.agg (eRState r.1)), (.bool r.2)]) ∧ st = []) := by
 unfold spec_StartState at h0
 refine ACalls.flat rfl (ai Try.func5 rfl rfl rfl rfl (sr rfl fun K1 hK1 => ao_box (m := 0) (st' := [⟨0, 37, 2, [(eRImage p0)]⟩]) go0 rfl rfl rfl rfl rfl (ao_alloc (m := 1) (st' := [⟨0, 37, 2, [(eRImage p0)]⟩, ⟨0, 31, 7, [[(i64 0), (i64 0), (i64 0), (i64 0), .zc, .zc, .zc]]⟩]) go0 zi31 rfl rfl (zq tb rfl (dn hK1 rfl (AW.seq fun K2 hK2 => AW.seq fun K3 hK3 => bs h0 fun o5 h1 h0 => ?_))))))
 have M5 : ∀ (t4 : Bool), o5 = t4 → ∀ s, Wk 0 s ⟨18, envL [(1, (i64 p1)), (2, (.ptr 0 0 0 0)), (4, (.ptr 1 0 0 0)), (13, (.bool t4))], [⟨0, 37, 2, [(eRImage p0)]⟩, ⟨0, 31, 7, [[(i64 0), (i64 0), (i64 0), (i64 0), .zc, .zc, .zc]]⟩]⟩ → K3 s := by
  intro t4 hq s hw
  subst o5
  try dsimp only at h0
  refine hK3 _ (AW.weaken hw ?_)
  refine ci h0 rfl ?_ ?_ <;> clear h0
  ·intro b6 h0
   refine sr rfl fun K7 hK7 => zz (.agg [(i64 0), (i64 0), (i64 0), (i64 0), .zc, .zc, .zc]) (aq_bd ai31 bi31 zi31 rfl rfl) rfl (ao_str (st' := [⟨0, 37, 2, [(eRImage p0)]⟩, ⟨0, 31, 7, [[(i64 0), (i64 0), (i64 0), (i64 0), .zc, .zc, .zc]]⟩]) go0 ti31 rfl rfl rfl rfl rfl rfl (show 0 + 7 ≤ 7 by decide) rfl (zq tb rfl (dn hK7 rfl ?_)))
   replace h0 := Sh.some_eq h0
   subst r
   exact AW.ret (Exists.intro _ (And.intro (((((Wk.cellLe (id := 1) (cs := [(i64 0), (i64 0), (i64 0), (i64 0), .zc, .zc, .zc]) (cs' := [(i64 0), (i64 0), (i64 0), (i64 0), (.sl (List.map eI [])), .zc, .zc]) (st' := [⟨0, 37, 2, [(eRImage p0)]⟩, ⟨0, 31, 7, [[(i64 0), (i64 0), (i64 0), (i64 0), (.sl (List.map eI [])), .zc, .zc]]⟩]) rfl ⟨le.rfl, le.rfl, le.rfl, le.rfl, le.zc, le.rfl, le.rfl, trivial⟩ rfl rfl).trans (Wk.cellLe (id := 1) (cs := [(i64 0), (i64 0), (i64 0), (i64 0), (.sl (List.map eI [])), .zc, .zc]) (cs' := [(i64 0), (i64 0), (i64 0), (i64 0), (.sl (List.map eI [])), (.sl (List.map eCell [])), .zc]) (st' := [⟨0, 37, 2, [(eRImage p0)]⟩, ⟨0, 31, 7, [[(i64 0), (i64 0), (i64 0), (i64 0), (.sl (List.map eI [])), (.sl (List.map eCell [])), .zc]]⟩]) rfl ⟨le.rfl, le.rfl, le.rfl, le.rfl, le.rfl, le.zc, le.rfl, trivial⟩ rfl rfl)).trans (Wk.cellLe (id := 1) (cs := [(i64 0), (i64 0), (i64 0), (i64 0), (.sl (List.map eI [])), (.sl (List.map eCell [])), .zc]) (cs' := [(i64 0), (i64 0), (i64 0), (i64 0), (.sl (List.map eI [])), (.sl (List.map eCell [])), (.sl (List.map eRFrame []))]) (st' := [⟨0, 37, 2, [(eRImage p0)]⟩, ⟨0, 31, 7, [[(i64 0), (i64 0), (i64 0), (i64 0), (.sl (List.map eI [])), (.sl (List.map eCell [])), (.sl (List.map eRFrame []))]]⟩]) rfl ⟨le.rfl, le.rfl, le.rfl, le.rfl, le.rfl, le.rfl, le.zc, trivial⟩ rfl rfl)).trans (Wk.permk (L := [(4, (.ptr 0 0 0 0)), (5, (.bool false))]) (st' := [⟨0, 31, 7, [[(i64 0), (i64 0), (i64 0), (i64 0), (.sl (List.map eI [])), (.sl (List.map eCell [])), (.sl (List.map eRFrame []))]]⟩]) (st1 := [⟨0, 31, 7, [[(i64 0), (i64 0), (i64 0), (i64 0), (.sl (List.map eI [])), (.sl (List.map eCell [])), (.sl (List.map eRFrame []))]]⟩]) [1] rfl .nil (by decide) rfl rfl (.raw rfl rfl .nil) ⟨.rfl, .rfl, trivial⟩)).trans (Wk.to (L := [(4, (.ptr 0 0 0 0)), (5, (.bool false))]) ⟨.rfl, .rfl, trivial⟩)) (aq_ldpa (x := .tmp 4) (off := 0) (cs := [(i64 0), (i64 0), (i64 0), (i64 0), (.sl (List.map eI [])), (.sl (List.map eCell [])), (.sl (List.map eRFrame []))]) (vs := [(i64 0), (i64 0), (i64 0), (i64 0), (.sl (List.map eI [])), (.sl (List.map eCell [])), (.sl (List.map eRFrame []))]) ti31 rfl rfl rfl (show 0 + 7 ≤ 7 by decide) rfl _ rfl)))
  ·intro b6 h0
   refine AW.skip (hK2 _ (sr rfl fun K8 hK8 => zm tb 2 rfl (bs h0 fun q9 gq9 h0 => zc (v' := (.agg (eRState q9))) hb17 (spec_startState_ok gq9) rfl rfl rfl (ao_str (st' := [⟨0, 37, 2, [(eRImage p0)]⟩, ⟨0, 31, 7, [(eRState q9)]⟩]) go0 ti31 rfl rfl rfl rfl rfl rfl (show 0 + 7 ≤ 7 by decide) rfl (zq tb rfl (dn hK8 rfl ?_))))))
   replace h0 := Sh.some_eq h0
   subst r
   exact AW.ret (Exists.intro _ (And.intro ((Wk.permk (L := [(4, (.ptr 0 0 0 0)), (5, (.bool true))]) (st' := [⟨0, 31, 7, [(eRState q9)]⟩]) (st1 := [⟨0, 31, 7, [(eRState q9)]⟩]) [1] rfl .nil (by decide) rfl rfl (.raw rfl rfl .nil) ⟨.rfl, .rfl, trivial⟩).trans (Wk.to (L := [(4, (.ptr 0 0 0 0)), (5, (.bool true))]) ⟨.rfl, .rfl, trivial⟩)) (aq_ldpa (x := .tmp 4) (off := 0) (cs := (eRState q9)) (vs := (eRState q9)) ti31 rfl rfl rfl (show 0 + 7 ≤ 7 by decide) rfl _ rfl)))
 refine AW.regionO rfl (zq tb rfl (bs h1 fun q10 gq10 h1 => zc hb15 (spec_validImage_ok gq10) rfl rfl rfl (zm tb 2 rfl ?_)))
 rcases Sh.ite_some h1 with ⟨b11, h1⟩ | ⟨b11, h1⟩
 ·exact zs b11 rfl (zs b11 rfl (zs b11 rfl (zt b11 rfl (AO.done (M5 true (Sh.some_eq h1).symm _ (Wk.tr rfl))))))
 ·exact zg tb b11 rfl (bs h1 fun q12 gq12 h1 => zd b11 hb16 (spec_inRange_ok gq12) rfl rfl rfl rfl (zg tb b11 rfl (zf b11 rfl (AO.done (M5 (!q12) (Sh.some_eq h1).symm _ (Wk.tr rfl))))))
theorem laws_toCon_2_ok {N : Nat} {p0 : RCon} {r : RCon} (h0 : laws_toCon N p0 = some r) : ACalls Try.prog 81 [(.agg (eRCon p0))] [] (fun v st => v = (.agg [(ow 0 0 r.fields)]) ∧ st = [(ro 0 3 1 eI r.fields)]) := by
 unfold laws_toCon at h0
 refine ACalls.wk (r0 := (.agg [(ow 0 0 r.fields)])) (st0 := [(ro 0 3 1 eI r.fields), ⟨0, 128, 1, [[(ow 0 0 r.fields)]]⟩]) ?_ (Wk.sel (L := [(0, (.agg [(ow 0 0 r.fields)]))]) (st' := [(ro 0 3 1 eI r.fields)]) [0] rfl (by decide) rfl rfl (.pure (pure_map fun _ => rfl) trivial) ⟨.rfl, trivial⟩)
 refine ai Try.func81 rfl rfl rfl rfl (sr rfl fun K1 hK1 => ao_box (m := 0) (st' := [⟨0, 130, 1, [(eRCon p0)]⟩]) go0 rfl rfl rfl rfl rfl (ao_alloc (m := 1) (st' := [⟨0, 130, 1, [(eRCon p0)]⟩, ⟨0, 128, 1, [[.zc]]⟩]) go0 zi128 rfl rfl (dn hK1 rfl (sr rfl fun K2 hK2 => ao_alloc (m := 2) (st' := [⟨0, 130, 1, [(eRCon p0)]⟩, ⟨0, 128, 1, [[.zc]]⟩, ⟨0, 128, 1, [[.zc]]⟩]) go0 zi128 rfl rfl (dn hK2 rfl (sr rfl fun K3 hK3 => zm tb 2 rfl (bs h0 fun q4 gq4 h0 => ao_call (v' := (ow 3 0 q4)) (st' := [⟨0, 130, 1, [(eRCon p0)]⟩, ⟨0, 128, 1, [[.zc]]⟩, ⟨0, 128, 1, [[.zc]]⟩, (ro 0 3 1 eI q4)]) go0 hb61 (laws_toIntS_ok gq4) rfl rfl ⟨(pure_map' fun _ => rfl), trivial⟩ rfl rfl ?_)))))))
 refine zq tb rfl (ao_str (st' := [⟨0, 130, 1, [(eRCon p0)]⟩, ⟨0, 128, 1, [[.zc]]⟩, ⟨0, 128, 1, [[(ow 3 0 q4)]]⟩, (ro 0 3 1 eI q4)]) go0 ti27 rfl rfl rfl rfl rfl rfl (show 0 + 1 ≤ 1 by decide) rfl (dn hK3 rfl (sr rfl fun K5 hK5 => zq tb rfl (ao_str (st' := [⟨0, 130, 1, [(eRCon p0)]⟩, ⟨0, 128, 1, [[(ow 3 0 q4)]]⟩, ⟨0, 128, 1, [[(ow 3 0 q4)]]⟩, (ro 0 3 1 eI q4)]) go0 ti128 rfl rfl rfl rfl rfl rfl (show 0 + 1 ≤ 1 by decide) rfl (dn hK5 rfl ?_)))))
 replace h0 := Sh.some_eq h0
 subst r
 exact AW.ret (Exists.intro _ (And.intro ((Wk.permk (L := [(2, (.ptr 1 0 0 0))]) (st' := [(ro 0 3 1 eI q4), ⟨0, 128, 1, [[(ow 0 0 q4)]]⟩]) (st1 := [(ro 0 3 1 eI q4), ⟨0, 128, 1, [[(ow 3 0 q4)]]⟩]) [3, 1] rfl .nil (by decide) rfl rfl (.pure (pure_map fun _ => rfl) (.raw rfl rfl .nil)) ⟨.rfl, trivial⟩).trans (Wk.to (L := [(2, (.ptr 1 0 0 0))]) ⟨.rfl, trivial⟩)) (aq_ldpa (x := .tmp 2) (off := 0) (cs := [(ow 0 0 q4)]) (vs := [(ow 0 0 q4)]) ti128 rfl rfl rfl (show 0 + 1 ≤ 1 by decide) rfl _ ⟨rfl, rfl⟩)))
theorem laws_toConS_2_ok {N : Nat} {p0 : (List RCon)} {r : (List RCon)} (h0 : laws_toConS N p0 = some r) : ACalls Try.prog 60 [(ls eRCon p0)] [] (fun v st => v = (ow 0 0 r) ∧ st = [(ro 0 128 1 (eRConD 3) r)]) := by
 unfold laws_toConS at h0
 refine ai Try.func60 rfl rfl rfl rfl (zr tb rfl rfl (sr rfl fun K2 hK2 => zq tb rfl (zl tb rfl rfl (bs h0 fun l3 gl3 h0 => ao_maked (m := 0) (st' := [(ro 0 128 1 (eRConD 3) l3)]) (enc := (eRConD 3)) (u := (RCon.mk [])) ei81 rfl rfl ⟨.inr ⟨rfl, _, _, rfl, by decide⟩, trivial⟩ gl3 rfl rfl (zq tb rfl (dn hK2 rfl (AW.seq fun K4 hK4 => zr tb rfl rfl (bs h0 fun o9 h1 h0 => ?_))))))))
 have M9 : ∀ (l8 : (List RCon)), o9 = l8 → ∀ s, Wk 0 s ⟨23, envL [(3, (ow 0 0 l8))], [(ro 0 128 1 (eRConD 3) l8)]⟩ → K4 s := by
  intro l8 hq s hw
  subst o9
  try dsimp only at h0
  refine hK4 _ (AW.weaken hw (zr tb rfl rfl ?_))
  replace h0 := Sh.some_eq h0
  subst r
  exact AW.ret (xr (Wk.to (L := [(2, (ow 0 0 l8))]) ⟨.rfl, trivial⟩))
 refine AW.block (AW.loopF (σ := Int × (List RCon)) (fun n v => laws_toConS_L1 N p0 n v.1 v.2 = some o9) (fun (i6, l7) => ⟨23, envL [(0, (ls eRCon p0)), (3, (ow 0 0 l7)), (4, (i64 i6))], [(ro 0 128 1 (eRConD 3) l7)]⟩) N (0, l3) h1 (Wk.tr rfl) (fun _ hv => by rw [laws_toConS_L1] at hv; cases hv) ?_)
 rintro n ⟨i6, l7⟩ h1
 try dsimp only at h1 ⊢
 rw [laws_toConS_L1] at h1
 refine AW.seq fun K11 hK11 => sr rfl fun K12 hK12 => zm tb 2 rfl (zl tb rfl rfl (zq tb rfl (dn hK12 rfl ?_)))
 refine ci h1 rfl ?_ ?_ <;> clear h1
 ·intro b13 h1
  refine AW.skip (hK11 _ (AW.seq fun K14 hK14 => AW.block (AW.regionO rfl (zm tb 4 rfl (bs h1 fun c15 gc15 h1 => zx ei62 gc15 rfl rfl rfl (zq tb rfl (bs h1 fun q16 gq16 h1 => ao_call (v' := (.agg [(ow 1 0 q16.fields)])) (st' := [(ro 0 128 1 (eRConD 3) l7), (ro 0 3 1 eI q16.fields)]) go0 hb81 (laws_toCon_2_ok gq16) rfl rfl ⟨(pure_map' fun _ => rfl), trivial⟩ rfl rfl (bs h1 fun c17 gc17 h1 => zz (.ptr 0 0 (Int.toNat i6) 0) (aq_ixo ei81 rfl rfl rfl rfl gc17) rfl ?_))))))))
  refine ao_sth (st' := [⟨0, 128, 1, hole l7 (eRConD 3) i6 [(ow 1 0 q16.fields)]⟩, (ro 0 3 1 eI q16.fields)]) go0 ti128 rfl rfl gc17 rfl rfl rfl (show 1 ≤ 1 by decide) rfl rfl ?_
  refine AO.weaken (Wk.take (id := 0) (m := 1) (j := 0) (i := i6) (c := c17) (ys := q16.fields) (encY := eI) (x' := [(.dv 3 1 (List.map eI q16.fields))]) (st' := [⟨0, 128, 1, hole l7 (eRConD 3) i6 [(.dv 3 1 (List.map eI q16.fields))]⟩, ⟨1, 3, 1, []⟩]) rfl gc17 rfl rfl rfl (by decide) (show 0 ≤ 1 by decide) (fun _ => rfl) rfl rfl) ?_
  refine AO.weaken (Wk.filled (id := 0) (i := i6) (u := q16) (st' := [(ro 0 128 1 (eRConD 3) (Sh.put l7 i6 q16)), ⟨1, 3, 1, []⟩]) rfl rfl rfl) (dn hK14 rfl (AW.regionO rfl (zm tb 3 rfl ?_)))
  exact AO.done (xi (Sh.w (i6 + 1), Sh.put l7 i6 q16) h1 (by refine Wk.trans (Wk.permk (L := [(0, (.sl (List.map eRCon p0))), (3, (.own 0 0 (List.length l7))), (4, (i64 (Sh.w (i6 + 1))))]) (st' := [⟨0, 128, 1, List.map (eRConD 3) (Sh.put l7 i6 q16)⟩]) (st1 := [⟨0, 128, 1, List.map (eRConD 3) (Sh.put l7 i6 q16)⟩]) [0] rfl .nil (by decide) rfl rfl (.deep (pure_mapD fun _ => rfl) .nil) ⟨.rfl, .rfl, .rfl, trivial⟩) ?_; exact Wk.to (L := [(0, (.sl (List.map eRCon p0))), (3, (.own 0 0 (List.length (Sh.put l7 i6 q16)))), (4, (i64 (Sh.w (i6 + 1))))]) ⟨.rfl, (.len (by simp only [Sh.put_len])), .rfl, trivial⟩))
 ·intro b13 h1
  exact AW.exit (M9 l7 (Sh.some_eq h1).symm _ (Wk.tr rfl))
theorem laws_toDecl_2_ok {N : Nat} {p0 : RDecl} {r : RDecl} (h0 : laws_toDecl N p0 = some r) : ACalls Try.prog 41 [(.agg (eRDecl p0))] [] (fun v st => v = (.agg [(i64 r.from_), (i64 r.to), (ow 0 0 r.cons)]) ∧ st = [(ro 0 128 1 (eRConD 3) r.cons)]) := by
 unfold laws_toDecl at h0
 refine ACalls.wk (r0 := (.agg [(i64 r.from_), (i64 r.to), (ow 0 0 r.cons)])) (st0 := [(ro 0 128 1 (eRConD 3) r.cons), ⟨0, 83, 3, [[(i64 r.from_), (i64 r.to), (ow 0 0 r.cons)]]⟩]) ?_ (Wk.sel (L := [(0, (.agg [(i64 r.from_), (i64 r.to), (ow 0 0 r.cons)]))]) (st' := [(ro 0 128 1 (eRConD 3) r.cons)]) [0] rfl (by decide) rfl rfl (.deep (pure_mapD fun _ => rfl) trivial) ⟨.rfl, trivial⟩)
 refine ai Try.func41 rfl rfl rfl rfl (sr rfl fun K1 hK1 => ao_box (m := 0) (st' := [⟨0, 64, 3, [(eRDecl p0)]⟩]) go0 rfl rfl rfl rfl rfl (ao_alloc (m := 1) (st' := [⟨0, 64, 3, [(eRDecl p0)]⟩, ⟨0, 83, 3, [[(i64 0), (i64 0), .zc]]⟩]) go0 zi83 rfl rfl (dn hK1 rfl (sr rfl fun K2 hK2 => ao_alloc (m := 2) (st' := [⟨0, 64, 3, [(eRDecl p0)]⟩, ⟨0, 83, 3, [[(i64 0), (i64 0), .zc]]⟩, ⟨0, 83, 3, [[(i64 0), (i64 0), .zc]]⟩]) go0 zi83 rfl rfl (dn hK2 rfl (sr rfl fun K3 hK3 => zm tb 3 rfl (ao_str (st' := [⟨0, 64, 3, [(eRDecl p0)]⟩, ⟨0, 83, 3, [[(i64 0), (i64 0), .zc]]⟩, ⟨0, 83, 3, [[(i64 p0.from_), (i64 0), .zc]]⟩]) go0 ti3 rfl rfl rfl rfl rfl rfl (show 0 + 1 ≤ 3 by decide) rfl (dn hK3 rfl ?_))))))))
 refine sr rfl fun K4 hK4 => zm tb 3 rfl (ao_str (st' := [⟨0, 64, 3, [(eRDecl p0)]⟩, ⟨0, 83, 3, [[(i64 0), (i64 0), .zc]]⟩, ⟨0, 83, 3, [[(i64 p0.from_), (i64 p0.to), .zc]]⟩]) go0 ti3 rfl rfl rfl rfl rfl rfl (show 1 + 1 ≤ 3 by decide) rfl (dn hK4 rfl (sr rfl fun K5 hK5 => zm tb 2 rfl (bs h0 fun q6 gq6 h0 => ao_call (v' := (ow 3 0 q6)) (st' := [⟨0, 64, 3, [(eRDecl p0)]⟩, ⟨0, 83, 3, [[(i64 0), (i64 0), .zc]]⟩, ⟨0, 83, 3, [[(i64 p0.from_), (i64 p0.to), .zc]]⟩, (ro 0 128 1 (eRConD 3) q6)]) go0 hb60 (laws_toConS_2_ok gq6) rfl rfl ⟨(pure_mapD fun _ => rfl), trivial⟩ rfl rfl (zq tb rfl (ao_str (st' := [⟨0, 64, 3, [(eRDecl p0)]⟩, ⟨0, 83, 3, [[(i64 0), (i64 0), .zc]]⟩, ⟨0, 83, 3, [[(i64 p0.from_), (i64 p0.to), (ow 3 0 q6)]]⟩, (ro 0 128 1 (eRConD 3) q6)]) go0 ti81 rfl rfl rfl rfl rfl rfl (show 2 + 1 ≤ 3 by decide) rfl (dn hK5 rfl (sr rfl fun K7 hK7 => ?_))))))))
 refine zq tb rfl (ao_str (st' := [⟨0, 64, 3, [(eRDecl p0)]⟩, ⟨0, 83, 3, [[(i64 p0.from_), (i64 p0.to), (ow 3 0 q6)]]⟩, ⟨0, 83, 3, [[(i64 p0.from_), (i64 p0.to), (ow 3 0 q6)]]⟩, (ro 0 128 1 (eRConD 3) q6)]) go0 ti83 rfl rfl rfl rfl rfl rfl (show 0 + 3 ≤ 3 by decide) rfl (dn hK7 rfl ?_))
 replace h0 := Sh.some_eq h0
 subst r
 exact AW.ret (Exists.intro _ (And.intro ((Wk.permk (L := [(2, (.ptr 1 0 0 0))]) (st' := [(ro 0 128 1 (eRConD 3) q6), ⟨0, 83, 3, [[(i64 p0.from_), (i64 p0.to), (ow 0 0 q6)]]⟩]) (st1 := [(ro 0 128 1 (eRConD 3) q6), ⟨0, 83, 3, [[(i64 p0.from_), (i64 p0.to), (ow 3 0 q6)]]⟩]) [3, 1] rfl .nil (by decide) rfl rfl (.deep (pure_mapD fun _ => rfl) (.raw rfl rfl .nil)) ⟨.rfl, trivial⟩).trans (Wk.to (L := [(2, (.ptr 1 0 0 0))]) ⟨.rfl, trivial⟩)) (aq_ldpa (x := .tmp 2) (off := 0) (cs := [(i64 p0.from_), (i64 p0.to), (ow 0 0 q6)]) (vs := [(i64 p0.from_), (i64 p0.to), (ow 0 0 q6)]) ti83 rfl rfl rfl (show 0 + 3 ≤ 3 by decide) rfl _ ⟨rfl, rfl⟩)))
theorem laws_toDeclS_2_ok {N : Nat} {p0 : (List RDecl)} {r : (List RDecl)} (h0 : laws_toDeclS N p0 = some r) : ACalls Try.prog 18 [(ls eRDecl p0)] [] (fun v st => v = (ow 0 0 r) ∧ st = [(ro 0 83 3 (eRDeclD 128 3) r)]) := by
 unfold laws_toDeclS at h0
 refine ai Try.func18 rfl rfl rfl rfl (zr tb rfl rfl (sr rfl fun K2 hK2 => zq tb rfl (zl tb rfl rfl (bs h0 fun l3 gl3 h0 => ao_maked (m := 0) (st' := [(ro 0 83 3 (eRDeclD 128 3) l3)]) (enc := (eRDeclD 128 3)) (u := (RDecl.mk 0 0 [])) ei34 rfl rfl ⟨.inl ⟨rfl, rfl⟩, ⟨.inl ⟨rfl, rfl⟩, ⟨.inr ⟨rfl, _, _, rfl, by decide⟩, trivial⟩⟩⟩ gl3 rfl rfl (zq tb rfl (dn hK2 rfl (AW.seq fun K4 hK4 => zr tb rfl rfl (bs h0 fun o9 h1 h0 => ?_))))))))
 have M9 : ∀ (l8 : (List RDecl)), o9 = l8 → ∀ s, Wk 0 s ⟨23, envL [(3, (ow 0 0 l8))], [(ro 0 83 3 (eRDeclD 128 3) l8)]⟩ → K4 s := by
  intro l8 hq s hw
  subst o9
  try dsimp only at h0
  refine hK4 _ (AW.weaken hw (zr tb rfl rfl ?_))
  replace h0 := Sh.some_eq h0
  subst r
  exact AW.ret (xr (Wk.to (L := [(2, (ow 0 0 l8))]) ⟨.rfl, trivial⟩))
 refine AW.block (AW.loopF (σ := Int × (List RDecl)) (fun n v => laws_toDeclS_L1 N p0 n v.1 v.2 = some o9) (fun (i6, l7) => ⟨23, envL [(0, (ls eRDecl p0)), (3, (ow 0 0 l7)), (4, (i64 i6))], [(ro 0 83 3 (eRDeclD 128 3) l7)]⟩) N (0, l3) h1 (Wk.tr rfl) (fun _ hv => by rw [laws_toDeclS_L1] at hv; cases hv) ?_)
 rintro n ⟨i6, l7⟩ h1
 try dsimp only at h1 ⊢
 rw [laws_toDeclS_L1] at h1
 refine AW.seq fun K11 hK11 => sr rfl fun K12 hK12 => zm tb 2 rfl (zl tb rfl rfl (zq tb rfl (dn hK12 rfl ?_)))
 refine ci h1 rfl ?_ ?_ <;> clear h1
 ·intro b13 h1
  refine AW.skip (hK11 _ (AW.seq fun K14 hK14 => AW.block (AW.regionO rfl (zm tb 4 rfl (bs h1 fun c15 gc15 h1 => zx ei22 gc15 rfl rfl rfl (zq tb rfl (bs h1 fun q16 gq16 h1 => ao_call (v' := (.agg [(i64 q16.from_), (i64 q16.to), (ow 1 0 q16.cons)])) (st' := [(ro 0 83 3 (eRDeclD 128 3) l7), (ro 0 128 1 (eRConD 3) q16.cons)]) go0 hb41 (laws_toDecl_2_ok gq16) rfl rfl ⟨(pure_mapD fun _ => rfl), trivial⟩ rfl rfl (bs h1 fun c17 gc17 h1 => zz (.ptr 0 0 (Int.toNat i6) 0) (aq_ixo ei34 rfl rfl rfl rfl gc17) rfl ?_))))))))
  refine ao_sth (st' := [⟨0, 83, 3, hole l7 (eRDeclD 128 3) i6 [(i64 q16.from_), (i64 q16.to), (ow 1 0 q16.cons)]⟩, (ro 0 128 1 (eRConD 3) q16.cons)]) go0 ti83 rfl rfl gc17 rfl rfl rfl (show 3 ≤ 3 by decide) rfl rfl ?_
  refine AO.weaken (Wk.take (id := 0) (m := 1) (j := 2) (i := i6) (c := c17) (ys := q16.cons) (encY := (eRConD 3)) (x' := [(i64 q16.from_), (i64 q16.to), (.dv 128 1 (List.map (eRConD 3) q16.cons))]) (st' := [⟨0, 83, 3, hole l7 (eRDeclD 128 3) i6 [(i64 q16.from_), (i64 q16.to), (.dv 128 1 (List.map (eRConD 3) q16.cons))]⟩, ⟨1, 128, 1, []⟩]) rfl gc17 rfl rfl rfl (by decide) (show 0 ≤ 1 by decide) (fun _ => rfl) rfl rfl) ?_
  refine AO.weaken (Wk.filled (id := 0) (i := i6) (u := q16) (st' := [(ro 0 83 3 (eRDeclD 128 3) (Sh.put l7 i6 q16)), ⟨1, 128, 1, []⟩]) rfl rfl rfl) (dn hK14 rfl (AW.regionO rfl (zm tb 3 rfl ?_)))
  exact AO.done (xi (Sh.w (i6 + 1), Sh.put l7 i6 q16) h1 (by refine Wk.trans (Wk.permk (L := [(0, (.sl (List.map eRDecl p0))), (3, (.own 0 0 (List.length l7))), (4, (i64 (Sh.w (i6 + 1))))]) (st' := [⟨0, 83, 3, List.map (eRDeclD 128 3) (Sh.put l7 i6 q16)⟩]) (st1 := [⟨0, 83, 3, List.map (eRDeclD 128 3) (Sh.put l7 i6 q16)⟩]) [0] rfl .nil (by decide) rfl rfl (.deep (pure_mapD fun _ => rfl) .nil) ⟨.rfl, .rfl, .rfl, trivial⟩) ?_; exact Wk.to (L := [(0, (.sl (List.map eRDecl p0))), (3, (.own 0 0 (List.length (Sh.put l7 i6 q16)))), (4, (i64 (Sh.w (i6 + 1))))]) ⟨.rfl, (.len (by simp only [Sh.put_len])), .rfl, trivial⟩))
 ·intro b13 h1
  exact AW.exit (M9 l7 (Sh.some_eq h1).symm _ (Wk.tr rfl))
theorem laws_toInstr_2_ok {N : Nat} {p0 : RInstr} {r : RInstr} (h0 : laws_toInstr N p0 = some r) : ACalls Try.prog 82 [(.agg (eRInstr p0))] [] (fun v st => v = (.agg [(i64 r.op), (i64 r.dst), (i64 r.num), (i64 r.into), (ow 0 0 r.args), (ow 1 0 r.jumps)]) ∧ st = [(ro 0 3 1 eI r.args), (ro 0 3 1 eI r.jumps)]) := by
 unfold laws_toInstr at h0
 refine ACalls.wk (r0 := (.agg [(i64 r.op), (i64 r.dst), (i64 r.num), (i64 r.into), (ow 0 0 r.args), (ow 1 0 r.jumps)])) (st0 := [(ro 0 3 1 eI r.args), (ro 0 3 1 eI r.jumps), ⟨0, 92, 6, [[(i64 r.op), (i64 r.dst), (i64 r.num), (i64 r.into), (ow 0 0 r.args), (ow 1 0 r.jumps)]]⟩]) ?_ (Wk.sel (L := [(0, (.agg [(i64 r.op), (i64 r.dst), (i64 r.num), (i64 r.into), (ow 0 0 r.args), (ow 1 0 r.jumps)]))]) (st' := [(ro 0 3 1 eI r.args), (ro 0 3 1 eI r.jumps)]) [0, 1] rfl (by decide) rfl rfl (.pure (pure_map fun _ => rfl) (.pure (pure_map fun _ => rfl) trivial)) ⟨.rfl, trivial⟩)
 refine ai Try.func82 rfl rfl rfl rfl (sr rfl fun K1 hK1 => ao_box (m := 0) (st' := [⟨0, 132, 6, [(eRInstr p0)]⟩]) go0 rfl rfl rfl rfl rfl (ao_alloc (m := 1) (st' := [⟨0, 132, 6, [(eRInstr p0)]⟩, ⟨0, 92, 6, [[(i64 0), (i64 0), (i64 0), (i64 0), .zc, .zc]]⟩]) go0 zi92 rfl rfl (dn hK1 rfl (sr rfl fun K2 hK2 => ao_alloc (m := 2) (st' := [⟨0, 132, 6, [(eRInstr p0)]⟩, ⟨0, 92, 6, [[(i64 0), (i64 0), (i64 0), (i64 0), .zc, .zc]]⟩, ⟨0, 92, 6, [[(i64 0), (i64 0), (i64 0), (i64 0), .zc, .zc]]⟩]) go0 zi92 rfl rfl (dn hK2 rfl (sr rfl fun K3 hK3 => zm tb 3 rfl (ao_str (st' := [⟨0, 132, 6, [(eRInstr p0)]⟩, ⟨0, 92, 6, [[(i64 0), (i64 0), (i64 0), (i64 0), .zc, .zc]]⟩, ⟨0, 92, 6, [[(i64 p0.op), (i64 0), (i64 0), (i64 0), .zc, .zc]]⟩]) go0 ti3 rfl rfl rfl rfl rfl rfl (show 0 + 1 ≤ 6 by decide) rfl (dn hK3 rfl ?_))))))))
 refine sr rfl fun K4 hK4 => zm tb 3 rfl (ao_str (st' := [⟨0, 132, 6, [(eRInstr p0)]⟩, ⟨0, 92, 6, [[(i64 0), (i64 0), (i64 0), (i64 0), .zc, .zc]]⟩, ⟨0, 92, 6, [[(i64 p0.op), (i64 p0.dst), (i64 0), (i64 0), .zc, .zc]]⟩]) go0 ti3 rfl rfl rfl rfl rfl rfl (show 1 + 1 ≤ 6 by decide) rfl (dn hK4 rfl (sr rfl fun K5 hK5 => zm tb 3 rfl (ao_str (st' := [⟨0, 132, 6, [(eRInstr p0)]⟩, ⟨0, 92, 6, [[(i64 0), (i64 0), (i64 0), (i64 0), .zc, .zc]]⟩, ⟨0, 92, 6, [[(i64 p0.op), (i64 p0.dst), (i64 p0.num), (i64 0), .zc, .zc]]⟩]) go0 ti3 rfl rfl rfl rfl rfl rfl (show 2 + 1 ≤ 6 by decide) rfl (dn hK5 rfl (sr rfl fun K6 hK6 => zm tb 3 rfl (ao_str (st' := [⟨0, 132, 6, [(eRInstr p0)]⟩, ⟨0, 92, 6, [[(i64 0), (i64 0), (i64 0), (i64 0), .zc, .zc]]⟩, ⟨0, 92, 6, [[(i64 p0.op), (i64 p0.dst), (i64 p0.num), (i64 p0.into), .zc, .zc]]⟩]) go0 ti3 rfl rfl rfl rfl rfl rfl (show 3 + 1 ≤ 6 by decide) rfl (dn hK6 rfl ?_))))))))
 refine sr rfl fun K7 hK7 => zm tb 2 rfl (bs h0 fun q8 gq8 h0 => ao_call (v' := (ow 3 0 q8)) (st' := [⟨0, 132, 6, [(eRInstr p0)]⟩, ⟨0, 92, 6, [[(i64 0), (i64 0), (i64 0), (i64 0), .zc, .zc]]⟩, ⟨0, 92, 6, [[(i64 p0.op), (i64 p0.dst), (i64 p0.num), (i64 p0.into), .zc, .zc]]⟩, (ro 0 3 1 eI q8)]) go0 hb61 (laws_toIntS_ok gq8) rfl rfl ⟨(pure_map' fun _ => rfl), trivial⟩ rfl rfl (zq tb rfl (ao_str (st' := [⟨0, 132, 6, [(eRInstr p0)]⟩, ⟨0, 92, 6, [[(i64 0), (i64 0), (i64 0), (i64 0), .zc, .zc]]⟩, ⟨0, 92, 6, [[(i64 p0.op), (i64 p0.dst), (i64 p0.num), (i64 p0.into), (ow 3 0 q8), .zc]]⟩, (ro 0 3 1 eI q8)]) go0 ti27 rfl rfl rfl rfl rfl rfl (show 4 + 1 ≤ 6 by decide) rfl (dn hK7 rfl (sr rfl fun K9 hK9 => zm tb 2 rfl (bs h0 fun q10 gq10 h0 => ao_call (v' := (ow 4 0 q10)) (st' := [⟨0, 132, 6, [(eRInstr p0)]⟩, ⟨0, 92, 6, [[(i64 0), (i64 0), (i64 0), (i64 0), .zc, .zc]]⟩, ⟨0, 92, 6, [[(i64 p0.op), (i64 p0.dst), (i64 p0.num), (i64 p0.into), (ow 3 0 q8), .zc]]⟩, (ro 0 3 1 eI q8), (ro 0 3 1 eI q10)]) go0 hb61 (laws_toIntS_ok gq10) rfl rfl ⟨(pure_map' fun _ => rfl), trivial⟩ rfl rfl (zq tb rfl ?_)))))))
 refine ao_str (st' := [⟨0, 132, 6, [(eRInstr p0)]⟩, ⟨0, 92, 6, [[(i64 0), (i64 0), (i64 0), (i64 0), .zc, .zc]]⟩, ⟨0, 92, 6, [[(i64 p0.op), (i64 p0.dst), (i64 p0.num), (i64 p0.into), (ow 3 0 q8), (ow 4 0 q10)]]⟩, (ro 0 3 1 eI q8), (ro 0 3 1 eI q10)]) go0 ti27 rfl rfl rfl rfl rfl rfl (show 5 + 1 ≤ 6 by decide) rfl (dn hK9 rfl (sr rfl fun K11 hK11 => zq tb rfl (ao_str (st' := [⟨0, 132, 6, [(eRInstr p0)]⟩, ⟨0, 92, 6, [[(i64 p0.op), (i64 p0.dst), (i64 p0.num), (i64 p0.into), (ow 3 0 q8), (ow 4 0 q10)]]⟩, ⟨0, 92, 6, [[(i64 p0.op), (i64 p0.dst), (i64 p0.num), (i64 p0.into), (ow 3 0 q8), (ow 4 0 q10)]]⟩, (ro 0 3 1 eI q8), (ro 0 3 1 eI q10)]) go0 ti92 rfl rfl rfl rfl rfl rfl (show 0 + 6 ≤ 6 by decide) rfl (dn hK11 rfl ?_))))
 replace h0 := Sh.some_eq h0
 subst r
 exact AW.ret (Exists.intro _ (And.intro ((Wk.permk (L := [(2, (.ptr 2 0 0 0))]) (st' := [(ro 0 3 1 eI q8), (ro 0 3 1 eI q10), ⟨0, 92, 6, [[(i64 p0.op), (i64 p0.dst), (i64 p0.num), (i64 p0.into), (ow 0 0 q8), (ow 1 0 q10)]]⟩]) (st1 := [(ro 0 3 1 eI q8), (ro 0 3 1 eI q10), ⟨0, 92, 6, [[(i64 p0.op), (i64 p0.dst), (i64 p0.num), (i64 p0.into), (ow 3 0 q8), (ow 4 0 q10)]]⟩]) [3, 4, 1] rfl .nil (by decide) rfl rfl (.pure (pure_map fun _ => rfl) (.pure (pure_map fun _ => rfl) (.raw rfl rfl .nil))) ⟨.rfl, trivial⟩).trans (Wk.to (L := [(2, (.ptr 2 0 0 0))]) ⟨.rfl, trivial⟩)) (aq_ldpa (x := .tmp 2) (off := 0) (cs := [(i64 p0.op), (i64 p0.dst), (i64 p0.num), (i64 p0.into), (ow 0 0 q8), (ow 1 0 q10)]) (vs := [(i64 p0.op), (i64 p0.dst), (i64 p0.num), (i64 p0.into), (ow 0 0 q8), (ow 1 0 q10)]) ti92 rfl rfl rfl (show 0 + 6 ≤ 6 by decide) rfl _ ⟨rfl, rfl⟩)))
theorem laws_toInstrS_2_ok {N : Nat} {p0 : (List RInstr)} {r : (List RInstr)} (h0 : laws_toInstrS N p0 = some r) : ACalls Try.prog 62 [(ls eRInstr p0)] [] (fun v st => v = (ow 0 0 r) ∧ st = [(ro 0 92 6 (eRInstrD 3 3) r)]) := by
 unfold laws_toInstrS at h0
 refine ai Try.func62 rfl rfl rfl rfl (zr tb rfl rfl (sr rfl fun K2 hK2 => zq tb rfl (zl tb rfl rfl (bs h0 fun l3 gl3 h0 => ao_maked (m := 0) (st' := [(ro 0 92 6 (eRInstrD 3 3) l3)]) (enc := (eRInstrD 3 3)) (u := (RInstr.mk 0 0 0 0 [] [])) ei75 rfl rfl ⟨.inl ⟨rfl, rfl⟩, ⟨.inl ⟨rfl, rfl⟩, ⟨.inl ⟨rfl, rfl⟩, ⟨.inl ⟨rfl, rfl⟩, ⟨.inr ⟨rfl, _, _, rfl, by decide⟩, ⟨.inr ⟨rfl, _, _, rfl, by decide⟩, trivial⟩⟩⟩⟩⟩⟩ gl3 rfl rfl (zq tb rfl (dn hK2 rfl (AW.seq fun K4 hK4 => zr tb rfl rfl (bs h0 fun o9 h1 h0 => ?_))))))))
 have M9 : ∀ (l8 : (List RInstr)), o9 = l8 → ∀ s, Wk 0 s ⟨23, envL [(3, (ow 0 0 l8))], [(ro 0 92 6 (eRInstrD 3 3) l8)]⟩ → K4 s := by
  intro l8 hq s hw
  subst o9
  try dsimp only at h0
  refine hK4 _ (AW.weaken hw (zr tb rfl rfl ?_))
  replace h0 := Sh.some_eq h0
  subst r
  exact AW.ret (xr (Wk.to (L := [(2, (ow 0 0 l8))]) ⟨.rfl, trivial⟩))
 refine AW.block (AW.loopF (σ := Int × (List RInstr)) (fun n v => laws_toInstrS_L1 N p0 n v.1 v.2 = some o9) (fun (i6, l7) => ⟨23, envL [(0, (ls eRInstr p0)), (3, (ow 0 0 l7)), (4, (i64 i6))], [(ro 0 92 6 (eRInstrD 3 3) l7)]⟩) N (0, l3) h1 (Wk.tr rfl) (fun _ hv => by rw [laws_toInstrS_L1] at hv; cases hv) ?_)
 rintro n ⟨i6, l7⟩ h1
 try dsimp only at h1 ⊢
 rw [laws_toInstrS_L1] at h1
 refine AW.seq fun K11 hK11 => sr rfl fun K12 hK12 => zm tb 2 rfl (zl tb rfl rfl (zq tb rfl (dn hK12 rfl ?_)))
 refine ci h1 rfl ?_ ?_ <;> clear h1
 ·intro b13 h1
  refine AW.skip (hK11 _ (AW.seq fun K14 hK14 => AW.block (AW.regionO rfl (zm tb 4 rfl (bs h1 fun c15 gc15 h1 => zx ei66 gc15 rfl rfl rfl (zq tb rfl (bs h1 fun q16 gq16 h1 => ao_call (v' := (.agg [(i64 q16.op), (i64 q16.dst), (i64 q16.num), (i64 q16.into), (ow 1 0 q16.args), (ow 2 0 q16.jumps)])) (st' := [(ro 0 92 6 (eRInstrD 3 3) l7), (ro 0 3 1 eI q16.args), (ro 0 3 1 eI q16.jumps)]) go0 hb82 (laws_toInstr_2_ok gq16) rfl rfl ⟨(pure_map' fun _ => rfl), ⟨(pure_map' fun _ => rfl), trivial⟩⟩ rfl rfl (bs h1 fun c17 gc17 h1 => zz (.ptr 0 0 (Int.toNat i6) 0) (aq_ixo ei75 rfl rfl rfl rfl gc17) rfl ?_))))))))
  refine ao_sth (st' := [⟨0, 92, 6, hole l7 (eRInstrD 3 3) i6 [(i64 q16.op), (i64 q16.dst), (i64 q16.num), (i64 q16.into), (ow 1 0 q16.args), (ow 2 0 q16.jumps)]⟩, (ro 0 3 1 eI q16.args), (ro 0 3 1 eI q16.jumps)]) go0 ti92 rfl rfl gc17 rfl rfl rfl (show 6 ≤ 6 by decide) rfl rfl ?_
  refine AO.weaken (Wk.take (id := 0) (m := 1) (j := 4) (i := i6) (c := c17) (ys := q16.args) (encY := eI) (x' := [(i64 q16.op), (i64 q16.dst), (i64 q16.num), (i64 q16.into), (.dv 3 1 (List.map eI q16.args)), (ow 2 0 q16.jumps)]) (st' := [⟨0, 92, 6, hole l7 (eRInstrD 3 3) i6 [(i64 q16.op), (i64 q16.dst), (i64 q16.num), (i64 q16.into), (.dv 3 1 (List.map eI q16.args)), (ow 2 0 q16.jumps)]⟩, ⟨1, 3, 1, []⟩, (ro 0 3 1 eI q16.jumps)]) rfl gc17 rfl rfl rfl (by decide) (show 0 ≤ 1 by decide) (fun _ => rfl) rfl rfl) ?_
  refine AO.weaken (Wk.take (id := 0) (m := 2) (j := 5) (i := i6) (c := c17) (ys := q16.jumps) (encY := eI) (x' := [(i64 q16.op), (i64 q16.dst), (i64 q16.num), (i64 q16.into), (.dv 3 1 (List.map eI q16.args)), (.dv 3 1 (List.map eI q16.jumps))]) (st' := [⟨0, 92, 6, hole l7 (eRInstrD 3 3) i6 [(i64 q16.op), (i64 q16.dst), (i64 q16.num), (i64 q16.into), (.dv 3 1 (List.map eI q16.args)), (.dv 3 1 (List.map eI q16.jumps))]⟩, ⟨1, 3, 1, []⟩, ⟨1, 3, 1, []⟩]) rfl gc17 rfl rfl rfl (by decide) (show 0 ≤ 2 by decide) (fun _ => rfl) rfl rfl) ?_
  refine AO.weaken (Wk.filled (id := 0) (i := i6) (u := q16) (st' := [(ro 0 92 6 (eRInstrD 3 3) (Sh.put l7 i6 q16)), ⟨1, 3, 1, []⟩, ⟨1, 3, 1, []⟩]) rfl rfl rfl) (dn hK14 rfl (AW.regionO rfl (zm tb 3 rfl ?_)))
  exact AO.done (xi (Sh.w (i6 + 1), Sh.put l7 i6 q16) h1 (by refine Wk.trans (Wk.permk (L := [(0, (.sl (List.map eRInstr p0))), (3, (.own 0 0 (List.length l7))), (4, (i64 (Sh.w (i6 + 1))))]) (st' := [⟨0, 92, 6, List.map (eRInstrD 3 3) (Sh.put l7 i6 q16)⟩]) (st1 := [⟨0, 92, 6, List.map (eRInstrD 3 3) (Sh.put l7 i6 q16)⟩]) [0] rfl .nil (by decide) rfl rfl (.deep (pure_mapD fun _ => rfl) .nil) ⟨.rfl, .rfl, .rfl, trivial⟩) ?_; exact Wk.to (L := [(0, (.sl (List.map eRInstr p0))), (3, (.own 0 0 (List.length (Sh.put l7 i6 q16)))), (4, (i64 (Sh.w (i6 + 1))))]) ⟨.rfl, (.len (by simp only [Sh.put_len])), .rfl, trivial⟩))
 ·intro b13 h1
  exact AW.exit (M9 l7 (Sh.some_eq h1).symm _ (Wk.tr rfl))
theorem laws_toProc_2_ok {N : Nat} {p0 : RProc} {r : RProc} (h0 : laws_toProc N p0 = some r) : ACalls Try.prog 42 [(.agg (eRProc p0))] [] (fun v st => v = (.agg [(ow 0 0 r.params), (ow 1 0 r.lent), (i64 r.result), (i64 r.regs), (ow 2 0 r.code)]) ∧ st = [(ro 0 3 1 eI r.params), (ro 0 3 1 eI r.lent), (ro 0 92 6 (eRInstrD 3 3) r.code)]) := by
 unfold laws_toProc at h0
 refine ACalls.wk (r0 := (.agg [(ow 0 0 r.params), (ow 1 0 r.lent), (i64 r.result), (i64 r.regs), (ow 2 0 r.code)])) (st0 := [(ro 0 3 1 eI r.params), (ro 0 3 1 eI r.lent), (ro 0 92 6 (eRInstrD 3 3) r.code), ⟨0, 77, 5, [[(ow 0 0 r.params), (ow 1 0 r.lent), (i64 r.result), (i64 r.regs), (ow 2 0 r.code)]]⟩]) ?_ (Wk.sel (L := [(0, (.agg [(ow 0 0 r.params), (ow 1 0 r.lent), (i64 r.result), (i64 r.regs), (ow 2 0 r.code)]))]) (st' := [(ro 0 3 1 eI r.params), (ro 0 3 1 eI r.lent), (ro 0 92 6 (eRInstrD 3 3) r.code)]) [0, 1, 2] rfl (by decide) rfl rfl (.pure (pure_map fun _ => rfl) (.pure (pure_map fun _ => rfl) (.deep (pure_mapD fun _ => rfl) trivial))) ⟨.rfl, trivial⟩)
 refine ai Try.func42 rfl rfl rfl rfl (sr rfl fun K1 hK1 => ao_box (m := 0) (st' := [⟨0, 68, 5, [(eRProc p0)]⟩]) go0 rfl rfl rfl rfl rfl (ao_alloc (m := 1) (st' := [⟨0, 68, 5, [(eRProc p0)]⟩, ⟨0, 77, 5, [[.zc, .zc, (i64 0), (i64 0), .zc]]⟩]) go0 zi77 rfl rfl (dn hK1 rfl (sr rfl fun K2 hK2 => ao_alloc (m := 2) (st' := [⟨0, 68, 5, [(eRProc p0)]⟩, ⟨0, 77, 5, [[.zc, .zc, (i64 0), (i64 0), .zc]]⟩, ⟨0, 77, 5, [[.zc, .zc, (i64 0), (i64 0), .zc]]⟩]) go0 zi77 rfl rfl (dn hK2 rfl (sr rfl fun K3 hK3 => zm tb 2 rfl (bs h0 fun q4 gq4 h0 => ao_call (v' := (ow 3 0 q4)) (st' := [⟨0, 68, 5, [(eRProc p0)]⟩, ⟨0, 77, 5, [[.zc, .zc, (i64 0), (i64 0), .zc]]⟩, ⟨0, 77, 5, [[.zc, .zc, (i64 0), (i64 0), .zc]]⟩, (ro 0 3 1 eI q4)]) go0 hb61 (laws_toIntS_ok gq4) rfl rfl ⟨(pure_map' fun _ => rfl), trivial⟩ rfl rfl ?_)))))))
 refine zq tb rfl (ao_str (st' := [⟨0, 68, 5, [(eRProc p0)]⟩, ⟨0, 77, 5, [[.zc, .zc, (i64 0), (i64 0), .zc]]⟩, ⟨0, 77, 5, [[(ow 3 0 q4), .zc, (i64 0), (i64 0), .zc]]⟩, (ro 0 3 1 eI q4)]) go0 ti27 rfl rfl rfl rfl rfl rfl (show 0 + 1 ≤ 5 by decide) rfl (dn hK3 rfl (sr rfl fun K5 hK5 => zm tb 2 rfl (bs h0 fun q6 gq6 h0 => ao_call (v' := (ow 4 0 q6)) (st' := [⟨0, 68, 5, [(eRProc p0)]⟩, ⟨0, 77, 5, [[.zc, .zc, (i64 0), (i64 0), .zc]]⟩, ⟨0, 77, 5, [[(ow 3 0 q4), .zc, (i64 0), (i64 0), .zc]]⟩, (ro 0 3 1 eI q4), (ro 0 3 1 eI q6)]) go0 hb61 (laws_toIntS_ok gq6) rfl rfl ⟨(pure_map' fun _ => rfl), trivial⟩ rfl rfl (zq tb rfl (ao_str (st' := [⟨0, 68, 5, [(eRProc p0)]⟩, ⟨0, 77, 5, [[.zc, .zc, (i64 0), (i64 0), .zc]]⟩, ⟨0, 77, 5, [[(ow 3 0 q4), (ow 4 0 q6), (i64 0), (i64 0), .zc]]⟩, (ro 0 3 1 eI q4), (ro 0 3 1 eI q6)]) go0 ti27 rfl rfl rfl rfl rfl rfl (show 1 + 1 ≤ 5 by decide) rfl (dn hK5 rfl (sr rfl fun K7 hK7 => zm tb 3 rfl ?_))))))))
 refine ao_str (st' := [⟨0, 68, 5, [(eRProc p0)]⟩, ⟨0, 77, 5, [[.zc, .zc, (i64 0), (i64 0), .zc]]⟩, ⟨0, 77, 5, [[(ow 3 0 q4), (ow 4 0 q6), (i64 p0.result), (i64 0), .zc]]⟩, (ro 0 3 1 eI q4), (ro 0 3 1 eI q6)]) go0 ti3 rfl rfl rfl rfl rfl rfl (show 2 + 1 ≤ 5 by decide) rfl (dn hK7 rfl (sr rfl fun K8 hK8 => zm tb 3 rfl (ao_str (st' := [⟨0, 68, 5, [(eRProc p0)]⟩, ⟨0, 77, 5, [[.zc, .zc, (i64 0), (i64 0), .zc]]⟩, ⟨0, 77, 5, [[(ow 3 0 q4), (ow 4 0 q6), (i64 p0.result), (i64 p0.regs), .zc]]⟩, (ro 0 3 1 eI q4), (ro 0 3 1 eI q6)]) go0 ti3 rfl rfl rfl rfl rfl rfl (show 3 + 1 ≤ 5 by decide) rfl (dn hK8 rfl (sr rfl fun K9 hK9 => zm tb 2 rfl (bs h0 fun q10 gq10 h0 => ao_call (v' := (ow 5 0 q10)) (st' := [⟨0, 68, 5, [(eRProc p0)]⟩, ⟨0, 77, 5, [[.zc, .zc, (i64 0), (i64 0), .zc]]⟩, ⟨0, 77, 5, [[(ow 3 0 q4), (ow 4 0 q6), (i64 p0.result), (i64 p0.regs), .zc]]⟩, (ro 0 3 1 eI q4), (ro 0 3 1 eI q6), (ro 0 92 6 (eRInstrD 3 3) q10)]) go0 hb62 (laws_toInstrS_2_ok gq10) rfl rfl ⟨(pure_mapD fun _ => rfl), trivial⟩ rfl rfl (zq tb rfl (ao_str (st' := [⟨0, 68, 5, [(eRProc p0)]⟩, ⟨0, 77, 5, [[.zc, .zc, (i64 0), (i64 0), .zc]]⟩, ⟨0, 77, 5, [[(ow 3 0 q4), (ow 4 0 q6), (i64 p0.result), (i64 p0.regs), (ow 5 0 q10)]]⟩, (ro 0 3 1 eI q4), (ro 0 3 1 eI q6), (ro 0 92 6 (eRInstrD 3 3) q10)]) go0 ti75 rfl rfl rfl rfl rfl rfl (show 4 + 1 ≤ 5 by decide) rfl ?_))))))))
 refine dn hK9 rfl (sr rfl fun K11 hK11 => zq tb rfl (ao_str (st' := [⟨0, 68, 5, [(eRProc p0)]⟩, ⟨0, 77, 5, [[(ow 3 0 q4), (ow 4 0 q6), (i64 p0.result), (i64 p0.regs), (ow 5 0 q10)]]⟩, ⟨0, 77, 5, [[(ow 3 0 q4), (ow 4 0 q6), (i64 p0.result), (i64 p0.regs), (ow 5 0 q10)]]⟩, (ro 0 3 1 eI q4), (ro 0 3 1 eI q6), (ro 0 92 6 (eRInstrD 3 3) q10)]) go0 ti77 rfl rfl rfl rfl rfl rfl (show 0 + 5 ≤ 5 by decide) rfl (dn hK11 rfl ?_)))
 replace h0 := Sh.some_eq h0
 subst r
 exact AW.ret (Exists.intro _ (And.intro ((Wk.permk (L := [(2, (.ptr 3 0 0 0))]) (st' := [(ro 0 3 1 eI q4), (ro 0 3 1 eI q6), (ro 0 92 6 (eRInstrD 3 3) q10), ⟨0, 77, 5, [[(ow 0 0 q4), (ow 1 0 q6), (i64 p0.result), (i64 p0.regs), (ow 2 0 q10)]]⟩]) (st1 := [(ro 0 3 1 eI q4), (ro 0 3 1 eI q6), (ro 0 92 6 (eRInstrD 3 3) q10), ⟨0, 77, 5, [[(ow 3 0 q4), (ow 4 0 q6), (i64 p0.result), (i64 p0.regs), (ow 5 0 q10)]]⟩]) [3, 4, 5, 1] rfl .nil (by decide) rfl rfl (.pure (pure_map fun _ => rfl) (.pure (pure_map fun _ => rfl) (.deep (pure_mapD fun _ => rfl) (.raw rfl rfl .nil)))) ⟨.rfl, trivial⟩).trans (Wk.to (L := [(2, (.ptr 3 0 0 0))]) ⟨.rfl, trivial⟩)) (aq_ldpa (x := .tmp 2) (off := 0) (cs := [(ow 0 0 q4), (ow 1 0 q6), (i64 p0.result), (i64 p0.regs), (ow 2 0 q10)]) (vs := [(ow 0 0 q4), (ow 1 0 q6), (i64 p0.result), (i64 p0.regs), (ow 2 0 q10)]) ti77 rfl rfl rfl (show 0 + 5 ≤ 5 by decide) rfl _ ⟨rfl, rfl⟩)))
end Go.Proofs.Yteoiihebkhmgoaa

