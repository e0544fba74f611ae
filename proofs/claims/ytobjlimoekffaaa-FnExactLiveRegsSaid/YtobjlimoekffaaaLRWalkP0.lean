import Derived.Test.YtobjlimoekffaaaProg
import Derived.Test.YtobjlimoekffaaaGEncCToLRDefs
import Derived.Test.YtobjlimoekffaaaAbsQ
namespace Go.Proofs.Ytobjlimoekffaaa
open Go Go.Abs RC
attribute [local irreducible] Go.Abs.dops
set_option maxRecDepth 100000
set_option maxHeartbeats 4000000

def tb : Tab Try.prog where
 t := [(102, true, 5), (108, true, 3), (117, true, 1), (119, true, 1), (121, true, 6), (22, false, 1), (23, false, 1), (25, true, 2), (27, false, 1), (29, false, 1), (3, false, 1), (30, false, 1), (32, true, 2), (4, false, 1), (43, false, 1), (45, true, 5), (56, false, 1), (58, true, 3), (60, false, 1), (62, true, 5), (64, false, 1), (66, true, 2), (71, false, 1), (73, true, 6), (76, false, 1), (78, true, 3), (81, false, 1), (83, true, 2), (88, false, 1)]
 f := [(102, 0, 0), (102, 1, 1), (108, 0, 0), (108, 1, 1), (108, 2, 2), (117, 0, 0), (119, 0, 0), (121, 0, 0), (121, 1, 1), (121, 2, 2), (121, 3, 3), (121, 4, 4), (121, 5, 5), (25, 0, 0), (25, 1, 1), (32, 0, 0), (32, 1, 1), (45, 0, 0), (45, 1, 1), (45, 2, 2), (45, 3, 3), (45, 4, 4), (58, 0, 0), (58, 1, 1), (58, 2, 2), (62, 0, 0), (62, 1, 1), (62, 2, 2), (62, 3, 3), (62, 4, 4), (66, 0, 0), (66, 1, 1), (73, 0, 0), (73, 1, 1), (73, 2, 2), (73, 3, 3), (73, 4, 4), (73, 5, 5), (78, 0, 0), (78, 1, 1), (78, 2, 2), (83, 0, 0), (83, 1, 1)]
 v := []
 b := []
 s := [22, 23, 27, 29, 30, 43, 56, 60, 64, 76, 81, 88]
 ht := by kernel_rfl
 hf := by kernel_rfl
 hv := by kernel_rfl
 hb := by kernel_rfl
 hs := by kernel_rfl

theorem ai102 : allInfo Try.prog 102 = true := by kernel_rfl
theorem ai66 : allInfo Try.prog 66 = true := by kernel_rfl
theorem bi102 : finfos Try.prog 102 = some [(0, 1), (1, 1), (2, 3)] := by kernel_rfl
theorem bi66 : finfos Try.prog 66 = some [(0, 1), (1, 1)] := by kernel_rfl
theorem ei22 : einfo Try.prog 22 = some ⟨58, 3, 40, [.int .i64 0, .int .i64 0, .sl []]⟩ := by kernel_rfl
theorem ei23 : einfo Try.prog 23 = some ⟨62, 5, 88, [.sl [], .sl [], .int .i64 0, .int .i64 0, .sl []]⟩ := by kernel_rfl
theorem ei27 : einfo Try.prog 27 = some ⟨3, 1, 8, [.int .i64 0]⟩ := by kernel_rfl
theorem ei29 : einfo Try.prog 29 = some ⟨78, 3, 40, [.int .i64 0, .int .i64 0, .sl []]⟩ := by kernel_rfl
theorem ei30 : einfo Try.prog 30 = some ⟨45, 5, 88, [.sl [], .sl [], .int .i64 0, .int .i64 0, .sl []]⟩ := by kernel_rfl
theorem ei43 : einfo Try.prog 43 = some ⟨73, 6, 80, [.int .i64 0, .int .i64 0, .int .i64 0, .int .i64 0, .sl [], .sl []]⟩ := by kernel_rfl
theorem ei47 : einfo Try.prog 47 = some ⟨27, 1, 24, [.sl []]⟩ := by kernel_rfl
theorem ei56 : einfo Try.prog 56 = some ⟨119, 1, 24, [.sl []]⟩ := by kernel_rfl
theorem ei60 : einfo Try.prog 60 = some ⟨121, 6, 80, [.int .i64 0, .int .i64 0, .int .i64 0, .int .i64 0, .sl [], .sl []]⟩ := by kernel_rfl
theorem ei64 : einfo Try.prog 64 = some ⟨102, 5, 72, [.sl [], .int .i64 0, .int .i64 0, .int .i64 0, .sl []]⟩ := by kernel_rfl
theorem ei76 : einfo Try.prog 76 = some ⟨117, 1, 24, [.sl []]⟩ := by kernel_rfl
theorem hb13 : hasBody Try.prog 13 = true := by kernel_rfl
theorem hb14 : hasBody Try.prog 14 = true := by kernel_rfl
theorem hb15 : hasBody Try.prog 15 = true := by kernel_rfl
theorem hb16 : hasBody Try.prog 16 = true := by kernel_rfl
theorem hb17 : hasBody Try.prog 17 = true := by kernel_rfl
theorem hb18 : hasBody Try.prog 18 = true := by kernel_rfl
theorem hb19 : hasBody Try.prog 19 = true := by kernel_rfl
theorem hb20 : hasBody Try.prog 20 = true := by kernel_rfl
theorem hb27 : hasBody Try.prog 27 = true := by kernel_rfl
theorem hb28 : hasBody Try.prog 28 = true := by kernel_rfl
theorem hb29 : hasBody Try.prog 29 = true := by kernel_rfl
theorem hb30 : hasBody Try.prog 30 = true := by kernel_rfl
theorem hb31 : hasBody Try.prog 31 = true := by kernel_rfl
theorem hb32 : hasBody Try.prog 32 = true := by kernel_rfl
theorem hb33 : hasBody Try.prog 33 = true := by kernel_rfl
theorem hb34 : hasBody Try.prog 34 = true := by kernel_rfl
theorem hb35 : hasBody Try.prog 35 = true := by kernel_rfl
theorem hb36 : hasBody Try.prog 36 = true := by kernel_rfl
theorem hb37 : hasBody Try.prog 37 = true := by kernel_rfl
theorem hb38 : hasBody Try.prog 38 = true := by kernel_rfl
theorem hb48 : hasBody Try.prog 48 = true := by kernel_rfl
theorem hb49 : hasBody Try.prog 49 = true := by kernel_rfl
theorem hb50 : hasBody Try.prog 50 = true := by kernel_rfl
theorem hb51 : hasBody Try.prog 51 = true := by kernel_rfl
theorem hb52 : hasBody Try.prog 52 = true := by kernel_rfl
theorem hb53 : hasBody Try.prog 53 = true := by kernel_rfl
theorem hb54 : hasBody Try.prog 54 = true := by kernel_rfl
theorem hb55 : hasBody Try.prog 55 = true := by kernel_rfl
theorem hb56 : hasBody Try.prog 56 = true := by kernel_rfl
theorem hb57 : hasBody Try.prog 57 = true := by kernel_rfl
theorem hb58 : hasBody Try.prog 58 = true := by kernel_rfl
theorem hb59 : hasBody Try.prog 59 = true := by kernel_rfl
theorem hb68 : hasBody Try.prog 68 = true := by kernel_rfl
theorem hb69 : hasBody Try.prog 69 = true := by kernel_rfl
theorem hb70 : hasBody Try.prog 70 = true := by kernel_rfl
theorem hb71 : hasBody Try.prog 71 = true := by kernel_rfl
theorem hb72 : hasBody Try.prog 72 = true := by kernel_rfl
theorem hb73 : hasBody Try.prog 73 = true := by kernel_rfl
theorem hb74 : hasBody Try.prog 74 = true := by kernel_rfl
theorem hb75 : hasBody Try.prog 75 = true := by kernel_rfl
theorem hb76 : hasBody Try.prog 76 = true := by kernel_rfl
theorem hb77 : hasBody Try.prog 77 = true := by kernel_rfl
theorem hb87 : hasBody Try.prog 87 = true := by kernel_rfl
theorem sl27 : isSliceT Try.prog 27 = true := by kernel_rfl
theorem sl29 : isSliceT Try.prog 29 = true := by kernel_rfl
theorem sl30 : isSliceT Try.prog 30 = true := by kernel_rfl
theorem sl43 : isSliceT Try.prog 43 = true := by kernel_rfl
theorem sl64 : isSliceT Try.prog 64 = true := by kernel_rfl
theorem ti102 : tinfo Try.prog 102 = some (true, 5) := by kernel_rfl
theorem ti117 : tinfo Try.prog 117 = some (true, 1) := by kernel_rfl
theorem ti27 : tinfo Try.prog 27 = some (false, 1) := by kernel_rfl
theorem ti29 : tinfo Try.prog 29 = some (false, 1) := by kernel_rfl
theorem ti3 : tinfo Try.prog 3 = some (false, 1) := by kernel_rfl
theorem ti30 : tinfo Try.prog 30 = some (false, 1) := by kernel_rfl
theorem ti32 : tinfo Try.prog 32 = some (true, 2) := by kernel_rfl
theorem ti43 : tinfo Try.prog 43 = some (false, 1) := by kernel_rfl
theorem ti45 : tinfo Try.prog 45 = some (true, 5) := by kernel_rfl
theorem ti64 : tinfo Try.prog 64 = some (false, 1) := by kernel_rfl
theorem ti66 : tinfo Try.prog 66 = some (true, 2) := by kernel_rfl
theorem ti73 : tinfo Try.prog 73 = some (true, 6) := by kernel_rfl
theorem ti76 : tinfo Try.prog 76 = some (false, 1) := by kernel_rfl
theorem ti78 : tinfo Try.prog 78 = some (true, 3) := by kernel_rfl
theorem zi102 : zinfo Try.prog 102 = some [.zc, .int .i64 0, .int .i64 0, .int .i64 0, .zc] := by kernel_rfl
theorem zi117 : zinfo Try.prog 117 = some [.zc] := by kernel_rfl
theorem zi32 : zinfo Try.prog 32 = some [.zc, .zc] := by kernel_rfl
theorem zi45 : zinfo Try.prog 45 = some [.zc, .zc, .int .i64 0, .int .i64 0, .zc] := by kernel_rfl
theorem zi66 : zinfo Try.prog 66 = some [.zc, .zc] := by kernel_rfl
theorem zi73 : zinfo Try.prog 73 = some [.int .i64 0, .int .i64 0, .int .i64 0, .int .i64 0, .zc, .zc] := by kernel_rfl
theorem zi78 : zinfo Try.prog 78 = some [.int .i64 0, .int .i64 0, .zc] := by kernel_rfl

theorem laws_szIntS_ok {p0 : (List Int)} {p1 : Int} {r : Int} (h0 : laws_szIntS p0 p1 = some r) : ACalls Try.prog 49 [(ls eI p0), (i64 p1)] [] (fun v st => v = (i64 r) ∧ st = []) := by
 unfold laws_szIntS at h0
 refine ai Try.func49 rfl rfl rfl rfl (zr tb rfl rfl (sr rfl fun K2 hK2 => zm tb 2 rfl (zl tb rfl rfl (zm tb 2 rfl (dn hK2 rfl (AW.seq fun K3 hK3 => zr tb rfl rfl ?_))))))
 refine ci h0 rfl ?_ ?_ <;> clear h0
 ·intro b5 h0
  refine zr tb rfl rfl ?_
  replace h0 := Sh.some_eq h0
  subst r
  exact AW.ret (xr (Wk.to (L := [(4, (i64 (-1)))]) ⟨.rfl, trivial⟩))
 ·intro b5 h0
  refine AW.skip (hK3 _ (zr tb rfl rfl ?_))
  replace h0 := Sh.some_eq h0
  subst r
  exact AW.ret (xr (Wk.to (L := [(4, (i64 (Sh.w (p1 - (Sh.len p0)))))]) ⟨.rfl, trivial⟩))
theorem laws_szCon_ok {p0 : RCon} {p1 : Int} {r : Int} (h0 : laws_szCon p0 p1 = some r) : ACalls Try.prog 68 [(.agg (eRCon p0)), (i64 p1)] [] (fun v st => v = (i64 r) ∧ st = []) := by
 unfold laws_szCon at h0
 refine ai Try.func68 rfl rfl rfl rfl (sr rfl fun K1 hK1 => ao_box (m := 0) (st' := [⟨0, 119, 1, [(eRCon p0)]⟩]) go0 rfl rfl rfl rfl rfl (zq tb rfl (dn hK1 rfl (sr rfl fun K2 hK2 => zm tb 3 rfl (bs h0 fun q3 gq3 h0 => zc hb49 (laws_szIntS_ok gq3) rfl rfl rfl (zq tb rfl (dn hK2 rfl (AW.seq fun K4 hK4 => ?_))))))))
 refine zr tb rfl rfl ?_
 refine ci h0 rfl ?_ ?_ <;> clear h0
 ·intro b6 h0
  refine zr tb rfl rfl ?_
  replace h0 := Sh.some_eq h0
  subst r
  exact AW.ret (xr (Wk.d0 [(4, (i64 (-1)))] rfl))
 ·intro b6 h0
  refine AW.skip (hK4 _ (zr tb rfl rfl ?_))
  replace h0 := Sh.some_eq h0
  subst r
  exact AW.ret (xr (Wk.d0 [(4, (i64 q3))] rfl))
theorem laws_szConS_ok {N : Nat} {p0 : (List RCon)} {p1 : Int} {r : Int} (h0 : laws_szConS N p0 p1 = some r) : ACalls Try.prog 48 [(ls eRCon p0), (i64 p1)] [] (fun v st => v = (i64 r) ∧ st = []) := by
 unfold laws_szConS at h0
 refine ai Try.func48 rfl rfl rfl rfl (zr tb rfl rfl (sr rfl fun K2 hK2 => zm tb 2 rfl (zl tb rfl rfl (zm tb 2 rfl (dn hK2 rfl (AW.seq fun K3 hK3 => zr tb rfl rfl ?_))))))
 refine ci h0 rfl ?_ ?_ <;> clear h0
 ·intro b5 h0
  refine zr tb rfl rfl ?_
  replace h0 := Sh.some_eq h0
  subst r
  exact AW.ret (xr (Wk.to (L := [(4, (i64 (-1)))]) ⟨.rfl, trivial⟩))
 ·intro b5 h0
  refine AW.skip (hK3 _ (AW.seq fun K7 hK7 => zr tb rfl rfl ?_))
  obtain ⟨o12, h1, h0⟩ := Sh.cont_some h0
  have M12 : ∀ (left11 : Int), o12 = Sum.inr left11 → ∀ s, Wk 0 s ⟨27, envL [(1, (i64 left11))], []⟩ → K7 s := by
   intro left11 hq s hw
   subst o12
   try dsimp only at h0
   refine hK7 _ (AW.weaken hw (zr tb rfl rfl ?_))
   replace h0 := Sh.some_eq h0
   subst r
   exact AW.ret (xr (Wk.to (L := [(4, (i64 left11))]) ⟨.rfl, trivial⟩))
  refine AW.block (AW.loopF (σ := Int × Int) (fun n v => laws_szConS_L1 p0 n v.1 v.2 = some o12) (fun (left9, i10) => ⟨27, envL [(0, (ls eRCon p0)), (1, (i64 left9)), (5, (i64 i10))], []⟩) N (Sh.w (p1 - (Sh.len p0)), 0) h1 (Wk.tr rfl) (fun _ hv => by rw [laws_szConS_L1] at hv; cases hv) ?_)
  rintro n ⟨left9, i10⟩ h1
  try dsimp only at h1 ⊢
  rw [laws_szConS_L1] at h1
  refine AW.seq fun K14 hK14 => sr rfl fun K15 hK15 => zm tb 2 rfl (zl tb rfl rfl (zq tb rfl (dn hK15 rfl ?_)))
  refine ci h1 rfl ?_ ?_ <;> clear h1
  ·intro b16 h1
   refine AW.skip (hK14 _ (AW.seq fun K17 hK17 => AW.block (sr rfl fun K18 hK18 => zm tb 2 rfl (bs h1 fun c19 gc19 h1 => zx ei56 gc19 rfl rfl rfl (zm tb 2 rfl (bs h1 fun q20 gq20 h1 => zc hb68 (laws_szCon_ok gq20) rfl rfl rfl (zq tb rfl (dn hK18 rfl ?_))))))))
   refine zr tb rfl rfl ?_
   refine ci h1 rfl ?_ ?_ <;> clear h1
   ·intro b22 h1
    refine zr tb rfl rfl ?_
    replace h1 := Sh.some_eq h1
    subst o12
    try dsimp only [id] at h0
    replace h0 := Sh.some_eq h0
    subst r
    exact AW.ret (xr (Wk.to (L := [(4, (i64 (-1)))]) ⟨.rfl, trivial⟩))
   ·intro b22 h1
    exact AW.skip (hK17 _ (AW.regionO rfl (zm tb 3 rfl (AO.done (xi (q20, Sh.w (i10 + 1)) h1 (Wk.tr rfl))))))
  ·intro b16 h1
   exact AW.exit (M12 left9 (Sh.some_eq h1).symm _ (Wk.tr rfl))
theorem laws_szDecl_ok {N : Nat} {p0 : RDecl} {p1 : Int} {r : Int} (h0 : laws_szDecl N p0 p1 = some r) : ACalls Try.prog 27 [(.agg (eRDecl p0)), (i64 p1)] [] (fun v st => v = (i64 r) ∧ st = []) := by
 unfold laws_szDecl at h0
 refine ai Try.func27 rfl rfl rfl rfl (sr rfl fun K1 hK1 => ao_box (m := 0) (st' := [⟨0, 58, 3, [(eRDecl p0)]⟩]) go0 rfl rfl rfl rfl rfl (zq tb rfl (dn hK1 rfl (sr rfl fun K2 hK2 => zm tb 3 rfl (bs h0 fun q3 gq3 h0 => zc hb48 (laws_szConS_ok gq3) rfl rfl rfl (zq tb rfl (dn hK2 rfl (AW.seq fun K4 hK4 => ?_))))))))
 refine zr tb rfl rfl ?_
 refine ci h0 rfl ?_ ?_ <;> clear h0
 ·intro b6 h0
  refine zr tb rfl rfl ?_
  replace h0 := Sh.some_eq h0
  subst r
  exact AW.ret (xr (Wk.d0 [(4, (i64 (-1)))] rfl))
 ·intro b6 h0
  refine AW.skip (hK4 _ (zr tb rfl rfl ?_))
  replace h0 := Sh.some_eq h0
  subst r
  exact AW.ret (xr (Wk.d0 [(4, (i64 q3))] rfl))
theorem laws_szDeclS_ok {N : Nat} {p0 : (List RDecl)} {p1 : Int} {r : Int} (h0 : laws_szDeclS N p0 p1 = some r) : ACalls Try.prog 13 [(ls eRDecl p0), (i64 p1)] [] (fun v st => v = (i64 r) ∧ st = []) := by
 unfold laws_szDeclS at h0
 refine ai Try.func13 rfl rfl rfl rfl (zr tb rfl rfl (sr rfl fun K2 hK2 => zm tb 2 rfl (zl tb rfl rfl (zm tb 2 rfl (dn hK2 rfl (AW.seq fun K3 hK3 => zr tb rfl rfl ?_))))))
 refine ci h0 rfl ?_ ?_ <;> clear h0
 ·intro b5 h0
  refine zr tb rfl rfl ?_
  replace h0 := Sh.some_eq h0
  subst r
  exact AW.ret (xr (Wk.to (L := [(4, (i64 (-1)))]) ⟨.rfl, trivial⟩))
 ·intro b5 h0
  refine AW.skip (hK3 _ (AW.seq fun K7 hK7 => zr tb rfl rfl ?_))
  obtain ⟨o12, h1, h0⟩ := Sh.cont_some h0
  have M12 : ∀ (left11 : Int), o12 = Sum.inr left11 → ∀ s, Wk 0 s ⟨27, envL [(1, (i64 left11))], []⟩ → K7 s := by
   intro left11 hq s hw
   subst o12
   try dsimp only at h0
   refine hK7 _ (AW.weaken hw (zr tb rfl rfl ?_))
   replace h0 := Sh.some_eq h0
   subst r
   exact AW.ret (xr (Wk.to (L := [(4, (i64 left11))]) ⟨.rfl, trivial⟩))
  refine AW.block (AW.loopF (σ := Int × Int) (fun n v => laws_szDeclS_L1 N p0 n v.1 v.2 = some o12) (fun (left9, i10) => ⟨27, envL [(0, (ls eRDecl p0)), (1, (i64 left9)), (5, (i64 i10))], []⟩) N (Sh.w (p1 - (Sh.len p0)), 0) h1 (Wk.tr rfl) (fun _ hv => by rw [laws_szDeclS_L1] at hv; cases hv) ?_)
  rintro n ⟨left9, i10⟩ h1
  try dsimp only at h1 ⊢
  rw [laws_szDeclS_L1] at h1
  refine AW.seq fun K14 hK14 => sr rfl fun K15 hK15 => zm tb 2 rfl (zl tb rfl rfl (zq tb rfl (dn hK15 rfl ?_)))
  refine ci h1 rfl ?_ ?_ <;> clear h1
  ·intro b16 h1
   refine AW.skip (hK14 _ (AW.seq fun K17 hK17 => AW.block (sr rfl fun K18 hK18 => zm tb 2 rfl (bs h1 fun c19 gc19 h1 => zx ei22 gc19 rfl rfl rfl (zm tb 2 rfl (bs h1 fun q20 gq20 h1 => zc hb27 (laws_szDecl_ok gq20) rfl rfl rfl (zq tb rfl (dn hK18 rfl ?_))))))))
   refine zr tb rfl rfl ?_
   refine ci h1 rfl ?_ ?_ <;> clear h1
   ·intro b22 h1
    refine zr tb rfl rfl ?_
    replace h1 := Sh.some_eq h1
    subst o12
    try dsimp only [id] at h0
    replace h0 := Sh.some_eq h0
    subst r
    exact AW.ret (xr (Wk.to (L := [(4, (i64 (-1)))]) ⟨.rfl, trivial⟩))
   ·intro b22 h1
    exact AW.skip (hK17 _ (AW.regionO rfl (zm tb 3 rfl (AO.done (xi (q20, Sh.w (i10 + 1)) h1 (Wk.tr rfl))))))
  ·intro b16 h1
   exact AW.exit (M12 left9 (Sh.some_eq h1).symm _ (Wk.tr rfl))
theorem laws_szInstr_ok {p0 : RInstr} {p1 : Int} {r : Int} (h0 : laws_szInstr p0 p1 = some r) : ACalls Try.prog 69 [(.agg (eRInstr p0)), (i64 p1)] [] (fun v st => v = (i64 r) ∧ st = []) := by
 unfold laws_szInstr at h0
 refine ai Try.func69 rfl rfl rfl rfl (sr rfl fun K1 hK1 => ao_box (m := 0) (st' := [⟨0, 121, 6, [(eRInstr p0)]⟩]) go0 rfl rfl rfl rfl rfl (zq tb rfl (dn hK1 rfl (sr rfl fun K2 hK2 => zm tb 3 rfl (bs h0 fun q3 gq3 h0 => zc hb49 (laws_szIntS_ok gq3) rfl rfl rfl (zq tb rfl (dn hK2 rfl (AW.seq fun K4 hK4 => ?_))))))))
 refine zr tb rfl rfl ?_
 refine ci h0 rfl ?_ ?_ <;> clear h0
 ·intro b6 h0
  refine zr tb rfl rfl ?_
  replace h0 := Sh.some_eq h0
  subst r
  exact AW.ret (xr (Wk.d0 [(4, (i64 (-1)))] rfl))
 ·intro b6 h0
  refine AW.skip (hK4 _ (sr rfl fun K8 hK8 => zm tb 3 rfl (bs h0 fun q9 gq9 h0 => zc hb49 (laws_szIntS_ok gq9) rfl rfl rfl (zq tb rfl (dn hK8 rfl (AW.seq fun K10 hK10 => zr tb rfl rfl ?_))))))
  refine ci h0 rfl ?_ ?_ <;> clear h0
  ·intro b12 h0
   refine zr tb rfl rfl ?_
   replace h0 := Sh.some_eq h0
   subst r
   exact AW.ret (xr (Wk.d0 [(4, (i64 (-1)))] rfl))
  ·intro b12 h0
   refine AW.skip (hK10 _ (zr tb rfl rfl ?_))
   replace h0 := Sh.some_eq h0
   subst r
   exact AW.ret (xr (Wk.d0 [(4, (i64 q9))] rfl))
theorem laws_szInstrS_ok {N : Nat} {p0 : (List RInstr)} {p1 : Int} {r : Int} (h0 : laws_szInstrS N p0 p1 = some r) : ACalls Try.prog 50 [(ls eRInstr p0), (i64 p1)] [] (fun v st => v = (i64 r) ∧ st = []) := by
 unfold laws_szInstrS at h0
 refine ai Try.func50 rfl rfl rfl rfl (zr tb rfl rfl (sr rfl fun K2 hK2 => zm tb 2 rfl (zl tb rfl rfl (zm tb 2 rfl (dn hK2 rfl (AW.seq fun K3 hK3 => zr tb rfl rfl ?_))))))
 refine ci h0 rfl ?_ ?_ <;> clear h0
 ·intro b5 h0
  refine zr tb rfl rfl ?_
  replace h0 := Sh.some_eq h0
  subst r
  exact AW.ret (xr (Wk.to (L := [(4, (i64 (-1)))]) ⟨.rfl, trivial⟩))
 ·intro b5 h0
  refine AW.skip (hK3 _ (AW.seq fun K7 hK7 => zr tb rfl rfl ?_))
  obtain ⟨o12, h1, h0⟩ := Sh.cont_some h0
  have M12 : ∀ (left11 : Int), o12 = Sum.inr left11 → ∀ s, Wk 0 s ⟨27, envL [(1, (i64 left11))], []⟩ → K7 s := by
   intro left11 hq s hw
   subst o12
   try dsimp only at h0
   refine hK7 _ (AW.weaken hw (zr tb rfl rfl ?_))
   replace h0 := Sh.some_eq h0
   subst r
   exact AW.ret (xr (Wk.to (L := [(4, (i64 left11))]) ⟨.rfl, trivial⟩))
  refine AW.block (AW.loopF (σ := Int × Int) (fun n v => laws_szInstrS_L1 p0 n v.1 v.2 = some o12) (fun (left9, i10) => ⟨27, envL [(0, (ls eRInstr p0)), (1, (i64 left9)), (5, (i64 i10))], []⟩) N (Sh.w (p1 - (Sh.len p0)), 0) h1 (Wk.tr rfl) (fun _ hv => by rw [laws_szInstrS_L1] at hv; cases hv) ?_)
  rintro n ⟨left9, i10⟩ h1
  try dsimp only at h1 ⊢
  rw [laws_szInstrS_L1] at h1
  refine AW.seq fun K14 hK14 => sr rfl fun K15 hK15 => zm tb 2 rfl (zl tb rfl rfl (zq tb rfl (dn hK15 rfl ?_)))
  refine ci h1 rfl ?_ ?_ <;> clear h1
  ·intro b16 h1
   refine AW.skip (hK14 _ (AW.seq fun K17 hK17 => AW.block (sr rfl fun K18 hK18 => zm tb 2 rfl (bs h1 fun c19 gc19 h1 => zx ei60 gc19 rfl rfl rfl (zm tb 2 rfl (bs h1 fun q20 gq20 h1 => zc hb69 (laws_szInstr_ok gq20) rfl rfl rfl (zq tb rfl (dn hK18 rfl ?_))))))))
   refine zr tb rfl rfl ?_
   refine ci h1 rfl ?_ ?_ <;> clear h1
   ·intro b22 h1
    refine zr tb rfl rfl ?_
    replace h1 := Sh.some_eq h1
    subst o12
    try dsimp only [id] at h0
    replace h0 := Sh.some_eq h0
    subst r
    exact AW.ret (xr (Wk.to (L := [(4, (i64 (-1)))]) ⟨.rfl, trivial⟩))
   ·intro b22 h1
    exact AW.skip (hK17 _ (AW.regionO rfl (zm tb 3 rfl (AO.done (xi (q20, Sh.w (i10 + 1)) h1 (Wk.tr rfl))))))
  ·intro b16 h1
   exact AW.exit (M12 left9 (Sh.some_eq h1).symm _ (Wk.tr rfl))
theorem laws_szProc_ok {N : Nat} {p0 : RProc} {p1 : Int} {r : Int} (h0 : laws_szProc N p0 p1 = some r) : ACalls Try.prog 28 [(.agg (eRProc p0)), (i64 p1)] [] (fun v st => v = (i64 r) ∧ st = []) := by
 unfold laws_szProc at h0
 refine ai Try.func28 rfl rfl rfl rfl (sr rfl fun K1 hK1 => ao_box (m := 0) (st' := [⟨0, 62, 5, [(eRProc p0)]⟩]) go0 rfl rfl rfl rfl rfl (zq tb rfl (dn hK1 rfl (sr rfl fun K2 hK2 => zm tb 3 rfl (bs h0 fun q3 gq3 h0 => zc hb49 (laws_szIntS_ok gq3) rfl rfl rfl (zq tb rfl (dn hK2 rfl (AW.seq fun K4 hK4 => ?_))))))))
 refine zr tb rfl rfl ?_
 refine ci h0 rfl ?_ ?_ <;> clear h0
 ·intro b6 h0
  refine zr tb rfl rfl ?_
  replace h0 := Sh.some_eq h0
  subst r
  exact AW.ret (xr (Wk.d0 [(4, (i64 (-1)))] rfl))
 ·intro b6 h0
  refine AW.skip (hK4 _ (sr rfl fun K8 hK8 => zm tb 3 rfl (bs h0 fun q9 gq9 h0 => zc hb49 (laws_szIntS_ok gq9) rfl rfl rfl (zq tb rfl (dn hK8 rfl (AW.seq fun K10 hK10 => zr tb rfl rfl ?_))))))
  refine ci h0 rfl ?_ ?_ <;> clear h0
  ·intro b12 h0
   refine zr tb rfl rfl ?_
   replace h0 := Sh.some_eq h0
   subst r
   exact AW.ret (xr (Wk.d0 [(4, (i64 (-1)))] rfl))
  ·intro b12 h0
   refine AW.skip (hK10 _ (sr rfl fun K14 hK14 => zm tb 3 rfl (bs h0 fun q15 gq15 h0 => zc hb50 (laws_szInstrS_ok gq15) rfl rfl rfl (zq tb rfl (dn hK14 rfl (AW.seq fun K16 hK16 => zr tb rfl rfl ?_))))))
   refine ci h0 rfl ?_ ?_ <;> clear h0
   ·intro b18 h0
    refine zr tb rfl rfl ?_
    replace h0 := Sh.some_eq h0
    subst r
    exact AW.ret (xr (Wk.d0 [(4, (i64 (-1)))] rfl))
   ·intro b18 h0
    refine AW.skip (hK16 _ (zr tb rfl rfl ?_))
    replace h0 := Sh.some_eq h0
    subst r
    exact AW.ret (xr (Wk.d0 [(4, (i64 q15))] rfl))
theorem laws_szProcS_ok {N : Nat} {p0 : (List RProc)} {p1 : Int} {r : Int} (h0 : laws_szProcS N p0 p1 = some r) : ACalls Try.prog 14 [(ls eRProc p0), (i64 p1)] [] (fun v st => v = (i64 r) ∧ st = []) := by
 unfold laws_szProcS at h0
 refine ai Try.func14 rfl rfl rfl rfl (zr tb rfl rfl (sr rfl fun K2 hK2 => zm tb 2 rfl (zl tb rfl rfl (zm tb 2 rfl (dn hK2 rfl (AW.seq fun K3 hK3 => zr tb rfl rfl ?_))))))
 refine ci h0 rfl ?_ ?_ <;> clear h0
 ·intro b5 h0
  refine zr tb rfl rfl ?_
  replace h0 := Sh.some_eq h0
  subst r
  exact AW.ret (xr (Wk.to (L := [(4, (i64 (-1)))]) ⟨.rfl, trivial⟩))
 ·intro b5 h0
  refine AW.skip (hK3 _ (AW.seq fun K7 hK7 => zr tb rfl rfl ?_))
  obtain ⟨o12, h1, h0⟩ := Sh.cont_some h0
  have M12 : ∀ (left11 : Int), o12 = Sum.inr left11 → ∀ s, Wk 0 s ⟨27, envL [(1, (i64 left11))], []⟩ → K7 s := by
   intro left11 hq s hw
   subst o12
   try dsimp only at h0
   refine hK7 _ (AW.weaken hw (zr tb rfl rfl ?_))
   replace h0 := Sh.some_eq h0
   subst r
   exact AW.ret (xr (Wk.to (L := [(4, (i64 left11))]) ⟨.rfl, trivial⟩))
  refine AW.block (AW.loopF (σ := Int × Int) (fun n v => laws_szProcS_L1 N p0 n v.1 v.2 = some o12) (fun (left9, i10) => ⟨27, envL [(0, (ls eRProc p0)), (1, (i64 left9)), (5, (i64 i10))], []⟩) N (Sh.w (p1 - (Sh.len p0)), 0) h1 (Wk.tr rfl) (fun _ hv => by rw [laws_szProcS_L1] at hv; cases hv) ?_)
  rintro n ⟨left9, i10⟩ h1
  try dsimp only at h1 ⊢
  rw [laws_szProcS_L1] at h1
  refine AW.seq fun K14 hK14 => sr rfl fun K15 hK15 => zm tb 2 rfl (zl tb rfl rfl (zq tb rfl (dn hK15 rfl ?_)))
  refine ci h1 rfl ?_ ?_ <;> clear h1
  ·intro b16 h1
   refine AW.skip (hK14 _ (AW.seq fun K17 hK17 => AW.block (sr rfl fun K18 hK18 => zm tb 2 rfl (bs h1 fun c19 gc19 h1 => zx ei23 gc19 rfl rfl rfl (zm tb 2 rfl (bs h1 fun q20 gq20 h1 => zc hb28 (laws_szProc_ok gq20) rfl rfl rfl (zq tb rfl (dn hK18 rfl ?_))))))))
   refine zr tb rfl rfl ?_
   refine ci h1 rfl ?_ ?_ <;> clear h1
   ·intro b22 h1
    refine zr tb rfl rfl ?_
    replace h1 := Sh.some_eq h1
    subst o12
    try dsimp only [id] at h0
    replace h0 := Sh.some_eq h0
    subst r
    exact AW.ret (xr (Wk.to (L := [(4, (i64 (-1)))]) ⟨.rfl, trivial⟩))
   ·intro b22 h1
    exact AW.skip (hK17 _ (AW.regionO rfl (zm tb 3 rfl (AO.done (xi (q20, Sh.w (i10 + 1)) h1 (Wk.tr rfl))))))
  ·intro b16 h1
   exact AW.exit (M12 left9 (Sh.some_eq h1).symm _ (Wk.tr rfl))
theorem laws_szImage_ok {N : Nat} {p0 : RImage} {p1 : Int} {r : Int} (h0 : laws_szImage N p0 p1 = some r) : ACalls Try.prog 4 [(.agg (eRImage p0)), (i64 p1)] [] (fun v st => v = (i64 r) ∧ st = []) := by
 unfold laws_szImage at h0
 refine ai Try.func4 rfl rfl rfl rfl (sr rfl fun K1 hK1 => ao_box (m := 0) (st' := [⟨0, 25, 2, [(eRImage p0)]⟩]) go0 rfl rfl rfl rfl rfl (zq tb rfl (dn hK1 rfl (sr rfl fun K2 hK2 => zm tb 3 rfl (bs h0 fun q3 gq3 h0 => zc hb13 (laws_szDeclS_ok gq3) rfl rfl rfl (zq tb rfl (dn hK2 rfl (AW.seq fun K4 hK4 => ?_))))))))
 refine zr tb rfl rfl ?_
 refine ci h0 rfl ?_ ?_ <;> clear h0
 ·intro b6 h0
  refine zr tb rfl rfl ?_
  replace h0 := Sh.some_eq h0
  subst r
  exact AW.ret (xr (Wk.d0 [(4, (i64 (-1)))] rfl))
 ·intro b6 h0
  refine AW.skip (hK4 _ (sr rfl fun K8 hK8 => zm tb 3 rfl (bs h0 fun q9 gq9 h0 => zc hb14 (laws_szProcS_ok gq9) rfl rfl rfl (zq tb rfl (dn hK8 rfl (AW.seq fun K10 hK10 => zr tb rfl rfl ?_))))))
  refine ci h0 rfl ?_ ?_ <;> clear h0
  ·intro b12 h0
   refine zr tb rfl rfl ?_
   replace h0 := Sh.some_eq h0
   subst r
   exact AW.ret (xr (Wk.d0 [(4, (i64 (-1)))] rfl))
  ·intro b12 h0
   refine AW.skip (hK10 _ (zr tb rfl rfl ?_))
   replace h0 := Sh.some_eq h0
   subst r
   exact AW.ret (xr (Wk.d0 [(4, (i64 q9))] rfl))
theorem laws_toIntS_ok {N : Nat} {p0 : (List Int)} {r : (List Int)} (h0 : laws_toIntS N p0 = some r) : ACalls Try.prog 58 [(ls eI p0)] [] (fun v st => v = (ow 0 0 r) ∧ st = [(ro 0 3 1 eI r)]) := by
 unfold laws_toIntS at h0
 refine ai Try.func58 rfl rfl rfl rfl (zr tb rfl rfl (sr rfl fun K2 hK2 => zq tb rfl (zl tb rfl rfl (bs h0 fun l3 gl3 h0 => ao_make (m := 0) (st' := [(ro 0 3 1 eI l3)]) (enc := eI) (u := 0) go0 ei27 rfl rfl rfl gl3 rfl rfl (zq tb rfl (dn hK2 rfl (AW.seq fun K4 hK4 => zr tb rfl rfl (bs h0 fun o9 h1 h0 => ?_))))))))
 have M9 : ∀ (l8 : (List Int)), o9 = l8 → ∀ s, Wk 0 s ⟨22, envL [(3, (ow 0 0 l8))], [(ro 0 3 1 eI l8)]⟩ → K4 s := by
  intro l8 hq s hw
  subst o9
  try dsimp only at h0
  refine hK4 _ (AW.weaken hw (zr tb rfl rfl ?_))
  replace h0 := Sh.some_eq h0
  subst r
  exact AW.ret (xr (Wk.to (L := [(2, (ow 0 0 l8))]) ⟨.rfl, trivial⟩))
 refine AW.block (AW.loopF (σ := Int × (List Int)) (fun n v => laws_toIntS_L1 p0 n v.1 v.2 = some o9) (fun (i6, l7) => ⟨22, envL [(0, (ls eI p0)), (3, (ow 0 0 l7)), (4, (i64 i6))], [(ro 0 3 1 eI l7)]⟩) N (0, l3) h1 (Wk.tr rfl) (fun _ hv => by rw [laws_toIntS_L1] at hv; cases hv) ?_)
 rintro n ⟨i6, l7⟩ h1
 try dsimp only at h1 ⊢
 rw [laws_toIntS_L1] at h1
 refine AW.seq fun K11 hK11 => sr rfl fun K12 hK12 => zm tb 2 rfl (zl tb rfl rfl (zq tb rfl (dn hK12 rfl ?_)))
 refine ci h1 rfl ?_ ?_ <;> clear h1
 ·intro b13 h1
  refine AW.skip (hK11 _ (AW.seq fun K14 hK14 => AW.block (AW.regionO rfl (zm tb 4 rfl (bs h1 fun c15 gc15 h1 => zx ei27 gc15 rfl rfl rfl (zq tb rfl (bs h1 fun c16 gc16 h1 => zz (.ptr 0 0 (Int.toNat i6) 0) (aq_ixo ei27 rfl rfl rfl rfl gc16) rfl (ao_stl (st' := [(ro 0 3 1 eI (Sh.put l7 i6 c15))]) (u' := c15) go0 ti3 rfl rfl gc16 rfl rfl rfl (show 0 + 1 ≤ 1 by decide) rfl rfl (dn hK14 rfl ?_)))))))))
  refine AW.regionO rfl (zm tb 3 rfl ?_)
  exact AO.done (xi (Sh.w (i6 + 1), Sh.put l7 i6 c15) h1 (Wk.to (L := [(0, (.sl (List.map eI p0))), (3, (.own 0 0 (List.length (Sh.put l7 i6 c15)))), (4, (i64 (Sh.w (i6 + 1))))]) ⟨.rfl, (.len (by simp only [Sh.put_len])), .rfl, trivial⟩))
 ·intro b13 h1
  exact AW.exit (M9 l7 (Sh.some_eq h1).symm _ (Wk.tr rfl))
theorem laws_toCon_ok {N : Nat} {p0 : RCon} {r : RCon} (h0 : laws_toCon N p0 = some r) : ACalls Try.prog 76 [(.agg (eRCon p0))] [] (fun v st => v = (.agg (eRCon r)) ∧ st = []) := by
 unfold laws_toCon at h0
 refine ACalls.flat rfl (ai Try.func76 rfl rfl rfl rfl (sr rfl fun K1 hK1 => ao_box (m := 0) (st' := [⟨0, 119, 1, [(eRCon p0)]⟩]) go0 rfl rfl rfl rfl rfl (ao_alloc (m := 1) (st' := [⟨0, 119, 1, [(eRCon p0)]⟩, ⟨0, 117, 1, [[.zc]]⟩]) go0 zi117 rfl rfl (dn hK1 rfl (sr rfl fun K2 hK2 => ao_alloc (m := 2) (st' := [⟨0, 119, 1, [(eRCon p0)]⟩, ⟨0, 117, 1, [[.zc]]⟩, ⟨0, 117, 1, [[.zc]]⟩]) go0 zi117 rfl rfl (dn hK2 rfl (sr rfl fun K3 hK3 => zm tb 2 rfl (bs h0 fun q4 gq4 h0 => ?_))))))))
 refine ao_call (v' := (ow 3 0 q4)) (st' := [⟨0, 119, 1, [(eRCon p0)]⟩, ⟨0, 117, 1, [[.zc]]⟩, ⟨0, 117, 1, [[.zc]]⟩, (ro 0 3 1 eI q4)]) go0 hb58 (laws_toIntS_ok gq4) rfl rfl ⟨(pure_map' fun _ => rfl), trivial⟩ rfl rfl (zq tb rfl (AO.weaken (Wk.frz (L := [(2, (.ptr 1 0 0 0)), (3, (.ptr 2 0 0 0)), (6, (ls eI q4)), (7, (.ptr 2 0 0 0))]) (st' := [⟨0, 119, 1, [(eRCon p0)]⟩, ⟨0, 117, 1, [[.zc]]⟩, ⟨0, 117, 1, [[.zc]]⟩, ⟨1, 3, 1, []⟩]) (id := 3) rfl (show 0 ≤ 3 by decide) (pure_map fun _ => rfl) ⟨.rfl, .rfl, (.frz rfl), .rfl, trivial⟩ rfl) (ao_str (st' := [⟨0, 119, 1, [(eRCon p0)]⟩, ⟨0, 117, 1, [[.zc]]⟩, ⟨0, 117, 1, [[(ls eI q4)]]⟩, ⟨1, 3, 1, []⟩]) go0 ti27 rfl rfl rfl rfl rfl rfl (show 0 + 1 ≤ 1 by decide) rfl (dn hK3 rfl (sr rfl fun K5 hK5 => zq tb rfl (ao_str (st' := [⟨0, 119, 1, [(eRCon p0)]⟩, ⟨0, 117, 1, [[(ls eI q4)]]⟩, ⟨0, 117, 1, [[(ls eI q4)]]⟩, ⟨1, 3, 1, []⟩]) go0 ti117 rfl rfl rfl rfl rfl rfl (show 0 + 1 ≤ 1 by decide) rfl (dn hK5 rfl ?_)))))))
 replace h0 := Sh.some_eq h0
 subst r
 exact AW.ret (Exists.intro _ (And.intro (Wk.refl _ _) (aq_ldpa (x := .tmp 2) (off := 0) (cs := [(ls eI q4)]) (vs := [(ls eI q4)]) ti117 rfl rfl rfl (show 0 + 1 ≤ 1 by decide) rfl _ rfl)))
theorem laws_toConS_ok {N : Nat} {p0 : (List RCon)} {r : (List RCon)} (h0 : laws_toConS N p0 = some r) : ACalls Try.prog 57 [(ls eRCon p0)] [] (fun v st => v = (ow 0 0 r) ∧ st = [(ro 0 117 1 eRCon r)]) := by
 unfold laws_toConS at h0
 refine ai Try.func57 rfl rfl rfl rfl (zr tb rfl rfl (sr rfl fun K2 hK2 => zq tb rfl (zl tb rfl rfl (bs h0 fun l3 gl3 h0 => ao_make (m := 0) (st' := [(ro 0 117 1 eRCon l3)]) (enc := eRCon) (u := (RCon.mk [])) go0 ei76 rfl rfl rfl gl3 rfl rfl (zq tb rfl (dn hK2 rfl (AW.seq fun K4 hK4 => zr tb rfl rfl (bs h0 fun o9 h1 h0 => ?_))))))))
 have M9 : ∀ (l8 : (List RCon)), o9 = l8 → ∀ s, Wk 0 s ⟨23, envL [(3, (ow 0 0 l8))], [(ro 0 117 1 eRCon l8)]⟩ → K4 s := by
  intro l8 hq s hw
  subst o9
  try dsimp only at h0
  refine hK4 _ (AW.weaken hw (zr tb rfl rfl ?_))
  replace h0 := Sh.some_eq h0
  subst r
  exact AW.ret (xr (Wk.to (L := [(2, (ow 0 0 l8))]) ⟨.rfl, trivial⟩))
 refine AW.block (AW.loopF (σ := Int × (List RCon)) (fun n v => laws_toConS_L1 N p0 n v.1 v.2 = some o9) (fun (i6, l7) => ⟨23, envL [(0, (ls eRCon p0)), (3, (ow 0 0 l7)), (4, (i64 i6))], [(ro 0 117 1 eRCon l7)]⟩) N (0, l3) h1 (Wk.tr rfl) (fun _ hv => by rw [laws_toConS_L1] at hv; cases hv) ?_)
 rintro n ⟨i6, l7⟩ h1
 try dsimp only at h1 ⊢
 rw [laws_toConS_L1] at h1
 refine AW.seq fun K11 hK11 => sr rfl fun K12 hK12 => zm tb 2 rfl (zl tb rfl rfl (zq tb rfl (dn hK12 rfl ?_)))
 refine ci h1 rfl ?_ ?_ <;> clear h1
 ·intro b13 h1
  refine AW.skip (hK11 _ (AW.seq fun K14 hK14 => AW.block (AW.regionO rfl (zm tb 4 rfl (bs h1 fun c15 gc15 h1 => zx ei56 gc15 rfl rfl rfl (zq tb rfl (bs h1 fun q16 gq16 h1 => zc (v' := (.agg (eRCon q16))) hb76 (laws_toCon_ok gq16) rfl rfl rfl (bs h1 fun c17 gc17 h1 => zz (.ptr 0 0 (Int.toNat i6) 0) (aq_ixo ei76 rfl rfl rfl rfl gc17) rfl ?_))))))))
  refine ao_stl (st' := [(ro 0 117 1 eRCon (Sh.put l7 i6 q16))]) (u' := q16) go0 ti117 rfl rfl gc17 rfl rfl rfl (show 0 + 1 ≤ 1 by decide) rfl rfl (dn hK14 rfl (AW.regionO rfl (zm tb 3 rfl ?_)))
  exact AO.done (xi (Sh.w (i6 + 1), Sh.put l7 i6 q16) h1 (Wk.to (L := [(0, (.sl (List.map eRCon p0))), (3, (.own 0 0 (List.length (Sh.put l7 i6 q16)))), (4, (i64 (Sh.w (i6 + 1))))]) ⟨.rfl, (.len (by simp only [Sh.put_len])), .rfl, trivial⟩))
 ·intro b13 h1
  exact AW.exit (M9 l7 (Sh.some_eq h1).symm _ (Wk.tr rfl))
theorem laws_toDecl_ok {N : Nat} {p0 : RDecl} {r : RDecl} (h0 : laws_toDecl N p0 = some r) : ACalls Try.prog 37 [(.agg (eRDecl p0))] [] (fun v st => v = (.agg (eRDecl r)) ∧ st = []) := by
 unfold laws_toDecl at h0
 refine ACalls.flat rfl (ai Try.func37 rfl rfl rfl rfl (sr rfl fun K1 hK1 => ao_box (m := 0) (st' := [⟨0, 58, 3, [(eRDecl p0)]⟩]) go0 rfl rfl rfl rfl rfl (ao_alloc (m := 1) (st' := [⟨0, 58, 3, [(eRDecl p0)]⟩, ⟨0, 78, 3, [[(i64 0), (i64 0), .zc]]⟩]) go0 zi78 rfl rfl (dn hK1 rfl (sr rfl fun K2 hK2 => ao_alloc (m := 2) (st' := [⟨0, 58, 3, [(eRDecl p0)]⟩, ⟨0, 78, 3, [[(i64 0), (i64 0), .zc]]⟩, ⟨0, 78, 3, [[(i64 0), (i64 0), .zc]]⟩]) go0 zi78 rfl rfl (dn hK2 rfl (sr rfl fun K3 hK3 => zm tb 3 rfl (ao_str (st' := [⟨0, 58, 3, [(eRDecl p0)]⟩, ⟨0, 78, 3, [[(i64 0), (i64 0), .zc]]⟩, ⟨0, 78, 3, [[(i64 p0.from_), (i64 0), .zc]]⟩]) go0 ti3 rfl rfl rfl rfl rfl rfl (show 0 + 1 ≤ 3 by decide) rfl ?_))))))))
 refine dn hK3 rfl (sr rfl fun K4 hK4 => zm tb 3 rfl (ao_str (st' := [⟨0, 58, 3, [(eRDecl p0)]⟩, ⟨0, 78, 3, [[(i64 0), (i64 0), .zc]]⟩, ⟨0, 78, 3, [[(i64 p0.from_), (i64 p0.to), .zc]]⟩]) go0 ti3 rfl rfl rfl rfl rfl rfl (show 1 + 1 ≤ 3 by decide) rfl (dn hK4 rfl (sr rfl fun K5 hK5 => zm tb 2 rfl (bs h0 fun q6 gq6 h0 => ao_call (v' := (ow 3 0 q6)) (st' := [⟨0, 58, 3, [(eRDecl p0)]⟩, ⟨0, 78, 3, [[(i64 0), (i64 0), .zc]]⟩, ⟨0, 78, 3, [[(i64 p0.from_), (i64 p0.to), .zc]]⟩, (ro 0 117 1 eRCon q6)]) go0 hb57 (laws_toConS_ok gq6) rfl rfl ⟨(pure_map' fun _ => rfl), trivial⟩ rfl rfl (zq tb rfl (AO.weaken (Wk.frz (L := [(2, (.ptr 1 0 0 0)), (3, (.ptr 2 0 0 0)), (12, (ls eRCon q6)), (13, (.ptr 2 0 0 2))]) (st' := [⟨0, 58, 3, [(eRDecl p0)]⟩, ⟨0, 78, 3, [[(i64 0), (i64 0), .zc]]⟩, ⟨0, 78, 3, [[(i64 p0.from_), (i64 p0.to), .zc]]⟩, ⟨1, 117, 1, []⟩]) (id := 3) rfl (show 0 ≤ 3 by decide) (pure_map fun _ => rfl) ⟨.rfl, .rfl, (.frz rfl), .rfl, trivial⟩ rfl) (ao_str (st' := [⟨0, 58, 3, [(eRDecl p0)]⟩, ⟨0, 78, 3, [[(i64 0), (i64 0), .zc]]⟩, ⟨0, 78, 3, [[(i64 p0.from_), (i64 p0.to), (ls eRCon q6)]]⟩, ⟨1, 117, 1, []⟩]) go0 ti76 rfl rfl rfl rfl rfl rfl (show 2 + 1 ≤ 3 by decide) rfl ?_))))))))
 refine dn hK5 rfl (sr rfl fun K7 hK7 => zq tb rfl (ao_str (st' := [⟨0, 58, 3, [(eRDecl p0)]⟩, ⟨0, 78, 3, [[(i64 p0.from_), (i64 p0.to), (ls eRCon q6)]]⟩, ⟨0, 78, 3, [[(i64 p0.from_), (i64 p0.to), (ls eRCon q6)]]⟩, ⟨1, 117, 1, []⟩]) go0 ti78 rfl rfl rfl rfl rfl rfl (show 0 + 3 ≤ 3 by decide) rfl (dn hK7 rfl ?_)))
 replace h0 := Sh.some_eq h0
 subst r
 exact AW.ret (Exists.intro _ (And.intro (Wk.refl _ _) (aq_ldpa (x := .tmp 2) (off := 0) (cs := [(i64 p0.from_), (i64 p0.to), (ls eRCon q6)]) (vs := [(i64 p0.from_), (i64 p0.to), (ls eRCon q6)]) ti78 rfl rfl rfl (show 0 + 3 ≤ 3 by decide) rfl _ rfl)))
theorem laws_toDeclS_ok {N : Nat} {p0 : (List RDecl)} {r : (List RDecl)} (h0 : laws_toDeclS N p0 = some r) : ACalls Try.prog 19 [(ls eRDecl p0)] [] (fun v st => v = (ow 0 0 r) ∧ st = [(ro 0 78 3 eRDecl r)]) := by
 unfold laws_toDeclS at h0
 refine ai Try.func19 rfl rfl rfl rfl (zr tb rfl rfl (sr rfl fun K2 hK2 => zq tb rfl (zl tb rfl rfl (bs h0 fun l3 gl3 h0 => ao_make (m := 0) (st' := [(ro 0 78 3 eRDecl l3)]) (enc := eRDecl) (u := (RDecl.mk 0 0 [])) go0 ei29 rfl rfl rfl gl3 rfl rfl (zq tb rfl (dn hK2 rfl (AW.seq fun K4 hK4 => zr tb rfl rfl (bs h0 fun o9 h1 h0 => ?_))))))))
 have M9 : ∀ (l8 : (List RDecl)), o9 = l8 → ∀ s, Wk 0 s ⟨23, envL [(3, (ow 0 0 l8))], [(ro 0 78 3 eRDecl l8)]⟩ → K4 s := by
  intro l8 hq s hw
  subst o9
  try dsimp only at h0
  refine hK4 _ (AW.weaken hw (zr tb rfl rfl ?_))
  replace h0 := Sh.some_eq h0
  subst r
  exact AW.ret (xr (Wk.to (L := [(2, (ow 0 0 l8))]) ⟨.rfl, trivial⟩))
 refine AW.block (AW.loopF (σ := Int × (List RDecl)) (fun n v => laws_toDeclS_L1 N p0 n v.1 v.2 = some o9) (fun (i6, l7) => ⟨23, envL [(0, (ls eRDecl p0)), (3, (ow 0 0 l7)), (4, (i64 i6))], [(ro 0 78 3 eRDecl l7)]⟩) N (0, l3) h1 (Wk.tr rfl) (fun _ hv => by rw [laws_toDeclS_L1] at hv; cases hv) ?_)
 rintro n ⟨i6, l7⟩ h1
 try dsimp only at h1 ⊢
 rw [laws_toDeclS_L1] at h1
 refine AW.seq fun K11 hK11 => sr rfl fun K12 hK12 => zm tb 2 rfl (zl tb rfl rfl (zq tb rfl (dn hK12 rfl ?_)))
 refine ci h1 rfl ?_ ?_ <;> clear h1
 ·intro b13 h1
  refine AW.skip (hK11 _ (AW.seq fun K14 hK14 => AW.block (AW.regionO rfl (zm tb 4 rfl (bs h1 fun c15 gc15 h1 => zx ei22 gc15 rfl rfl rfl (zq tb rfl (bs h1 fun q16 gq16 h1 => zc (v' := (.agg (eRDecl q16))) hb37 (laws_toDecl_ok gq16) rfl rfl rfl (bs h1 fun c17 gc17 h1 => zz (.ptr 0 0 (Int.toNat i6) 0) (aq_ixo ei29 rfl rfl rfl rfl gc17) rfl ?_))))))))
  refine ao_stl (st' := [(ro 0 78 3 eRDecl (Sh.put l7 i6 q16))]) (u' := q16) go0 ti78 rfl rfl gc17 rfl rfl rfl (show 0 + 3 ≤ 3 by decide) rfl rfl (dn hK14 rfl (AW.regionO rfl (zm tb 3 rfl ?_)))
  exact AO.done (xi (Sh.w (i6 + 1), Sh.put l7 i6 q16) h1 (Wk.to (L := [(0, (.sl (List.map eRDecl p0))), (3, (.own 0 0 (List.length (Sh.put l7 i6 q16)))), (4, (i64 (Sh.w (i6 + 1))))]) ⟨.rfl, (.len (by simp only [Sh.put_len])), .rfl, trivial⟩))
 ·intro b13 h1
  exact AW.exit (M9 l7 (Sh.some_eq h1).symm _ (Wk.tr rfl))
theorem laws_toInstr_ok {N : Nat} {p0 : RInstr} {r : RInstr} (h0 : laws_toInstr N p0 = some r) : ACalls Try.prog 77 [(.agg (eRInstr p0))] [] (fun v st => v = (.agg (eRInstr r)) ∧ st = []) := by
 unfold laws_toInstr at h0
 refine ACalls.flat rfl (ai Try.func77 rfl rfl rfl rfl (sr rfl fun K1 hK1 => ao_box (m := 0) (st' := [⟨0, 121, 6, [(eRInstr p0)]⟩]) go0 rfl rfl rfl rfl rfl (ao_alloc (m := 1) (st' := [⟨0, 121, 6, [(eRInstr p0)]⟩, ⟨0, 73, 6, [[(i64 0), (i64 0), (i64 0), (i64 0), .zc, .zc]]⟩]) go0 zi73 rfl rfl (dn hK1 rfl (sr rfl fun K2 hK2 => ao_alloc (m := 2) (st' := [⟨0, 121, 6, [(eRInstr p0)]⟩, ⟨0, 73, 6, [[(i64 0), (i64 0), (i64 0), (i64 0), .zc, .zc]]⟩, ⟨0, 73, 6, [[(i64 0), (i64 0), (i64 0), (i64 0), .zc, .zc]]⟩]) go0 zi73 rfl rfl (dn hK2 rfl (sr rfl fun K3 hK3 => zm tb 3 rfl (ao_str (st' := [⟨0, 121, 6, [(eRInstr p0)]⟩, ⟨0, 73, 6, [[(i64 0), (i64 0), (i64 0), (i64 0), .zc, .zc]]⟩, ⟨0, 73, 6, [[(i64 p0.op), (i64 0), (i64 0), (i64 0), .zc, .zc]]⟩]) go0 ti3 rfl rfl rfl rfl rfl rfl (show 0 + 1 ≤ 6 by decide) rfl ?_))))))))
 refine dn hK3 rfl (sr rfl fun K4 hK4 => zm tb 3 rfl (ao_str (st' := [⟨0, 121, 6, [(eRInstr p0)]⟩, ⟨0, 73, 6, [[(i64 0), (i64 0), (i64 0), (i64 0), .zc, .zc]]⟩, ⟨0, 73, 6, [[(i64 p0.op), (i64 p0.dst), (i64 0), (i64 0), .zc, .zc]]⟩]) go0 ti3 rfl rfl rfl rfl rfl rfl (show 1 + 1 ≤ 6 by decide) rfl (dn hK4 rfl (sr rfl fun K5 hK5 => zm tb 3 rfl (ao_str (st' := [⟨0, 121, 6, [(eRInstr p0)]⟩, ⟨0, 73, 6, [[(i64 0), (i64 0), (i64 0), (i64 0), .zc, .zc]]⟩, ⟨0, 73, 6, [[(i64 p0.op), (i64 p0.dst), (i64 p0.num), (i64 0), .zc, .zc]]⟩]) go0 ti3 rfl rfl rfl rfl rfl rfl (show 2 + 1 ≤ 6 by decide) rfl (dn hK5 rfl (sr rfl fun K6 hK6 => zm tb 3 rfl (ao_str (st' := [⟨0, 121, 6, [(eRInstr p0)]⟩, ⟨0, 73, 6, [[(i64 0), (i64 0), (i64 0), (i64 0), .zc, .zc]]⟩, ⟨0, 73, 6, [[(i64 p0.op), (i64 p0.dst), (i64 p0.num), (i64 p0.into), .zc, .zc]]⟩]) go0 ti3 rfl rfl rfl rfl rfl rfl (show 3 + 1 ≤ 6 by decide) rfl ?_))))))))
 refine dn hK6 rfl (sr rfl fun K7 hK7 => zm tb 2 rfl (bs h0 fun q8 gq8 h0 => ao_call (v' := (ow 3 0 q8)) (st' := [⟨0, 121, 6, [(eRInstr p0)]⟩, ⟨0, 73, 6, [[(i64 0), (i64 0), (i64 0), (i64 0), .zc, .zc]]⟩, ⟨0, 73, 6, [[(i64 p0.op), (i64 p0.dst), (i64 p0.num), (i64 p0.into), .zc, .zc]]⟩, (ro 0 3 1 eI q8)]) go0 hb58 (laws_toIntS_ok gq8) rfl rfl ⟨(pure_map' fun _ => rfl), trivial⟩ rfl rfl (zq tb rfl (AO.weaken (Wk.frz (L := [(1, (.ptr 0 0 0 0)), (2, (.ptr 1 0 0 0)), (3, (.ptr 2 0 0 0)), (18, (ls eI q8)), (19, (.ptr 2 0 0 4))]) (st' := [⟨0, 121, 6, [(eRInstr p0)]⟩, ⟨0, 73, 6, [[(i64 0), (i64 0), (i64 0), (i64 0), .zc, .zc]]⟩, ⟨0, 73, 6, [[(i64 p0.op), (i64 p0.dst), (i64 p0.num), (i64 p0.into), .zc, .zc]]⟩, ⟨1, 3, 1, []⟩]) (id := 3) rfl (show 0 ≤ 3 by decide) (pure_map fun _ => rfl) ⟨.rfl, .rfl, .rfl, (.frz rfl), .rfl, trivial⟩ rfl) (ao_str (st' := [⟨0, 121, 6, [(eRInstr p0)]⟩, ⟨0, 73, 6, [[(i64 0), (i64 0), (i64 0), (i64 0), .zc, .zc]]⟩, ⟨0, 73, 6, [[(i64 p0.op), (i64 p0.dst), (i64 p0.num), (i64 p0.into), (ls eI q8), .zc]]⟩, ⟨1, 3, 1, []⟩]) go0 ti27 rfl rfl rfl rfl rfl rfl (show 4 + 1 ≤ 6 by decide) rfl (dn hK7 rfl (sr rfl fun K9 hK9 => zm tb 2 rfl (bs h0 fun q10 gq10 h0 => ?_))))))))
 refine ao_call (v' := (ow 4 0 q10)) (st' := [⟨0, 121, 6, [(eRInstr p0)]⟩, ⟨0, 73, 6, [[(i64 0), (i64 0), (i64 0), (i64 0), .zc, .zc]]⟩, ⟨0, 73, 6, [[(i64 p0.op), (i64 p0.dst), (i64 p0.num), (i64 p0.into), (ls eI q8), .zc]]⟩, ⟨1, 3, 1, []⟩, (ro 0 3 1 eI q10)]) go0 hb58 (laws_toIntS_ok gq10) rfl rfl ⟨(pure_map' fun _ => rfl), trivial⟩ rfl rfl (zq tb rfl (AO.weaken (Wk.frz (L := [(2, (.ptr 1 0 0 0)), (3, (.ptr 2 0 0 0)), (22, (ls eI q10)), (23, (.ptr 2 0 0 5))]) (st' := [⟨0, 121, 6, [(eRInstr p0)]⟩, ⟨0, 73, 6, [[(i64 0), (i64 0), (i64 0), (i64 0), .zc, .zc]]⟩, ⟨0, 73, 6, [[(i64 p0.op), (i64 p0.dst), (i64 p0.num), (i64 p0.into), (ls eI q8), .zc]]⟩, ⟨1, 3, 1, []⟩, ⟨1, 3, 1, []⟩]) (id := 4) rfl (show 0 ≤ 4 by decide) (pure_map fun _ => rfl) ⟨.rfl, .rfl, (.frz rfl), .rfl, trivial⟩ rfl) (ao_str (st' := [⟨0, 121, 6, [(eRInstr p0)]⟩, ⟨0, 73, 6, [[(i64 0), (i64 0), (i64 0), (i64 0), .zc, .zc]]⟩, ⟨0, 73, 6, [[(i64 p0.op), (i64 p0.dst), (i64 p0.num), (i64 p0.into), (ls eI q8), (ls eI q10)]]⟩, ⟨1, 3, 1, []⟩, ⟨1, 3, 1, []⟩]) go0 ti27 rfl rfl rfl rfl rfl rfl (show 5 + 1 ≤ 6 by decide) rfl (dn hK9 rfl (sr rfl fun K11 hK11 => zq tb rfl (ao_str (st' := [⟨0, 121, 6, [(eRInstr p0)]⟩, ⟨0, 73, 6, [[(i64 p0.op), (i64 p0.dst), (i64 p0.num), (i64 p0.into), (ls eI q8), (ls eI q10)]]⟩, ⟨0, 73, 6, [[(i64 p0.op), (i64 p0.dst), (i64 p0.num), (i64 p0.into), (ls eI q8), (ls eI q10)]]⟩, ⟨1, 3, 1, []⟩, ⟨1, 3, 1, []⟩]) go0 ti73 rfl rfl rfl rfl rfl rfl (show 0 + 6 ≤ 6 by decide) rfl (dn hK11 rfl ?_)))))))
 replace h0 := Sh.some_eq h0
 subst r
 exact AW.ret (Exists.intro _ (And.intro (Wk.refl _ _) (aq_ldpa (x := .tmp 2) (off := 0) (cs := [(i64 p0.op), (i64 p0.dst), (i64 p0.num), (i64 p0.into), (ls eI q8), (ls eI q10)]) (vs := [(i64 p0.op), (i64 p0.dst), (i64 p0.num), (i64 p0.into), (ls eI q8), (ls eI q10)]) ti73 rfl rfl rfl (show 0 + 6 ≤ 6 by decide) rfl _ rfl)))
theorem laws_toInstrS_ok {N : Nat} {p0 : (List RInstr)} {r : (List RInstr)} (h0 : laws_toInstrS N p0 = some r) : ACalls Try.prog 59 [(ls eRInstr p0)] [] (fun v st => v = (ow 0 0 r) ∧ st = [(ro 0 73 6 eRInstr r)]) := by
 unfold laws_toInstrS at h0
 refine ai Try.func59 rfl rfl rfl rfl (zr tb rfl rfl (sr rfl fun K2 hK2 => zq tb rfl (zl tb rfl rfl (bs h0 fun l3 gl3 h0 => ao_make (m := 0) (st' := [(ro 0 73 6 eRInstr l3)]) (enc := eRInstr) (u := (RInstr.mk 0 0 0 0 [] [])) go0 ei43 rfl rfl rfl gl3 rfl rfl (zq tb rfl (dn hK2 rfl (AW.seq fun K4 hK4 => zr tb rfl rfl (bs h0 fun o9 h1 h0 => ?_))))))))
 have M9 : ∀ (l8 : (List RInstr)), o9 = l8 → ∀ s, Wk 0 s ⟨23, envL [(3, (ow 0 0 l8))], [(ro 0 73 6 eRInstr l8)]⟩ → K4 s := by
  intro l8 hq s hw
  subst o9
  try dsimp only at h0
  refine hK4 _ (AW.weaken hw (zr tb rfl rfl ?_))
  replace h0 := Sh.some_eq h0
  subst r
  exact AW.ret (xr (Wk.to (L := [(2, (ow 0 0 l8))]) ⟨.rfl, trivial⟩))
 refine AW.block (AW.loopF (σ := Int × (List RInstr)) (fun n v => laws_toInstrS_L1 N p0 n v.1 v.2 = some o9) (fun (i6, l7) => ⟨23, envL [(0, (ls eRInstr p0)), (3, (ow 0 0 l7)), (4, (i64 i6))], [(ro 0 73 6 eRInstr l7)]⟩) N (0, l3) h1 (Wk.tr rfl) (fun _ hv => by rw [laws_toInstrS_L1] at hv; cases hv) ?_)
 rintro n ⟨i6, l7⟩ h1
 try dsimp only at h1 ⊢
 rw [laws_toInstrS_L1] at h1
 refine AW.seq fun K11 hK11 => sr rfl fun K12 hK12 => zm tb 2 rfl (zl tb rfl rfl (zq tb rfl (dn hK12 rfl ?_)))
 refine ci h1 rfl ?_ ?_ <;> clear h1
 ·intro b13 h1
  refine AW.skip (hK11 _ (AW.seq fun K14 hK14 => AW.block (AW.regionO rfl (zm tb 4 rfl (bs h1 fun c15 gc15 h1 => zx ei60 gc15 rfl rfl rfl (zq tb rfl (bs h1 fun q16 gq16 h1 => zc (v' := (.agg (eRInstr q16))) hb77 (laws_toInstr_ok gq16) rfl rfl rfl (bs h1 fun c17 gc17 h1 => zz (.ptr 0 0 (Int.toNat i6) 0) (aq_ixo ei43 rfl rfl rfl rfl gc17) rfl ?_))))))))
  refine ao_stl (st' := [(ro 0 73 6 eRInstr (Sh.put l7 i6 q16))]) (u' := q16) go0 ti73 rfl rfl gc17 rfl rfl rfl (show 0 + 6 ≤ 6 by decide) rfl rfl (dn hK14 rfl (AW.regionO rfl (zm tb 3 rfl ?_)))
  exact AO.done (xi (Sh.w (i6 + 1), Sh.put l7 i6 q16) h1 (Wk.to (L := [(0, (.sl (List.map eRInstr p0))), (3, (.own 0 0 (List.length (Sh.put l7 i6 q16)))), (4, (i64 (Sh.w (i6 + 1))))]) ⟨.rfl, (.len (by simp only [Sh.put_len])), .rfl, trivial⟩))
 ·intro b13 h1
  exact AW.exit (M9 l7 (Sh.some_eq h1).symm _ (Wk.tr rfl))
theorem laws_toProc_ok {N : Nat} {p0 : RProc} {r : RProc} (h0 : laws_toProc N p0 = some r) : ACalls Try.prog 38 [(.agg (eRProc p0))] [] (fun v st => v = (.agg (eRProc r)) ∧ st = []) := by
 unfold laws_toProc at h0
 refine ACalls.flat rfl (ai Try.func38 rfl rfl rfl rfl (sr rfl fun K1 hK1 => ao_box (m := 0) (st' := [⟨0, 62, 5, [(eRProc p0)]⟩]) go0 rfl rfl rfl rfl rfl (ao_alloc (m := 1) (st' := [⟨0, 62, 5, [(eRProc p0)]⟩, ⟨0, 45, 5, [[.zc, .zc, (i64 0), (i64 0), .zc]]⟩]) go0 zi45 rfl rfl (dn hK1 rfl (sr rfl fun K2 hK2 => ao_alloc (m := 2) (st' := [⟨0, 62, 5, [(eRProc p0)]⟩, ⟨0, 45, 5, [[.zc, .zc, (i64 0), (i64 0), .zc]]⟩, ⟨0, 45, 5, [[.zc, .zc, (i64 0), (i64 0), .zc]]⟩]) go0 zi45 rfl rfl (dn hK2 rfl (sr rfl fun K3 hK3 => zm tb 2 rfl (bs h0 fun q4 gq4 h0 => ?_))))))))
 refine ao_call (v' := (ow 3 0 q4)) (st' := [⟨0, 62, 5, [(eRProc p0)]⟩, ⟨0, 45, 5, [[.zc, .zc, (i64 0), (i64 0), .zc]]⟩, ⟨0, 45, 5, [[.zc, .zc, (i64 0), (i64 0), .zc]]⟩, (ro 0 3 1 eI q4)]) go0 hb58 (laws_toIntS_ok gq4) rfl rfl ⟨(pure_map' fun _ => rfl), trivial⟩ rfl rfl (zq tb rfl (AO.weaken (Wk.frz (L := [(1, (.ptr 0 0 0 0)), (2, (.ptr 1 0 0 0)), (3, (.ptr 2 0 0 0)), (6, (ls eI q4)), (7, (.ptr 2 0 0 0))]) (st' := [⟨0, 62, 5, [(eRProc p0)]⟩, ⟨0, 45, 5, [[.zc, .zc, (i64 0), (i64 0), .zc]]⟩, ⟨0, 45, 5, [[.zc, .zc, (i64 0), (i64 0), .zc]]⟩, ⟨1, 3, 1, []⟩]) (id := 3) rfl (show 0 ≤ 3 by decide) (pure_map fun _ => rfl) ⟨.rfl, .rfl, .rfl, (.frz rfl), .rfl, trivial⟩ rfl) (ao_str (st' := [⟨0, 62, 5, [(eRProc p0)]⟩, ⟨0, 45, 5, [[.zc, .zc, (i64 0), (i64 0), .zc]]⟩, ⟨0, 45, 5, [[(ls eI q4), .zc, (i64 0), (i64 0), .zc]]⟩, ⟨1, 3, 1, []⟩]) go0 ti27 rfl rfl rfl rfl rfl rfl (show 0 + 1 ≤ 5 by decide) rfl (dn hK3 rfl (sr rfl fun K5 hK5 => zm tb 2 rfl (bs h0 fun q6 gq6 h0 => ao_call (v' := (ow 4 0 q6)) (st' := [⟨0, 62, 5, [(eRProc p0)]⟩, ⟨0, 45, 5, [[.zc, .zc, (i64 0), (i64 0), .zc]]⟩, ⟨0, 45, 5, [[(ls eI q4), .zc, (i64 0), (i64 0), .zc]]⟩, ⟨1, 3, 1, []⟩, (ro 0 3 1 eI q6)]) go0 hb58 (laws_toIntS_ok gq6) rfl rfl ⟨(pure_map' fun _ => rfl), trivial⟩ rfl rfl (zq tb rfl (AO.weaken (Wk.frz (L := [(1, (.ptr 0 0 0 0)), (2, (.ptr 1 0 0 0)), (3, (.ptr 2 0 0 0)), (10, (ls eI q6)), (11, (.ptr 2 0 0 1))]) (st' := [⟨0, 62, 5, [(eRProc p0)]⟩, ⟨0, 45, 5, [[.zc, .zc, (i64 0), (i64 0), .zc]]⟩, ⟨0, 45, 5, [[(ls eI q4), .zc, (i64 0), (i64 0), .zc]]⟩, ⟨1, 3, 1, []⟩, ⟨1, 3, 1, []⟩]) (id := 4) rfl (show 0 ≤ 4 by decide) (pure_map fun _ => rfl) ⟨.rfl, .rfl, .rfl, (.frz rfl), .rfl, trivial⟩ rfl) (ao_str (st' := [⟨0, 62, 5, [(eRProc p0)]⟩, ⟨0, 45, 5, [[.zc, .zc, (i64 0), (i64 0), .zc]]⟩, ⟨0, 45, 5, [[(ls eI q4), (ls eI q6), (i64 0), (i64 0), .zc]]⟩, ⟨1, 3, 1, []⟩, ⟨1, 3, 1, []⟩]) go0 ti27 rfl rfl rfl rfl rfl rfl (show 1 + 1 ≤ 5 by decide) rfl ?_)))))))))
 refine dn hK5 rfl (sr rfl fun K7 hK7 => zm tb 3 rfl (ao_str (st' := [⟨0, 62, 5, [(eRProc p0)]⟩, ⟨0, 45, 5, [[.zc, .zc, (i64 0), (i64 0), .zc]]⟩, ⟨0, 45, 5, [[(ls eI q4), (ls eI q6), (i64 p0.result), (i64 0), .zc]]⟩, ⟨1, 3, 1, []⟩, ⟨1, 3, 1, []⟩]) go0 ti3 rfl rfl rfl rfl rfl rfl (show 2 + 1 ≤ 5 by decide) rfl (dn hK7 rfl (sr rfl fun K8 hK8 => zm tb 3 rfl (ao_str (st' := [⟨0, 62, 5, [(eRProc p0)]⟩, ⟨0, 45, 5, [[.zc, .zc, (i64 0), (i64 0), .zc]]⟩, ⟨0, 45, 5, [[(ls eI q4), (ls eI q6), (i64 p0.result), (i64 p0.regs), .zc]]⟩, ⟨1, 3, 1, []⟩, ⟨1, 3, 1, []⟩]) go0 ti3 rfl rfl rfl rfl rfl rfl (show 3 + 1 ≤ 5 by decide) rfl (dn hK8 rfl (sr rfl fun K9 hK9 => zm tb 2 rfl (bs h0 fun q10 gq10 h0 => ?_))))))))
 refine ao_call (v' := (ow 5 0 q10)) (st' := [⟨0, 62, 5, [(eRProc p0)]⟩, ⟨0, 45, 5, [[.zc, .zc, (i64 0), (i64 0), .zc]]⟩, ⟨0, 45, 5, [[(ls eI q4), (ls eI q6), (i64 p0.result), (i64 p0.regs), .zc]]⟩, ⟨1, 3, 1, []⟩, ⟨1, 3, 1, []⟩, (ro 0 73 6 eRInstr q10)]) go0 hb59 (laws_toInstrS_ok gq10) rfl rfl ⟨(pure_map' fun _ => rfl), trivial⟩ rfl rfl (zq tb rfl (AO.weaken (Wk.frz (L := [(2, (.ptr 1 0 0 0)), (3, (.ptr 2 0 0 0)), (20, (ls eRInstr q10)), (21, (.ptr 2 0 0 4))]) (st' := [⟨0, 62, 5, [(eRProc p0)]⟩, ⟨0, 45, 5, [[.zc, .zc, (i64 0), (i64 0), .zc]]⟩, ⟨0, 45, 5, [[(ls eI q4), (ls eI q6), (i64 p0.result), (i64 p0.regs), .zc]]⟩, ⟨1, 3, 1, []⟩, ⟨1, 3, 1, []⟩, ⟨1, 73, 6, []⟩]) (id := 5) rfl (show 0 ≤ 5 by decide) (pure_map fun _ => rfl) ⟨.rfl, .rfl, (.frz rfl), .rfl, trivial⟩ rfl) (ao_str (st' := [⟨0, 62, 5, [(eRProc p0)]⟩, ⟨0, 45, 5, [[.zc, .zc, (i64 0), (i64 0), .zc]]⟩, ⟨0, 45, 5, [[(ls eI q4), (ls eI q6), (i64 p0.result), (i64 p0.regs), (ls eRInstr q10)]]⟩, ⟨1, 3, 1, []⟩, ⟨1, 3, 1, []⟩, ⟨1, 73, 6, []⟩]) go0 ti43 rfl rfl rfl rfl rfl rfl (show 4 + 1 ≤ 5 by decide) rfl (dn hK9 rfl (sr rfl fun K11 hK11 => zq tb rfl (ao_str (st' := [⟨0, 62, 5, [(eRProc p0)]⟩, ⟨0, 45, 5, [[(ls eI q4), (ls eI q6), (i64 p0.result), (i64 p0.regs), (ls eRInstr q10)]]⟩, ⟨0, 45, 5, [[(ls eI q4), (ls eI q6), (i64 p0.result), (i64 p0.regs), (ls eRInstr q10)]]⟩, ⟨1, 3, 1, []⟩, ⟨1, 3, 1, []⟩, ⟨1, 73, 6, []⟩]) go0 ti45 rfl rfl rfl rfl rfl rfl (show 0 + 5 ≤ 5 by decide) rfl (dn hK11 rfl ?_)))))))
 replace h0 := Sh.some_eq h0
 subst r
 exact AW.ret (Exists.intro _ (And.intro (Wk.refl _ _) (aq_ldpa (x := .tmp 2) (off := 0) (cs := [(ls eI q4), (ls eI q6), (i64 p0.result), (i64 p0.regs), (ls eRInstr q10)]) (vs := [(ls eI q4), (ls eI q6), (i64 p0.result), (i64 p0.regs), (ls eRInstr q10)]) ti45 rfl rfl rfl (show 0 + 5 ≤ 5 by decide) rfl _ rfl)))
theorem laws_toProcS_ok {N : Nat} {p0 : (List RProc)} {r : (List RProc)} (h0 : laws_toProcS N p0 = some r) : ACalls Try.prog 20 [(ls eRProc p0)] [] (fun v st => v = (ow 0 0 r) ∧ st = [(ro 0 45 5 eRProc r)]) := by
 unfold laws_toProcS at h0
 refine ai Try.func20 rfl rfl rfl rfl (zr tb rfl rfl (sr rfl fun K2 hK2 => zq tb rfl (zl tb rfl rfl (bs h0 fun l3 gl3 h0 => ao_make (m := 0) (st' := [(ro 0 45 5 eRProc l3)]) (enc := eRProc) (u := (RProc.mk [] [] 0 0 [])) go0 ei30 rfl rfl rfl gl3 rfl rfl (zq tb rfl (dn hK2 rfl (AW.seq fun K4 hK4 => zr tb rfl rfl (bs h0 fun o9 h1 h0 => ?_))))))))
 have M9 : ∀ (l8 : (List RProc)), o9 = l8 → ∀ s, Wk 0 s ⟨23, envL [(3, (ow 0 0 l8))], [(ro 0 45 5 eRProc l8)]⟩ → K4 s := by
  intro l8 hq s hw
  subst o9
  try dsimp only at h0
  refine hK4 _ (AW.weaken hw (zr tb rfl rfl ?_))
  replace h0 := Sh.some_eq h0
  subst r
  exact AW.ret (xr (Wk.to (L := [(2, (ow 0 0 l8))]) ⟨.rfl, trivial⟩))
 refine AW.block (AW.loopF (σ := Int × (List RProc)) (fun n v => laws_toProcS_L1 N p0 n v.1 v.2 = some o9) (fun (i6, l7) => ⟨23, envL [(0, (ls eRProc p0)), (3, (ow 0 0 l7)), (4, (i64 i6))], [(ro 0 45 5 eRProc l7)]⟩) N (0, l3) h1 (Wk.tr rfl) (fun _ hv => by rw [laws_toProcS_L1] at hv; cases hv) ?_)
 rintro n ⟨i6, l7⟩ h1
 try dsimp only at h1 ⊢
 rw [laws_toProcS_L1] at h1
 refine AW.seq fun K11 hK11 => sr rfl fun K12 hK12 => zm tb 2 rfl (zl tb rfl rfl (zq tb rfl (dn hK12 rfl ?_)))
 refine ci h1 rfl ?_ ?_ <;> clear h1
 ·intro b13 h1
  refine AW.skip (hK11 _ (AW.seq fun K14 hK14 => AW.block (AW.regionO rfl (zm tb 4 rfl (bs h1 fun c15 gc15 h1 => zx ei23 gc15 rfl rfl rfl (zq tb rfl (bs h1 fun q16 gq16 h1 => zc (v' := (.agg (eRProc q16))) hb38 (laws_toProc_ok gq16) rfl rfl rfl (bs h1 fun c17 gc17 h1 => zz (.ptr 0 0 (Int.toNat i6) 0) (aq_ixo ei30 rfl rfl rfl rfl gc17) rfl ?_))))))))
  refine ao_stl (st' := [(ro 0 45 5 eRProc (Sh.put l7 i6 q16))]) (u' := q16) go0 ti45 rfl rfl gc17 rfl rfl rfl (show 0 + 5 ≤ 5 by decide) rfl rfl (dn hK14 rfl (AW.regionO rfl (zm tb 3 rfl ?_)))
  exact AO.done (xi (Sh.w (i6 + 1), Sh.put l7 i6 q16) h1 (Wk.to (L := [(0, (.sl (List.map eRProc p0))), (3, (.own 0 0 (List.length (Sh.put l7 i6 q16)))), (4, (i64 (Sh.w (i6 + 1))))]) ⟨.rfl, (.len (by simp only [Sh.put_len])), .rfl, trivial⟩))
 ·intro b13 h1
  exact AW.exit (M9 l7 (Sh.some_eq h1).symm _ (Wk.tr rfl))
theorem laws_toImage_ok {N : Nat} {p0 : RImage} {r : RImage} (h0 : laws_toImage N p0 = some r) : ACalls Try.prog 6 [(.agg (eRImage p0))] [] (fun v st => v = (.agg (eRImage r)) ∧ st = []) := by
 unfold laws_toImage at h0
 refine ACalls.flat rfl (ai Try.func6 rfl rfl rfl rfl (sr rfl fun K1 hK1 => ao_box (m := 0) (st' := [⟨0, 25, 2, [(eRImage p0)]⟩]) go0 rfl rfl rfl rfl rfl (ao_alloc (m := 1) (st' := [⟨0, 25, 2, [(eRImage p0)]⟩, ⟨0, 32, 2, [[.zc, .zc]]⟩]) go0 zi32 rfl rfl (dn hK1 rfl (sr rfl fun K2 hK2 => ao_alloc (m := 2) (st' := [⟨0, 25, 2, [(eRImage p0)]⟩, ⟨0, 32, 2, [[.zc, .zc]]⟩, ⟨0, 32, 2, [[.zc, .zc]]⟩]) go0 zi32 rfl rfl (dn hK2 rfl (sr rfl fun K3 hK3 => zm tb 2 rfl (bs h0 fun q4 gq4 h0 => ?_))))))))
 refine ao_call (v' := (ow 3 0 q4)) (st' := [⟨0, 25, 2, [(eRImage p0)]⟩, ⟨0, 32, 2, [[.zc, .zc]]⟩, ⟨0, 32, 2, [[.zc, .zc]]⟩, (ro 0 78 3 eRDecl q4)]) go0 hb19 (laws_toDeclS_ok gq4) rfl rfl ⟨(pure_map' fun _ => rfl), trivial⟩ rfl rfl (zq tb rfl (AO.weaken (Wk.frz (L := [(1, (.ptr 0 0 0 0)), (2, (.ptr 1 0 0 0)), (3, (.ptr 2 0 0 0)), (6, (ls eRDecl q4)), (7, (.ptr 2 0 0 0))]) (st' := [⟨0, 25, 2, [(eRImage p0)]⟩, ⟨0, 32, 2, [[.zc, .zc]]⟩, ⟨0, 32, 2, [[.zc, .zc]]⟩, ⟨1, 78, 3, []⟩]) (id := 3) rfl (show 0 ≤ 3 by decide) (pure_map fun _ => rfl) ⟨.rfl, .rfl, .rfl, (.frz rfl), .rfl, trivial⟩ rfl) (ao_str (st' := [⟨0, 25, 2, [(eRImage p0)]⟩, ⟨0, 32, 2, [[.zc, .zc]]⟩, ⟨0, 32, 2, [[(ls eRDecl q4), .zc]]⟩, ⟨1, 78, 3, []⟩]) go0 ti29 rfl rfl rfl rfl rfl rfl (show 0 + 1 ≤ 2 by decide) rfl (dn hK3 rfl (sr rfl fun K5 hK5 => zm tb 2 rfl (bs h0 fun q6 gq6 h0 => ao_call (v' := (ow 4 0 q6)) (st' := [⟨0, 25, 2, [(eRImage p0)]⟩, ⟨0, 32, 2, [[.zc, .zc]]⟩, ⟨0, 32, 2, [[(ls eRDecl q4), .zc]]⟩, ⟨1, 78, 3, []⟩, (ro 0 45 5 eRProc q6)]) go0 hb20 (laws_toProcS_ok gq6) rfl rfl ⟨(pure_map' fun _ => rfl), trivial⟩ rfl rfl (zq tb rfl (AO.weaken (Wk.frz (L := [(2, (.ptr 1 0 0 0)), (3, (.ptr 2 0 0 0)), (10, (ls eRProc q6)), (11, (.ptr 2 0 0 1))]) (st' := [⟨0, 25, 2, [(eRImage p0)]⟩, ⟨0, 32, 2, [[.zc, .zc]]⟩, ⟨0, 32, 2, [[(ls eRDecl q4), .zc]]⟩, ⟨1, 78, 3, []⟩, ⟨1, 45, 5, []⟩]) (id := 4) rfl (show 0 ≤ 4 by decide) (pure_map fun _ => rfl) ⟨.rfl, .rfl, (.frz rfl), .rfl, trivial⟩ rfl) (ao_str (st' := [⟨0, 25, 2, [(eRImage p0)]⟩, ⟨0, 32, 2, [[.zc, .zc]]⟩, ⟨0, 32, 2, [[(ls eRDecl q4), (ls eRProc q6)]]⟩, ⟨1, 78, 3, []⟩, ⟨1, 45, 5, []⟩]) go0 ti30 rfl rfl rfl rfl rfl rfl (show 1 + 1 ≤ 2 by decide) rfl ?_)))))))))
 refine dn hK5 rfl (sr rfl fun K7 hK7 => zq tb rfl (ao_str (st' := [⟨0, 25, 2, [(eRImage p0)]⟩, ⟨0, 32, 2, [[(ls eRDecl q4), (ls eRProc q6)]]⟩, ⟨0, 32, 2, [[(ls eRDecl q4), (ls eRProc q6)]]⟩, ⟨1, 78, 3, []⟩, ⟨1, 45, 5, []⟩]) go0 ti32 rfl rfl rfl rfl rfl rfl (show 0 + 2 ≤ 2 by decide) rfl (dn hK7 rfl ?_)))
 replace h0 := Sh.some_eq h0
 subst r
 exact AW.ret (Exists.intro _ (And.intro (Wk.refl _ _) (aq_ldpa (x := .tmp 2) (off := 0) (cs := [(ls eRDecl q4), (ls eRProc q6)]) (vs := [(ls eRDecl q4), (ls eRProc q6)]) ti32 rfl rfl rfl (show 0 + 2 ≤ 2 by decide) rfl _ rfl)))
theorem spec_sigsOfImage_ok {N : Nat} {p0 : RImage} {r : RProgram} (h0 : spec_sigsOfImage N p0 = some r) : ACalls Try.prog 30 [(.agg (eRImage p0))] [] (fun v st => v = (.agg [(ls eRDecl r.decls), (ls eRFunc r.funcs)]) ∧ st = []) := by
 unfold spec_sigsOfImage at h0
 refine ACalls.flat rfl (ai Try.func30 rfl rfl rfl rfl (sr rfl fun K1 hK1 => ao_box (m := 0) (st' := [⟨0, 32, 2, [(eRImage p0)]⟩]) go0 rfl rfl rfl rfl rfl (ao_alloc (m := 1) (st' := [⟨0, 32, 2, [(eRImage p0)]⟩, ⟨0, 66, 2, [[.zc, .zc]]⟩]) go0 zi66 rfl rfl (dn hK1 rfl (sr rfl fun K2 hK2 => zm tb 2 rfl ?_)))))
 refine ao_bs (m := 2) (st' := [⟨0, 32, 2, [(eRImage p0)]⟩, ⟨0, 66, 2, [[.zc, .zc]]⟩, (ro 0 102 5 eRFunc ([] : List RFunc))]) (l := ([] : List RFunc)) (enc := eRFunc) go0 ei64 (by decide) rfl rfl rfl rfl rfl rfl ?_
 refine zz (.agg [(ls eRDecl p0.decls), (.own 2 0 (List.length ([] : List RFunc)))]) (aq_bd ai66 bi66 zi66 rfl rfl) rfl (ao_alloc (m := 3) (st' := [⟨0, 32, 2, [(eRImage p0)]⟩, ⟨0, 66, 2, [[.zc, .zc]]⟩, (ro 0 102 5 eRFunc ([] : List RFunc)), ⟨0, 66, 2, [[.zc, .zc]]⟩]) go0 zi66 rfl rfl (ao_str (st' := [⟨0, 32, 2, [(eRImage p0)]⟩, ⟨0, 66, 2, [[.zc, .zc]]⟩, (ro 0 102 5 eRFunc ([] : List RFunc)), ⟨0, 66, 2, [[(ls eRDecl p0.decls), (.own 2 0 (List.length ([] : List RFunc)))]]⟩]) go0 ti66 rfl rfl rfl rfl rfl rfl (show 0 + 2 ≤ 2 by decide) rfl (dn hK2 rfl (AW.seq fun K3 hK3 => zr tb rfl rfl (bs h0 fun o8 h1 h0 => ?_)))))
 have M8 : ∀ (l7 : (List RFunc)), o8 = l7 → ∀ s, Wk 0 s ⟨35, envL [(2, (.ptr 0 0 0 0)), (3, (.ptr 2 0 0 0))], [⟨0, 66, 2, [[.zc, .zc]]⟩, (ro 0 102 5 eRFunc l7), ⟨0, 66, 2, [[(ls eRDecl p0.decls), (ow 1 0 l7)]]⟩]⟩ → K3 s := by
  intro l7 hq s hw
  subst o8
  try dsimp only at h0
  refine hK3 _ (AW.weaken hw (sr rfl fun K9 hK9 => zq tb rfl (AO.weaken (Wk.frz (L := [(2, (.ptr 0 0 0 0)), (34, (.agg [(ls eRDecl p0.decls), (ls eRFunc l7)]))]) (st' := [⟨0, 66, 2, [[.zc, .zc]]⟩, ⟨1, 102, 5, []⟩, ⟨0, 66, 2, [[(ls eRDecl p0.decls), (ow 1 0 l7)]]⟩]) (id := 1) rfl (show 0 ≤ 1 by decide) (pure_map fun _ => rfl) ⟨.rfl, (.agg ⟨.rfl, (.frz1 rfl), trivial⟩), trivial⟩ rfl) (ao_str (st' := [⟨0, 66, 2, [[(ls eRDecl p0.decls), (ls eRFunc l7)]]⟩, ⟨1, 102, 5, []⟩, ⟨0, 66, 2, [[(ls eRDecl p0.decls), (ow 1 0 l7)]]⟩]) go0 ti66 rfl rfl rfl rfl rfl rfl (show 0 + 2 ≤ 2 by decide) rfl (dn hK9 rfl ?_)))))
  replace h0 := Sh.some_eq h0
  subst r
  exact AW.ret (Exists.intro _ (And.intro (Wk.refl _ _) (aq_ldpa (x := .tmp 2) (off := 0) (cs := [(ls eRDecl p0.decls), (ls eRFunc l7)]) (vs := [(ls eRDecl p0.decls), (ls eRFunc l7)]) ti66 rfl rfl rfl (show 0 + 2 ≤ 2 by decide) rfl _ rfl)))
 refine AW.block (AW.loopF (σ := Int × (List RFunc)) (fun n v => spec_sigsOfImage_L1 p0 n v.1 v.2 = some o8) (fun (i5, l6) => ⟨35, envL [(1, (.ptr 0 0 0 0)), (2, (.ptr 1 0 0 0)), (3, (.ptr 3 0 0 0)), (4, (i64 i5))], [⟨0, 32, 2, [(eRImage p0)]⟩, ⟨0, 66, 2, [[.zc, .zc]]⟩, (ro 0 102 5 eRFunc l6), ⟨0, 66, 2, [[(ls eRDecl p0.decls), (ow 2 0 l6)]]⟩]⟩) N (0, []) h1 (Wk.tr rfl) (fun _ hv => by rw [spec_sigsOfImage_L1] at hv; cases hv) ?_)
 rintro n ⟨i5, l6⟩ h1
 try dsimp only at h1 ⊢
 rw [spec_sigsOfImage_L1] at h1
 refine AW.seq fun K10 hK10 => sr rfl fun K11 hK11 => zm tb 3 rfl (zl tb rfl rfl (zq tb rfl (dn hK11 rfl ?_)))
 refine ci h1 rfl ?_ ?_ <;> clear h1
 ·intro b12 h1
  refine AW.skip (hK10 _ (AW.seq fun K13 hK13 => AW.block ?_))
  refine AW.drawTailO 16 (by kernel_rfl) (by kernel_rfl) (by rfl) ?_
  iterate 5 refine yq tb rfl ?_
  refine bs h1 fun c14 gc14 h1 => yx ei30 gc14 rfl rfl rfl ?_
  iterate 5 refine yq tb rfl ?_
  refine yx ei30 gc14 rfl rfl rfl ?_
  iterate 2 refine yq tb rfl ?_
  refine yz (.agg [(ls eI c14.params), (i64 c14.result), (i64 0), (i64 0), .zc]) (aq_bd ai102 bi102 zi102 rfl rfl) rfl ?_
  refine d_bsz (l := ([(RFunc.mk c14.params c14.result (RExpr.mk 0 0 []))])) (enc := eRFunc) (pv' := [(0, (.agg [(ls eI c14.params), (i64 c14.result), (i64 0), (i64 0), (.sl (List.map eRExpr []))]))]) go0 ei64 (by decide) rfl rfl (.cons (le.agg ⟨le.rfl, le.rfl, le.rfl, le.rfl, le.zc, trivial⟩) .nil) rfl rfl rfl (pure_map fun _ => rfl) ?_
  exact d_done (bs h1 fun l15 gl15 h1 => ao_apo (st' := [⟨0, 32, 2, [(eRImage p0)]⟩, ⟨0, 66, 2, [[.zc, .zc]]⟩, (ro 1 102 5 eRFunc l15), ⟨0, 66, 2, [[(ls eRDecl p0.decls), (ow 2 0 l6)]]⟩]) (l2 := ([(RFunc.mk c14.params c14.result (RExpr.mk 0 0 []))])) go0 ei64 rfl rfl rfl rfl el_s (fun _ => rfl) gl15 rfl (zq tb rfl (ao_str (st' := [⟨0, 32, 2, [(eRImage p0)]⟩, ⟨0, 66, 2, [[.zc, .zc]]⟩, (ro 1 102 5 eRFunc l15), ⟨0, 66, 2, [[(ls eRDecl p0.decls), (ow 2 1 l15)]]⟩]) go0 ti64 rfl rfl rfl rfl rfl rfl (show 1 + 1 ≤ 2 by decide) rfl (dn hK13 rfl (AW.regionO rfl (zm tb 3 rfl (AO.done (xi (Sh.w (i5 + 1), l15) h1 (Wk.rg (L := [(1, (.ptr 0 0 0 0)), (2, (.ptr 1 0 0 0)), (3, (.ptr 3 0 0 0)), (4, (i64 (Sh.w (i5 + 1))))]) (st' := [⟨0, 32, 2, [(eRImage p0)]⟩, ⟨0, 66, 2, [[.zc, .zc]]⟩, (ro 0 102 5 eRFunc l15), ⟨0, 66, 2, [[(ls eRDecl p0.decls), (ow 2 0 l15)]]⟩]) (.raw rfl rfl (.raw rfl rfl (.pure (pure_map fun _ => rfl) (.raw rfl rfl .nil)))) ⟨.rfl, .rfl, .rfl, .rfl, trivial⟩)))))))))
 ·intro b12 h1
  exact AW.exit (M8 l6 (Sh.some_eq h1).symm _ (Wk.permk (L := [(2, (.ptr 0 0 0 0)), (3, (.ptr 2 0 0 0))]) (st' := [⟨0, 66, 2, [[.zc, .zc]]⟩, (ro 0 102 5 eRFunc l6), ⟨0, 66, 2, [[(ls eRDecl p0.decls), (ow 1 0 l6)]]⟩]) (st1 := [⟨0, 66, 2, [[.zc, .zc]]⟩, (ro 0 102 5 eRFunc l6), ⟨0, 66, 2, [[(ls eRDecl p0.decls), (ow 2 0 l6)]]⟩]) [1, 2, 3] rfl .nil (by decide) rfl rfl (.raw rfl rfl (.pure (pure_map fun _ => rfl) (.raw rfl rfl .nil))) ⟨.rfl, .rfl, trivial⟩))
theorem spec_inRange_ok {p0 : Int} {p1 : Int} {p2 : Int} {r : Bool} (h0 : spec_inRange p0 p1 p2 = some r) : ACalls Try.prog 16 [(i64 p0), (i64 p1), (i64 p2)] [] (fun v st => v = (.bool r) ∧ st = []) := by
 unfold spec_inRange at h0
 refine ai Try.func16 rfl rfl rfl rfl (zr tb rfl rfl (AW.seq fun K2 hK2 => bs h0 fun o4 h1 h0 => ?_))
 have M4 : ∀ (t3 : Bool), o4 = t3 → ∀ s, Wk 0 s ⟨15, envL [(6, (.bool t3))], []⟩ → K2 s := by
  intro t3 hq s hw
  subst o4
  try dsimp only at h0
  refine hK2 _ (AW.weaken hw ?_)
  replace h0 := Sh.some_eq h0
  subst r
  exact AW.ret (xr (Wk.to (L := [(6, (.bool t3))]) ⟨.rfl, trivial⟩))
 refine AW.regionO rfl (zm tb 4 rfl ?_)
 rcases Sh.ite_some h1 with ⟨b5, h1⟩ | ⟨b5, h1⟩
 ·exact zg tb b5 rfl (zg tb b5 rfl (zg tb b5 rfl (zt b5 rfl (zq tb rfl (AO.done (M4 (decide (p0 ≤ p2)) (Sh.some_eq h1).symm _ (Wk.tr rfl)))))))
 ·exact zs b5 rfl (zs b5 rfl (zs b5 rfl (zf b5 rfl (zq tb rfl (AO.done (M4 false (Sh.some_eq h1).symm _ (Wk.tr rfl)))))))
theorem spec_allTypes_ok {N : Nat} {p0 : (List RDecl)} {p1 : (List Int)} {r : Bool} (h0 : spec_allTypes N p0 p1 = some r) : ACalls Try.prog 52 [(ls eRDecl p0), (ls eI p1)] [] (fun v st => v = (.bool r) ∧ st = []) := by
 unfold spec_allTypes at h0
 refine ai Try.func52 rfl rfl rfl rfl (zr tb rfl rfl (AW.seq fun K2 hK2 => zr tb rfl rfl ?_))
 obtain ⟨o5, h1, h0⟩ := Sh.cont_some h0
 have M5 : ∀ (_ : Unit), o5 = Sum.inr () → ∀ s, Wk 0 s ⟨20, envL [], []⟩ → K2 s := by
  intro _ hq s hw
  subst o5
  try dsimp only at h0
  refine hK2 _ (AW.weaken hw (zr tb rfl rfl ?_))
  replace h0 := Sh.some_eq h0
  subst r
  exact AW.ret (xr (Wk.to (L := [(4, (.bool true))]) ⟨.rfl, trivial⟩))
 refine AW.block (AW.loopF (σ := Int) (fun n v => spec_allTypes_L1 p0 p1 n v = some o5) (fun i4 => ⟨20, envL [(0, (ls eRDecl p0)), (1, (ls eI p1)), (5, (i64 i4))], []⟩) N 0 h1 (Wk.tr rfl) (fun _ hv => by rw [spec_allTypes_L1] at hv; cases hv) ?_)
 rintro n i4 h1
 try dsimp only at h1 ⊢
 rw [spec_allTypes_L1] at h1
 refine AW.seq fun K7 hK7 => sr rfl fun K8 hK8 => zm tb 2 rfl (zl tb rfl rfl (zq tb rfl (dn hK8 rfl ?_)))
 refine ci h1 rfl ?_ ?_ <;> clear h1
 ·intro b9 h1
  refine AW.skip (hK7 _ (AW.seq fun K10 hK10 => AW.block (sr rfl fun K11 hK11 => zm tb 2 rfl (bs h1 fun c12 gc12 h1 => zx ei27 gc12 rfl rfl rfl (zm tb 2 rfl (zl tb rfl rfl (bs h1 fun q13 gq13 h1 => zc hb16 (spec_inRange_ok gq13) rfl rfl rfl (zq tb rfl ?_))))))))
  refine dn hK11 rfl ?_
  refine ci h1 rfl ?_ ?_ <;> clear h1
  ·intro b14 h1
   have b15 : q13 = false := by simpa using b14
   refine zr tb rfl rfl ?_
   replace h1 := Sh.some_eq h1
   subst o5
   try dsimp only [id] at h0
   replace h0 := Sh.some_eq h0
   subst r
   exact AW.ret (xr (Wk.to (L := [(4, (.bool false))]) ⟨.rfl, trivial⟩))
  ·intro b14 h1
   have b17 : q13 = true := by simpa using b14
   exact AW.skip (hK10 _ (AW.regionO rfl (zm tb 3 rfl (AO.done (xi (Sh.w (i4 + 1)) h1 (Wk.tr rfl))))))
 ·intro b9 h1
  exact AW.exit (M5 () (Sh.some_eq h1).symm _ (Wk.tr rfl))
theorem spec_validDecl_ok {N : Nat} {p0 : (List RDecl)} {p1 : Int} {r : Bool} (h0 : spec_validDecl N p0 p1 = some r) : ACalls Try.prog 70 [(ls eRDecl p0), (i64 p1)] [] (fun v st => v = (.bool r) ∧ st = []) := by
 unfold spec_validDecl at h0
 refine ai Try.func70 rfl rfl rfl rfl (zr tb rfl rfl (sr rfl fun K2 hK2 => zm tb 2 rfl (bs h0 fun c3 gc3 h0 => zx ei29 gc3 rfl rfl rfl (zq tb rfl (ao_alloc (m := 0) (st' := [⟨0, 78, 3, [[(i64 0), (i64 0), .zc]]⟩]) go0 zi78 rfl rfl (ao_str (st' := [⟨0, 78, 3, [(eRDecl c3)]⟩]) go0 ti78 rfl rfl rfl rfl rfl rfl (show 0 + 3 ≤ 3 by decide) rfl (dn hK2 rfl (AW.seq fun K4 hK4 => sr rfl fun K5 hK5 => ?_))))))))
 refine zm tb 2 rfl (zl tb rfl rfl (zq tb rfl (dn hK5 rfl ?_)))
 refine ci h0 rfl ?_ ?_ <;> clear h0
 ·intro b6 h0
  refine AW.seq fun K7 hK7 => AW.seq fun K8 hK8 => bs h0 fun o10 h1 h0 => ?_
  have M10 : ∀ (t9 : Bool), o10 = t9 → ∀ s, Wk 0 s ⟨100, envL [(0, (ls eRDecl p0)), (5, (.ptr 0 0 0 0)), (29, (.bool t9))], [⟨0, 78, 3, [(eRDecl c3)]⟩]⟩ → K8 s := by
   intro t9 hq s hw
   subst o10
   try dsimp only at h0
   refine hK8 _ (AW.weaken hw ?_)
   refine ci h0 rfl ?_ ?_ <;> clear h0
   ·intro b11 h0
    refine zr tb rfl rfl ?_
    replace h0 := Sh.some_eq h0
    subst r
    exact AW.ret (xr (Wk.d0 [(4, (.bool false))] rfl))
   ·intro b11 h0
    refine AW.skip (hK7 _ (AW.seq fun K13 hK13 => zr tb rfl rfl ?_))
    obtain ⟨o16, h1, h0⟩ := Sh.cont_some h0
    have M16 : ∀ (_ : Unit), o16 = Sum.inr () → ∀ s, Wk 0 s ⟨100, envL [], []⟩ → K13 s := by
     intro _ hq s hw
     subst o16
     try dsimp only at h0
     refine hK13 _ (AW.weaken hw (zr tb rfl rfl ?_))
     replace h0 := Sh.some_eq h0
     subst r
     exact AW.ret (xr (Wk.to (L := [(4, (.bool true))]) ⟨.rfl, trivial⟩))
    refine AW.block (AW.loopF (σ := Int) (fun n v => spec_validDecl_L1 N c3 p0 n v = some o16) (fun i15 => ⟨100, envL [(0, (ls eRDecl p0)), (5, (.ptr 0 0 0 0)), (6, (i64 i15))], [⟨0, 78, 3, [(eRDecl c3)]⟩]⟩) N 0 h1 (Wk.tr rfl) (fun _ hv => by rw [spec_validDecl_L1] at hv; cases hv) ?_)
    rintro n i15 h1
    try dsimp only at h1 ⊢
    rw [spec_validDecl_L1] at h1
    refine AW.seq fun K18 hK18 => sr rfl fun K19 hK19 => zm tb 3 rfl (zl tb rfl rfl (zq tb rfl (dn hK19 rfl ?_)))
    refine ci h1 rfl ?_ ?_ <;> clear h1
    ·intro b20 h1
     refine AW.skip (hK18 _ (AW.seq fun K21 hK21 => AW.block (AW.seq fun K22 hK22 => bs h1 fun o24 h2 h1 => ?_)))
     have M24 : ∀ (t23 : Bool), o24 = t23 → ∀ s, Wk 0 s ⟨100, envL [(0, (ls eRDecl p0)), (5, (.ptr 0 0 0 0)), (6, (i64 i15)), (55, (.bool t23))], [⟨0, 78, 3, [(eRDecl c3)]⟩]⟩ → K22 s := by
      intro t23 hq s hw
      subst o24
      try dsimp only at h1
      refine hK22 _ (AW.weaken hw ?_)
      refine ci h1 rfl ?_ ?_ <;> clear h1
      ·intro b25 h1
       refine zr tb rfl rfl ?_
       replace h1 := Sh.some_eq h1
       subst o16
       try dsimp only [id] at h0
       replace h0 := Sh.some_eq h0
       subst r
       exact AW.ret (xr (Wk.d0 [(4, (.bool false))] rfl))
      ·intro b25 h1
       exact AW.skip (hK21 _ (AW.regionO rfl (zm tb 3 rfl (AO.done (xi (Sh.w (i15 + 1)) h1 (Wk.tr rfl))))))
     refine AW.regionO rfl (zm tb 3 rfl (bs h2 fun c27 gc27 h2 => zx ei76 gc27 rfl rfl rfl (zm tb 2 rfl (zl tb rfl rfl (zm tb 2 rfl ?_)))))
     rcases Sh.ite_some h2 with ⟨b28, h2⟩ | ⟨b28, h2⟩
     ·refine zs b28 rfl ?_
      iterate 8 refine zs b28 rfl ?_
      exact zt b28 rfl (AO.done (M24 true (Sh.some_eq h2).symm _ (Wk.tr rfl)))
     ·refine zg tb b28 rfl ?_
      iterate 3 refine zg tb b28 rfl ?_
      exact ao_q (v := (.iptr (eRCon c27) 0)) (go1 rfl rfl b28) rfl (aq_ixs ei76 rfl rfl gc27 rfl) (zg tb b28 rfl (zg tb b28 rfl (bs h2 fun q29 gq29 h2 => zd b28 hb52 (spec_allTypes_ok gq29) rfl rfl rfl rfl (zg tb b28 rfl (zf b28 rfl (AO.done (M24 (!q29) (Sh.some_eq h2).symm _ (Wk.tr rfl))))))))
    ·intro b20 h1
     exact AW.exit (M16 () (Sh.some_eq h1).symm _ (Wk.d0 _ rfl))
  refine AW.regionO rfl (zm tb 2 rfl (zl tb rfl rfl (zm tb 2 rfl ?_)))
  rcases Sh.ite_some h1 with ⟨b30, h1⟩ | ⟨b30, h1⟩
  ·refine zs b30 rfl (zs b30 rfl (zs b30 rfl (zt b30 rfl (zq tb rfl ?_))))
   iterate 3 refine zs rfl rfl ?_
   exact zt rfl rfl (AO.done (M10 true (Sh.some_eq h1).symm _ (Wk.tr rfl)))
  ·refine zg tb b30 rfl (zg tb b30 rfl (zg tb b30 rfl (zf b30 rfl (zq tb rfl ?_))))
   rcases Sh.ite_some h1 with ⟨b31, h1⟩ | ⟨b31, h1⟩
   ·exact zs b31 rfl (zs b31 rfl (zs b31 rfl (zt b31 rfl (AO.done (M10 true (Sh.some_eq h1).symm _ (Wk.tr rfl))))))
   ·exact zg tb b31 rfl (zg tb b31 rfl (zg tb b31 rfl (zf b31 rfl (AO.done (M10 (!decide (c3.to = 0)) (Sh.some_eq h1).symm _ (Wk.tr rfl))))))
 ·intro b6 h0
  refine AW.skip (hK4 _ (AW.seq fun K32 hK32 => zr tb rfl rfl ?_))
  obtain ⟨o35, h1, h0⟩ := Sh.cont_some h0
  have M35 : ∀ (_ : Unit), o35 = Sum.inr () → ∀ s, Wk 0 s ⟨100, envL [(0, (ls eRDecl p0)), (5, (.ptr 0 0 0 0))], [⟨0, 78, 3, [(eRDecl c3)]⟩]⟩ → K32 s := by
   intro _ hq s hw
   subst o35
   try dsimp only at h0
   refine hK32 _ (AW.weaken hw (AW.seq fun K36 hK36 => bs h0 fun o38 h1 h0 => ?_))
   have M38 : ∀ (t37 : Bool), o38 = t37 → ∀ s, Wk 0 s ⟨100, envL [(4, (.bool t37))], []⟩ → K36 s := by
    intro t37 hq s hw
    subst o38
    try dsimp only at h0
    refine hK36 _ (AW.weaken hw ?_)
    replace h0 := Sh.some_eq h0
    subst r
    exact AW.ret (xr (Wk.to (L := [(4, (.bool t37))]) ⟨.rfl, trivial⟩))
   refine AW.regionO rfl (zm tb 3 rfl (zl tb rfl rfl (bs h1 fun q39 gq39 h1 => zc hb16 (spec_inRange_ok gq39) rfl rfl rfl (zq tb rfl ?_))))
   rcases Sh.ite_some h1 with ⟨b40, h1⟩ | ⟨b40, h1⟩
   ·exact zg tb b40 rfl (zg tb b40 rfl (zg tb b40 rfl (ao_q (v := (i64 (Sh.len p0))) (go1 rfl rfl b40) rfl (aq_lens sl29 rfl) (bs h1 fun q41 gq41 h1 => zd b40 hb16 (spec_inRange_ok gq41) rfl rfl rfl rfl (zt b40 rfl (zq tb rfl (AO.done (M38 q41 (Sh.some_eq h1).symm _ (Wk.d0 _ rfl)))))))))
   ·refine zs b40 rfl ?_
    iterate 4 refine zs b40 rfl ?_
    exact zf b40 rfl (zq tb rfl (AO.done (M38 false (Sh.some_eq h1).symm _ (Wk.d0 _ rfl))))
  refine AW.block (AW.loopF (σ := Int) (fun n v => spec_validDecl_L2 c3 p0 p1 n v = some o35) (fun i34 => ⟨100, envL [(0, (ls eRDecl p0)), (1, (i64 p1)), (5, (.ptr 0 0 0 0)), (7, (i64 i34))], [⟨0, 78, 3, [(eRDecl c3)]⟩]⟩) N 0 h1 (Wk.tr rfl) (fun _ hv => by rw [spec_validDecl_L2] at hv; cases hv) ?_)
  rintro n i34 h1
  try dsimp only at h1 ⊢
  rw [spec_validDecl_L2] at h1
  refine AW.seq fun K42 hK42 => zr tb rfl rfl ?_
  refine ci h1 rfl ?_ ?_ <;> clear h1
  ·intro b44 h1
   refine AW.skip (hK42 _ (AW.seq fun K45 hK45 => AW.block (AW.seq fun K46 hK46 => bs h1 fun o48 h2 h1 => ?_)))
   have M48 : ∀ (t47 : Bool), o48 = t47 → ∀ s, Wk 0 s ⟨100, envL [(0, (ls eRDecl p0)), (1, (i64 p1)), (5, (.ptr 0 0 0 0)), (7, (i64 i34)), (87, (.bool t47))], [⟨0, 78, 3, [(eRDecl c3)]⟩]⟩ → K46 s := by
    intro t47 hq s hw
    subst o48
    try dsimp only at h1
    refine hK46 _ (AW.weaken hw ?_)
    refine ci h1 rfl ?_ ?_ <;> clear h1
    ·intro b49 h1
     refine zr tb rfl rfl ?_
     replace h1 := Sh.some_eq h1
     subst o35
     try dsimp only [id] at h0
     replace h0 := Sh.some_eq h0
     subst r
     exact AW.ret (xr (Wk.d0 [(4, (.bool false))] rfl))
    ·intro b49 h1
     exact AW.skip (hK45 _ (AW.regionO rfl (zm tb 3 rfl (AO.done (xi (Sh.w (i34 + 1)) h1 (Wk.tr rfl))))))
   refine AW.draw (by kernel_rfl) (by kernel_rfl) (by rfl) ?_
   iterate 2 refine yq tb rfl ?_
   refine bs h2 fun c51 gc51 h2 => yx ei29 gc51 rfl rfl rfl ?_
   iterate 2 refine yq tb rfl ?_
   refine yl tb rfl rfl ?_
   iterate 2 refine yq tb rfl ?_
   rcases Sh.ite_some h2 with ⟨b52, h2⟩ | ⟨b52, h2⟩
   ·refine yg tb b52 rfl (yg tb b52 rfl (d_q (v := (.iptr (eRDecl c51) 0)) (go1 rfl rfl b52) rfl (aq_ixs ei29 rfl rfl gc51 rfl) ?_))
    iterate 5 refine yg tb b52 rfl ?_
    refine yt b52 rfl (yq tb rfl ?_)
    rcases Sh.ite_some h2 with ⟨b53, h2⟩ | ⟨b53, h2⟩
    ·refine yg tb b53 rfl (yg tb b53 rfl (d_q (v := (.iptr (eRDecl c51) 0)) (go1 rfl rfl b53) rfl (aq_ixs ei29 rfl rfl gc51 rfl) ?_))
     iterate 5 refine yg tb b53 rfl ?_
     exact yt b53 rfl (d_done (M48 (decide (c51.to = c3.to)) (Sh.some_eq h2).symm _ (Wk.tr rfl)))
    ·refine ys b53 rfl ?_
     iterate 7 refine ys b53 rfl ?_
     exact yf b53 rfl (d_done (M48 false (Sh.some_eq h2).symm _ (Wk.tr rfl)))
   ·refine ys b52 rfl ?_
    iterate 7 refine ys b52 rfl ?_
    refine yf b52 rfl (yq tb rfl ?_)
    iterate 8 refine ys rfl rfl ?_
    exact yf rfl rfl (d_done (M48 false (Sh.some_eq h2).symm _ (Wk.tr rfl)))
  ·intro b44 h1
   exact AW.exit (M35 () (Sh.some_eq h1).symm _ (Wk.tr rfl))
theorem spec_validTypes_ok {N : Nat} {p0 : (List RDecl)} {r : Bool} (h0 : spec_validTypes N p0 = some r) : ACalls Try.prog 51 [(ls eRDecl p0)] [] (fun v st => v = (.bool r) ∧ st = []) := by
 unfold spec_validTypes at h0
 refine ai Try.func51 rfl rfl rfl rfl (zr tb rfl rfl (AW.seq fun K2 hK2 => sr rfl fun K3 hK3 => zq tb rfl (zl tb rfl rfl (zq tb rfl (dn hK3 rfl ?_)))))
 refine ci h0 rfl ?_ ?_ <;> clear h0
 ·intro b4 h0
  refine zr tb rfl rfl ?_
  replace h0 := Sh.some_eq h0
  subst r
  exact AW.ret (xr (Wk.to (L := [(2, (.bool false))]) ⟨.rfl, trivial⟩))
 ·intro b4 h0
  refine AW.skip (hK2 _ (AW.seq fun K6 hK6 => zr tb rfl rfl ?_))
  obtain ⟨o9, h1, h0⟩ := Sh.cont_some h0
  have M9 : ∀ (_ : Unit), o9 = Sum.inr () → ∀ s, Wk 0 s ⟨17, envL [], []⟩ → K6 s := by
   intro _ hq s hw
   subst o9
   try dsimp only at h0
   refine hK6 _ (AW.weaken hw (zr tb rfl rfl ?_))
   replace h0 := Sh.some_eq h0
   subst r
   exact AW.ret (xr (Wk.to (L := [(2, (.bool true))]) ⟨.rfl, trivial⟩))
  refine AW.block (AW.loopF (σ := Int) (fun n v => spec_validTypes_L1 N p0 n v = some o9) (fun i8 => ⟨17, envL [(0, (ls eRDecl p0)), (3, (i64 i8))], []⟩) N 0 h1 (Wk.tr rfl) (fun _ hv => by rw [spec_validTypes_L1] at hv; cases hv) ?_)
  rintro n i8 h1
  try dsimp only at h1 ⊢
  rw [spec_validTypes_L1] at h1
  refine AW.seq fun K11 hK11 => sr rfl fun K12 hK12 => zm tb 2 rfl (zl tb rfl rfl (zq tb rfl (dn hK12 rfl ?_)))
  refine ci h1 rfl ?_ ?_ <;> clear h1
  ·intro b13 h1
   refine AW.skip (hK11 _ (AW.seq fun K14 hK14 => AW.block (sr rfl fun K15 hK15 => zm tb 2 rfl (bs h1 fun q16 gq16 h1 => zc hb70 (spec_validDecl_ok gq16) rfl rfl rfl (zq tb rfl (dn hK15 rfl ?_))))))
   refine ci h1 rfl ?_ ?_ <;> clear h1
   ·intro b17 h1
    have b18 : q16 = false := by simpa using b17
    refine zr tb rfl rfl ?_
    replace h1 := Sh.some_eq h1
    subst o9
    try dsimp only [id] at h0
    replace h0 := Sh.some_eq h0
    subst r
    exact AW.ret (xr (Wk.to (L := [(2, (.bool false))]) ⟨.rfl, trivial⟩))
   ·intro b17 h1
    have b20 : q16 = true := by simpa using b17
    exact AW.skip (hK14 _ (AW.regionO rfl (zm tb 3 rfl (AO.done (xi (Sh.w (i8 + 1)) h1 (Wk.tr rfl))))))
  ·intro b13 h1
   exact AW.exit (M9 () (Sh.some_eq h1).symm _ (Wk.tr rfl))
theorem spec_validSigs_ok {N : Nat} {p0 : RProgram} {r : Bool} (h0 : spec_validSigs N p0 = some r) : ACalls Try.prog 29 [(.agg [(ls eRDecl p0.decls), (ls eRFunc p0.funcs)])] [] (fun v st => v = (.bool r) ∧ st = []) := by
 unfold spec_validSigs at h0
 refine ai Try.func29 rfl rfl rfl rfl (sr rfl fun K1 hK1 => ao_box (m := 0) (st' := [⟨0, 66, 2, [[(ls eRDecl p0.decls), (ls eRFunc p0.funcs)]]⟩]) go0 rfl rfl rfl rfl rfl (zq tb rfl (dn hK1 rfl (AW.seq fun K2 hK2 => AW.seq fun K3 hK3 => bs h0 fun o5 h1 h0 => ?_))))
 have M5 : ∀ (t4 : Bool), o5 = t4 → ∀ s, Wk 0 s ⟨64, envL [(1, (.ptr 0 0 0 0)), (15, (.bool t4))], [⟨0, 66, 2, [[(ls eRDecl p0.decls), (ls eRFunc p0.funcs)]]⟩]⟩ → K3 s := by
  intro t4 hq s hw
  subst o5
  try dsimp only at h0
  refine hK3 _ (AW.weaken hw ?_)
  refine ci h0 rfl ?_ ?_ <;> clear h0
  ·intro b6 h0
   refine zr tb rfl rfl ?_
   replace h0 := Sh.some_eq h0
   subst r
   exact AW.ret (xr (Wk.d0 [(2, (.bool false))] rfl))
  ·intro b6 h0
   refine AW.skip (hK2 _ (AW.seq fun K8 hK8 => zr tb rfl rfl ?_))
   obtain ⟨o11, h1, h0⟩ := Sh.cont_some h0
   have M11 : ∀ (_ : Unit), o11 = Sum.inr () → ∀ s, Wk 0 s ⟨64, envL [(1, (.ptr 0 0 0 0))], [⟨0, 66, 2, [[(ls eRDecl p0.decls), (ls eRFunc p0.funcs)]]⟩]⟩ → K8 s := by
    intro _ hq s hw
    subst o11
    try dsimp only at h0
    refine hK8 _ (AW.weaken hw (AW.seq fun K12 hK12 => bs h0 fun o14 h1 h0 => ?_))
    have M14 : ∀ (t13 : Bool), o14 = t13 → ∀ s, Wk 0 s ⟨64, envL [(2, (.bool t13))], []⟩ → K12 s := by
     intro t13 hq s hw
     subst o14
     try dsimp only at h0
     refine hK12 _ (AW.weaken hw ?_)
     replace h0 := Sh.some_eq h0
     subst r
     exact AW.ret (xr (Wk.to (L := [(2, (.bool t13))]) ⟨.rfl, trivial⟩))
    refine AW.regionO rfl (zm tb 2 rfl (bs h1 fun c15 gc15 h1 => zx ei64 gc15 rfl rfl rfl (zm tb 2 rfl (zl tb rfl rfl (zm tb 2 rfl ?_)))))
    rcases Sh.ite_some h1 with ⟨b16, h1⟩ | ⟨b16, h1⟩
    ·refine zg tb b16 rfl (zg tb b16 rfl (ao_q (v := (.iptr (eRFunc c15) 0)) (go1 rfl rfl b16) rfl (aq_ixs ei64 rfl rfl gc15 rfl) ?_))
     iterate 3 refine zg tb b16 rfl ?_
     exact zt b16 rfl (zq tb rfl (AO.done (M14 (decide (c15.result = 0)) (Sh.some_eq h1).symm _ (Wk.d0 _ rfl))))
    ·refine zs b16 rfl ?_
     iterate 5 refine zs b16 rfl ?_
     exact zf b16 rfl (zq tb rfl (AO.done (M14 false (Sh.some_eq h1).symm _ (Wk.d0 _ rfl))))
   refine AW.block (AW.loopF (σ := Int) (fun n v => spec_validSigs_L1 N p0 n v = some o11) (fun i10 => ⟨64, envL [(1, (.ptr 0 0 0 0)), (3, (i64 i10))], [⟨0, 66, 2, [[(ls eRDecl p0.decls), (ls eRFunc p0.funcs)]]⟩]⟩) N 0 h1 (Wk.tr rfl) (fun _ hv => by rw [spec_validSigs_L1] at hv; cases hv) ?_)
   rintro n i10 h1
   try dsimp only at h1 ⊢
   rw [spec_validSigs_L1] at h1
   refine AW.seq fun K17 hK17 => sr rfl fun K18 hK18 => zm tb 3 rfl (zl tb rfl rfl (zq tb rfl (dn hK18 rfl ?_)))
   refine ci h1 rfl ?_ ?_ <;> clear h1
   ·intro b19 h1
    refine AW.skip (hK17 _ (AW.seq fun K20 hK20 => AW.block (sr rfl fun K21 hK21 => zm tb 3 rfl (bs h1 fun c22 gc22 h1 => zx ei64 gc22 rfl rfl rfl (zq tb rfl (ao_alloc (m := 1) (st' := [⟨0, 66, 2, [[(ls eRDecl p0.decls), (ls eRFunc p0.funcs)]]⟩, ⟨0, 102, 5, [[.zc, (i64 0), (i64 0), (i64 0), .zc]]⟩]) go0 zi102 rfl rfl (ao_str (st' := [⟨0, 66, 2, [[(ls eRDecl p0.decls), (ls eRFunc p0.funcs)]]⟩, ⟨0, 102, 5, [[(ls eI c22.params), (i64 c22.result), (i64 c22.body.op), (i64 c22.body.num), (ls eRExpr c22.body.kids)]]⟩]) go0 ti102 rfl rfl rfl rfl rfl rfl (show 0 + 5 ≤ 5 by decide) rfl (dn hK21 rfl (AW.seq fun K23 hK23 => ?_)))))))))
    refine bs h1 fun o25 h2 h1 => ?_
    have M25 : ∀ (t24 : Bool), o25 = t24 → ∀ s, Wk 0 s ⟨64, envL [(1, (.ptr 0 0 0 0)), (3, (i64 i10)), (48, (.bool t24))], [⟨0, 66, 2, [[(ls eRDecl p0.decls), (ls eRFunc p0.funcs)]]⟩]⟩ → K23 s := by
     intro t24 hq s hw
     subst o25
     try dsimp only at h1
     refine hK23 _ (AW.weaken hw ?_)
     refine ci h1 rfl ?_ ?_ <;> clear h1
     ·intro b26 h1
      refine zr tb rfl rfl ?_
      replace h1 := Sh.some_eq h1
      subst o11
      try dsimp only [id] at h0
      replace h0 := Sh.some_eq h0
      subst r
      exact AW.ret (xr (Wk.d0 [(2, (.bool false))] rfl))
     ·intro b26 h1
      exact AW.skip (hK20 _ (AW.regionO rfl (zm tb 3 rfl (AO.done (xi (Sh.w (i10 + 1)) h1 (Wk.tr rfl))))))
    refine AW.regionO rfl (zm tb 2 rfl (zl tb rfl rfl (zm tb 2 rfl ?_)))
    rcases Sh.ite_some h2 with ⟨b28, h2⟩ | ⟨b28, h2⟩
    ·refine zs b28 rfl ?_
     iterate 5 refine zs b28 rfl ?_
     refine zt b28 rfl (zq tb rfl ?_)
     iterate 7 refine zs rfl rfl ?_
     refine zt rfl rfl ?_
     exact AO.done (M25 true (Sh.some_eq h2).symm _ (Wk.permk (L := [(1, (.ptr 0 0 0 0)), (3, (i64 i10)), (48, (.bool true))]) (st' := [⟨0, 66, 2, [[(ls eRDecl p0.decls), (ls eRFunc p0.funcs)]]⟩]) (st1 := [⟨0, 66, 2, [[(ls eRDecl p0.decls), (ls eRFunc p0.funcs)]]⟩]) [0] rfl .nil (by decide) rfl rfl (.raw rfl rfl .nil) ⟨.rfl, .rfl, .rfl, trivial⟩))
    ·refine zg tb b28 rfl ?_
     iterate 3 refine zg tb b28 rfl ?_
     refine bs h2 fun q29 gq29 h2 => zd b28 hb52 (spec_allTypes_ok gq29) rfl rfl rfl rfl (zg tb b28 rfl (zf b28 rfl (zq tb rfl ?_)))
     rcases Sh.ite_some h2 with ⟨b30, h2⟩ | ⟨b30, h2⟩
     ·refine zs b30 rfl ?_
      iterate 6 refine zs b30 rfl ?_
      refine zt b30 rfl ?_
      exact AO.done (M25 true (Sh.some_eq h2).symm _ (Wk.permk (L := [(1, (.ptr 0 0 0 0)), (3, (i64 i10)), (48, (.bool true))]) (st' := [⟨0, 66, 2, [[(ls eRDecl p0.decls), (ls eRFunc p0.funcs)]]⟩]) (st1 := [⟨0, 66, 2, [[(ls eRDecl p0.decls), (ls eRFunc p0.funcs)]]⟩]) [0] rfl .nil (by decide) rfl rfl (.raw rfl rfl .nil) ⟨.rfl, .rfl, .rfl, trivial⟩))
     ·refine zg tb b30 rfl ?_
      iterate 3 refine zg tb b30 rfl ?_
      refine ao_q (v := (i64 (Sh.len p0.decls))) (go1 rfl rfl b30) rfl (aq_lens sl29 rfl) (bs h2 fun q31 gq31 h2 => zd b30 hb16 (spec_inRange_ok gq31) rfl rfl rfl rfl (zg tb b30 rfl (zf b30 rfl ?_)))
      exact AO.done (M25 (!q31) (Sh.some_eq h2).symm _ (Wk.permk (L := [(1, (.ptr 0 0 0 0)), (3, (i64 i10)), (48, (.bool (!q31)))]) (st' := [⟨0, 66, 2, [[(ls eRDecl p0.decls), (ls eRFunc p0.funcs)]]⟩]) (st1 := [⟨0, 66, 2, [[(ls eRDecl p0.decls), (ls eRFunc p0.funcs)]]⟩]) [0] rfl .nil (by decide) rfl rfl (.raw rfl rfl .nil) ⟨.rfl, .rfl, .rfl, trivial⟩))
   ·intro b19 h1
    exact AW.exit (M11 () (Sh.some_eq h1).symm _ (Wk.tr rfl))
 refine AW.regionO rfl (zm tb 2 rfl (bs h1 fun q32 gq32 h1 => zc hb51 (spec_validTypes_ok gq32) rfl rfl rfl (zm tb 2 rfl ?_)))
 rcases Sh.ite_some h1 with ⟨b33, h1⟩ | ⟨b33, h1⟩
 ·refine zs b33 rfl ?_
  iterate 4 refine zs b33 rfl ?_
  exact zt b33 rfl (AO.done (M5 true (Sh.some_eq h1).symm _ (Wk.tr rfl)))
 ·exact zg tb b33 rfl (zg tb b33 rfl (ao_q (v := (i64 (Sh.len p0.funcs))) (go1 rfl rfl b33) rfl (aq_lens sl64 rfl) (bs h1 fun q34 gq34 h1 => zd b33 hb16 (spec_inRange_ok gq34) rfl rfl rfl rfl (zg tb b33 rfl (zf b33 rfl (AO.done (M5 (!q34) (Sh.some_eq h1).symm _ (Wk.tr rfl))))))))
theorem spec_validLent_ok {N : Nat} {p0 : (List Int)} {p1 : (List Int)} {r : Bool} (h0 : spec_validLent N p0 p1 = some r) : ACalls Try.prog 53 [(ls eI p0), (ls eI p1)] [] (fun v st => v = (.bool r) ∧ st = []) := by
 unfold spec_validLent at h0
 refine ai Try.func53 rfl rfl rfl rfl (zr tb rfl rfl (AW.seq fun K2 hK2 => zr tb rfl rfl ?_))
 obtain ⟨o5, h1, h0⟩ := Sh.cont_some h0
 have M5 : ∀ (_ : Unit), o5 = Sum.inr () → ∀ s, Wk 0 s ⟨47, envL [], []⟩ → K2 s := by
  intro _ hq s hw
  subst o5
  try dsimp only at h0
  refine hK2 _ (AW.weaken hw (zr tb rfl rfl ?_))
  replace h0 := Sh.some_eq h0
  subst r
  exact AW.ret (xr (Wk.to (L := [(4, (.bool true))]) ⟨.rfl, trivial⟩))
 refine AW.block (AW.loopF (σ := Int) (fun n v => spec_validLent_L1 p0 p1 n v = some o5) (fun i4 => ⟨47, envL [(0, (ls eI p0)), (1, (ls eI p1)), (5, (i64 i4))], []⟩) N 0 h1 (Wk.tr rfl) (fun _ hv => by rw [spec_validLent_L1] at hv; cases hv) ?_)
 rintro n i4 h1
 try dsimp only at h1 ⊢
 rw [spec_validLent_L1] at h1
 refine AW.seq fun K7 hK7 => sr rfl fun K8 hK8 => zm tb 2 rfl (zl tb rfl rfl (zq tb rfl (dn hK8 rfl ?_)))
 refine ci h1 rfl ?_ ?_ <;> clear h1
 ·intro b9 h1
  refine AW.skip (hK7 _ (AW.seq fun K10 hK10 => AW.block (AW.seq fun K11 hK11 => bs h1 fun o13 h2 h1 => ?_)))
  have M13 : ∀ (t12 : Bool), o13 = t12 → ∀ s, Wk 0 s ⟨47, envL [(0, (ls eI p0)), (1, (ls eI p1)), (5, (i64 i4)), (46, (.bool t12))], []⟩ → K11 s := by
   intro t12 hq s hw
   subst o13
   try dsimp only at h1
   refine hK11 _ (AW.weaken hw ?_)
   refine ci h1 rfl ?_ ?_ <;> clear h1
   ·intro b14 h1
    refine zr tb rfl rfl ?_
    replace h1 := Sh.some_eq h1
    subst o5
    try dsimp only [id] at h0
    replace h0 := Sh.some_eq h0
    subst r
    exact AW.ret (xr (Wk.to (L := [(4, (.bool false))]) ⟨.rfl, trivial⟩))
   ·intro b14 h1
    exact AW.skip (hK10 _ (AW.regionO rfl (zm tb 3 rfl (AO.done (xi (Sh.w (i4 + 1)) h1 (Wk.tr rfl))))))
  refine AW.draw (by kernel_rfl) (by kernel_rfl) (by rfl) ?_
  iterate 2 refine yq tb rfl ?_
  refine bs h2 fun c16 gc16 h2 => yx ei27 gc16 rfl rfl rfl ?_
  iterate 2 refine yq tb rfl ?_
  refine yl tb rfl rfl (yq tb rfl (bs h2 fun q17 gq17 h2 => d_call (v := (.bool q17)) go0 hb16 (spec_inRange_ok gq17) rfl rfl rfl ?_))
  iterate 2 refine yq tb rfl ?_
  rcases Sh.ite_some h2 with ⟨b18, h2⟩ | ⟨b18, h2⟩
  ·refine ys b18 rfl ?_
   iterate 7 refine ys b18 rfl ?_
   refine yt b18 rfl (yq tb rfl ?_)
   iterate 3 refine ys rfl rfl ?_
   iterate 10 refine yn rfl ?_
   exact ys rfl rfl (yt rfl rfl (d_done (M13 true (Sh.some_eq h2).symm _ (Wk.tr rfl))))
  ·refine yg tb b18 rfl ?_
   iterate 2 refine yg tb b18 rfl ?_
   refine d_q (v := (.iptr (eI c16) 0)) (go1 rfl rfl b18) rfl (aq_ixs ei27 rfl rfl gc16 rfl) (yg tb b18 rfl (bs h2 fun c19 gc19 h2 => d_q (v := (.iptr (eI c19) 0)) (go1 rfl rfl b18) rfl (aq_ixs ei27 rfl rfl gc19 rfl) ?_))
   iterate 2 refine yg tb b18 rfl ?_
   refine yf b18 rfl (yq tb rfl ?_)
   rcases Sh.ite_some h2 with ⟨b20, h2⟩ | ⟨b20, h2⟩
   ·refine ys b20 rfl ?_
    iterate 2 refine ys b20 rfl ?_
    iterate 10 refine yn rfl ?_
    exact ys b20 rfl (yt b20 rfl (d_done (M13 true (Sh.some_eq h2).symm _ (Wk.tr rfl))))
   ·refine yg tb b20 rfl ?_
    iterate 2 refine yg tb b20 rfl ?_
    rcases Sh.ite_some h2 with ⟨b21, h2⟩ | ⟨b21, h2⟩
    ·refine yg tb b21 rfl (yg tb b21 rfl (d_q (v := (.iptr (eI c16) 0)) (go1 rfl rfl b21) rfl (aq_ixs ei27 rfl rfl gc16 rfl) ?_))
     iterate 4 refine yg tb b21 rfl ?_
     refine bs h2 fun c22 gc22 h2 => d_q (v := (.iptr (eI c22) 0)) (go1 rfl rfl b21) rfl (aq_ixs ei27 rfl rfl gc22 rfl) ?_
     iterate 2 refine yg tb b21 rfl ?_
     exact d_q (v := (.bool (decide (c16 ≤ c22)))) (go1 rfl rfl b20) rfl (aq_pkt rfl b21 rfl) (yf b20 rfl (d_done (M13 (decide (c16 ≤ c22)) (Sh.some_eq h2).symm _ (Wk.tr rfl))))
    ·refine ys b21 rfl ?_
     iterate 9 refine ys b21 rfl ?_
     exact d_q (v := (.bool false)) (go1 rfl rfl b20) rfl (aq_pkf rfl b21 rfl) (yf b20 rfl (d_done (M13 false (Sh.some_eq h2).symm _ (Wk.tr rfl))))
 ·intro b9 h1
  exact AW.exit (M5 () (Sh.some_eq h1).symm _ (Wk.tr rfl))
theorem spec_defines_ok {p0 : Int} {r : Bool} (h0 : spec_defines p0 = some r) : ACalls Try.prog 56 [(i64 p0)] [] (fun v st => v = (.bool r) ∧ st = []) := by
 unfold spec_defines at h0
 refine ai Try.func56 rfl rfl rfl rfl (zr tb rfl rfl (sr rfl fun K2 hK2 => zq tb rfl (bs h0 fun q3 gq3 h0 => zc hb16 (spec_inRange_ok gq3) rfl rfl rfl (zq tb rfl (dn hK2 rfl ?_)))))
 replace h0 := Sh.some_eq h0
 subst r
 exact AW.ret (xr (Wk.to (L := [(2, (.bool q3))]) ⟨.rfl, trivial⟩))
theorem spec_sets_ok {p0 : Int} {r : Bool} (h0 : spec_sets p0 = some r) : ACalls Try.prog 34 [(i64 p0)] [] (fun v st => v = (.bool r) ∧ st = []) := by
 unfold spec_sets at h0
 refine ai Try.func34 rfl rfl rfl rfl (zr tb rfl rfl (AW.seq fun K2 hK2 => bs h0 fun o4 h1 h0 => ?_))
 have M4 : ∀ (t3 : Bool), o4 = t3 → ∀ s, Wk 0 s ⟨21, envL [(2, (.bool t3))], []⟩ → K2 s := by
  intro t3 hq s hw
  subst o4
  try dsimp only at h0
  refine hK2 _ (AW.weaken hw ?_)
  replace h0 := Sh.some_eq h0
  subst r
  exact AW.ret (xr (Wk.to (L := [(2, (.bool t3))]) ⟨.rfl, trivial⟩))
 refine AW.regionO rfl (zq tb rfl (bs h1 fun q5 gq5 h1 => zc hb56 (spec_defines_ok gq5) rfl rfl rfl (zq tb rfl ?_)))
 rcases Sh.ite_some h1 with ⟨b6, h1⟩ | ⟨b6, h1⟩
 ·refine zg tb b6 rfl (zg tb b6 rfl (zt b6 rfl (zq tb rfl ?_)))
  rcases Sh.ite_some h1 with ⟨b7, h1⟩ | ⟨b7, h1⟩
  ·refine zg tb b7 rfl (zg tb b7 rfl (zt b7 rfl (zq tb rfl ?_)))
   rcases Sh.ite_some h1 with ⟨b8, h1⟩ | ⟨b8, h1⟩
   ·exact zs b8 rfl (zs b8 rfl (zt b8 rfl (zq tb rfl (zs rfl rfl (zs rfl rfl (zt rfl rfl (zq tb rfl (AO.done (M4 true (Sh.some_eq h1).symm _ (Wk.tr rfl))))))))))
   ·refine zg tb b8 rfl (zg tb b8 rfl (zf b8 rfl (zq tb rfl ?_)))
    rcases Sh.ite_some h1 with ⟨b9, h1⟩ | ⟨b9, h1⟩
    ·exact zs b9 rfl (zs b9 rfl (zt b9 rfl (zq tb rfl (AO.done (M4 true (Sh.some_eq h1).symm _ (Wk.tr rfl))))))
    ·exact zg tb b9 rfl (zg tb b9 rfl (zf b9 rfl (zq tb rfl (AO.done (M4 (decide (p0 = 19)) (Sh.some_eq h1).symm _ (Wk.tr rfl))))))
  ·refine zs b7 rfl (zs b7 rfl (zf b7 rfl (zq tb rfl (zg tb rfl rfl (zg tb rfl rfl (zf rfl rfl (zq tb rfl ?_)))))))
   rcases Sh.ite_some h1 with ⟨b10, h1⟩ | ⟨b10, h1⟩
   ·exact zs b10 rfl (zs b10 rfl (zt b10 rfl (zq tb rfl (AO.done (M4 true (Sh.some_eq h1).symm _ (Wk.tr rfl))))))
   ·exact zg tb b10 rfl (zg tb b10 rfl (zf b10 rfl (zq tb rfl (AO.done (M4 (decide (p0 = 19)) (Sh.some_eq h1).symm _ (Wk.tr rfl))))))
 ·refine zs b6 rfl (zs b6 rfl (zf b6 rfl (zq tb rfl (zs rfl rfl (zs rfl rfl (zf rfl rfl (zq tb rfl (zg tb rfl rfl (zg tb rfl rfl (zf rfl rfl (zq tb rfl ?_)))))))))))
  rcases Sh.ite_some h1 with ⟨b11, h1⟩ | ⟨b11, h1⟩
  ·exact zs b11 rfl (zs b11 rfl (zt b11 rfl (zq tb rfl (AO.done (M4 true (Sh.some_eq h1).symm _ (Wk.tr rfl))))))
  ·exact zg tb b11 rfl (zg tb b11 rfl (zf b11 rfl (zq tb rfl (AO.done (M4 (decide (p0 = 19)) (Sh.some_eq h1).symm _ (Wk.tr rfl))))))
theorem spec_firstCon_ok {N : Nat} {p0 : (List RDecl)} {p1 : Int} {r : Int} (h0 : spec_firstCon N p0 p1 = some r) : ACalls Try.prog 87 [(ls eRDecl p0), (i64 p1)] [] (fun v st => v = (i64 r) ∧ st = []) := by
 unfold spec_firstCon at h0
 refine ai Try.func87 rfl rfl rfl rfl ?_
 iterate 2 refine zr tb rfl rfl ?_
 refine AW.seq fun K3 hK3 => zr tb rfl rfl (bs h0 fun o8 h1 h0 => ?_)
 have M8 : ∀ (n7 : Int), o8 = n7 → ∀ s, Wk 0 s ⟨21, envL [(5, (i64 n7))], []⟩ → K3 s := by
  intro n7 hq s hw
  subst o8
  try dsimp only at h0
  refine hK3 _ (AW.weaken hw (zr tb rfl rfl ?_))
  replace h0 := Sh.some_eq h0
  subst r
  exact AW.ret (xr (Wk.to (L := [(4, (i64 n7))]) ⟨.rfl, trivial⟩))
 refine AW.block (AW.loopF (σ := Int × Int) (fun n v => spec_firstCon_L1 p0 p1 n v.1 v.2 = some o8) (fun (n5, i6) => ⟨21, envL [(0, (ls eRDecl p0)), (1, (i64 p1)), (5, (i64 n5)), (6, (i64 i6))], []⟩) N (0, 0) h1 (Wk.tr rfl) (fun _ hv => by rw [spec_firstCon_L1] at hv; cases hv) ?_)
 rintro n ⟨n5, i6⟩ h1
 try dsimp only at h1 ⊢
 rw [spec_firstCon_L1] at h1
 refine AW.seq fun K10 hK10 => zr tb rfl rfl ?_
 refine ci h1 rfl ?_ ?_ <;> clear h1
 ·intro b12 h1
  refine AW.skip (hK10 _ (AW.seq fun K13 hK13 => AW.block (AW.regionO rfl (zm tb 3 rfl (bs h1 fun c14 gc14 h1 => zx ei29 gc14 rfl rfl rfl (zm tb 2 rfl (zl tb rfl rfl (zm tb 2 rfl (dn hK13 rfl (AW.regionO rfl ?_))))))))))
  exact zm tb 3 rfl (AO.done (xi (Sh.w (n5 + (Sh.len c14.cons)), Sh.w (i6 + 1)) h1 (Wk.tr rfl)))
 ·intro b12 h1
  exact AW.exit (M8 n5 (Sh.some_eq h1).symm _ (Wk.tr rfl))
theorem spec_conType_ok {N : Nat} {p0 : (List RDecl)} {p1 : Int} {r : Int} (h0 : spec_conType N p0 p1 = some r) : ACalls Try.prog 71 [(ls eRDecl p0), (i64 p1)] [] (fun v st => v = (i64 r) ∧ st = []) := by
 unfold spec_conType at h0
 refine ai Try.func71 rfl rfl rfl rfl (zr tb rfl rfl (AW.seq fun K2 hK2 => zr tb rfl rfl ?_))
 obtain ⟨o5, h1, h0⟩ := Sh.cont_some h0
 have M5 : ∀ (_ : Unit), o5 = Sum.inr () → ∀ s, Wk 0 s ⟨30, envL [], []⟩ → K2 s := by
  intro _ hq s hw
  subst o5
  try dsimp only at h0
  refine hK2 _ (AW.weaken hw (zr tb rfl rfl ?_))
  replace h0 := Sh.some_eq h0
  subst r
  exact AW.ret (xr (Wk.to (L := [(4, (i64 (-1)))]) ⟨.rfl, trivial⟩))
 refine AW.block (AW.loopF (σ := Int) (fun n v => spec_conType_L1 N p0 p1 n v = some o5) (fun i4 => ⟨30, envL [(0, (ls eRDecl p0)), (1, (i64 p1)), (5, (i64 i4))], []⟩) N 0 h1 (Wk.tr rfl) (fun _ hv => by rw [spec_conType_L1] at hv; cases hv) ?_)
 rintro n i4 h1
 try dsimp only at h1 ⊢
 rw [spec_conType_L1] at h1
 refine AW.seq fun K7 hK7 => sr rfl fun K8 hK8 => zm tb 2 rfl (zl tb rfl rfl (zq tb rfl (dn hK8 rfl ?_)))
 refine ci h1 rfl ?_ ?_ <;> clear h1
 ·intro b9 h1
  refine AW.skip (hK7 _ (AW.seq fun K10 hK10 => AW.block (sr rfl fun K11 hK11 => zm tb 2 rfl (bs h1 fun q12 gq12 h1 => zc hb87 (spec_firstCon_ok gq12) rfl rfl rfl (zq tb rfl (dn hK11 rfl (sr rfl fun K13 hK13 => zm tb 5 rfl (bs h1 fun c14 gc14 h1 => ?_))))))))
  refine zx ei29 gc14 rfl rfl rfl (zm tb 2 rfl (zl tb rfl rfl (zm tb 2 rfl (bs h1 fun q15 gq15 h1 => zc hb16 (spec_inRange_ok gq15) rfl rfl rfl (dn hK13 rfl ?_)))))
  refine ci h1 rfl ?_ ?_ <;> clear h1
  ·intro b16 h1
   refine zr tb rfl rfl ?_
   replace h1 := Sh.some_eq h1
   subst o5
   try dsimp only [id] at h0
   replace h0 := Sh.some_eq h0
   subst r
   exact AW.ret (xr (Wk.to (L := [(4, (i64 (Sh.w (i4 + 1))))]) ⟨.rfl, trivial⟩))
  ·intro b16 h1
   exact AW.skip (hK10 _ (AW.regionO rfl (zm tb 3 rfl (AO.done (xi (Sh.w (i4 + 1)) h1 (Wk.tr rfl))))))
 ·intro b9 h1
  exact AW.exit (M5 () (Sh.some_eq h1).symm _ (Wk.tr rfl))
theorem spec_conFields_ok {N : Nat} {p0 : (List RDecl)} {p1 : Int} {r : (List Int)} (h0 : spec_conFields N p0 p1 = some r) : ACalls Try.prog 72 [(ls eRDecl p0), (i64 p1)] [] (fun v st => v = (ls eI r) ∧ st = []) := by
 unfold spec_conFields at h0
 refine ai Try.func72 rfl rfl rfl rfl (zr tb rfl rfl (sr rfl fun K2 hK2 => zm tb 2 rfl (bs h0 fun q3 gq3 h0 => zc hb71 (spec_conType_ok gq3) rfl rfl rfl (zq tb rfl (dn hK2 rfl (AW.seq fun K4 hK4 => zr tb rfl rfl ?_))))))
 refine ci h0 rfl ?_ ?_ <;> clear h0
 ·intro b6 h0
  refine sr rfl fun K7 hK7 => ?_
  refine ao_bs (m := 0) (st' := [(ro 0 3 1 eI ([] : List Int))]) (l := ([] : List Int)) (enc := eI) go0 ei27 (by decide) rfl rfl rfl rfl rfl rfl ?_
  refine zq tb rfl (dn hK7 rfl ?_)
  replace h0 := Sh.some_eq h0
  subst r
  exact AW.ret (Exists.intro ⟨27, envL [(4, (.sl (List.map eI [])))], []⟩ (And.intro (by refine Wk.trans (Wk.frz (L := [(4, (.sl (List.map eI [])))]) (st' := [⟨1, 3, 1, []⟩]) (id := 0) rfl (show 0 ≤ 0 by decide) (pure_map fun _ => rfl) ⟨(.frz rfl), trivial⟩ rfl) ?_; refine Wk.trans (Wk.permk (L := [(4, (.sl (List.map eI [])))]) (st' := []) (st1 := []) [] rfl .nil (by decide) rfl rfl .nil ⟨.rfl, trivial⟩) ?_; exact Wk.to (L := [(4, (.sl (List.map eI [])))]) ⟨.rfl, trivial⟩) (And.intro rfl rfl)))
 ·intro b6 h0
  refine AW.skip (hK4 _ (AW.seq fun K8 hK8 => ?_))
  refine AW.draw (by kernel_rfl) (by kernel_rfl) (by rfl) ?_
  iterate 3 refine yq tb rfl ?_
  refine bs h0 fun c9 gc9 h0 => yx ei29 gc9 rfl rfl rfl ?_
  iterate 6 refine yq tb rfl ?_
  refine bs h0 fun q10 gq10 h0 => d_call (v := (i64 q10)) go0 hb87 (spec_firstCon_ok gq10) rfl rfl rfl (yq tb rfl (bs h0 fun c11 gc11 h0 => yx ei76 gc11 rfl rfl rfl ?_))
  iterate 3 refine yq tb rfl ?_
  refine d_done (hK8 _ ?_)
  replace h0 := Sh.some_eq h0
  subst r
  exact AW.ret (xr (Wk.to (L := [(4, (ls eI c11.fields))]) ⟨.rfl, trivial⟩))
theorem spec_procWith_ok {p0 : RImage} {p1 : Int} {p2 : Int} {p3 : Int} {r : Bool} (h0 : spec_procWith p0 p1 p2 p3 = some r) : ACalls Try.prog 73 [(.agg (eRImage p0)), (i64 p1), (i64 p2), (i64 p3)] [] (fun v st => v = (.bool r) ∧ st = []) := by
 unfold spec_procWith at h0
 refine ai Try.func73 rfl rfl rfl rfl (sr rfl fun K1 hK1 => ao_box (m := 0) (st' := [⟨0, 32, 2, [(eRImage p0)]⟩]) go0 rfl rfl rfl rfl rfl (zq tb rfl (dn hK1 rfl (AW.seq fun K2 hK2 => bs h0 fun o4 h1 h0 => ?_))))
 have M4 : ∀ (t3 : Bool), o4 = t3 → ∀ s, Wk 0 s ⟨28, envL [(8, (.bool t3))], []⟩ → K2 s := by
  intro t3 hq s hw
  subst o4
  try dsimp only at h0
  refine hK2 _ (AW.weaken hw ?_)
  replace h0 := Sh.some_eq h0
  subst r
  exact AW.ret (xr (Wk.to (L := [(8, (.bool t3))]) ⟨.rfl, trivial⟩))
 refine AW.regionO rfl (zm tb 3 rfl (zl tb rfl rfl (zq tb rfl (bs h1 fun q5 gq5 h1 => zc hb16 (spec_inRange_ok gq5) rfl rfl rfl (zq tb rfl ?_)))))
 rcases Sh.ite_some h1 with ⟨b6, h1⟩ | ⟨b6, h1⟩
 ·refine zg tb b6 rfl (zg tb b6 rfl (zg tb b6 rfl (bs h1 fun c7 gc7 h1 => ao_q (v := (.iptr (eRProc c7) 0)) (go1 rfl rfl b6) rfl (aq_ixs ei30 rfl rfl gc7 rfl) (zg tb b6 rfl (zg tb b6 rfl (ao_q (v := (i64 (Sh.len c7.params))) (go1 rfl rfl b6) rfl (aq_lens sl27 rfl) ?_))))))
  iterate 4 refine zg tb b6 rfl ?_
  exact zt b6 rfl (zq tb rfl (AO.done (M4 (decide ((Sh.len c7.params) = (Sh.w (p2 + p3)))) (Sh.some_eq h1).symm _ (Wk.d0 _ rfl))))
 ·refine zs b6 rfl ?_
  iterate 10 refine zs b6 rfl ?_
  exact zf b6 rfl (zq tb rfl (AO.done (M4 false (Sh.some_eq h1).symm _ (Wk.d0 _ rfl))))
theorem spec_consOf_ok {N : Nat} {p0 : (List RDecl)} {p1 : Int} {r : (List Int)} (h0 : spec_consOf N p0 p1 = some r) : ACalls Try.prog 74 [(ls eRDecl p0), (i64 p1)] [] (fun v st => v = (ow 0 0 r) ∧ st = [(ro 0 3 1 eI r)]) := by
 unfold spec_consOf at h0
 refine ai Try.func74 rfl rfl rfl rfl (zr tb rfl rfl (sr rfl fun K2 hK2 => ?_))
 refine ao_bs (m := 0) (st' := [(ro 0 3 1 eI ([] : List Int))]) (l := ([] : List Int)) (enc := eI) go0 ei27 (by decide) rfl rfl rfl rfl rfl rfl ?_
 refine zq tb rfl (dn hK2 rfl (AW.seq fun K3 hK3 => sr rfl fun K4 hK4 => zm tb 2 rfl (zl tb rfl rfl (bs h0 fun q5 gq5 h0 => zc hb16 (spec_inRange_ok gq5) rfl rfl rfl (zq tb rfl (dn hK4 rfl ?_))))))
 refine ci h0 rfl ?_ ?_ <;> clear h0
 ·intro b6 h0
  have b7 : q5 = false := by simpa using b6
  refine zr tb rfl rfl ?_
  replace h0 := Sh.some_eq h0
  subst r
  exact AW.ret (xr (Wk.to (L := [(4, (.own 0 0 (List.length ([] : List Int))))]) ⟨.rfl, trivial⟩))
 ·intro b6 h0
  have b9 : q5 = true := by simpa using b6
  refine AW.skip (hK3 _ (AW.seq fun K10 hK10 => zr tb rfl rfl (bs h0 fun o15 h1 h0 => ?_)))
  have M15 : ∀ (l14 : (List Int)), o15 = l14 → ∀ s, Wk 0 s ⟨35, envL [(5, (ow 0 0 l14))], [(ro 0 3 1 eI l14)]⟩ → K10 s := by
   intro l14 hq s hw
   subst o15
   try dsimp only at h0
   refine hK10 _ (AW.weaken hw (zr tb rfl rfl ?_))
   replace h0 := Sh.some_eq h0
   subst r
   exact AW.ret (xr (Wk.to (L := [(4, (ow 0 0 l14))]) ⟨.rfl, trivial⟩))
  refine AW.block (AW.loopF (σ := Int × (List Int)) (fun n v => spec_consOf_L1 N p0 p1 n v.1 v.2 = some o15) (fun (i12, l13) => ⟨35, envL [(0, (ls eRDecl p0)), (1, (i64 p1)), (5, (ow 0 0 l13)), (6, (i64 i12))], [(ro 0 3 1 eI l13)]⟩) N (0, []) h1 (Wk.tr rfl) (fun _ hv => by rw [spec_consOf_L1] at hv; cases hv) ?_)
  rintro n ⟨i12, l13⟩ h1
  try dsimp only at h1 ⊢
  rw [spec_consOf_L1] at h1
  refine AW.seq fun K17 hK17 => sr rfl fun K18 hK18 => zm tb 4 rfl (bs h1 fun c19 gc19 h1 => zx ei29 gc19 rfl rfl rfl (zm tb 2 rfl (zl tb rfl rfl (zq tb rfl (dn hK18 rfl ?_)))))
  refine ci h1 rfl ?_ ?_ <;> clear h1
  ·intro b20 h1
   refine AW.skip (hK17 _ (AW.seq fun K21 hK21 => AW.block (AW.regionO rfl (zm tb 4 rfl (bs h1 fun q22 gq22 h1 => zc hb87 (spec_firstCon_ok gq22) rfl rfl rfl (zm tb 2 rfl ?_))))))
   refine ao_bs (m := 1) (st' := [(ro 0 3 1 eI l13), (ro 0 3 1 eI [Sh.w (q22 + i12)])]) (l := [Sh.w (q22 + i12)]) (enc := eI) go0 ei27 (by decide) rfl rfl rfl rfl rfl rfl ?_
   refine bs h1 fun l23 gl23 h1 => ao_apo (st' := [(ro 1 3 1 eI l23), (ro 0 3 1 eI [Sh.w (q22 + i12)])]) (l2 := [Sh.w (q22 + i12)]) go0 ei27 rfl rfl rfl rfl (el_o rfl rfl) (fun _ => rfl) gl23 rfl (zq tb rfl (dn hK21 rfl (AW.regionO rfl (zm tb 3 rfl ?_))))
   exact AO.done (xi (Sh.w (i12 + 1), l23) h1 (by refine Wk.trans (Wk.rg (L := [(0, (ls eRDecl p0)), (1, (i64 p1)), (5, (ow 0 0 l23)), (6, (i64 (Sh.w (i12 + 1))))]) (st' := [(ro 0 3 1 eI l23), (ro 0 3 1 eI [Sh.w (q22 + i12)])]) (.pure (pure_map fun _ => rfl) (.pure (pure_map fun _ => rfl) .nil)) ⟨.rfl, .rfl, .rfl, .rfl, trivial⟩) ?_; exact Wk.permk (L := [(0, (ls eRDecl p0)), (1, (i64 p1)), (5, (ow 0 0 l23)), (6, (i64 (Sh.w (i12 + 1))))]) (st' := [(ro 0 3 1 eI l23)]) (st1 := [(ro 0 3 1 eI l23)]) [0] rfl .nil (by decide) rfl rfl (.pure (pure_map fun _ => rfl) .nil) ⟨.rfl, .rfl, .rfl, .rfl, trivial⟩))
  ·intro b20 h1
   exact AW.exit (M15 l13 (Sh.some_eq h1).symm _ (Wk.tr rfl))
theorem spec_validJumps_ok {N : Nat} {p0 : (List Int)} {p1 : Int} {p2 : Int} {p3 : Int} {r : Bool} (h0 : spec_validJumps N p0 p1 p2 p3 = some r) : ACalls Try.prog 75 [(ls eI p0), (i64 p1), (i64 p2), (i64 p3)] [] (fun v st => v = (.bool r) ∧ st = []) := by
 unfold spec_validJumps at h0
 refine ai Try.func75 rfl rfl rfl rfl (zr tb rfl rfl (AW.seq fun K2 hK2 => sr rfl fun K3 hK3 => zq tb rfl (zl tb rfl rfl (zm tb 2 rfl (dn hK3 rfl ?_)))))
 refine ci h0 rfl ?_ ?_ <;> clear h0
 ·intro b4 h0
  have b5 : decide ((Sh.len p0) = p1) = false := by simpa using b4
  refine zr tb rfl rfl ?_
  replace h0 := Sh.some_eq h0
  subst r
  exact AW.ret (xr (Wk.to (L := [(8, (.bool false))]) ⟨.rfl, trivial⟩))
 ·intro b4 h0
  have b7 : decide ((Sh.len p0) = p1) = true := by simpa using b4
  refine AW.skip (hK2 _ (AW.seq fun K8 hK8 => zr tb rfl rfl ?_))
  obtain ⟨o11, h1, h0⟩ := Sh.cont_some h0
  have M11 : ∀ (_ : Unit), o11 = Sum.inr () → ∀ s, Wk 0 s ⟨29, envL [], []⟩ → K8 s := by
   intro _ hq s hw
   subst o11
   try dsimp only at h0
   refine hK8 _ (AW.weaken hw (zr tb rfl rfl ?_))
   replace h0 := Sh.some_eq h0
   subst r
   exact AW.ret (xr (Wk.to (L := [(8, (.bool true))]) ⟨.rfl, trivial⟩))
  refine AW.block (AW.loopF (σ := Int) (fun n v => spec_validJumps_L1 p0 p1 p2 p3 n v = some o11) (fun i10 => ⟨29, envL [(0, (ls eI p0)), (1, (i64 p1)), (2, (i64 p2)), (3, (i64 p3)), (9, (i64 i10))], []⟩) N 0 h1 (Wk.tr rfl) (fun _ hv => by rw [spec_validJumps_L1] at hv; cases hv) ?_)
  rintro n i10 h1
  try dsimp only at h1 ⊢
  rw [spec_validJumps_L1] at h1
  refine AW.seq fun K13 hK13 => zr tb rfl rfl ?_
  refine ci h1 rfl ?_ ?_ <;> clear h1
  ·intro b15 h1
   refine AW.skip (hK13 _ (AW.seq fun K16 hK16 => AW.block (sr rfl fun K17 hK17 => zm tb 2 rfl (bs h1 fun c18 gc18 h1 => zx ei27 gc18 rfl rfl rfl (zm tb 5 rfl (bs h1 fun q19 gq19 h1 => zc hb16 (spec_inRange_ok gq19) rfl rfl rfl (zq tb rfl (dn hK17 rfl ?_))))))))
   refine ci h1 rfl ?_ ?_ <;> clear h1
   ·intro b20 h1
    have b21 : q19 = false := by simpa using b20
    refine zr tb rfl rfl ?_
    replace h1 := Sh.some_eq h1
    subst o11
    try dsimp only [id] at h0
    replace h0 := Sh.some_eq h0
    subst r
    exact AW.ret (xr (Wk.to (L := [(8, (.bool false))]) ⟨.rfl, trivial⟩))
   ·intro b20 h1
    have b23 : q19 = true := by simpa using b20
    exact AW.skip (hK16 _ (AW.regionO rfl (zm tb 3 rfl (AO.done (xi (Sh.w (i10 + 1)) h1 (Wk.tr rfl))))))
  ·intro b15 h1
   exact AW.exit (M11 () (Sh.some_eq h1).symm _ (Wk.tr rfl))
theorem spec_validInstr_ok {N : Nat} {p0 : RImage} {p1 : RProc} {p2 : Int} {r : Bool} (h0 : spec_validInstr N p0 p1 p2 = some r) : ACalls Try.prog 54 [(.agg (eRImage p0)), (.agg (eRProc p1)), (i64 p2)] [] (fun v st => v = (.bool r) ∧ st = []) := by
 unfold spec_validInstr at h0
 refine ai Try.func54 rfl rfl rfl rfl (sr rfl fun K1 hK1 => ao_box (m := 0) (st' := [⟨0, 32, 2, [(eRImage p0)]⟩]) go0 rfl rfl rfl rfl rfl (ao_box (m := 1) (st' := [⟨0, 32, 2, [(eRImage p0)]⟩, ⟨0, 45, 5, [(eRProc p1)]⟩]) go0 rfl rfl rfl rfl rfl (zq tb rfl (dn hK1 rfl (sr rfl fun K2 hK2 => zm tb 3 rfl (bs h0 fun c3 gc3 h0 => zx ei43 gc3 rfl rfl rfl (zq tb rfl (ao_alloc (m := 2) (st' := [⟨0, 32, 2, [(eRImage p0)]⟩, ⟨0, 45, 5, [(eRProc p1)]⟩, ⟨0, 73, 6, [[(i64 0), (i64 0), (i64 0), (i64 0), .zc, .zc]]⟩]) go0 zi73 rfl rfl ?_))))))))
 refine ao_str (st' := [⟨0, 32, 2, [(eRImage p0)]⟩, ⟨0, 45, 5, [(eRProc p1)]⟩, ⟨0, 73, 6, [(eRInstr c3)]⟩]) go0 ti73 rfl rfl rfl rfl rfl rfl (show 0 + 6 ≤ 6 by decide) rfl (dn hK2 rfl (sr rfl fun K4 hK4 => zm tb 2 rfl (zl tb rfl rfl (zq tb rfl (dn hK4 rfl (AW.seq fun K5 hK5 => zr tb rfl rfl ?_))))))
 obtain ⟨o8, h1, h0⟩ := Sh.cont_some h0
 have M8 : ∀ (_ : Unit), o8 = Sum.inr () → ∀ s, Wk 0 s ⟨234, envL [(2, (i64 p2)), (3, (.ptr 0 0 0 0)), (4, (.ptr 1 0 0 0)), (7, (.ptr 2 0 0 0)), (8, (i64 (Sh.len c3.args)))], [⟨0, 32, 2, [(eRImage p0)]⟩, ⟨0, 45, 5, [(eRProc p1)]⟩, ⟨0, 73, 6, [(eRInstr c3)]⟩]⟩ → K5 s := by
  intro _ hq s hw
  subst o8
  try dsimp only at h0
  refine hK5 _ (AW.weaken hw (AW.seq fun K9 hK9 => AW.seq fun K10 hK10 => bs h0 fun o12 h1 h0 => ?_))
  have M12 : ∀ (t11 : Bool), o12 = t11 → ∀ s, Wk 0 s ⟨234, envL [(2, (i64 p2)), (3, (.ptr 0 0 0 0)), (4, (.ptr 1 0 0 0)), (7, (.ptr 2 0 0 0)), (8, (i64 (Sh.len c3.args))), (72, (.bool t11))], [⟨0, 32, 2, [(eRImage p0)]⟩, ⟨0, 45, 5, [(eRProc p1)]⟩, ⟨0, 73, 6, [(eRInstr c3)]⟩]⟩ → K10 s := by
   intro t11 hq s hw
   subst o12
   try dsimp only at h0
   refine hK10 _ (AW.weaken hw ?_)
   refine ci h0 rfl ?_ ?_ <;> clear h0
   ·intro b13 h0
    refine zr tb rfl rfl ?_
    replace h0 := Sh.some_eq h0
    subst r
    exact AW.ret (xr (Wk.d0 [(6, (.bool false))] rfl))
   ·intro b13 h0
    refine AW.skip (hK9 _ (AW.seq fun K15 hK15 => zr tb rfl rfl (AW.block (zr tb rfl rfl ?_))))
    refine ci h0 rfl ?_ ?_ <;> clear h0
    ·intro b18 h0
     refine AW.seq fun K19 hK19 => bs h0 fun o21 h1 h0 => ?_
     have M21 : ∀ (t20 : Bool), o21 = t20 → ∀ s, Wk 0 s ⟨234, envL [(6, (.bool t20))], []⟩ → K19 s := by
      intro t20 hq s hw
      subst o21
      try dsimp only at h0
      refine hK19 _ (AW.weaken hw ?_)
      replace h0 := Sh.some_eq h0
      subst r
      exact AW.ret (xr (Wk.to (L := [(6, (.bool t20))]) ⟨.rfl, trivial⟩))
     refine AW.regionO rfl (zm tb 3 rfl ?_)
     rcases Sh.ite_some h1 with ⟨b22, h1⟩ | ⟨b22, h1⟩
     ·exact zg tb b22 rfl (zg tb b22 rfl (bs h1 fun q23 gq23 h1 => zd b22 hb16 (spec_inRange_ok gq23) rfl rfl rfl rfl (zt b22 rfl (zq tb rfl (AO.done (M21 q23 (Sh.some_eq h1).symm _ (Wk.d0 _ rfl)))))))
     ·exact zs b22 rfl (zs b22 rfl (zs b22 rfl (zf b22 rfl (zq tb rfl (AO.done (M21 false (Sh.some_eq h1).symm _ (Wk.d0 _ rfl)))))))
    ·intro b18 h0
     refine AW.seq fun K24 hK24 => bs h0 fun o26 h1 h0 => ?_
     have M26 : ∀ (t25 : Bool), o26 = t25 → ∀ s, Wk 0 s ⟨234, envL [(2, (i64 p2)), (3, (.ptr 0 0 0 0)), (4, (.ptr 1 0 0 0)), (7, (.ptr 2 0 0 0)), (8, (i64 (Sh.len c3.args))), (74, (i64 c3.op)), (84, (.bool t25))], [⟨0, 32, 2, [(eRImage p0)]⟩, ⟨0, 45, 5, [(eRProc p1)]⟩, ⟨0, 73, 6, [(eRInstr c3)]⟩]⟩ → K24 s := by
      intro t25 hq s hw
      subst o26
      try dsimp only at h0
      refine hK24 _ (AW.weaken hw ?_)
      refine ci h0 rfl ?_ ?_ <;> clear h0
      ·intro b27 h0
       refine AW.seq fun K28 hK28 => bs h0 fun o30 h1 h0 => ?_
       have M30 : ∀ (t29 : Bool), o30 = t29 → ∀ s, Wk 0 s ⟨234, envL [(6, (.bool t29))], []⟩ → K28 s := by
        intro t29 hq s hw
        subst o30
        try dsimp only at h0
        refine hK28 _ (AW.weaken hw ?_)
        replace h0 := Sh.some_eq h0
        subst r
        exact AW.ret (xr (Wk.to (L := [(6, (.bool t29))]) ⟨.rfl, trivial⟩))
       refine AW.regionO rfl (zm tb 3 rfl ?_)
       rcases Sh.ite_some h1 with ⟨b31, h1⟩ | ⟨b31, h1⟩
       ·exact zg tb b31 rfl (zg tb b31 rfl (zg tb b31 rfl (zt b31 rfl (zq tb rfl (AO.done (M30 (decide (c3.num = 0)) (Sh.some_eq h1).symm _ (Wk.d0 _ rfl)))))))
       ·exact zs b31 rfl (zs b31 rfl (zs b31 rfl (zf b31 rfl (zq tb rfl (AO.done (M30 false (Sh.some_eq h1).symm _ (Wk.d0 _ rfl)))))))
      ·intro b27 h0
       refine AW.seq fun K32 hK32 => bs h0 fun o34 h1 h0 => ?_
       have M34 : ∀ (t33 : Bool), o34 = t33 → ∀ s, Wk 0 s ⟨234, envL [(2, (i64 p2)), (3, (.ptr 0 0 0 0)), (4, (.ptr 1 0 0 0)), (7, (.ptr 2 0 0 0)), (8, (i64 (Sh.len c3.args))), (74, (i64 c3.op)), (97, (.bool t33))], [⟨0, 32, 2, [(eRImage p0)]⟩, ⟨0, 45, 5, [(eRProc p1)]⟩, ⟨0, 73, 6, [(eRInstr c3)]⟩]⟩ → K32 s := by
        intro t33 hq s hw
        subst o34
        try dsimp only at h0
        refine hK32 _ (AW.weaken hw ?_)
        refine ci h0 rfl ?_ ?_ <;> clear h0
        ·intro b35 h0
         refine AW.seq fun K36 hK36 => bs h0 fun o38 h1 h0 => ?_
         have M38 : ∀ (t37 : Bool), o38 = t37 → ∀ s, Wk 0 s ⟨234, envL [(6, (.bool t37))], []⟩ → K36 s := by
          intro t37 hq s hw
          subst o38
          try dsimp only at h0
          refine hK36 _ (AW.weaken hw ?_)
          replace h0 := Sh.some_eq h0
          subst r
          exact AW.ret (xr (Wk.to (L := [(6, (.bool t37))]) ⟨.rfl, trivial⟩))
         refine AW.regionO rfl (zm tb 3 rfl ?_)
         rcases Sh.ite_some h1 with ⟨b39, h1⟩ | ⟨b39, h1⟩
         ·exact zg tb b39 rfl (zg tb b39 rfl (zg tb b39 rfl (zt b39 rfl (zq tb rfl (AO.done (M38 (decide (c3.num = 0)) (Sh.some_eq h1).symm _ (Wk.d0 _ rfl)))))))
         ·exact zs b39 rfl (zs b39 rfl (zs b39 rfl (zf b39 rfl (zq tb rfl (AO.done (M38 false (Sh.some_eq h1).symm _ (Wk.d0 _ rfl)))))))
        ·intro b35 h0
         refine zr tb rfl rfl ?_
         refine ci h0 rfl ?_ ?_ <;> clear h0
         ·intro b41 h0
          refine AW.seq fun K42 hK42 => bs h0 fun o44 h1 h0 => ?_
          have M44 : ∀ (t43 : Bool), o44 = t43 → ∀ s, Wk 0 s ⟨234, envL [(6, (.bool t43))], []⟩ → K42 s := by
           intro t43 hq s hw
           subst o44
           try dsimp only at h0
           refine hK42 _ (AW.weaken hw ?_)
           replace h0 := Sh.some_eq h0
           subst r
           exact AW.ret (xr (Wk.to (L := [(6, (.bool t43))]) ⟨.rfl, trivial⟩))
          refine AW.regionO rfl (zm tb 4 rfl (bs h1 fun q45 gq45 h1 => zc hb71 (spec_conType_ok gq45) rfl rfl rfl (zm tb 2 rfl ?_)))
          rcases Sh.ite_some h1 with ⟨b46, h1⟩ | ⟨b46, h1⟩
          ·refine zg tb b46 rfl ?_
           iterate 4 refine zg tb b46 rfl ?_
           refine bs h1 fun q47 gq47 h1 => zd b46 hb72 (spec_conFields_ok gq47) rfl rfl rfl rfl (ao_q (v := (i64 (Sh.len q47))) (go1 rfl rfl b46) rfl (aq_lens sl27 rfl) (zg tb b46 rfl (zt b46 rfl (zq tb rfl ?_))))
           rcases Sh.ite_some h1 with ⟨b48, h1⟩ | ⟨b48, h1⟩
           ·refine zg tb b48 rfl ?_
            iterate 3 refine zg tb b48 rfl ?_
            exact bs h1 fun q49 gq49 h1 => zd b48 hb16 (spec_inRange_ok gq49) rfl rfl rfl rfl (zt b48 rfl (zq tb rfl (AO.done (M44 q49 (Sh.some_eq h1).symm _ (Wk.d0 _ rfl)))))
           ·refine zs b48 rfl ?_
            iterate 4 refine zs b48 rfl ?_
            exact zf b48 rfl (zq tb rfl (AO.done (M44 false (Sh.some_eq h1).symm _ (Wk.d0 _ rfl))))
          ·refine zs b46 rfl ?_
           iterate 7 refine zs b46 rfl ?_
           refine zf b46 rfl (zq tb rfl ?_)
           iterate 5 refine zs rfl rfl ?_
           exact zf rfl rfl (zq tb rfl (AO.done (M44 false (Sh.some_eq h1).symm _ (Wk.d0 _ rfl))))
         ·intro b41 h0
          refine AW.seq fun K50 hK50 => bs h0 fun o52 h1 h0 => ?_
          have M52 : ∀ (t51 : Bool), o52 = t51 → ∀ s, Wk 0 s ⟨234, envL [(2, (i64 p2)), (3, (.ptr 0 0 0 0)), (4, (.ptr 1 0 0 0)), (7, (.ptr 2 0 0 0)), (8, (i64 (Sh.len c3.args))), (74, (i64 c3.op)), (135, (.bool t51))], [⟨0, 32, 2, [(eRImage p0)]⟩, ⟨0, 45, 5, [(eRProc p1)]⟩, ⟨0, 73, 6, [(eRInstr c3)]⟩]⟩ → K50 s := by
           intro t51 hq s hw
           subst o52
           try dsimp only at h0
           refine hK50 _ (AW.weaken hw ?_)
           refine ci h0 rfl ?_ ?_ <;> clear h0
           ·intro b53 h0
            refine sr rfl fun K54 hK54 => zm tb 4 rfl (bs h0 fun q55 gq55 h0 => zc hb73 (spec_procWith_ok gq55) rfl rfl rfl (zq tb rfl (dn hK54 rfl ?_)))
            replace h0 := Sh.some_eq h0
            subst r
            exact AW.ret (xr (Wk.d0 [(6, (.bool q55))] rfl))
           ·intro b53 h0
            refine zr tb rfl rfl ?_
            refine ci h0 rfl ?_ ?_ <;> clear h0
            ·intro b57 h0
             refine AW.seq fun K58 hK58 => bs h0 fun o60 h1 h0 => ?_
             have M60 : ∀ (t59 : Bool), o60 = t59 → ∀ s, Wk 0 s ⟨234, envL [(6, (.bool t59))], []⟩ → K58 s := by
              intro t59 hq s hw
              subst o60
              try dsimp only at h0
              refine hK58 _ (AW.weaken hw ?_)
              replace h0 := Sh.some_eq h0
              subst r
              exact AW.ret (xr (Wk.to (L := [(6, (.bool t59))]) ⟨.rfl, trivial⟩))
             refine AW.regionO rfl (zm tb 4 rfl (bs h1 fun q61 gq61 h1 => zc hb73 (spec_procWith_ok gq61) rfl rfl rfl (zq tb rfl ?_)))
             rcases Sh.ite_some h1 with ⟨b62, h1⟩ | ⟨b62, h1⟩
             ·refine zg tb b62 rfl ?_
              iterate 3 refine zg tb b62 rfl ?_
              exact bs h1 fun c63 gc63 h1 => ao_q (v := (.iptr (eRProc c63) 0)) (go1 rfl rfl b62) rfl (aq_ixs ei30 rfl rfl gc63 rfl) (zg tb b62 rfl (zg tb b62 rfl (ao_q (v := (i64 (Sh.len c63.lent))) (go1 rfl rfl b62) rfl (aq_lens sl27 rfl) (zg tb b62 rfl (zt b62 rfl (zq tb rfl (AO.done (M60 (decide ((Sh.len c63.lent) = 0)) (Sh.some_eq h1).symm _ (Wk.d0 _ rfl)))))))))
             ·refine zs b62 rfl ?_
              iterate 8 refine zs b62 rfl ?_
              exact zf b62 rfl (zq tb rfl (AO.done (M60 false (Sh.some_eq h1).symm _ (Wk.d0 _ rfl))))
            ·intro b57 h0
             refine AW.seq fun K64 hK64 => bs h0 fun o66 h1 h0 => ?_
             have M66 : ∀ (t65 : Bool), o66 = t65 → ∀ s, Wk 0 s ⟨234, envL [(2, (i64 p2)), (3, (.ptr 0 0 0 0)), (4, (.ptr 1 0 0 0)), (7, (.ptr 2 0 0 0)), (8, (i64 (Sh.len c3.args))), (74, (i64 c3.op)), (161, (.bool t65))], [⟨0, 32, 2, [(eRImage p0)]⟩, ⟨0, 45, 5, [(eRProc p1)]⟩, ⟨0, 73, 6, [(eRInstr c3)]⟩]⟩ → K64 s := by
              intro t65 hq s hw
              subst o66
              try dsimp only at h0
              refine hK64 _ (AW.weaken hw ?_)
              refine ci h0 rfl ?_ ?_ <;> clear h0
              ·intro b67 h0
               refine AW.seq fun K68 hK68 => bs h0 fun o70 h1 h0 => ?_
               have M70 : ∀ (t69 : Bool), o70 = t69 → ∀ s, Wk 0 s ⟨234, envL [(6, (.bool t69))], []⟩ → K68 s := by
                intro t69 hq s hw
                subst o70
                try dsimp only at h0
                refine hK68 _ (AW.weaken hw ?_)
                replace h0 := Sh.some_eq h0
                subst r
                exact AW.ret (xr (Wk.to (L := [(6, (.bool t69))]) ⟨.rfl, trivial⟩))
               refine AW.regionO rfl (zq tb rfl (bs h1 fun q71 gq71 h1 => zc hb16 (spec_inRange_ok gq71) rfl rfl rfl (zq tb rfl ?_)))
               rcases Sh.ite_some h1 with ⟨b72, h1⟩ | ⟨b72, h1⟩
               ·exact zg tb b72 rfl (zg tb b72 rfl (zg tb b72 rfl (zt b72 rfl (zq tb rfl (AO.done (M70 (decide (c3.num = 0)) (Sh.some_eq h1).symm _ (Wk.d0 _ rfl)))))))
               ·exact zs b72 rfl (zs b72 rfl (zs b72 rfl (zf b72 rfl (zq tb rfl (AO.done (M70 false (Sh.some_eq h1).symm _ (Wk.d0 _ rfl)))))))
              ·intro b67 h0
               refine zr tb rfl rfl ?_
               refine ci h0 rfl ?_ ?_ <;> clear h0
               ·intro b74 h0
                refine AW.seq fun K75 hK75 => bs h0 fun o77 h1 h0 => ?_
                have M77 : ∀ (t76 : Bool), o77 = t76 → ∀ s, Wk 0 s ⟨234, envL [(6, (.bool t76))], []⟩ → K75 s := by
                 intro t76 hq s hw
                 subst o77
                 try dsimp only at h0
                 refine hK75 _ (AW.weaken hw ?_)
                 replace h0 := Sh.some_eq h0
                 subst r
                 exact AW.ret (xr (Wk.to (L := [(6, (.bool t76))]) ⟨.rfl, trivial⟩))
                refine AW.regionO rfl (zm tb 3 rfl ?_)
                rcases Sh.ite_some h1 with ⟨b78, h1⟩ | ⟨b78, h1⟩
                ·exact zg tb b78 rfl (zg tb b78 rfl (bs h1 fun q79 gq79 h1 => zd b78 hb16 (spec_inRange_ok gq79) rfl rfl rfl rfl (zt b78 rfl (zq tb rfl (AO.done (M77 q79 (Sh.some_eq h1).symm _ (Wk.d0 _ rfl)))))))
                ·exact zs b78 rfl (zs b78 rfl (zs b78 rfl (zf b78 rfl (zq tb rfl (AO.done (M77 false (Sh.some_eq h1).symm _ (Wk.d0 _ rfl)))))))
               ·intro b74 h0
                refine zr tb rfl rfl ?_
                refine ci h0 rfl ?_ ?_ <;> clear h0
                ·intro b81 h0
                 refine AW.seq fun K82 hK82 => bs h0 fun o84 h1 h0 => ?_
                 have M84 : ∀ (t83 : Bool), o84 = t83 → ∀ s, Wk 0 s ⟨234, envL [(6, (.bool t83))], []⟩ → K82 s := by
                  intro t83 hq s hw
                  subst o84
                  try dsimp only at h0
                  refine hK82 _ (AW.weaken hw ?_)
                  replace h0 := Sh.some_eq h0
                  subst r
                  exact AW.ret (xr (Wk.to (L := [(6, (.bool t83))]) ⟨.rfl, trivial⟩))
                 refine AW.regionO rfl (zm tb 3 rfl ?_)
                 rcases Sh.ite_some h1 with ⟨b85, h1⟩ | ⟨b85, h1⟩
                 ·refine zg tb b85 rfl ?_
                  iterate 5 refine zg tb b85 rfl ?_
                  exact ao_q (v := (i64 (Sh.len p1.code))) (go1 rfl rfl b85) rfl (aq_lens sl43 rfl) (zg tb b85 rfl (bs h1 fun q86 gq86 h1 => zd b85 hb16 (spec_inRange_ok gq86) rfl rfl rfl rfl (zt b85 rfl (zq tb rfl (AO.done (M84 q86 (Sh.some_eq h1).symm _ (Wk.d0 _ rfl)))))))
                 ·refine zs b85 rfl ?_
                  iterate 8 refine zs b85 rfl ?_
                  exact zf b85 rfl (zq tb rfl (AO.done (M84 false (Sh.some_eq h1).symm _ (Wk.d0 _ rfl))))
                ·intro b81 h0
                 refine zr tb rfl rfl ?_
                 refine ci h0 rfl ?_ ?_ <;> clear h0
                 ·intro b88 h0
                  refine AW.seq fun K89 hK89 => bs h0 fun o91 h1 h0 => ?_
                  have M91 : ∀ (t90 : Bool), o91 = t90 → ∀ s, Wk 0 s ⟨234, envL [(6, (.bool t90))], []⟩ → K89 s := by
                   intro t90 hq s hw
                   subst o91
                   try dsimp only at h0
                   refine hK89 _ (AW.weaken hw ?_)
                   replace h0 := Sh.some_eq h0
                   subst r
                   exact AW.ret (xr (Wk.to (L := [(6, (.bool t90))]) ⟨.rfl, trivial⟩))
                  refine AW.regionO rfl (zm tb 3 rfl ?_)
                  rcases Sh.ite_some h1 with ⟨b92, h1⟩ | ⟨b92, h1⟩
                  ·refine zg tb b92 rfl ?_
                   iterate 5 refine zg tb b92 rfl ?_
                   exact ao_q (v := (i64 (Sh.len p1.code))) (go1 rfl rfl b92) rfl (aq_lens sl43 rfl) (zg tb b92 rfl (bs h1 fun q93 gq93 h1 => zd b92 hb16 (spec_inRange_ok gq93) rfl rfl rfl rfl (zt b92 rfl (zq tb rfl (AO.done (M91 q93 (Sh.some_eq h1).symm _ (Wk.d0 _ rfl)))))))
                  ·refine zs b92 rfl ?_
                   iterate 8 refine zs b92 rfl ?_
                   exact zf b92 rfl (zq tb rfl (AO.done (M91 false (Sh.some_eq h1).symm _ (Wk.d0 _ rfl))))
                 ·intro b88 h0
                  refine zr tb rfl rfl ?_
                  refine ci h0 rfl ?_ ?_ <;> clear h0
                  ·intro b95 h0
                   refine sr rfl fun K96 hK96 => zm tb 4 rfl (bs h0 fun q97 gq97 h0 => ao_call (v' := (ow 3 0 q97)) (st' := [⟨0, 32, 2, [(eRImage p0)]⟩, ⟨0, 45, 5, [(eRProc p1)]⟩, ⟨0, 73, 6, [(eRInstr c3)]⟩, (ro 0 3 1 eI q97)]) go0 hb74 (spec_consOf_ok gq97) rfl rfl ⟨(pure_map' fun _ => rfl), trivial⟩ rfl rfl (zz (i64 (Sh.len q97)) (aq_leno sl27 rfl rfl rfl) rfl (zq tb rfl (dn hK96 rfl (AW.seq fun K98 hK98 => bs h0 fun o100 h1 h0 => ?_)))))
                   have M100 : ∀ (t99 : Bool), o100 = t99 → ∀ s, Wk 0 s ⟨234, envL [(6, (.bool t99))], []⟩ → K98 s := by
                    intro t99 hq s hw
                    subst o100
                    try dsimp only at h0
                    refine hK98 _ (AW.weaken hw ?_)
                    replace h0 := Sh.some_eq h0
                    subst r
                    exact AW.ret (xr (Wk.to (L := [(6, (.bool t99))]) ⟨.rfl, trivial⟩))
                   refine AW.regionO rfl (zm tb 3 rfl ?_)
                   rcases Sh.ite_some h1 with ⟨b101, h1⟩ | ⟨b101, h1⟩
                   ·refine zg tb b101 rfl (zg tb b101 rfl (zt b101 rfl (zq tb rfl ?_)))
                    rcases Sh.ite_some h1 with ⟨b102, h1⟩ | ⟨b102, h1⟩
                    ·refine zg tb b102 rfl ?_
                     iterate 5 refine zg tb b102 rfl ?_
                     exact ao_q (v := (i64 (Sh.len p1.code))) (go1 rfl rfl b102) rfl (aq_lens sl43 rfl) (bs h1 fun q103 gq103 h1 => zd b102 hb75 (spec_validJumps_ok gq103) rfl rfl rfl rfl (zt b102 rfl (zq tb rfl (AO.done (M100 q103 (Sh.some_eq h1).symm _ (Wk.d0 _ rfl))))))
                    ·refine zs b102 rfl ?_
                     iterate 7 refine zs b102 rfl ?_
                     exact zf b102 rfl (zq tb rfl (AO.done (M100 false (Sh.some_eq h1).symm _ (Wk.d0 _ rfl))))
                   ·refine zs b101 rfl (zs b101 rfl (zf b101 rfl (zq tb rfl ?_)))
                    iterate 8 refine zs rfl rfl ?_
                    exact zf rfl rfl (zq tb rfl (AO.done (M100 false (Sh.some_eq h1).symm _ (Wk.d0 _ rfl))))
                  ·intro b95 h0
                   refine AW.skip (hK15 _ (zr tb rfl rfl ?_))
                   replace h0 := Sh.some_eq h0
                   subst r
                   exact AW.ret (xr (Wk.d0 [(6, (.bool false))] rfl))
             refine zr tb rfl rfl ?_
             refine ci h1 rfl ?_ ?_ <;> clear h1
             ·intro b106 h1
              exact AW.skip (M66 true (Sh.some_eq h1).symm _ (Wk.to (L := [(2, (i64 p2)), (3, (.ptr 0 0 0 0)), (4, (.ptr 1 0 0 0)), (7, (.ptr 2 0 0 0)), (8, (i64 (Sh.len c3.args))), (74, (i64 c3.op)), (161, (.bool true))]) ⟨.rfl, .rfl, .rfl, .rfl, .rfl, .rfl, (.of (congrArg AV.bool b106)), trivial⟩))
             ·intro b106 h1
              exact AW.regionO rfl (zm tb 2 rfl (AO.done (M66 (decide (c3.op = 17)) (Sh.some_eq h1).symm _ (Wk.tr rfl))))
          refine zr tb rfl rfl ?_
          refine ci h1 rfl ?_ ?_ <;> clear h1
          ·intro b108 h1
           exact AW.skip (M52 true (Sh.some_eq h1).symm _ (Wk.to (L := [(2, (i64 p2)), (3, (.ptr 0 0 0 0)), (4, (.ptr 1 0 0 0)), (7, (.ptr 2 0 0 0)), (8, (i64 (Sh.len c3.args))), (74, (i64 c3.op)), (135, (.bool true))]) ⟨.rfl, .rfl, .rfl, .rfl, .rfl, .rfl, (.of (congrArg AV.bool b108)), trivial⟩))
          ·intro b108 h1
           exact AW.regionO rfl (zm tb 2 rfl (AO.done (M52 (decide (c3.op = 24)) (Sh.some_eq h1).symm _ (Wk.tr rfl))))
       refine zr tb rfl rfl ?_
       refine ci h1 rfl ?_ ?_ <;> clear h1
       ·intro b110 h1
        exact AW.skip (M34 true (Sh.some_eq h1).symm _ (Wk.to (L := [(2, (i64 p2)), (3, (.ptr 0 0 0 0)), (4, (.ptr 1 0 0 0)), (7, (.ptr 2 0 0 0)), (8, (i64 (Sh.len c3.args))), (74, (i64 c3.op)), (97, (.bool true))]) ⟨.rfl, .rfl, .rfl, .rfl, .rfl, .rfl, (.of (congrArg AV.bool b110)), trivial⟩))
       ·intro b110 h1
        refine zr tb rfl rfl ?_
        refine ci h1 rfl ?_ ?_ <;> clear h1
        ·intro b112 h1
         exact AW.skip (M34 true (Sh.some_eq h1).symm _ (Wk.to (L := [(2, (i64 p2)), (3, (.ptr 0 0 0 0)), (4, (.ptr 1 0 0 0)), (7, (.ptr 2 0 0 0)), (8, (i64 (Sh.len c3.args))), (74, (i64 c3.op)), (97, (.bool true))]) ⟨.rfl, .rfl, .rfl, .rfl, .rfl, .rfl, (.of (congrArg AV.bool b112)), trivial⟩))
        ·intro b112 h1
         refine zr tb rfl rfl ?_
         refine ci h1 rfl ?_ ?_ <;> clear h1
         ·intro b114 h1
          exact AW.skip (M34 true (Sh.some_eq h1).symm _ (Wk.to (L := [(2, (i64 p2)), (3, (.ptr 0 0 0 0)), (4, (.ptr 1 0 0 0)), (7, (.ptr 2 0 0 0)), (8, (i64 (Sh.len c3.args))), (74, (i64 c3.op)), (97, (.bool true))]) ⟨.rfl, .rfl, .rfl, .rfl, .rfl, .rfl, (.of (congrArg AV.bool b114)), trivial⟩))
         ·intro b114 h1
          refine zr tb rfl rfl ?_
          refine ci h1 rfl ?_ ?_ <;> clear h1
          ·intro b116 h1
           exact AW.skip (M34 true (Sh.some_eq h1).symm _ (Wk.to (L := [(2, (i64 p2)), (3, (.ptr 0 0 0 0)), (4, (.ptr 1 0 0 0)), (7, (.ptr 2 0 0 0)), (8, (i64 (Sh.len c3.args))), (74, (i64 c3.op)), (97, (.bool true))]) ⟨.rfl, .rfl, .rfl, .rfl, .rfl, .rfl, (.of (congrArg AV.bool b116)), trivial⟩))
          ·intro b116 h1
           exact AW.regionO rfl (zm tb 2 rfl (AO.done (M34 (decide (c3.op = 23)) (Sh.some_eq h1).symm _ (Wk.tr rfl))))
     refine zr tb rfl rfl ?_
     refine ci h1 rfl ?_ ?_ <;> clear h1
     ·intro b118 h1
      exact AW.skip (M26 true (Sh.some_eq h1).symm _ (Wk.to (L := [(2, (i64 p2)), (3, (.ptr 0 0 0 0)), (4, (.ptr 1 0 0 0)), (7, (.ptr 2 0 0 0)), (8, (i64 (Sh.len c3.args))), (74, (i64 c3.op)), (84, (.bool true))]) ⟨.rfl, .rfl, .rfl, .rfl, .rfl, .rfl, (.of (congrArg AV.bool b118)), trivial⟩))
     ·intro b118 h1
      refine zr tb rfl rfl ?_
      refine ci h1 rfl ?_ ?_ <;> clear h1
      ·intro b120 h1
       exact AW.skip (M26 true (Sh.some_eq h1).symm _ (Wk.to (L := [(2, (i64 p2)), (3, (.ptr 0 0 0 0)), (4, (.ptr 1 0 0 0)), (7, (.ptr 2 0 0 0)), (8, (i64 (Sh.len c3.args))), (74, (i64 c3.op)), (84, (.bool true))]) ⟨.rfl, .rfl, .rfl, .rfl, .rfl, .rfl, (.of (congrArg AV.bool b120)), trivial⟩))
      ·intro b120 h1
       refine zr tb rfl rfl ?_
       refine ci h1 rfl ?_ ?_ <;> clear h1
       ·intro b122 h1
        exact AW.skip (M26 true (Sh.some_eq h1).symm _ (Wk.to (L := [(2, (i64 p2)), (3, (.ptr 0 0 0 0)), (4, (.ptr 1 0 0 0)), (7, (.ptr 2 0 0 0)), (8, (i64 (Sh.len c3.args))), (74, (i64 c3.op)), (84, (.bool true))]) ⟨.rfl, .rfl, .rfl, .rfl, .rfl, .rfl, (.of (congrArg AV.bool b122)), trivial⟩))
       ·intro b122 h1
        refine zr tb rfl rfl ?_
        refine ci h1 rfl ?_ ?_ <;> clear h1
        ·intro b124 h1
         exact AW.skip (M26 true (Sh.some_eq h1).symm _ (Wk.to (L := [(2, (i64 p2)), (3, (.ptr 0 0 0 0)), (4, (.ptr 1 0 0 0)), (7, (.ptr 2 0 0 0)), (8, (i64 (Sh.len c3.args))), (74, (i64 c3.op)), (84, (.bool true))]) ⟨.rfl, .rfl, .rfl, .rfl, .rfl, .rfl, (.of (congrArg AV.bool b124)), trivial⟩))
        ·intro b124 h1
         exact AW.regionO rfl (zm tb 2 rfl (AO.done (M26 (decide (c3.op = 11)) (Sh.some_eq h1).symm _ (Wk.tr rfl))))
  refine AW.regionO rfl (zm tb 5 rfl (bs h1 fun q125 gq125 h1 => zc hb16 (spec_inRange_ok gq125) rfl rfl rfl (zm tb 2 rfl ?_)))
  rcases Sh.ite_some h1 with ⟨b126, h1⟩ | ⟨b126, h1⟩
  ·refine zs b126 rfl ?_
   iterate 3 refine zs b126 rfl ?_
   iterate 4 refine zn rfl ?_
   refine zs b126 rfl (zt b126 rfl (zq tb rfl ?_))
   iterate 4 refine zs rfl rfl ?_
   iterate 3 refine zn rfl ?_
   refine zs rfl rfl (zt rfl rfl (zq tb rfl ?_))
   iterate 4 refine zs rfl rfl ?_
   iterate 4 refine zn rfl ?_
   exact zs rfl rfl (zt rfl rfl (AO.done (M12 true (Sh.some_eq h1).symm _ (Wk.tr rfl))))
  ·refine zg tb b126 rfl ?_
   iterate 3 refine zg tb b126 rfl ?_
   rcases Sh.ite_some h1 with ⟨b127, h1⟩ | ⟨b127, h1⟩
   ·refine zg tb b127 rfl (zg tb b127 rfl (bs h1 fun q128 gq128 h1 => zd b127 hb34 (spec_sets_ok gq128) rfl rfl rfl rfl (zg tb b127 rfl (ao_q (v := (.bool (!q128))) (go1 rfl rfl b126) rfl (aq_pkt rfl b127 rfl) (zf b126 rfl (zq tb rfl ?_))))))
    rcases Sh.ite_some h1 with ⟨b129, h1⟩ | ⟨b129, h1⟩
    ·refine zs b129 rfl ?_
     iterate 3 refine zs b129 rfl ?_
     iterate 3 refine zn rfl ?_
     refine zs b129 rfl (zt b129 rfl (zq tb rfl ?_))
     iterate 4 refine zs rfl rfl ?_
     iterate 4 refine zn rfl ?_
     exact zs rfl rfl (zt rfl rfl (AO.done (M12 true (Sh.some_eq h1).symm _ (Wk.tr rfl))))
    ·refine zg tb b129 rfl ?_
     iterate 3 refine zg tb b129 rfl ?_
     rcases Sh.ite_some h1 with ⟨b130, h1⟩ | ⟨b130, h1⟩
     ·refine zg tb b130 rfl (zg tb b130 rfl (zg tb b130 rfl (ao_q (v := (.bool (!decide (c3.op = 6)))) (go1 rfl rfl b129) rfl (aq_pkt rfl b130 rfl) (zf b129 rfl (zq tb rfl ?_)))))
      rcases Sh.ite_some h1 with ⟨b131, h1⟩ | ⟨b131, h1⟩
      ·refine zs b131 rfl ?_
       iterate 3 refine zs b131 rfl ?_
       iterate 4 refine zn rfl ?_
       exact zs b131 rfl (zt b131 rfl (AO.done (M12 true (Sh.some_eq h1).symm _ (Wk.tr rfl))))
      ·refine zg tb b131 rfl ?_
       iterate 3 refine zg tb b131 rfl ?_
       rcases Sh.ite_some h1 with ⟨b132, h1⟩ | ⟨b132, h1⟩
       ·exact zg tb b132 rfl (zg tb b132 rfl (ao_q (v := (i64 (Sh.len c3.jumps))) (go1 rfl rfl b132) rfl (aq_lens sl27 rfl) (zg tb b132 rfl (ao_q (v := (.bool (decide (0 < (Sh.len c3.jumps))))) (go1 rfl rfl b131) rfl (aq_pkt rfl b132 rfl) (zf b131 rfl (AO.done (M12 (decide (0 < (Sh.len c3.jumps))) (Sh.some_eq h1).symm _ (Wk.tr rfl))))))))
       ·refine zs b132 rfl ?_
        iterate 3 refine zs b132 rfl ?_
        exact ao_q (v := (.bool false)) (go1 rfl rfl b131) rfl (aq_pkf rfl b132 rfl) (zf b131 rfl (AO.done (M12 false (Sh.some_eq h1).symm _ (Wk.tr rfl))))
     ·refine zs b130 rfl (zs b130 rfl (zs b130 rfl (ao_q (v := (.bool false)) (go1 rfl rfl b129) rfl (aq_pkf rfl b130 rfl) (zf b129 rfl (zq tb rfl ?_)))))
      iterate 4 refine zg tb rfl rfl ?_
      rcases Sh.ite_some h1 with ⟨b133, h1⟩ | ⟨b133, h1⟩
      ·exact zg tb b133 rfl (zg tb b133 rfl (ao_q (v := (i64 (Sh.len c3.jumps))) (go1 rfl rfl b133) rfl (aq_lens sl27 rfl) (zg tb b133 rfl (ao_q (v := (.bool (decide (0 < (Sh.len c3.jumps))))) (go1 rfl rfl rfl) rfl (aq_pkt rfl b133 rfl) (zf rfl rfl (AO.done (M12 (decide (0 < (Sh.len c3.jumps))) (Sh.some_eq h1).symm _ (Wk.tr rfl))))))))
      ·refine zs b133 rfl ?_
       iterate 3 refine zs b133 rfl ?_
       exact ao_q (v := (.bool false)) (go1 rfl rfl rfl) rfl (aq_pkf rfl b133 rfl) (zf rfl rfl (AO.done (M12 false (Sh.some_eq h1).symm _ (Wk.tr rfl))))
   ·refine zs b127 rfl ?_
    iterate 3 refine zs b127 rfl ?_
    refine ao_q (v := (.bool false)) (go1 rfl rfl b126) rfl (aq_pkf rfl b127 rfl) (zf b126 rfl (zq tb rfl ?_))
    iterate 4 refine zg tb rfl rfl ?_
    rcases Sh.ite_some h1 with ⟨b134, h1⟩ | ⟨b134, h1⟩
    ·refine zg tb b134 rfl (zg tb b134 rfl (zg tb b134 rfl (ao_q (v := (.bool (!decide (c3.op = 6)))) (go1 rfl rfl rfl) rfl (aq_pkt rfl b134 rfl) (zf rfl rfl (zq tb rfl ?_)))))
     rcases Sh.ite_some h1 with ⟨b135, h1⟩ | ⟨b135, h1⟩
     ·refine zs b135 rfl ?_
      iterate 3 refine zs b135 rfl ?_
      iterate 4 refine zn rfl ?_
      exact zs b135 rfl (zt b135 rfl (AO.done (M12 true (Sh.some_eq h1).symm _ (Wk.tr rfl))))
     ·refine zg tb b135 rfl ?_
      iterate 3 refine zg tb b135 rfl ?_
      rcases Sh.ite_some h1 with ⟨b136, h1⟩ | ⟨b136, h1⟩
      ·exact zg tb b136 rfl (zg tb b136 rfl (ao_q (v := (i64 (Sh.len c3.jumps))) (go1 rfl rfl b136) rfl (aq_lens sl27 rfl) (zg tb b136 rfl (ao_q (v := (.bool (decide (0 < (Sh.len c3.jumps))))) (go1 rfl rfl b135) rfl (aq_pkt rfl b136 rfl) (zf b135 rfl (AO.done (M12 (decide (0 < (Sh.len c3.jumps))) (Sh.some_eq h1).symm _ (Wk.tr rfl))))))))
      ·refine zs b136 rfl ?_
       iterate 3 refine zs b136 rfl ?_
       exact ao_q (v := (.bool false)) (go1 rfl rfl b135) rfl (aq_pkf rfl b136 rfl) (zf b135 rfl (AO.done (M12 false (Sh.some_eq h1).symm _ (Wk.tr rfl))))
    ·refine zs b134 rfl (zs b134 rfl (zs b134 rfl (ao_q (v := (.bool false)) (go1 rfl rfl rfl) rfl (aq_pkf rfl b134 rfl) (zf rfl rfl (zq tb rfl ?_)))))
     iterate 4 refine zg tb rfl rfl ?_
     rcases Sh.ite_some h1 with ⟨b137, h1⟩ | ⟨b137, h1⟩
     ·exact zg tb b137 rfl (zg tb b137 rfl (ao_q (v := (i64 (Sh.len c3.jumps))) (go1 rfl rfl b137) rfl (aq_lens sl27 rfl) (zg tb b137 rfl (ao_q (v := (.bool (decide (0 < (Sh.len c3.jumps))))) (go1 rfl rfl rfl) rfl (aq_pkt rfl b137 rfl) (zf rfl rfl (AO.done (M12 (decide (0 < (Sh.len c3.jumps))) (Sh.some_eq h1).symm _ (Wk.tr rfl))))))))
     ·refine zs b137 rfl ?_
      iterate 3 refine zs b137 rfl ?_
      exact ao_q (v := (.bool false)) (go1 rfl rfl rfl) rfl (aq_pkf rfl b137 rfl) (zf rfl rfl (AO.done (M12 false (Sh.some_eq h1).symm _ (Wk.tr rfl))))
 refine AW.block (AW.loopF (σ := Int) (fun n v => spec_validInstr_L1 c3 p1 n v = some o8) (fun k7 => ⟨234, envL [(2, (i64 p2)), (3, (.ptr 0 0 0 0)), (4, (.ptr 1 0 0 0)), (7, (.ptr 2 0 0 0)), (8, (i64 (Sh.len c3.args))), (9, (i64 k7))], [⟨0, 32, 2, [(eRImage p0)]⟩, ⟨0, 45, 5, [(eRProc p1)]⟩, ⟨0, 73, 6, [(eRInstr c3)]⟩]⟩) N 0 h1 (Wk.tr rfl) (fun _ hv => by rw [spec_validInstr_L1] at hv; cases hv) ?_)
 rintro n k7 h1
 try dsimp only at h1 ⊢
 rw [spec_validInstr_L1] at h1
 refine AW.seq fun K138 hK138 => zr tb rfl rfl ?_
 refine ci h1 rfl ?_ ?_ <;> clear h1
 ·intro b140 h1
  refine AW.skip (hK138 _ (AW.seq fun K141 hK141 => AW.block (AW.seq fun K142 hK142 => ?_)))
  refine AW.draw (by kernel_rfl) (by kernel_rfl) (by rfl) ?_
  iterate 3 refine yq tb rfl ?_
  refine bs h1 fun c143 gc143 h1 => yx ei27 gc143 rfl rfl rfl ?_
  iterate 4 refine yq tb rfl ?_
  refine bs h1 fun q144 gq144 h1 => d_call (v := (.bool q144)) go0 hb16 (spec_inRange_ok gq144) rfl rfl rfl (yq tb rfl (d_done (hK142 _ ?_)))
  refine ci h1 rfl ?_ ?_ <;> clear h1
  ·intro b145 h1
   have b146 : q144 = false := by simpa using b145
   refine zr tb rfl rfl ?_
   replace h1 := Sh.some_eq h1
   subst o8
   try dsimp only [id] at h0
   replace h0 := Sh.some_eq h0
   subst r
   exact AW.ret (xr (Wk.d0 [(6, (.bool false))] rfl))
  ·intro b145 h1
   have b148 : q144 = true := by simpa using b145
   exact AW.skip (hK141 _ (AW.regionO rfl (zm tb 3 rfl (AO.done (xi (Sh.w (k7 + 1)) h1 (Wk.tr rfl))))))
 ·intro b140 h1
  exact AW.exit (M8 () (Sh.some_eq h1).symm _ (Wk.tr rfl))
theorem spec_validProc_ok {N : Nat} {p0 : RImage} {p1 : RProc} {r : Bool} (h0 : spec_validProc N p0 p1 = some r) : ACalls Try.prog 31 [(.agg (eRImage p0)), (.agg (eRProc p1))] [] (fun v st => v = (.bool r) ∧ st = []) := by
 unfold spec_validProc at h0
 refine ai Try.func31 rfl rfl rfl rfl (sr rfl fun K1 hK1 => ao_box (m := 0) (st' := [⟨0, 32, 2, [(eRImage p0)]⟩]) go0 rfl rfl rfl rfl rfl (ao_box (m := 1) (st' := [⟨0, 32, 2, [(eRImage p0)]⟩, ⟨0, 45, 5, [(eRProc p1)]⟩]) go0 rfl rfl rfl rfl rfl (zq tb rfl (dn hK1 rfl (sr rfl fun K2 hK2 => zm tb 2 rfl (zl tb rfl rfl (zq tb rfl (dn hK2 rfl (AW.seq fun K3 hK3 => ?_)))))))))
 refine AW.seq fun K4 hK4 => bs h0 fun o6 h1 h0 => ?_
 have M6 : ∀ (t5 : Bool), o6 = t5 → ∀ s, Wk 0 s ⟨59, envL [(2, (.ptr 0 0 0 0)), (3, (.ptr 1 0 0 0)), (5, (i64 (Sh.len p1.code))), (30, (.bool t5))], [⟨0, 32, 2, [(eRImage p0)]⟩, ⟨0, 45, 5, [(eRProc p1)]⟩]⟩ → K4 s := by
  intro t5 hq s hw
  subst o6
  try dsimp only at h0
  refine hK4 _ (AW.weaken hw ?_)
  refine ci h0 rfl ?_ ?_ <;> clear h0
  ·intro b7 h0
   refine zr tb rfl rfl ?_
   replace h0 := Sh.some_eq h0
   subst r
   exact AW.ret (xr (Wk.d0 [(4, (.bool false))] rfl))
  ·intro b7 h0
   refine AW.skip (hK3 _ (AW.seq fun K9 hK9 => zr tb rfl rfl ?_))
   obtain ⟨o12, h1, h0⟩ := Sh.cont_some h0
   have M12 : ∀ (_ : Unit), o12 = Sum.inr () → ∀ s, Wk 0 s ⟨59, envL [(3, (.ptr 0 0 0 0)), (5, (i64 (Sh.len p1.code)))], [⟨0, 45, 5, [(eRProc p1)]⟩]⟩ → K9 s := by
    intro _ hq s hw
    subst o12
    try dsimp only at h0
    refine hK9 _ (AW.weaken hw (AW.seq fun K13 hK13 => bs h0 fun o15 h1 h0 => ?_))
    have M15 : ∀ (t14 : Bool), o15 = t14 → ∀ s, Wk 0 s ⟨59, envL [(4, (.bool t14))], []⟩ → K13 s := by
     intro t14 hq s hw
     subst o15
     try dsimp only at h0
     refine hK13 _ (AW.weaken hw ?_)
     replace h0 := Sh.some_eq h0
     subst r
     exact AW.ret (xr (Wk.to (L := [(4, (.bool t14))]) ⟨.rfl, trivial⟩))
    refine AW.regionO rfl (zm tb 4 rfl (bs h1 fun c16 gc16 h1 => zx ei43 gc16 rfl rfl rfl (zm tb 4 rfl ?_)))
    rcases Sh.ite_some h1 with ⟨b17, h1⟩ | ⟨b17, h1⟩
    ·refine zs b17 rfl ?_
     iterate 7 refine zs b17 rfl ?_
     exact zt b17 rfl (zq tb rfl (AO.done (M15 true (Sh.some_eq h1).symm _ (Wk.d0 _ rfl))))
    ·refine zg tb b17 rfl ?_
     iterate 3 refine zg tb b17 rfl ?_
     refine ao_q (v := (.iptr (eRInstr c16) 0)) (go1 rfl rfl b17) rfl (aq_ixs ei43 rfl rfl gc16 rfl) ?_
     iterate 3 refine zg tb b17 rfl ?_
     exact zf b17 rfl (zq tb rfl (AO.done (M15 (decide (c16.op = 24)) (Sh.some_eq h1).symm _ (Wk.d0 _ rfl))))
   refine AW.block (AW.loopF (σ := Int) (fun n v => spec_validProc_L1 N p0 p1 n v = some o12) (fun at11 => ⟨59, envL [(2, (.ptr 0 0 0 0)), (3, (.ptr 1 0 0 0)), (5, (i64 (Sh.len p1.code))), (6, (i64 at11))], [⟨0, 32, 2, [(eRImage p0)]⟩, ⟨0, 45, 5, [(eRProc p1)]⟩]⟩) N 0 h1 (Wk.tr rfl) (fun _ hv => by rw [spec_validProc_L1] at hv; cases hv) ?_)
   rintro n at11 h1
   try dsimp only at h1 ⊢
   rw [spec_validProc_L1] at h1
   refine AW.seq fun K18 hK18 => zr tb rfl rfl ?_
   refine ci h1 rfl ?_ ?_ <;> clear h1
   ·intro b20 h1
    refine AW.skip (hK18 _ (AW.seq fun K21 hK21 => AW.block (sr rfl fun K22 hK22 => zm tb 3 rfl (bs h1 fun q23 gq23 h1 => zc hb54 (spec_validInstr_ok gq23) rfl rfl rfl (zq tb rfl (dn hK22 rfl ?_))))))
    refine ci h1 rfl ?_ ?_ <;> clear h1
    ·intro b24 h1
     have b25 : q23 = false := by simpa using b24
     refine zr tb rfl rfl ?_
     replace h1 := Sh.some_eq h1
     subst o12
     try dsimp only [id] at h0
     replace h0 := Sh.some_eq h0
     subst r
     exact AW.ret (xr (Wk.d0 [(4, (.bool false))] rfl))
    ·intro b24 h1
     have b27 : q23 = true := by simpa using b24
     exact AW.skip (hK21 _ (AW.regionO rfl (zm tb 3 rfl (AO.done (xi (Sh.w (at11 + 1)) h1 (Wk.tr rfl))))))
   ·intro b20 h1
    exact AW.exit (M12 () (Sh.some_eq h1).symm _ (Wk.permk (L := [(3, (.ptr 0 0 0 0)), (5, (i64 (Sh.len p1.code)))]) (st' := [⟨0, 45, 5, [(eRProc p1)]⟩]) (st1 := [⟨0, 45, 5, [(eRProc p1)]⟩]) [1] rfl .nil (by decide) rfl rfl (.raw rfl rfl .nil) ⟨.rfl, .rfl, trivial⟩))
 refine AW.regionO rfl (zm tb 4 rfl (bs h1 fun q28 gq28 h1 => zc hb53 (spec_validLent_ok gq28) rfl rfl rfl (zm tb 2 rfl ?_)))
 rcases Sh.ite_some h1 with ⟨b29, h1⟩ | ⟨b29, h1⟩
 ·refine zs b29 rfl ?_
  iterate 7 refine zs b29 rfl ?_
  refine zt b29 rfl (zq tb rfl ?_)
  iterate 3 refine zs rfl rfl ?_
  exact zt rfl rfl (AO.done (M6 true (Sh.some_eq h1).symm _ (Wk.tr rfl)))
 ·refine zg tb b29 rfl ?_
  iterate 3 refine zg tb b29 rfl ?_
  refine ao_q (v := (i64 (Sh.len p1.params))) (go1 rfl rfl b29) rfl (aq_lens sl27 rfl) (ao_q (v := (i64 (if (Sh.len p1.params) > 1 then (Sh.len p1.params) else 1))) (go1 rfl rfl b29) rfl (aq_max rfl rfl) (bs h1 fun q30 gq30 h1 => zd b29 hb16 (spec_inRange_ok gq30) rfl rfl rfl rfl (zg tb b29 rfl (zf b29 rfl (zq tb rfl ?_)))))
  rcases Sh.ite_some h1 with ⟨b31, h1⟩ | ⟨b31, h1⟩
  ·exact zs b31 rfl (zs b31 rfl (zs b31 rfl (zt b31 rfl (AO.done (M6 true (Sh.some_eq h1).symm _ (Wk.tr rfl))))))
  ·exact zg tb b31 rfl (bs h1 fun q32 gq32 h1 => zd b31 hb16 (spec_inRange_ok gq32) rfl rfl rfl rfl (zg tb b31 rfl (zf b31 rfl (AO.done (M6 (!q32) (Sh.some_eq h1).symm _ (Wk.tr rfl))))))
theorem spec_validImage_ok {N : Nat} {p0 : RImage} {r : Bool} (h0 : spec_validImage N p0 = some r) : ACalls Try.prog 15 [(.agg (eRImage p0))] [] (fun v st => v = (.bool r) ∧ st = []) := by
 unfold spec_validImage at h0
 refine ai Try.func15 rfl rfl rfl rfl (sr rfl fun K1 hK1 => ao_box (m := 0) (st' := [⟨0, 32, 2, [(eRImage p0)]⟩]) go0 rfl rfl rfl rfl rfl (zq tb rfl (dn hK1 rfl (AW.seq fun K2 hK2 => AW.seq fun K3 hK3 => bs h0 fun o5 h1 h0 => ?_))))
 have M5 : ∀ (t4 : Bool), o5 = t4 → ∀ s, Wk 0 s ⟨29, envL [(1, (.ptr 0 0 0 0)), (13, (.bool t4))], [⟨0, 32, 2, [(eRImage p0)]⟩]⟩ → K3 s := by
  intro t4 hq s hw
  subst o5
  try dsimp only at h0
  refine hK3 _ (AW.weaken hw ?_)
  refine ci h0 rfl ?_ ?_ <;> clear h0
  ·intro b6 h0
   refine zr tb rfl rfl ?_
   replace h0 := Sh.some_eq h0
   subst r
   exact AW.ret (xr (Wk.d0 [(2, (.bool false))] rfl))
  ·intro b6 h0
   refine AW.skip (hK2 _ (AW.seq fun K8 hK8 => zr tb rfl rfl ?_))
   obtain ⟨o11, h1, h0⟩ := Sh.cont_some h0
   have M11 : ∀ (_ : Unit), o11 = Sum.inr () → ∀ s, Wk 0 s ⟨29, envL [], []⟩ → K8 s := by
    intro _ hq s hw
    subst o11
    try dsimp only at h0
    refine hK8 _ (AW.weaken hw (zr tb rfl rfl ?_))
    replace h0 := Sh.some_eq h0
    subst r
    exact AW.ret (xr (Wk.to (L := [(2, (.bool true))]) ⟨.rfl, trivial⟩))
   refine AW.block (AW.loopF (σ := Int) (fun n v => spec_validImage_L1 N p0 n v = some o11) (fun i10 => ⟨29, envL [(1, (.ptr 0 0 0 0)), (3, (i64 i10))], [⟨0, 32, 2, [(eRImage p0)]⟩]⟩) N 0 h1 (Wk.tr rfl) (fun _ hv => by rw [spec_validImage_L1] at hv; cases hv) ?_)
   rintro n i10 h1
   try dsimp only at h1 ⊢
   rw [spec_validImage_L1] at h1
   refine AW.seq fun K13 hK13 => sr rfl fun K14 hK14 => zm tb 3 rfl (zl tb rfl rfl (zq tb rfl (dn hK14 rfl ?_)))
   refine ci h1 rfl ?_ ?_ <;> clear h1
   ·intro b15 h1
    refine AW.skip (hK13 _ (AW.seq fun K16 hK16 => AW.block (AW.seq fun K17 hK17 => ?_)))
    refine AW.draw (by kernel_rfl) (by kernel_rfl) (by rfl) ?_
    iterate 4 refine yq tb rfl ?_
    refine bs h1 fun c18 gc18 h1 => yx ei30 gc18 rfl rfl rfl (yq tb rfl (bs h1 fun q19 gq19 h1 => d_call (v := (.bool q19)) go0 hb31 (spec_validProc_ok gq19) rfl rfl rfl (yq tb rfl (d_done (hK17 _ ?_)))))
    refine ci h1 rfl ?_ ?_ <;> clear h1
    ·intro b20 h1
     have b21 : q19 = false := by simpa using b20
     refine zr tb rfl rfl ?_
     replace h1 := Sh.some_eq h1
     subst o11
     try dsimp only [id] at h0
     replace h0 := Sh.some_eq h0
     subst r
     exact AW.ret (xr (Wk.d0 [(2, (.bool false))] rfl))
    ·intro b20 h1
     have b23 : q19 = true := by simpa using b20
     exact AW.skip (hK16 _ (AW.regionO rfl (zm tb 3 rfl (AO.done (xi (Sh.w (i10 + 1)) h1 (Wk.tr rfl))))))
   ·intro b15 h1
    exact AW.exit (M11 () (Sh.some_eq h1).symm _ (Wk.d0 _ rfl))
 refine AW.regionO rfl (zm tb 2 rfl (zl tb rfl rfl (zm tb 2 rfl ?_)))
 rcases Sh.ite_some h1 with ⟨b24, h1⟩ | ⟨b24, h1⟩
 ·refine zs b24 rfl ?_
  iterate 3 refine zs b24 rfl ?_
  exact zt b24 rfl (AO.done (M5 true (Sh.some_eq h1).symm _ (Wk.tr rfl)))
 ·exact zg tb b24 rfl (bs h1 fun q25 gq25 h1 => zd (v' := (.agg [(ls eRDecl q25.decls), (ls eRFunc q25.funcs)])) b24 hb30 (spec_sigsOfImage_ok gq25) rfl rfl rfl rfl (bs h1 fun q26 gq26 h1 => zd b24 hb29 (spec_validSigs_ok gq26) rfl rfl rfl rfl (zg tb b24 rfl (zf b24 rfl (AO.done (M5 (!q26) (Sh.some_eq h1).symm _ (Wk.tr rfl)))))))
theorem spec_insert_ok {N : Nat} {p0 : (List Int)} {p1 : Int} {r : (List Int)} (h0 : spec_insert N p0 p1 = some r) : ACalls Try.prog 55 [(ls eI p0), (i64 p1)] [] (fun v st => v = (ow 0 0 r) ∧ st = [(ro 0 3 1 eI r)]) := by
 unfold spec_insert at h0
 refine ai Try.func55 rfl rfl rfl rfl (zr tb rfl rfl (sr rfl fun K2 hK2 => ?_))
 refine ao_bs (m := 0) (st' := [(ro 0 3 1 eI ([] : List Int))]) (l := ([] : List Int)) (enc := eI) go0 ei27 (by decide) rfl rfl rfl rfl rfl rfl ?_
 refine zq tb rfl (dn hK2 rfl (zr tb rfl rfl (AW.seq fun K4 hK4 => zr tb rfl rfl (bs h0 fun o11 h1 h0 => ?_))))
 have M11 : ∀ (done9 : Bool) (l10 : (List Int)), o11 = (done9, l10) → ∀ s, Wk 0 s ⟨49, envL [(1, (i64 p1)), (5, (ow 0 0 l10)), (6, (.bool done9))], [(ro 0 3 1 eI l10)]⟩ → K4 s := by
  intro done9 l10 hq s hw
  subst o11
  try dsimp only at h0
  refine hK4 _ (AW.weaken hw (AW.seq fun K12 hK12 => bs h0 fun o14 h1 h0 => ?_))
  have M14 : ∀ (l13 : (List Int)), o14 = l13 → ∀ s, Wk 0 s ⟨49, envL [(5, (ow 0 0 l13))], [(ro 0 3 1 eI l13)]⟩ → K12 s := by
   intro l13 hq s hw
   subst o14
   try dsimp only at h0
   refine hK12 _ (AW.weaken hw (zr tb rfl rfl ?_))
   replace h0 := Sh.some_eq h0
   subst r
   exact AW.ret (xr (Wk.to (L := [(4, (ow 0 0 l13))]) ⟨.rfl, trivial⟩))
  refine zr tb rfl rfl ?_
  refine ci h1 rfl ?_ ?_ <;> clear h1
  ·intro b17 h1
   have b18 : done9 = false := by simpa using b17
   refine AW.regionO rfl (zm tb 2 rfl ?_)
   refine ao_bs (m := 1) (st' := [(ro 0 3 1 eI l10), (ro 0 3 1 eI [p1])]) (l := [p1]) (enc := eI) go0 ei27 (by decide) rfl rfl rfl rfl rfl rfl ?_
   refine bs h1 fun l19 gl19 h1 => ao_apo (st' := [(ro 1 3 1 eI l19), (ro 0 3 1 eI [p1])]) (l2 := [p1]) go0 ei27 rfl rfl rfl rfl (el_o rfl rfl) (fun _ => rfl) gl19 rfl (zq tb rfl ?_)
   exact AO.done (M14 l19 (Sh.some_eq h1).symm _ (by refine Wk.trans (Wk.rg (L := [(5, (ow 0 0 l19))]) (st' := [(ro 0 3 1 eI l19), (ro 0 3 1 eI [p1])]) (.pure (pure_map fun _ => rfl) (.pure (pure_map fun _ => rfl) .nil)) ⟨.rfl, trivial⟩) ?_; exact Wk.permk (L := [(5, (ow 0 0 l19))]) (st' := [(ro 0 3 1 eI l19)]) (st1 := [(ro 0 3 1 eI l19)]) [0] rfl .nil (by decide) rfl rfl (.pure (pure_map fun _ => rfl) .nil) ⟨.rfl, trivial⟩))
  ·intro b17 h1
   have b20 : done9 = true := by simpa using b17
   exact AW.skip (M14 l10 (Sh.some_eq h1).symm _ (Wk.tr rfl))
 refine AW.block (AW.loopF (σ := Bool × Int × (List Int)) (fun n v => spec_insert_L1 p0 p1 n v.1 v.2.1 v.2.2 = some o11) (fun (done6, i7, l8) => ⟨49, envL [(0, (ls eI p0)), (1, (i64 p1)), (5, (ow 0 0 l8)), (6, (.bool done6)), (7, (i64 i7))], [(ro 0 3 1 eI l8)]⟩) N (false, 0, []) h1 (Wk.tr rfl) (fun _ hv => by rw [spec_insert_L1] at hv; cases hv) ?_)
 rintro n ⟨done6, i7, l8⟩ h1
 try dsimp only at h1 ⊢
 rw [spec_insert_L1] at h1
 refine AW.seq fun K21 hK21 => sr rfl fun K22 hK22 => zm tb 2 rfl (zl tb rfl rfl (zq tb rfl (dn hK22 rfl ?_)))
 refine ci h1 rfl ?_ ?_ <;> clear h1
 ·intro b23 h1
  refine AW.skip (hK21 _ (AW.seq fun K24 hK24 => AW.block (AW.seq fun K25 hK25 => bs h1 fun o28 h2 h1 => ?_)))
  have M28 : ∀ (done26 : Bool) (l27 : (List Int)), o28 = (done26, l27) → ∀ s, Wk 0 s ⟨49, envL [(0, (ls eI p0)), (1, (i64 p1)), (5, (ow 0 0 l27)), (6, (.bool done26)), (7, (i64 i7))], [(ro 0 3 1 eI l27)]⟩ → K25 s := by
   intro done26 l27 hq s hw
   subst o28
   try dsimp only at h1
   refine hK25 _ (AW.weaken hw (AW.regionO rfl (zm tb 3 rfl (bs h1 fun c29 gc29 h1 => zx ei27 gc29 rfl rfl rfl (zq tb rfl ?_)))))
   refine ao_bs (m := 1) (st' := [(ro 0 3 1 eI l27), (ro 0 3 1 eI [c29])]) (l := [c29]) (enc := eI) go0 ei27 (by decide) rfl rfl rfl rfl rfl rfl ?_
   refine bs h1 fun l30 gl30 h1 => ao_apo (st' := [(ro 1 3 1 eI l30), (ro 0 3 1 eI [c29])]) (l2 := [c29]) go0 ei27 rfl rfl rfl rfl (el_o rfl rfl) (fun _ => rfl) gl30 rfl (zq tb rfl (dn hK24 rfl (AW.regionO rfl (zm tb 3 rfl ?_))))
   exact AO.done (xi (done26, Sh.w (i7 + 1), l30) h1 (by refine Wk.trans (Wk.rg (L := [(0, (ls eI p0)), (1, (i64 p1)), (5, (ow 0 0 l30)), (6, (.bool done26)), (7, (i64 (Sh.w (i7 + 1))))]) (st' := [(ro 0 3 1 eI l30), (ro 0 3 1 eI [c29])]) (.pure (pure_map fun _ => rfl) (.pure (pure_map fun _ => rfl) .nil)) ⟨.rfl, .rfl, .rfl, .rfl, .rfl, trivial⟩) ?_; exact Wk.permk (L := [(0, (ls eI p0)), (1, (i64 p1)), (5, (ow 0 0 l30)), (6, (.bool done26)), (7, (i64 (Sh.w (i7 + 1))))]) (st' := [(ro 0 3 1 eI l30)]) (st1 := [(ro 0 3 1 eI l30)]) [0] rfl .nil (by decide) rfl rfl (.pure (pure_map fun _ => rfl) .nil) ⟨.rfl, .rfl, .rfl, .rfl, .rfl, trivial⟩))
  refine AW.seq fun K31 hK31 => bs h2 fun o33 h3 h2 => ?_
  have M33 : ∀ (t32 : Bool), o33 = t32 → ∀ s, Wk 0 s ⟨49, envL [(0, (ls eI p0)), (1, (i64 p1)), (5, (ow 0 0 l8)), (6, (.bool done6)), (7, (i64 i7)), (24, (.bool t32))], [(ro 0 3 1 eI l8)]⟩ → K31 s := by
   intro t32 hq s hw
   subst o33
   try dsimp only at h2
   refine hK31 _ (AW.weaken hw ?_)
   refine ci h2 rfl ?_ ?_ <;> clear h2
   ·intro b34 h2
    refine AW.seq fun K35 hK35 => bs h2 fun o37 h3 h2 => ?_
    have M37 : ∀ (l36 : (List Int)), o37 = l36 → ∀ s, Wk 0 s ⟨49, envL [(0, (ls eI p0)), (1, (i64 p1)), (5, (ow 0 0 l36)), (7, (i64 i7))], [(ro 0 3 1 eI l36)]⟩ → K35 s := by
     intro l36 hq s hw
     subst o37
     try dsimp only at h2
     exact hK35 _ (AW.weaken hw (AW.regionO rfl (zq tb rfl (AO.done (M28 true l36 (Sh.some_eq h2).symm _ (Wk.tr rfl))))))
    refine sr rfl fun K38 hK38 => zm tb 2 rfl (bs h3 fun c39 gc39 h3 => zx ei27 gc39 rfl rfl rfl (zm tb 3 rfl (dn hK38 rfl ?_)))
    refine ci h3 rfl ?_ ?_ <;> clear h3
    ·intro b40 h3
     refine AW.regionO rfl (zm tb 2 rfl ?_)
     refine ao_bs (m := 1) (st' := [(ro 0 3 1 eI l8), (ro 0 3 1 eI [p1])]) (l := [p1]) (enc := eI) go0 ei27 (by decide) rfl rfl rfl rfl rfl rfl ?_
     refine bs h3 fun l41 gl41 h3 => ao_apo (st' := [(ro 1 3 1 eI l41), (ro 0 3 1 eI [p1])]) (l2 := [p1]) go0 ei27 rfl rfl rfl rfl (el_o rfl rfl) (fun _ => rfl) gl41 rfl (zq tb rfl ?_)
     exact AO.done (M37 l41 (Sh.some_eq h3).symm _ (by refine Wk.trans (Wk.rg (L := [(0, (ls eI p0)), (1, (i64 p1)), (5, (ow 0 0 l41)), (7, (i64 i7))]) (st' := [(ro 0 3 1 eI l41), (ro 0 3 1 eI [p1])]) (.pure (pure_map fun _ => rfl) (.pure (pure_map fun _ => rfl) .nil)) ⟨.rfl, .rfl, .rfl, .rfl, trivial⟩) ?_; exact Wk.permk (L := [(0, (ls eI p0)), (1, (i64 p1)), (5, (ow 0 0 l41)), (7, (i64 i7))]) (st' := [(ro 0 3 1 eI l41)]) (st1 := [(ro 0 3 1 eI l41)]) [0] rfl .nil (by decide) rfl rfl (.pure (pure_map fun _ => rfl) .nil) ⟨.rfl, .rfl, .rfl, .rfl, trivial⟩))
    ·intro b40 h3
     exact AW.skip (M37 l8 (Sh.some_eq h3).symm _ (Wk.tr rfl))
   ·intro b34 h2
    exact AW.skip (M28 done6 l8 (Sh.some_eq h2).symm _ (Wk.tr rfl))
  refine AW.regionO rfl (zm tb 3 rfl ?_)
  rcases Sh.ite_some h3 with ⟨b42, h3⟩ | ⟨b42, h3⟩
  ·refine zg tb b42 rfl (zg tb b42 rfl (bs h3 fun c43 gc43 h3 => ao_q (v := (.iptr (eI c43) 0)) (go1 rfl rfl b42) rfl (aq_ixs ei27 rfl rfl gc43 rfl) ?_))
   iterate 3 refine zg tb b42 rfl ?_
   exact zt b42 rfl (AO.done (M33 (decide (p1 ≤ c43)) (Sh.some_eq h3).symm _ (Wk.tr rfl)))
  ·refine zs b42 rfl ?_
   iterate 5 refine zs b42 rfl ?_
   exact zf b42 rfl (AO.done (M33 false (Sh.some_eq h3).symm _ (Wk.tr rfl)))
 ·intro b23 h1
  exact AW.exit (M11 done6 l8 (Sh.some_eq h1).symm _ (Wk.tr rfl))
theorem spec_nextOf_ok {N : Nat} {p0 : (List RInstr)} {p1 : Int} {r : (List Int)} (h0 : spec_nextOf N p0 p1 = some r) : ACalls Try.prog 32 [(ls eRInstr p0), (i64 p1)] [] (fun v st => v = (ow 0 0 r) ∧ st = [(ro 0 3 1 eI r)]) := by
 unfold spec_nextOf at h0
 refine ai Try.func32 rfl rfl rfl rfl (zr tb rfl rfl (sr rfl fun K2 hK2 => zm tb 2 rfl (bs h0 fun c3 gc3 h0 => zx ei43 gc3 rfl rfl rfl (zq tb rfl (ao_alloc (m := 0) (st' := [⟨0, 73, 6, [[(i64 0), (i64 0), (i64 0), (i64 0), .zc, .zc]]⟩]) go0 zi73 rfl rfl (ao_str (st' := [⟨0, 73, 6, [(eRInstr c3)]⟩]) go0 ti73 rfl rfl rfl rfl rfl rfl (show 0 + 6 ≤ 6 by decide) rfl (dn hK2 rfl (AW.seq fun K4 hK4 => zr tb rfl rfl ?_))))))))
 refine AW.block (AW.seq fun K6 hK6 => bs h0 fun o8 h1 h0 => ?_)
 have M8 : ∀ (t7 : Bool), o8 = t7 → ∀ s, Wk 0 s ⟨52, envL [(1, (i64 p1)), (5, (.ptr 0 0 0 0)), (13, (i64 c3.op)), (14, (.bool t7))], [⟨0, 73, 6, [(eRInstr c3)]⟩]⟩ → K6 s := by
  intro t7 hq s hw
  subst o8
  try dsimp only at h0
  refine hK6 _ (AW.weaken hw ?_)
  refine ci h0 rfl ?_ ?_ <;> clear h0
  ·intro b9 h0
   refine sr rfl fun K10 hK10 => ?_
   refine ao_bs (m := 1) (st' := [⟨0, 73, 6, [(eRInstr c3)]⟩, (ro 0 3 1 eI ([] : List Int))]) (l := ([] : List Int)) (enc := eI) go0 ei27 (by decide) rfl rfl rfl rfl rfl rfl ?_
   refine zq tb rfl (dn hK10 rfl ?_)
   replace h0 := Sh.some_eq h0
   subst r
   exact AW.ret (xr (Wk.permk (L := [(4, (.own 0 0 (List.length ([] : List Int))))]) (st' := [(ro 0 3 1 eI ([] : List Int))]) (st1 := [(ro 0 3 1 eI ([] : List Int))]) [1] rfl .nil (by decide) rfl rfl (.pure (pure_map fun _ => rfl) .nil) ⟨.rfl, trivial⟩))
  ·intro b9 h0
   refine zr tb rfl rfl ?_
   refine ci h0 rfl ?_ ?_ <;> clear h0
   ·intro b12 h0
    refine sr rfl fun K13 hK13 => zm tb 2 rfl ?_
    refine ao_bs (m := 1) (st' := [⟨0, 73, 6, [(eRInstr c3)]⟩, (ro 0 3 1 eI [c3.num])]) (l := [c3.num]) (enc := eI) go0 ei27 (by decide) rfl rfl rfl rfl rfl rfl ?_
    refine zq tb rfl (dn hK13 rfl ?_)
    replace h0 := Sh.some_eq h0
    subst r
    exact AW.ret (xr (Wk.permk (L := [(4, (ow 0 0 [c3.num]))]) (st' := [(ro 0 3 1 eI [c3.num])]) (st1 := [(ro 0 3 1 eI [c3.num])]) [1] rfl .nil (by decide) rfl rfl (.pure (pure_map fun _ => rfl) .nil) ⟨.rfl, trivial⟩))
   ·intro b12 h0
    refine zr tb rfl rfl ?_
    refine ci h0 rfl ?_ ?_ <;> clear h0
    ·intro b15 h0
     refine sr rfl fun K16 hK16 => zm tb 2 rfl ?_
     refine ao_bs (m := 1) (st' := [⟨0, 73, 6, [(eRInstr c3)]⟩, (ro 0 3 1 eI [Sh.w (p1 + 1)])]) (l := [Sh.w (p1 + 1)]) (enc := eI) go0 ei27 (by decide) rfl rfl rfl rfl rfl rfl ?_
     refine zm tb 2 rfl (AO.weaken (Wk.frz (L := [(27, (ls eI [Sh.w (p1 + 1)])), (29, (i64 c3.num))]) (st' := [⟨0, 73, 6, [(eRInstr c3)]⟩, ⟨1, 3, 1, []⟩]) (id := 1) rfl (show 0 ≤ 1 by decide) (pure_map fun _ => rfl) ⟨(.frz rfl), .rfl, trivial⟩ rfl) (bs h0 fun q17 gq17 h0 => ao_call (v' := (ow 2 0 q17)) (st' := [⟨0, 73, 6, [(eRInstr c3)]⟩, ⟨1, 3, 1, []⟩, (ro 0 3 1 eI q17)]) go0 hb55 (spec_insert_ok gq17) rfl rfl ⟨(pure_map' fun _ => rfl), trivial⟩ rfl rfl (zq tb rfl (dn hK16 rfl ?_))))
     replace h0 := Sh.some_eq h0
     subst r
     exact AW.ret (xr (Wk.permk (L := [(4, (ow 0 0 q17))]) (st' := [(ro 0 3 1 eI q17)]) (st1 := [(ro 0 3 1 eI q17)]) [2] rfl .nil (by decide) rfl rfl (.pure (pure_map fun _ => rfl) .nil) ⟨.rfl, trivial⟩))
    ·intro b15 h0
     refine zr tb rfl rfl ?_
     refine ci h0 rfl ?_ ?_ <;> clear h0
     ·intro b19 h0
      refine sr rfl fun K20 hK20 => ?_
      refine ao_bs (m := 1) (st' := [⟨0, 73, 6, [(eRInstr c3)]⟩, (ro 0 3 1 eI ([] : List Int))]) (l := ([] : List Int)) (enc := eI) go0 ei27 (by decide) rfl rfl rfl rfl rfl rfl ?_
      refine zq tb rfl (dn hK20 rfl (AW.seq fun K21 hK21 => zr tb rfl rfl (bs h0 fun o26 h1 h0 => ?_)))
      have M26 : ∀ (l25 : (List Int)), o26 = l25 → ∀ s, Wk 0 s ⟨52, envL [(6, (ow 0 0 l25))], [(ro 0 3 1 eI l25)]⟩ → K21 s := by
       intro l25 hq s hw
       subst o26
       try dsimp only at h0
       refine hK21 _ (AW.weaken hw (zr tb rfl rfl ?_))
       replace h0 := Sh.some_eq h0
       subst r
       exact AW.ret (xr (Wk.to (L := [(4, (ow 0 0 l25))]) ⟨.rfl, trivial⟩))
      refine AW.block (AW.loopF (σ := Int × (List Int)) (fun n v => spec_nextOf_L1 N c3 n v.1 v.2 = some o26) (fun (k23, l24) => ⟨52, envL [(5, (.ptr 0 0 0 0)), (6, (ow 1 0 l24)), (7, (i64 k23))], [⟨0, 73, 6, [(eRInstr c3)]⟩, (ro 0 3 1 eI l24)]⟩) N (0, []) h1 (Wk.tr rfl) (fun _ hv => by rw [spec_nextOf_L1] at hv; cases hv) ?_)
      rintro n ⟨k23, l24⟩ h1
      try dsimp only at h1 ⊢
      rw [spec_nextOf_L1] at h1
      refine AW.seq fun K28 hK28 => sr rfl fun K29 hK29 => zm tb 3 rfl (zl tb rfl rfl (zq tb rfl (dn hK29 rfl ?_)))
      refine ci h1 rfl ?_ ?_ <;> clear h1
      ·intro b30 h1
       refine AW.skip (hK28 _ (AW.seq fun K31 hK31 => AW.block (AW.regionO rfl (zm tb 4 rfl (bs h1 fun c32 gc32 h1 => zx ei27 gc32 rfl rfl rfl (zq tb rfl (AO.weaken (Wk.frz (L := [(5, (.ptr 0 0 0 0)), (7, (i64 k23)), (41, (ls eI l24)), (46, (i64 c32))]) (st' := [⟨0, 73, 6, [(eRInstr c3)]⟩, ⟨1, 3, 1, []⟩]) (id := 1) rfl (show 0 ≤ 1 by decide) (pure_map fun _ => rfl) ⟨.rfl, .rfl, (.frz rfl), .rfl, trivial⟩ rfl) (bs h1 fun q33 gq33 h1 => ao_call (v' := (ow 2 0 q33)) (st' := [⟨0, 73, 6, [(eRInstr c3)]⟩, ⟨1, 3, 1, []⟩, (ro 0 3 1 eI q33)]) go0 hb55 (spec_insert_ok gq33) rfl rfl ⟨(pure_map' fun _ => rfl), trivial⟩ rfl rfl (zq tb rfl ?_)))))))))
       refine dn hK31 rfl (AW.regionO rfl (zm tb 3 rfl ?_))
       exact AO.done (xi (Sh.w (k23 + 1), q33) h1 (Wk.permk (L := [(5, (.ptr 0 0 0 0)), (6, (ow 1 0 q33)), (7, (i64 (Sh.w (k23 + 1))))]) (st' := [⟨0, 73, 6, [(eRInstr c3)]⟩, (ro 0 3 1 eI q33)]) (st1 := [⟨0, 73, 6, [(eRInstr c3)]⟩, (ro 0 3 1 eI q33)]) [0, 2] rfl .nil (by decide) rfl rfl (.raw rfl rfl (.pure (pure_map fun _ => rfl) .nil)) ⟨.rfl, .rfl, .rfl, trivial⟩))
      ·intro b30 h1
       exact AW.exit (M26 l24 (Sh.some_eq h1).symm _ (Wk.permk (L := [(6, (ow 0 0 l24))]) (st' := [(ro 0 3 1 eI l24)]) (st1 := [(ro 0 3 1 eI l24)]) [1] rfl .nil (by decide) rfl rfl (.pure (pure_map fun _ => rfl) .nil) ⟨.rfl, trivial⟩))
     ·intro b19 h0
      refine AW.skip (hK4 _ (sr rfl fun K34 hK34 => zm tb 2 rfl ?_))
      refine ao_bs (m := 1) (st' := [⟨0, 73, 6, [(eRInstr c3)]⟩, (ro 0 3 1 eI [Sh.w (p1 + 1)])]) (l := [Sh.w (p1 + 1)]) (enc := eI) go0 ei27 (by decide) rfl rfl rfl rfl rfl rfl ?_
      refine zq tb rfl (dn hK34 rfl ?_)
      replace h0 := Sh.some_eq h0
      subst r
      exact AW.ret (xr (Wk.permk (L := [(4, (ow 0 0 [Sh.w (p1 + 1)]))]) (st' := [(ro 0 3 1 eI [Sh.w (p1 + 1)])]) (st1 := [(ro 0 3 1 eI [Sh.w (p1 + 1)])]) [1] rfl .nil (by decide) rfl rfl (.pure (pure_map fun _ => rfl) .nil) ⟨.rfl, trivial⟩))
 refine zr tb rfl rfl ?_
 refine ci h1 rfl ?_ ?_ <;> clear h1
 ·intro b36 h1
  exact AW.skip (M8 true (Sh.some_eq h1).symm _ (Wk.to (L := [(1, (i64 p1)), (5, (.ptr 0 0 0 0)), (13, (i64 c3.op)), (14, (.bool true))]) ⟨.rfl, .rfl, .rfl, (.of (congrArg AV.bool b36)), trivial⟩))
 ·intro b36 h1
  exact AW.regionO rfl (zm tb 2 rfl (AO.done (M8 (decide (c3.op = 24)) (Sh.some_eq h1).symm _ (Wk.tr rfl))))
theorem spec_copyInts_ok {p0 : (List Int)} {r : (List Int)} (h0 : spec_copyInts p0 = some r) : ACalls Try.prog 17 [(ls eI p0)] [] (fun v st => v = (ow 0 0 r) ∧ st = [(ro 0 3 1 eI r)]) := by
 unfold spec_copyInts at h0
 refine ai Try.func17 rfl rfl rfl rfl (zr tb rfl rfl (sr rfl fun K2 hK2 => ?_))
 refine ao_bs (m := 0) (st' := [(ro 0 3 1 eI ([] : List Int))]) (l := ([] : List Int)) (enc := eI) go0 ei27 (by decide) rfl rfl rfl rfl rfl rfl ?_
 refine zq tb rfl (bs h0 fun l3 gl3 h0 => ao_apo (st' := [(ro 1 3 1 eI l3)]) (l2 := p0) go0 ei27 rfl rfl rfl rfl el_s (fun _ => rfl) gl3 rfl (zq tb rfl (dn hK2 rfl ?_)))
 replace h0 := Sh.some_eq h0
 subst r
 exact AW.ret (xr (Wk.rg (L := [(2, (ow 0 0 l3))]) (st' := [(ro 0 3 1 eI l3)]) (.pure (pure_map fun _ => rfl) .nil) ⟨.rfl, trivial⟩))
theorem spec_union_ok {N : Nat} {p0 : (List Int)} {p1 : (List Int)} {r : (List Int)} (h0 : spec_union N p0 p1 = some r) : ACalls Try.prog 33 [(ls eI p0), (ls eI p1)] [] (fun v st => v = (ow 0 0 r) ∧ st = [(ro 0 3 1 eI r)]) := by
 unfold spec_union at h0
 refine ai Try.func33 rfl rfl rfl rfl (zr tb rfl rfl (sr rfl fun K2 hK2 => zq tb rfl (bs h0 fun q3 gq3 h0 => ao_call (v' := (ow 0 0 q3)) (st' := [(ro 0 3 1 eI q3)]) go0 hb17 (spec_copyInts_ok gq3) rfl rfl ⟨(pure_map' fun _ => rfl), trivial⟩ rfl rfl (zq tb rfl (dn hK2 rfl (AW.seq fun K4 hK4 => zr tb rfl rfl (bs h0 fun o9 h1 h0 => ?_)))))))
 have M9 : ∀ (l8 : (List Int)), o9 = l8 → ∀ s, Wk 0 s ⟨22, envL [(5, (ow 0 0 l8))], [(ro 0 3 1 eI l8)]⟩ → K4 s := by
  intro l8 hq s hw
  subst o9
  try dsimp only at h0
  refine hK4 _ (AW.weaken hw (zr tb rfl rfl ?_))
  replace h0 := Sh.some_eq h0
  subst r
  exact AW.ret (xr (Wk.to (L := [(4, (ow 0 0 l8))]) ⟨.rfl, trivial⟩))
 refine AW.block (AW.loopF (σ := Int × (List Int)) (fun n v => spec_union_L1 N p1 n v.1 v.2 = some o9) (fun (i6, l7) => ⟨22, envL [(1, (ls eI p1)), (5, (ow 0 0 l7)), (6, (i64 i6))], [(ro 0 3 1 eI l7)]⟩) N (0, q3) h1 (Wk.tr rfl) (fun _ hv => by rw [spec_union_L1] at hv; cases hv) ?_)
 rintro n ⟨i6, l7⟩ h1
 try dsimp only at h1 ⊢
 rw [spec_union_L1] at h1
 refine AW.seq fun K11 hK11 => sr rfl fun K12 hK12 => zm tb 2 rfl (zl tb rfl rfl (zq tb rfl (dn hK12 rfl ?_)))
 refine ci h1 rfl ?_ ?_ <;> clear h1
 ·intro b13 h1
  refine AW.skip (hK11 _ (AW.seq fun K14 hK14 => AW.block (AW.regionO rfl (zm tb 3 rfl (bs h1 fun c15 gc15 h1 => zx ei27 gc15 rfl rfl rfl (zq tb rfl (AO.weaken (Wk.frz (L := [(1, (ls eI p1)), (6, (i64 i6)), (15, (ls eI l7)), (19, (i64 c15))]) (st' := [⟨1, 3, 1, []⟩]) (id := 0) rfl (show 0 ≤ 0 by decide) (pure_map fun _ => rfl) ⟨.rfl, .rfl, (.frz rfl), .rfl, trivial⟩ rfl) (bs h1 fun q16 gq16 h1 => ao_call (v' := (ow 1 0 q16)) (st' := [⟨1, 3, 1, []⟩, (ro 0 3 1 eI q16)]) go0 hb55 (spec_insert_ok gq16) rfl rfl ⟨(pure_map' fun _ => rfl), trivial⟩ rfl rfl (zq tb rfl ?_)))))))))
  refine dn hK14 rfl (AW.regionO rfl (zm tb 3 rfl ?_))
  exact AO.done (xi (Sh.w (i6 + 1), q16) h1 (Wk.permk (L := [(1, (ls eI p1)), (5, (ow 0 0 q16)), (6, (i64 (Sh.w (i6 + 1))))]) (st' := [(ro 0 3 1 eI q16)]) (st1 := [(ro 0 3 1 eI q16)]) [1] rfl .nil (by decide) rfl rfl (.pure (pure_map fun _ => rfl) .nil) ⟨.rfl, .rfl, .rfl, trivial⟩))
 ·intro b13 h1
  exact AW.exit (M9 l7 (Sh.some_eq h1).symm _ (Wk.tr rfl))
theorem spec_without_ok {N : Nat} {p0 : (List Int)} {p1 : Int} {r : (List Int)} (h0 : spec_without N p0 p1 = some r) : ACalls Try.prog 35 [(ls eI p0), (i64 p1)] [] (fun v st => v = (ow 0 0 r) ∧ st = [(ro 0 3 1 eI r)]) := by
 unfold spec_without at h0
 refine ai Try.func35 rfl rfl rfl rfl (zr tb rfl rfl (sr rfl fun K2 hK2 => ?_))
 refine ao_bs (m := 0) (st' := [(ro 0 3 1 eI ([] : List Int))]) (l := ([] : List Int)) (enc := eI) go0 ei27 (by decide) rfl rfl rfl rfl rfl rfl ?_
 refine zq tb rfl (dn hK2 rfl (AW.seq fun K3 hK3 => zr tb rfl rfl (bs h0 fun o8 h1 h0 => ?_)))
 have M8 : ∀ (l7 : (List Int)), o8 = l7 → ∀ s, Wk 0 s ⟨28, envL [(5, (ow 0 0 l7))], [(ro 0 3 1 eI l7)]⟩ → K3 s := by
  intro l7 hq s hw
  subst o8
  try dsimp only at h0
  refine hK3 _ (AW.weaken hw (zr tb rfl rfl ?_))
  replace h0 := Sh.some_eq h0
  subst r
  exact AW.ret (xr (Wk.to (L := [(4, (ow 0 0 l7))]) ⟨.rfl, trivial⟩))
 refine AW.block (AW.loopF (σ := Int × (List Int)) (fun n v => spec_without_L1 p0 p1 n v.1 v.2 = some o8) (fun (i5, l6) => ⟨28, envL [(0, (ls eI p0)), (1, (i64 p1)), (5, (ow 0 0 l6)), (6, (i64 i5))], [(ro 0 3 1 eI l6)]⟩) N (0, []) h1 (Wk.tr rfl) (fun _ hv => by rw [spec_without_L1] at hv; cases hv) ?_)
 rintro n ⟨i5, l6⟩ h1
 try dsimp only at h1 ⊢
 rw [spec_without_L1] at h1
 refine AW.seq fun K10 hK10 => sr rfl fun K11 hK11 => zm tb 2 rfl (zl tb rfl rfl (zq tb rfl (dn hK11 rfl ?_)))
 refine ci h1 rfl ?_ ?_ <;> clear h1
 ·intro b12 h1
  refine AW.skip (hK10 _ (AW.seq fun K13 hK13 => bs h1 fun o15 h2 h1 => ?_))
  have M15 : ∀ (l14 : (List Int)), o15 = l14 → ∀ s, Wk 0 s ⟨28, envL [(0, (ls eI p0)), (1, (i64 p1)), (5, (ow 0 0 l14)), (6, (i64 i5))], [(ro 0 3 1 eI l14)]⟩ → K13 s := by
   intro l14 hq s hw
   subst o15
   try dsimp only at h1
   exact hK13 _ (AW.weaken hw (AW.regionO rfl (zm tb 3 rfl (AO.done (xi (Sh.w (i5 + 1), l14) h1 (Wk.tr rfl))))))
  refine AW.block (sr rfl fun K16 hK16 => zm tb 2 rfl (bs h2 fun c17 gc17 h2 => zx ei27 gc17 rfl rfl rfl (zm tb 3 rfl (dn hK16 rfl ?_))))
  refine ci h2 rfl ?_ ?_ <;> clear h2
  ·intro b18 h2
   have b19 : decide (c17 = p1) = false := by simpa using b18
   refine AW.regionO rfl (zm tb 3 rfl (zx ei27 gc17 rfl rfl rfl (zq tb rfl ?_)))
   refine ao_bs (m := 1) (st' := [(ro 0 3 1 eI l6), (ro 0 3 1 eI [c17])]) (l := [c17]) (enc := eI) go0 ei27 (by decide) rfl rfl rfl rfl rfl rfl ?_
   refine bs h2 fun l20 gl20 h2 => ao_apo (st' := [(ro 1 3 1 eI l20), (ro 0 3 1 eI [c17])]) (l2 := [c17]) go0 ei27 rfl rfl rfl rfl (el_o rfl rfl) (fun _ => rfl) gl20 rfl (zq tb rfl ?_)
   exact AO.done (M15 l20 (Sh.some_eq h2).symm _ (by refine Wk.trans (Wk.rg (L := [(0, (ls eI p0)), (1, (i64 p1)), (5, (ow 0 0 l20)), (6, (i64 i5))]) (st' := [(ro 0 3 1 eI l20), (ro 0 3 1 eI [c17])]) (.pure (pure_map fun _ => rfl) (.pure (pure_map fun _ => rfl) .nil)) ⟨.rfl, .rfl, .rfl, .rfl, trivial⟩) ?_; exact Wk.permk (L := [(0, (ls eI p0)), (1, (i64 p1)), (5, (ow 0 0 l20)), (6, (i64 i5))]) (st' := [(ro 0 3 1 eI l20)]) (st1 := [(ro 0 3 1 eI l20)]) [0] rfl .nil (by decide) rfl rfl (.pure (pure_map fun _ => rfl) .nil) ⟨.rfl, .rfl, .rfl, .rfl, trivial⟩))
  ·intro b18 h2
   have b21 : decide (c17 = p1) = true := by simpa using b18
   exact AW.skip (M15 l6 (Sh.some_eq h2).symm _ (Wk.tr rfl))
 ·intro b12 h1
  exact AW.exit (M8 l6 (Sh.some_eq h1).symm _ (Wk.tr rfl))
theorem spec_usedBy_ok {N : Nat} {p0 : RInstr} {r : (List Int)} (h0 : spec_usedBy N p0 = some r) : ACalls Try.prog 36 [(.agg (eRInstr p0))] [] (fun v st => v = (ow 0 0 r) ∧ st = [(ro 0 3 1 eI r)]) := by
 unfold spec_usedBy at h0
 refine ai Try.func36 rfl rfl rfl rfl (sr rfl fun K1 hK1 => ao_box (m := 0) (st' := [⟨0, 73, 6, [(eRInstr p0)]⟩]) go0 rfl rfl rfl rfl rfl (zq tb rfl (dn hK1 rfl (sr rfl fun K2 hK2 => ?_))))
 refine ao_bs (m := 1) (st' := [⟨0, 73, 6, [(eRInstr p0)]⟩, (ro 0 3 1 eI ([] : List Int))]) (l := ([] : List Int)) (enc := eI) go0 ei27 (by decide) rfl rfl rfl rfl rfl rfl ?_
 refine zq tb rfl (dn hK2 rfl (AW.seq fun K3 hK3 => bs h0 fun o5 h1 h0 => ?_))
 have M5 : ∀ (l4 : (List Int)), o5 = l4 → ∀ s, Wk 0 s ⟨29, envL [(3, (ow 0 0 l4))], [(ro 0 3 1 eI l4)]⟩ → K3 s := by
  intro l4 hq s hw
  subst o5
  try dsimp only at h0
  refine hK3 _ (AW.weaken hw (zr tb rfl rfl ?_))
  replace h0 := Sh.some_eq h0
  subst r
  exact AW.ret (xr (Wk.to (L := [(2, (ow 0 0 l4))]) ⟨.rfl, trivial⟩))
 refine AW.seq fun K7 hK7 => bs h1 fun o9 h2 h1 => ?_
 have M9 : ∀ (t8 : Bool), o9 = t8 → ∀ s, Wk 0 s ⟨29, envL [(1, (.ptr 0 0 0 0)), (3, (.own 1 0 (List.length ([] : List Int)))), (13, (.bool t8))], [⟨0, 73, 6, [(eRInstr p0)]⟩, (ro 0 3 1 eI ([] : List Int))]⟩ → K7 s := by
  intro t8 hq s hw
  subst o9
  try dsimp only at h1
  refine hK7 _ (AW.weaken hw ?_)
  refine ci h1 rfl ?_ ?_ <;> clear h1
  ·intro b10 h1
   refine zr tb rfl rfl (AW.fin fun K12 hK12 => bs h1 fun o16 h2 h1 => ?_)
   have M16 : ∀ (l15 : (List Int)), o16 = l15 → ∀ s, Wk 0 s ⟨29, envL [(3, (ow 0 0 l15))], [(ro 0 3 1 eI l15)]⟩ → K12 s := by
    intro l15 hq s hw
    subst o16
    try dsimp only at h1
    exact hK12 _ (M5 l15 (Sh.some_eq h1).symm _ (hw.trans (Wk.to (L := [(3, (ow 0 0 l15))]) ⟨.rfl, trivial⟩)))
   refine AW.block (AW.loopF (σ := Int × (List Int)) (fun n v => spec_usedBy_L1 N p0 n v.1 v.2 = some o16) (fun (k13, l14) => ⟨29, envL [(1, (.ptr 0 0 0 0)), (3, (ow 1 0 l14)), (4, (i64 k13))], [⟨0, 73, 6, [(eRInstr p0)]⟩, (ro 0 3 1 eI l14)]⟩) N (0, []) h2 (Wk.tr rfl) (fun _ hv => by rw [spec_usedBy_L1] at hv; cases hv) ?_)
   rintro n ⟨k13, l14⟩ h2
   try dsimp only at h2 ⊢
   rw [spec_usedBy_L1] at h2
   refine AW.seq fun K17 hK17 => sr rfl fun K18 hK18 => zm tb 3 rfl (zl tb rfl rfl (zq tb rfl (dn hK18 rfl ?_)))
   refine ci h2 rfl ?_ ?_ <;> clear h2
   ·intro b19 h2
    refine AW.skip (hK17 _ (AW.seq fun K20 hK20 => AW.block (AW.regionO rfl (zm tb 4 rfl (bs h2 fun c21 gc21 h2 => zx ei27 gc21 rfl rfl rfl (zq tb rfl (AO.weaken (Wk.frz (L := [(1, (.ptr 0 0 0 0)), (4, (i64 k13)), (21, (ls eI l14)), (26, (i64 c21))]) (st' := [⟨0, 73, 6, [(eRInstr p0)]⟩, ⟨1, 3, 1, []⟩]) (id := 1) rfl (show 0 ≤ 1 by decide) (pure_map fun _ => rfl) ⟨.rfl, .rfl, (.frz rfl), .rfl, trivial⟩ rfl) (bs h2 fun q22 gq22 h2 => ao_call (v' := (ow 2 0 q22)) (st' := [⟨0, 73, 6, [(eRInstr p0)]⟩, ⟨1, 3, 1, []⟩, (ro 0 3 1 eI q22)]) go0 hb55 (spec_insert_ok gq22) rfl rfl ⟨(pure_map' fun _ => rfl), trivial⟩ rfl rfl (zq tb rfl ?_)))))))))
    refine dn hK20 rfl (AW.regionO rfl (zm tb 3 rfl ?_))
    exact AO.done (xi (Sh.w (k13 + 1), q22) h2 (Wk.permk (L := [(1, (.ptr 0 0 0 0)), (3, (ow 1 0 q22)), (4, (i64 (Sh.w (k13 + 1))))]) (st' := [⟨0, 73, 6, [(eRInstr p0)]⟩, (ro 0 3 1 eI q22)]) (st1 := [⟨0, 73, 6, [(eRInstr p0)]⟩, (ro 0 3 1 eI q22)]) [0, 2] rfl .nil (by decide) rfl rfl (.raw rfl rfl (.pure (pure_map fun _ => rfl) .nil)) ⟨.rfl, .rfl, .rfl, trivial⟩))
   ·intro b19 h2
    exact AW.exit (M16 l14 (Sh.some_eq h2).symm _ (Wk.permk (L := [(3, (ow 0 0 l14))]) (st' := [(ro 0 3 1 eI l14)]) (st1 := [(ro 0 3 1 eI l14)]) [1] rfl .nil (by decide) rfl rfl (.pure (pure_map fun _ => rfl) .nil) ⟨.rfl, trivial⟩))
  ·intro b10 h1
   exact AW.skip (M5 [] (Sh.some_eq h1).symm _ (Wk.permk (L := [(3, (.own 0 0 (List.length ([] : List Int))))]) (st' := [(ro 0 3 1 eI ([] : List Int))]) (st1 := [(ro 0 3 1 eI ([] : List Int))]) [1] rfl .nil (by decide) rfl rfl (.pure (pure_map fun _ => rfl) .nil) ⟨.rfl, trivial⟩))
 refine AW.regionO rfl (zm tb 4 rfl ?_)
 rcases Sh.ite_some h2 with ⟨b23, h2⟩ | ⟨b23, h2⟩
 ·exact zg tb b23 rfl (zg tb b23 rfl (zg tb b23 rfl (zt b23 rfl (AO.done (M9 (!decide (p0.op = 15)) (Sh.some_eq h2).symm _ (Wk.tr rfl))))))
 ·exact zs b23 rfl (zs b23 rfl (zs b23 rfl (zf b23 rfl (AO.done (M9 false (Sh.some_eq h2).symm _ (Wk.tr rfl))))))
theorem spec_liveFrom_ok {N : Nat} {p0 : (List RInstr)} {p1 : Int} {r : (List (List Int))} (h0 : spec_liveFrom N p0 p1 = some r) : ACalls Try.prog 18 [(ls eRInstr p0), (i64 p1)] [] (fun v st => v = (ow 0 0 r) ∧ st = [(ro 0 27 1 (eS eI) r)]) := by
 unfold spec_liveFrom at h0
 refine ai Try.func18 rfl rfl rfl rfl (zr tb rfl rfl (sr rfl fun K2 hK2 => zq tb rfl (zl tb rfl rfl (bs h0 fun l3 gl3 h0 => ao_make (m := 0) (st' := [(ro 0 27 1 (eS eI) l3)]) (enc := (eS eI)) (u := []) go0 ei47 rfl rfl rfl gl3 rfl rfl (zq tb rfl (dn hK2 rfl (AW.seq fun K4 hK4 => sr rfl fun K5 hK5 => zq tb rfl ?_)))))))
 refine zl tb rfl rfl (zm tb 2 rfl (dn hK5 rfl (bs h0 fun o9 h1 h0 => ?_)))
 have M9 : ∀ (l8 : (List (List Int))), o9 = l8 → ∀ s, Wk 0 s ⟨64, envL [(5, (ow 0 0 l8))], [(ro 0 27 1 (eS eI) l8)]⟩ → K4 s := by
  intro l8 hq s hw
  subst o9
  try dsimp only at h0
  refine hK4 _ (AW.weaken hw (zr tb rfl rfl ?_))
  replace h0 := Sh.some_eq h0
  subst r
  exact AW.ret (xr (Wk.to (L := [(4, (ow 0 0 l8))]) ⟨.rfl, trivial⟩))
 refine AW.block (AW.loopF (σ := Int × (List (List Int))) (fun n v => spec_liveFrom_L1 N p0 p1 n v.1 v.2 = some o9) (fun (at6, l7) => ⟨64, envL [(0, (ls eRInstr p0)), (1, (i64 p1)), (5, (ow 0 0 l7)), (6, (i64 at6))], [(ro 0 27 1 (eS eI) l7)]⟩) N (Sh.w ((Sh.len p0) - 1), l3) h1 (Wk.tr rfl) (fun _ hv => by rw [spec_liveFrom_L1] at hv; cases hv) ?_)
 rintro n ⟨at6, l7⟩ h1
 try dsimp only at h1 ⊢
 rw [spec_liveFrom_L1] at h1
 refine AW.seq fun K11 hK11 => zr tb rfl rfl ?_
 refine ci h1 rfl ?_ ?_ <;> clear h1
 ·intro b13 h1
  refine AW.skip (hK11 _ (AW.seq fun K14 hK14 => AW.block (sr rfl fun K15 hK15 => ?_)))
  refine ao_bs (m := 1) (st' := [(ro 0 27 1 (eS eI) l7), (ro 0 3 1 eI ([] : List Int))]) (l := ([] : List Int)) (enc := eI) go0 ei27 (by decide) rfl rfl rfl rfl rfl rfl ?_
  refine zq tb rfl (dn hK15 rfl (sr rfl fun K16 hK16 => zm tb 2 rfl (bs h1 fun q17 gq17 h1 => ao_call (v' := (ow 2 0 q17)) (st' := [(ro 0 27 1 (eS eI) l7), (ro 0 3 1 eI ([] : List Int)), (ro 0 3 1 eI q17)]) go0 hb32 (spec_nextOf_ok gq17) rfl rfl ⟨(pure_map' fun _ => rfl), trivial⟩ rfl rfl (zq tb rfl (dn hK16 rfl (AW.seq fun K18 hK18 => zr tb rfl rfl (bs h1 fun o23 h2 h1 => ?_)))))))
  have M23 : ∀ (l22 : (List Int)), o23 = l22 → ∀ s, Wk 0 s ⟨64, envL [(0, (ls eRInstr p0)), (1, (i64 p1)), (5, (ow 0 0 l7)), (6, (i64 at6)), (7, (ow 1 0 l22))], [(ro 0 27 1 (eS eI) l7), (ro 0 3 1 eI l22)]⟩ → K18 s := by
   intro l22 hq s hw
   subst o23
   try dsimp only at h1
   refine hK18 _ (AW.weaken hw (AW.seq fun K24 hK24 => bs h1 fun o26 h2 h1 => ?_))
   have M26 : ∀ (l25 : (List Int)), o26 = l25 → ∀ s, Wk 0 s ⟨64, envL [(0, (ls eRInstr p0)), (1, (i64 p1)), (5, (ow 0 0 l7)), (6, (i64 at6)), (7, (ow 1 0 l25))], [(ro 0 27 1 (eS eI) l7), (ro 0 3 1 eI l25)]⟩ → K24 s := by
    intro l25 hq s hw
    subst o26
    try dsimp only at h1
    refine hK24 _ (AW.weaken hw (AW.regionO rfl (zm tb 5 rfl (bs h1 fun c27 gc27 h1 => zx ei43 gc27 rfl rfl rfl (zq tb rfl (bs h1 fun q28 gq28 h1 => ao_call (v' := (ow 2 0 q28)) (st' := [(ro 0 27 1 (eS eI) l7), (ro 0 3 1 eI l25), (ro 0 3 1 eI q28)]) go0 hb36 (spec_usedBy_ok gq28) rfl rfl ⟨(pure_map' fun _ => rfl), trivial⟩ rfl rfl (AO.weaken (Wk.frz (L := [(0, (ls eRInstr p0)), (1, (i64 p1)), (5, (ow 0 0 l7)), (6, (i64 at6)), (53, (ow 0 0 l7)), (54, (i64 at6)), (55, (ls eI l25)), (60, (ow 2 0 q28))]) (st' := [(ro 0 27 1 (eS eI) l7), ⟨1, 3, 1, []⟩, (ro 0 3 1 eI q28)]) (id := 1) rfl (show 0 ≤ 1 by decide) (pure_map fun _ => rfl) ⟨.rfl, .rfl, .rfl, .rfl, .rfl, .rfl, (.frz rfl), .rfl, trivial⟩ rfl) (AO.weaken (Wk.frz (L := [(0, (ls eRInstr p0)), (1, (i64 p1)), (5, (ow 0 0 l7)), (6, (i64 at6)), (53, (ow 0 0 l7)), (54, (i64 at6)), (55, (ls eI l25)), (60, (ls eI q28))]) (st' := [(ro 0 27 1 (eS eI) l7), ⟨1, 3, 1, []⟩, ⟨1, 3, 1, []⟩]) (id := 2) rfl (show 0 ≤ 2 by decide) (pure_map fun _ => rfl) ⟨.rfl, .rfl, .rfl, .rfl, .rfl, .rfl, .rfl, (.frz rfl), trivial⟩ rfl) (bs h1 fun q29 gq29 h1 => ao_call (v' := (ow 3 0 q29)) (st' := [(ro 0 27 1 (eS eI) l7), ⟨1, 3, 1, []⟩, ⟨1, 3, 1, []⟩, (ro 0 3 1 eI q29)]) go0 hb33 (spec_union_ok gq29) rfl rfl ⟨(pure_map' fun _ => rfl), trivial⟩ rfl rfl ?_)))))))))
    refine bs h1 fun c30 gc30 h1 => zz (.ptr 0 0 (Int.toNat at6) 0) (aq_ixo ei47 rfl rfl rfl rfl gc30) rfl (AO.weaken (Wk.frz (L := [(0, (ls eRInstr p0)), (1, (i64 p1)), (5, (ow 0 0 l7)), (6, (i64 at6)), (61, (ls eI q29)), (62, (.ptr 0 0 (Int.toNat at6) 0))]) (st' := [(ro 0 27 1 (eS eI) l7), ⟨1, 3, 1, []⟩, ⟨1, 3, 1, []⟩, ⟨1, 3, 1, []⟩]) (id := 3) rfl (show 0 ≤ 3 by decide) (pure_map fun _ => rfl) ⟨.rfl, .rfl, .rfl, .rfl, (.frz rfl), .rfl, trivial⟩ rfl) (ao_stl (st' := [(ro 0 27 1 (eS eI) (Sh.put l7 at6 q29)), ⟨1, 3, 1, []⟩, ⟨1, 3, 1, []⟩, ⟨1, 3, 1, []⟩]) (u' := q29) go0 ti27 rfl rfl gc30 rfl rfl rfl (show 0 + 1 ≤ 1 by decide) rfl rfl (dn hK14 rfl (AW.regionO rfl (zm tb 3 rfl ?_)))))
    exact AO.done (xi (Sh.w (at6 - 1), Sh.put l7 at6 q29) h1 (by refine Wk.trans (Wk.permk (L := [(0, (.sl (List.map eRInstr p0))), (1, (i64 p1)), (5, (.own 0 0 (List.length l7))), (6, (i64 (Sh.w (at6 - 1))))]) (st' := [⟨0, 27, 1, List.map (eS eI) (Sh.put l7 at6 q29)⟩]) (st1 := [⟨0, 27, 1, List.map (eS eI) (Sh.put l7 at6 q29)⟩]) [0] rfl .nil (by decide) rfl rfl (.pure (pure_map fun _ => rfl) .nil) ⟨.rfl, .rfl, .rfl, .rfl, trivial⟩) ?_; exact Wk.to (L := [(0, (.sl (List.map eRInstr p0))), (1, (i64 p1)), (5, (.own 0 0 (List.length (Sh.put l7 at6 q29)))), (6, (i64 (Sh.w (at6 - 1))))]) ⟨.rfl, .rfl, (.len (by simp only [Sh.put_len])), .rfl, trivial⟩))
   refine sr rfl fun K31 hK31 => zm tb 2 rfl (bs h2 fun c32 gc32 h2 => zx ei43 gc32 rfl rfl rfl (zm tb 2 rfl (bs h2 fun q33 gq33 h2 => zc hb34 (spec_sets_ok gq33) rfl rfl rfl (dn hK31 rfl ?_))))
   refine ci h2 rfl ?_ ?_ <;> clear h2
   ·intro b34 h2
    refine AW.regionO rfl (zm tb 3 rfl (zx ei43 gc32 rfl rfl rfl (zm tb 2 rfl (AO.weaken (Wk.frz (L := [(0, (ls eRInstr p0)), (1, (i64 p1)), (5, (ow 0 0 l7)), (6, (i64 at6)), (46, (ls eI l22)), (51, (i64 c32.dst))]) (st' := [(ro 0 27 1 (eS eI) l7), ⟨1, 3, 1, []⟩]) (id := 1) rfl (show 0 ≤ 1 by decide) (pure_map fun _ => rfl) ⟨.rfl, .rfl, .rfl, .rfl, (.frz rfl), .rfl, trivial⟩ rfl) (bs h2 fun q35 gq35 h2 => ao_call (v' := (ow 2 0 q35)) (st' := [(ro 0 27 1 (eS eI) l7), ⟨1, 3, 1, []⟩, (ro 0 3 1 eI q35)]) go0 hb35 (spec_without_ok gq35) rfl rfl ⟨(pure_map' fun _ => rfl), trivial⟩ rfl rfl (zq tb rfl ?_))))))
    exact AO.done (M26 q35 (Sh.some_eq h2).symm _ (Wk.permk (L := [(0, (ls eRInstr p0)), (1, (i64 p1)), (5, (ow 0 0 l7)), (6, (i64 at6)), (7, (ow 1 0 q35))]) (st' := [(ro 0 27 1 (eS eI) l7), (ro 0 3 1 eI q35)]) (st1 := [(ro 0 27 1 (eS eI) l7), (ro 0 3 1 eI q35)]) [0, 2] rfl .nil (by decide) rfl rfl (.pure (pure_map fun _ => rfl) (.pure (pure_map fun _ => rfl) .nil)) ⟨.rfl, .rfl, .rfl, .rfl, .rfl, trivial⟩))
   ·intro b34 h2
    exact AW.skip (M26 l22 (Sh.some_eq h2).symm _ (Wk.tr rfl))
  refine AW.block (AW.loopF (σ := Int × (List Int)) (fun n v => spec_liveFrom_L2 N l7 q17 n v.1 v.2 = some o23) (fun (k20, l21) => ⟨64, envL [(0, (ls eRInstr p0)), (1, (i64 p1)), (5, (ow 0 0 l7)), (6, (i64 at6)), (7, (ow 1 0 l21)), (8, (ow 2 0 q17)), (9, (i64 k20))], [(ro 0 27 1 (eS eI) l7), (ro 0 3 1 eI l21), (ro 0 3 1 eI q17)]⟩) N (0, []) h2 (Wk.tr rfl) (fun _ hv => by rw [spec_liveFrom_L2] at hv; cases hv) ?_)
  rintro n ⟨k20, l21⟩ h2
  try dsimp only at h2 ⊢
  rw [spec_liveFrom_L2] at h2
  refine AW.seq fun K36 hK36 => sr rfl fun K37 hK37 => zm tb 2 rfl (zz (i64 (Sh.len q17)) (aq_leno sl27 rfl rfl rfl) rfl (zq tb rfl (dn hK37 rfl ?_)))
  refine ci h2 rfl ?_ ?_ <;> clear h2
  ·intro b38 h2
   refine AW.skip (hK36 _ (AW.seq fun K39 hK39 => AW.block (AW.regionO rfl (zm tb 4 rfl (bs h2 fun c40 gc40 h2 => zz (.ptr 2 0 (Int.toNat k20) 0) (aq_ixo ei27 rfl rfl rfl rfl gc40) rfl (zz (i64 c40) (aq_ldp ti3 rfl rfl (map_get gc40) rfl) rfl (bs h2 fun c41 gc41 h2 => zz (.ptr 0 0 (Int.toNat c40) 0) (aq_ixo ei47 rfl rfl rfl rfl gc41) rfl (zz (ls eI c41) (aq_ldp ti27 rfl rfl (map_get gc41) rfl) rfl (AO.weaken (Wk.frz (L := [(0, (ls eRInstr p0)), (1, (i64 p1)), (5, (ow 0 0 l7)), (6, (i64 at6)), (8, (ow 2 0 q17)), (9, (i64 k20)), (31, (ls eI l21)), (38, (ls eI c41))]) (st' := [(ro 0 27 1 (eS eI) l7), ⟨1, 3, 1, []⟩, (ro 0 3 1 eI q17)]) (id := 1) rfl (show 0 ≤ 1 by decide) (pure_map fun _ => rfl) ⟨.rfl, .rfl, .rfl, .rfl, .rfl, .rfl, (.frz rfl), .rfl, trivial⟩ rfl) ?_)))))))))
   refine bs h2 fun q42 gq42 h2 => ao_call (v' := (ow 3 0 q42)) (st' := [(ro 0 27 1 (eS eI) l7), ⟨1, 3, 1, []⟩, (ro 0 3 1 eI q17), (ro 0 3 1 eI q42)]) go0 hb33 (spec_union_ok gq42) rfl rfl ⟨(pure_map' fun _ => rfl), trivial⟩ rfl rfl (zq tb rfl (dn hK39 rfl (AW.regionO rfl (zm tb 3 rfl ?_))))
   exact AO.done (xi (Sh.w (k20 + 1), q42) h2 (Wk.permk (L := [(0, (ls eRInstr p0)), (1, (i64 p1)), (5, (ow 0 0 l7)), (6, (i64 at6)), (7, (ow 1 0 q42)), (8, (ow 2 0 q17)), (9, (i64 (Sh.w (k20 + 1))))]) (st' := [(ro 0 27 1 (eS eI) l7), (ro 0 3 1 eI q42), (ro 0 3 1 eI q17)]) (st1 := [(ro 0 27 1 (eS eI) l7), (ro 0 3 1 eI q42), (ro 0 3 1 eI q17)]) [0, 3, 2] rfl .nil (by decide) rfl rfl (.pure (pure_map fun _ => rfl) (.pure (pure_map fun _ => rfl) (.pure (pure_map fun _ => rfl) .nil))) ⟨.rfl, .rfl, .rfl, .rfl, .rfl, .rfl, .rfl, trivial⟩))
  ·intro b38 h2
   exact AW.exit (M23 l21 (Sh.some_eq h2).symm _ (Wk.permk (L := [(0, (ls eRInstr p0)), (1, (i64 p1)), (5, (ow 0 0 l7)), (6, (i64 at6)), (7, (ow 1 0 l21))]) (st' := [(ro 0 27 1 (eS eI) l7), (ro 0 3 1 eI l21)]) (st1 := [(ro 0 27 1 (eS eI) l7), (ro 0 3 1 eI l21)]) [0, 1] rfl .nil (by decide) rfl rfl (.pure (pure_map fun _ => rfl) (.pure (pure_map fun _ => rfl) .nil)) ⟨.rfl, .rfl, .rfl, .rfl, .rfl, trivial⟩))
 ·intro b13 h1
  exact AW.exit (M9 l7 (Sh.some_eq h1).symm _ (Wk.tr rfl))
theorem spec_LiveRegs_ok {N : Nat} {p0 : RImage} {p1 : Int} {p2 : Int} {r : (List Int)} (h0 : spec_LiveRegs N p0 p1 p2 = some r) : ACalls Try.prog 5 [(.agg (eRImage p0)), (i64 p1), (i64 p2)] [] (fun v st => v = (ow 0 0 r) ∧ st = [(ro 0 3 1 eI r)]) := by
 unfold spec_LiveRegs at h0
 refine ai Try.func5 rfl rfl rfl rfl (sr rfl fun K1 hK1 => ao_box (m := 0) (st' := [⟨0, 32, 2, [(eRImage p0)]⟩]) go0 rfl rfl rfl rfl rfl (zq tb rfl (dn hK1 rfl (AW.seq fun K2 hK2 => AW.seq fun K3 hK3 => bs h0 fun o5 h1 h0 => ?_))))
 have M5 : ∀ (t4 : Bool), o5 = t4 → ∀ s, Wk 0 s ⟨44, envL [(1, (i64 p1)), (2, (i64 p2)), (3, (.ptr 0 0 0 0)), (31, (.bool t4))], [⟨0, 32, 2, [(eRImage p0)]⟩]⟩ → K3 s := by
  intro t4 hq s hw
  subst o5
  try dsimp only at h0
  refine hK3 _ (AW.weaken hw ?_)
  refine ci h0 rfl ?_ ?_ <;> clear h0
  ·intro b6 h0
   refine zr tb rfl rfl ?_
   replace h0 := Sh.some_eq h0
   subst r
   exact AW.ret (Exists.intro _ (And.intro ((((Wk.adopt (t := 6) rfl 3 (size := 1) (by decide)).trans (Wk.to (L := [(6, (.own 1 0 (List.length ([] : List Int))))]) ⟨.rfl, trivial⟩)).trans (Wk.permk (L := [(6, (.own 0 0 (List.length ([] : List Int))))]) (st' := [(ro 0 3 1 eI ([] : List Int))]) (st1 := [(ro 0 3 1 eI ([] : List Int))]) [1] rfl .nil (by decide) rfl rfl (.pure (pure_map fun _ => rfl) .nil) ⟨.rfl, trivial⟩)).trans (Wk.to (L := [(6, (.own 0 0 (List.length ([] : List Int))))]) ⟨.rfl, trivial⟩)) (And.intro rfl rfl)))
  ·intro b6 h0
   refine AW.skip (hK2 _ (sr rfl fun K8 hK8 => zm tb 3 rfl (bs h0 fun c9 gc9 h0 => zx ei30 gc9 rfl rfl rfl (zm tb 3 rfl (bs h0 fun q10 gq10 h0 => ao_call (v' := (ow 1 0 q10)) (st' := [⟨0, 32, 2, [(eRImage p0)]⟩, (ro 0 27 1 (eS eI) q10)]) go0 hb18 (spec_liveFrom_ok gq10) rfl rfl ⟨(pure_map' fun _ => rfl), trivial⟩ rfl rfl (zq tb rfl (bs h0 fun c11 gc11 h0 => zz (.ptr 1 0 (Int.toNat p2) 0) (aq_ixo ei47 rfl rfl rfl rfl gc11) rfl (zz (ls eI c11) (aq_ldp ti27 rfl rfl (map_get gc11) rfl) rfl ?_))))))))
   refine bs h0 fun q12 gq12 h0 => ao_call (v' := (ow 2 0 q12)) (st' := [⟨0, 32, 2, [(eRImage p0)]⟩, (ro 0 27 1 (eS eI) q10), (ro 0 3 1 eI q12)]) go0 hb17 (spec_copyInts_ok gq12) rfl rfl ⟨(pure_map' fun _ => rfl), trivial⟩ rfl rfl (zq tb rfl (dn hK8 rfl ?_))
   replace h0 := Sh.some_eq h0
   subst r
   exact AW.ret (xr (Wk.permk (L := [(6, (ow 0 0 q12))]) (st' := [(ro 0 3 1 eI q12)]) (st1 := [(ro 0 3 1 eI q12)]) [2] rfl .nil (by decide) rfl rfl (.pure (pure_map fun _ => rfl) .nil) ⟨.rfl, trivial⟩))
 refine AW.regionO rfl (zq tb rfl (bs h1 fun q13 gq13 h1 => zc hb15 (spec_validImage_ok gq13) rfl rfl rfl (zm tb 2 rfl ?_)))
 rcases Sh.ite_some h1 with ⟨b14, h1⟩ | ⟨b14, h1⟩
 ·refine zs b14 rfl ?_
  iterate 6 refine zs b14 rfl ?_
  refine zt b14 rfl (zq tb rfl ?_)
  iterate 11 refine zs rfl rfl ?_
  exact zt rfl rfl (AO.done (M5 true (Sh.some_eq h1).symm _ (Wk.tr rfl)))
 ·refine zg tb b14 rfl (zg tb b14 rfl (zg tb b14 rfl (ao_q (v := (i64 (Sh.len p0.procs))) (go1 rfl rfl b14) rfl (aq_lens sl30 rfl) (zg tb b14 rfl (bs h1 fun q15 gq15 h1 => zd b14 hb16 (spec_inRange_ok gq15) rfl rfl rfl rfl (zg tb b14 rfl (zf b14 rfl (zq tb rfl ?_))))))))
  rcases Sh.ite_some h1 with ⟨b16, h1⟩ | ⟨b16, h1⟩
  ·refine zs b16 rfl ?_
   iterate 10 refine zs b16 rfl ?_
   exact zt b16 rfl (AO.done (M5 true (Sh.some_eq h1).symm _ (Wk.tr rfl)))
  ·refine zg tb b16 rfl ?_
   iterate 3 refine zg tb b16 rfl ?_
   exact bs h1 fun c17 gc17 h1 => ao_q (v := (.iptr (eRProc c17) 0)) (go1 rfl rfl b16) rfl (aq_ixs ei30 rfl rfl gc17 rfl) (zg tb b16 rfl (zg tb b16 rfl (ao_q (v := (i64 (Sh.len c17.code))) (go1 rfl rfl b16) rfl (aq_lens sl43 rfl) (zg tb b16 rfl (bs h1 fun q18 gq18 h1 => zd b16 hb16 (spec_inRange_ok gq18) rfl rfl rfl rfl (zg tb b16 rfl (zf b16 rfl (AO.done (M5 (!q18) (Sh.some_eq h1).symm _ (Wk.tr rfl))))))))))
theorem laws_toCon_2_ok {N : Nat} {p0 : RCon} {r : RCon} (h0 : laws_toCon N p0 = some r) : ACalls Try.prog 76 [(.agg (eRCon p0))] [] (fun v st => v = (.agg [(ow 0 0 r.fields)]) ∧ st = [(ro 0 3 1 eI r.fields)]) := by
 unfold laws_toCon at h0
 refine ACalls.wk (r0 := (.agg [(ow 0 0 r.fields)])) (st0 := [(ro 0 3 1 eI r.fields), ⟨0, 117, 1, [[(ow 0 0 r.fields)]]⟩]) ?_ (Wk.sel (L := [(0, (.agg [(ow 0 0 r.fields)]))]) (st' := [(ro 0 3 1 eI r.fields)]) [0] rfl (by decide) rfl rfl (.pure (pure_map fun _ => rfl) trivial) ⟨.rfl, trivial⟩)
 refine ai Try.func76 rfl rfl rfl rfl (sr rfl fun K1 hK1 => ao_box (m := 0) (st' := [⟨0, 119, 1, [(eRCon p0)]⟩]) go0 rfl rfl rfl rfl rfl (ao_alloc (m := 1) (st' := [⟨0, 119, 1, [(eRCon p0)]⟩, ⟨0, 117, 1, [[.zc]]⟩]) go0 zi117 rfl rfl (dn hK1 rfl (sr rfl fun K2 hK2 => ao_alloc (m := 2) (st' := [⟨0, 119, 1, [(eRCon p0)]⟩, ⟨0, 117, 1, [[.zc]]⟩, ⟨0, 117, 1, [[.zc]]⟩]) go0 zi117 rfl rfl (dn hK2 rfl (sr rfl fun K3 hK3 => zm tb 2 rfl (bs h0 fun q4 gq4 h0 => ao_call (v' := (ow 3 0 q4)) (st' := [⟨0, 119, 1, [(eRCon p0)]⟩, ⟨0, 117, 1, [[.zc]]⟩, ⟨0, 117, 1, [[.zc]]⟩, (ro 0 3 1 eI q4)]) go0 hb58 (laws_toIntS_ok gq4) rfl rfl ⟨(pure_map' fun _ => rfl), trivial⟩ rfl rfl ?_)))))))
 refine zq tb rfl (ao_str (st' := [⟨0, 119, 1, [(eRCon p0)]⟩, ⟨0, 117, 1, [[.zc]]⟩, ⟨0, 117, 1, [[(ow 3 0 q4)]]⟩, (ro 0 3 1 eI q4)]) go0 ti27 rfl rfl rfl rfl rfl rfl (show 0 + 1 ≤ 1 by decide) rfl (dn hK3 rfl (sr rfl fun K5 hK5 => zq tb rfl (ao_str (st' := [⟨0, 119, 1, [(eRCon p0)]⟩, ⟨0, 117, 1, [[(ow 3 0 q4)]]⟩, ⟨0, 117, 1, [[(ow 3 0 q4)]]⟩, (ro 0 3 1 eI q4)]) go0 ti117 rfl rfl rfl rfl rfl rfl (show 0 + 1 ≤ 1 by decide) rfl (dn hK5 rfl ?_)))))
 replace h0 := Sh.some_eq h0
 subst r
 exact AW.ret (Exists.intro _ (And.intro ((Wk.permk (L := [(2, (.ptr 1 0 0 0))]) (st' := [(ro 0 3 1 eI q4), ⟨0, 117, 1, [[(ow 0 0 q4)]]⟩]) (st1 := [(ro 0 3 1 eI q4), ⟨0, 117, 1, [[(ow 3 0 q4)]]⟩]) [3, 1] rfl .nil (by decide) rfl rfl (.pure (pure_map fun _ => rfl) (.raw rfl rfl .nil)) ⟨.rfl, trivial⟩).trans (Wk.to (L := [(2, (.ptr 1 0 0 0))]) ⟨.rfl, trivial⟩)) (aq_ldpa (x := .tmp 2) (off := 0) (cs := [(ow 0 0 q4)]) (vs := [(ow 0 0 q4)]) ti117 rfl rfl rfl (show 0 + 1 ≤ 1 by decide) rfl _ ⟨rfl, rfl⟩)))
end Go.Proofs.Ytobjlimoekffaaa

