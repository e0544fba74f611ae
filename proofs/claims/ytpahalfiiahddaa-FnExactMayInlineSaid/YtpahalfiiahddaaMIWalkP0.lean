import Derived.Test.YtpahalfiiahddaaProg
import Derived.Test.YtpahalfiiahddaaGHADefsToMIDefs
import Derived.Test.YtpahalfiiahddaaAbsQ
namespace Go.Proofs.Ytpahalfiiahddaa
open Go Go.Abs RC
attribute [local irreducible] Go.Abs.dops
set_option maxRecDepth 100000
set_option maxHeartbeats 4000000

def tb : Tab Try.prog where
 t := [(128, true, 1), (130, true, 1), (22, false, 1), (23, false, 1), (25, true, 2), (28, false, 1), (29, false, 1), (3, false, 1), (31, true, 2), (4, false, 1), (40, false, 1), (48, false, 1), (50, true, 3), (52, true, 5), (60, false, 1), (68, false, 1), (70, true, 3), (72, false, 1), (74, true, 3), (76, true, 5), (78, false, 1), (80, true, 3), (91, false, 1), (93, true, 3), (97, true, 2)]
 f := [(128, 0, 0), (130, 0, 0), (25, 0, 0), (25, 1, 1), (31, 0, 0), (31, 1, 1), (50, 0, 0), (50, 1, 1), (50, 2, 2), (52, 0, 0), (52, 1, 1), (52, 2, 2), (70, 0, 0), (70, 1, 1), (70, 2, 2), (74, 0, 0), (74, 1, 1), (74, 2, 2), (76, 0, 0), (76, 1, 1), (76, 2, 2), (80, 0, 0), (80, 1, 1), (80, 2, 2), (93, 0, 0), (93, 1, 1), (93, 2, 2), (97, 0, 0), (97, 1, 1)]
 v := []
 b := [4]
 s := [123, 22, 23, 28, 29, 40, 48, 60, 68, 72, 78, 91]
 ht := by kernel_rfl
 hf := by kernel_rfl
 hv := by kernel_rfl
 hb := by kernel_rfl
 hs := by kernel_rfl

theorem ei22 : einfo Try.prog 22 = some ⟨70, 3, 40, [.int .i64 0, .int .i64 0, .sl []]⟩ := by kernel_rfl
theorem ei23 : einfo Try.prog 23 = some ⟨76, 5, 72, [.sl [], .int .i64 0, .int .i64 0, .int .i64 0, .sl []]⟩ := by kernel_rfl
theorem ei28 : einfo Try.prog 28 = some ⟨80, 3, 40, [.int .i64 0, .int .i64 0, .sl []]⟩ := by kernel_rfl
theorem ei29 : einfo Try.prog 29 = some ⟨52, 5, 72, [.sl [], .int .i64 0, .int .i64 0, .int .i64 0, .sl []]⟩ := by kernel_rfl
theorem ei40 : einfo Try.prog 40 = some ⟨3, 1, 8, [.int .i64 0]⟩ := by kernel_rfl
theorem ei48 : einfo Try.prog 48 = some ⟨50, 3, 40, [.int .i64 0, .int .i64 0, .sl []]⟩ := by kernel_rfl
theorem ei68 : einfo Try.prog 68 = some ⟨128, 1, 24, [.sl []]⟩ := by kernel_rfl
theorem ei72 : einfo Try.prog 72 = some ⟨74, 3, 40, [.int .i64 0, .int .i64 0, .sl []]⟩ := by kernel_rfl
theorem ei78 : einfo Try.prog 78 = some ⟨130, 1, 24, [.sl []]⟩ := by kernel_rfl
theorem hb100 : hasBody Try.prog 100 = true := by kernel_rfl
theorem hb101 : hasBody Try.prog 101 = true := by kernel_rfl
theorem hb102 : hasBody Try.prog 102 = true := by kernel_rfl
theorem hb103 : hasBody Try.prog 103 = true := by kernel_rfl
theorem hb104 : hasBody Try.prog 104 = true := by kernel_rfl
theorem hb20 : hasBody Try.prog 20 = true := by kernel_rfl
theorem hb21 : hasBody Try.prog 21 = true := by kernel_rfl
theorem hb22 : hasBody Try.prog 22 = true := by kernel_rfl
theorem hb23 : hasBody Try.prog 23 = true := by kernel_rfl
theorem hb25 : hasBody Try.prog 25 = true := by kernel_rfl
theorem hb26 : hasBody Try.prog 26 = true := by kernel_rfl
theorem hb31 : hasBody Try.prog 31 = true := by kernel_rfl
theorem hb40 : hasBody Try.prog 40 = true := by kernel_rfl
theorem hb41 : hasBody Try.prog 41 = true := by kernel_rfl
theorem hb42 : hasBody Try.prog 42 = true := by kernel_rfl
theorem hb43 : hasBody Try.prog 43 = true := by kernel_rfl
theorem hb44 : hasBody Try.prog 44 = true := by kernel_rfl
theorem hb45 : hasBody Try.prog 45 = true := by kernel_rfl
theorem hb46 : hasBody Try.prog 46 = true := by kernel_rfl
theorem hb49 : hasBody Try.prog 49 = true := by kernel_rfl
theorem hb50 : hasBody Try.prog 50 = true := by kernel_rfl
theorem hb51 : hasBody Try.prog 51 = true := by kernel_rfl
theorem hb63 : hasBody Try.prog 63 = true := by kernel_rfl
theorem hb64 : hasBody Try.prog 64 = true := by kernel_rfl
theorem hb65 : hasBody Try.prog 65 = true := by kernel_rfl
theorem hb66 : hasBody Try.prog 66 = true := by kernel_rfl
theorem hb67 : hasBody Try.prog 67 = true := by kernel_rfl
theorem hb68 : hasBody Try.prog 68 = true := by kernel_rfl
theorem hb69 : hasBody Try.prog 69 = true := by kernel_rfl
theorem hb70 : hasBody Try.prog 70 = true := by kernel_rfl
theorem hb71 : hasBody Try.prog 71 = true := by kernel_rfl
theorem hb72 : hasBody Try.prog 72 = true := by kernel_rfl
theorem hb73 : hasBody Try.prog 73 = true := by kernel_rfl
theorem hb74 : hasBody Try.prog 74 = true := by kernel_rfl
theorem hb75 : hasBody Try.prog 75 = true := by kernel_rfl
theorem hb76 : hasBody Try.prog 76 = true := by kernel_rfl
theorem hb77 : hasBody Try.prog 77 = true := by kernel_rfl
theorem hb78 : hasBody Try.prog 78 = true := by kernel_rfl
theorem hb79 : hasBody Try.prog 79 = true := by kernel_rfl
theorem hb83 : hasBody Try.prog 83 = true := by kernel_rfl
theorem hb90 : hasBody Try.prog 90 = true := by kernel_rfl
theorem hb96 : hasBody Try.prog 96 = true := by kernel_rfl
theorem hb97 : hasBody Try.prog 97 = true := by kernel_rfl
theorem hb98 : hasBody Try.prog 98 = true := by kernel_rfl
theorem hb99 : hasBody Try.prog 99 = true := by kernel_rfl
theorem sl28 : isSliceT Try.prog 28 = true := by kernel_rfl
theorem sl29 : isSliceT Try.prog 29 = true := by kernel_rfl
theorem sl40 : isSliceT Try.prog 40 = true := by kernel_rfl
theorem sl48 : isSliceT Try.prog 48 = true := by kernel_rfl
theorem sl78 : isSliceT Try.prog 78 = true := by kernel_rfl
theorem ti130 : tinfo Try.prog 130 = some (true, 1) := by kernel_rfl
theorem ti28 : tinfo Try.prog 28 = some (false, 1) := by kernel_rfl
theorem ti29 : tinfo Try.prog 29 = some (false, 1) := by kernel_rfl
theorem ti3 : tinfo Try.prog 3 = some (false, 1) := by kernel_rfl
theorem ti31 : tinfo Try.prog 31 = some (true, 2) := by kernel_rfl
theorem ti40 : tinfo Try.prog 40 = some (false, 1) := by kernel_rfl
theorem ti48 : tinfo Try.prog 48 = some (false, 1) := by kernel_rfl
theorem ti50 : tinfo Try.prog 50 = some (true, 3) := by kernel_rfl
theorem ti52 : tinfo Try.prog 52 = some (true, 5) := by kernel_rfl
theorem ti78 : tinfo Try.prog 78 = some (false, 1) := by kernel_rfl
theorem ti80 : tinfo Try.prog 80 = some (true, 3) := by kernel_rfl
theorem zi130 : zinfo Try.prog 130 = some [.zc] := by kernel_rfl
theorem zi31 : zinfo Try.prog 31 = some [.zc, .zc] := by kernel_rfl
theorem zi50 : zinfo Try.prog 50 = some [.int .i64 0, .int .i64 0, .zc] := by kernel_rfl
theorem zi52 : zinfo Try.prog 52 = some [.zc, .int .i64 0, .int .i64 0, .int .i64 0, .zc] := by kernel_rfl
theorem zi80 : zinfo Try.prog 80 = some [.int .i64 0, .int .i64 0, .zc] := by kernel_rfl

theorem laws_szIntS_ok {p0 : (List Int)} {p1 : Int} {r : Int} (h0 : laws_szIntS p0 p1 = some r) : ACalls Try.prog 64 [(ls eI p0), (i64 p1)] [] (fun v st => v = (i64 r) ∧ st = []) := by
 unfold laws_szIntS at h0
 refine ai Try.func64 rfl rfl rfl rfl ?_
 refine zr tb rfl rfl ?_
 refine sr rfl fun K2 hK2 => ?_
 refine zm tb 2 rfl ?_
 refine zl tb rfl rfl ?_
 refine zm tb 2 rfl ?_
 refine dn hK2 rfl ?_
 refine AW.seq fun K3 hK3 => ?_
 refine zr tb rfl rfl ?_
 refine ci h0 rfl ?_ ?_ <;> clear h0
 ·intro b5 h0
  refine zr tb rfl rfl ?_
  replace h0 := Sh.some_eq h0
  subst r
  exact AW.ret (xr (Wk.to (L := [(4, (i64 (-1)))]) ⟨.rfl, trivial⟩))
 ·intro b5 h0
  refine AW.skip (hK3 _ ?_)
  refine zr tb rfl rfl ?_
  replace h0 := Sh.some_eq h0
  subst r
  exact AW.ret (xr (Wk.to (L := [(4, (i64 (Sh.w (p1 - (Sh.len p0)))))]) ⟨.rfl, trivial⟩))
theorem laws_szCon_ok {p0 : RCon} {p1 : Int} {r : Int} (h0 : laws_szCon p0 p1 = some r) : ACalls Try.prog 96 [(.agg (eRCon p0)), (i64 p1)] [] (fun v st => v = (i64 r) ∧ st = []) := by
 unfold laws_szCon at h0
 refine ai Try.func96 rfl rfl rfl rfl ?_
 refine sr rfl fun K1 hK1 => ?_
 refine ao_box (m := 0) (st' := [⟨0, 128, 1, [(eRCon p0)]⟩]) go0 rfl rfl rfl rfl rfl ?_
 refine zq tb rfl ?_
 refine dn hK1 rfl ?_
 refine sr rfl fun K2 hK2 => ?_
 refine zm tb 3 rfl ?_
 obtain ⟨q3, gq3, h0⟩ := Sh.bind_some h0
 refine zc hb64 (laws_szIntS_ok gq3) rfl rfl rfl ?_
 refine zq tb rfl ?_
 refine dn hK2 rfl ?_
 refine AW.seq fun K4 hK4 => ?_
 refine zr tb rfl rfl ?_
 refine ci h0 rfl ?_ ?_ <;> clear h0
 ·intro b6 h0
  refine zr tb rfl rfl ?_
  replace h0 := Sh.some_eq h0
  subst r
  exact AW.ret (xr (Wk.d0 [(4, (i64 (-1)))] rfl))
 ·intro b6 h0
  refine AW.skip (hK4 _ ?_)
  refine zr tb rfl rfl ?_
  replace h0 := Sh.some_eq h0
  subst r
  exact AW.ret (xr (Wk.d0 [(4, (i64 q3))] rfl))
theorem laws_szConS_ok {N : Nat} {p0 : (List RCon)} {p1 : Int} {r : Int} (h0 : laws_szConS N p0 p1 = some r) : ACalls Try.prog 63 [(ls eRCon p0), (i64 p1)] [] (fun v st => v = (i64 r) ∧ st = []) := by
 unfold laws_szConS at h0
 refine ai Try.func63 rfl rfl rfl rfl ?_
 refine zr tb rfl rfl ?_
 refine sr rfl fun K2 hK2 => ?_
 refine zm tb 2 rfl ?_
 refine zl tb rfl rfl ?_
 refine zm tb 2 rfl ?_
 refine dn hK2 rfl ?_
 refine AW.seq fun K3 hK3 => ?_
 refine zr tb rfl rfl ?_
 refine ci h0 rfl ?_ ?_ <;> clear h0
 ·intro b5 h0
  refine zr tb rfl rfl ?_
  replace h0 := Sh.some_eq h0
  subst r
  exact AW.ret (xr (Wk.to (L := [(4, (i64 (-1)))]) ⟨.rfl, trivial⟩))
 ·intro b5 h0
  refine AW.skip (hK3 _ ?_)
  refine AW.seq fun K7 hK7 => ?_
  refine zr tb rfl rfl ?_
  obtain ⟨o12, h1, h0⟩ := Sh.cont_some h0
  have M12 : ∀ (left11 : Int), o12 = Sum.inr left11 → ∀ s, Wk 0 s ⟨27, envL [(1, (i64 left11))], []⟩ → K7 s := by
   intro left11 hq s hw
   subst o12
   try dsimp only at h0
   refine hK7 _ (AW.weaken hw ?_)
   refine zr tb rfl rfl ?_
   replace h0 := Sh.some_eq h0
   subst r
   exact AW.ret (xr (Wk.to (L := [(4, (i64 left11))]) ⟨.rfl, trivial⟩))
  refine AW.block (AW.loopF (σ := Int × Int) (fun n v => laws_szConS_L1 p0 n v.1 v.2 = some o12) (fun (left9, i10) => ⟨27, envL [(0, (ls eRCon p0)), (1, (i64 left9)), (5, (i64 i10))], []⟩) N (Sh.w (p1 - (Sh.len p0)), 0) h1 (Wk.tr rfl) (fun _ hv => by rw [laws_szConS_L1] at hv; cases hv) ?_)
  rintro n ⟨left9, i10⟩ h1
  try dsimp only at h1 ⊢
  rw [laws_szConS_L1] at h1
  refine AW.seq fun K14 hK14 => ?_
  refine sr rfl fun K15 hK15 => ?_
  refine zm tb 2 rfl ?_
  refine zl tb rfl rfl ?_
  refine zq tb rfl ?_
  refine dn hK15 rfl ?_
  refine ci h1 rfl ?_ ?_ <;> clear h1
  ·intro b16 h1
   refine AW.skip (hK14 _ ?_)
   refine AW.seq fun K17 hK17 => ?_
   refine AW.block ?_
   refine sr rfl fun K18 hK18 => ?_
   refine zm tb 2 rfl ?_
   obtain ⟨c19, gc19, h1⟩ := Sh.bind_some h1
   refine zx ei68 gc19 rfl rfl rfl ?_
   refine zm tb 2 rfl ?_
   obtain ⟨q20, gq20, h1⟩ := Sh.bind_some h1
   refine zc hb96 (laws_szCon_ok gq20) rfl rfl rfl ?_
   refine zq tb rfl ?_
   refine dn hK18 rfl ?_
   refine zr tb rfl rfl ?_
   refine ci h1 rfl ?_ ?_ <;> clear h1
   ·intro b22 h1
    refine zr tb rfl rfl ?_
    replace h1 := Sh.some_eq h1
    subst o12
    try dsimp only [id] at h0
    replace h0 := Sh.some_eq h0
    subst r
    exact AW.ret (xr (Wk.to (L := [(4, (i64 (-1)))]) ⟨.rfl, trivial⟩))
   ·intro b22 h1
    refine AW.skip (hK17 _ ?_)
    refine AW.regionO (by rfl) ?_
    refine zm tb 3 rfl ?_
    exact AO.done (xi (q20, Sh.w (i10 + 1)) h1 (Wk.tr rfl))
  ·intro b16 h1
   exact AW.exit (M12 left9 (Sh.some_eq h1).symm _ (Wk.tr rfl))
theorem laws_szDecl_ok {N : Nat} {p0 : RDecl} {p1 : Int} {r : Int} (h0 : laws_szDecl N p0 p1 = some r) : ACalls Try.prog 40 [(.agg (eRDecl p0)), (i64 p1)] [] (fun v st => v = (i64 r) ∧ st = []) := by
 unfold laws_szDecl at h0
 refine ai Try.func40 rfl rfl rfl rfl ?_
 refine sr rfl fun K1 hK1 => ?_
 refine ao_box (m := 0) (st' := [⟨0, 70, 3, [(eRDecl p0)]⟩]) go0 rfl rfl rfl rfl rfl ?_
 refine zq tb rfl ?_
 refine dn hK1 rfl ?_
 refine sr rfl fun K2 hK2 => ?_
 refine zm tb 3 rfl ?_
 obtain ⟨q3, gq3, h0⟩ := Sh.bind_some h0
 refine zc hb63 (laws_szConS_ok gq3) rfl rfl rfl ?_
 refine zq tb rfl ?_
 refine dn hK2 rfl ?_
 refine AW.seq fun K4 hK4 => ?_
 refine zr tb rfl rfl ?_
 refine ci h0 rfl ?_ ?_ <;> clear h0
 ·intro b6 h0
  refine zr tb rfl rfl ?_
  replace h0 := Sh.some_eq h0
  subst r
  exact AW.ret (xr (Wk.d0 [(4, (i64 (-1)))] rfl))
 ·intro b6 h0
  refine AW.skip (hK4 _ ?_)
  refine zr tb rfl rfl ?_
  replace h0 := Sh.some_eq h0
  subst r
  exact AW.ret (xr (Wk.d0 [(4, (i64 q3))] rfl))
theorem laws_szDeclS_ok {N : Nat} {p0 : (List RDecl)} {p1 : Int} {r : Int} (h0 : laws_szDeclS N p0 p1 = some r) : ACalls Try.prog 20 [(ls eRDecl p0), (i64 p1)] [] (fun v st => v = (i64 r) ∧ st = []) := by
 unfold laws_szDeclS at h0
 refine ai Try.func20 rfl rfl rfl rfl ?_
 refine zr tb rfl rfl ?_
 refine sr rfl fun K2 hK2 => ?_
 refine zm tb 2 rfl ?_
 refine zl tb rfl rfl ?_
 refine zm tb 2 rfl ?_
 refine dn hK2 rfl ?_
 refine AW.seq fun K3 hK3 => ?_
 refine zr tb rfl rfl ?_
 refine ci h0 rfl ?_ ?_ <;> clear h0
 ·intro b5 h0
  refine zr tb rfl rfl ?_
  replace h0 := Sh.some_eq h0
  subst r
  exact AW.ret (xr (Wk.to (L := [(4, (i64 (-1)))]) ⟨.rfl, trivial⟩))
 ·intro b5 h0
  refine AW.skip (hK3 _ ?_)
  refine AW.seq fun K7 hK7 => ?_
  refine zr tb rfl rfl ?_
  obtain ⟨o12, h1, h0⟩ := Sh.cont_some h0
  have M12 : ∀ (left11 : Int), o12 = Sum.inr left11 → ∀ s, Wk 0 s ⟨27, envL [(1, (i64 left11))], []⟩ → K7 s := by
   intro left11 hq s hw
   subst o12
   try dsimp only at h0
   refine hK7 _ (AW.weaken hw ?_)
   refine zr tb rfl rfl ?_
   replace h0 := Sh.some_eq h0
   subst r
   exact AW.ret (xr (Wk.to (L := [(4, (i64 left11))]) ⟨.rfl, trivial⟩))
  refine AW.block (AW.loopF (σ := Int × Int) (fun n v => laws_szDeclS_L1 N p0 n v.1 v.2 = some o12) (fun (left9, i10) => ⟨27, envL [(0, (ls eRDecl p0)), (1, (i64 left9)), (5, (i64 i10))], []⟩) N (Sh.w (p1 - (Sh.len p0)), 0) h1 (Wk.tr rfl) (fun _ hv => by rw [laws_szDeclS_L1] at hv; cases hv) ?_)
  rintro n ⟨left9, i10⟩ h1
  try dsimp only at h1 ⊢
  rw [laws_szDeclS_L1] at h1
  refine AW.seq fun K14 hK14 => ?_
  refine sr rfl fun K15 hK15 => ?_
  refine zm tb 2 rfl ?_
  refine zl tb rfl rfl ?_
  refine zq tb rfl ?_
  refine dn hK15 rfl ?_
  refine ci h1 rfl ?_ ?_ <;> clear h1
  ·intro b16 h1
   refine AW.skip (hK14 _ ?_)
   refine AW.seq fun K17 hK17 => ?_
   refine AW.block ?_
   refine sr rfl fun K18 hK18 => ?_
   refine zm tb 2 rfl ?_
   obtain ⟨c19, gc19, h1⟩ := Sh.bind_some h1
   refine zx ei22 gc19 rfl rfl rfl ?_
   refine zm tb 2 rfl ?_
   obtain ⟨q20, gq20, h1⟩ := Sh.bind_some h1
   refine zc hb40 (laws_szDecl_ok gq20) rfl rfl rfl ?_
   refine zq tb rfl ?_
   refine dn hK18 rfl ?_
   refine zr tb rfl rfl ?_
   refine ci h1 rfl ?_ ?_ <;> clear h1
   ·intro b22 h1
    refine zr tb rfl rfl ?_
    replace h1 := Sh.some_eq h1
    subst o12
    try dsimp only [id] at h0
    replace h0 := Sh.some_eq h0
    subst r
    exact AW.ret (xr (Wk.to (L := [(4, (i64 (-1)))]) ⟨.rfl, trivial⟩))
   ·intro b22 h1
    refine AW.skip (hK17 _ ?_)
    refine AW.regionO (by rfl) ?_
    refine zm tb 3 rfl ?_
    exact AO.done (xi (q20, Sh.w (i10 + 1)) h1 (Wk.tr rfl))
  ·intro b16 h1
   exact AW.exit (M12 left9 (Sh.some_eq h1).symm _ (Wk.tr rfl))
theorem laws_szExprS_ok {N : Nat} {rec_laws_szExpr : RExpr → Int → Option (Int)} (hrec_laws_szExpr : ∀ {p0 : RExpr} {p1 : Int} {r : Int}, rec_laws_szExpr p0 p1 = some r → ACalls Try.prog 65 [(.agg [(i64 p0.op), (i64 p0.num), (ls eRExpr p0.kids)]), (i64 p1)] [] (fun v st => v = (i64 r) ∧ st = [])) {p0 : (List RExpr)} {p1 : Int} {r : Int} (h0 : laws_szExprS N rec_laws_szExpr p0 p1 = some r) : ACalls Try.prog 97 [(ls eRExpr p0), (i64 p1)] [] (fun v st => v = (i64 r) ∧ st = []) := by
 unfold laws_szExprS at h0
 refine ai Try.func97 rfl rfl rfl rfl ?_
 refine zr tb rfl rfl ?_
 refine sr rfl fun K2 hK2 => ?_
 refine zm tb 2 rfl ?_
 refine zl tb rfl rfl ?_
 refine zm tb 2 rfl ?_
 refine dn hK2 rfl ?_
 refine AW.seq fun K3 hK3 => ?_
 refine zr tb rfl rfl ?_
 refine ci h0 rfl ?_ ?_ <;> clear h0
 ·intro b5 h0
  refine zr tb rfl rfl ?_
  replace h0 := Sh.some_eq h0
  subst r
  exact AW.ret (xr (Wk.to (L := [(4, (i64 (-1)))]) ⟨.rfl, trivial⟩))
 ·intro b5 h0
  refine AW.skip (hK3 _ ?_)
  refine AW.seq fun K7 hK7 => ?_
  refine zr tb rfl rfl ?_
  obtain ⟨o12, h1, h0⟩ := Sh.cont_some h0
  have M12 : ∀ (left11 : Int), o12 = Sum.inr left11 → ∀ s, Wk 0 s ⟨27, envL [(1, (i64 left11))], []⟩ → K7 s := by
   intro left11 hq s hw
   subst o12
   try dsimp only at h0
   refine hK7 _ (AW.weaken hw ?_)
   refine zr tb rfl rfl ?_
   replace h0 := Sh.some_eq h0
   subst r
   exact AW.ret (xr (Wk.to (L := [(4, (i64 left11))]) ⟨.rfl, trivial⟩))
  refine AW.block (AW.loopF (σ := Int × Int) (fun n v => laws_szExprS_L1 p0 rec_laws_szExpr n v.1 v.2 = some o12) (fun (left9, i10) => ⟨27, envL [(0, (ls eRExpr p0)), (1, (i64 left9)), (5, (i64 i10))], []⟩) N (Sh.w (p1 - (Sh.len p0)), 0) h1 (Wk.tr rfl) (fun _ hv => by rw [laws_szExprS_L1] at hv; cases hv) ?_)
  rintro n ⟨left9, i10⟩ h1
  try dsimp only at h1 ⊢
  rw [laws_szExprS_L1] at h1
  refine AW.seq fun K14 hK14 => ?_
  refine sr rfl fun K15 hK15 => ?_
  refine zm tb 2 rfl ?_
  refine zl tb rfl rfl ?_
  refine zq tb rfl ?_
  refine dn hK15 rfl ?_
  refine ci h1 rfl ?_ ?_ <;> clear h1
  ·intro b16 h1
   refine AW.skip (hK14 _ ?_)
   refine AW.seq fun K17 hK17 => ?_
   refine AW.block ?_
   refine sr rfl fun K18 hK18 => ?_
   refine zm tb 2 rfl ?_
   obtain ⟨c19, gc19, h1⟩ := Sh.bind_some h1
   refine zz (.iptr [(i64 c19.op), (i64 c19.num), (ls eRExpr c19.kids)] 0) (aq_ixsE ei72 rfl rfl gc19 (eRExpr_eq _) rfl) rfl ?_
   refine zm tb 2 rfl ?_
   obtain ⟨q20, gq20, h1⟩ := Sh.bind_some h1
   refine zc hb65 (hrec_laws_szExpr gq20) rfl rfl rfl ?_
   refine zq tb rfl ?_
   refine dn hK18 rfl ?_
   refine zr tb rfl rfl ?_
   refine ci h1 rfl ?_ ?_ <;> clear h1
   ·intro b22 h1
    refine zr tb rfl rfl ?_
    replace h1 := Sh.some_eq h1
    subst o12
    try dsimp only [id] at h0
    replace h0 := Sh.some_eq h0
    subst r
    exact AW.ret (xr (Wk.to (L := [(4, (i64 (-1)))]) ⟨.rfl, trivial⟩))
   ·intro b22 h1
    refine AW.skip (hK17 _ ?_)
    refine AW.regionO (by rfl) ?_
    refine zm tb 3 rfl ?_
    exact AO.done (xi (q20, Sh.w (i10 + 1)) h1 (Wk.tr rfl))
  ·intro b16 h1
   exact AW.exit (M12 left9 (Sh.some_eq h1).symm _ (Wk.tr rfl))
theorem laws_szExpr_B_ok {N : Nat} {rec_laws_szExpr : RExpr → Int → Option (Int)} (hrec_laws_szExpr : ∀ {p0 : RExpr} {p1 : Int} {r : Int}, rec_laws_szExpr p0 p1 = some r → ACalls Try.prog 65 [(.agg [(i64 p0.op), (i64 p0.num), (ls eRExpr p0.kids)]), (i64 p1)] [] (fun v st => v = (i64 r) ∧ st = [])) {p0 : RExpr} {p1 : Int} {r : Int} (h0 : laws_szExpr_B N rec_laws_szExpr p0 p1 = some r) : ACalls Try.prog 65 [(.agg [(i64 p0.op), (i64 p0.num), (ls eRExpr p0.kids)]), (i64 p1)] [] (fun v st => v = (i64 r) ∧ st = []) := by
 unfold laws_szExpr_B at h0
 refine ai Try.func65 rfl rfl rfl rfl ?_
 refine sr rfl fun K1 hK1 => ?_
 refine ao_box (m := 0) (st' := [⟨0, 74, 3, [[(i64 p0.op), (i64 p0.num), (ls eRExpr p0.kids)]]⟩]) go0 rfl rfl rfl rfl rfl ?_
 refine zq tb rfl ?_
 refine dn hK1 rfl ?_
 refine sr rfl fun K2 hK2 => ?_
 refine zm tb 3 rfl ?_
 obtain ⟨q3, gq3, h0⟩ := Sh.bind_some h0
 refine zc hb97 (laws_szExprS_ok hrec_laws_szExpr gq3) rfl rfl rfl ?_
 refine zq tb rfl ?_
 refine dn hK2 rfl ?_
 refine AW.seq fun K4 hK4 => ?_
 refine zr tb rfl rfl ?_
 refine ci h0 rfl ?_ ?_ <;> clear h0
 ·intro b6 h0
  refine zr tb rfl rfl ?_
  replace h0 := Sh.some_eq h0
  subst r
  exact AW.ret (xr (Wk.d0 [(4, (i64 (-1)))] rfl))
 ·intro b6 h0
  refine AW.skip (hK4 _ ?_)
  refine zr tb rfl rfl ?_
  replace h0 := Sh.some_eq h0
  subst r
  exact AW.ret (xr (Wk.d0 [(4, (i64 q3))] rfl))

theorem laws_szExpr_F_ok {N : Nat} : ∀ (n : Nat), ∀ {p0 : RExpr} {p1 : Int} {r : Int}, laws_szExpr_F N n p0 p1 = some r → ACalls Try.prog 65 [(.agg [(i64 p0.op), (i64 p0.num), (ls eRExpr p0.kids)]), (i64 p1)] [] (fun v st => v = (i64 r) ∧ st = []) := by
 intro n
 induction n with
 | zero => intro p0 p1 r h0; cases h0
 | succ n ih =>
  intro p0 p1 r h0
  rw [laws_szExpr_F] at h0
  exact laws_szExpr_B_ok (fun h => ih h) h0
theorem laws_szExpr_ok {N : Nat} : ∀ {p0 : RExpr} {p1 : Int} {r : Int}, laws_szExpr N p0 p1 = some r → ACalls Try.prog 65 [(.agg [(i64 p0.op), (i64 p0.num), (ls eRExpr p0.kids)]), (i64 p1)] [] (fun v st => v = (i64 r) ∧ st = []) := by
 intro p0 p1 r h0
 exact laws_szExpr_F_ok N h0
theorem laws_szFunc_ok {N : Nat} {p0 : RFunc} {p1 : Int} {r : Int} (h0 : laws_szFunc N p0 p1 = some r) : ACalls Try.prog 41 [(.agg [(ls eI p0.params), (i64 p0.result), (i64 p0.body.op), (i64 p0.body.num), (ls eRExpr p0.body.kids)]), (i64 p1)] [] (fun v st => v = (i64 r) ∧ st = []) := by
 unfold laws_szFunc at h0
 refine ai Try.func41 rfl rfl rfl rfl ?_
 refine sr rfl fun K1 hK1 => ?_
 refine ao_box (m := 0) (st' := [⟨0, 76, 5, [[(ls eI p0.params), (i64 p0.result), (i64 p0.body.op), (i64 p0.body.num), (ls eRExpr p0.body.kids)]]⟩]) go0 rfl rfl rfl rfl rfl ?_
 refine zq tb rfl ?_
 refine dn hK1 rfl ?_
 refine sr rfl fun K2 hK2 => ?_
 refine zm tb 3 rfl ?_
 obtain ⟨q3, gq3, h0⟩ := Sh.bind_some h0
 refine zc hb64 (laws_szIntS_ok gq3) rfl rfl rfl ?_
 refine zq tb rfl ?_
 refine dn hK2 rfl ?_
 refine AW.seq fun K4 hK4 => ?_
 refine zr tb rfl rfl ?_
 refine ci h0 rfl ?_ ?_ <;> clear h0
 ·intro b6 h0
  refine zr tb rfl rfl ?_
  replace h0 := Sh.some_eq h0
  subst r
  exact AW.ret (xr (Wk.d0 [(4, (i64 (-1)))] rfl))
 ·intro b6 h0
  refine AW.skip (hK4 _ ?_)
  refine sr rfl fun K8 hK8 => ?_
  refine zm tb 3 rfl ?_
  obtain ⟨q9, gq9, h0⟩ := Sh.bind_some h0
  refine zc hb65 (laws_szExpr_ok gq9) rfl rfl rfl ?_
  refine zq tb rfl ?_
  refine dn hK8 rfl ?_
  refine AW.seq fun K10 hK10 => ?_
  refine zr tb rfl rfl ?_
  refine ci h0 rfl ?_ ?_ <;> clear h0
  ·intro b12 h0
   refine zr tb rfl rfl ?_
   replace h0 := Sh.some_eq h0
   subst r
   exact AW.ret (xr (Wk.d0 [(4, (i64 (-1)))] rfl))
  ·intro b12 h0
   refine AW.skip (hK10 _ ?_)
   refine zr tb rfl rfl ?_
   replace h0 := Sh.some_eq h0
   subst r
   exact AW.ret (xr (Wk.d0 [(4, (i64 q9))] rfl))
theorem laws_szFuncS_ok {N : Nat} {p0 : (List RFunc)} {p1 : Int} {r : Int} (h0 : laws_szFuncS N p0 p1 = some r) : ACalls Try.prog 21 [(ls eRFunc p0), (i64 p1)] [] (fun v st => v = (i64 r) ∧ st = []) := by
 unfold laws_szFuncS at h0
 refine ai Try.func21 rfl rfl rfl rfl ?_
 refine zr tb rfl rfl ?_
 refine sr rfl fun K2 hK2 => ?_
 refine zm tb 2 rfl ?_
 refine zl tb rfl rfl ?_
 refine zm tb 2 rfl ?_
 refine dn hK2 rfl ?_
 refine AW.seq fun K3 hK3 => ?_
 refine zr tb rfl rfl ?_
 refine ci h0 rfl ?_ ?_ <;> clear h0
 ·intro b5 h0
  refine zr tb rfl rfl ?_
  replace h0 := Sh.some_eq h0
  subst r
  exact AW.ret (xr (Wk.to (L := [(4, (i64 (-1)))]) ⟨.rfl, trivial⟩))
 ·intro b5 h0
  refine AW.skip (hK3 _ ?_)
  refine AW.seq fun K7 hK7 => ?_
  refine zr tb rfl rfl ?_
  obtain ⟨o12, h1, h0⟩ := Sh.cont_some h0
  have M12 : ∀ (left11 : Int), o12 = Sum.inr left11 → ∀ s, Wk 0 s ⟨27, envL [(1, (i64 left11))], []⟩ → K7 s := by
   intro left11 hq s hw
   subst o12
   try dsimp only at h0
   refine hK7 _ (AW.weaken hw ?_)
   refine zr tb rfl rfl ?_
   replace h0 := Sh.some_eq h0
   subst r
   exact AW.ret (xr (Wk.to (L := [(4, (i64 left11))]) ⟨.rfl, trivial⟩))
  refine AW.block (AW.loopF (σ := Int × Int) (fun n v => laws_szFuncS_L1 N p0 n v.1 v.2 = some o12) (fun (left9, i10) => ⟨27, envL [(0, (ls eRFunc p0)), (1, (i64 left9)), (5, (i64 i10))], []⟩) N (Sh.w (p1 - (Sh.len p0)), 0) h1 (Wk.tr rfl) (fun _ hv => by rw [laws_szFuncS_L1] at hv; cases hv) ?_)
  rintro n ⟨left9, i10⟩ h1
  try dsimp only at h1 ⊢
  rw [laws_szFuncS_L1] at h1
  refine AW.seq fun K14 hK14 => ?_
  refine sr rfl fun K15 hK15 => ?_
  refine zm tb 2 rfl ?_
  refine zl tb rfl rfl ?_
  refine zq tb rfl ?_
  refine dn hK15 rfl ?_
  refine ci h1 rfl ?_ ?_ <;> clear h1
  ·intro b16 h1
   refine AW.skip (hK14 _ ?_)
   refine AW.seq fun K17 hK17 => ?_
   refine AW.block ?_
   refine sr rfl fun K18 hK18 => ?_
   refine zm tb 2 rfl ?_
   obtain ⟨c19, gc19, h1⟩ := Sh.bind_some h1
   refine zx ei23 gc19 rfl rfl rfl ?_
   refine zm tb 2 rfl ?_
   obtain ⟨q20, gq20, h1⟩ := Sh.bind_some h1
   refine zc hb41 (laws_szFunc_ok gq20) rfl rfl rfl ?_
   refine zq tb rfl ?_
   refine dn hK18 rfl ?_
   refine zr tb rfl rfl ?_
   refine ci h1 rfl ?_ ?_ <;> clear h1
   ·intro b22 h1
    refine zr tb rfl rfl ?_
    replace h1 := Sh.some_eq h1
    subst o12
    try dsimp only [id] at h0
    replace h0 := Sh.some_eq h0
    subst r
    exact AW.ret (xr (Wk.to (L := [(4, (i64 (-1)))]) ⟨.rfl, trivial⟩))
   ·intro b22 h1
    refine AW.skip (hK17 _ ?_)
    refine AW.regionO (by rfl) ?_
    refine zm tb 3 rfl ?_
    exact AO.done (xi (q20, Sh.w (i10 + 1)) h1 (Wk.tr rfl))
  ·intro b16 h1
   exact AW.exit (M12 left9 (Sh.some_eq h1).symm _ (Wk.tr rfl))
theorem laws_szProgram_ok {N : Nat} {p0 : RProgram} {p1 : Int} {r : Int} (h0 : laws_szProgram N p0 p1 = some r) : ACalls Try.prog 7 [(.agg [(ls eRDecl p0.decls), (ls eRFunc p0.funcs)]), (i64 p1)] [] (fun v st => v = (i64 r) ∧ st = []) := by
 unfold laws_szProgram at h0
 refine ai Try.func7 rfl rfl rfl rfl ?_
 refine sr rfl fun K1 hK1 => ?_
 refine ao_box (m := 0) (st' := [⟨0, 25, 2, [[(ls eRDecl p0.decls), (ls eRFunc p0.funcs)]]⟩]) go0 rfl rfl rfl rfl rfl ?_
 refine zq tb rfl ?_
 refine dn hK1 rfl ?_
 refine sr rfl fun K2 hK2 => ?_
 refine zm tb 3 rfl ?_
 obtain ⟨q3, gq3, h0⟩ := Sh.bind_some h0
 refine zc hb20 (laws_szDeclS_ok gq3) rfl rfl rfl ?_
 refine zq tb rfl ?_
 refine dn hK2 rfl ?_
 refine AW.seq fun K4 hK4 => ?_
 refine zr tb rfl rfl ?_
 refine ci h0 rfl ?_ ?_ <;> clear h0
 ·intro b6 h0
  refine zr tb rfl rfl ?_
  replace h0 := Sh.some_eq h0
  subst r
  exact AW.ret (xr (Wk.d0 [(4, (i64 (-1)))] rfl))
 ·intro b6 h0
  refine AW.skip (hK4 _ ?_)
  refine sr rfl fun K8 hK8 => ?_
  refine zm tb 3 rfl ?_
  obtain ⟨q9, gq9, h0⟩ := Sh.bind_some h0
  refine zc hb21 (laws_szFuncS_ok gq9) rfl rfl rfl ?_
  refine zq tb rfl ?_
  refine dn hK8 rfl ?_
  refine AW.seq fun K10 hK10 => ?_
  refine zr tb rfl rfl ?_
  refine ci h0 rfl ?_ ?_ <;> clear h0
  ·intro b12 h0
   refine zr tb rfl rfl ?_
   replace h0 := Sh.some_eq h0
   subst r
   exact AW.ret (xr (Wk.d0 [(4, (i64 (-1)))] rfl))
  ·intro b12 h0
   refine AW.skip (hK10 _ ?_)
   refine zr tb rfl rfl ?_
   replace h0 := Sh.some_eq h0
   subst r
   exact AW.ret (xr (Wk.d0 [(4, (i64 q9))] rfl))
theorem laws_toIntS_ok {N : Nat} {p0 : (List Int)} {r : (List Int)} (h0 : laws_toIntS N p0 = some r) : ACalls Try.prog 78 [(ls eI p0)] [] (fun v st => v = (ow 0 0 r) ∧ st = [(ro 0 3 1 eI r)]) := by
 unfold laws_toIntS at h0
 refine ai Try.func78 rfl rfl rfl rfl ?_
 refine zr tb rfl rfl ?_
 refine sr rfl fun K2 hK2 => ?_
 refine zq tb rfl ?_
 refine zl tb rfl rfl ?_
 obtain ⟨l3, gl3, h0⟩ := Sh.bind_some h0
 refine ao_make (m := 0) (st' := [(ro 0 3 1 eI l3)]) (enc := eI) (u := 0) go0 ei40 rfl rfl rfl gl3 rfl rfl ?_
 refine zq tb rfl ?_
 refine dn hK2 rfl ?_
 refine AW.seq fun K4 hK4 => ?_
 refine zr tb rfl rfl ?_
 obtain ⟨o9, h1, h0⟩ := Sh.bind_some h0
 have M9 : ∀ (l8 : (List Int)), o9 = l8 → ∀ s, Wk 0 s ⟨22, envL [(3, (ow 0 0 l8))], [(ro 0 3 1 eI l8)]⟩ → K4 s := by
  intro l8 hq s hw
  subst o9
  try dsimp only at h0
  refine hK4 _ (AW.weaken hw ?_)
  refine zr tb rfl rfl ?_
  replace h0 := Sh.some_eq h0
  subst r
  exact AW.ret (xr (Wk.to (L := [(2, (ow 0 0 l8))]) ⟨.rfl, trivial⟩))
 refine AW.block (AW.loopF (σ := Int × (List Int)) (fun n v => laws_toIntS_L1 p0 n v.1 v.2 = some o9) (fun (i6, l7) => ⟨22, envL [(0, (ls eI p0)), (3, (ow 0 0 l7)), (4, (i64 i6))], [(ro 0 3 1 eI l7)]⟩) N (0, l3) h1 (Wk.tr rfl) (fun _ hv => by rw [laws_toIntS_L1] at hv; cases hv) ?_)
 rintro n ⟨i6, l7⟩ h1
 try dsimp only at h1 ⊢
 rw [laws_toIntS_L1] at h1
 refine AW.seq fun K11 hK11 => ?_
 refine sr rfl fun K12 hK12 => ?_
 refine zm tb 2 rfl ?_
 refine zl tb rfl rfl ?_
 refine zq tb rfl ?_
 refine dn hK12 rfl ?_
 refine ci h1 rfl ?_ ?_ <;> clear h1
 ·intro b13 h1
  refine AW.skip (hK11 _ ?_)
  refine AW.seq fun K14 hK14 => ?_
  refine AW.block ?_
  refine AW.regionO (by rfl) ?_
  refine zm tb 4 rfl ?_
  obtain ⟨c15, gc15, h1⟩ := Sh.bind_some h1
  refine zx ei40 gc15 rfl rfl rfl ?_
  refine zq tb rfl ?_
  obtain ⟨c16, gc16, h1⟩ := Sh.bind_some h1
  refine zz (.ptr 0 0 (Int.toNat i6) 0) (aq_ixo ei40 rfl rfl rfl rfl gc16) rfl ?_
  refine ao_stl (st' := [(ro 0 3 1 eI (Sh.put l7 i6 c15))]) (u' := c15) go0 ti3 rfl rfl gc16 rfl rfl rfl (show 0 + 1 ≤ 1 by decide) rfl rfl ?_
  refine dn hK14 rfl ?_
  refine AW.regionO (by rfl) ?_
  refine zm tb 3 rfl ?_
  exact AO.done (xi (Sh.w (i6 + 1), Sh.put l7 i6 c15) h1 (Wk.to (L := [(0, (.sl (List.map eI p0))), (3, (.own 0 0 (List.length (Sh.put l7 i6 c15)))), (4, (i64 (Sh.w (i6 + 1))))]) ⟨.rfl, (.len (by simp only [Sh.put_len])), .rfl, trivial⟩))
 ·intro b13 h1
  exact AW.exit (M9 l7 (Sh.some_eq h1).symm _ (Wk.tr rfl))
theorem laws_toCon_ok {N : Nat} {p0 : RCon} {r : RCon} (h0 : laws_toCon N p0 = some r) : ACalls Try.prog 103 [(.agg (eRCon p0))] [] (fun v st => v = (.agg (eRCon r)) ∧ st = []) := by
 unfold laws_toCon at h0
 refine ACalls.flat rfl ?_
 refine ai Try.func103 rfl rfl rfl rfl ?_
 refine sr rfl fun K1 hK1 => ?_
 refine ao_box (m := 0) (st' := [⟨0, 128, 1, [(eRCon p0)]⟩]) go0 rfl rfl rfl rfl rfl ?_
 refine ao_alloc (m := 1) (st' := [⟨0, 128, 1, [(eRCon p0)]⟩, ⟨0, 130, 1, [[.zc]]⟩]) go0 zi130 rfl rfl ?_
 refine dn hK1 rfl ?_
 refine sr rfl fun K2 hK2 => ?_
 refine ao_alloc (m := 2) (st' := [⟨0, 128, 1, [(eRCon p0)]⟩, ⟨0, 130, 1, [[.zc]]⟩, ⟨0, 130, 1, [[.zc]]⟩]) go0 zi130 rfl rfl ?_
 refine dn hK2 rfl ?_
 refine sr rfl fun K3 hK3 => ?_
 refine zm tb 2 rfl ?_
 obtain ⟨q4, gq4, h0⟩ := Sh.bind_some h0
 refine ao_call (v' := (ow 3 0 q4)) (st' := [⟨0, 128, 1, [(eRCon p0)]⟩, ⟨0, 130, 1, [[.zc]]⟩, ⟨0, 130, 1, [[.zc]]⟩, (ro 0 3 1 eI q4)]) go0 hb78 (laws_toIntS_ok gq4) rfl rfl ⟨(pure_map' fun _ => rfl), trivial⟩ rfl rfl ?_
 refine zq tb rfl ?_
 refine AO.weaken (Wk.frz (L := [(2, (.ptr 1 0 0 0)), (3, (.ptr 2 0 0 0)), (6, (ls eI q4)), (7, (.ptr 2 0 0 0))]) (st' := [⟨0, 128, 1, [(eRCon p0)]⟩, ⟨0, 130, 1, [[.zc]]⟩, ⟨0, 130, 1, [[.zc]]⟩, ⟨1, 3, 1, []⟩]) (id := 3) rfl (show 0 ≤ 3 by decide) (pure_map fun _ => rfl) ⟨.rfl, .rfl, (.frz rfl), .rfl, trivial⟩ rfl) ?_
 refine ao_str (st' := [⟨0, 128, 1, [(eRCon p0)]⟩, ⟨0, 130, 1, [[.zc]]⟩, ⟨0, 130, 1, [[(ls eI q4)]]⟩, ⟨1, 3, 1, []⟩]) go0 ti40 rfl rfl rfl rfl rfl rfl (show 0 + 1 ≤ 1 by decide) rfl ?_
 refine dn hK3 rfl ?_
 refine sr rfl fun K5 hK5 => ?_
 refine zq tb rfl ?_
 refine ao_str (st' := [⟨0, 128, 1, [(eRCon p0)]⟩, ⟨0, 130, 1, [[(ls eI q4)]]⟩, ⟨0, 130, 1, [[(ls eI q4)]]⟩, ⟨1, 3, 1, []⟩]) go0 ti130 rfl rfl rfl rfl rfl rfl (show 0 + 1 ≤ 1 by decide) rfl ?_
 refine dn hK5 rfl ?_
 replace h0 := Sh.some_eq h0
 subst r
 exact AW.ret (Exists.intro _ (And.intro (Wk.refl _ _) (aq_ldpa (x := .tmp 2) (off := 0) (cs := [(ls eI q4)]) (vs := [(ls eI q4)]) ti130 rfl rfl rfl (show 0 + 1 ≤ 1 by decide) rfl _ rfl)))
theorem laws_toConS_ok {N : Nat} {p0 : (List RCon)} {r : (List RCon)} (h0 : laws_toConS N p0 = some r) : ACalls Try.prog 77 [(ls eRCon p0)] [] (fun v st => v = (ow 0 0 r) ∧ st = [(ro 0 130 1 eRCon r)]) := by
 unfold laws_toConS at h0
 refine ai Try.func77 rfl rfl rfl rfl ?_
 refine zr tb rfl rfl ?_
 refine sr rfl fun K2 hK2 => ?_
 refine zq tb rfl ?_
 refine zl tb rfl rfl ?_
 obtain ⟨l3, gl3, h0⟩ := Sh.bind_some h0
 refine ao_make (m := 0) (st' := [(ro 0 130 1 eRCon l3)]) (enc := eRCon) (u := (RCon.mk [])) go0 ei78 rfl rfl rfl gl3 rfl rfl ?_
 refine zq tb rfl ?_
 refine dn hK2 rfl ?_
 refine AW.seq fun K4 hK4 => ?_
 refine zr tb rfl rfl ?_
 obtain ⟨o9, h1, h0⟩ := Sh.bind_some h0
 have M9 : ∀ (l8 : (List RCon)), o9 = l8 → ∀ s, Wk 0 s ⟨23, envL [(3, (ow 0 0 l8))], [(ro 0 130 1 eRCon l8)]⟩ → K4 s := by
  intro l8 hq s hw
  subst o9
  try dsimp only at h0
  refine hK4 _ (AW.weaken hw ?_)
  refine zr tb rfl rfl ?_
  replace h0 := Sh.some_eq h0
  subst r
  exact AW.ret (xr (Wk.to (L := [(2, (ow 0 0 l8))]) ⟨.rfl, trivial⟩))
 refine AW.block (AW.loopF (σ := Int × (List RCon)) (fun n v => laws_toConS_L1 N p0 n v.1 v.2 = some o9) (fun (i6, l7) => ⟨23, envL [(0, (ls eRCon p0)), (3, (ow 0 0 l7)), (4, (i64 i6))], [(ro 0 130 1 eRCon l7)]⟩) N (0, l3) h1 (Wk.tr rfl) (fun _ hv => by rw [laws_toConS_L1] at hv; cases hv) ?_)
 rintro n ⟨i6, l7⟩ h1
 try dsimp only at h1 ⊢
 rw [laws_toConS_L1] at h1
 refine AW.seq fun K11 hK11 => ?_
 refine sr rfl fun K12 hK12 => ?_
 refine zm tb 2 rfl ?_
 refine zl tb rfl rfl ?_
 refine zq tb rfl ?_
 refine dn hK12 rfl ?_
 refine ci h1 rfl ?_ ?_ <;> clear h1
 ·intro b13 h1
  refine AW.skip (hK11 _ ?_)
  refine AW.seq fun K14 hK14 => ?_
  refine AW.block ?_
  refine AW.regionO (by rfl) ?_
  refine zm tb 4 rfl ?_
  obtain ⟨c15, gc15, h1⟩ := Sh.bind_some h1
  refine zx ei68 gc15 rfl rfl rfl ?_
  refine zq tb rfl ?_
  obtain ⟨q16, gq16, h1⟩ := Sh.bind_some h1
  refine zc (v' := (.agg (eRCon q16))) hb103 (laws_toCon_ok gq16) rfl rfl rfl ?_
  obtain ⟨c17, gc17, h1⟩ := Sh.bind_some h1
  refine zz (.ptr 0 0 (Int.toNat i6) 0) (aq_ixo ei78 rfl rfl rfl rfl gc17) rfl ?_
  refine ao_stl (st' := [(ro 0 130 1 eRCon (Sh.put l7 i6 q16))]) (u' := q16) go0 ti130 rfl rfl gc17 rfl rfl rfl (show 0 + 1 ≤ 1 by decide) rfl rfl ?_
  refine dn hK14 rfl ?_
  refine AW.regionO (by rfl) ?_
  refine zm tb 3 rfl ?_
  exact AO.done (xi (Sh.w (i6 + 1), Sh.put l7 i6 q16) h1 (Wk.to (L := [(0, (.sl (List.map eRCon p0))), (3, (.own 0 0 (List.length (Sh.put l7 i6 q16)))), (4, (i64 (Sh.w (i6 + 1))))]) ⟨.rfl, (.len (by simp only [Sh.put_len])), .rfl, trivial⟩))
 ·intro b13 h1
  exact AW.exit (M9 l7 (Sh.some_eq h1).symm _ (Wk.tr rfl))
theorem laws_toDecl_ok {N : Nat} {p0 : RDecl} {r : RDecl} (h0 : laws_toDecl N p0 = some r) : ACalls Try.prog 45 [(.agg (eRDecl p0))] [] (fun v st => v = (.agg (eRDecl r)) ∧ st = []) := by
 unfold laws_toDecl at h0
 refine ACalls.flat rfl ?_
 refine ai Try.func45 rfl rfl rfl rfl ?_
 refine sr rfl fun K1 hK1 => ?_
 refine ao_box (m := 0) (st' := [⟨0, 70, 3, [(eRDecl p0)]⟩]) go0 rfl rfl rfl rfl rfl ?_
 refine ao_alloc (m := 1) (st' := [⟨0, 70, 3, [(eRDecl p0)]⟩, ⟨0, 80, 3, [[(i64 0), (i64 0), .zc]]⟩]) go0 zi80 rfl rfl ?_
 refine dn hK1 rfl ?_
 refine sr rfl fun K2 hK2 => ?_
 refine ao_alloc (m := 2) (st' := [⟨0, 70, 3, [(eRDecl p0)]⟩, ⟨0, 80, 3, [[(i64 0), (i64 0), .zc]]⟩, ⟨0, 80, 3, [[(i64 0), (i64 0), .zc]]⟩]) go0 zi80 rfl rfl ?_
 refine dn hK2 rfl ?_
 refine sr rfl fun K3 hK3 => ?_
 refine zm tb 3 rfl ?_
 refine ao_str (st' := [⟨0, 70, 3, [(eRDecl p0)]⟩, ⟨0, 80, 3, [[(i64 0), (i64 0), .zc]]⟩, ⟨0, 80, 3, [[(i64 p0.from_), (i64 0), .zc]]⟩]) go0 ti3 rfl rfl rfl rfl rfl rfl (show 0 + 1 ≤ 3 by decide) rfl ?_
 refine dn hK3 rfl ?_
 refine sr rfl fun K4 hK4 => ?_
 refine zm tb 3 rfl ?_
 refine ao_str (st' := [⟨0, 70, 3, [(eRDecl p0)]⟩, ⟨0, 80, 3, [[(i64 0), (i64 0), .zc]]⟩, ⟨0, 80, 3, [[(i64 p0.from_), (i64 p0.to), .zc]]⟩]) go0 ti3 rfl rfl rfl rfl rfl rfl (show 1 + 1 ≤ 3 by decide) rfl ?_
 refine dn hK4 rfl ?_
 refine sr rfl fun K5 hK5 => ?_
 refine zm tb 2 rfl ?_
 obtain ⟨q6, gq6, h0⟩ := Sh.bind_some h0
 refine ao_call (v' := (ow 3 0 q6)) (st' := [⟨0, 70, 3, [(eRDecl p0)]⟩, ⟨0, 80, 3, [[(i64 0), (i64 0), .zc]]⟩, ⟨0, 80, 3, [[(i64 p0.from_), (i64 p0.to), .zc]]⟩, (ro 0 130 1 eRCon q6)]) go0 hb77 (laws_toConS_ok gq6) rfl rfl ⟨(pure_map' fun _ => rfl), trivial⟩ rfl rfl ?_
 refine zq tb rfl ?_
 refine AO.weaken (Wk.frz (L := [(2, (.ptr 1 0 0 0)), (3, (.ptr 2 0 0 0)), (12, (ls eRCon q6)), (13, (.ptr 2 0 0 2))]) (st' := [⟨0, 70, 3, [(eRDecl p0)]⟩, ⟨0, 80, 3, [[(i64 0), (i64 0), .zc]]⟩, ⟨0, 80, 3, [[(i64 p0.from_), (i64 p0.to), .zc]]⟩, ⟨1, 130, 1, []⟩]) (id := 3) rfl (show 0 ≤ 3 by decide) (pure_map fun _ => rfl) ⟨.rfl, .rfl, (.frz rfl), .rfl, trivial⟩ rfl) ?_
 refine ao_str (st' := [⟨0, 70, 3, [(eRDecl p0)]⟩, ⟨0, 80, 3, [[(i64 0), (i64 0), .zc]]⟩, ⟨0, 80, 3, [[(i64 p0.from_), (i64 p0.to), (ls eRCon q6)]]⟩, ⟨1, 130, 1, []⟩]) go0 ti78 rfl rfl rfl rfl rfl rfl (show 2 + 1 ≤ 3 by decide) rfl ?_
 refine dn hK5 rfl ?_
 refine sr rfl fun K7 hK7 => ?_
 refine zq tb rfl ?_
 refine ao_str (st' := [⟨0, 70, 3, [(eRDecl p0)]⟩, ⟨0, 80, 3, [[(i64 p0.from_), (i64 p0.to), (ls eRCon q6)]]⟩, ⟨0, 80, 3, [[(i64 p0.from_), (i64 p0.to), (ls eRCon q6)]]⟩, ⟨1, 130, 1, []⟩]) go0 ti80 rfl rfl rfl rfl rfl rfl (show 0 + 3 ≤ 3 by decide) rfl ?_
 refine dn hK7 rfl ?_
 replace h0 := Sh.some_eq h0
 subst r
 exact AW.ret (Exists.intro _ (And.intro (Wk.refl _ _) (aq_ldpa (x := .tmp 2) (off := 0) (cs := [(i64 p0.from_), (i64 p0.to), (ls eRCon q6)]) (vs := [(i64 p0.from_), (i64 p0.to), (ls eRCon q6)]) ti80 rfl rfl rfl (show 0 + 3 ≤ 3 by decide) rfl _ rfl)))
theorem laws_toDeclS_ok {N : Nat} {p0 : (List RDecl)} {r : (List RDecl)} (h0 : laws_toDeclS N p0 = some r) : ACalls Try.prog 25 [(ls eRDecl p0)] [] (fun v st => v = (ow 0 0 r) ∧ st = [(ro 0 80 3 eRDecl r)]) := by
 unfold laws_toDeclS at h0
 refine ai Try.func25 rfl rfl rfl rfl ?_
 refine zr tb rfl rfl ?_
 refine sr rfl fun K2 hK2 => ?_
 refine zq tb rfl ?_
 refine zl tb rfl rfl ?_
 obtain ⟨l3, gl3, h0⟩ := Sh.bind_some h0
 refine ao_make (m := 0) (st' := [(ro 0 80 3 eRDecl l3)]) (enc := eRDecl) (u := (RDecl.mk 0 0 [])) go0 ei28 rfl rfl rfl gl3 rfl rfl ?_
 refine zq tb rfl ?_
 refine dn hK2 rfl ?_
 refine AW.seq fun K4 hK4 => ?_
 refine zr tb rfl rfl ?_
 obtain ⟨o9, h1, h0⟩ := Sh.bind_some h0
 have M9 : ∀ (l8 : (List RDecl)), o9 = l8 → ∀ s, Wk 0 s ⟨23, envL [(3, (ow 0 0 l8))], [(ro 0 80 3 eRDecl l8)]⟩ → K4 s := by
  intro l8 hq s hw
  subst o9
  try dsimp only at h0
  refine hK4 _ (AW.weaken hw ?_)
  refine zr tb rfl rfl ?_
  replace h0 := Sh.some_eq h0
  subst r
  exact AW.ret (xr (Wk.to (L := [(2, (ow 0 0 l8))]) ⟨.rfl, trivial⟩))
 refine AW.block (AW.loopF (σ := Int × (List RDecl)) (fun n v => laws_toDeclS_L1 N p0 n v.1 v.2 = some o9) (fun (i6, l7) => ⟨23, envL [(0, (ls eRDecl p0)), (3, (ow 0 0 l7)), (4, (i64 i6))], [(ro 0 80 3 eRDecl l7)]⟩) N (0, l3) h1 (Wk.tr rfl) (fun _ hv => by rw [laws_toDeclS_L1] at hv; cases hv) ?_)
 rintro n ⟨i6, l7⟩ h1
 try dsimp only at h1 ⊢
 rw [laws_toDeclS_L1] at h1
 refine AW.seq fun K11 hK11 => ?_
 refine sr rfl fun K12 hK12 => ?_
 refine zm tb 2 rfl ?_
 refine zl tb rfl rfl ?_
 refine zq tb rfl ?_
 refine dn hK12 rfl ?_
 refine ci h1 rfl ?_ ?_ <;> clear h1
 ·intro b13 h1
  refine AW.skip (hK11 _ ?_)
  refine AW.seq fun K14 hK14 => ?_
  refine AW.block ?_
  refine AW.regionO (by rfl) ?_
  refine zm tb 4 rfl ?_
  obtain ⟨c15, gc15, h1⟩ := Sh.bind_some h1
  refine zx ei22 gc15 rfl rfl rfl ?_
  refine zq tb rfl ?_
  obtain ⟨q16, gq16, h1⟩ := Sh.bind_some h1
  refine zc (v' := (.agg (eRDecl q16))) hb45 (laws_toDecl_ok gq16) rfl rfl rfl ?_
  obtain ⟨c17, gc17, h1⟩ := Sh.bind_some h1
  refine zz (.ptr 0 0 (Int.toNat i6) 0) (aq_ixo ei28 rfl rfl rfl rfl gc17) rfl ?_
  refine ao_stl (st' := [(ro 0 80 3 eRDecl (Sh.put l7 i6 q16))]) (u' := q16) go0 ti80 rfl rfl gc17 rfl rfl rfl (show 0 + 3 ≤ 3 by decide) rfl rfl ?_
  refine dn hK14 rfl ?_
  refine AW.regionO (by rfl) ?_
  refine zm tb 3 rfl ?_
  exact AO.done (xi (Sh.w (i6 + 1), Sh.put l7 i6 q16) h1 (Wk.to (L := [(0, (.sl (List.map eRDecl p0))), (3, (.own 0 0 (List.length (Sh.put l7 i6 q16)))), (4, (i64 (Sh.w (i6 + 1))))]) ⟨.rfl, (.len (by simp only [Sh.put_len])), .rfl, trivial⟩))
 ·intro b13 h1
  exact AW.exit (M9 l7 (Sh.some_eq h1).symm _ (Wk.tr rfl))
theorem laws_toExprS_ok {N : Nat} {rec_laws_toExpr : RExpr → Option (RExpr)} (hrec_laws_toExpr : ∀ {p0 : RExpr} {r : RExpr}, rec_laws_toExpr p0 = some r → ACalls Try.prog 79 [(.agg [(i64 p0.op), (i64 p0.num), (ls eRExpr p0.kids)])] [] (fun v st => v = (.agg [(i64 r.op), (i64 r.num), (ls eRExpr r.kids)]) ∧ st = [])) {p0 : (List RExpr)} {r : (List RExpr)} (h0 : laws_toExprS N rec_laws_toExpr p0 = some r) : ACalls Try.prog 104 [(ls eRExpr p0)] [] (fun v st => v = (ow 0 0 r) ∧ st = [(ro 0 50 3 eRExpr r)]) := by
 unfold laws_toExprS at h0
 refine ai Try.func104 rfl rfl rfl rfl ?_
 refine zr tb rfl rfl ?_
 refine sr rfl fun K2 hK2 => ?_
 refine zq tb rfl ?_
 refine zl tb rfl rfl ?_
 obtain ⟨l3, gl3, h0⟩ := Sh.bind_some h0
 refine ao_make (m := 0) (st' := [(ro 0 50 3 eRExpr l3)]) (enc := eRExpr) (u := (RExpr.mk 0 0 [])) go0 ei48 rfl rfl (eRExpr_eq _) gl3 rfl rfl ?_
 refine zq tb rfl ?_
 refine dn hK2 rfl ?_
 refine AW.seq fun K4 hK4 => ?_
 refine zr tb rfl rfl ?_
 obtain ⟨o9, h1, h0⟩ := Sh.bind_some h0
 have M9 : ∀ (l8 : (List RExpr)), o9 = l8 → ∀ s, Wk 0 s ⟨23, envL [(3, (ow 0 0 l8))], [(ro 0 50 3 eRExpr l8)]⟩ → K4 s := by
  intro l8 hq s hw
  subst o9
  try dsimp only at h0
  refine hK4 _ (AW.weaken hw ?_)
  refine zr tb rfl rfl ?_
  replace h0 := Sh.some_eq h0
  subst r
  exact AW.ret (xr (Wk.to (L := [(2, (ow 0 0 l8))]) ⟨.rfl, trivial⟩))
 refine AW.block (AW.loopF (σ := Int × (List RExpr)) (fun n v => laws_toExprS_L1 p0 rec_laws_toExpr n v.1 v.2 = some o9) (fun (i6, l7) => ⟨23, envL [(0, (ls eRExpr p0)), (3, (ow 0 0 l7)), (4, (i64 i6))], [(ro 0 50 3 eRExpr l7)]⟩) N (0, l3) h1 (Wk.tr rfl) (fun _ hv => by rw [laws_toExprS_L1] at hv; cases hv) ?_)
 rintro n ⟨i6, l7⟩ h1
 try dsimp only at h1 ⊢
 rw [laws_toExprS_L1] at h1
 refine AW.seq fun K11 hK11 => ?_
 refine sr rfl fun K12 hK12 => ?_
 refine zm tb 2 rfl ?_
 refine zl tb rfl rfl ?_
 refine zq tb rfl ?_
 refine dn hK12 rfl ?_
 refine ci h1 rfl ?_ ?_ <;> clear h1
 ·intro b13 h1
  refine AW.skip (hK11 _ ?_)
  refine AW.seq fun K14 hK14 => ?_
  refine AW.block ?_
  refine AW.regionO (by rfl) ?_
  refine zm tb 4 rfl ?_
  obtain ⟨c15, gc15, h1⟩ := Sh.bind_some h1
  refine zz (.iptr [(i64 c15.op), (i64 c15.num), (ls eRExpr c15.kids)] 0) (aq_ixsE ei72 rfl rfl gc15 (eRExpr_eq _) rfl) rfl ?_
  refine zq tb rfl ?_
  obtain ⟨q16, gq16, h1⟩ := Sh.bind_some h1
  refine zc (v' := (.agg [(i64 q16.op), (i64 q16.num), (ls eRExpr q16.kids)])) hb79 (hrec_laws_toExpr gq16) rfl rfl rfl ?_
  obtain ⟨c17, gc17, h1⟩ := Sh.bind_some h1
  refine zz (.ptr 0 0 (Int.toNat i6) 0) (aq_ixo ei48 rfl rfl rfl rfl gc17) rfl ?_
  refine ao_stl (st' := [(ro 0 50 3 eRExpr (Sh.put l7 i6 q16))]) (u' := q16) go0 ti50 rfl rfl gc17 rfl rfl rfl (show 0 + 3 ≤ 3 by decide) (by rw [eRExpr_eq, eRExpr_eq]; rfl) rfl ?_
  refine dn hK14 rfl ?_
  refine AW.regionO (by rfl) ?_
  refine zm tb 3 rfl ?_
  exact AO.done (xi (Sh.w (i6 + 1), Sh.put l7 i6 q16) h1 (Wk.to (L := [(0, (.sl (List.map eRExpr p0))), (3, (.own 0 0 (List.length (Sh.put l7 i6 q16)))), (4, (i64 (Sh.w (i6 + 1))))]) ⟨.rfl, (.len (by simp only [Sh.put_len])), .rfl, trivial⟩))
 ·intro b13 h1
  exact AW.exit (M9 l7 (Sh.some_eq h1).symm _ (Wk.tr rfl))
theorem laws_toExpr_B_ok {N : Nat} {rec_laws_toExpr : RExpr → Option (RExpr)} (hrec_laws_toExpr : ∀ {p0 : RExpr} {r : RExpr}, rec_laws_toExpr p0 = some r → ACalls Try.prog 79 [(.agg [(i64 p0.op), (i64 p0.num), (ls eRExpr p0.kids)])] [] (fun v st => v = (.agg [(i64 r.op), (i64 r.num), (ls eRExpr r.kids)]) ∧ st = [])) {p0 : RExpr} {r : RExpr} (h0 : laws_toExpr_B N rec_laws_toExpr p0 = some r) : ACalls Try.prog 79 [(.agg [(i64 p0.op), (i64 p0.num), (ls eRExpr p0.kids)])] [] (fun v st => v = (.agg [(i64 r.op), (i64 r.num), (ls eRExpr r.kids)]) ∧ st = []) := by
 unfold laws_toExpr_B at h0
 refine ACalls.flat rfl ?_
 refine ai Try.func79 rfl rfl rfl rfl ?_
 refine sr rfl fun K1 hK1 => ?_
 refine ao_box (m := 0) (st' := [⟨0, 74, 3, [[(i64 p0.op), (i64 p0.num), (ls eRExpr p0.kids)]]⟩]) go0 rfl rfl rfl rfl rfl ?_
 refine ao_alloc (m := 1) (st' := [⟨0, 74, 3, [[(i64 p0.op), (i64 p0.num), (ls eRExpr p0.kids)]]⟩, ⟨0, 50, 3, [[(i64 0), (i64 0), .zc]]⟩]) go0 zi50 rfl rfl ?_
 refine dn hK1 rfl ?_
 refine sr rfl fun K2 hK2 => ?_
 refine ao_alloc (m := 2) (st' := [⟨0, 74, 3, [[(i64 p0.op), (i64 p0.num), (ls eRExpr p0.kids)]]⟩, ⟨0, 50, 3, [[(i64 0), (i64 0), .zc]]⟩, ⟨0, 50, 3, [[(i64 0), (i64 0), .zc]]⟩]) go0 zi50 rfl rfl ?_
 refine dn hK2 rfl ?_
 refine sr rfl fun K3 hK3 => ?_
 refine zm tb 3 rfl ?_
 refine ao_str (st' := [⟨0, 74, 3, [[(i64 p0.op), (i64 p0.num), (ls eRExpr p0.kids)]]⟩, ⟨0, 50, 3, [[(i64 0), (i64 0), .zc]]⟩, ⟨0, 50, 3, [[(i64 p0.op), (i64 0), .zc]]⟩]) go0 ti3 rfl rfl rfl rfl rfl rfl (show 0 + 1 ≤ 3 by decide) rfl ?_
 refine dn hK3 rfl ?_
 refine sr rfl fun K4 hK4 => ?_
 refine zm tb 3 rfl ?_
 refine ao_str (st' := [⟨0, 74, 3, [[(i64 p0.op), (i64 p0.num), (ls eRExpr p0.kids)]]⟩, ⟨0, 50, 3, [[(i64 0), (i64 0), .zc]]⟩, ⟨0, 50, 3, [[(i64 p0.op), (i64 p0.num), .zc]]⟩]) go0 ti3 rfl rfl rfl rfl rfl rfl (show 1 + 1 ≤ 3 by decide) rfl ?_
 refine dn hK4 rfl ?_
 refine sr rfl fun K5 hK5 => ?_
 refine zm tb 2 rfl ?_
 obtain ⟨q6, gq6, h0⟩ := Sh.bind_some h0
 refine ao_call (v' := (ow 3 0 q6)) (st' := [⟨0, 74, 3, [[(i64 p0.op), (i64 p0.num), (ls eRExpr p0.kids)]]⟩, ⟨0, 50, 3, [[(i64 0), (i64 0), .zc]]⟩, ⟨0, 50, 3, [[(i64 p0.op), (i64 p0.num), .zc]]⟩, (ro 0 50 3 eRExpr q6)]) go0 hb104 (laws_toExprS_ok hrec_laws_toExpr gq6) rfl rfl ⟨(pure_map' eRExpr_pure), trivial⟩ rfl rfl ?_
 refine zq tb rfl ?_
 refine AO.weaken (Wk.frz (L := [(2, (.ptr 1 0 0 0)), (3, (.ptr 2 0 0 0)), (12, (ls eRExpr q6)), (13, (.ptr 2 0 0 2))]) (st' := [⟨0, 74, 3, [[(i64 p0.op), (i64 p0.num), (ls eRExpr p0.kids)]]⟩, ⟨0, 50, 3, [[(i64 0), (i64 0), .zc]]⟩, ⟨0, 50, 3, [[(i64 p0.op), (i64 p0.num), .zc]]⟩, ⟨1, 50, 3, []⟩]) (id := 3) rfl (show 0 ≤ 3 by decide) (pure_map eRExpr_pure) ⟨.rfl, .rfl, (.frz rfl), .rfl, trivial⟩ rfl) ?_
 refine ao_str (st' := [⟨0, 74, 3, [[(i64 p0.op), (i64 p0.num), (ls eRExpr p0.kids)]]⟩, ⟨0, 50, 3, [[(i64 0), (i64 0), .zc]]⟩, ⟨0, 50, 3, [[(i64 p0.op), (i64 p0.num), (ls eRExpr q6)]]⟩, ⟨1, 50, 3, []⟩]) go0 ti48 rfl rfl rfl rfl rfl rfl (show 2 + 1 ≤ 3 by decide) rfl ?_
 refine dn hK5 rfl ?_
 refine sr rfl fun K7 hK7 => ?_
 refine zq tb rfl ?_
 refine ao_str (st' := [⟨0, 74, 3, [[(i64 p0.op), (i64 p0.num), (ls eRExpr p0.kids)]]⟩, ⟨0, 50, 3, [[(i64 p0.op), (i64 p0.num), (ls eRExpr q6)]]⟩, ⟨0, 50, 3, [[(i64 p0.op), (i64 p0.num), (ls eRExpr q6)]]⟩, ⟨1, 50, 3, []⟩]) go0 ti50 rfl rfl rfl rfl rfl rfl (show 0 + 3 ≤ 3 by decide) rfl ?_
 refine dn hK7 rfl ?_
 replace h0 := Sh.some_eq h0
 subst r
 exact AW.ret (Exists.intro _ (And.intro (Wk.refl _ _) (aq_ldpa (x := .tmp 2) (off := 0) (cs := [(i64 p0.op), (i64 p0.num), (ls eRExpr q6)]) (vs := [(i64 p0.op), (i64 p0.num), (ls eRExpr q6)]) ti50 rfl rfl rfl (show 0 + 3 ≤ 3 by decide) rfl _ rfl)))

theorem laws_toExpr_F_ok {N : Nat} : ∀ (n : Nat), ∀ {p0 : RExpr} {r : RExpr}, laws_toExpr_F N n p0 = some r → ACalls Try.prog 79 [(.agg [(i64 p0.op), (i64 p0.num), (ls eRExpr p0.kids)])] [] (fun v st => v = (.agg [(i64 r.op), (i64 r.num), (ls eRExpr r.kids)]) ∧ st = []) := by
 intro n
 induction n with
 | zero => intro p0 r h0; cases h0
 | succ n ih =>
  intro p0 r h0
  rw [laws_toExpr_F] at h0
  exact laws_toExpr_B_ok (fun h => ih h) h0
theorem laws_toExpr_ok {N : Nat} : ∀ {p0 : RExpr} {r : RExpr}, laws_toExpr N p0 = some r → ACalls Try.prog 79 [(.agg [(i64 p0.op), (i64 p0.num), (ls eRExpr p0.kids)])] [] (fun v st => v = (.agg [(i64 r.op), (i64 r.num), (ls eRExpr r.kids)]) ∧ st = []) := by
 intro p0 r h0
 exact laws_toExpr_F_ok N h0
theorem laws_toFunc_ok {N : Nat} {p0 : RFunc} {r : RFunc} (h0 : laws_toFunc N p0 = some r) : ACalls Try.prog 46 [(.agg [(ls eI p0.params), (i64 p0.result), (i64 p0.body.op), (i64 p0.body.num), (ls eRExpr p0.body.kids)])] [] (fun v st => v = (.agg [(ls eI r.params), (i64 r.result), (i64 r.body.op), (i64 r.body.num), (ls eRExpr r.body.kids)]) ∧ st = []) := by
 unfold laws_toFunc at h0
 refine ACalls.flat rfl ?_
 refine ai Try.func46 rfl rfl rfl rfl ?_
 refine sr rfl fun K1 hK1 => ?_
 refine ao_box (m := 0) (st' := [⟨0, 76, 5, [[(ls eI p0.params), (i64 p0.result), (i64 p0.body.op), (i64 p0.body.num), (ls eRExpr p0.body.kids)]]⟩]) go0 rfl rfl rfl rfl rfl ?_
 refine ao_alloc (m := 1) (st' := [⟨0, 76, 5, [[(ls eI p0.params), (i64 p0.result), (i64 p0.body.op), (i64 p0.body.num), (ls eRExpr p0.body.kids)]]⟩, ⟨0, 52, 5, [[.zc, (i64 0), (i64 0), (i64 0), .zc]]⟩]) go0 zi52 rfl rfl ?_
 refine dn hK1 rfl ?_
 refine sr rfl fun K2 hK2 => ?_
 refine ao_alloc (m := 2) (st' := [⟨0, 76, 5, [[(ls eI p0.params), (i64 p0.result), (i64 p0.body.op), (i64 p0.body.num), (ls eRExpr p0.body.kids)]]⟩, ⟨0, 52, 5, [[.zc, (i64 0), (i64 0), (i64 0), .zc]]⟩, ⟨0, 52, 5, [[.zc, (i64 0), (i64 0), (i64 0), .zc]]⟩]) go0 zi52 rfl rfl ?_
 refine dn hK2 rfl ?_
 refine sr rfl fun K3 hK3 => ?_
 refine zm tb 2 rfl ?_
 obtain ⟨q4, gq4, h0⟩ := Sh.bind_some h0
 refine ao_call (v' := (ow 3 0 q4)) (st' := [⟨0, 76, 5, [[(ls eI p0.params), (i64 p0.result), (i64 p0.body.op), (i64 p0.body.num), (ls eRExpr p0.body.kids)]]⟩, ⟨0, 52, 5, [[.zc, (i64 0), (i64 0), (i64 0), .zc]]⟩, ⟨0, 52, 5, [[.zc, (i64 0), (i64 0), (i64 0), .zc]]⟩, (ro 0 3 1 eI q4)]) go0 hb78 (laws_toIntS_ok gq4) rfl rfl ⟨(pure_map' fun _ => rfl), trivial⟩ rfl rfl ?_
 refine zq tb rfl ?_
 refine AO.weaken (Wk.frz (L := [(1, (.ptr 0 0 0 0)), (2, (.ptr 1 0 0 0)), (3, (.ptr 2 0 0 0)), (6, (ls eI q4)), (7, (.ptr 2 0 0 0))]) (st' := [⟨0, 76, 5, [[(ls eI p0.params), (i64 p0.result), (i64 p0.body.op), (i64 p0.body.num), (ls eRExpr p0.body.kids)]]⟩, ⟨0, 52, 5, [[.zc, (i64 0), (i64 0), (i64 0), .zc]]⟩, ⟨0, 52, 5, [[.zc, (i64 0), (i64 0), (i64 0), .zc]]⟩, ⟨1, 3, 1, []⟩]) (id := 3) rfl (show 0 ≤ 3 by decide) (pure_map fun _ => rfl) ⟨.rfl, .rfl, .rfl, (.frz rfl), .rfl, trivial⟩ rfl) ?_
 refine ao_str (st' := [⟨0, 76, 5, [[(ls eI p0.params), (i64 p0.result), (i64 p0.body.op), (i64 p0.body.num), (ls eRExpr p0.body.kids)]]⟩, ⟨0, 52, 5, [[.zc, (i64 0), (i64 0), (i64 0), .zc]]⟩, ⟨0, 52, 5, [[(ls eI q4), (i64 0), (i64 0), (i64 0), .zc]]⟩, ⟨1, 3, 1, []⟩]) go0 ti40 rfl rfl rfl rfl rfl rfl (show 0 + 1 ≤ 5 by decide) rfl ?_
 refine dn hK3 rfl ?_
 refine sr rfl fun K5 hK5 => ?_
 refine zm tb 3 rfl ?_
 refine ao_str (st' := [⟨0, 76, 5, [[(ls eI p0.params), (i64 p0.result), (i64 p0.body.op), (i64 p0.body.num), (ls eRExpr p0.body.kids)]]⟩, ⟨0, 52, 5, [[.zc, (i64 0), (i64 0), (i64 0), .zc]]⟩, ⟨0, 52, 5, [[(ls eI q4), (i64 p0.result), (i64 0), (i64 0), .zc]]⟩, ⟨1, 3, 1, []⟩]) go0 ti3 rfl rfl rfl rfl rfl rfl (show 1 + 1 ≤ 5 by decide) rfl ?_
 refine dn hK5 rfl ?_
 refine sr rfl fun K6 hK6 => ?_
 refine zm tb 2 rfl ?_
 obtain ⟨q7, gq7, h0⟩ := Sh.bind_some h0
 refine zc (v' := (.agg [(i64 q7.op), (i64 q7.num), (ls eRExpr q7.kids)])) hb79 (laws_toExpr_ok gq7) rfl rfl rfl ?_
 refine zq tb rfl ?_
 refine ao_str (st' := [⟨0, 76, 5, [[(ls eI p0.params), (i64 p0.result), (i64 p0.body.op), (i64 p0.body.num), (ls eRExpr p0.body.kids)]]⟩, ⟨0, 52, 5, [[.zc, (i64 0), (i64 0), (i64 0), .zc]]⟩, ⟨0, 52, 5, [[(ls eI q4), (i64 p0.result), (i64 q7.op), (i64 q7.num), (ls eRExpr q7.kids)]]⟩, ⟨1, 3, 1, []⟩]) go0 ti50 rfl rfl rfl rfl rfl rfl (show 2 + 3 ≤ 5 by decide) rfl ?_
 refine dn hK6 rfl ?_
 refine sr rfl fun K8 hK8 => ?_
 refine zq tb rfl ?_
 refine ao_str (st' := [⟨0, 76, 5, [[(ls eI p0.params), (i64 p0.result), (i64 p0.body.op), (i64 p0.body.num), (ls eRExpr p0.body.kids)]]⟩, ⟨0, 52, 5, [[(ls eI q4), (i64 p0.result), (i64 q7.op), (i64 q7.num), (ls eRExpr q7.kids)]]⟩, ⟨0, 52, 5, [[(ls eI q4), (i64 p0.result), (i64 q7.op), (i64 q7.num), (ls eRExpr q7.kids)]]⟩, ⟨1, 3, 1, []⟩]) go0 ti52 rfl rfl rfl rfl rfl rfl (show 0 + 5 ≤ 5 by decide) rfl ?_
 refine dn hK8 rfl ?_
 replace h0 := Sh.some_eq h0
 subst r
 exact AW.ret (Exists.intro _ (And.intro (Wk.refl _ _) (aq_ldpa (x := .tmp 2) (off := 0) (cs := [(ls eI q4), (i64 p0.result), (i64 q7.op), (i64 q7.num), (ls eRExpr q7.kids)]) (vs := [(ls eI q4), (i64 p0.result), (i64 q7.op), (i64 q7.num), (ls eRExpr q7.kids)]) ti52 rfl rfl rfl (show 0 + 5 ≤ 5 by decide) rfl _ rfl)))
theorem laws_toFuncS_ok {N : Nat} {p0 : (List RFunc)} {r : (List RFunc)} (h0 : laws_toFuncS N p0 = some r) : ACalls Try.prog 26 [(ls eRFunc p0)] [] (fun v st => v = (ow 0 0 r) ∧ st = [(ro 0 52 5 eRFunc r)]) := by
 unfold laws_toFuncS at h0
 refine ai Try.func26 rfl rfl rfl rfl ?_
 refine zr tb rfl rfl ?_
 refine sr rfl fun K2 hK2 => ?_
 refine zq tb rfl ?_
 refine zl tb rfl rfl ?_
 obtain ⟨l3, gl3, h0⟩ := Sh.bind_some h0
 refine ao_make (m := 0) (st' := [(ro 0 52 5 eRFunc l3)]) (enc := eRFunc) (u := (RFunc.mk [] 0 (RExpr.mk 0 0 []))) go0 ei29 rfl rfl rfl gl3 rfl rfl ?_
 refine zq tb rfl ?_
 refine dn hK2 rfl ?_
 refine AW.seq fun K4 hK4 => ?_
 refine zr tb rfl rfl ?_
 obtain ⟨o9, h1, h0⟩ := Sh.bind_some h0
 have M9 : ∀ (l8 : (List RFunc)), o9 = l8 → ∀ s, Wk 0 s ⟨23, envL [(3, (ow 0 0 l8))], [(ro 0 52 5 eRFunc l8)]⟩ → K4 s := by
  intro l8 hq s hw
  subst o9
  try dsimp only at h0
  refine hK4 _ (AW.weaken hw ?_)
  refine zr tb rfl rfl ?_
  replace h0 := Sh.some_eq h0
  subst r
  exact AW.ret (xr (Wk.to (L := [(2, (ow 0 0 l8))]) ⟨.rfl, trivial⟩))
 refine AW.block (AW.loopF (σ := Int × (List RFunc)) (fun n v => laws_toFuncS_L1 N p0 n v.1 v.2 = some o9) (fun (i6, l7) => ⟨23, envL [(0, (ls eRFunc p0)), (3, (ow 0 0 l7)), (4, (i64 i6))], [(ro 0 52 5 eRFunc l7)]⟩) N (0, l3) h1 (Wk.tr rfl) (fun _ hv => by rw [laws_toFuncS_L1] at hv; cases hv) ?_)
 rintro n ⟨i6, l7⟩ h1
 try dsimp only at h1 ⊢
 rw [laws_toFuncS_L1] at h1
 refine AW.seq fun K11 hK11 => ?_
 refine sr rfl fun K12 hK12 => ?_
 refine zm tb 2 rfl ?_
 refine zl tb rfl rfl ?_
 refine zq tb rfl ?_
 refine dn hK12 rfl ?_
 refine ci h1 rfl ?_ ?_ <;> clear h1
 ·intro b13 h1
  refine AW.skip (hK11 _ ?_)
  refine AW.seq fun K14 hK14 => ?_
  refine AW.block ?_
  refine AW.regionO (by rfl) ?_
  refine zm tb 4 rfl ?_
  obtain ⟨c15, gc15, h1⟩ := Sh.bind_some h1
  refine zx ei23 gc15 rfl rfl rfl ?_
  refine zq tb rfl ?_
  obtain ⟨q16, gq16, h1⟩ := Sh.bind_some h1
  refine zc (v' := (.agg [(ls eI q16.params), (i64 q16.result), (i64 q16.body.op), (i64 q16.body.num), (ls eRExpr q16.body.kids)])) hb46 (laws_toFunc_ok gq16) rfl rfl rfl ?_
  obtain ⟨c17, gc17, h1⟩ := Sh.bind_some h1
  refine zz (.ptr 0 0 (Int.toNat i6) 0) (aq_ixo ei29 rfl rfl rfl rfl gc17) rfl ?_
  refine ao_stl (st' := [(ro 0 52 5 eRFunc (Sh.put l7 i6 q16))]) (u' := q16) go0 ti52 rfl rfl gc17 rfl rfl rfl (show 0 + 5 ≤ 5 by decide) rfl rfl ?_
  refine dn hK14 rfl ?_
  refine AW.regionO (by rfl) ?_
  refine zm tb 3 rfl ?_
  exact AO.done (xi (Sh.w (i6 + 1), Sh.put l7 i6 q16) h1 (Wk.to (L := [(0, (.sl (List.map eRFunc p0))), (3, (.own 0 0 (List.length (Sh.put l7 i6 q16)))), (4, (i64 (Sh.w (i6 + 1))))]) ⟨.rfl, (.len (by simp only [Sh.put_len])), .rfl, trivial⟩))
 ·intro b13 h1
  exact AW.exit (M9 l7 (Sh.some_eq h1).symm _ (Wk.tr rfl))
theorem laws_toProgram_ok {N : Nat} {p0 : RProgram} {r : RProgram} (h0 : laws_toProgram N p0 = some r) : ACalls Try.prog 9 [(.agg [(ls eRDecl p0.decls), (ls eRFunc p0.funcs)])] [] (fun v st => v = (.agg [(ls eRDecl r.decls), (ls eRFunc r.funcs)]) ∧ st = []) := by
 unfold laws_toProgram at h0
 refine ACalls.flat rfl ?_
 refine ai Try.func9 rfl rfl rfl rfl ?_
 refine sr rfl fun K1 hK1 => ?_
 refine ao_box (m := 0) (st' := [⟨0, 25, 2, [[(ls eRDecl p0.decls), (ls eRFunc p0.funcs)]]⟩]) go0 rfl rfl rfl rfl rfl ?_
 refine ao_alloc (m := 1) (st' := [⟨0, 25, 2, [[(ls eRDecl p0.decls), (ls eRFunc p0.funcs)]]⟩, ⟨0, 31, 2, [[.zc, .zc]]⟩]) go0 zi31 rfl rfl ?_
 refine dn hK1 rfl ?_
 refine sr rfl fun K2 hK2 => ?_
 refine ao_alloc (m := 2) (st' := [⟨0, 25, 2, [[(ls eRDecl p0.decls), (ls eRFunc p0.funcs)]]⟩, ⟨0, 31, 2, [[.zc, .zc]]⟩, ⟨0, 31, 2, [[.zc, .zc]]⟩]) go0 zi31 rfl rfl ?_
 refine dn hK2 rfl ?_
 refine sr rfl fun K3 hK3 => ?_
 refine zm tb 2 rfl ?_
 obtain ⟨q4, gq4, h0⟩ := Sh.bind_some h0
 refine ao_call (v' := (ow 3 0 q4)) (st' := [⟨0, 25, 2, [[(ls eRDecl p0.decls), (ls eRFunc p0.funcs)]]⟩, ⟨0, 31, 2, [[.zc, .zc]]⟩, ⟨0, 31, 2, [[.zc, .zc]]⟩, (ro 0 80 3 eRDecl q4)]) go0 hb25 (laws_toDeclS_ok gq4) rfl rfl ⟨(pure_map' fun _ => rfl), trivial⟩ rfl rfl ?_
 refine zq tb rfl ?_
 refine AO.weaken (Wk.frz (L := [(1, (.ptr 0 0 0 0)), (2, (.ptr 1 0 0 0)), (3, (.ptr 2 0 0 0)), (6, (ls eRDecl q4)), (7, (.ptr 2 0 0 0))]) (st' := [⟨0, 25, 2, [[(ls eRDecl p0.decls), (ls eRFunc p0.funcs)]]⟩, ⟨0, 31, 2, [[.zc, .zc]]⟩, ⟨0, 31, 2, [[.zc, .zc]]⟩, ⟨1, 80, 3, []⟩]) (id := 3) rfl (show 0 ≤ 3 by decide) (pure_map fun _ => rfl) ⟨.rfl, .rfl, .rfl, (.frz rfl), .rfl, trivial⟩ rfl) ?_
 refine ao_str (st' := [⟨0, 25, 2, [[(ls eRDecl p0.decls), (ls eRFunc p0.funcs)]]⟩, ⟨0, 31, 2, [[.zc, .zc]]⟩, ⟨0, 31, 2, [[(ls eRDecl q4), .zc]]⟩, ⟨1, 80, 3, []⟩]) go0 ti28 rfl rfl rfl rfl rfl rfl (show 0 + 1 ≤ 2 by decide) rfl ?_
 refine dn hK3 rfl ?_
 refine sr rfl fun K5 hK5 => ?_
 refine zm tb 2 rfl ?_
 obtain ⟨q6, gq6, h0⟩ := Sh.bind_some h0
 refine ao_call (v' := (ow 4 0 q6)) (st' := [⟨0, 25, 2, [[(ls eRDecl p0.decls), (ls eRFunc p0.funcs)]]⟩, ⟨0, 31, 2, [[.zc, .zc]]⟩, ⟨0, 31, 2, [[(ls eRDecl q4), .zc]]⟩, ⟨1, 80, 3, []⟩, (ro 0 52 5 eRFunc q6)]) go0 hb26 (laws_toFuncS_ok gq6) rfl rfl ⟨(pure_map' fun _ => rfl), trivial⟩ rfl rfl ?_
 refine zq tb rfl ?_
 refine AO.weaken (Wk.frz (L := [(2, (.ptr 1 0 0 0)), (3, (.ptr 2 0 0 0)), (10, (ls eRFunc q6)), (11, (.ptr 2 0 0 1))]) (st' := [⟨0, 25, 2, [[(ls eRDecl p0.decls), (ls eRFunc p0.funcs)]]⟩, ⟨0, 31, 2, [[.zc, .zc]]⟩, ⟨0, 31, 2, [[(ls eRDecl q4), .zc]]⟩, ⟨1, 80, 3, []⟩, ⟨1, 52, 5, []⟩]) (id := 4) rfl (show 0 ≤ 4 by decide) (pure_map fun _ => rfl) ⟨.rfl, .rfl, (.frz rfl), .rfl, trivial⟩ rfl) ?_
 refine ao_str (st' := [⟨0, 25, 2, [[(ls eRDecl p0.decls), (ls eRFunc p0.funcs)]]⟩, ⟨0, 31, 2, [[.zc, .zc]]⟩, ⟨0, 31, 2, [[(ls eRDecl q4), (ls eRFunc q6)]]⟩, ⟨1, 80, 3, []⟩, ⟨1, 52, 5, []⟩]) go0 ti29 rfl rfl rfl rfl rfl rfl (show 1 + 1 ≤ 2 by decide) rfl ?_
 refine dn hK5 rfl ?_
 refine sr rfl fun K7 hK7 => ?_
 refine zq tb rfl ?_
 refine ao_str (st' := [⟨0, 25, 2, [[(ls eRDecl p0.decls), (ls eRFunc p0.funcs)]]⟩, ⟨0, 31, 2, [[(ls eRDecl q4), (ls eRFunc q6)]]⟩, ⟨0, 31, 2, [[(ls eRDecl q4), (ls eRFunc q6)]]⟩, ⟨1, 80, 3, []⟩, ⟨1, 52, 5, []⟩]) go0 ti31 rfl rfl rfl rfl rfl rfl (show 0 + 2 ≤ 2 by decide) rfl ?_
 refine dn hK7 rfl ?_
 replace h0 := Sh.some_eq h0
 subst r
 exact AW.ret (Exists.intro _ (And.intro (Wk.refl _ _) (aq_ldpa (x := .tmp 2) (off := 0) (cs := [(ls eRDecl q4), (ls eRFunc q6)]) (vs := [(ls eRDecl q4), (ls eRFunc q6)]) ti31 rfl rfl rfl (show 0 + 2 ≤ 2 by decide) rfl _ rfl)))
theorem spec_inRange_ok {p0 : Int} {p1 : Int} {p2 : Int} {r : Bool} (h0 : spec_inRange p0 p1 p2 = some r) : ACalls Try.prog 23 [(i64 p0), (i64 p1), (i64 p2)] [] (fun v st => v = (.bool r) ∧ st = []) := by
 unfold spec_inRange at h0
 refine ai Try.func23 rfl rfl rfl rfl ?_
 refine zr tb rfl rfl ?_
 refine AW.seq fun K2 hK2 => ?_
 obtain ⟨o4, h1, h0⟩ := Sh.bind_some h0
 have M4 : ∀ (t3 : Bool), o4 = t3 → ∀ s, Wk 0 s ⟨15, envL [(6, (.bool t3))], []⟩ → K2 s := by
  intro t3 hq s hw
  subst o4
  try dsimp only at h0
  refine hK2 _ (AW.weaken hw ?_)
  replace h0 := Sh.some_eq h0
  subst r
  exact AW.ret (xr (Wk.to (L := [(6, (.bool t3))]) ⟨.rfl, trivial⟩))
 refine AW.regionO (by rfl) ?_
 refine zm tb 4 rfl ?_
 rcases Sh.ite_some h1 with ⟨b5, h1⟩ | ⟨b5, h1⟩
 ·refine zg tb b5 rfl ?_
  iterate 2 refine zg tb b5 rfl ?_
  refine zt b5 rfl ?_
  refine zq tb rfl ?_
  exact AO.done (M4 (decide (p0 ≤ p2)) (Sh.some_eq h1).symm _ (Wk.tr rfl))
 ·refine zs b5 rfl ?_
  iterate 2 refine zs b5 rfl ?_
  refine zf b5 rfl ?_
  refine zq tb rfl ?_
  exact AO.done (M4 false (Sh.some_eq h1).symm _ (Wk.tr rfl))
theorem spec_allTypes_ok {N : Nat} {p0 : (List RDecl)} {p1 : (List Int)} {r : Bool} (h0 : spec_allTypes N p0 p1 = some r) : ACalls Try.prog 67 [(ls eRDecl p0), (ls eI p1)] [] (fun v st => v = (.bool r) ∧ st = []) := by
 unfold spec_allTypes at h0
 refine ai Try.func67 rfl rfl rfl rfl ?_
 refine zr tb rfl rfl ?_
 refine AW.seq fun K2 hK2 => ?_
 refine zr tb rfl rfl ?_
 obtain ⟨o5, h1, h0⟩ := Sh.cont_some h0
 have M5 : ∀ (_ : Unit), o5 = Sum.inr () → ∀ s, Wk 0 s ⟨20, envL [], []⟩ → K2 s := by
  intro _ hq s hw
  subst o5
  try dsimp only at h0
  refine hK2 _ (AW.weaken hw ?_)
  refine zr tb rfl rfl ?_
  replace h0 := Sh.some_eq h0
  subst r
  exact AW.ret (xr (Wk.to (L := [(4, (.bool true))]) ⟨.rfl, trivial⟩))
 refine AW.block (AW.loopF (σ := Int) (fun n v => spec_allTypes_L1 p0 p1 n v = some o5) (fun i4 => ⟨20, envL [(0, (ls eRDecl p0)), (1, (ls eI p1)), (5, (i64 i4))], []⟩) N 0 h1 (Wk.tr rfl) (fun _ hv => by rw [spec_allTypes_L1] at hv; cases hv) ?_)
 rintro n i4 h1
 try dsimp only at h1 ⊢
 rw [spec_allTypes_L1] at h1
 refine AW.seq fun K7 hK7 => ?_
 refine sr rfl fun K8 hK8 => ?_
 refine zm tb 2 rfl ?_
 refine zl tb rfl rfl ?_
 refine zq tb rfl ?_
 refine dn hK8 rfl ?_
 refine ci h1 rfl ?_ ?_ <;> clear h1
 ·intro b9 h1
  refine AW.skip (hK7 _ ?_)
  refine AW.seq fun K10 hK10 => ?_
  refine AW.block ?_
  refine sr rfl fun K11 hK11 => ?_
  refine zm tb 2 rfl ?_
  obtain ⟨c12, gc12, h1⟩ := Sh.bind_some h1
  refine zx ei40 gc12 rfl rfl rfl ?_
  refine zm tb 2 rfl ?_
  refine zl tb rfl rfl ?_
  obtain ⟨q13, gq13, h1⟩ := Sh.bind_some h1
  refine zc hb23 (spec_inRange_ok gq13) rfl rfl rfl ?_
  refine zq tb rfl ?_
  refine dn hK11 rfl ?_
  refine ci h1 rfl ?_ ?_ <;> clear h1
  ·intro b14 h1
   have b15 : q13 = false := by simpa using b14
   refine zr tb rfl rfl ?_
   replace h1 := Sh.some_eq h1
   subst o5
   try dsimp only [id] at h0
   replace h0 := Sh.some_eq h0
   subst r
   exact AW.ret (xr (Wk.to (L := [(4, (.bool false))]) ⟨.rfl, trivial⟩))
  ·intro b14 h1
   have b17 : q13 = true := by simpa using b14
   refine AW.skip (hK10 _ ?_)
   refine AW.regionO (by rfl) ?_
   refine zm tb 3 rfl ?_
   exact AO.done (xi (Sh.w (i4 + 1)) h1 (Wk.tr rfl))
 ·intro b9 h1
  exact AW.exit (M5 () (Sh.some_eq h1).symm _ (Wk.tr rfl))
theorem spec_validDecl_ok {N : Nat} {p0 : (List RDecl)} {p1 : Int} {r : Bool} (h0 : spec_validDecl N p0 p1 = some r) : ACalls Try.prog 98 [(ls eRDecl p0), (i64 p1)] [] (fun v st => v = (.bool r) ∧ st = []) := by
 unfold spec_validDecl at h0
 refine ai Try.func98 rfl rfl rfl rfl ?_
 refine zr tb rfl rfl ?_
 refine sr rfl fun K2 hK2 => ?_
 refine zm tb 2 rfl ?_
 obtain ⟨c3, gc3, h0⟩ := Sh.bind_some h0
 refine zx ei28 gc3 rfl rfl rfl ?_
 refine zq tb rfl ?_
 refine ao_alloc (m := 0) (st' := [⟨0, 80, 3, [[(i64 0), (i64 0), .zc]]⟩]) go0 zi80 rfl rfl ?_
 refine ao_str (st' := [⟨0, 80, 3, [(eRDecl c3)]⟩]) go0 ti80 rfl rfl rfl rfl rfl rfl (show 0 + 3 ≤ 3 by decide) rfl ?_
 refine dn hK2 rfl ?_
 refine AW.seq fun K4 hK4 => ?_
 refine sr rfl fun K5 hK5 => ?_
 refine zm tb 2 rfl ?_
 refine zl tb rfl rfl ?_
 refine zq tb rfl ?_
 refine dn hK5 rfl ?_
 refine ci h0 rfl ?_ ?_ <;> clear h0
 ·intro b6 h0
  refine AW.seq fun K7 hK7 => ?_
  refine AW.seq fun K8 hK8 => ?_
  obtain ⟨o10, h1, h0⟩ := Sh.bind_some h0
  have M10 : ∀ (t9 : Bool), o10 = t9 → ∀ s, Wk 0 s ⟨100, envL [(0, (ls eRDecl p0)), (5, (.ptr 0 0 0 0)), (29, (.bool t9))], [⟨0, 80, 3, [(eRDecl c3)]⟩]⟩ → K8 s := by
   intro t9 hq s hw
   subst o10
   try dsimp only at h0
   refine hK8 _ (AW.weaken hw ?_)
   refine ci h0 rfl ?_ ?_ <;> clear h0
   ·intro b11 h0
    refine zr tb rfl rfl ?_
    replace h0 := Sh.some_eq h0
    subst r
    exact AW.ret (xr (Wk.d0 [(4, (.bool false))] rfl))
   ·intro b11 h0
    refine AW.skip (hK7 _ ?_)
    refine AW.seq fun K13 hK13 => ?_
    refine zr tb rfl rfl ?_
    obtain ⟨o16, h1, h0⟩ := Sh.cont_some h0
    have M16 : ∀ (_ : Unit), o16 = Sum.inr () → ∀ s, Wk 0 s ⟨100, envL [], []⟩ → K13 s := by
     intro _ hq s hw
     subst o16
     try dsimp only at h0
     refine hK13 _ (AW.weaken hw ?_)
     refine zr tb rfl rfl ?_
     replace h0 := Sh.some_eq h0
     subst r
     exact AW.ret (xr (Wk.to (L := [(4, (.bool true))]) ⟨.rfl, trivial⟩))
    refine AW.block (AW.loopF (σ := Int) (fun n v => spec_validDecl_L1 N c3 p0 n v = some o16) (fun i15 => ⟨100, envL [(0, (ls eRDecl p0)), (5, (.ptr 0 0 0 0)), (6, (i64 i15))], [⟨0, 80, 3, [(eRDecl c3)]⟩]⟩) N 0 h1 (Wk.tr rfl) (fun _ hv => by rw [spec_validDecl_L1] at hv; cases hv) ?_)
    rintro n i15 h1
    try dsimp only at h1 ⊢
    rw [spec_validDecl_L1] at h1
    refine AW.seq fun K18 hK18 => ?_
    refine sr rfl fun K19 hK19 => ?_
    refine zm tb 3 rfl ?_
    refine zl tb rfl rfl ?_
    refine zq tb rfl ?_
    refine dn hK19 rfl ?_
    refine ci h1 rfl ?_ ?_ <;> clear h1
    ·intro b20 h1
     refine AW.skip (hK18 _ ?_)
     refine AW.seq fun K21 hK21 => ?_
     refine AW.block ?_
     refine AW.seq fun K22 hK22 => ?_
     obtain ⟨o24, h2, h1⟩ := Sh.bind_some h1
     have M24 : ∀ (t23 : Bool), o24 = t23 → ∀ s, Wk 0 s ⟨100, envL [(0, (ls eRDecl p0)), (5, (.ptr 0 0 0 0)), (6, (i64 i15)), (55, (.bool t23))], [⟨0, 80, 3, [(eRDecl c3)]⟩]⟩ → K22 s := by
      intro t23 hq s hw
      subst o24
      try dsimp only at h1
      refine hK22 _ (AW.weaken hw ?_)
      refine ci h1 rfl ?_ ?_ <;> clear h1
      ·intro b25 h1
       refine zr tb rfl rfl ?_
       replace h1 := Sh.some_eq h1
       subst o16
       try dsimp only [id] at h0
       replace h0 := Sh.some_eq h0
       subst r
       exact AW.ret (xr (Wk.d0 [(4, (.bool false))] rfl))
      ·intro b25 h1
       refine AW.skip (hK21 _ ?_)
       refine AW.regionO (by rfl) ?_
       refine zm tb 3 rfl ?_
       exact AO.done (xi (Sh.w (i15 + 1)) h1 (Wk.tr rfl))
     refine AW.regionO (by rfl) ?_
     refine zm tb 3 rfl ?_
     obtain ⟨c27, gc27, h2⟩ := Sh.bind_some h2
     refine zx ei78 gc27 rfl rfl rfl ?_
     refine zm tb 2 rfl ?_
     refine zl tb rfl rfl ?_
     refine zm tb 2 rfl ?_
     rcases Sh.ite_some h2 with ⟨b28, h2⟩ | ⟨b28, h2⟩
     ·refine zs b28 rfl ?_
      iterate 8 refine zs b28 rfl ?_
      refine zt b28 rfl ?_
      exact AO.done (M24 true (Sh.some_eq h2).symm _ (Wk.tr rfl))
     ·refine zg tb b28 rfl ?_
      iterate 3 refine zg tb b28 rfl ?_
      refine ao_q (v := (.iptr (eRCon c27) 0)) (go1 rfl rfl b28) rfl (aq_ixs ei78 rfl rfl gc27 rfl) ?_
      iterate 2 refine zg tb b28 rfl ?_
      obtain ⟨q29, gq29, h2⟩ := Sh.bind_some h2
      refine zd b28 hb67 (spec_allTypes_ok gq29) rfl rfl rfl rfl ?_
      refine zg tb b28 rfl ?_
      refine zf b28 rfl ?_
      exact AO.done (M24 (!q29) (Sh.some_eq h2).symm _ (Wk.tr rfl))
    ·intro b20 h1
     exact AW.exit (M16 () (Sh.some_eq h1).symm _ (Wk.d0 _ rfl))
  refine AW.regionO (by rfl) ?_
  refine zm tb 2 rfl ?_
  refine zl tb rfl rfl ?_
  refine zm tb 2 rfl ?_
  rcases Sh.ite_some h1 with ⟨b30, h1⟩ | ⟨b30, h1⟩
  ·refine zs b30 rfl ?_
   iterate 2 refine zs b30 rfl ?_
   refine zt b30 rfl ?_
   refine zq tb rfl ?_
   iterate 3 refine zs rfl rfl ?_
   refine zt rfl rfl ?_
   exact AO.done (M10 true (Sh.some_eq h1).symm _ (Wk.tr rfl))
  ·refine zg tb b30 rfl ?_
   iterate 2 refine zg tb b30 rfl ?_
   refine zf b30 rfl ?_
   refine zq tb rfl ?_
   rcases Sh.ite_some h1 with ⟨b31, h1⟩ | ⟨b31, h1⟩
   ·refine zs b31 rfl ?_
    iterate 2 refine zs b31 rfl ?_
    refine zt b31 rfl ?_
    exact AO.done (M10 true (Sh.some_eq h1).symm _ (Wk.tr rfl))
   ·refine zg tb b31 rfl ?_
    iterate 2 refine zg tb b31 rfl ?_
    refine zf b31 rfl ?_
    exact AO.done (M10 (!decide (c3.to = 0)) (Sh.some_eq h1).symm _ (Wk.tr rfl))
 ·intro b6 h0
  refine AW.skip (hK4 _ ?_)
  refine AW.seq fun K32 hK32 => ?_
  refine zr tb rfl rfl ?_
  obtain ⟨o35, h1, h0⟩ := Sh.cont_some h0
  have M35 : ∀ (_ : Unit), o35 = Sum.inr () → ∀ s, Wk 0 s ⟨100, envL [(0, (ls eRDecl p0)), (5, (.ptr 0 0 0 0))], [⟨0, 80, 3, [(eRDecl c3)]⟩]⟩ → K32 s := by
   intro _ hq s hw
   subst o35
   try dsimp only at h0
   refine hK32 _ (AW.weaken hw ?_)
   refine AW.seq fun K36 hK36 => ?_
   obtain ⟨o38, h1, h0⟩ := Sh.bind_some h0
   have M38 : ∀ (t37 : Bool), o38 = t37 → ∀ s, Wk 0 s ⟨100, envL [(4, (.bool t37))], []⟩ → K36 s := by
    intro t37 hq s hw
    subst o38
    try dsimp only at h0
    refine hK36 _ (AW.weaken hw ?_)
    replace h0 := Sh.some_eq h0
    subst r
    exact AW.ret (xr (Wk.to (L := [(4, (.bool t37))]) ⟨.rfl, trivial⟩))
   refine AW.regionO (by rfl) ?_
   refine zm tb 3 rfl ?_
   refine zl tb rfl rfl ?_
   obtain ⟨q39, gq39, h1⟩ := Sh.bind_some h1
   refine zc hb23 (spec_inRange_ok gq39) rfl rfl rfl ?_
   refine zq tb rfl ?_
   rcases Sh.ite_some h1 with ⟨b40, h1⟩ | ⟨b40, h1⟩
   ·refine zg tb b40 rfl ?_
    iterate 2 refine zg tb b40 rfl ?_
    refine ao_q (v := (i64 (Sh.len p0))) (go1 rfl rfl b40) rfl (aq_lens sl28 rfl) ?_
    obtain ⟨q41, gq41, h1⟩ := Sh.bind_some h1
    refine zd b40 hb23 (spec_inRange_ok gq41) rfl rfl rfl rfl ?_
    refine zt b40 rfl ?_
    refine zq tb rfl ?_
    exact AO.done (M38 q41 (Sh.some_eq h1).symm _ (Wk.d0 _ rfl))
   ·refine zs b40 rfl ?_
    iterate 4 refine zs b40 rfl ?_
    refine zf b40 rfl ?_
    refine zq tb rfl ?_
    exact AO.done (M38 false (Sh.some_eq h1).symm _ (Wk.d0 _ rfl))
  refine AW.block (AW.loopF (σ := Int) (fun n v => spec_validDecl_L2 c3 p0 p1 n v = some o35) (fun i34 => ⟨100, envL [(0, (ls eRDecl p0)), (1, (i64 p1)), (5, (.ptr 0 0 0 0)), (7, (i64 i34))], [⟨0, 80, 3, [(eRDecl c3)]⟩]⟩) N 0 h1 (Wk.tr rfl) (fun _ hv => by rw [spec_validDecl_L2] at hv; cases hv) ?_)
  rintro n i34 h1
  try dsimp only at h1 ⊢
  rw [spec_validDecl_L2] at h1
  refine AW.seq fun K42 hK42 => ?_
  refine zr tb rfl rfl ?_
  refine ci h1 rfl ?_ ?_ <;> clear h1
  ·intro b44 h1
   refine AW.skip (hK42 _ ?_)
   refine AW.seq fun K45 hK45 => ?_
   refine AW.block ?_
   refine AW.seq fun K46 hK46 => ?_
   obtain ⟨o48, h2, h1⟩ := Sh.bind_some h1
   have M48 : ∀ (t47 : Bool), o48 = t47 → ∀ s, Wk 0 s ⟨100, envL [(0, (ls eRDecl p0)), (1, (i64 p1)), (5, (.ptr 0 0 0 0)), (7, (i64 i34)), (87, (.bool t47))], [⟨0, 80, 3, [(eRDecl c3)]⟩]⟩ → K46 s := by
    intro t47 hq s hw
    subst o48
    try dsimp only at h1
    refine hK46 _ (AW.weaken hw ?_)
    refine ci h1 rfl ?_ ?_ <;> clear h1
    ·intro b49 h1
     refine zr tb rfl rfl ?_
     replace h1 := Sh.some_eq h1
     subst o35
     try dsimp only [id] at h0
     replace h0 := Sh.some_eq h0
     subst r
     exact AW.ret (xr (Wk.d0 [(4, (.bool false))] rfl))
    ·intro b49 h1
     refine AW.skip (hK45 _ ?_)
     refine AW.regionO (by rfl) ?_
     refine zm tb 3 rfl ?_
     exact AO.done (xi (Sh.w (i34 + 1)) h1 (Wk.tr rfl))
   refine AW.draw (by kernel_rfl) (by kernel_rfl) (by rfl) ?_
   iterate 2 refine yq tb rfl ?_
   obtain ⟨c51, gc51, h2⟩ := Sh.bind_some h2
   refine yx ei28 gc51 rfl rfl rfl ?_
   iterate 2 refine yq tb rfl ?_
   refine yl tb rfl rfl ?_
   iterate 2 refine yq tb rfl ?_
   rcases Sh.ite_some h2 with ⟨b52, h2⟩ | ⟨b52, h2⟩
   ·refine yg tb b52 rfl ?_
    refine yg tb b52 rfl ?_
    refine d_q (v := (.iptr (eRDecl c51) 0)) (go1 rfl rfl b52) rfl (aq_ixs ei28 rfl rfl gc51 rfl) ?_
    iterate 5 refine yg tb b52 rfl ?_
    refine yt b52 rfl ?_
    refine yq tb rfl ?_
    rcases Sh.ite_some h2 with ⟨b53, h2⟩ | ⟨b53, h2⟩
    ·refine yg tb b53 rfl ?_
     refine yg tb b53 rfl ?_
     refine d_q (v := (.iptr (eRDecl c51) 0)) (go1 rfl rfl b53) rfl (aq_ixs ei28 rfl rfl gc51 rfl) ?_
     iterate 5 refine yg tb b53 rfl ?_
     refine yt b53 rfl ?_
     exact d_done (M48 (decide (c51.to = c3.to)) (Sh.some_eq h2).symm _ (Wk.tr rfl))
    ·refine ys b53 rfl ?_
     iterate 7 refine ys b53 rfl ?_
     refine yf b53 rfl ?_
     exact d_done (M48 false (Sh.some_eq h2).symm _ (Wk.tr rfl))
   ·refine ys b52 rfl ?_
    iterate 7 refine ys b52 rfl ?_
    refine yf b52 rfl ?_
    refine yq tb rfl ?_
    iterate 8 refine ys rfl rfl ?_
    refine yf rfl rfl ?_
    exact d_done (M48 false (Sh.some_eq h2).symm _ (Wk.tr rfl))
  ·intro b44 h1
   exact AW.exit (M35 () (Sh.some_eq h1).symm _ (Wk.tr rfl))
theorem spec_validTypes_ok {N : Nat} {p0 : (List RDecl)} {r : Bool} (h0 : spec_validTypes N p0 = some r) : ACalls Try.prog 66 [(ls eRDecl p0)] [] (fun v st => v = (.bool r) ∧ st = []) := by
 unfold spec_validTypes at h0
 refine ai Try.func66 rfl rfl rfl rfl ?_
 refine zr tb rfl rfl ?_
 refine AW.seq fun K2 hK2 => ?_
 refine sr rfl fun K3 hK3 => ?_
 refine zq tb rfl ?_
 refine zl tb rfl rfl ?_
 refine zq tb rfl ?_
 refine dn hK3 rfl ?_
 refine ci h0 rfl ?_ ?_ <;> clear h0
 ·intro b4 h0
  refine zr tb rfl rfl ?_
  replace h0 := Sh.some_eq h0
  subst r
  exact AW.ret (xr (Wk.to (L := [(2, (.bool false))]) ⟨.rfl, trivial⟩))
 ·intro b4 h0
  refine AW.skip (hK2 _ ?_)
  refine AW.seq fun K6 hK6 => ?_
  refine zr tb rfl rfl ?_
  obtain ⟨o9, h1, h0⟩ := Sh.cont_some h0
  have M9 : ∀ (_ : Unit), o9 = Sum.inr () → ∀ s, Wk 0 s ⟨17, envL [], []⟩ → K6 s := by
   intro _ hq s hw
   subst o9
   try dsimp only at h0
   refine hK6 _ (AW.weaken hw ?_)
   refine zr tb rfl rfl ?_
   replace h0 := Sh.some_eq h0
   subst r
   exact AW.ret (xr (Wk.to (L := [(2, (.bool true))]) ⟨.rfl, trivial⟩))
  refine AW.block (AW.loopF (σ := Int) (fun n v => spec_validTypes_L1 N p0 n v = some o9) (fun i8 => ⟨17, envL [(0, (ls eRDecl p0)), (3, (i64 i8))], []⟩) N 0 h1 (Wk.tr rfl) (fun _ hv => by rw [spec_validTypes_L1] at hv; cases hv) ?_)
  rintro n i8 h1
  try dsimp only at h1 ⊢
  rw [spec_validTypes_L1] at h1
  refine AW.seq fun K11 hK11 => ?_
  refine sr rfl fun K12 hK12 => ?_
  refine zm tb 2 rfl ?_
  refine zl tb rfl rfl ?_
  refine zq tb rfl ?_
  refine dn hK12 rfl ?_
  refine ci h1 rfl ?_ ?_ <;> clear h1
  ·intro b13 h1
   refine AW.skip (hK11 _ ?_)
   refine AW.seq fun K14 hK14 => ?_
   refine AW.block ?_
   refine sr rfl fun K15 hK15 => ?_
   refine zm tb 2 rfl ?_
   obtain ⟨q16, gq16, h1⟩ := Sh.bind_some h1
   refine zc hb98 (spec_validDecl_ok gq16) rfl rfl rfl ?_
   refine zq tb rfl ?_
   refine dn hK15 rfl ?_
   refine ci h1 rfl ?_ ?_ <;> clear h1
   ·intro b17 h1
    have b18 : q16 = false := by simpa using b17
    refine zr tb rfl rfl ?_
    replace h1 := Sh.some_eq h1
    subst o9
    try dsimp only [id] at h0
    replace h0 := Sh.some_eq h0
    subst r
    exact AW.ret (xr (Wk.to (L := [(2, (.bool false))]) ⟨.rfl, trivial⟩))
   ·intro b17 h1
    have b20 : q16 = true := by simpa using b17
    refine AW.skip (hK14 _ ?_)
    refine AW.regionO (by rfl) ?_
    refine zm tb 3 rfl ?_
    exact AO.done (xi (Sh.w (i8 + 1)) h1 (Wk.tr rfl))
  ·intro b13 h1
   exact AW.exit (M9 () (Sh.some_eq h1).symm _ (Wk.tr rfl))
theorem spec_validSigs_ok {N : Nat} {p0 : RProgram} {r : Bool} (h0 : spec_validSigs N p0 = some r) : ACalls Try.prog 42 [(.agg [(ls eRDecl p0.decls), (ls eRFunc p0.funcs)])] [] (fun v st => v = (.bool r) ∧ st = []) := by
 unfold spec_validSigs at h0
 refine ai Try.func42 rfl rfl rfl rfl ?_
 refine sr rfl fun K1 hK1 => ?_
 refine ao_box (m := 0) (st' := [⟨0, 31, 2, [[(ls eRDecl p0.decls), (ls eRFunc p0.funcs)]]⟩]) go0 rfl rfl rfl rfl rfl ?_
 refine zq tb rfl ?_
 refine dn hK1 rfl ?_
 refine AW.seq fun K2 hK2 => ?_
 refine AW.seq fun K3 hK3 => ?_
 obtain ⟨o5, h1, h0⟩ := Sh.bind_some h0
 have M5 : ∀ (t4 : Bool), o5 = t4 → ∀ s, Wk 0 s ⟨64, envL [(1, (.ptr 0 0 0 0)), (15, (.bool t4))], [⟨0, 31, 2, [[(ls eRDecl p0.decls), (ls eRFunc p0.funcs)]]⟩]⟩ → K3 s := by
  intro t4 hq s hw
  subst o5
  try dsimp only at h0
  refine hK3 _ (AW.weaken hw ?_)
  refine ci h0 rfl ?_ ?_ <;> clear h0
  ·intro b6 h0
   refine zr tb rfl rfl ?_
   replace h0 := Sh.some_eq h0
   subst r
   exact AW.ret (xr (Wk.d0 [(2, (.bool false))] rfl))
  ·intro b6 h0
   refine AW.skip (hK2 _ ?_)
   refine AW.seq fun K8 hK8 => ?_
   refine zr tb rfl rfl ?_
   obtain ⟨o11, h1, h0⟩ := Sh.cont_some h0
   have M11 : ∀ (_ : Unit), o11 = Sum.inr () → ∀ s, Wk 0 s ⟨64, envL [(1, (.ptr 0 0 0 0))], [⟨0, 31, 2, [[(ls eRDecl p0.decls), (ls eRFunc p0.funcs)]]⟩]⟩ → K8 s := by
    intro _ hq s hw
    subst o11
    try dsimp only at h0
    refine hK8 _ (AW.weaken hw ?_)
    refine AW.seq fun K12 hK12 => ?_
    obtain ⟨o14, h1, h0⟩ := Sh.bind_some h0
    have M14 : ∀ (t13 : Bool), o14 = t13 → ∀ s, Wk 0 s ⟨64, envL [(2, (.bool t13))], []⟩ → K12 s := by
     intro t13 hq s hw
     subst o14
     try dsimp only at h0
     refine hK12 _ (AW.weaken hw ?_)
     replace h0 := Sh.some_eq h0
     subst r
     exact AW.ret (xr (Wk.to (L := [(2, (.bool t13))]) ⟨.rfl, trivial⟩))
    refine AW.regionO (by rfl) ?_
    refine zm tb 2 rfl ?_
    obtain ⟨c15, gc15, h1⟩ := Sh.bind_some h1
    refine zx ei29 gc15 rfl rfl rfl ?_
    refine zm tb 2 rfl ?_
    refine zl tb rfl rfl ?_
    refine zm tb 2 rfl ?_
    rcases Sh.ite_some h1 with ⟨b16, h1⟩ | ⟨b16, h1⟩
    ·refine zg tb b16 rfl ?_
     refine zg tb b16 rfl ?_
     refine ao_q (v := (.iptr (eRFunc c15) 0)) (go1 rfl rfl b16) rfl (aq_ixs ei29 rfl rfl gc15 rfl) ?_
     iterate 3 refine zg tb b16 rfl ?_
     refine zt b16 rfl ?_
     refine zq tb rfl ?_
     exact AO.done (M14 (decide (c15.result = 0)) (Sh.some_eq h1).symm _ (Wk.d0 _ rfl))
    ·refine zs b16 rfl ?_
     iterate 5 refine zs b16 rfl ?_
     refine zf b16 rfl ?_
     refine zq tb rfl ?_
     exact AO.done (M14 false (Sh.some_eq h1).symm _ (Wk.d0 _ rfl))
   refine AW.block (AW.loopF (σ := Int) (fun n v => spec_validSigs_L1 N p0 n v = some o11) (fun i10 => ⟨64, envL [(1, (.ptr 0 0 0 0)), (3, (i64 i10))], [⟨0, 31, 2, [[(ls eRDecl p0.decls), (ls eRFunc p0.funcs)]]⟩]⟩) N 0 h1 (Wk.tr rfl) (fun _ hv => by rw [spec_validSigs_L1] at hv; cases hv) ?_)
   rintro n i10 h1
   try dsimp only at h1 ⊢
   rw [spec_validSigs_L1] at h1
   refine AW.seq fun K17 hK17 => ?_
   refine sr rfl fun K18 hK18 => ?_
   refine zm tb 3 rfl ?_
   refine zl tb rfl rfl ?_
   refine zq tb rfl ?_
   refine dn hK18 rfl ?_
   refine ci h1 rfl ?_ ?_ <;> clear h1
   ·intro b19 h1
    refine AW.skip (hK17 _ ?_)
    refine AW.seq fun K20 hK20 => ?_
    refine AW.block ?_
    refine sr rfl fun K21 hK21 => ?_
    refine zm tb 3 rfl ?_
    obtain ⟨c22, gc22, h1⟩ := Sh.bind_some h1
    refine zx ei29 gc22 rfl rfl rfl ?_
    refine zq tb rfl ?_
    refine ao_alloc (m := 1) (st' := [⟨0, 31, 2, [[(ls eRDecl p0.decls), (ls eRFunc p0.funcs)]]⟩, ⟨0, 52, 5, [[.zc, (i64 0), (i64 0), (i64 0), .zc]]⟩]) go0 zi52 rfl rfl ?_
    refine ao_str (st' := [⟨0, 31, 2, [[(ls eRDecl p0.decls), (ls eRFunc p0.funcs)]]⟩, ⟨0, 52, 5, [[(ls eI c22.params), (i64 c22.result), (i64 c22.body.op), (i64 c22.body.num), (ls eRExpr c22.body.kids)]]⟩]) go0 ti52 rfl rfl rfl rfl rfl rfl (show 0 + 5 ≤ 5 by decide) rfl ?_
    refine dn hK21 rfl ?_
    refine AW.seq fun K23 hK23 => ?_
    obtain ⟨o25, h2, h1⟩ := Sh.bind_some h1
    have M25 : ∀ (t24 : Bool), o25 = t24 → ∀ s, Wk 0 s ⟨64, envL [(1, (.ptr 0 0 0 0)), (3, (i64 i10)), (48, (.bool t24))], [⟨0, 31, 2, [[(ls eRDecl p0.decls), (ls eRFunc p0.funcs)]]⟩]⟩ → K23 s := by
     intro t24 hq s hw
     subst o25
     try dsimp only at h1
     refine hK23 _ (AW.weaken hw ?_)
     refine ci h1 rfl ?_ ?_ <;> clear h1
     ·intro b26 h1
      refine zr tb rfl rfl ?_
      replace h1 := Sh.some_eq h1
      subst o11
      try dsimp only [id] at h0
      replace h0 := Sh.some_eq h0
      subst r
      exact AW.ret (xr (Wk.d0 [(2, (.bool false))] rfl))
     ·intro b26 h1
      refine AW.skip (hK20 _ ?_)
      refine AW.regionO (by rfl) ?_
      refine zm tb 3 rfl ?_
      exact AO.done (xi (Sh.w (i10 + 1)) h1 (Wk.tr rfl))
    refine AW.regionO (by rfl) ?_
    refine zm tb 2 rfl ?_
    refine zl tb rfl rfl ?_
    refine zm tb 2 rfl ?_
    rcases Sh.ite_some h2 with ⟨b28, h2⟩ | ⟨b28, h2⟩
    ·refine zs b28 rfl ?_
     iterate 5 refine zs b28 rfl ?_
     refine zt b28 rfl ?_
     refine zq tb rfl ?_
     iterate 7 refine zs rfl rfl ?_
     refine zt rfl rfl ?_
     exact AO.done (M25 true (Sh.some_eq h2).symm _ (Wk.permk (L := [(1, (.ptr 0 0 0 0)), (3, (i64 i10)), (48, (.bool true))]) (st' := [⟨0, 31, 2, [[(ls eRDecl p0.decls), (ls eRFunc p0.funcs)]]⟩]) (st1 := [⟨0, 31, 2, [[(ls eRDecl p0.decls), (ls eRFunc p0.funcs)]]⟩]) [0] rfl .nil (by decide) rfl rfl (.raw rfl rfl .nil) ⟨.rfl, .rfl, .rfl, trivial⟩))
    ·refine zg tb b28 rfl ?_
     iterate 3 refine zg tb b28 rfl ?_
     obtain ⟨q29, gq29, h2⟩ := Sh.bind_some h2
     refine zd b28 hb67 (spec_allTypes_ok gq29) rfl rfl rfl rfl ?_
     refine zg tb b28 rfl ?_
     refine zf b28 rfl ?_
     refine zq tb rfl ?_
     rcases Sh.ite_some h2 with ⟨b30, h2⟩ | ⟨b30, h2⟩
     ·refine zs b30 rfl ?_
      iterate 6 refine zs b30 rfl ?_
      refine zt b30 rfl ?_
      exact AO.done (M25 true (Sh.some_eq h2).symm _ (Wk.permk (L := [(1, (.ptr 0 0 0 0)), (3, (i64 i10)), (48, (.bool true))]) (st' := [⟨0, 31, 2, [[(ls eRDecl p0.decls), (ls eRFunc p0.funcs)]]⟩]) (st1 := [⟨0, 31, 2, [[(ls eRDecl p0.decls), (ls eRFunc p0.funcs)]]⟩]) [0] rfl .nil (by decide) rfl rfl (.raw rfl rfl .nil) ⟨.rfl, .rfl, .rfl, trivial⟩))
     ·refine zg tb b30 rfl ?_
      iterate 3 refine zg tb b30 rfl ?_
      refine ao_q (v := (i64 (Sh.len p0.decls))) (go1 rfl rfl b30) rfl (aq_lens sl28 rfl) ?_
      obtain ⟨q31, gq31, h2⟩ := Sh.bind_some h2
      refine zd b30 hb23 (spec_inRange_ok gq31) rfl rfl rfl rfl ?_
      refine zg tb b30 rfl ?_
      refine zf b30 rfl ?_
      exact AO.done (M25 (!q31) (Sh.some_eq h2).symm _ (Wk.permk (L := [(1, (.ptr 0 0 0 0)), (3, (i64 i10)), (48, (.bool (!q31)))]) (st' := [⟨0, 31, 2, [[(ls eRDecl p0.decls), (ls eRFunc p0.funcs)]]⟩]) (st1 := [⟨0, 31, 2, [[(ls eRDecl p0.decls), (ls eRFunc p0.funcs)]]⟩]) [0] rfl .nil (by decide) rfl rfl (.raw rfl rfl .nil) ⟨.rfl, .rfl, .rfl, trivial⟩))
   ·intro b19 h1
    exact AW.exit (M11 () (Sh.some_eq h1).symm _ (Wk.tr rfl))
 refine AW.regionO (by rfl) ?_
 refine zm tb 2 rfl ?_
 obtain ⟨q32, gq32, h1⟩ := Sh.bind_some h1
 refine zc hb66 (spec_validTypes_ok gq32) rfl rfl rfl ?_
 refine zm tb 2 rfl ?_
 rcases Sh.ite_some h1 with ⟨b33, h1⟩ | ⟨b33, h1⟩
 ·refine zs b33 rfl ?_
  iterate 4 refine zs b33 rfl ?_
  refine zt b33 rfl ?_
  exact AO.done (M5 true (Sh.some_eq h1).symm _ (Wk.tr rfl))
 ·refine zg tb b33 rfl ?_
  refine zg tb b33 rfl ?_
  refine ao_q (v := (i64 (Sh.len p0.funcs))) (go1 rfl rfl b33) rfl (aq_lens sl29 rfl) ?_
  obtain ⟨q34, gq34, h1⟩ := Sh.bind_some h1
  refine zd b33 hb23 (spec_inRange_ok gq34) rfl rfl rfl rfl ?_
  refine zg tb b33 rfl ?_
  refine zf b33 rfl ?_
  exact AO.done (M5 (!q34) (Sh.some_eq h1).symm _ (Wk.tr rfl))
theorem spec_nodesLeft_B_ok {N : Nat} {rec_spec_nodesLeft : RExpr → Int → Option (Int)} (hrec_spec_nodesLeft : ∀ {p0 : RExpr} {p1 : Int} {r : Int}, rec_spec_nodesLeft p0 p1 = some r → ACalls Try.prog 68 [(.agg [(i64 p0.op), (i64 p0.num), (ls eRExpr p0.kids)]), (i64 p1)] [] (fun v st => v = (i64 r) ∧ st = [])) {p0 : RExpr} {p1 : Int} {r : Int} (h0 : spec_nodesLeft_B N rec_spec_nodesLeft p0 p1 = some r) : ACalls Try.prog 68 [(.agg [(i64 p0.op), (i64 p0.num), (ls eRExpr p0.kids)]), (i64 p1)] [] (fun v st => v = (i64 r) ∧ st = []) := by
 unfold spec_nodesLeft_B at h0
 refine ai Try.func68 rfl rfl rfl rfl ?_
 refine sr rfl fun K1 hK1 => ?_
 refine ao_box (m := 0) (st' := [⟨0, 50, 3, [[(i64 p0.op), (i64 p0.num), (ls eRExpr p0.kids)]]⟩]) go0 rfl rfl rfl rfl rfl ?_
 refine zq tb rfl ?_
 refine dn hK1 rfl ?_
 refine AW.seq fun K2 hK2 => ?_
 refine zr tb rfl rfl ?_
 refine ci h0 rfl ?_ ?_ <;> clear h0
 ·intro b4 h0
  refine zr tb rfl rfl ?_
  replace h0 := Sh.some_eq h0
  subst r
  exact AW.ret (xr (Wk.d0 [(4, (i64 (-1)))] rfl))
 ·intro b4 h0
  refine AW.skip (hK2 _ ?_)
  refine zr tb rfl rfl ?_
  refine AW.seq fun K7 hK7 => ?_
  refine zr tb rfl rfl ?_
  obtain ⟨o12, h1, h0⟩ := Sh.cont_some h0
  have M12 : ∀ (left11 : Int), o12 = Sum.inr left11 → ∀ s, Wk 0 s ⟨27, envL [(1, (i64 left11))], []⟩ → K7 s := by
   intro left11 hq s hw
   subst o12
   try dsimp only at h0
   refine hK7 _ (AW.weaken hw ?_)
   refine zr tb rfl rfl ?_
   replace h0 := Sh.some_eq h0
   subst r
   exact AW.ret (xr (Wk.to (L := [(4, (i64 left11))]) ⟨.rfl, trivial⟩))
  refine AW.block (AW.loopF (σ := Int × Int) (fun n v => spec_nodesLeft_B_L1 p0 rec_spec_nodesLeft n v.1 v.2 = some o12) (fun (left9, i10) => ⟨27, envL [(1, (i64 left9)), (2, (.ptr 0 0 0 0)), (5, (i64 i10))], [⟨0, 50, 3, [[(i64 p0.op), (i64 p0.num), (ls eRExpr p0.kids)]]⟩]⟩) N (Sh.w (p1 - 1), 0) h1 (Wk.tr rfl) (fun _ hv => by rw [spec_nodesLeft_B_L1] at hv; cases hv) ?_)
  rintro n ⟨left9, i10⟩ h1
  try dsimp only at h1 ⊢
  rw [spec_nodesLeft_B_L1] at h1
  refine AW.seq fun K14 hK14 => ?_
  refine sr rfl fun K15 hK15 => ?_
  refine zm tb 3 rfl ?_
  refine zl tb rfl rfl ?_
  refine zq tb rfl ?_
  refine dn hK15 rfl ?_
  refine ci h1 rfl ?_ ?_ <;> clear h1
  ·intro b16 h1
   refine AW.skip (hK14 _ ?_)
   refine AW.seq fun K17 hK17 => ?_
   refine AW.block ?_
   refine sr rfl fun K18 hK18 => ?_
   refine zm tb 3 rfl ?_
   obtain ⟨c19, gc19, h1⟩ := Sh.bind_some h1
   refine zz (.iptr [(i64 c19.op), (i64 c19.num), (ls eRExpr c19.kids)] 0) (aq_ixsE ei48 rfl rfl gc19 (eRExpr_eq _) rfl) rfl ?_
   refine zm tb 2 rfl ?_
   obtain ⟨q20, gq20, h1⟩ := Sh.bind_some h1
   refine zc hb68 (hrec_spec_nodesLeft gq20) rfl rfl rfl ?_
   refine zq tb rfl ?_
   refine dn hK18 rfl ?_
   refine zr tb rfl rfl ?_
   refine ci h1 rfl ?_ ?_ <;> clear h1
   ·intro b22 h1
    refine zr tb rfl rfl ?_
    replace h1 := Sh.some_eq h1
    subst o12
    try dsimp only [id] at h0
    replace h0 := Sh.some_eq h0
    subst r
    exact AW.ret (xr (Wk.d0 [(4, (i64 (-1)))] rfl))
   ·intro b22 h1
    refine AW.skip (hK17 _ ?_)
    refine AW.regionO (by rfl) ?_
    refine zm tb 3 rfl ?_
    exact AO.done (xi (q20, Sh.w (i10 + 1)) h1 (Wk.tr rfl))
  ·intro b16 h1
   exact AW.exit (M12 left9 (Sh.some_eq h1).symm _ (Wk.d0 _ rfl))

theorem spec_nodesLeft_F_ok {N : Nat} : ∀ (n : Nat), ∀ {p0 : RExpr} {p1 : Int} {r : Int}, spec_nodesLeft_F N n p0 p1 = some r → ACalls Try.prog 68 [(.agg [(i64 p0.op), (i64 p0.num), (ls eRExpr p0.kids)]), (i64 p1)] [] (fun v st => v = (i64 r) ∧ st = []) := by
 intro n
 induction n with
 | zero => intro p0 p1 r h0; cases h0
 | succ n ih =>
  intro p0 p1 r h0
  rw [spec_nodesLeft_F] at h0
  exact spec_nodesLeft_B_ok (fun h => ih h) h0
theorem spec_nodesLeft_ok {N : Nat} : ∀ {p0 : RExpr} {p1 : Int} {r : Int}, spec_nodesLeft N p0 p1 = some r → ACalls Try.prog 68 [(.agg [(i64 p0.op), (i64 p0.num), (ls eRExpr p0.kids)]), (i64 p1)] [] (fun v st => v = (i64 r) ∧ st = []) := by
 intro p0 p1 r h0
 exact spec_nodesLeft_F_ok N h0
theorem spec_nodesOf_ok {N : Nat} {p0 : RExpr} {r : Int} (h0 : spec_nodesOf N p0 = some r) : ACalls Try.prog 43 [(.agg [(i64 p0.op), (i64 p0.num), (ls eRExpr p0.kids)])] [] (fun v st => v = (i64 r) ∧ st = []) := by
 unfold spec_nodesOf at h0
 refine ai Try.func43 rfl rfl rfl rfl ?_
 refine sr rfl fun K1 hK1 => ?_
 refine ao_box (m := 0) (st' := [⟨0, 50, 3, [[(i64 p0.op), (i64 p0.num), (ls eRExpr p0.kids)]]⟩]) go0 rfl rfl rfl rfl rfl ?_
 refine zq tb rfl ?_
 refine dn hK1 rfl ?_
 refine sr rfl fun K2 hK2 => ?_
 refine zq tb rfl ?_
 obtain ⟨q3, gq3, h0⟩ := Sh.bind_some h0
 refine zc hb68 (spec_nodesLeft_ok gq3) rfl rfl rfl ?_
 refine zq tb rfl ?_
 refine dn hK2 rfl ?_
 refine AW.seq fun K4 hK4 => ?_
 refine zr tb rfl rfl ?_
 refine ci h0 rfl ?_ ?_ <;> clear h0
 ·intro b6 h0
  refine zr tb rfl rfl ?_
  replace h0 := Sh.some_eq h0
  subst r
  exact AW.ret (xr (Wk.d0 [(2, (i64 (-1)))] rfl))
 ·intro b6 h0
  refine AW.skip (hK4 _ ?_)
  refine zr tb rfl rfl ?_
  replace h0 := Sh.some_eq h0
  subst r
  exact AW.ret (xr (Wk.d0 [(2, (i64 (Sh.w (30 - q3))))] rfl))
theorem spec_allInts_ok {N : Nat} {rec_spec_typeOf : RProgram → (List Int) → RExpr → Option (Int)} (hrec_spec_typeOf : ∀ {p0 : RProgram} {p1 : (List Int)} {p2 : RExpr} {r : Int}, rec_spec_typeOf p0 p1 p2 = some r → ACalls Try.prog 44 [(.agg [(ls eRDecl p0.decls), (ls eRFunc p0.funcs)]), (ls eI p1), (.agg [(i64 p2.op), (i64 p2.num), (ls eRExpr p2.kids)])] [] (fun v st => v = (i64 r) ∧ st = [])) {p0 : RProgram} {p1 : (List Int)} {p2 : (List RExpr)} {p3 : Int} {r : Bool} (h0 : spec_allInts N rec_spec_typeOf p0 p1 p2 p3 = some r) : ACalls Try.prog 69 [(.agg [(ls eRDecl p0.decls), (ls eRFunc p0.funcs)]), (ls eI p1), (ls eRExpr p2), (i64 p3)] [] (fun v st => v = (.bool r) ∧ st = []) := by
 unfold spec_allInts at h0
 refine ai Try.func69 rfl rfl rfl rfl ?_
 refine sr rfl fun K1 hK1 => ?_
 refine ao_box (m := 0) (st' := [⟨0, 31, 2, [[(ls eRDecl p0.decls), (ls eRFunc p0.funcs)]]⟩]) go0 rfl rfl rfl rfl rfl ?_
 refine zq tb rfl ?_
 refine dn hK1 rfl ?_
 refine AW.seq fun K2 hK2 => ?_
 refine sr rfl fun K3 hK3 => ?_
 refine zq tb rfl ?_
 refine zl tb rfl rfl ?_
 refine zm tb 2 rfl ?_
 refine dn hK3 rfl ?_
 refine ci h0 rfl ?_ ?_ <;> clear h0
 ·intro b4 h0
  have b5 : decide ((Sh.len p2) = p3) = false := by simpa using b4
  refine zr tb rfl rfl ?_
  replace h0 := Sh.some_eq h0
  subst r
  exact AW.ret (xr (Wk.d0 [(8, (.bool false))] rfl))
 ·intro b4 h0
  have b7 : decide ((Sh.len p2) = p3) = true := by simpa using b4
  refine AW.skip (hK2 _ ?_)
  refine AW.seq fun K8 hK8 => ?_
  refine zr tb rfl rfl ?_
  obtain ⟨o11, h1, h0⟩ := Sh.cont_some h0
  have M11 : ∀ (_ : Unit), o11 = Sum.inr () → ∀ s, Wk 0 s ⟨27, envL [], []⟩ → K8 s := by
   intro _ hq s hw
   subst o11
   try dsimp only at h0
   refine hK8 _ (AW.weaken hw ?_)
   refine zr tb rfl rfl ?_
   replace h0 := Sh.some_eq h0
   subst r
   exact AW.ret (xr (Wk.to (L := [(8, (.bool true))]) ⟨.rfl, trivial⟩))
  refine AW.block (AW.loopF (σ := Int) (fun n v => spec_allInts_L1 p0 p1 p2 p3 rec_spec_typeOf n v = some o11) (fun i10 => ⟨27, envL [(1, (ls eI p1)), (2, (ls eRExpr p2)), (3, (i64 p3)), (4, (.ptr 0 0 0 0)), (9, (i64 i10))], [⟨0, 31, 2, [[(ls eRDecl p0.decls), (ls eRFunc p0.funcs)]]⟩]⟩) N 0 h1 (Wk.tr rfl) (fun _ hv => by rw [spec_allInts_L1] at hv; cases hv) ?_)
  rintro n i10 h1
  try dsimp only at h1 ⊢
  rw [spec_allInts_L1] at h1
  refine AW.seq fun K13 hK13 => ?_
  refine zr tb rfl rfl ?_
  refine ci h1 rfl ?_ ?_ <;> clear h1
  ·intro b15 h1
   refine AW.skip (hK13 _ ?_)
   refine AW.seq fun K16 hK16 => ?_
   refine AW.block ?_
   refine AW.seq fun K17 hK17 => ?_
   refine AW.draw (by kernel_rfl) (by kernel_rfl) (by rfl) ?_
   iterate 4 refine yq tb rfl ?_
   obtain ⟨c18, gc18, h1⟩ := Sh.bind_some h1
   refine yz (.iptr [(i64 c18.op), (i64 c18.num), (ls eRExpr c18.kids)] 0) (aq_ixsE ei48 rfl rfl gc18 (eRExpr_eq _) rfl) rfl ?_
   refine yq tb rfl ?_
   obtain ⟨q19, gq19, h1⟩ := Sh.bind_some h1
   refine d_call (v := (i64 q19)) go0 hb44 (hrec_spec_typeOf gq19) rfl rfl rfl ?_
   refine yq tb rfl ?_
   refine d_done (hK17 _ ?_)
   refine ci h1 rfl ?_ ?_ <;> clear h1
   ·intro b20 h1
    have b21 : decide (q19 = 0) = false := by simpa using b20
    refine zr tb rfl rfl ?_
    replace h1 := Sh.some_eq h1
    subst o11
    try dsimp only [id] at h0
    replace h0 := Sh.some_eq h0
    subst r
    exact AW.ret (xr (Wk.d0 [(8, (.bool false))] rfl))
   ·intro b20 h1
    have b23 : decide (q19 = 0) = true := by simpa using b20
    refine AW.skip (hK16 _ ?_)
    refine AW.regionO (by rfl) ?_
    refine zm tb 3 rfl ?_
    exact AO.done (xi (Sh.w (i10 + 1)) h1 (Wk.tr rfl))
  ·intro b15 h1
   exact AW.exit (M11 () (Sh.some_eq h1).symm _ (Wk.d0 _ rfl))
theorem spec_firstCon_ok {N : Nat} {p0 : (List RDecl)} {p1 : Int} {r : Int} (h0 : spec_firstCon N p0 p1 = some r) : ACalls Try.prog 99 [(ls eRDecl p0), (i64 p1)] [] (fun v st => v = (i64 r) ∧ st = []) := by
 unfold spec_firstCon at h0
 refine ai Try.func99 rfl rfl rfl rfl ?_
 iterate 2 refine zr tb rfl rfl ?_
 refine AW.seq fun K3 hK3 => ?_
 refine zr tb rfl rfl ?_
 obtain ⟨o8, h1, h0⟩ := Sh.bind_some h0
 have M8 : ∀ (n7 : Int), o8 = n7 → ∀ s, Wk 0 s ⟨21, envL [(5, (i64 n7))], []⟩ → K3 s := by
  intro n7 hq s hw
  subst o8
  try dsimp only at h0
  refine hK3 _ (AW.weaken hw ?_)
  refine zr tb rfl rfl ?_
  replace h0 := Sh.some_eq h0
  subst r
  exact AW.ret (xr (Wk.to (L := [(4, (i64 n7))]) ⟨.rfl, trivial⟩))
 refine AW.block (AW.loopF (σ := Int × Int) (fun n v => spec_firstCon_L1 p0 p1 n v.1 v.2 = some o8) (fun (n5, i6) => ⟨21, envL [(0, (ls eRDecl p0)), (1, (i64 p1)), (5, (i64 n5)), (6, (i64 i6))], []⟩) N (0, 0) h1 (Wk.tr rfl) (fun _ hv => by rw [spec_firstCon_L1] at hv; cases hv) ?_)
 rintro n ⟨n5, i6⟩ h1
 try dsimp only at h1 ⊢
 rw [spec_firstCon_L1] at h1
 refine AW.seq fun K10 hK10 => ?_
 refine zr tb rfl rfl ?_
 refine ci h1 rfl ?_ ?_ <;> clear h1
 ·intro b12 h1
  refine AW.skip (hK10 _ ?_)
  refine AW.seq fun K13 hK13 => ?_
  refine AW.block ?_
  refine AW.regionO (by rfl) ?_
  refine zm tb 3 rfl ?_
  obtain ⟨c14, gc14, h1⟩ := Sh.bind_some h1
  refine zx ei28 gc14 rfl rfl rfl ?_
  refine zm tb 2 rfl ?_
  refine zl tb rfl rfl ?_
  refine zm tb 2 rfl ?_
  refine dn hK13 rfl ?_
  refine AW.regionO (by rfl) ?_
  refine zm tb 3 rfl ?_
  exact AO.done (xi (Sh.w (n5 + (Sh.len c14.cons)), Sh.w (i6 + 1)) h1 (Wk.tr rfl))
 ·intro b12 h1
  exact AW.exit (M8 n5 (Sh.some_eq h1).symm _ (Wk.tr rfl))
theorem spec_conType_ok {N : Nat} {p0 : (List RDecl)} {p1 : Int} {r : Int} (h0 : spec_conType N p0 p1 = some r) : ACalls Try.prog 70 [(ls eRDecl p0), (i64 p1)] [] (fun v st => v = (i64 r) ∧ st = []) := by
 unfold spec_conType at h0
 refine ai Try.func70 rfl rfl rfl rfl ?_
 refine zr tb rfl rfl ?_
 refine AW.seq fun K2 hK2 => ?_
 refine zr tb rfl rfl ?_
 obtain ⟨o5, h1, h0⟩ := Sh.cont_some h0
 have M5 : ∀ (_ : Unit), o5 = Sum.inr () → ∀ s, Wk 0 s ⟨30, envL [], []⟩ → K2 s := by
  intro _ hq s hw
  subst o5
  try dsimp only at h0
  refine hK2 _ (AW.weaken hw ?_)
  refine zr tb rfl rfl ?_
  replace h0 := Sh.some_eq h0
  subst r
  exact AW.ret (xr (Wk.to (L := [(4, (i64 (-1)))]) ⟨.rfl, trivial⟩))
 refine AW.block (AW.loopF (σ := Int) (fun n v => spec_conType_L1 N p0 p1 n v = some o5) (fun i4 => ⟨30, envL [(0, (ls eRDecl p0)), (1, (i64 p1)), (5, (i64 i4))], []⟩) N 0 h1 (Wk.tr rfl) (fun _ hv => by rw [spec_conType_L1] at hv; cases hv) ?_)
 rintro n i4 h1
 try dsimp only at h1 ⊢
 rw [spec_conType_L1] at h1
 refine AW.seq fun K7 hK7 => ?_
 refine sr rfl fun K8 hK8 => ?_
 refine zm tb 2 rfl ?_
 refine zl tb rfl rfl ?_
 refine zq tb rfl ?_
 refine dn hK8 rfl ?_
 refine ci h1 rfl ?_ ?_ <;> clear h1
 ·intro b9 h1
  refine AW.skip (hK7 _ ?_)
  refine AW.seq fun K10 hK10 => ?_
  refine AW.block ?_
  refine sr rfl fun K11 hK11 => ?_
  refine zm tb 2 rfl ?_
  obtain ⟨q12, gq12, h1⟩ := Sh.bind_some h1
  refine zc hb99 (spec_firstCon_ok gq12) rfl rfl rfl ?_
  refine zq tb rfl ?_
  refine dn hK11 rfl ?_
  refine sr rfl fun K13 hK13 => ?_
  refine zm tb 5 rfl ?_
  obtain ⟨c14, gc14, h1⟩ := Sh.bind_some h1
  refine zx ei28 gc14 rfl rfl rfl ?_
  refine zm tb 2 rfl ?_
  refine zl tb rfl rfl ?_
  refine zm tb 2 rfl ?_
  obtain ⟨q15, gq15, h1⟩ := Sh.bind_some h1
  refine zc hb23 (spec_inRange_ok gq15) rfl rfl rfl ?_
  refine dn hK13 rfl ?_
  refine ci h1 rfl ?_ ?_ <;> clear h1
  ·intro b16 h1
   refine zr tb rfl rfl ?_
   replace h1 := Sh.some_eq h1
   subst o5
   try dsimp only [id] at h0
   replace h0 := Sh.some_eq h0
   subst r
   exact AW.ret (xr (Wk.to (L := [(4, (i64 (Sh.w (i4 + 1))))]) ⟨.rfl, trivial⟩))
  ·intro b16 h1
   refine AW.skip (hK10 _ ?_)
   refine AW.regionO (by rfl) ?_
   refine zm tb 3 rfl ?_
   exact AO.done (xi (Sh.w (i4 + 1)) h1 (Wk.tr rfl))
 ·intro b9 h1
  exact AW.exit (M5 () (Sh.some_eq h1).symm _ (Wk.tr rfl))
theorem spec_conFields_ok {N : Nat} {p0 : (List RDecl)} {p1 : Int} {r : (List Int)} (h0 : spec_conFields N p0 p1 = some r) : ACalls Try.prog 72 [(ls eRDecl p0), (i64 p1)] [] (fun v st => v = (ls eI r) ∧ st = []) := by
 unfold spec_conFields at h0
 refine ai Try.func72 rfl rfl rfl rfl ?_
 refine zr tb rfl rfl ?_
 refine sr rfl fun K2 hK2 => ?_
 refine zm tb 2 rfl ?_
 obtain ⟨q3, gq3, h0⟩ := Sh.bind_some h0
 refine zc hb70 (spec_conType_ok gq3) rfl rfl rfl ?_
 refine zq tb rfl ?_
 refine dn hK2 rfl ?_
 refine AW.seq fun K4 hK4 => ?_
 refine zr tb rfl rfl ?_
 refine ci h0 rfl ?_ ?_ <;> clear h0
 ·intro b6 h0
  refine sr rfl fun K7 hK7 => ?_
  refine ao_bs (m := 0) (st' := [(ro 0 3 1 eI ([] : List Int))]) (l := ([] : List Int)) (enc := eI) go0 ei40 (by decide) rfl rfl rfl rfl rfl rfl ?_
  refine zq tb rfl ?_
  refine dn hK7 rfl ?_
  replace h0 := Sh.some_eq h0
  subst r
  exact AW.ret (Exists.intro ⟨27, envL [(4, (.sl (List.map eI [])))], []⟩ (And.intro (by refine Wk.trans (Wk.frz (L := [(4, (.sl (List.map eI [])))]) (st' := [⟨1, 3, 1, []⟩]) (id := 0) rfl (show 0 ≤ 0 by decide) (pure_map fun _ => rfl) ⟨(.frz rfl), trivial⟩ rfl) ?_; refine Wk.trans (Wk.permk (L := [(4, (.sl (List.map eI [])))]) (st' := []) (st1 := []) [] rfl .nil (by decide) rfl rfl .nil ⟨.rfl, trivial⟩) ?_; exact Wk.to (L := [(4, (.sl (List.map eI [])))]) ⟨.rfl, trivial⟩) (And.intro rfl rfl)))
 ·intro b6 h0
  refine AW.skip (hK4 _ ?_)
  refine AW.seq fun K8 hK8 => ?_
  refine AW.draw (by kernel_rfl) (by kernel_rfl) (by rfl) ?_
  iterate 3 refine yq tb rfl ?_
  obtain ⟨c9, gc9, h0⟩ := Sh.bind_some h0
  refine yx ei28 gc9 rfl rfl rfl ?_
  iterate 6 refine yq tb rfl ?_
  obtain ⟨q10, gq10, h0⟩ := Sh.bind_some h0
  refine d_call (v := (i64 q10)) go0 hb99 (spec_firstCon_ok gq10) rfl rfl rfl ?_
  refine yq tb rfl ?_
  obtain ⟨c11, gc11, h0⟩ := Sh.bind_some h0
  refine yx ei78 gc11 rfl rfl rfl ?_
  iterate 3 refine yq tb rfl ?_
  refine d_done (hK8 _ ?_)
  replace h0 := Sh.some_eq h0
  subst r
  exact AW.ret (xr (Wk.to (L := [(4, (ls eI c11.fields))]) ⟨.rfl, trivial⟩))
theorem spec_allOf_ok {N : Nat} {rec_spec_typeOf : RProgram → (List Int) → RExpr → Option (Int)} (hrec_spec_typeOf : ∀ {p0 : RProgram} {p1 : (List Int)} {p2 : RExpr} {r : Int}, rec_spec_typeOf p0 p1 p2 = some r → ACalls Try.prog 44 [(.agg [(ls eRDecl p0.decls), (ls eRFunc p0.funcs)]), (ls eI p1), (.agg [(i64 p2.op), (i64 p2.num), (ls eRExpr p2.kids)])] [] (fun v st => v = (i64 r) ∧ st = [])) {p0 : RProgram} {p1 : (List Int)} {p2 : (List RExpr)} {p3 : (List Int)} {r : Bool} (h0 : spec_allOf N rec_spec_typeOf p0 p1 p2 p3 = some r) : ACalls Try.prog 71 [(.agg [(ls eRDecl p0.decls), (ls eRFunc p0.funcs)]), (ls eI p1), (ls eRExpr p2), (ls eI p3)] [] (fun v st => v = (.bool r) ∧ st = []) := by
 unfold spec_allOf at h0
 refine ai Try.func71 rfl rfl rfl rfl ?_
 refine sr rfl fun K1 hK1 => ?_
 refine ao_box (m := 0) (st' := [⟨0, 31, 2, [[(ls eRDecl p0.decls), (ls eRFunc p0.funcs)]]⟩]) go0 rfl rfl rfl rfl rfl ?_
 refine zq tb rfl ?_
 refine dn hK1 rfl ?_
 refine AW.seq fun K2 hK2 => ?_
 refine sr rfl fun K3 hK3 => ?_
 refine zq tb rfl ?_
 refine zl tb rfl rfl ?_
 refine zq tb rfl ?_
 refine zl tb rfl rfl ?_
 refine zq tb rfl ?_
 refine dn hK3 rfl ?_
 refine ci h0 rfl ?_ ?_ <;> clear h0
 ·intro b4 h0
  have b5 : decide ((Sh.len p2) = (Sh.len p3)) = false := by simpa using b4
  refine zr tb rfl rfl ?_
  replace h0 := Sh.some_eq h0
  subst r
  exact AW.ret (xr (Wk.d0 [(8, (.bool false))] rfl))
 ·intro b4 h0
  have b7 : decide ((Sh.len p2) = (Sh.len p3)) = true := by simpa using b4
  refine AW.skip (hK2 _ ?_)
  refine AW.seq fun K8 hK8 => ?_
  refine zr tb rfl rfl ?_
  obtain ⟨o11, h1, h0⟩ := Sh.cont_some h0
  have M11 : ∀ (_ : Unit), o11 = Sum.inr () → ∀ s, Wk 0 s ⟨33, envL [], []⟩ → K8 s := by
   intro _ hq s hw
   subst o11
   try dsimp only at h0
   refine hK8 _ (AW.weaken hw ?_)
   refine zr tb rfl rfl ?_
   replace h0 := Sh.some_eq h0
   subst r
   exact AW.ret (xr (Wk.to (L := [(8, (.bool true))]) ⟨.rfl, trivial⟩))
  refine AW.block (AW.loopF (σ := Int) (fun n v => spec_allOf_L1 p0 p1 p2 p3 rec_spec_typeOf n v = some o11) (fun i10 => ⟨33, envL [(1, (ls eI p1)), (2, (ls eRExpr p2)), (3, (ls eI p3)), (4, (.ptr 0 0 0 0)), (9, (i64 i10))], [⟨0, 31, 2, [[(ls eRDecl p0.decls), (ls eRFunc p0.funcs)]]⟩]⟩) N 0 h1 (Wk.tr rfl) (fun _ hv => by rw [spec_allOf_L1] at hv; cases hv) ?_)
  rintro n i10 h1
  try dsimp only at h1 ⊢
  rw [spec_allOf_L1] at h1
  refine AW.seq fun K13 hK13 => ?_
  refine sr rfl fun K14 hK14 => ?_
  refine zm tb 2 rfl ?_
  refine zl tb rfl rfl ?_
  refine zq tb rfl ?_
  refine dn hK14 rfl ?_
  refine ci h1 rfl ?_ ?_ <;> clear h1
  ·intro b15 h1
   refine AW.skip (hK13 _ ?_)
   refine AW.seq fun K16 hK16 => ?_
   refine AW.block ?_
   refine AW.seq fun K17 hK17 => ?_
   refine AW.draw (by kernel_rfl) (by kernel_rfl) (by rfl) ?_
   iterate 4 refine yq tb rfl ?_
   obtain ⟨c18, gc18, h1⟩ := Sh.bind_some h1
   refine yz (.iptr [(i64 c18.op), (i64 c18.num), (ls eRExpr c18.kids)] 0) (aq_ixsE ei48 rfl rfl gc18 (eRExpr_eq _) rfl) rfl ?_
   refine yq tb rfl ?_
   obtain ⟨q19, gq19, h1⟩ := Sh.bind_some h1
   refine d_call (v := (i64 q19)) go0 hb44 (hrec_spec_typeOf gq19) rfl rfl rfl ?_
   iterate 2 refine yq tb rfl ?_
   obtain ⟨c20, gc20, h1⟩ := Sh.bind_some h1
   refine yx ei40 gc20 rfl rfl rfl ?_
   iterate 2 refine yq tb rfl ?_
   refine d_done (hK17 _ ?_)
   refine ci h1 rfl ?_ ?_ <;> clear h1
   ·intro b21 h1
    have b22 : decide (q19 = c20) = false := by simpa using b21
    refine zr tb rfl rfl ?_
    replace h1 := Sh.some_eq h1
    subst o11
    try dsimp only [id] at h0
    replace h0 := Sh.some_eq h0
    subst r
    exact AW.ret (xr (Wk.d0 [(8, (.bool false))] rfl))
   ·intro b21 h1
    have b24 : decide (q19 = c20) = true := by simpa using b21
    refine AW.skip (hK16 _ ?_)
    refine AW.regionO (by rfl) ?_
    refine zm tb 3 rfl ?_
    exact AO.done (xi (Sh.w (i10 + 1)) h1 (Wk.tr rfl))
  ·intro b15 h1
   exact AW.exit (M11 () (Sh.some_eq h1).symm _ (Wk.d0 _ rfl))
theorem spec_copyInts_ok {p0 : (List Int)} {r : (List Int)} (h0 : spec_copyInts p0 = some r) : ACalls Try.prog 100 [(ls eI p0)] [] (fun v st => v = (ow 0 0 r) ∧ st = [(ro 0 3 1 eI r)]) := by
 unfold spec_copyInts at h0
 refine ai Try.func100 rfl rfl rfl rfl ?_
 refine zr tb rfl rfl ?_
 refine sr rfl fun K2 hK2 => ?_
 refine ao_bs (m := 0) (st' := [(ro 0 3 1 eI ([] : List Int))]) (l := ([] : List Int)) (enc := eI) go0 ei40 (by decide) rfl rfl rfl rfl rfl rfl ?_
 refine zq tb rfl ?_
 obtain ⟨l3, gl3, h0⟩ := Sh.bind_some h0
 refine ao_apo (st' := [(ro 1 3 1 eI l3)]) (l2 := p0) go0 ei40 rfl rfl rfl rfl el_s (fun _ => rfl) gl3 rfl ?_
 refine zq tb rfl ?_
 refine dn hK2 rfl ?_
 replace h0 := Sh.some_eq h0
 subst r
 exact AW.ret (xr (Wk.rg (L := [(2, (ow 0 0 l3))]) (st' := [(ro 0 3 1 eI l3)]) (.pure (pure_map fun _ => rfl) .nil) ⟨.rfl, trivial⟩))
theorem spec_extend_ok {p0 : (List Int)} {p1 : (List Int)} {r : (List Int)} (h0 : spec_extend p0 p1 = some r) : ACalls Try.prog 73 [(ls eI p0), (ls eI p1)] [] (fun v st => v = (ow 0 0 r) ∧ st = [(ro 0 3 1 eI r)]) := by
 unfold spec_extend at h0
 refine ai Try.func73 rfl rfl rfl rfl ?_
 refine zr tb rfl rfl ?_
 refine sr rfl fun K2 hK2 => ?_
 refine zq tb rfl ?_
 obtain ⟨q3, gq3, h0⟩ := Sh.bind_some h0
 refine ao_call (v' := (ow 0 0 q3)) (st' := [(ro 0 3 1 eI q3)]) go0 hb100 (spec_copyInts_ok gq3) rfl rfl ⟨(pure_map' fun _ => rfl), trivial⟩ rfl rfl ?_
 refine zq tb rfl ?_
 obtain ⟨l4, gl4, h0⟩ := Sh.bind_some h0
 refine ao_apo (st' := [(ro 1 3 1 eI l4)]) (l2 := p1) go0 ei40 rfl rfl rfl rfl el_s (fun _ => rfl) gl4 rfl ?_
 refine zq tb rfl ?_
 refine dn hK2 rfl ?_
 replace h0 := Sh.some_eq h0
 subst r
 exact AW.ret (xr (Wk.rg (L := [(4, (ow 0 0 l4))]) (st' := [(ro 0 3 1 eI l4)]) (.pure (pure_map fun _ => rfl) .nil) ⟨.rfl, trivial⟩))
theorem spec_consOf_ok {N : Nat} {p0 : (List RDecl)} {p1 : Int} {r : (List Int)} (h0 : spec_consOf N p0 p1 = some r) : ACalls Try.prog 101 [(ls eRDecl p0), (i64 p1)] [] (fun v st => v = (ow 0 0 r) ∧ st = [(ro 0 3 1 eI r)]) := by
 unfold spec_consOf at h0
 refine ai Try.func101 rfl rfl rfl rfl ?_
 refine zr tb rfl rfl ?_
 refine sr rfl fun K2 hK2 => ?_
 refine ao_bs (m := 0) (st' := [(ro 0 3 1 eI ([] : List Int))]) (l := ([] : List Int)) (enc := eI) go0 ei40 (by decide) rfl rfl rfl rfl rfl rfl ?_
 refine zq tb rfl ?_
 refine dn hK2 rfl ?_
 refine AW.seq fun K3 hK3 => ?_
 refine sr rfl fun K4 hK4 => ?_
 refine zm tb 2 rfl ?_
 refine zl tb rfl rfl ?_
 obtain ⟨q5, gq5, h0⟩ := Sh.bind_some h0
 refine zc hb23 (spec_inRange_ok gq5) rfl rfl rfl ?_
 refine zq tb rfl ?_
 refine dn hK4 rfl ?_
 refine ci h0 rfl ?_ ?_ <;> clear h0
 ·intro b6 h0
  have b7 : q5 = false := by simpa using b6
  refine zr tb rfl rfl ?_
  replace h0 := Sh.some_eq h0
  subst r
  exact AW.ret (xr (Wk.to (L := [(4, (.own 0 0 (List.length ([] : List Int))))]) ⟨.rfl, trivial⟩))
 ·intro b6 h0
  have b9 : q5 = true := by simpa using b6
  refine AW.skip (hK3 _ ?_)
  refine AW.seq fun K10 hK10 => ?_
  refine zr tb rfl rfl ?_
  obtain ⟨o15, h1, h0⟩ := Sh.bind_some h0
  have M15 : ∀ (l14 : (List Int)), o15 = l14 → ∀ s, Wk 0 s ⟨35, envL [(5, (ow 0 0 l14))], [(ro 0 3 1 eI l14)]⟩ → K10 s := by
   intro l14 hq s hw
   subst o15
   try dsimp only at h0
   refine hK10 _ (AW.weaken hw ?_)
   refine zr tb rfl rfl ?_
   replace h0 := Sh.some_eq h0
   subst r
   exact AW.ret (xr (Wk.to (L := [(4, (ow 0 0 l14))]) ⟨.rfl, trivial⟩))
  refine AW.block (AW.loopF (σ := Int × (List Int)) (fun n v => spec_consOf_L1 N p0 p1 n v.1 v.2 = some o15) (fun (i12, l13) => ⟨35, envL [(0, (ls eRDecl p0)), (1, (i64 p1)), (5, (ow 0 0 l13)), (6, (i64 i12))], [(ro 0 3 1 eI l13)]⟩) N (0, []) h1 (Wk.tr rfl) (fun _ hv => by rw [spec_consOf_L1] at hv; cases hv) ?_)
  rintro n ⟨i12, l13⟩ h1
  try dsimp only at h1 ⊢
  rw [spec_consOf_L1] at h1
  refine AW.seq fun K17 hK17 => ?_
  refine sr rfl fun K18 hK18 => ?_
  refine zm tb 4 rfl ?_
  obtain ⟨c19, gc19, h1⟩ := Sh.bind_some h1
  refine zx ei28 gc19 rfl rfl rfl ?_
  refine zm tb 2 rfl ?_
  refine zl tb rfl rfl ?_
  refine zq tb rfl ?_
  refine dn hK18 rfl ?_
  refine ci h1 rfl ?_ ?_ <;> clear h1
  ·intro b20 h1
   refine AW.skip (hK17 _ ?_)
   refine AW.seq fun K21 hK21 => ?_
   refine AW.block ?_
   refine AW.regionO (by rfl) ?_
   refine zm tb 4 rfl ?_
   obtain ⟨q22, gq22, h1⟩ := Sh.bind_some h1
   refine zc hb99 (spec_firstCon_ok gq22) rfl rfl rfl ?_
   refine zm tb 2 rfl ?_
   refine ao_bs (m := 1) (st' := [(ro 0 3 1 eI l13), (ro 0 3 1 eI [Sh.w (q22 + i12)])]) (l := [Sh.w (q22 + i12)]) (enc := eI) go0 ei40 (by decide) rfl rfl rfl rfl rfl rfl ?_
   obtain ⟨l23, gl23, h1⟩ := Sh.bind_some h1
   refine ao_apo (st' := [(ro 1 3 1 eI l23), (ro 0 3 1 eI [Sh.w (q22 + i12)])]) (l2 := [Sh.w (q22 + i12)]) go0 ei40 rfl rfl rfl rfl (el_o rfl rfl) (fun _ => rfl) gl23 rfl ?_
   refine zq tb rfl ?_
   refine dn hK21 rfl ?_
   refine AW.regionO (by rfl) ?_
   refine zm tb 3 rfl ?_
   exact AO.done (xi (Sh.w (i12 + 1), l23) h1 (by refine Wk.trans (Wk.rg (L := [(0, (ls eRDecl p0)), (1, (i64 p1)), (5, (ow 0 0 l23)), (6, (i64 (Sh.w (i12 + 1))))]) (st' := [(ro 0 3 1 eI l23), (ro 0 3 1 eI [Sh.w (q22 + i12)])]) (.pure (pure_map fun _ => rfl) (.pure (pure_map fun _ => rfl) .nil)) ⟨.rfl, .rfl, .rfl, .rfl, trivial⟩) ?_; exact Wk.permk (L := [(0, (ls eRDecl p0)), (1, (i64 p1)), (5, (ow 0 0 l23)), (6, (i64 (Sh.w (i12 + 1))))]) (st' := [(ro 0 3 1 eI l23)]) (st1 := [(ro 0 3 1 eI l23)]) [0] rfl .nil (by decide) rfl rfl (.pure (pure_map fun _ => rfl) .nil) ⟨.rfl, .rfl, .rfl, .rfl, trivial⟩))
  ·intro b20 h1
   exact AW.exit (M15 l13 (Sh.some_eq h1).symm _ (Wk.tr rfl))
theorem spec_matchType_ok {N : Nat} {rec_spec_typeOf : RProgram → (List Int) → RExpr → Option (Int)} (hrec_spec_typeOf : ∀ {p0 : RProgram} {p1 : (List Int)} {p2 : RExpr} {r : Int}, rec_spec_typeOf p0 p1 p2 = some r → ACalls Try.prog 44 [(.agg [(ls eRDecl p0.decls), (ls eRFunc p0.funcs)]), (ls eI p1), (.agg [(i64 p2.op), (i64 p2.num), (ls eRExpr p2.kids)])] [] (fun v st => v = (i64 r) ∧ st = [])) {p0 : RProgram} {p1 : (List Int)} {p2 : RExpr} {r : Int} (h0 : spec_matchType N rec_spec_typeOf p0 p1 p2 = some r) : ACalls Try.prog 74 [(.agg [(ls eRDecl p0.decls), (ls eRFunc p0.funcs)]), (ls eI p1), (.agg [(i64 p2.op), (i64 p2.num), (ls eRExpr p2.kids)])] [] (fun v st => v = (i64 r) ∧ st = []) := by
 unfold spec_matchType at h0
 refine ai Try.func74 rfl rfl rfl rfl ?_
 refine sr rfl fun K1 hK1 => ?_
 refine ao_box (m := 0) (st' := [⟨0, 31, 2, [[(ls eRDecl p0.decls), (ls eRFunc p0.funcs)]]⟩]) go0 rfl rfl rfl rfl rfl ?_
 refine ao_box (m := 1) (st' := [⟨0, 31, 2, [[(ls eRDecl p0.decls), (ls eRFunc p0.funcs)]]⟩, ⟨0, 50, 3, [[(i64 p2.op), (i64 p2.num), (ls eRExpr p2.kids)]]⟩]) go0 rfl rfl rfl rfl rfl ?_
 refine zq tb rfl ?_
 refine dn hK1 rfl ?_
 refine sr rfl fun K2 hK2 => ?_
 refine zm tb 4 rfl ?_
 obtain ⟨q3, gq3, h0⟩ := Sh.bind_some h0
 refine ao_call (v' := (ow 2 0 q3)) (st' := [⟨0, 31, 2, [[(ls eRDecl p0.decls), (ls eRFunc p0.funcs)]]⟩, ⟨0, 50, 3, [[(i64 p2.op), (i64 p2.num), (ls eRExpr p2.kids)]]⟩, (ro 0 3 1 eI q3)]) go0 hb101 (spec_consOf_ok gq3) rfl rfl ⟨(pure_map' fun _ => rfl), trivial⟩ rfl rfl ?_
 refine zq tb rfl ?_
 refine dn hK2 rfl ?_
 refine AW.seq fun K4 hK4 => ?_
 refine AW.seq fun K5 hK5 => ?_
 obtain ⟨o7, h1, h0⟩ := Sh.bind_some h0
 have M7 : ∀ (t6 : Bool), o7 = t6 → ∀ s, Wk 0 s ⟨79, envL [(1, (ls eI p1)), (3, (.ptr 0 0 0 0)), (5, (.ptr 1 0 0 0)), (7, (ow 2 0 q3)), (38, (.bool t6))], [⟨0, 31, 2, [[(ls eRDecl p0.decls), (ls eRFunc p0.funcs)]]⟩, ⟨0, 50, 3, [[(i64 p2.op), (i64 p2.num), (ls eRExpr p2.kids)]]⟩, (ro 0 3 1 eI q3)]⟩ → K5 s := by
  intro t6 hq s hw
  subst o7
  try dsimp only at h0
  refine hK5 _ (AW.weaken hw ?_)
  refine ci h0 rfl ?_ ?_ <;> clear h0
  ·intro b8 h0
   refine zr tb rfl rfl ?_
   replace h0 := Sh.some_eq h0
   subst r
   exact AW.ret (xr (Wk.d0 [(6, (i64 (-1)))] rfl))
  ·intro b8 h0
   refine AW.skip (hK4 _ ?_)
   refine AW.seq fun K10 hK10 => ?_
   refine AW.drawTailO 14 (by kernel_rfl) (by kernel_rfl) (by rfl) ?_
   iterate 5 refine yq tb rfl ?_
   obtain ⟨c11, gc11, h0⟩ := Sh.bind_some h0
   refine yz (.ptr 2 0 (Int.toNat 0) 0) (aq_ixo ei40 rfl rfl rfl rfl gc11) rfl ?_
   refine yz (i64 c11) (aq_ldp ti3 rfl rfl (map_get gc11) rfl) rfl ?_
   obtain ⟨q12, gq12, h0⟩ := Sh.bind_some h0
   refine d_call (v := (ls eI q12)) go0 hb72 (spec_conFields_ok gq12) rfl rfl rfl ?_
   obtain ⟨q13, gq13, h0⟩ := Sh.bind_some h0
   refine d_call (v := (ls eI q13)) go0 hb73 (ACalls.wk (spec_extend_ok gq13) (by refine Wk.trans (Wk.frz (L := [(0, (ls eI q13))]) (st' := [⟨1, 3, 1, []⟩]) (id := 0) rfl (show 0 ≤ 0 by decide) (pure_map fun _ => rfl) ⟨(.frz rfl), trivial⟩ rfl) ?_; refine Wk.trans (Wk.permk (L := [(0, (ls eI q13))]) (st' := []) (st1 := []) [] rfl .nil (by decide) rfl rfl .nil ⟨.rfl, trivial⟩) ?_; exact Wk.to (L := [(0, (ls eI q13))]) ⟨.rfl, trivial⟩)) rfl rfl rfl ?_
   iterate 2 refine yq tb rfl ?_
   obtain ⟨c14, gc14, h0⟩ := Sh.bind_some h0
   refine yz (.iptr [(i64 c14.op), (i64 c14.num), (ls eRExpr c14.kids)] 0) (aq_ixsE ei48 rfl rfl gc14 (eRExpr_eq _) rfl) rfl ?_
   refine yq tb rfl ?_
   obtain ⟨q15, gq15, h0⟩ := Sh.bind_some h0
   refine d_call (v := (i64 q15)) go0 hb44 (hrec_spec_typeOf gq15) rfl rfl rfl ?_
   refine d_done ?_
   refine zq tb rfl ?_
   refine dn hK10 rfl ?_
   refine AW.seq fun K16 hK16 => ?_
   refine zr tb rfl rfl ?_
   obtain ⟨o19, h1, h0⟩ := Sh.cont_some h0
   have M19 : ∀ (_ : Unit), o19 = Sum.inr () → ∀ s, Wk 0 s ⟨79, envL [(8, (i64 q15))], []⟩ → K16 s := by
    intro _ hq s hw
    subst o19
    try dsimp only at h0
    refine hK16 _ (AW.weaken hw ?_)
    refine zr tb rfl rfl ?_
    replace h0 := Sh.some_eq h0
    subst r
    exact AW.ret (xr (Wk.to (L := [(6, (i64 q15))]) ⟨.rfl, trivial⟩))
   refine AW.block (AW.loopF (σ := Int) (fun n v => spec_matchType_L1 N p0 p1 p2 q15 q3 rec_spec_typeOf n v = some o19) (fun i18 => ⟨79, envL [(1, (ls eI p1)), (3, (.ptr 0 0 0 0)), (5, (.ptr 1 0 0 0)), (7, (ow 2 0 q3)), (8, (i64 q15)), (9, (i64 i18))], [⟨0, 31, 2, [[(ls eRDecl p0.decls), (ls eRFunc p0.funcs)]]⟩, ⟨0, 50, 3, [[(i64 p2.op), (i64 p2.num), (ls eRExpr p2.kids)]]⟩, (ro 0 3 1 eI q3)]⟩) N 1 h1 (Wk.tr rfl) (fun _ hv => by rw [spec_matchType_L1] at hv; cases hv) ?_)
   rintro n i18 h1
   try dsimp only at h1 ⊢
   rw [spec_matchType_L1] at h1
   refine AW.seq fun K21 hK21 => ?_
   refine sr rfl fun K22 hK22 => ?_
   refine zm tb 2 rfl ?_
   refine zz (i64 (Sh.len q3)) (aq_leno sl40 rfl rfl rfl) rfl ?_
   refine zq tb rfl ?_
   refine dn hK22 rfl ?_
   refine ci h1 rfl ?_ ?_ <;> clear h1
   ·intro b23 h1
    refine AW.skip (hK21 _ ?_)
    refine AW.seq fun K24 hK24 => ?_
    refine AW.block ?_
    refine AW.seq fun K25 hK25 => ?_
    refine AW.drawTailO 18 (by kernel_rfl) (by kernel_rfl) (by rfl) ?_
    iterate 6 refine yq tb rfl ?_
    obtain ⟨c26, gc26, h1⟩ := Sh.bind_some h1
    refine yz (.ptr 2 0 (Int.toNat i18) 0) (aq_ixo ei40 rfl rfl rfl rfl gc26) rfl ?_
    refine yz (i64 c26) (aq_ldp ti3 rfl rfl (map_get gc26) rfl) rfl ?_
    obtain ⟨q27, gq27, h1⟩ := Sh.bind_some h1
    refine d_call (v := (ls eI q27)) go0 hb72 (spec_conFields_ok gq27) rfl rfl rfl ?_
    obtain ⟨q28, gq28, h1⟩ := Sh.bind_some h1
    refine d_call (v := (ls eI q28)) go0 hb73 (ACalls.wk (spec_extend_ok gq28) (by refine Wk.trans (Wk.frz (L := [(0, (ls eI q28))]) (st' := [⟨1, 3, 1, []⟩]) (id := 0) rfl (show 0 ≤ 0 by decide) (pure_map fun _ => rfl) ⟨(.frz rfl), trivial⟩ rfl) ?_; refine Wk.trans (Wk.permk (L := [(0, (ls eI q28))]) (st' := []) (st1 := []) [] rfl .nil (by decide) rfl rfl .nil ⟨.rfl, trivial⟩) ?_; exact Wk.to (L := [(0, (ls eI q28))]) ⟨.rfl, trivial⟩)) rfl rfl rfl ?_
    iterate 4 refine yq tb rfl ?_
    obtain ⟨c29, gc29, h1⟩ := Sh.bind_some h1
    refine yz (.iptr [(i64 c29.op), (i64 c29.num), (ls eRExpr c29.kids)] 0) (aq_ixsE ei48 rfl rfl gc29 (eRExpr_eq _) rfl) rfl ?_
    refine yq tb rfl ?_
    obtain ⟨q30, gq30, h1⟩ := Sh.bind_some h1
    refine d_call (v := (i64 q30)) go0 hb44 (hrec_spec_typeOf gq30) rfl rfl rfl ?_
    refine yq tb rfl ?_
    refine d_done ?_
    refine zq tb rfl ?_
    refine dn hK25 rfl ?_
    refine ci h1 rfl ?_ ?_ <;> clear h1
    ·intro b31 h1
     have b32 : decide (q30 = q15) = false := by simpa using b31
     refine zr tb rfl rfl ?_
     replace h1 := Sh.some_eq h1
     subst o19
     try dsimp only [id] at h0
     replace h0 := Sh.some_eq h0
     subst r
     exact AW.ret (xr (Wk.d0 [(6, (i64 (-1)))] rfl))
    ·intro b31 h1
     have b34 : decide (q30 = q15) = true := by simpa using b31
     refine AW.skip (hK24 _ ?_)
     refine AW.regionO (by rfl) ?_
     refine zm tb 3 rfl ?_
     exact AO.done (xi (Sh.w (i18 + 1)) h1 (Wk.tr rfl))
   ·intro b23 h1
    exact AW.exit (M19 () (Sh.some_eq h1).symm _ (Wk.d0 _ rfl))
 refine AW.draw (by kernel_rfl) (by kernel_rfl) (by rfl) ?_
 refine yq tb rfl ?_
 refine yz (i64 (Sh.len q3)) (aq_leno sl40 rfl rfl rfl) rfl ?_
 iterate 2 refine yq tb rfl ?_
 rcases Sh.ite_some h1 with ⟨b35, h1⟩ | ⟨b35, h1⟩
 ·refine ys b35 rfl ?_
  iterate 6 refine ys b35 rfl ?_
  refine yt b35 rfl ?_
  refine yq tb rfl ?_
  iterate 10 refine ys rfl rfl ?_
  refine yt rfl rfl ?_
  exact d_done (M7 true (Sh.some_eq h1).symm _ (Wk.tr rfl))
 ·refine yg tb b35 rfl ?_
  refine yg tb b35 rfl ?_
  refine d_q (v := (i64 (Sh.len p2.kids))) (go1 rfl rfl b35) rfl (aq_lens sl48 rfl) ?_
  refine yg tb b35 rfl ?_
  refine d_q (v := (i64 (Sh.len q3))) (go1 rfl rfl b35) rfl (aq_leno sl40 rfl rfl rfl) ?_
  iterate 2 refine yg tb b35 rfl ?_
  refine yf b35 rfl ?_
  refine yq tb rfl ?_
  rcases Sh.ite_some h1 with ⟨b36, h1⟩ | ⟨b36, h1⟩
  ·refine ys b36 rfl ?_
   iterate 9 refine ys b36 rfl ?_
   refine yt b36 rfl ?_
   exact d_done (M7 true (Sh.some_eq h1).symm _ (Wk.tr rfl))
  ·refine yg tb b36 rfl ?_
   iterate 3 refine yg tb b36 rfl ?_
   obtain ⟨c37, gc37, h1⟩ := Sh.bind_some h1
   refine d_q (v := (.iptr [(i64 c37.op), (i64 c37.num), (ls eRExpr c37.kids)] 0)) (go1 rfl rfl b36) rfl (aq_ixsE ei48 rfl rfl gc37 (eRExpr_eq _) rfl) ?_
   refine yg tb b36 rfl ?_
   obtain ⟨q38, gq38, h1⟩ := Sh.bind_some h1
   refine d_call (v := (i64 q38)) (go1 rfl rfl b36) hb44 (hrec_spec_typeOf gq38) rfl rfl rfl ?_
   iterate 3 refine yg tb b36 rfl ?_
   refine yf b36 rfl ?_
   exact d_done (M7 (!decide (q38 = p2.num)) (Sh.some_eq h1).symm _ (Wk.tr rfl))
theorem spec_arrowOf_ok {N : Nat} {p0 : (List RDecl)} {p1 : Int} {p2 : Int} {r : Int} (h0 : spec_arrowOf N p0 p1 p2 = some r) : ACalls Try.prog 102 [(ls eRDecl p0), (i64 p1), (i64 p2)] [] (fun v st => v = (i64 r) ∧ st = []) := by
 unfold spec_arrowOf at h0
 refine ai Try.func102 rfl rfl rfl rfl ?_
 refine zr tb rfl rfl ?_
 refine AW.seq fun K2 hK2 => ?_
 refine zr tb rfl rfl ?_
 obtain ⟨o5, h1, h0⟩ := Sh.cont_some h0
 have M5 : ∀ (_ : Unit), o5 = Sum.inr () → ∀ s, Wk 0 s ⟨41, envL [], []⟩ → K2 s := by
  intro _ hq s hw
  subst o5
  try dsimp only at h0
  refine hK2 _ (AW.weaken hw ?_)
  refine zr tb rfl rfl ?_
  replace h0 := Sh.some_eq h0
  subst r
  exact AW.ret (xr (Wk.to (L := [(6, (i64 (-1)))]) ⟨.rfl, trivial⟩))
 refine AW.block (AW.loopF (σ := Int) (fun n v => spec_arrowOf_L1 p0 p1 p2 n v = some o5) (fun i4 => ⟨41, envL [(0, (ls eRDecl p0)), (1, (i64 p1)), (2, (i64 p2)), (7, (i64 i4))], []⟩) N 0 h1 (Wk.tr rfl) (fun _ hv => by rw [spec_arrowOf_L1] at hv; cases hv) ?_)
 rintro n i4 h1
 try dsimp only at h1 ⊢
 rw [spec_arrowOf_L1] at h1
 refine AW.seq fun K7 hK7 => ?_
 refine sr rfl fun K8 hK8 => ?_
 refine zm tb 2 rfl ?_
 refine zl tb rfl rfl ?_
 refine zq tb rfl ?_
 refine dn hK8 rfl ?_
 refine ci h1 rfl ?_ ?_ <;> clear h1
 ·intro b9 h1
  refine AW.skip (hK7 _ ?_)
  refine AW.seq fun K10 hK10 => ?_
  refine AW.block ?_
  refine AW.seq fun K11 hK11 => ?_
  obtain ⟨o13, h2, h1⟩ := Sh.bind_some h1
  have M13 : ∀ (t12 : Bool), o13 = t12 → ∀ s, Wk 0 s ⟨41, envL [(0, (ls eRDecl p0)), (1, (i64 p1)), (2, (i64 p2)), (7, (i64 i4)), (38, (.bool t12))], []⟩ → K11 s := by
   intro t12 hq s hw
   subst o13
   try dsimp only at h1
   refine hK11 _ (AW.weaken hw ?_)
   refine ci h1 rfl ?_ ?_ <;> clear h1
   ·intro b14 h1
    refine zr tb rfl rfl ?_
    replace h1 := Sh.some_eq h1
    subst o5
    try dsimp only [id] at h0
    replace h0 := Sh.some_eq h0
    subst r
    exact AW.ret (xr (Wk.to (L := [(6, (i64 (Sh.w (i4 + 1))))]) ⟨.rfl, trivial⟩))
   ·intro b14 h1
    refine AW.skip (hK10 _ ?_)
    refine AW.regionO (by rfl) ?_
    refine zm tb 3 rfl ?_
    exact AO.done (xi (Sh.w (i4 + 1)) h1 (Wk.tr rfl))
  refine AW.regionO (by rfl) ?_
  refine zm tb 2 rfl ?_
  obtain ⟨c16, gc16, h2⟩ := Sh.bind_some h2
  refine zx ei28 gc16 rfl rfl rfl ?_
  refine zm tb 2 rfl ?_
  refine zl tb rfl rfl ?_
  refine zm tb 2 rfl ?_
  rcases Sh.ite_some h2 with ⟨b17, h2⟩ | ⟨b17, h2⟩
  ·refine zg tb b17 rfl ?_
   refine zg tb b17 rfl ?_
   refine ao_q (v := (.iptr (eRDecl c16) 0)) (go1 rfl rfl b17) rfl (aq_ixs ei28 rfl rfl gc16 rfl) ?_
   iterate 4 refine zg tb b17 rfl ?_
   refine zt b17 rfl ?_
   refine zq tb rfl ?_
   rcases Sh.ite_some h2 with ⟨b18, h2⟩ | ⟨b18, h2⟩
   ·refine zg tb b18 rfl ?_
    refine zg tb b18 rfl ?_
    refine ao_q (v := (.iptr (eRDecl c16) 0)) (go1 rfl rfl b18) rfl (aq_ixs ei28 rfl rfl gc16 rfl) ?_
    iterate 4 refine zg tb b18 rfl ?_
    refine zt b18 rfl ?_
    exact AO.done (M13 (decide (c16.to = p2)) (Sh.some_eq h2).symm _ (Wk.tr rfl))
   ·refine zs b18 rfl ?_
    iterate 6 refine zs b18 rfl ?_
    refine zf b18 rfl ?_
    exact AO.done (M13 false (Sh.some_eq h2).symm _ (Wk.tr rfl))
  ·refine zs b17 rfl ?_
   iterate 6 refine zs b17 rfl ?_
   refine zf b17 rfl ?_
   refine zq tb rfl ?_
   iterate 7 refine zs rfl rfl ?_
   refine zf rfl rfl ?_
   exact AO.done (M13 false (Sh.some_eq h2).symm _ (Wk.tr rfl))
 ·intro b9 h1
  exact AW.exit (M5 () (Sh.some_eq h1).symm _ (Wk.tr rfl))
theorem spec_callType_ok {N : Nat} {rec_spec_typeOf : RProgram → (List Int) → RExpr → Option (Int)} (hrec_spec_typeOf : ∀ {p0 : RProgram} {p1 : (List Int)} {p2 : RExpr} {r : Int}, rec_spec_typeOf p0 p1 p2 = some r → ACalls Try.prog 44 [(.agg [(ls eRDecl p0.decls), (ls eRFunc p0.funcs)]), (ls eI p1), (.agg [(i64 p2.op), (i64 p2.num), (ls eRExpr p2.kids)])] [] (fun v st => v = (i64 r) ∧ st = [])) {p0 : RProgram} {p1 : (List Int)} {p2 : RExpr} {r : Int} (h0 : spec_callType N rec_spec_typeOf p0 p1 p2 = some r) : ACalls Try.prog 75 [(.agg [(ls eRDecl p0.decls), (ls eRFunc p0.funcs)]), (ls eI p1), (.agg [(i64 p2.op), (i64 p2.num), (ls eRExpr p2.kids)])] [] (fun v st => v = (i64 r) ∧ st = []) := by
 unfold spec_callType at h0
 refine ai Try.func75 rfl rfl rfl rfl ?_
 refine sr rfl fun K1 hK1 => ?_
 refine ao_box (m := 0) (st' := [⟨0, 31, 2, [[(ls eRDecl p0.decls), (ls eRFunc p0.funcs)]]⟩]) go0 rfl rfl rfl rfl rfl ?_
 refine ao_box (m := 1) (st' := [⟨0, 31, 2, [[(ls eRDecl p0.decls), (ls eRFunc p0.funcs)]]⟩, ⟨0, 50, 3, [[(i64 p2.op), (i64 p2.num), (ls eRExpr p2.kids)]]⟩]) go0 rfl rfl rfl rfl rfl ?_
 refine zq tb rfl ?_
 refine dn hK1 rfl ?_
 refine AW.seq fun K2 hK2 => ?_
 refine sr rfl fun K3 hK3 => ?_
 refine zm tb 4 rfl ?_
 refine zl tb rfl rfl ?_
 refine zq tb rfl ?_
 obtain ⟨q4, gq4, h0⟩ := Sh.bind_some h0
 refine zc hb23 (spec_inRange_ok gq4) rfl rfl rfl ?_
 refine zq tb rfl ?_
 refine dn hK3 rfl ?_
 refine ci h0 rfl ?_ ?_ <;> clear h0
 ·intro b5 h0
  have b6 : q4 = false := by simpa using b5
  refine zr tb rfl rfl ?_
  replace h0 := Sh.some_eq h0
  subst r
  exact AW.ret (xr (Wk.d0 [(6, (i64 (-1)))] rfl))
 ·intro b5 h0
  have b8 : q4 = true := by simpa using b5
  refine AW.skip (hK2 _ ?_)
  refine sr rfl fun K9 hK9 => ?_
  refine zm tb 4 rfl ?_
  obtain ⟨c10, gc10, h0⟩ := Sh.bind_some h0
  refine zx ei29 gc10 rfl rfl rfl ?_
  refine zq tb rfl ?_
  refine ao_alloc (m := 2) (st' := [⟨0, 31, 2, [[(ls eRDecl p0.decls), (ls eRFunc p0.funcs)]]⟩, ⟨0, 50, 3, [[(i64 p2.op), (i64 p2.num), (ls eRExpr p2.kids)]]⟩, ⟨0, 52, 5, [[.zc, (i64 0), (i64 0), (i64 0), .zc]]⟩]) go0 zi52 rfl rfl ?_
  refine ao_str (st' := [⟨0, 31, 2, [[(ls eRDecl p0.decls), (ls eRFunc p0.funcs)]]⟩, ⟨0, 50, 3, [[(i64 p2.op), (i64 p2.num), (ls eRExpr p2.kids)]]⟩, ⟨0, 52, 5, [[(ls eI c10.params), (i64 c10.result), (i64 c10.body.op), (i64 c10.body.num), (ls eRExpr c10.body.kids)]]⟩]) go0 ti52 rfl rfl rfl rfl rfl rfl (show 0 + 5 ≤ 5 by decide) rfl ?_
  refine dn hK9 rfl ?_
  refine sr rfl fun K11 hK11 => ?_
  refine zm tb 2 rfl ?_
  refine zl tb rfl rfl ?_
  refine zq tb rfl ?_
  refine dn hK11 rfl ?_
  refine AW.seq fun K12 hK12 => ?_
  refine zr tb rfl rfl ?_
  refine ci h0 rfl ?_ ?_ <;> clear h0
  ·intro b14 h0
   refine AW.seq fun K15 hK15 => ?_
   refine sr rfl fun K16 hK16 => ?_
   refine zm tb 6 rfl ?_
   obtain ⟨q17, gq17, h0⟩ := Sh.bind_some h0
   refine zc hb71 (spec_allOf_ok hrec_spec_typeOf gq17) rfl rfl rfl ?_
   refine zq tb rfl ?_
   refine dn hK16 rfl ?_
   refine ci h0 rfl ?_ ?_ <;> clear h0
   ·intro b18 h0
    have b19 : q17 = false := by simpa using b18
    refine zr tb rfl rfl ?_
    replace h0 := Sh.some_eq h0
    subst r
    exact AW.ret (xr (Wk.d0 [(6, (i64 (-1)))] rfl))
   ·intro b18 h0
    have b21 : q17 = true := by simpa using b18
    refine AW.skip (hK15 _ ?_)
    refine zr tb rfl rfl ?_
    replace h0 := Sh.some_eq h0
    subst r
    exact AW.ret (xr (Wk.d0 [(6, (i64 c10.result))] rfl))
  ·intro b14 h0
   refine AW.skip (hK12 _ ?_)
   refine AW.seq fun K23 hK23 => ?_
   refine AW.seq fun K24 hK24 => ?_
   obtain ⟨o26, h1, h0⟩ := Sh.bind_some h0
   have M26 : ∀ (t25 : Bool), o26 = t25 → ∀ s, Wk 0 s ⟨65, envL [(3, (.ptr 0 0 0 0)), (7, (.ptr 1 0 0 0)), (8, (i64 (Sh.len c10.params))), (53, (.bool t25))], [⟨0, 31, 2, [[(ls eRDecl p0.decls), (ls eRFunc p0.funcs)]]⟩, ⟨0, 52, 5, [[(ls eI c10.params), (i64 c10.result), (i64 c10.body.op), (i64 c10.body.num), (ls eRExpr c10.body.kids)]]⟩]⟩ → K24 s := by
    intro t25 hq s hw
    subst o26
    try dsimp only at h0
    refine hK24 _ (AW.weaken hw ?_)
    refine ci h0 rfl ?_ ?_ <;> clear h0
    ·intro b27 h0
     refine zr tb rfl rfl ?_
     replace h0 := Sh.some_eq h0
     subst r
     exact AW.ret (xr (Wk.d0 [(6, (i64 (-1)))] rfl))
    ·intro b27 h0
     refine AW.skip (hK23 _ ?_)
     refine AW.seq fun K29 hK29 => ?_
     refine AW.draw (by kernel_rfl) (by kernel_rfl) (by rfl) ?_
     iterate 6 refine yq tb rfl ?_
     obtain ⟨c30, gc30, h0⟩ := Sh.bind_some h0
     refine yx ei40 gc30 rfl rfl rfl ?_
     iterate 3 refine yq tb rfl ?_
     obtain ⟨q31, gq31, h0⟩ := Sh.bind_some h0
     refine d_call (v := (i64 q31)) go0 hb102 (spec_arrowOf_ok gq31) rfl rfl rfl ?_
     refine yq tb rfl ?_
     refine d_done (hK29 _ ?_)
     replace h0 := Sh.some_eq h0
     subst r
     exact AW.ret (xr (Wk.d0 [(6, (i64 q31))] rfl))
   refine AW.drawTailO 14 (by kernel_rfl) (by kernel_rfl) (by rfl) ?_
   iterate 3 refine yq tb rfl ?_
   rcases Sh.ite_some h1 with ⟨b32, h1⟩ | ⟨b32, h1⟩
   ·refine ys b32 rfl ?_
    iterate 10 refine ys b32 rfl ?_
    refine d_done ?_
    refine zt b32 rfl ?_
    exact AO.done (M26 true (Sh.some_eq h1).symm _ (Wk.permk (L := [(3, (.ptr 0 0 0 0)), (7, (.ptr 1 0 0 0)), (8, (i64 (Sh.len c10.params))), (53, (.bool true))]) (st' := [⟨0, 31, 2, [[(ls eRDecl p0.decls), (ls eRFunc p0.funcs)]]⟩, ⟨0, 52, 5, [[(ls eI c10.params), (i64 c10.result), (i64 c10.body.op), (i64 c10.body.num), (ls eRExpr c10.body.kids)]]⟩]) (st1 := [⟨0, 31, 2, [[(ls eRDecl p0.decls), (ls eRFunc p0.funcs)]]⟩, ⟨0, 52, 5, [[(ls eI c10.params), (i64 c10.result), (i64 c10.body.op), (i64 c10.body.num), (ls eRExpr c10.body.kids)]]⟩]) [0, 2] rfl .nil (by decide) rfl rfl (.raw rfl rfl (.raw rfl rfl .nil)) ⟨.rfl, .rfl, .rfl, .rfl, trivial⟩))
   ·refine yg tb b32 rfl ?_
    iterate 7 refine yg tb b32 rfl ?_
    obtain ⟨l33, gl33, h1⟩ := Sh.bind_some h1
    refine d_sls (i := 0) (j := Sh.w ((Sh.len c10.params) - 1)) (go1 rfl rfl b32) ei40 rfl rfl rfl (fun _ => rfl) gl33 ?_
    obtain ⟨q34, gq34, h1⟩ := Sh.bind_some h1
    refine d_call (v := (.bool q34)) (go1 rfl rfl b32) hb71 (spec_allOf_ok hrec_spec_typeOf gq34) rfl rfl rfl ?_
    refine yg tb b32 rfl ?_
    refine d_done ?_
    refine zf b32 rfl ?_
    exact AO.done (M26 (!q34) (Sh.some_eq h1).symm _ (Wk.permk (L := [(3, (.ptr 0 0 0 0)), (7, (.ptr 1 0 0 0)), (8, (i64 (Sh.len c10.params))), (53, (.bool (!q34)))]) (st' := [⟨0, 31, 2, [[(ls eRDecl p0.decls), (ls eRFunc p0.funcs)]]⟩, ⟨0, 52, 5, [[(ls eI c10.params), (i64 c10.result), (i64 c10.body.op), (i64 c10.body.num), (ls eRExpr c10.body.kids)]]⟩]) (st1 := [⟨0, 31, 2, [[(ls eRDecl p0.decls), (ls eRFunc p0.funcs)]]⟩, ⟨0, 52, 5, [[(ls eI c10.params), (i64 c10.result), (i64 c10.body.op), (i64 c10.body.num), (ls eRExpr c10.body.kids)]]⟩]) [0, 2] rfl .nil (by decide) rfl rfl (.raw rfl rfl (.raw rfl rfl .nil)) ⟨.rfl, .rfl, .rfl, .rfl, trivial⟩))
theorem spec_isArrow_ok {p0 : (List RDecl)} {p1 : Int} {r : Bool} (h0 : spec_isArrow p0 p1 = some r) : ACalls Try.prog 76 [(ls eRDecl p0), (i64 p1)] [] (fun v st => v = (.bool r) ∧ st = []) := by
 unfold spec_isArrow at h0
 refine ai Try.func76 rfl rfl rfl rfl ?_
 refine zr tb rfl rfl ?_
 refine AW.seq fun K2 hK2 => ?_
 obtain ⟨o4, h1, h0⟩ := Sh.bind_some h0
 have M4 : ∀ (t3 : Bool), o4 = t3 → ∀ s, Wk 0 s ⟨19, envL [(4, (.bool t3))], []⟩ → K2 s := by
  intro t3 hq s hw
  subst o4
  try dsimp only at h0
  refine hK2 _ (AW.weaken hw ?_)
  replace h0 := Sh.some_eq h0
  subst r
  exact AW.ret (xr (Wk.to (L := [(4, (.bool t3))]) ⟨.rfl, trivial⟩))
 refine AW.regionO (by rfl) ?_
 refine zm tb 2 rfl ?_
 refine zl tb rfl rfl ?_
 obtain ⟨q5, gq5, h1⟩ := Sh.bind_some h1
 refine zc hb23 (spec_inRange_ok gq5) rfl rfl rfl ?_
 refine zq tb rfl ?_
 rcases Sh.ite_some h1 with ⟨b6, h1⟩ | ⟨b6, h1⟩
 ·refine zg tb b6 rfl ?_
  iterate 2 refine zg tb b6 rfl ?_
  obtain ⟨c7, gc7, h1⟩ := Sh.bind_some h1
  refine ao_q (v := (.iptr (eRDecl c7) 0)) (go1 rfl rfl b6) rfl (aq_ixs ei28 rfl rfl gc7 rfl) ?_
  iterate 2 refine zg tb b6 rfl ?_
  refine ao_q (v := (i64 (Sh.len c7.cons))) (go1 rfl rfl b6) rfl (aq_lens sl78 rfl) ?_
  refine zg tb b6 rfl ?_
  refine zt b6 rfl ?_
  refine zq tb rfl ?_
  exact AO.done (M4 (decide ((Sh.len c7.cons) = 0)) (Sh.some_eq h1).symm _ (Wk.tr rfl))
 ·refine zs b6 rfl ?_
  iterate 7 refine zs b6 rfl ?_
  refine zf b6 rfl ?_
  refine zq tb rfl ?_
  exact AO.done (M4 false (Sh.some_eq h1).symm _ (Wk.tr rfl))
theorem spec_typeOf_B_ok {N : Nat} {rec_spec_typeOf : RProgram → (List Int) → RExpr → Option (Int)} (hrec_spec_typeOf : ∀ {p0 : RProgram} {p1 : (List Int)} {p2 : RExpr} {r : Int}, rec_spec_typeOf p0 p1 p2 = some r → ACalls Try.prog 44 [(.agg [(ls eRDecl p0.decls), (ls eRFunc p0.funcs)]), (ls eI p1), (.agg [(i64 p2.op), (i64 p2.num), (ls eRExpr p2.kids)])] [] (fun v st => v = (i64 r) ∧ st = [])) {p0 : RProgram} {p1 : (List Int)} {p2 : RExpr} {r : Int} (h0 : spec_typeOf_B N rec_spec_typeOf p0 p1 p2 = some r) : ACalls Try.prog 44 [(.agg [(ls eRDecl p0.decls), (ls eRFunc p0.funcs)]), (ls eI p1), (.agg [(i64 p2.op), (i64 p2.num), (ls eRExpr p2.kids)])] [] (fun v st => v = (i64 r) ∧ st = []) := by
 unfold spec_typeOf_B at h0
 refine ai Try.func44 rfl rfl rfl rfl ?_
 refine sr rfl fun K1 hK1 => ?_
 refine ao_box (m := 0) (st' := [⟨0, 31, 2, [[(ls eRDecl p0.decls), (ls eRFunc p0.funcs)]]⟩]) go0 rfl rfl rfl rfl rfl ?_
 refine ao_box (m := 1) (st' := [⟨0, 31, 2, [[(ls eRDecl p0.decls), (ls eRFunc p0.funcs)]]⟩, ⟨0, 50, 3, [[(i64 p2.op), (i64 p2.num), (ls eRExpr p2.kids)]]⟩]) go0 rfl rfl rfl rfl rfl ?_
 refine zq tb rfl ?_
 refine dn hK1 rfl ?_
 refine zr tb rfl rfl ?_
 refine AW.seq fun K3 hK3 => ?_
 obtain ⟨o4, h1, h0⟩ := Sh.cont_some h0
 have M4 : ∀ (_ : Unit), o4 = Sum.inr () → ∀ s, Wk 0 s ⟨215, envL [], []⟩ → K3 s := by
  intro _ hq s hw
  subst o4
  try dsimp only at h0
  refine hK3 _ (AW.weaken hw ?_)
  refine zr tb rfl rfl ?_
  replace h0 := Sh.some_eq h0
  subst r
  exact AW.ret (xr (Wk.to (L := [(6, (i64 (-1)))]) ⟨.rfl, trivial⟩))
 refine zr tb rfl rfl ?_
 refine AW.block ?_
 refine zr tb rfl rfl ?_
 refine ci h1 rfl ?_ ?_ <;> clear h1
 ·intro b8 h1
  refine AW.seq fun K9 hK9 => ?_
  obtain ⟨o11, h2, h1⟩ := Sh.bind_some h1
  have M11 : ∀ (t10 : Bool), o11 = t10 → ∀ s, Wk 0 s ⟨215, envL [(26, (.bool t10))], []⟩ → K9 s := by
   intro t10 hq s hw
   subst o11
   try dsimp only at h1
   refine hK9 _ (AW.weaken hw ?_)
   refine ci h1 rfl ?_ ?_ <;> clear h1
   ·intro b12 h1
    refine zr tb rfl rfl ?_
    replace h1 := Sh.some_eq h1
    subst o4
    try dsimp only [id] at h0
    replace h0 := Sh.some_eq h0
    subst r
    exact AW.ret (xr (Wk.to (L := [(6, (i64 0))]) ⟨.rfl, trivial⟩))
   ·intro b12 h1
    exact AW.skip (M4 () (Sh.some_eq h1).symm _ (Wk.tr rfl))
  refine AW.regionO (by rfl) ?_
  refine zm tb 2 rfl ?_
  refine zl tb rfl rfl ?_
  refine zm tb 2 rfl ?_
  rcases Sh.ite_some h2 with ⟨b14, h2⟩ | ⟨b14, h2⟩
  ·refine zg tb b14 rfl ?_
   refine zg tb b14 rfl ?_
   obtain ⟨q15, gq15, h2⟩ := Sh.bind_some h2
   refine zd b14 hb23 (spec_inRange_ok gq15) rfl rfl rfl rfl ?_
   refine zt b14 rfl ?_
   exact AO.done (M11 q15 (Sh.some_eq h2).symm _ (Wk.d0 _ rfl))
  ·refine zs b14 rfl ?_
   iterate 2 refine zs b14 rfl ?_
   refine zf b14 rfl ?_
   exact AO.done (M11 false (Sh.some_eq h2).symm _ (Wk.d0 _ rfl))
 ·intro b8 h1
  refine zr tb rfl rfl ?_
  refine ci h1 rfl ?_ ?_ <;> clear h1
  ·intro b17 h1
   refine AW.seq fun K18 hK18 => ?_
   obtain ⟨o20, h2, h1⟩ := Sh.bind_some h1
   have M20 : ∀ (t19 : Bool), o20 = t19 → ∀ s, Wk 0 s ⟨215, envL [(1, (ls eI p1)), (5, (.ptr 0 0 0 0)), (40, (.bool t19))], [⟨0, 50, 3, [[(i64 p2.op), (i64 p2.num), (ls eRExpr p2.kids)]]⟩]⟩ → K18 s := by
    intro t19 hq s hw
    subst o20
    try dsimp only at h1
    refine hK18 _ (AW.weaken hw ?_)
    refine ci h1 rfl ?_ ?_ <;> clear h1
    ·intro b21 h1
     refine sr rfl fun K22 hK22 => ?_
     refine zm tb 3 rfl ?_
     obtain ⟨c23, gc23, h1⟩ := Sh.bind_some h1
     refine zx ei40 gc23 rfl rfl rfl ?_
     refine zm tb 2 rfl ?_
     refine dn hK22 rfl ?_
     replace h1 := Sh.some_eq h1
     subst o4
     try dsimp only [id] at h0
     replace h0 := Sh.some_eq h0
     subst r
     exact AW.ret (xr (Wk.d0 [(6, (i64 c23))] rfl))
    ·intro b21 h1
     exact AW.skip (M4 () (Sh.some_eq h1).symm _ (Wk.d0 _ rfl))
   refine AW.regionO (by rfl) ?_
   refine zm tb 2 rfl ?_
   refine zl tb rfl rfl ?_
   refine zm tb 2 rfl ?_
   rcases Sh.ite_some h2 with ⟨b24, h2⟩ | ⟨b24, h2⟩
   ·refine zg tb b24 rfl ?_
    iterate 2 refine zg tb b24 rfl ?_
    refine ao_q (v := (i64 (Sh.len p1))) (go1 rfl rfl b24) rfl (aq_lens sl40 rfl) ?_
    refine zg tb b24 rfl ?_
    obtain ⟨q25, gq25, h2⟩ := Sh.bind_some h2
    refine zd b24 hb23 (spec_inRange_ok gq25) rfl rfl rfl rfl ?_
    refine zt b24 rfl ?_
    exact AO.done (M20 q25 (Sh.some_eq h2).symm _ (Wk.permk (L := [(1, (ls eI p1)), (5, (.ptr 0 0 0 0)), (40, (.bool q25))]) (st' := [⟨0, 50, 3, [[(i64 p2.op), (i64 p2.num), (ls eRExpr p2.kids)]]⟩]) (st1 := [⟨0, 50, 3, [[(i64 p2.op), (i64 p2.num), (ls eRExpr p2.kids)]]⟩]) [1] rfl .nil (by decide) rfl rfl (.raw rfl rfl .nil) ⟨.rfl, .rfl, .rfl, trivial⟩))
   ·refine zs b24 rfl ?_
    iterate 5 refine zs b24 rfl ?_
    refine zf b24 rfl ?_
    exact AO.done (M20 false (Sh.some_eq h2).symm _ (Wk.permk (L := [(1, (ls eI p1)), (5, (.ptr 0 0 0 0)), (40, (.bool false))]) (st' := [⟨0, 50, 3, [[(i64 p2.op), (i64 p2.num), (ls eRExpr p2.kids)]]⟩]) (st1 := [⟨0, 50, 3, [[(i64 p2.op), (i64 p2.num), (ls eRExpr p2.kids)]]⟩]) [1] rfl .nil (by decide) rfl rfl (.raw rfl rfl .nil) ⟨.rfl, .rfl, .rfl, trivial⟩))
  ·intro b17 h1
   refine AW.seq fun K26 hK26 => ?_
   obtain ⟨o28, h2, h1⟩ := Sh.bind_some h1
   have M28 : ∀ (t27 : Bool), o28 = t27 → ∀ s, Wk 0 s ⟨215, envL [(1, (ls eI p1)), (3, (.ptr 0 0 0 0)), (5, (.ptr 1 0 0 0)), (7, (.bool (decide (p2.num = 0)))), (15, (i64 p2.op)), (46, (.bool t27))], [⟨0, 31, 2, [[(ls eRDecl p0.decls), (ls eRFunc p0.funcs)]]⟩, ⟨0, 50, 3, [[(i64 p2.op), (i64 p2.num), (ls eRExpr p2.kids)]]⟩]⟩ → K26 s := by
    intro t27 hq s hw
    subst o28
    try dsimp only at h1
    refine hK26 _ (AW.weaken hw ?_)
    refine ci h1 rfl ?_ ?_ <;> clear h1
    ·intro b29 h1
     refine AW.seq fun K30 hK30 => ?_
     obtain ⟨o32, h2, h1⟩ := Sh.bind_some h1
     have M32 : ∀ (t31 : Bool), o32 = t31 → ∀ s, Wk 0 s ⟨215, envL [(58, (.bool t31))], []⟩ → K30 s := by
      intro t31 hq s hw
      subst o32
      try dsimp only at h1
      refine hK30 _ (AW.weaken hw ?_)
      refine ci h1 rfl ?_ ?_ <;> clear h1
      ·intro b33 h1
       refine zr tb rfl rfl ?_
       replace h1 := Sh.some_eq h1
       subst o4
       try dsimp only [id] at h0
       replace h0 := Sh.some_eq h0
       subst r
       exact AW.ret (xr (Wk.to (L := [(6, (i64 0))]) ⟨.rfl, trivial⟩))
      ·intro b33 h1
       exact AW.skip (M4 () (Sh.some_eq h1).symm _ (Wk.tr rfl))
     refine AW.regionO (by rfl) ?_
     refine zm tb 2 rfl ?_
     rcases Sh.ite_some h2 with ⟨b35, h2⟩ | ⟨b35, h2⟩
     ·refine zg tb b35 rfl ?_
      iterate 3 refine zg tb b35 rfl ?_
      obtain ⟨q36, gq36, h2⟩ := Sh.bind_some h2
      refine zd b35 hb69 (spec_allInts_ok hrec_spec_typeOf gq36) rfl rfl rfl rfl ?_
      refine zt b35 rfl ?_
      exact AO.done (M32 q36 (Sh.some_eq h2).symm _ (Wk.d0 _ rfl))
     ·refine zs b35 rfl ?_
      iterate 4 refine zs b35 rfl ?_
      refine zf b35 rfl ?_
      exact AO.done (M32 false (Sh.some_eq h2).symm _ (Wk.d0 _ rfl))
    ·intro b29 h1
     refine zr tb rfl rfl ?_
     refine ci h1 rfl ?_ ?_ <;> clear h1
     ·intro b38 h1
      refine AW.seq fun K39 hK39 => ?_
      obtain ⟨o41, h2, h1⟩ := Sh.bind_some h1
      have M41 : ∀ (t40 : Bool), o41 = t40 → ∀ s, Wk 0 s ⟨215, envL [(68, (.bool t40))], []⟩ → K39 s := by
       intro t40 hq s hw
       subst o41
       try dsimp only at h1
       refine hK39 _ (AW.weaken hw ?_)
       refine ci h1 rfl ?_ ?_ <;> clear h1
       ·intro b42 h1
        refine zr tb rfl rfl ?_
        replace h1 := Sh.some_eq h1
        subst o4
        try dsimp only [id] at h0
        replace h0 := Sh.some_eq h0
        subst r
        exact AW.ret (xr (Wk.to (L := [(6, (i64 0))]) ⟨.rfl, trivial⟩))
       ·intro b42 h1
        exact AW.skip (M4 () (Sh.some_eq h1).symm _ (Wk.tr rfl))
      refine AW.regionO (by rfl) ?_
      refine zm tb 2 rfl ?_
      rcases Sh.ite_some h2 with ⟨b44, h2⟩ | ⟨b44, h2⟩
      ·refine zg tb b44 rfl ?_
       iterate 3 refine zg tb b44 rfl ?_
       obtain ⟨q45, gq45, h2⟩ := Sh.bind_some h2
       refine zd b44 hb69 (spec_allInts_ok hrec_spec_typeOf gq45) rfl rfl rfl rfl ?_
       refine zt b44 rfl ?_
       exact AO.done (M41 q45 (Sh.some_eq h2).symm _ (Wk.d0 _ rfl))
      ·refine zs b44 rfl ?_
       iterate 4 refine zs b44 rfl ?_
       refine zf b44 rfl ?_
       exact AO.done (M41 false (Sh.some_eq h2).symm _ (Wk.d0 _ rfl))
     ·intro b38 h1
      refine zr tb rfl rfl ?_
      refine ci h1 rfl ?_ ?_ <;> clear h1
      ·intro b47 h1
       refine AW.seq fun K48 hK48 => ?_
       obtain ⟨o50, h2, h1⟩ := Sh.bind_some h1
       have M50 : ∀ (t49 : Bool), o50 = t49 → ∀ s, Wk 0 s ⟨215, envL [(3, (.ptr 0 0 0 0)), (5, (.ptr 1 0 0 0)), (88, (.bool t49))], [⟨0, 31, 2, [[(ls eRDecl p0.decls), (ls eRFunc p0.funcs)]]⟩, ⟨0, 50, 3, [[(i64 p2.op), (i64 p2.num), (ls eRExpr p2.kids)]]⟩]⟩ → K48 s := by
        intro t49 hq s hw
        subst o50
        try dsimp only at h1
        refine hK48 _ (AW.weaken hw ?_)
        refine ci h1 rfl ?_ ?_ <;> clear h1
        ·intro b51 h1
         refine sr rfl fun K52 hK52 => ?_
         refine zm tb 4 rfl ?_
         obtain ⟨q53, gq53, h1⟩ := Sh.bind_some h1
         refine zc hb70 (spec_conType_ok gq53) rfl rfl rfl ?_
         refine zq tb rfl ?_
         refine dn hK52 rfl ?_
         replace h1 := Sh.some_eq h1
         subst o4
         try dsimp only [id] at h0
         replace h0 := Sh.some_eq h0
         subst r
         exact AW.ret (xr (Wk.d0 [(6, (i64 q53))] rfl))
        ·intro b51 h1
         exact AW.skip (M4 () (Sh.some_eq h1).symm _ (Wk.d0 _ rfl))
       refine AW.drawTailO 17 (by kernel_rfl) (by kernel_rfl) (by rfl) ?_
       iterate 4 refine yq tb rfl ?_
       obtain ⟨q54, gq54, h2⟩ := Sh.bind_some h2
       refine d_call (v := (i64 q54)) go0 hb70 (spec_conType_ok gq54) rfl rfl rfl ?_
       iterate 2 refine yq tb rfl ?_
       rcases Sh.ite_some h2 with ⟨b55, h2⟩ | ⟨b55, h2⟩
       ·refine yg tb b55 rfl ?_
        iterate 7 refine yg tb b55 rfl ?_
        obtain ⟨q56, gq56, h2⟩ := Sh.bind_some h2
        refine d_call (v := (ls eI q56)) (go1 rfl rfl b55) hb72 (spec_conFields_ok gq56) rfl rfl rfl ?_
        obtain ⟨q57, gq57, h2⟩ := Sh.bind_some h2
        refine d_call (v := (.bool q57)) (go1 rfl rfl b55) hb71 (spec_allOf_ok hrec_spec_typeOf gq57) rfl rfl rfl ?_
        refine d_done ?_
        refine zt b55 rfl ?_
        exact AO.done (M50 q57 (Sh.some_eq h2).symm _ (Wk.tr rfl))
       ·refine ys b55 rfl ?_
        iterate 9 refine ys b55 rfl ?_
        refine d_done ?_
        refine zf b55 rfl ?_
        exact AO.done (M50 false (Sh.some_eq h2).symm _ (Wk.tr rfl))
      ·intro b47 h1
       refine zr tb rfl rfl ?_
       refine ci h1 rfl ?_ ?_ <;> clear h1
       ·intro b59 h1
        refine AW.seq fun K60 hK60 => ?_
        obtain ⟨o62, h2, h1⟩ := Sh.bind_some h1
        have M62 : ∀ (t61 : Bool), o62 = t61 → ∀ s, Wk 0 s ⟨215, envL [(1, (ls eI p1)), (3, (.ptr 0 0 0 0)), (5, (.ptr 1 0 0 0)), (102, (.bool t61))], [⟨0, 31, 2, [[(ls eRDecl p0.decls), (ls eRFunc p0.funcs)]]⟩, ⟨0, 50, 3, [[(i64 p2.op), (i64 p2.num), (ls eRExpr p2.kids)]]⟩]⟩ → K60 s := by
         intro t61 hq s hw
         subst o62
         try dsimp only at h1
         refine hK60 _ (AW.weaken hw ?_)
         refine ci h1 rfl ?_ ?_ <;> clear h1
         ·intro b63 h1
          refine AW.seq fun K64 hK64 => ?_
          refine AW.draw (by kernel_rfl) (by kernel_rfl) (by rfl) ?_
          iterate 4 refine yq tb rfl ?_
          obtain ⟨c65, gc65, h1⟩ := Sh.bind_some h1
          refine yz (.iptr [(i64 c65.op), (i64 c65.num), (ls eRExpr c65.kids)] 0) (aq_ixsE ei48 rfl rfl gc65 (eRExpr_eq _) rfl) rfl ?_
          refine yq tb rfl ?_
          obtain ⟨q66, gq66, h1⟩ := Sh.bind_some h1
          refine d_call (v := (i64 q66)) go0 hb44 (hrec_spec_typeOf gq66) rfl rfl rfl ?_
          refine yq tb rfl ?_
          refine d_done (hK64 _ ?_)
          refine zr tb rfl rfl ?_
          refine ci h1 rfl ?_ ?_ <;> clear h1
          ·intro b68 h1
           refine AW.seq fun K69 hK69 => ?_
           refine AW.drawTailO 10 (by kernel_rfl) (by kernel_rfl) (by rfl) ?_
           iterate 3 refine yq tb rfl ?_
           refine d_bs (l := [q66]) (enc := eI) go0 ei40 (by decide) rfl rfl rfl rfl rfl (pure_map fun _ => rfl) ?_
           obtain ⟨q70, gq70, h1⟩ := Sh.bind_some h1
           refine d_call (v := (ls eI q70)) go0 hb73 (ACalls.wk (spec_extend_ok gq70) (by refine Wk.trans (Wk.frz (L := [(0, (ls eI q70))]) (st' := [⟨1, 3, 1, []⟩]) (id := 0) rfl (show 0 ≤ 0 by decide) (pure_map fun _ => rfl) ⟨(.frz rfl), trivial⟩ rfl) ?_; refine Wk.trans (Wk.permk (L := [(0, (ls eI q70))]) (st' := []) (st1 := []) [] rfl .nil (by decide) rfl rfl .nil ⟨.rfl, trivial⟩) ?_; exact Wk.to (L := [(0, (ls eI q70))]) ⟨.rfl, trivial⟩)) rfl rfl rfl ?_
           iterate 2 refine yq tb rfl ?_
           obtain ⟨c71, gc71, h1⟩ := Sh.bind_some h1
           refine yz (.iptr [(i64 c71.op), (i64 c71.num), (ls eRExpr c71.kids)] 0) (aq_ixsE ei48 rfl rfl gc71 (eRExpr_eq _) rfl) rfl ?_
           refine yq tb rfl ?_
           obtain ⟨q72, gq72, h1⟩ := Sh.bind_some h1
           refine d_call (v := (i64 q72)) go0 hb44 (hrec_spec_typeOf gq72) rfl rfl rfl ?_
           refine d_done ?_
           refine zq tb rfl ?_
           refine dn hK69 rfl ?_
           replace h1 := Sh.some_eq h1
           subst o4
           try dsimp only [id] at h0
           replace h0 := Sh.some_eq h0
           subst r
           exact AW.ret (xr (Wk.d0 [(6, (i64 q72))] rfl))
          ·intro b68 h1
           exact AW.skip (M4 () (Sh.some_eq h1).symm _ (Wk.d0 _ rfl))
         ·intro b63 h1
          exact AW.skip (M4 () (Sh.some_eq h1).symm _ (Wk.d0 _ rfl))
        refine AW.regionO (by rfl) ?_
        refine zm tb 2 rfl ?_
        rcases Sh.ite_some h2 with ⟨b73, h2⟩ | ⟨b73, h2⟩
        ·refine zg tb b73 rfl ?_
         refine zg tb b73 rfl ?_
         refine ao_q (v := (i64 (Sh.len p2.kids))) (go1 rfl rfl b73) rfl (aq_lens sl48 rfl) ?_
         refine zg tb b73 rfl ?_
         refine zt b73 rfl ?_
         exact AO.done (M62 (decide ((Sh.len p2.kids) = 2)) (Sh.some_eq h2).symm _ (Wk.tr rfl))
        ·refine zs b73 rfl ?_
         iterate 3 refine zs b73 rfl ?_
         refine zf b73 rfl ?_
         exact AO.done (M62 false (Sh.some_eq h2).symm _ (Wk.tr rfl))
       ·intro b59 h1
        refine zr tb rfl rfl ?_
        refine ci h1 rfl ?_ ?_ <;> clear h1
        ·intro b75 h1
         refine AW.seq fun K76 hK76 => ?_
         obtain ⟨o78, h2, h1⟩ := Sh.bind_some h1
         have M78 : ∀ (t77 : Bool), o78 = t77 → ∀ s, Wk 0 s ⟨215, envL [(1, (ls eI p1)), (3, (.ptr 0 0 0 0)), (5, (.ptr 1 0 0 0)), (140, (.bool t77))], [⟨0, 31, 2, [[(ls eRDecl p0.decls), (ls eRFunc p0.funcs)]]⟩, ⟨0, 50, 3, [[(i64 p2.op), (i64 p2.num), (ls eRExpr p2.kids)]]⟩]⟩ → K76 s := by
          intro t77 hq s hw
          subst o78
          try dsimp only at h1
          refine hK76 _ (AW.weaken hw ?_)
          refine ci h1 rfl ?_ ?_ <;> clear h1
          ·intro b79 h1
           refine AW.seq fun K80 hK80 => ?_
           refine AW.draw (by kernel_rfl) (by kernel_rfl) (by rfl) ?_
           iterate 4 refine yq tb rfl ?_
           obtain ⟨c81, gc81, h1⟩ := Sh.bind_some h1
           refine yz (.iptr [(i64 c81.op), (i64 c81.num), (ls eRExpr c81.kids)] 0) (aq_ixsE ei48 rfl rfl gc81 (eRExpr_eq _) rfl) rfl ?_
           refine yq tb rfl ?_
           obtain ⟨q82, gq82, h1⟩ := Sh.bind_some h1
           refine d_call (v := (i64 q82)) go0 hb44 (hrec_spec_typeOf gq82) rfl rfl rfl ?_
           refine yq tb rfl ?_
           refine d_done (hK80 _ ?_)
           refine AW.seq fun K83 hK83 => ?_
           refine AW.draw (by kernel_rfl) (by kernel_rfl) (by rfl) ?_
           iterate 4 refine yq tb rfl ?_
           obtain ⟨c84, gc84, h1⟩ := Sh.bind_some h1
           refine yz (.iptr [(i64 c84.op), (i64 c84.num), (ls eRExpr c84.kids)] 0) (aq_ixsE ei48 rfl rfl gc84 (eRExpr_eq _) rfl) rfl ?_
           refine yq tb rfl ?_
           obtain ⟨q85, gq85, h1⟩ := Sh.bind_some h1
           refine d_call (v := (i64 q85)) go0 hb44 (hrec_spec_typeOf gq85) rfl rfl rfl ?_
           iterate 2 refine yq tb rfl ?_
           refine d_done (hK83 _ ?_)
           refine ci h1 rfl ?_ ?_ <;> clear h1
           ·intro b86 h1
            refine zr tb rfl rfl ?_
            replace h1 := Sh.some_eq h1
            subst o4
            try dsimp only [id] at h0
            replace h0 := Sh.some_eq h0
            subst r
            exact AW.ret (xr (Wk.d0 [(6, (i64 q82))] rfl))
           ·intro b86 h1
            exact AW.skip (M4 () (Sh.some_eq h1).symm _ (Wk.d0 _ rfl))
          ·intro b79 h1
           exact AW.skip (M4 () (Sh.some_eq h1).symm _ (Wk.d0 _ rfl))
         refine AW.draw (by kernel_rfl) (by kernel_rfl) (by rfl) ?_
         iterate 2 refine yq tb rfl ?_
         rcases Sh.ite_some h2 with ⟨b88, h2⟩ | ⟨b88, h2⟩
         ·refine yg tb b88 rfl ?_
          refine yg tb b88 rfl ?_
          refine d_q (v := (i64 (Sh.len p2.kids))) (go1 rfl rfl b88) rfl (aq_lens sl48 rfl) ?_
          refine yg tb b88 rfl ?_
          refine yt b88 rfl ?_
          refine yq tb rfl ?_
          rcases Sh.ite_some h2 with ⟨b89, h2⟩ | ⟨b89, h2⟩
          ·refine yg tb b89 rfl ?_
           iterate 3 refine yg tb b89 rfl ?_
           obtain ⟨c90, gc90, h2⟩ := Sh.bind_some h2
           refine d_q (v := (.iptr [(i64 c90.op), (i64 c90.num), (ls eRExpr c90.kids)] 0)) (go1 rfl rfl b89) rfl (aq_ixsE ei48 rfl rfl gc90 (eRExpr_eq _) rfl) ?_
           refine yg tb b89 rfl ?_
           obtain ⟨q91, gq91, h2⟩ := Sh.bind_some h2
           refine d_call (v := (i64 q91)) (go1 rfl rfl b89) hb44 (hrec_spec_typeOf gq91) rfl rfl rfl ?_
           refine yg tb b89 rfl ?_
           refine yt b89 rfl ?_
           exact d_done (M78 (decide (q91 = 0)) (Sh.some_eq h2).symm _ (Wk.tr rfl))
          ·refine ys b89 rfl ?_
           iterate 7 refine ys b89 rfl ?_
           refine yf b89 rfl ?_
           exact d_done (M78 false (Sh.some_eq h2).symm _ (Wk.tr rfl))
         ·refine ys b88 rfl ?_
          iterate 3 refine ys b88 rfl ?_
          refine yf b88 rfl ?_
          refine yq tb rfl ?_
          iterate 8 refine ys rfl rfl ?_
          refine yf rfl rfl ?_
          exact d_done (M78 false (Sh.some_eq h2).symm _ (Wk.tr rfl))
        ·intro b75 h1
         refine zr tb rfl rfl ?_
         refine ci h1 rfl ?_ ?_ <;> clear h1
         ·intro b93 h1
          refine sr rfl fun K94 hK94 => ?_
          refine zm tb 3 rfl ?_
          obtain ⟨q95, gq95, h1⟩ := Sh.bind_some h1
          refine zc hb74 (spec_matchType_ok hrec_spec_typeOf gq95) rfl rfl rfl ?_
          refine zq tb rfl ?_
          refine dn hK94 rfl ?_
          replace h1 := Sh.some_eq h1
          subst o4
          try dsimp only [id] at h0
          replace h0 := Sh.some_eq h0
          subst r
          exact AW.ret (xr (Wk.d0 [(6, (i64 q95))] rfl))
         ·intro b93 h1
          refine AW.seq fun K96 hK96 => ?_
          obtain ⟨o98, h2, h1⟩ := Sh.bind_some h1
          have M98 : ∀ (t97 : Bool), o98 = t97 → ∀ s, Wk 0 s ⟨215, envL [(1, (ls eI p1)), (3, (.ptr 0 0 0 0)), (5, (.ptr 1 0 0 0)), (7, (.bool (decide (p2.num = 0)))), (15, (i64 p2.op)), (164, (.bool t97))], [⟨0, 31, 2, [[(ls eRDecl p0.decls), (ls eRFunc p0.funcs)]]⟩, ⟨0, 50, 3, [[(i64 p2.op), (i64 p2.num), (ls eRExpr p2.kids)]]⟩]⟩ → K96 s := by
           intro t97 hq s hw
           subst o98
           try dsimp only at h1
           refine hK96 _ (AW.weaken hw ?_)
           refine ci h1 rfl ?_ ?_ <;> clear h1
           ·intro b99 h1
            refine sr rfl fun K100 hK100 => ?_
            refine zm tb 3 rfl ?_
            obtain ⟨q101, gq101, h1⟩ := Sh.bind_some h1
            refine zc hb75 (spec_callType_ok hrec_spec_typeOf gq101) rfl rfl rfl ?_
            refine zq tb rfl ?_
            refine dn hK100 rfl ?_
            replace h1 := Sh.some_eq h1
            subst o4
            try dsimp only [id] at h0
            replace h0 := Sh.some_eq h0
            subst r
            exact AW.ret (xr (Wk.d0 [(6, (i64 q101))] rfl))
           ·intro b99 h1
            refine zr tb rfl rfl ?_
            refine ci h1 rfl ?_ ?_ <;> clear h1
            ·intro b103 h1
             refine AW.seq fun K104 hK104 => ?_
             obtain ⟨o106, h2, h1⟩ := Sh.bind_some h1
             have M106 : ∀ (t105 : Bool), o106 = t105 → ∀ s, Wk 0 s ⟨215, envL [(1, (ls eI p1)), (3, (.ptr 0 0 0 0)), (5, (.ptr 1 0 0 0)), (179, (.bool t105))], [⟨0, 31, 2, [[(ls eRDecl p0.decls), (ls eRFunc p0.funcs)]]⟩, ⟨0, 50, 3, [[(i64 p2.op), (i64 p2.num), (ls eRExpr p2.kids)]]⟩]⟩ → K104 s := by
              intro t105 hq s hw
              subst o106
              try dsimp only at h1
              refine hK104 _ (AW.weaken hw ?_)
              refine ci h1 rfl ?_ ?_ <;> clear h1
              ·intro b107 h1
               refine AW.seq fun K108 hK108 => ?_
               refine AW.draw (by kernel_rfl) (by kernel_rfl) (by rfl) ?_
               iterate 4 refine yq tb rfl ?_
               obtain ⟨c109, gc109, h1⟩ := Sh.bind_some h1
               refine yz (.iptr [(i64 c109.op), (i64 c109.num), (ls eRExpr c109.kids)] 0) (aq_ixsE ei48 rfl rfl gc109 (eRExpr_eq _) rfl) rfl ?_
               refine yq tb rfl ?_
               obtain ⟨q110, gq110, h1⟩ := Sh.bind_some h1
               refine d_call (v := (i64 q110)) go0 hb44 (hrec_spec_typeOf gq110) rfl rfl rfl ?_
               refine yq tb rfl ?_
               refine d_done (hK108 _ ?_)
               refine AW.seq fun K111 hK111 => ?_
               obtain ⟨o113, h2, h1⟩ := Sh.bind_some h1
               have M113 : ∀ (t112 : Bool), o113 = t112 → ∀ s, Wk 0 s ⟨215, envL [(3, (.ptr 0 0 0 0)), (10, (i64 q110)), (207, (.bool t112))], [⟨0, 31, 2, [[(ls eRDecl p0.decls), (ls eRFunc p0.funcs)]]⟩]⟩ → K111 s := by
                intro t112 hq s hw
                subst o113
                try dsimp only at h1
                refine hK111 _ (AW.weaken hw ?_)
                refine ci h1 rfl ?_ ?_ <;> clear h1
                ·intro b114 h1
                 refine sr rfl fun K115 hK115 => ?_
                 refine zm tb 4 rfl ?_
                 obtain ⟨c116, gc116, h1⟩ := Sh.bind_some h1
                 refine zx ei28 gc116 rfl rfl rfl ?_
                 refine zm tb 3 rfl ?_
                 refine dn hK115 rfl ?_
                 replace h1 := Sh.some_eq h1
                 subst o4
                 try dsimp only [id] at h0
                 replace h0 := Sh.some_eq h0
                 subst r
                 exact AW.ret (xr (Wk.d0 [(6, (i64 c116.to))] rfl))
                ·intro b114 h1
                 exact AW.skip (M4 () (Sh.some_eq h1).symm _ (Wk.d0 _ rfl))
               refine AW.draw (by kernel_rfl) (by kernel_rfl) (by rfl) ?_
               iterate 3 refine yq tb rfl ?_
               obtain ⟨q117, gq117, h2⟩ := Sh.bind_some h2
               refine d_call (v := (.bool q117)) go0 hb76 (spec_isArrow_ok gq117) rfl rfl rfl ?_
               refine yq tb rfl ?_
               rcases Sh.ite_some h2 with ⟨b118, h2⟩ | ⟨b118, h2⟩
               ·refine yg tb b118 rfl ?_
                iterate 3 refine yg tb b118 rfl ?_
                obtain ⟨c119, gc119, h2⟩ := Sh.bind_some h2
                refine d_q (v := (.iptr [(i64 c119.op), (i64 c119.num), (ls eRExpr c119.kids)] 0)) (go1 rfl rfl b118) rfl (aq_ixsE ei48 rfl rfl gc119 (eRExpr_eq _) rfl) ?_
                refine yg tb b118 rfl ?_
                obtain ⟨q120, gq120, h2⟩ := Sh.bind_some h2
                refine d_call (v := (i64 q120)) (go1 rfl rfl b118) hb44 (hrec_spec_typeOf gq120) rfl rfl rfl ?_
                iterate 4 refine yg tb b118 rfl ?_
                obtain ⟨c121, gc121, h2⟩ := Sh.bind_some h2
                refine d_q (v := (.iptr (eRDecl c121) 0)) (go1 rfl rfl b118) rfl (aq_ixs ei28 rfl rfl gc121 rfl) ?_
                iterate 3 refine yg tb b118 rfl ?_
                refine yt b118 rfl ?_
                exact d_done (M113 (decide (q120 = c121.from_)) (Sh.some_eq h2).symm _ (Wk.permk (L := [(3, (.ptr 0 0 0 0)), (10, (i64 q110)), (207, (.bool (decide (q120 = c121.from_))))]) (st' := [⟨0, 31, 2, [[(ls eRDecl p0.decls), (ls eRFunc p0.funcs)]]⟩]) (st1 := [⟨0, 31, 2, [[(ls eRDecl p0.decls), (ls eRFunc p0.funcs)]]⟩]) [0] rfl .nil (by decide) rfl rfl (.raw rfl rfl .nil) ⟨.rfl, .rfl, .rfl, trivial⟩))
               ·refine ys b118 rfl ?_
                iterate 14 refine ys b118 rfl ?_
                refine yf b118 rfl ?_
                exact d_done (M113 false (Sh.some_eq h2).symm _ (Wk.permk (L := [(3, (.ptr 0 0 0 0)), (10, (i64 q110)), (207, (.bool false))]) (st' := [⟨0, 31, 2, [[(ls eRDecl p0.decls), (ls eRFunc p0.funcs)]]⟩]) (st1 := [⟨0, 31, 2, [[(ls eRDecl p0.decls), (ls eRFunc p0.funcs)]]⟩]) [0] rfl .nil (by decide) rfl rfl (.raw rfl rfl .nil) ⟨.rfl, .rfl, .rfl, trivial⟩))
              ·intro b107 h1
               exact AW.skip (M4 () (Sh.some_eq h1).symm _ (Wk.d0 _ rfl))
             refine AW.regionO (by rfl) ?_
             refine zm tb 2 rfl ?_
             rcases Sh.ite_some h2 with ⟨b122, h2⟩ | ⟨b122, h2⟩
             ·refine zg tb b122 rfl ?_
              refine zg tb b122 rfl ?_
              refine ao_q (v := (i64 (Sh.len p2.kids))) (go1 rfl rfl b122) rfl (aq_lens sl48 rfl) ?_
              refine zg tb b122 rfl ?_
              refine zt b122 rfl ?_
              exact AO.done (M106 (decide ((Sh.len p2.kids) = 2)) (Sh.some_eq h2).symm _ (Wk.tr rfl))
             ·refine zs b122 rfl ?_
              iterate 3 refine zs b122 rfl ?_
              refine zf b122 rfl ?_
              exact AO.done (M106 false (Sh.some_eq h2).symm _ (Wk.tr rfl))
            ·intro b103 h1
             exact AW.skip (M4 () (Sh.some_eq h1).symm _ (Wk.d0 _ rfl))
          refine zr tb rfl rfl ?_
          refine ci h2 rfl ?_ ?_ <;> clear h2
          ·intro b124 h2
           exact AW.skip (M98 true (Sh.some_eq h2).symm _ (Wk.to (L := [(1, (ls eI p1)), (3, (.ptr 0 0 0 0)), (5, (.ptr 1 0 0 0)), (7, (.bool (decide (p2.num = 0)))), (15, (i64 p2.op)), (164, (.bool true))]) ⟨.rfl, .rfl, .rfl, .rfl, .rfl, (.of (congrArg AV.bool b124)), trivial⟩))
          ·intro b124 h2
           refine AW.regionO (by rfl) ?_
           refine zm tb 2 rfl ?_
           exact AO.done (M98 (decide (p2.op = 10)) (Sh.some_eq h2).symm _ (Wk.tr rfl))
   refine zr tb rfl rfl ?_
   refine ci h2 rfl ?_ ?_ <;> clear h2
   ·intro b126 h2
    exact AW.skip (M28 true (Sh.some_eq h2).symm _ (Wk.to (L := [(1, (ls eI p1)), (3, (.ptr 0 0 0 0)), (5, (.ptr 1 0 0 0)), (7, (.bool (decide (p2.num = 0)))), (15, (i64 p2.op)), (46, (.bool true))]) ⟨.rfl, .rfl, .rfl, .rfl, .rfl, (.of (congrArg AV.bool b126)), trivial⟩))
   ·intro b126 h2
    refine zr tb rfl rfl ?_
    refine ci h2 rfl ?_ ?_ <;> clear h2
    ·intro b128 h2
     exact AW.skip (M28 true (Sh.some_eq h2).symm _ (Wk.to (L := [(1, (ls eI p1)), (3, (.ptr 0 0 0 0)), (5, (.ptr 1 0 0 0)), (7, (.bool (decide (p2.num = 0)))), (15, (i64 p2.op)), (46, (.bool true))]) ⟨.rfl, .rfl, .rfl, .rfl, .rfl, (.of (congrArg AV.bool b128)), trivial⟩))
    ·intro b128 h2
     refine zr tb rfl rfl ?_
     refine ci h2 rfl ?_ ?_ <;> clear h2
     ·intro b130 h2
      exact AW.skip (M28 true (Sh.some_eq h2).symm _ (Wk.to (L := [(1, (ls eI p1)), (3, (.ptr 0 0 0 0)), (5, (.ptr 1 0 0 0)), (7, (.bool (decide (p2.num = 0)))), (15, (i64 p2.op)), (46, (.bool true))]) ⟨.rfl, .rfl, .rfl, .rfl, .rfl, (.of (congrArg AV.bool b130)), trivial⟩))
     ·intro b130 h2
      refine AW.regionO (by rfl) ?_
      refine zm tb 2 rfl ?_
      exact AO.done (M28 (decide (p2.op = 4)) (Sh.some_eq h2).symm _ (Wk.tr rfl))

theorem spec_typeOf_F_ok {N : Nat} : ∀ (n : Nat), ∀ {p0 : RProgram} {p1 : (List Int)} {p2 : RExpr} {r : Int}, spec_typeOf_F N n p0 p1 p2 = some r → ACalls Try.prog 44 [(.agg [(ls eRDecl p0.decls), (ls eRFunc p0.funcs)]), (ls eI p1), (.agg [(i64 p2.op), (i64 p2.num), (ls eRExpr p2.kids)])] [] (fun v st => v = (i64 r) ∧ st = []) := by
 intro n
 induction n with
 | zero => intro p0 p1 p2 r h0; cases h0
 | succ n ih =>
  intro p0 p1 p2 r h0
  rw [spec_typeOf_F] at h0
  exact spec_typeOf_B_ok (fun h => ih h) h0
theorem spec_typeOf_ok {N : Nat} : ∀ {p0 : RProgram} {p1 : (List Int)} {p2 : RExpr} {r : Int}, spec_typeOf N p0 p1 p2 = some r → ACalls Try.prog 44 [(.agg [(ls eRDecl p0.decls), (ls eRFunc p0.funcs)]), (ls eI p1), (.agg [(i64 p2.op), (i64 p2.num), (ls eRExpr p2.kids)])] [] (fun v st => v = (i64 r) ∧ st = []) := by
 intro p0 p1 p2 r h0
 exact spec_typeOf_F_ok N h0
theorem spec_validProgram_ok {N : Nat} {p0 : RProgram} {r : Bool} (h0 : spec_validProgram N p0 = some r) : ACalls Try.prog 22 [(.agg [(ls eRDecl p0.decls), (ls eRFunc p0.funcs)])] [] (fun v st => v = (.bool r) ∧ st = []) := by
 unfold spec_validProgram at h0
 refine ai Try.func22 rfl rfl rfl rfl ?_
 refine sr rfl fun K1 hK1 => ?_
 refine ao_box (m := 0) (st' := [⟨0, 31, 2, [[(ls eRDecl p0.decls), (ls eRFunc p0.funcs)]]⟩]) go0 rfl rfl rfl rfl rfl ?_
 refine zq tb rfl ?_
 refine dn hK1 rfl ?_
 refine AW.seq fun K2 hK2 => ?_
 refine sr rfl fun K3 hK3 => ?_
 refine zq tb rfl ?_
 obtain ⟨q4, gq4, h0⟩ := Sh.bind_some h0
 refine zc hb42 (spec_validSigs_ok gq4) rfl rfl rfl ?_
 refine zq tb rfl ?_
 refine dn hK3 rfl ?_
 refine ci h0 rfl ?_ ?_ <;> clear h0
 ·intro b5 h0
  have b6 : q4 = false := by simpa using b5
  refine zr tb rfl rfl ?_
  replace h0 := Sh.some_eq h0
  subst r
  exact AW.ret (xr (Wk.d0 [(2, (.bool false))] rfl))
 ·intro b5 h0
  have b8 : q4 = true := by simpa using b5
  refine AW.skip (hK2 _ ?_)
  refine AW.seq fun K9 hK9 => ?_
  refine zr tb rfl rfl ?_
  obtain ⟨o12, h1, h0⟩ := Sh.cont_some h0
  have M12 : ∀ (_ : Unit), o12 = Sum.inr () → ∀ s, Wk 0 s ⟨45, envL [], []⟩ → K9 s := by
   intro _ hq s hw
   subst o12
   try dsimp only at h0
   refine hK9 _ (AW.weaken hw ?_)
   refine zr tb rfl rfl ?_
   replace h0 := Sh.some_eq h0
   subst r
   exact AW.ret (xr (Wk.to (L := [(2, (.bool true))]) ⟨.rfl, trivial⟩))
  refine AW.block (AW.loopF (σ := Int) (fun n v => spec_validProgram_L1 N p0 n v = some o12) (fun i11 => ⟨45, envL [(1, (.ptr 0 0 0 0)), (3, (i64 i11))], [⟨0, 31, 2, [[(ls eRDecl p0.decls), (ls eRFunc p0.funcs)]]⟩]⟩) N 0 h1 (Wk.tr rfl) (fun _ hv => by rw [spec_validProgram_L1] at hv; cases hv) ?_)
  rintro n i11 h1
  try dsimp only at h1 ⊢
  rw [spec_validProgram_L1] at h1
  refine AW.seq fun K14 hK14 => ?_
  refine sr rfl fun K15 hK15 => ?_
  refine zm tb 3 rfl ?_
  refine zl tb rfl rfl ?_
  refine zq tb rfl ?_
  refine dn hK15 rfl ?_
  refine ci h1 rfl ?_ ?_ <;> clear h1
  ·intro b16 h1
   refine AW.skip (hK14 _ ?_)
   refine AW.seq fun K17 hK17 => ?_
   refine AW.block ?_
   refine AW.seq fun K18 hK18 => ?_
   obtain ⟨o20, h2, h1⟩ := Sh.bind_some h1
   have M20 : ∀ (t19 : Bool), o20 = t19 → ∀ s, Wk 0 s ⟨45, envL [(1, (.ptr 0 0 0 0)), (3, (i64 i11)), (44, (.bool t19))], [⟨0, 31, 2, [[(ls eRDecl p0.decls), (ls eRFunc p0.funcs)]]⟩]⟩ → K18 s := by
    intro t19 hq s hw
    subst o20
    try dsimp only at h1
    refine hK18 _ (AW.weaken hw ?_)
    refine ci h1 rfl ?_ ?_ <;> clear h1
    ·intro b21 h1
     refine zr tb rfl rfl ?_
     replace h1 := Sh.some_eq h1
     subst o12
     try dsimp only [id] at h0
     replace h0 := Sh.some_eq h0
     subst r
     exact AW.ret (xr (Wk.d0 [(2, (.bool false))] rfl))
    ·intro b21 h1
     refine AW.skip (hK17 _ ?_)
     refine AW.regionO (by rfl) ?_
     refine zm tb 3 rfl ?_
     exact AO.done (xi (Sh.w (i11 + 1)) h1 (Wk.tr rfl))
   refine AW.draw (by kernel_rfl) (by kernel_rfl) (by rfl) ?_
   iterate 3 refine yq tb rfl ?_
   obtain ⟨c23, gc23, h2⟩ := Sh.bind_some h2
   refine yx ei29 gc23 rfl rfl rfl ?_
   iterate 2 refine yq tb rfl ?_
   obtain ⟨q24, gq24, h2⟩ := Sh.bind_some h2
   refine d_call (v := (i64 q24)) go0 hb43 (spec_nodesOf_ok gq24) rfl rfl rfl ?_
   iterate 2 refine yq tb rfl ?_
   rcases Sh.ite_some h2 with ⟨b25, h2⟩ | ⟨b25, h2⟩
   ·refine ys b25 rfl ?_
    iterate 20 refine ys b25 rfl ?_
    refine yt b25 rfl ?_
    exact d_done (M20 true (Sh.some_eq h2).symm _ (Wk.tr rfl))
   ·refine yg tb b25 rfl ?_
    iterate 3 refine yg tb b25 rfl ?_
    refine d_q (v := (.iptr (eRFunc c23) 0)) (go1 rfl rfl b25) rfl (aq_ixs ei29 rfl rfl gc23 rfl) ?_
    iterate 5 refine yg tb b25 rfl ?_
    refine d_q (v := (.iptr (eRFunc c23) 0)) (go1 rfl rfl b25) rfl (aq_ixs ei29 rfl rfl gc23 rfl) ?_
    iterate 2 refine yg tb b25 rfl ?_
    obtain ⟨q26, gq26, h2⟩ := Sh.bind_some h2
    refine d_call (v := (i64 q26)) (go1 rfl rfl b25) hb44 (spec_typeOf_ok gq26) rfl rfl rfl ?_
    iterate 3 refine yg tb b25 rfl ?_
    refine d_q (v := (.iptr (eRFunc c23) 0)) (go1 rfl rfl b25) rfl (aq_ixs ei29 rfl rfl gc23 rfl) ?_
    iterate 3 refine yg tb b25 rfl ?_
    refine yf b25 rfl ?_
    exact d_done (M20 (!decide (q26 = c23.result)) (Sh.some_eq h2).symm _ (Wk.tr rfl))
  ·intro b16 h1
   exact AW.exit (M12 () (Sh.some_eq h1).symm _ (Wk.d0 _ rfl))
theorem spec_insert_ok {N : Nat} {p0 : (List Int)} {p1 : Int} {r : (List Int)} (h0 : spec_insert N p0 p1 = some r) : ACalls Try.prog 83 [(ls eI p0), (i64 p1)] [] (fun v st => v = (ow 0 0 r) ∧ st = [(ro 0 3 1 eI r)]) := by
 unfold spec_insert at h0
 refine ai Try.func83 rfl rfl rfl rfl ?_
 refine zr tb rfl rfl ?_
 refine sr rfl fun K2 hK2 => ?_
 refine ao_bs (m := 0) (st' := [(ro 0 3 1 eI ([] : List Int))]) (l := ([] : List Int)) (enc := eI) go0 ei40 (by decide) rfl rfl rfl rfl rfl rfl ?_
 refine zq tb rfl ?_
 refine dn hK2 rfl ?_
 refine zr tb rfl rfl ?_
 refine AW.seq fun K4 hK4 => ?_
 refine zr tb rfl rfl ?_
 obtain ⟨o11, h1, h0⟩ := Sh.bind_some h0
 have M11 : ∀ (done9 : Bool) (l10 : (List Int)), o11 = (done9, l10) → ∀ s, Wk 0 s ⟨49, envL [(1, (i64 p1)), (5, (ow 0 0 l10)), (6, (.bool done9))], [(ro 0 3 1 eI l10)]⟩ → K4 s := by
  intro done9 l10 hq s hw
  subst o11
  try dsimp only at h0
  refine hK4 _ (AW.weaken hw ?_)
  refine AW.seq fun K12 hK12 => ?_
  obtain ⟨o14, h1, h0⟩ := Sh.bind_some h0
  have M14 : ∀ (l13 : (List Int)), o14 = l13 → ∀ s, Wk 0 s ⟨49, envL [(5, (ow 0 0 l13))], [(ro 0 3 1 eI l13)]⟩ → K12 s := by
   intro l13 hq s hw
   subst o14
   try dsimp only at h0
   refine hK12 _ (AW.weaken hw ?_)
   refine zr tb rfl rfl ?_
   replace h0 := Sh.some_eq h0
   subst r
   exact AW.ret (xr (Wk.to (L := [(4, (ow 0 0 l13))]) ⟨.rfl, trivial⟩))
  refine zr tb rfl rfl ?_
  refine ci h1 rfl ?_ ?_ <;> clear h1
  ·intro b17 h1
   have b18 : done9 = false := by simpa using b17
   refine AW.regionO (by rfl) ?_
   refine zm tb 2 rfl ?_
   refine ao_bs (m := 1) (st' := [(ro 0 3 1 eI l10), (ro 0 3 1 eI [p1])]) (l := [p1]) (enc := eI) go0 ei40 (by decide) rfl rfl rfl rfl rfl rfl ?_
   obtain ⟨l19, gl19, h1⟩ := Sh.bind_some h1
   refine ao_apo (st' := [(ro 1 3 1 eI l19), (ro 0 3 1 eI [p1])]) (l2 := [p1]) go0 ei40 rfl rfl rfl rfl (el_o rfl rfl) (fun _ => rfl) gl19 rfl ?_
   refine zq tb rfl ?_
   exact AO.done (M14 l19 (Sh.some_eq h1).symm _ (by refine Wk.trans (Wk.rg (L := [(5, (ow 0 0 l19))]) (st' := [(ro 0 3 1 eI l19), (ro 0 3 1 eI [p1])]) (.pure (pure_map fun _ => rfl) (.pure (pure_map fun _ => rfl) .nil)) ⟨.rfl, trivial⟩) ?_; exact Wk.permk (L := [(5, (ow 0 0 l19))]) (st' := [(ro 0 3 1 eI l19)]) (st1 := [(ro 0 3 1 eI l19)]) [0] rfl .nil (by decide) rfl rfl (.pure (pure_map fun _ => rfl) .nil) ⟨.rfl, trivial⟩))
  ·intro b17 h1
   have b20 : done9 = true := by simpa using b17
   exact AW.skip (M14 l10 (Sh.some_eq h1).symm _ (Wk.tr rfl))
 refine AW.block (AW.loopF (σ := Bool × Int × (List Int)) (fun n v => spec_insert_L1 p0 p1 n v.1 v.2.1 v.2.2 = some o11) (fun (done6, i7, l8) => ⟨49, envL [(0, (ls eI p0)), (1, (i64 p1)), (5, (ow 0 0 l8)), (6, (.bool done6)), (7, (i64 i7))], [(ro 0 3 1 eI l8)]⟩) N (false, 0, []) h1 (Wk.tr rfl) (fun _ hv => by rw [spec_insert_L1] at hv; cases hv) ?_)
 rintro n ⟨done6, i7, l8⟩ h1
 try dsimp only at h1 ⊢
 rw [spec_insert_L1] at h1
 refine AW.seq fun K21 hK21 => ?_
 refine sr rfl fun K22 hK22 => ?_
 refine zm tb 2 rfl ?_
 refine zl tb rfl rfl ?_
 refine zq tb rfl ?_
 refine dn hK22 rfl ?_
 refine ci h1 rfl ?_ ?_ <;> clear h1
 ·intro b23 h1
  refine AW.skip (hK21 _ ?_)
  refine AW.seq fun K24 hK24 => ?_
  refine AW.block ?_
  refine AW.seq fun K25 hK25 => ?_
  obtain ⟨o28, h2, h1⟩ := Sh.bind_some h1
  have M28 : ∀ (done26 : Bool) (l27 : (List Int)), o28 = (done26, l27) → ∀ s, Wk 0 s ⟨49, envL [(0, (ls eI p0)), (1, (i64 p1)), (5, (ow 0 0 l27)), (6, (.bool done26)), (7, (i64 i7))], [(ro 0 3 1 eI l27)]⟩ → K25 s := by
   intro done26 l27 hq s hw
   subst o28
   try dsimp only at h1
   refine hK25 _ (AW.weaken hw ?_)
   refine AW.regionO (by rfl) ?_
   refine zm tb 3 rfl ?_
   obtain ⟨c29, gc29, h1⟩ := Sh.bind_some h1
   refine zx ei40 gc29 rfl rfl rfl ?_
   refine zq tb rfl ?_
   refine ao_bs (m := 1) (st' := [(ro 0 3 1 eI l27), (ro 0 3 1 eI [c29])]) (l := [c29]) (enc := eI) go0 ei40 (by decide) rfl rfl rfl rfl rfl rfl ?_
   obtain ⟨l30, gl30, h1⟩ := Sh.bind_some h1
   refine ao_apo (st' := [(ro 1 3 1 eI l30), (ro 0 3 1 eI [c29])]) (l2 := [c29]) go0 ei40 rfl rfl rfl rfl (el_o rfl rfl) (fun _ => rfl) gl30 rfl ?_
   refine zq tb rfl ?_
   refine dn hK24 rfl ?_
   refine AW.regionO (by rfl) ?_
   refine zm tb 3 rfl ?_
   exact AO.done (xi (done26, Sh.w (i7 + 1), l30) h1 (by refine Wk.trans (Wk.rg (L := [(0, (ls eI p0)), (1, (i64 p1)), (5, (ow 0 0 l30)), (6, (.bool done26)), (7, (i64 (Sh.w (i7 + 1))))]) (st' := [(ro 0 3 1 eI l30), (ro 0 3 1 eI [c29])]) (.pure (pure_map fun _ => rfl) (.pure (pure_map fun _ => rfl) .nil)) ⟨.rfl, .rfl, .rfl, .rfl, .rfl, trivial⟩) ?_; exact Wk.permk (L := [(0, (ls eI p0)), (1, (i64 p1)), (5, (ow 0 0 l30)), (6, (.bool done26)), (7, (i64 (Sh.w (i7 + 1))))]) (st' := [(ro 0 3 1 eI l30)]) (st1 := [(ro 0 3 1 eI l30)]) [0] rfl .nil (by decide) rfl rfl (.pure (pure_map fun _ => rfl) .nil) ⟨.rfl, .rfl, .rfl, .rfl, .rfl, trivial⟩))
  refine AW.seq fun K31 hK31 => ?_
  obtain ⟨o33, h3, h2⟩ := Sh.bind_some h2
  have M33 : ∀ (t32 : Bool), o33 = t32 → ∀ s, Wk 0 s ⟨49, envL [(0, (ls eI p0)), (1, (i64 p1)), (5, (ow 0 0 l8)), (6, (.bool done6)), (7, (i64 i7)), (24, (.bool t32))], [(ro 0 3 1 eI l8)]⟩ → K31 s := by
   intro t32 hq s hw
   subst o33
   try dsimp only at h2
   refine hK31 _ (AW.weaken hw ?_)
   refine ci h2 rfl ?_ ?_ <;> clear h2
   ·intro b34 h2
    refine AW.seq fun K35 hK35 => ?_
    obtain ⟨o37, h3, h2⟩ := Sh.bind_some h2
    have M37 : ∀ (l36 : (List Int)), o37 = l36 → ∀ s, Wk 0 s ⟨49, envL [(0, (ls eI p0)), (1, (i64 p1)), (5, (ow 0 0 l36)), (7, (i64 i7))], [(ro 0 3 1 eI l36)]⟩ → K35 s := by
     intro l36 hq s hw
     subst o37
     try dsimp only at h2
     refine hK35 _ (AW.weaken hw ?_)
     refine AW.regionO (by rfl) ?_
     refine zq tb rfl ?_
     exact AO.done (M28 true l36 (Sh.some_eq h2).symm _ (Wk.tr rfl))
    refine sr rfl fun K38 hK38 => ?_
    refine zm tb 2 rfl ?_
    obtain ⟨c39, gc39, h3⟩ := Sh.bind_some h3
    refine zx ei40 gc39 rfl rfl rfl ?_
    refine zm tb 3 rfl ?_
    refine dn hK38 rfl ?_
    refine ci h3 rfl ?_ ?_ <;> clear h3
    ·intro b40 h3
     refine AW.regionO (by rfl) ?_
     refine zm tb 2 rfl ?_
     refine ao_bs (m := 1) (st' := [(ro 0 3 1 eI l8), (ro 0 3 1 eI [p1])]) (l := [p1]) (enc := eI) go0 ei40 (by decide) rfl rfl rfl rfl rfl rfl ?_
     obtain ⟨l41, gl41, h3⟩ := Sh.bind_some h3
     refine ao_apo (st' := [(ro 1 3 1 eI l41), (ro 0 3 1 eI [p1])]) (l2 := [p1]) go0 ei40 rfl rfl rfl rfl (el_o rfl rfl) (fun _ => rfl) gl41 rfl ?_
     refine zq tb rfl ?_
     exact AO.done (M37 l41 (Sh.some_eq h3).symm _ (by refine Wk.trans (Wk.rg (L := [(0, (ls eI p0)), (1, (i64 p1)), (5, (ow 0 0 l41)), (7, (i64 i7))]) (st' := [(ro 0 3 1 eI l41), (ro 0 3 1 eI [p1])]) (.pure (pure_map fun _ => rfl) (.pure (pure_map fun _ => rfl) .nil)) ⟨.rfl, .rfl, .rfl, .rfl, trivial⟩) ?_; exact Wk.permk (L := [(0, (ls eI p0)), (1, (i64 p1)), (5, (ow 0 0 l41)), (7, (i64 i7))]) (st' := [(ro 0 3 1 eI l41)]) (st1 := [(ro 0 3 1 eI l41)]) [0] rfl .nil (by decide) rfl rfl (.pure (pure_map fun _ => rfl) .nil) ⟨.rfl, .rfl, .rfl, .rfl, trivial⟩))
    ·intro b40 h3
     exact AW.skip (M37 l8 (Sh.some_eq h3).symm _ (Wk.tr rfl))
   ·intro b34 h2
    exact AW.skip (M28 done6 l8 (Sh.some_eq h2).symm _ (Wk.tr rfl))
  refine AW.regionO (by rfl) ?_
  refine zm tb 3 rfl ?_
  rcases Sh.ite_some h3 with ⟨b42, h3⟩ | ⟨b42, h3⟩
  ·refine zg tb b42 rfl ?_
   refine zg tb b42 rfl ?_
   obtain ⟨c43, gc43, h3⟩ := Sh.bind_some h3
   refine ao_q (v := (.iptr (eI c43) 0)) (go1 rfl rfl b42) rfl (aq_ixs ei40 rfl rfl gc43 rfl) ?_
   iterate 3 refine zg tb b42 rfl ?_
   refine zt b42 rfl ?_
   exact AO.done (M33 (decide (p1 ≤ c43)) (Sh.some_eq h3).symm _ (Wk.tr rfl))
  ·refine zs b42 rfl ?_
   iterate 5 refine zs b42 rfl ?_
   refine zf b42 rfl ?_
   exact AO.done (M33 false (Sh.some_eq h3).symm _ (Wk.tr rfl))
 ·intro b23 h1
  exact AW.exit (M11 done6 l8 (Sh.some_eq h1).symm _ (Wk.tr rfl))
theorem spec_calleesIn_B_ok {N : Nat} {rec_spec_calleesIn : RExpr → (List Int) → Option ((List Int))} (hrec_spec_calleesIn : ∀ {p0 : RExpr} {p1 : (List Int)} {r : (List Int)}, rec_spec_calleesIn p0 p1 = some r → ACalls Try.prog 49 [(.agg [(i64 p0.op), (i64 p0.num), (ls eRExpr p0.kids)]), (ls eI p1)] [] (fun v st => v = (ls eI r) ∧ st = [])) {p0 : RExpr} {p1 : (List Int)} {r : (List Int)} (h0 : spec_calleesIn_B N rec_spec_calleesIn p0 p1 = some r) : ACalls Try.prog 49 [(.agg [(i64 p0.op), (i64 p0.num), (ls eRExpr p0.kids)]), (ls eI p1)] [] (fun v st => v = (ls eI r) ∧ st = []) := by
 unfold spec_calleesIn_B at h0
 refine ai Try.func49 rfl rfl rfl rfl ?_
 refine sr rfl fun K1 hK1 => ?_
 refine ao_box (m := 0) (st' := [⟨0, 50, 3, [[(i64 p0.op), (i64 p0.num), (ls eRExpr p0.kids)]]⟩]) go0 rfl rfl rfl rfl rfl ?_
 refine zq tb rfl ?_
 refine dn hK1 rfl ?_
 refine AW.seq fun K2 hK2 => ?_
 obtain ⟨o4, h1, h0⟩ := Sh.bind_some h0
 have M4 : ∀ (list3 : (List Int)), o4 = list3 → ∀ s, Wk 0 s ⟨33, envL [(1, (ls eI list3)), (2, (.ptr 0 0 0 0))], [⟨0, 50, 3, [[(i64 p0.op), (i64 p0.num), (ls eRExpr p0.kids)]]⟩]⟩ → K2 s := by
  intro list3 hq s hw
  subst o4
  try dsimp only at h0
  refine hK2 _ (AW.weaken hw ?_)
  refine AW.seq fun K5 hK5 => ?_
  refine zr tb rfl rfl ?_
  obtain ⟨o10, h1, h0⟩ := Sh.bind_some h0
  have M10 : ∀ (list9 : (List Int)), o10 = list9 → ∀ s, Wk 0 s ⟨33, envL [(1, (ls eI list9))], []⟩ → K5 s := by
   intro list9 hq s hw
   subst o10
   try dsimp only at h0
   refine hK5 _ (AW.weaken hw ?_)
   refine zr tb rfl rfl ?_
   replace h0 := Sh.some_eq h0
   subst r
   exact AW.ret (xr (Wk.to (L := [(4, (ls eI list9))]) ⟨.rfl, trivial⟩))
  refine AW.block (AW.loopF (σ := (List Int) × Int) (fun n v => spec_calleesIn_B_L1 p0 rec_spec_calleesIn n v.1 v.2 = some o10) (fun (list7, i8) => ⟨33, envL [(1, (ls eI list7)), (2, (.ptr 0 0 0 0)), (5, (i64 i8))], [⟨0, 50, 3, [[(i64 p0.op), (i64 p0.num), (ls eRExpr p0.kids)]]⟩]⟩) N (list3, 0) h1 (Wk.tr rfl) (fun _ hv => by rw [spec_calleesIn_B_L1] at hv; cases hv) ?_)
  rintro n ⟨list7, i8⟩ h1
  try dsimp only at h1 ⊢
  rw [spec_calleesIn_B_L1] at h1
  refine AW.seq fun K12 hK12 => ?_
  refine sr rfl fun K13 hK13 => ?_
  refine zm tb 3 rfl ?_
  refine zl tb rfl rfl ?_
  refine zq tb rfl ?_
  refine dn hK13 rfl ?_
  refine ci h1 rfl ?_ ?_ <;> clear h1
  ·intro b14 h1
   refine AW.skip (hK12 _ ?_)
   refine AW.seq fun K15 hK15 => ?_
   refine AW.block ?_
   refine AW.regionO (by rfl) ?_
   refine zm tb 3 rfl ?_
   obtain ⟨c16, gc16, h1⟩ := Sh.bind_some h1
   refine zz (.iptr [(i64 c16.op), (i64 c16.num), (ls eRExpr c16.kids)] 0) (aq_ixsE ei48 rfl rfl gc16 (eRExpr_eq _) rfl) rfl ?_
   refine zm tb 2 rfl ?_
   obtain ⟨q17, gq17, h1⟩ := Sh.bind_some h1
   refine zc hb49 (hrec_spec_calleesIn gq17) rfl rfl rfl ?_
   refine zq tb rfl ?_
   refine dn hK15 rfl ?_
   refine AW.regionO (by rfl) ?_
   refine zm tb 3 rfl ?_
   exact AO.done (xi (q17, Sh.w (i8 + 1)) h1 (Wk.tr rfl))
  ·intro b14 h1
   exact AW.exit (M10 list7 (Sh.some_eq h1).symm _ (Wk.d0 _ rfl))
 refine AW.seq fun K18 hK18 => ?_
 obtain ⟨o20, h2, h1⟩ := Sh.bind_some h1
 have M20 : ∀ (t19 : Bool), o20 = t19 → ∀ s, Wk 0 s ⟨33, envL [(1, (ls eI p1)), (2, (.ptr 0 0 0 0)), (13, (.bool t19))], [⟨0, 50, 3, [[(i64 p0.op), (i64 p0.num), (ls eRExpr p0.kids)]]⟩]⟩ → K18 s := by
  intro t19 hq s hw
  subst o20
  try dsimp only at h1
  refine hK18 _ (AW.weaken hw ?_)
  refine ci h1 rfl ?_ ?_ <;> clear h1
  ·intro b21 h1
   refine AW.regionO (by rfl) ?_
   refine zm tb 3 rfl ?_
   obtain ⟨q22, gq22, h1⟩ := Sh.bind_some h1
   refine ao_call (v' := (ow 1 0 q22)) (st' := [⟨0, 50, 3, [[(i64 p0.op), (i64 p0.num), (ls eRExpr p0.kids)]]⟩, (ro 0 3 1 eI q22)]) go0 hb83 (spec_insert_ok gq22) rfl rfl ⟨(pure_map' fun _ => rfl), trivial⟩ rfl rfl ?_
   refine zq tb rfl ?_
   exact AO.done (M4 q22 (Sh.some_eq h1).symm _ (by refine Wk.trans (Wk.frz (L := [(1, (ls eI q22)), (2, (.ptr 0 0 0 0))]) (st' := [⟨0, 50, 3, [[(i64 p0.op), (i64 p0.num), (ls eRExpr p0.kids)]]⟩, ⟨1, 3, 1, []⟩]) (id := 1) rfl (show 0 ≤ 1 by decide) (pure_map fun _ => rfl) ⟨(.frz rfl), .rfl, trivial⟩ rfl) ?_; exact Wk.permk (L := [(1, (ls eI q22)), (2, (.ptr 0 0 0 0))]) (st' := [⟨0, 50, 3, [[(i64 p0.op), (i64 p0.num), (ls eRExpr p0.kids)]]⟩]) (st1 := [⟨0, 50, 3, [[(i64 p0.op), (i64 p0.num), (ls eRExpr p0.kids)]]⟩]) [0] rfl .nil (by decide) rfl rfl (.raw rfl rfl .nil) ⟨.rfl, .rfl, trivial⟩))
  ·intro b21 h1
   exact AW.skip (M4 p1 (Sh.some_eq h1).symm _ (Wk.tr rfl))
 refine AW.regionO (by rfl) ?_
 refine zm tb 4 rfl ?_
 rcases Sh.ite_some h2 with ⟨b23, h2⟩ | ⟨b23, h2⟩
 ·refine zs b23 rfl ?_
  iterate 2 refine zs b23 rfl ?_
  refine zt b23 rfl ?_
  exact AO.done (M20 true (Sh.some_eq h2).symm _ (Wk.tr rfl))
 ·refine zg tb b23 rfl ?_
  iterate 2 refine zg tb b23 rfl ?_
  refine zf b23 rfl ?_
  exact AO.done (M20 (decide (p0.op = 10)) (Sh.some_eq h2).symm _ (Wk.tr rfl))

theorem spec_calleesIn_F_ok {N : Nat} : ∀ (n : Nat), ∀ {p0 : RExpr} {p1 : (List Int)} {r : (List Int)}, spec_calleesIn_F N n p0 p1 = some r → ACalls Try.prog 49 [(.agg [(i64 p0.op), (i64 p0.num), (ls eRExpr p0.kids)]), (ls eI p1)] [] (fun v st => v = (ls eI r) ∧ st = []) := by
 intro n
 induction n with
 | zero => intro p0 p1 r h0; cases h0
 | succ n ih =>
  intro p0 p1 r h0
  rw [spec_calleesIn_F] at h0
  exact spec_calleesIn_B_ok (fun h => ih h) h0
theorem spec_calleesIn_ok {N : Nat} : ∀ {p0 : RExpr} {p1 : (List Int)} {r : (List Int)}, spec_calleesIn N p0 p1 = some r → ACalls Try.prog 49 [(.agg [(i64 p0.op), (i64 p0.num), (ls eRExpr p0.kids)]), (ls eI p1)] [] (fun v st => v = (ls eI r) ∧ st = []) := by
 intro p0 p1 r h0
 exact spec_calleesIn_F_ok N h0
theorem spec_isIn_ok {N : Nat} {p0 : (List Int)} {p1 : Int} {r : Bool} (h0 : spec_isIn N p0 p1 = some r) : ACalls Try.prog 50 [(ls eI p0), (i64 p1)] [] (fun v st => v = (.bool r) ∧ st = []) := by
 unfold spec_isIn at h0
 refine ai Try.func50 rfl rfl rfl rfl ?_
 refine zr tb rfl rfl ?_
 refine AW.seq fun K2 hK2 => ?_
 refine zr tb rfl rfl ?_
 obtain ⟨o5, h1, h0⟩ := Sh.cont_some h0
 have M5 : ∀ (_ : Unit), o5 = Sum.inr () → ∀ s, Wk 0 s ⟨18, envL [], []⟩ → K2 s := by
  intro _ hq s hw
  subst o5
  try dsimp only at h0
  refine hK2 _ (AW.weaken hw ?_)
  refine zr tb rfl rfl ?_
  replace h0 := Sh.some_eq h0
  subst r
  exact AW.ret (xr (Wk.to (L := [(4, (.bool false))]) ⟨.rfl, trivial⟩))
 refine AW.block (AW.loopF (σ := Int) (fun n v => spec_isIn_L1 p0 p1 n v = some o5) (fun i4 => ⟨18, envL [(0, (ls eI p0)), (1, (i64 p1)), (5, (i64 i4))], []⟩) N 0 h1 (Wk.tr rfl) (fun _ hv => by rw [spec_isIn_L1] at hv; cases hv) ?_)
 rintro n i4 h1
 try dsimp only at h1 ⊢
 rw [spec_isIn_L1] at h1
 refine AW.seq fun K7 hK7 => ?_
 refine sr rfl fun K8 hK8 => ?_
 refine zm tb 2 rfl ?_
 refine zl tb rfl rfl ?_
 refine zq tb rfl ?_
 refine dn hK8 rfl ?_
 refine ci h1 rfl ?_ ?_ <;> clear h1
 ·intro b9 h1
  refine AW.skip (hK7 _ ?_)
  refine AW.seq fun K10 hK10 => ?_
  refine AW.block ?_
  refine sr rfl fun K11 hK11 => ?_
  refine zm tb 2 rfl ?_
  obtain ⟨c12, gc12, h1⟩ := Sh.bind_some h1
  refine zx ei40 gc12 rfl rfl rfl ?_
  refine zm tb 3 rfl ?_
  refine dn hK11 rfl ?_
  refine ci h1 rfl ?_ ?_ <;> clear h1
  ·intro b13 h1
   refine zr tb rfl rfl ?_
   replace h1 := Sh.some_eq h1
   subst o5
   try dsimp only [id] at h0
   replace h0 := Sh.some_eq h0
   subst r
   exact AW.ret (xr (Wk.to (L := [(4, (.bool true))]) ⟨.rfl, trivial⟩))
  ·intro b13 h1
   refine AW.skip (hK10 _ ?_)
   refine AW.regionO (by rfl) ?_
   refine zm tb 3 rfl ?_
   exact AO.done (xi (Sh.w (i4 + 1)) h1 (Wk.tr rfl))
 ·intro b9 h1
  exact AW.exit (M5 () (Sh.some_eq h1).symm _ (Wk.tr rfl))
theorem spec_reachedFrom_ok {N : Nat} {p0 : RProgram} {p1 : Int} {r : (List Int)} (h0 : spec_reachedFrom N p0 p1 = some r) : ACalls Try.prog 51 [(.agg [(ls eRDecl p0.decls), (ls eRFunc p0.funcs)]), (i64 p1)] [] (fun v st => v = (ow 0 0 r) ∧ st = [(ro 0 3 1 eI r)]) := by
 unfold spec_reachedFrom at h0
 refine ai Try.func51 rfl rfl rfl rfl ?_
 refine sr rfl fun K1 hK1 => ?_
 refine ao_box (m := 0) (st' := [⟨0, 31, 2, [[(ls eRDecl p0.decls), (ls eRFunc p0.funcs)]]⟩]) go0 rfl rfl rfl rfl rfl ?_
 refine zq tb rfl ?_
 refine dn hK1 rfl ?_
 refine sr rfl fun K2 hK2 => ?_
 refine zq tb rfl ?_
 refine ao_bs (m := 1) (st' := [⟨0, 31, 2, [[(ls eRDecl p0.decls), (ls eRFunc p0.funcs)]]⟩, (ro 0 3 1 eI [p1])]) (l := [p1]) (enc := eI) go0 ei40 (by decide) rfl rfl rfl rfl rfl rfl ?_
 refine zq tb rfl ?_
 refine dn hK2 rfl ?_
 refine AW.seq fun K3 hK3 => ?_
 refine zr tb rfl rfl ?_
 obtain ⟨o8, h1, h0⟩ := Sh.bind_some h0
 have M8 : ∀ (l7 : (List Int)), o8 = l7 → ∀ s, Wk 0 s ⟨50, envL [(5, (ow 0 0 l7))], [(ro 0 3 1 eI l7)]⟩ → K3 s := by
  intro l7 hq s hw
  subst o8
  try dsimp only at h0
  refine hK3 _ (AW.weaken hw ?_)
  refine zr tb rfl rfl ?_
  replace h0 := Sh.some_eq h0
  subst r
  exact AW.ret (xr (Wk.to (L := [(4, (ow 0 0 l7))]) ⟨.rfl, trivial⟩))
 refine AW.block (AW.loopF (σ := Int × (List Int)) (fun n v => spec_reachedFrom_L1 N p0 n v.1 v.2 = some o8) (fun (round5, l6) => ⟨50, envL [(2, (.ptr 0 0 0 0)), (5, (ow 1 0 l6)), (6, (i64 round5))], [⟨0, 31, 2, [[(ls eRDecl p0.decls), (ls eRFunc p0.funcs)]]⟩, (ro 0 3 1 eI l6)]⟩) N (0, [p1]) h1 (Wk.tr rfl) (fun _ hv => by rw [spec_reachedFrom_L1] at hv; cases hv) ?_)
 rintro n ⟨round5, l6⟩ h1
 try dsimp only at h1 ⊢
 rw [spec_reachedFrom_L1] at h1
 refine AW.seq fun K10 hK10 => ?_
 refine sr rfl fun K11 hK11 => ?_
 refine zm tb 3 rfl ?_
 refine zl tb rfl rfl ?_
 refine zq tb rfl ?_
 refine dn hK11 rfl ?_
 refine ci h1 rfl ?_ ?_ <;> clear h1
 ·intro b12 h1
  refine AW.skip (hK10 _ ?_)
  refine AW.seq fun K13 hK13 => ?_
  refine AW.block ?_
  refine zr tb rfl rfl ?_
  obtain ⟨o18, h2, h1⟩ := Sh.bind_some h1
  have M18 : ∀ (l17 : (List Int)), o18 = l17 → ∀ s, Wk 0 s ⟨50, envL [(2, (.ptr 0 0 0 0)), (5, (ow 1 0 l17)), (6, (i64 round5))], [⟨0, 31, 2, [[(ls eRDecl p0.decls), (ls eRFunc p0.funcs)]]⟩, (ro 0 3 1 eI l17)]⟩ → K13 s := by
   intro l17 hq s hw
   subst o18
   try dsimp only at h1
   refine hK13 _ (AW.weaken hw ?_)
   refine AW.regionO (by rfl) ?_
   refine zm tb 3 rfl ?_
   exact AO.done (xi (Sh.w (round5 + 1), l17) h1 (Wk.tr rfl))
  refine AW.block (AW.loopF (σ := Int × (List Int)) (fun n v => spec_reachedFrom_L2 N p0 n v.1 v.2 = some o18) (fun (i15, l16) => ⟨50, envL [(2, (.ptr 0 0 0 0)), (5, (ow 1 0 l16)), (6, (i64 round5)), (7, (i64 i15))], [⟨0, 31, 2, [[(ls eRDecl p0.decls), (ls eRFunc p0.funcs)]]⟩, (ro 0 3 1 eI l16)]⟩) N (0, l6) h2 (Wk.tr rfl) (fun _ hv => by rw [spec_reachedFrom_L2] at hv; cases hv) ?_)
  rintro n ⟨i15, l16⟩ h2
  try dsimp only at h2 ⊢
  rw [spec_reachedFrom_L2] at h2
  refine AW.seq fun K19 hK19 => ?_
  refine sr rfl fun K20 hK20 => ?_
  refine zm tb 3 rfl ?_
  refine zl tb rfl rfl ?_
  refine zq tb rfl ?_
  refine dn hK20 rfl ?_
  refine ci h2 rfl ?_ ?_ <;> clear h2
  ·intro b21 h2
   refine AW.skip (hK19 _ ?_)
   refine AW.seq fun K22 hK22 => ?_
   obtain ⟨o24, h3, h2⟩ := Sh.bind_some h2
   have M24 : ∀ (l23 : (List Int)), o24 = l23 → ∀ s, Wk 0 s ⟨50, envL [(2, (.ptr 0 0 0 0)), (5, (ow 1 0 l23)), (6, (i64 round5)), (7, (i64 i15))], [⟨0, 31, 2, [[(ls eRDecl p0.decls), (ls eRFunc p0.funcs)]]⟩, (ro 0 3 1 eI l23)]⟩ → K22 s := by
    intro l23 hq s hw
    subst o24
    try dsimp only at h2
    refine hK22 _ (AW.weaken hw ?_)
    refine AW.regionO (by rfl) ?_
    refine zm tb 3 rfl ?_
    exact AO.done (xi (Sh.w (i15 + 1), l23) h2 (Wk.tr rfl))
   refine AW.block ?_
   refine sr rfl fun K25 hK25 => ?_
   refine zm tb 2 rfl ?_
   obtain ⟨q26, gq26, h3⟩ := Sh.bind_some h3
   refine ao_callb (v' := (.bool q26)) (st' := [⟨0, 31, 2, [[(ls eRDecl p0.decls), (ls eRFunc p0.funcs)]]⟩, (ro 0 3 1 eI l16)]) go0 hb50 (spec_isIn_ok gq26) rfl (.own rfl rfl (fun _ => rfl) (.val rfl .nil)) rfl trivial rfl rfl ?_
   refine dn hK25 rfl ?_
   refine ci h3 rfl ?_ ?_ <;> clear h3
   ·intro b27 h3
    refine sr rfl fun K28 hK28 => ?_
    refine zm tb 3 rfl ?_
    obtain ⟨c29, gc29, h3⟩ := Sh.bind_some h3
    refine zx ei29 gc29 rfl rfl rfl ?_
    refine zm tb 2 rfl ?_
    refine ao_bs (m := 2) (st' := [⟨0, 31, 2, [[(ls eRDecl p0.decls), (ls eRFunc p0.funcs)]]⟩, (ro 0 3 1 eI l16), (ro 0 3 1 eI ([] : List Int))]) (l := ([] : List Int)) (enc := eI) go0 ei40 (by decide) rfl rfl rfl rfl rfl rfl ?_
    refine AO.weaken (Wk.frz (L := [(2, (.ptr 0 0 0 0)), (5, (ow 1 0 l16)), (6, (i64 round5)), (7, (i64 i15)), (34, (.agg [(i64 c29.body.op), (i64 c29.body.num), (ls eRExpr c29.body.kids)])), (35, (.sl (List.map eI [])))]) (st' := [⟨0, 31, 2, [[(ls eRDecl p0.decls), (ls eRFunc p0.funcs)]]⟩, (ro 0 3 1 eI l16), ⟨1, 3, 1, []⟩]) (id := 2) rfl (show 0 ≤ 2 by decide) (pure_map fun _ => rfl) ⟨.rfl, .rfl, .rfl, .rfl, .rfl, (.frz rfl), trivial⟩ rfl) ?_
    obtain ⟨q30, gq30, h3⟩ := Sh.bind_some h3
    refine zc hb49 (spec_calleesIn_ok gq30) rfl rfl rfl ?_
    refine zq tb rfl ?_
    refine dn hK28 rfl ?_
    refine zr tb rfl rfl ?_
    refine AW.fin fun K32 hK32 => ?_
    obtain ⟨o36, h4, h3⟩ := Sh.bind_some h3
    have M36 : ∀ (l35 : (List Int)), o36 = l35 → ∀ s, Wk 0 s ⟨50, envL [(2, (.ptr 0 0 0 0)), (5, (ow 1 0 l35)), (6, (i64 round5)), (7, (i64 i15))], [⟨0, 31, 2, [[(ls eRDecl p0.decls), (ls eRFunc p0.funcs)]]⟩, (ro 0 3 1 eI l35)]⟩ → K32 s := by
     intro l35 hq s hw
     subst o36
     try dsimp only at h3
     refine hK32 _ ?_
     exact M24 l35 (Sh.some_eq h3).symm _ (hw.trans (Wk.to (L := [(2, (.ptr 0 0 0 0)), (5, (ow 1 0 l35)), (6, (i64 round5)), (7, (i64 i15))]) ⟨.rfl, .rfl, .rfl, .rfl, trivial⟩))
    refine AW.block (AW.loopF (σ := Int × (List Int)) (fun n v => spec_reachedFrom_L3 N q30 n v.1 v.2 = some o36) (fun (k33, l34) => ⟨50, envL [(2, (.ptr 0 0 0 0)), (5, (ow 1 0 l34)), (6, (i64 round5)), (7, (i64 i15)), (8, (ls eI q30)), (9, (i64 k33))], [⟨0, 31, 2, [[(ls eRDecl p0.decls), (ls eRFunc p0.funcs)]]⟩, (ro 0 3 1 eI l34)]⟩) N (0, l16) h4 (Wk.permk (L := [(2, (.ptr 0 0 0 0)), (5, (ow 1 0 l16)), (6, (i64 round5)), (7, (i64 i15)), (8, (ls eI q30)), (9, (i64 0))]) (st' := [⟨0, 31, 2, [[(ls eRDecl p0.decls), (ls eRFunc p0.funcs)]]⟩, (ro 0 3 1 eI l16)]) (st1 := [⟨0, 31, 2, [[(ls eRDecl p0.decls), (ls eRFunc p0.funcs)]]⟩, (ro 0 3 1 eI l16)]) [0, 1] rfl .nil (by decide) rfl rfl (.raw rfl rfl (.pure (pure_map fun _ => rfl) .nil)) ⟨.rfl, .rfl, .rfl, .rfl, .rfl, .rfl, trivial⟩) (fun _ hv => by rw [spec_reachedFrom_L3] at hv; cases hv) ?_)
    rintro n ⟨k33, l34⟩ h4
    try dsimp only at h4 ⊢
    rw [spec_reachedFrom_L3] at h4
    refine AW.seq fun K37 hK37 => ?_
    refine sr rfl fun K38 hK38 => ?_
    refine zm tb 2 rfl ?_
    refine zl tb rfl rfl ?_
    refine zq tb rfl ?_
    refine dn hK38 rfl ?_
    refine ci h4 rfl ?_ ?_ <;> clear h4
    ·intro b39 h4
     refine AW.skip (hK37 _ ?_)
     refine AW.seq fun K40 hK40 => ?_
     refine AW.block ?_
     refine AW.regionO (by rfl) ?_
     refine zm tb 3 rfl ?_
     obtain ⟨c41, gc41, h4⟩ := Sh.bind_some h4
     refine zx ei40 gc41 rfl rfl rfl ?_
     refine zq tb rfl ?_
     refine AO.weaken (Wk.frz (L := [(2, (.ptr 0 0 0 0)), (6, (i64 round5)), (7, (i64 i15)), (8, (ls eI q30)), (9, (i64 k33)), (43, (ls eI l34)), (47, (i64 c41))]) (st' := [⟨0, 31, 2, [[(ls eRDecl p0.decls), (ls eRFunc p0.funcs)]]⟩, ⟨1, 3, 1, []⟩]) (id := 1) rfl (show 0 ≤ 1 by decide) (pure_map fun _ => rfl) ⟨.rfl, .rfl, .rfl, .rfl, .rfl, (.frz rfl), .rfl, trivial⟩ rfl) ?_
     obtain ⟨q42, gq42, h4⟩ := Sh.bind_some h4
     refine ao_call (v' := (ow 2 0 q42)) (st' := [⟨0, 31, 2, [[(ls eRDecl p0.decls), (ls eRFunc p0.funcs)]]⟩, ⟨1, 3, 1, []⟩, (ro 0 3 1 eI q42)]) go0 hb83 (spec_insert_ok gq42) rfl rfl ⟨(pure_map' fun _ => rfl), trivial⟩ rfl rfl ?_
     refine zq tb rfl ?_
     refine dn hK40 rfl ?_
     refine AW.regionO (by rfl) ?_
     refine zm tb 3 rfl ?_
     exact AO.done (xi (Sh.w (k33 + 1), q42) h4 (Wk.permk (L := [(2, (.ptr 0 0 0 0)), (5, (ow 1 0 q42)), (6, (i64 round5)), (7, (i64 i15)), (8, (ls eI q30)), (9, (i64 (Sh.w (k33 + 1))))]) (st' := [⟨0, 31, 2, [[(ls eRDecl p0.decls), (ls eRFunc p0.funcs)]]⟩, (ro 0 3 1 eI q42)]) (st1 := [⟨0, 31, 2, [[(ls eRDecl p0.decls), (ls eRFunc p0.funcs)]]⟩, (ro 0 3 1 eI q42)]) [0, 2] rfl .nil (by decide) rfl rfl (.raw rfl rfl (.pure (pure_map fun _ => rfl) .nil)) ⟨.rfl, .rfl, .rfl, .rfl, .rfl, .rfl, trivial⟩))
    ·intro b39 h4
     exact AW.exit (M36 l34 (Sh.some_eq h4).symm _ (Wk.tr rfl))
   ·intro b27 h3
    exact AW.skip (M24 l16 (Sh.some_eq h3).symm _ (Wk.tr rfl))
  ·intro b21 h2
   exact AW.exit (M18 l16 (Sh.some_eq h2).symm _ (Wk.tr rfl))
 ·intro b12 h1
  exact AW.exit (M8 l6 (Sh.some_eq h1).symm _ (Wk.permk (L := [(5, (ow 0 0 l6))]) (st' := [(ro 0 3 1 eI l6)]) (st1 := [(ro 0 3 1 eI l6)]) [1] rfl .nil (by decide) rfl rfl (.pure (pure_map fun _ => rfl) .nil) ⟨.rfl, trivial⟩))
theorem spec_mayInline_ok {N : Nat} {p0 : RProgram} {p1 : Int} {r : Bool} (h0 : spec_mayInline N p0 p1 = some r) : ACalls Try.prog 31 [(.agg [(ls eRDecl p0.decls), (ls eRFunc p0.funcs)]), (i64 p1)] [] (fun v st => v = (.bool r) ∧ st = []) := by
 unfold spec_mayInline at h0
 refine ai Try.func31 rfl rfl rfl rfl ?_
 refine sr rfl fun K1 hK1 => ?_
 refine ao_box (m := 0) (st' := [⟨0, 31, 2, [[(ls eRDecl p0.decls), (ls eRFunc p0.funcs)]]⟩]) go0 rfl rfl rfl rfl rfl ?_
 refine zq tb rfl ?_
 refine dn hK1 rfl ?_
 refine AW.seq fun K2 hK2 => ?_
 refine sr rfl fun K3 hK3 => ?_
 refine zm tb 3 rfl ?_
 refine zl tb rfl rfl ?_
 refine zq tb rfl ?_
 obtain ⟨q4, gq4, h0⟩ := Sh.bind_some h0
 refine zc hb23 (spec_inRange_ok gq4) rfl rfl rfl ?_
 refine zq tb rfl ?_
 refine dn hK3 rfl ?_
 refine ci h0 rfl ?_ ?_ <;> clear h0
 ·intro b5 h0
  have b6 : q4 = false := by simpa using b5
  refine zr tb rfl rfl ?_
  replace h0 := Sh.some_eq h0
  subst r
  exact AW.ret (xr (Wk.d0 [(4, (.bool false))] rfl))
 ·intro b5 h0
  have b8 : q4 = true := by simpa using b5
  refine AW.skip (hK2 _ ?_)
  refine sr rfl fun K9 hK9 => ?_
  refine zm tb 3 rfl ?_
  obtain ⟨c10, gc10, h0⟩ := Sh.bind_some h0
  refine zx ei29 gc10 rfl rfl rfl ?_
  refine zm tb 2 rfl ?_
  refine ao_bs (m := 1) (st' := [⟨0, 31, 2, [[(ls eRDecl p0.decls), (ls eRFunc p0.funcs)]]⟩, (ro 0 3 1 eI ([] : List Int))]) (l := ([] : List Int)) (enc := eI) go0 ei40 (by decide) rfl rfl rfl rfl rfl rfl ?_
  refine AO.weaken (Wk.frz (L := [(1, (i64 p1)), (2, (.ptr 0 0 0 0)), (19, (.agg [(i64 c10.body.op), (i64 c10.body.num), (ls eRExpr c10.body.kids)])), (20, (.sl (List.map eI [])))]) (st' := [⟨0, 31, 2, [[(ls eRDecl p0.decls), (ls eRFunc p0.funcs)]]⟩, ⟨1, 3, 1, []⟩]) (id := 1) rfl (show 0 ≤ 1 by decide) (pure_map fun _ => rfl) ⟨.rfl, .rfl, .rfl, (.frz rfl), trivial⟩ rfl) ?_
  obtain ⟨q11, gq11, h0⟩ := Sh.bind_some h0
  refine zc hb49 (spec_calleesIn_ok gq11) rfl rfl rfl ?_
  refine zq tb rfl ?_
  refine dn hK9 rfl ?_
  refine AW.seq fun K12 hK12 => ?_
  refine zr tb rfl rfl ?_
  obtain ⟨o15, h1, h0⟩ := Sh.cont_some h0
  have M15 : ∀ (_ : Unit), o15 = Sum.inr () → ∀ s, Wk 0 s ⟨36, envL [], []⟩ → K12 s := by
   intro _ hq s hw
   subst o15
   try dsimp only at h0
   refine hK12 _ (AW.weaken hw ?_)
   refine zr tb rfl rfl ?_
   replace h0 := Sh.some_eq h0
   subst r
   exact AW.ret (xr (Wk.to (L := [(4, (.bool true))]) ⟨.rfl, trivial⟩))
  refine AW.block (AW.loopF (σ := Int) (fun n v => spec_mayInline_L1 N p0 p1 q11 n v = some o15) (fun i14 => ⟨36, envL [(1, (i64 p1)), (2, (.ptr 0 0 0 0)), (5, (ls eI q11)), (6, (i64 i14))], [⟨0, 31, 2, [[(ls eRDecl p0.decls), (ls eRFunc p0.funcs)]]⟩]⟩) N 0 h1 (Wk.permk (L := [(1, (i64 p1)), (2, (.ptr 0 0 0 0)), (5, (ls eI q11)), (6, (i64 0))]) (st' := [⟨0, 31, 2, [[(ls eRDecl p0.decls), (ls eRFunc p0.funcs)]]⟩]) (st1 := [⟨0, 31, 2, [[(ls eRDecl p0.decls), (ls eRFunc p0.funcs)]]⟩]) [0] rfl .nil (by decide) rfl rfl (.raw rfl rfl .nil) ⟨.rfl, .rfl, .rfl, .rfl, trivial⟩) (fun _ hv => by rw [spec_mayInline_L1] at hv; cases hv) ?_)
  rintro n i14 h1
  try dsimp only at h1 ⊢
  rw [spec_mayInline_L1] at h1
  refine AW.seq fun K17 hK17 => ?_
  refine sr rfl fun K18 hK18 => ?_
  refine zm tb 2 rfl ?_
  refine zl tb rfl rfl ?_
  refine zq tb rfl ?_
  refine dn hK18 rfl ?_
  refine ci h1 rfl ?_ ?_ <;> clear h1
  ·intro b19 h1
   refine AW.skip (hK17 _ ?_)
   refine AW.seq fun K20 hK20 => ?_
   refine AW.block ?_
   refine AW.seq fun K21 hK21 => ?_
   refine AW.drawTailO 7 (by kernel_rfl) (by kernel_rfl) (by rfl) ?_
   iterate 3 refine yq tb rfl ?_
   obtain ⟨c22, gc22, h1⟩ := Sh.bind_some h1
   refine yx ei40 gc22 rfl rfl rfl ?_
   refine yq tb rfl ?_
   obtain ⟨q23, gq23, h1⟩ := Sh.bind_some h1
   refine d_call (v := (ls eI q23)) go0 hb51 (ACalls.wk (spec_reachedFrom_ok gq23) (by refine Wk.trans (Wk.frz (L := [(0, (ls eI q23))]) (st' := [⟨1, 3, 1, []⟩]) (id := 0) rfl (show 0 ≤ 0 by decide) (pure_map fun _ => rfl) ⟨(.frz rfl), trivial⟩ rfl) ?_; refine Wk.trans (Wk.permk (L := [(0, (ls eI q23))]) (st' := []) (st1 := []) [] rfl .nil (by decide) rfl rfl .nil ⟨.rfl, trivial⟩) ?_; exact Wk.to (L := [(0, (ls eI q23))]) ⟨.rfl, trivial⟩)) rfl rfl rfl ?_
   refine yq tb rfl ?_
   refine d_done ?_
   obtain ⟨q24, gq24, h1⟩ := Sh.bind_some h1
   refine zc hb50 (spec_isIn_ok gq24) rfl rfl rfl ?_
   refine dn hK21 rfl ?_
   refine ci h1 rfl ?_ ?_ <;> clear h1
   ·intro b25 h1
    refine zr tb rfl rfl ?_
    replace h1 := Sh.some_eq h1
    subst o15
    try dsimp only [id] at h0
    replace h0 := Sh.some_eq h0
    subst r
    exact AW.ret (xr (Wk.d0 [(4, (.bool false))] rfl))
   ·intro b25 h1
    refine AW.skip (hK20 _ ?_)
    refine AW.regionO (by rfl) ?_
    refine zm tb 3 rfl ?_
    exact AO.done (xi (Sh.w (i14 + 1)) h1 (Wk.tr rfl))
  ·intro b19 h1
   exact AW.exit (M15 () (Sh.some_eq h1).symm _ (Wk.d0 _ rfl))
theorem spec_MayInline_ok {N : Nat} {p0 : RProgram} {p1 : Int} {r : Bool} (h0 : spec_MayInline N p0 p1 = some r) : ACalls Try.prog 12 [(.agg [(ls eRDecl p0.decls), (ls eRFunc p0.funcs)]), (i64 p1)] [] (fun v st => v = (.bool r) ∧ st = []) := by
 unfold spec_MayInline at h0
 refine ai Try.func12 rfl rfl rfl rfl ?_
 refine sr rfl fun K1 hK1 => ?_
 refine ao_box (m := 0) (st' := [⟨0, 31, 2, [[(ls eRDecl p0.decls), (ls eRFunc p0.funcs)]]⟩]) go0 rfl rfl rfl rfl rfl ?_
 refine zq tb rfl ?_
 refine dn hK1 rfl ?_
 refine AW.seq fun K2 hK2 => ?_
 obtain ⟨o4, h1, h0⟩ := Sh.bind_some h0
 have M4 : ∀ (t3 : Bool), o4 = t3 → ∀ s, Wk 0 s ⟨12, envL [(4, (.bool t3))], []⟩ → K2 s := by
  intro t3 hq s hw
  subst o4
  try dsimp only at h0
  refine hK2 _ (AW.weaken hw ?_)
  replace h0 := Sh.some_eq h0
  subst r
  exact AW.ret (xr (Wk.to (L := [(4, (.bool t3))]) ⟨.rfl, trivial⟩))
 refine AW.regionO (by rfl) ?_
 refine zq tb rfl ?_
 obtain ⟨q5, gq5, h1⟩ := Sh.bind_some h1
 refine zc hb22 (spec_validProgram_ok gq5) rfl rfl rfl ?_
 refine zq tb rfl ?_
 rcases Sh.ite_some h1 with ⟨b6, h1⟩ | ⟨b6, h1⟩
 ·refine zg tb b6 rfl ?_
  refine zg tb b6 rfl ?_
  obtain ⟨q7, gq7, h1⟩ := Sh.bind_some h1
  refine zd b6 hb31 (spec_mayInline_ok gq7) rfl rfl rfl rfl ?_
  refine zt b6 rfl ?_
  refine zq tb rfl ?_
  exact AO.done (M4 q7 (Sh.some_eq h1).symm _ (Wk.d0 _ rfl))
 ·refine zs b6 rfl ?_
  iterate 2 refine zs b6 rfl ?_
  refine zf b6 rfl ?_
  refine zq tb rfl ?_
  exact AO.done (M4 false (Sh.some_eq h1).symm _ (Wk.d0 _ rfl))
theorem impl_isType_ok {p0 : (List RDecl)} {p1 : Int} {r : Bool} (h0 : impl_isType p0 p1 = some r) : ACalls Try.prog 90 [(ls eRDecl p0), (i64 p1)] [] (fun v st => v = (.bool r) ∧ st = []) := by
 unfold impl_isType at h0
 refine ai Try.func90 rfl rfl rfl rfl ?_
 refine zr tb rfl rfl ?_
 refine AW.seq fun K2 hK2 => ?_
 obtain ⟨o4, h1, h0⟩ := Sh.bind_some h0
 have M4 : ∀ (t3 : Bool), o4 = t3 → ∀ s, Wk 0 s ⟨13, envL [(4, (.bool t3))], []⟩ → K2 s := by
  intro t3 hq s hw
  subst o4
  try dsimp only at h0
  refine hK2 _ (AW.weaken hw ?_)
  replace h0 := Sh.some_eq h0
  subst r
  exact AW.ret (xr (Wk.to (L := [(4, (.bool t3))]) ⟨.rfl, trivial⟩))
 refine AW.regionO (by rfl) ?_
 refine zm tb 3 rfl ?_
 rcases Sh.ite_some h1 with ⟨b5, h1⟩ | ⟨b5, h1⟩
 ·refine zg tb b5 rfl ?_
  refine zg tb b5 rfl ?_
  refine ao_q (v := (i64 (Sh.len p0))) (go1 rfl rfl b5) rfl (aq_lens sl28 rfl) ?_
  refine zg tb b5 rfl ?_
  refine zt b5 rfl ?_
  refine zq tb rfl ?_
  exact AO.done (M4 (decide (p1 ≤ (Sh.len p0))) (Sh.some_eq h1).symm _ (Wk.tr rfl))
 ·refine zs b5 rfl ?_
  iterate 3 refine zs b5 rfl ?_
  refine zf b5 rfl ?_
  refine zq tb rfl ?_
  exact AO.done (M4 false (Sh.some_eq h1).symm _ (Wk.tr rfl))
theorem impl_allTypes_ok {N : Nat} {p0 : (List RDecl)} {p1 : (List Int)} {r : Bool} (h0 : impl_allTypes N p0 p1 = some r) : ACalls Try.prog 59 [(ls eRDecl p0), (ls eI p1)] [] (fun v st => v = (.bool r) ∧ st = []) := by
 unfold impl_allTypes at h0
 refine ai Try.func59 rfl rfl rfl rfl ?_
 refine zr tb rfl rfl ?_
 refine AW.seq fun K2 hK2 => ?_
 refine sr rfl fun K3 hK3 => ?_
 refine zq tb rfl ?_
 refine zl tb rfl rfl ?_
 refine zq tb rfl ?_
 refine dn hK3 rfl ?_
 obtain ⟨o5, h1, h0⟩ := Sh.cont_some h0
 have M5 : ∀ (_ : Unit), o5 = Sum.inr () → ∀ s, Wk 0 s ⟨18, envL [], []⟩ → K2 s := by
  intro _ hq s hw
  subst o5
  try dsimp only at h0
  refine hK2 _ (AW.weaken hw ?_)
  refine zr tb rfl rfl ?_
  replace h0 := Sh.some_eq h0
  subst r
  exact AW.ret (xr (Wk.to (L := [(4, (.bool true))]) ⟨.rfl, trivial⟩))
 refine AW.block (AW.loopF (σ := Int) (fun n v => impl_allTypes_L1 p0 p1 n v = some o5) (fun t4 => ⟨18, envL [(0, (ls eRDecl p0)), (7, (ls eI p1)), (8, (i64 (Sh.len p1))), (9, (i64 t4))], []⟩) N 0 h1 (Wk.tr rfl) (fun _ hv => by rw [impl_allTypes_L1] at hv; cases hv) ?_)
 rintro n t4 h1
 try dsimp only at h1 ⊢
 rw [impl_allTypes_L1] at h1
 refine zr tb rfl rfl ?_
 refine AW.seq fun K8 hK8 => ?_
 refine ci h1 rfl ?_ ?_ <;> clear h1
 ·intro b9 h1
  refine AW.skip (hK8 _ ?_)
  refine AW.seq fun K10 hK10 => ?_
  refine AW.block ?_
  refine sr rfl fun K11 hK11 => ?_
  obtain ⟨c12, gc12, h1⟩ := Sh.bind_some h1
  refine zx ei40 gc12 rfl rfl rfl ?_
  refine zm tb 2 rfl ?_
  refine dn hK11 rfl ?_
  refine sr rfl fun K13 hK13 => ?_
  refine zm tb 2 rfl ?_
  obtain ⟨q14, gq14, h1⟩ := Sh.bind_some h1
  refine zc hb90 (impl_isType_ok gq14) rfl rfl rfl ?_
  refine zq tb rfl ?_
  refine dn hK13 rfl ?_
  refine ci h1 rfl ?_ ?_ <;> clear h1
  ·intro b15 h1
   have b16 : q14 = false := by simpa using b15
   refine zr tb rfl rfl ?_
   replace h1 := Sh.some_eq h1
   subst o5
   try dsimp only [id] at h0
   replace h0 := Sh.some_eq h0
   subst r
   exact AW.ret (xr (Wk.to (L := [(4, (.bool false))]) ⟨.rfl, trivial⟩))
  ·intro b15 h1
   have b18 : q14 = true := by simpa using b15
   refine AW.skip (hK10 _ ?_)
   refine AW.regionO (by rfl) ?_
   refine zm tb 2 rfl ?_
   exact AO.done (xi (Sh.w (t4 + 1)) h1 (Wk.tr rfl))
 ·intro b9 h1
  exact AW.exit (M5 () (Sh.some_eq h1).symm _ (Wk.tr rfl))
end Go.Proofs.Ytpahalfiiahddaa

