import Derived.Test.YtcegihniiokijaaGreatProg
import Derived.Test.YtcegihniiokijaaGreatCODefs
import Derived.Test.YtcegihniiokijaaGreatAbsQ
namespace Go.Proofs.YtcegihniiokijaaGreat
open Go Go.Abs RC
attribute [local irreducible] Go.Abs.dops
set_option maxRecDepth 100000
set_option maxHeartbeats 4000000

def tb : Tab Tryz.prog where
 t := [(102, true, 3), (134, true, 1), (168, false, 1), (170, true, 2), (178, true, 1), (205, true, 5), (209, false, 1), (211, true, 5), (22, false, 1), (23, false, 1), (25, true, 2), (27, false, 1), (28, false, 1), (3, false, 1), (30, true, 2), (37, false, 1), (47, false, 1), (49, true, 2), (53, false, 1), (55, true, 2), (57, true, 5), (69, false, 1), (71, true, 5), (81, false, 1), (83, true, 3), (85, false, 1), (87, true, 2), (89, true, 5), (96, false, 1), (98, true, 3)]
 f := [(102, 0, 0), (102, 1, 1), (102, 2, 2), (134, 0, 0), (170, 0, 0), (170, 1, 1), (178, 0, 0), (205, 0, 0), (205, 1, 1), (211, 0, 0), (211, 1, 1), (211, 2, 2), (211, 3, 3), (211, 4, 4), (25, 0, 0), (25, 1, 1), (30, 0, 0), (30, 1, 1), (49, 0, 0), (49, 1, 1), (55, 0, 0), (55, 1, 1), (57, 0, 0), (57, 1, 1), (57, 2, 2), (57, 3, 3), (71, 0, 0), (71, 1, 1), (71, 2, 2), (71, 3, 3), (71, 4, 4), (83, 0, 0), (83, 1, 1), (83, 2, 2), (87, 0, 0), (87, 1, 1), (89, 0, 0), (89, 1, 1), (89, 2, 2), (89, 3, 3), (98, 0, 0), (98, 1, 1), (98, 2, 2)]
 v := []
 b := []
 s := [168, 209, 22, 23, 27, 28, 37, 47, 53, 69, 74, 81, 85, 96]
 ht := by kernel_rfl
 hf := by kernel_rfl
 hv := by kernel_rfl
 hb := by kernel_rfl
 hs := by kernel_rfl

theorem ai170 : allInfo Tryz.prog 170 = true := by kernel_rfl
theorem ai205 : allInfo Tryz.prog 205 = true := by kernel_rfl
theorem bi170 : finfos Tryz.prog 170 = some [(0, 1), (1, 1)] := by kernel_rfl
theorem bi205 : finfos Tryz.prog 205 = some [(0, 1), (1, 1), (2, 3)] := by kernel_rfl
theorem ei168 : einfo Tryz.prog 168 = some ⟨205, 5, 72, [.sl [], .int .i64 0, .int .i64 0, .int .i64 0, .sl []]⟩ := by kernel_rfl
theorem ei209 : einfo Tryz.prog 209 = some ⟨87, 2, 32, [.sl [], .int .i64 0]⟩ := by kernel_rfl
theorem ei22 : einfo Tryz.prog 22 = some ⟨83, 3, 40, [.int .i64 0, .int .i64 0, .sl []]⟩ := by kernel_rfl
theorem ei23 : einfo Tryz.prog 23 = some ⟨89, 5, 88, [.sl [], .sl [], .int .i64 0, .sl [], .int .i64 0]⟩ := by kernel_rfl
theorem ei27 : einfo Tryz.prog 27 = some ⟨98, 3, 40, [.int .i64 0, .int .i64 0, .sl []]⟩ := by kernel_rfl
theorem ei28 : einfo Tryz.prog 28 = some ⟨57, 5, 88, [.sl [], .sl [], .int .i64 0, .sl [], .int .i64 0]⟩ := by kernel_rfl
theorem ei37 : einfo Tryz.prog 37 = some ⟨3, 1, 8, [.int .i64 0]⟩ := by kernel_rfl
theorem ei53 : einfo Tryz.prog 53 = some ⟨71, 5, 72, [.int .i64 0, .int .i64 0, .int .i64 0, .sl [], .sl []]⟩ := by kernel_rfl
theorem ei69 : einfo Tryz.prog 69 = some ⟨55, 2, 32, [.sl [], .int .i64 0]⟩ := by kernel_rfl
theorem ei81 : einfo Tryz.prog 81 = some ⟨178, 1, 24, [.sl []]⟩ := by kernel_rfl
theorem ei85 : einfo Tryz.prog 85 = some ⟨211, 5, 72, [.int .i64 0, .int .i64 0, .int .i64 0, .sl [], .sl []]⟩ := by kernel_rfl
theorem ei96 : einfo Tryz.prog 96 = some ⟨134, 1, 24, [.sl []]⟩ := by kernel_rfl
theorem hb100 : hasBody Tryz.prog 100 = true := by kernel_rfl
theorem hb103 : hasBody Tryz.prog 103 = true := by kernel_rfl
theorem hb109 : hasBody Tryz.prog 109 = true := by kernel_rfl
theorem hb110 : hasBody Tryz.prog 110 = true := by kernel_rfl
theorem hb111 : hasBody Tryz.prog 111 = true := by kernel_rfl
theorem hb113 : hasBody Tryz.prog 113 = true := by kernel_rfl
theorem hb120 : hasBody Tryz.prog 120 = true := by kernel_rfl
theorem hb121 : hasBody Tryz.prog 121 = true := by kernel_rfl
theorem hb122 : hasBody Tryz.prog 122 = true := by kernel_rfl
theorem hb154 : hasBody Tryz.prog 154 = true := by kernel_rfl
theorem hb155 : hasBody Tryz.prog 155 = true := by kernel_rfl
theorem hb156 : hasBody Tryz.prog 156 = true := by kernel_rfl
theorem hb158 : hasBody Tryz.prog 158 = true := by kernel_rfl
theorem hb163 : hasBody Tryz.prog 163 = true := by kernel_rfl
theorem hb164 : hasBody Tryz.prog 164 = true := by kernel_rfl
theorem hb167 : hasBody Tryz.prog 167 = true := by kernel_rfl
theorem hb168 : hasBody Tryz.prog 168 = true := by kernel_rfl
theorem hb169 : hasBody Tryz.prog 169 = true := by kernel_rfl
theorem hb172 : hasBody Tryz.prog 172 = true := by kernel_rfl
theorem hb175 : hasBody Tryz.prog 175 = true := by kernel_rfl
theorem hb176 : hasBody Tryz.prog 176 = true := by kernel_rfl
theorem hb177 : hasBody Tryz.prog 177 = true := by kernel_rfl
theorem hb178 : hasBody Tryz.prog 178 = true := by kernel_rfl
theorem hb201 : hasBody Tryz.prog 201 = true := by kernel_rfl
theorem hb202 : hasBody Tryz.prog 202 = true := by kernel_rfl
theorem hb206 : hasBody Tryz.prog 206 = true := by kernel_rfl
theorem hb207 : hasBody Tryz.prog 207 = true := by kernel_rfl
theorem hb208 : hasBody Tryz.prog 208 = true := by kernel_rfl
theorem hb209 : hasBody Tryz.prog 209 = true := by kernel_rfl
theorem hb228 : hasBody Tryz.prog 228 = true := by kernel_rfl
theorem hb229 : hasBody Tryz.prog 229 = true := by kernel_rfl
theorem hb230 : hasBody Tryz.prog 230 = true := by kernel_rfl
theorem hb26 : hasBody Tryz.prog 26 = true := by kernel_rfl
theorem hb27 : hasBody Tryz.prog 27 = true := by kernel_rfl
theorem hb31 : hasBody Tryz.prog 31 = true := by kernel_rfl
theorem hb32 : hasBody Tryz.prog 32 = true := by kernel_rfl
theorem hb64 : hasBody Tryz.prog 64 = true := by kernel_rfl
theorem hb65 : hasBody Tryz.prog 65 = true := by kernel_rfl
theorem hb72 : hasBody Tryz.prog 72 = true := by kernel_rfl
theorem hb73 : hasBody Tryz.prog 73 = true := by kernel_rfl
theorem sl168 : isSliceT Tryz.prog 168 = true := by kernel_rfl
theorem sl27 : isSliceT Tryz.prog 27 = true := by kernel_rfl
theorem sl37 : isSliceT Tryz.prog 37 = true := by kernel_rfl
theorem sl69 : isSliceT Tryz.prog 69 = true := by kernel_rfl
theorem sl96 : isSliceT Tryz.prog 96 = true := by kernel_rfl
theorem ti134 : tinfo Tryz.prog 134 = some (true, 1) := by kernel_rfl
theorem ti168 : tinfo Tryz.prog 168 = some (false, 1) := by kernel_rfl
theorem ti170 : tinfo Tryz.prog 170 = some (true, 2) := by kernel_rfl
theorem ti205 : tinfo Tryz.prog 205 = some (true, 5) := by kernel_rfl
theorem ti27 : tinfo Tryz.prog 27 = some (false, 1) := by kernel_rfl
theorem ti28 : tinfo Tryz.prog 28 = some (false, 1) := by kernel_rfl
theorem ti3 : tinfo Tryz.prog 3 = some (false, 1) := by kernel_rfl
theorem ti30 : tinfo Tryz.prog 30 = some (true, 2) := by kernel_rfl
theorem ti37 : tinfo Tryz.prog 37 = some (false, 1) := by kernel_rfl
theorem ti53 : tinfo Tryz.prog 53 = some (false, 1) := by kernel_rfl
theorem ti55 : tinfo Tryz.prog 55 = some (true, 2) := by kernel_rfl
theorem ti57 : tinfo Tryz.prog 57 = some (true, 5) := by kernel_rfl
theorem ti69 : tinfo Tryz.prog 69 = some (false, 1) := by kernel_rfl
theorem ti71 : tinfo Tryz.prog 71 = some (true, 5) := by kernel_rfl
theorem ti96 : tinfo Tryz.prog 96 = some (false, 1) := by kernel_rfl
theorem ti98 : tinfo Tryz.prog 98 = some (true, 3) := by kernel_rfl
theorem zi134 : zinfo Tryz.prog 134 = some [.zc] := by kernel_rfl
theorem zi170 : zinfo Tryz.prog 170 = some [.zc, .zc] := by kernel_rfl
theorem zi205 : zinfo Tryz.prog 205 = some [.zc, .int .i64 0, .int .i64 0, .int .i64 0, .zc] := by kernel_rfl
theorem zi30 : zinfo Tryz.prog 30 = some [.zc, .zc] := by kernel_rfl
theorem zi55 : zinfo Tryz.prog 55 = some [.zc, .int .i64 0] := by kernel_rfl
theorem zi57 : zinfo Tryz.prog 57 = some [.zc, .zc, .int .i64 0, .zc, .int .i64 0] := by kernel_rfl
theorem zi71 : zinfo Tryz.prog 71 = some [.int .i64 0, .int .i64 0, .int .i64 0, .zc, .zc] := by kernel_rfl
theorem zi98 : zinfo Tryz.prog 98 = some [.int .i64 0, .int .i64 0, .zc] := by kernel_rfl

theorem laws_szIntS_ok {p0 : (List Int)} {p1 : Int} {r : Int} (h0 : laws_szIntS p0 p1 = some r) : ACalls Tryz.prog 110 [(ls eI p0), (i64 p1)] [] (fun v st => v = (i64 r) ∧ st = []) := by
 unfold laws_szIntS at h0
 refine ai Tryz.func110 rfl rfl rfl rfl (zr tb rfl rfl (sr rfl fun K2 hK2 => zm tb 2 rfl (zl tb rfl rfl (zm tb 2 rfl (dn hK2 rfl (AW.seq fun K3 hK3 => zr tb rfl rfl ?_))))))
 refine ci h0 rfl ?_ ?_ <;> clear h0
 ·intro b5 h0
  refine zr tb rfl rfl ?_
  replace h0 := Sh.some_eq h0
  subst r
  exact AW.ret (xr (Wk.to (L := [(4, (i64 (-1)))]) ⟨.rfl, trivial⟩))
 ·intro b5 h0
  refine AW.skip (hK3 _ (zr tb rfl rfl ?_))
  replace h0 := Sh.some_eq h0
  subst r
  exact AW.ret (xr (Wk.to (L := [(4, (i64 (Sh.w (p1 - (Sh.len p0)))))]) ⟨.rfl, trivial⟩))
theorem laws_szCon_ok {p0 : RCon} {p1 : Int} {r : Int} (h0 : laws_szCon p0 p1 = some r) : ACalls Tryz.prog 163 [(.agg (eRCon p0)), (i64 p1)] [] (fun v st => v = (i64 r) ∧ st = []) := by
 unfold laws_szCon at h0
 refine ai Tryz.func163 rfl rfl rfl rfl (sr rfl fun K1 hK1 => ao_box (m := 0) (st' := [⟨0, 178, 1, [(eRCon p0)]⟩]) go0 rfl rfl rfl rfl rfl (zq tb rfl (dn hK1 rfl (sr rfl fun K2 hK2 => zm tb 3 rfl (bs h0 fun q3 gq3 h0 => zc hb110 (laws_szIntS_ok gq3) rfl rfl rfl (zq tb rfl (dn hK2 rfl (AW.seq fun K4 hK4 => ?_))))))))
 refine zr tb rfl rfl ?_
 refine ci h0 rfl ?_ ?_ <;> clear h0
 ·intro b6 h0
  refine zr tb rfl rfl ?_
  replace h0 := Sh.some_eq h0
  subst r
  exact AW.ret (xr (Wk.d0 [(4, (i64 (-1)))] rfl))
 ·intro b6 h0
  refine AW.skip (hK4 _ (zr tb rfl rfl ?_))
  replace h0 := Sh.some_eq h0
  subst r
  exact AW.ret (xr (Wk.d0 [(4, (i64 q3))] rfl))
theorem laws_szConS_ok {N : Nat} {p0 : (List RCon)} {p1 : Int} {r : Int} (h0 : laws_szConS N p0 p1 = some r) : ACalls Tryz.prog 109 [(ls eRCon p0), (i64 p1)] [] (fun v st => v = (i64 r) ∧ st = []) := by
 unfold laws_szConS at h0
 refine ai Tryz.func109 rfl rfl rfl rfl (zr tb rfl rfl (sr rfl fun K2 hK2 => zm tb 2 rfl (zl tb rfl rfl (zm tb 2 rfl (dn hK2 rfl (AW.seq fun K3 hK3 => zr tb rfl rfl ?_))))))
 refine ci h0 rfl ?_ ?_ <;> clear h0
 ·intro b5 h0
  refine zr tb rfl rfl ?_
  replace h0 := Sh.some_eq h0
  subst r
  exact AW.ret (xr (Wk.to (L := [(4, (i64 (-1)))]) ⟨.rfl, trivial⟩))
 ·intro b5 h0
  refine AW.skip (hK3 _ (AW.seq fun K7 hK7 => zr tb rfl rfl ?_))
  obtain ⟨o12, h1, h0⟩ := Sh.cont_some h0
  have M12 : ∀ (left11 : Int), o12 = Sum.inr left11 → ∀ s, Wk 0 s ⟨27, envL [(1, (i64 left11))], []⟩ → K7 s := by
   intro left11 hq s hw
   subst o12
   try dsimp only at h0
   refine hK7 _ (AW.weaken hw (zr tb rfl rfl ?_))
   replace h0 := Sh.some_eq h0
   subst r
   exact AW.ret (xr (Wk.to (L := [(4, (i64 left11))]) ⟨.rfl, trivial⟩))
  refine AW.block (AW.loopF (σ := Int × Int) (fun n v => laws_szConS_L1 p0 n v.1 v.2 = some o12) (fun (left9, i10) => ⟨27, envL [(0, (ls eRCon p0)), (1, (i64 left9)), (5, (i64 i10))], []⟩) N (Sh.w (p1 - (Sh.len p0)), 0) h1 (Wk.tr rfl) (fun _ hv => by rw [laws_szConS_L1] at hv; cases hv) ?_)
  rintro n ⟨left9, i10⟩ h1
  try dsimp only at h1 ⊢
  rw [laws_szConS_L1] at h1
  refine AW.seq fun K14 hK14 => sr rfl fun K15 hK15 => zm tb 2 rfl (zl tb rfl rfl (zq tb rfl (dn hK15 rfl ?_)))
  refine ci h1 rfl ?_ ?_ <;> clear h1
  ·intro b16 h1
   refine AW.skip (hK14 _ (AW.seq fun K17 hK17 => AW.block (sr rfl fun K18 hK18 => zm tb 2 rfl (bs h1 fun c19 gc19 h1 => zx ei81 gc19 rfl rfl rfl (zm tb 2 rfl (bs h1 fun q20 gq20 h1 => zc hb163 (laws_szCon_ok gq20) rfl rfl rfl (zq tb rfl (dn hK18 rfl ?_))))))))
   refine zr tb rfl rfl ?_
   refine ci h1 rfl ?_ ?_ <;> clear h1
   ·intro b22 h1
    refine zr tb rfl rfl ?_
    replace h1 := Sh.some_eq h1
    subst o12
    try dsimp only [id] at h0
    replace h0 := Sh.some_eq h0
    subst r
    exact AW.ret (xr (Wk.to (L := [(4, (i64 (-1)))]) ⟨.rfl, trivial⟩))
   ·intro b22 h1
    exact AW.skip (hK17 _ (AW.regionO rfl (zm tb 3 rfl (AO.done (xi (q20, Sh.w (i10 + 1)) h1 (Wk.tr rfl))))))
  ·intro b16 h1
   exact AW.exit (M12 left9 (Sh.some_eq h1).symm _ (Wk.tr rfl))
theorem laws_szDecl_ok {N : Nat} {p0 : RDecl} {p1 : Int} {r : Int} (h0 : laws_szDecl N p0 p1 = some r) : ACalls Tryz.prog 64 [(.agg (eRDecl p0)), (i64 p1)] [] (fun v st => v = (i64 r) ∧ st = []) := by
 unfold laws_szDecl at h0
 refine ai Tryz.func64 rfl rfl rfl rfl (sr rfl fun K1 hK1 => ao_box (m := 0) (st' := [⟨0, 83, 3, [(eRDecl p0)]⟩]) go0 rfl rfl rfl rfl rfl (zq tb rfl (dn hK1 rfl (sr rfl fun K2 hK2 => zm tb 3 rfl (bs h0 fun q3 gq3 h0 => zc hb109 (laws_szConS_ok gq3) rfl rfl rfl (zq tb rfl (dn hK2 rfl (AW.seq fun K4 hK4 => ?_))))))))
 refine zr tb rfl rfl ?_
 refine ci h0 rfl ?_ ?_ <;> clear h0
 ·intro b6 h0
  refine zr tb rfl rfl ?_
  replace h0 := Sh.some_eq h0
  subst r
  exact AW.ret (xr (Wk.d0 [(4, (i64 (-1)))] rfl))
 ·intro b6 h0
  refine AW.skip (hK4 _ (zr tb rfl rfl ?_))
  replace h0 := Sh.some_eq h0
  subst r
  exact AW.ret (xr (Wk.d0 [(4, (i64 q3))] rfl))
theorem laws_szDeclS_ok {N : Nat} {p0 : (List RDecl)} {p1 : Int} {r : Int} (h0 : laws_szDeclS N p0 p1 = some r) : ACalls Tryz.prog 26 [(ls eRDecl p0), (i64 p1)] [] (fun v st => v = (i64 r) ∧ st = []) := by
 unfold laws_szDeclS at h0
 refine ai Tryz.func26 rfl rfl rfl rfl (zr tb rfl rfl (sr rfl fun K2 hK2 => zm tb 2 rfl (zl tb rfl rfl (zm tb 2 rfl (dn hK2 rfl (AW.seq fun K3 hK3 => zr tb rfl rfl ?_))))))
 refine ci h0 rfl ?_ ?_ <;> clear h0
 ·intro b5 h0
  refine zr tb rfl rfl ?_
  replace h0 := Sh.some_eq h0
  subst r
  exact AW.ret (xr (Wk.to (L := [(4, (i64 (-1)))]) ⟨.rfl, trivial⟩))
 ·intro b5 h0
  refine AW.skip (hK3 _ (AW.seq fun K7 hK7 => zr tb rfl rfl ?_))
  obtain ⟨o12, h1, h0⟩ := Sh.cont_some h0
  have M12 : ∀ (left11 : Int), o12 = Sum.inr left11 → ∀ s, Wk 0 s ⟨27, envL [(1, (i64 left11))], []⟩ → K7 s := by
   intro left11 hq s hw
   subst o12
   try dsimp only at h0
   refine hK7 _ (AW.weaken hw (zr tb rfl rfl ?_))
   replace h0 := Sh.some_eq h0
   subst r
   exact AW.ret (xr (Wk.to (L := [(4, (i64 left11))]) ⟨.rfl, trivial⟩))
  refine AW.block (AW.loopF (σ := Int × Int) (fun n v => laws_szDeclS_L1 N p0 n v.1 v.2 = some o12) (fun (left9, i10) => ⟨27, envL [(0, (ls eRDecl p0)), (1, (i64 left9)), (5, (i64 i10))], []⟩) N (Sh.w (p1 - (Sh.len p0)), 0) h1 (Wk.tr rfl) (fun _ hv => by rw [laws_szDeclS_L1] at hv; cases hv) ?_)
  rintro n ⟨left9, i10⟩ h1
  try dsimp only at h1 ⊢
  rw [laws_szDeclS_L1] at h1
  refine AW.seq fun K14 hK14 => sr rfl fun K15 hK15 => zm tb 2 rfl (zl tb rfl rfl (zq tb rfl (dn hK15 rfl ?_)))
  refine ci h1 rfl ?_ ?_ <;> clear h1
  ·intro b16 h1
   refine AW.skip (hK14 _ (AW.seq fun K17 hK17 => AW.block (sr rfl fun K18 hK18 => zm tb 2 rfl (bs h1 fun c19 gc19 h1 => zx ei22 gc19 rfl rfl rfl (zm tb 2 rfl (bs h1 fun q20 gq20 h1 => zc hb64 (laws_szDecl_ok gq20) rfl rfl rfl (zq tb rfl (dn hK18 rfl ?_))))))))
   refine zr tb rfl rfl ?_
   refine ci h1 rfl ?_ ?_ <;> clear h1
   ·intro b22 h1
    refine zr tb rfl rfl ?_
    replace h1 := Sh.some_eq h1
    subst o12
    try dsimp only [id] at h0
    replace h0 := Sh.some_eq h0
    subst r
    exact AW.ret (xr (Wk.to (L := [(4, (i64 (-1)))]) ⟨.rfl, trivial⟩))
   ·intro b22 h1
    exact AW.skip (hK17 _ (AW.regionO rfl (zm tb 3 rfl (AO.done (xi (q20, Sh.w (i10 + 1)) h1 (Wk.tr rfl))))))
  ·intro b16 h1
   exact AW.exit (M12 left9 (Sh.some_eq h1).symm _ (Wk.tr rfl))
theorem laws_szBlockS_ok {N : Nat} {rec_laws_szBlock : Block → Int → Option (Int)} (hrec_laws_szBlock : ∀ {p0 : Block} {p1 : Int} {r : Int}, rec_laws_szBlock p0 p1 = some r → ACalls Tryz.prog 111 [(.agg [(ls eStep p0.steps), (i64 p0.result)]), (i64 p1)] [] (fun v st => v = (i64 r) ∧ st = [])) {p0 : (List Block)} {p1 : Int} {r : Int} (h0 : laws_szBlockS N rec_laws_szBlock p0 p1 = some r) : ACalls Tryz.prog 229 [(ls eBlock p0), (i64 p1)] [] (fun v st => v = (i64 r) ∧ st = []) := by
 unfold laws_szBlockS at h0
 refine ai Tryz.func229 rfl rfl rfl rfl (zr tb rfl rfl (sr rfl fun K2 hK2 => zm tb 2 rfl (zl tb rfl rfl (zm tb 2 rfl (dn hK2 rfl (AW.seq fun K3 hK3 => zr tb rfl rfl ?_))))))
 refine ci h0 rfl ?_ ?_ <;> clear h0
 ·intro b5 h0
  refine zr tb rfl rfl ?_
  replace h0 := Sh.some_eq h0
  subst r
  exact AW.ret (xr (Wk.to (L := [(4, (i64 (-1)))]) ⟨.rfl, trivial⟩))
 ·intro b5 h0
  refine AW.skip (hK3 _ (AW.seq fun K7 hK7 => zr tb rfl rfl ?_))
  obtain ⟨o12, h1, h0⟩ := Sh.cont_some h0
  have M12 : ∀ (left11 : Int), o12 = Sum.inr left11 → ∀ s, Wk 0 s ⟨27, envL [(1, (i64 left11))], []⟩ → K7 s := by
   intro left11 hq s hw
   subst o12
   try dsimp only at h0
   refine hK7 _ (AW.weaken hw (zr tb rfl rfl ?_))
   replace h0 := Sh.some_eq h0
   subst r
   exact AW.ret (xr (Wk.to (L := [(4, (i64 left11))]) ⟨.rfl, trivial⟩))
  refine AW.block (AW.loopF (σ := Int × Int) (fun n v => laws_szBlockS_L1 p0 rec_laws_szBlock n v.1 v.2 = some o12) (fun (left9, i10) => ⟨27, envL [(0, (ls eBlock p0)), (1, (i64 left9)), (5, (i64 i10))], []⟩) N (Sh.w (p1 - (Sh.len p0)), 0) h1 (Wk.tr rfl) (fun _ hv => by rw [laws_szBlockS_L1] at hv; cases hv) ?_)
  rintro n ⟨left9, i10⟩ h1
  try dsimp only at h1 ⊢
  rw [laws_szBlockS_L1] at h1
  refine AW.seq fun K14 hK14 => sr rfl fun K15 hK15 => zm tb 2 rfl (zl tb rfl rfl (zq tb rfl (dn hK15 rfl ?_)))
  refine ci h1 rfl ?_ ?_ <;> clear h1
  ·intro b16 h1
   refine AW.skip (hK14 _ (AW.seq fun K17 hK17 => AW.block (sr rfl fun K18 hK18 => zm tb 2 rfl (bs h1 fun c19 gc19 h1 => zx ei209 gc19 rfl rfl rfl (zm tb 2 rfl (bs h1 fun q20 gq20 h1 => zc hb111 (hrec_laws_szBlock gq20) rfl rfl rfl (zq tb rfl (dn hK18 rfl ?_))))))))
   refine zr tb rfl rfl ?_
   refine ci h1 rfl ?_ ?_ <;> clear h1
   ·intro b22 h1
    refine zr tb rfl rfl ?_
    replace h1 := Sh.some_eq h1
    subst o12
    try dsimp only [id] at h0
    replace h0 := Sh.some_eq h0
    subst r
    exact AW.ret (xr (Wk.to (L := [(4, (i64 (-1)))]) ⟨.rfl, trivial⟩))
   ·intro b22 h1
    exact AW.skip (hK17 _ (AW.regionO rfl (zm tb 3 rfl (AO.done (xi (q20, Sh.w (i10 + 1)) h1 (Wk.tr rfl))))))
  ·intro b16 h1
   exact AW.exit (M12 left9 (Sh.some_eq h1).symm _ (Wk.tr rfl))
theorem laws_szStep_ok {N : Nat} {rec_laws_szBlock : Block → Int → Option (Int)} (hrec_laws_szBlock : ∀ {p0 : Block} {p1 : Int} {r : Int}, rec_laws_szBlock p0 p1 = some r → ACalls Tryz.prog 111 [(.agg [(ls eStep p0.steps), (i64 p0.result)]), (i64 p1)] [] (fun v st => v = (i64 r) ∧ st = [])) {p0 : Step} {p1 : Int} {r : Int} (h0 : laws_szStep N rec_laws_szBlock p0 p1 = some r) : ACalls Tryz.prog 206 [(.agg [(i64 p0.op), (i64 p0.num), (i64 p0.into), (ls eI p0.args), (ls eBlock p0.kids)]), (i64 p1)] [] (fun v st => v = (i64 r) ∧ st = []) := by
 unfold laws_szStep at h0
 refine ai Tryz.func206 rfl rfl rfl rfl (sr rfl fun K1 hK1 => ao_box (m := 0) (st' := [⟨0, 211, 5, [[(i64 p0.op), (i64 p0.num), (i64 p0.into), (ls eI p0.args), (ls eBlock p0.kids)]]⟩]) go0 rfl rfl rfl rfl rfl (zq tb rfl (dn hK1 rfl (sr rfl fun K2 hK2 => zm tb 3 rfl (bs h0 fun q3 gq3 h0 => zc hb110 (laws_szIntS_ok gq3) rfl rfl rfl (zq tb rfl (dn hK2 rfl (AW.seq fun K4 hK4 => ?_))))))))
 refine zr tb rfl rfl ?_
 refine ci h0 rfl ?_ ?_ <;> clear h0
 ·intro b6 h0
  refine zr tb rfl rfl ?_
  replace h0 := Sh.some_eq h0
  subst r
  exact AW.ret (xr (Wk.d0 [(4, (i64 (-1)))] rfl))
 ·intro b6 h0
  refine AW.skip (hK4 _ (sr rfl fun K8 hK8 => zm tb 3 rfl (bs h0 fun q9 gq9 h0 => zc hb229 (laws_szBlockS_ok hrec_laws_szBlock gq9) rfl rfl rfl (zq tb rfl (dn hK8 rfl (AW.seq fun K10 hK10 => zr tb rfl rfl ?_))))))
  refine ci h0 rfl ?_ ?_ <;> clear h0
  ·intro b12 h0
   refine zr tb rfl rfl ?_
   replace h0 := Sh.some_eq h0
   subst r
   exact AW.ret (xr (Wk.d0 [(4, (i64 (-1)))] rfl))
  ·intro b12 h0
   refine AW.skip (hK10 _ (zr tb rfl rfl ?_))
   replace h0 := Sh.some_eq h0
   subst r
   exact AW.ret (xr (Wk.d0 [(4, (i64 q9))] rfl))
theorem laws_szStepS_ok {N : Nat} {rec_laws_szBlock : Block → Int → Option (Int)} (hrec_laws_szBlock : ∀ {p0 : Block} {p1 : Int} {r : Int}, rec_laws_szBlock p0 p1 = some r → ACalls Tryz.prog 111 [(.agg [(ls eStep p0.steps), (i64 p0.result)]), (i64 p1)] [] (fun v st => v = (i64 r) ∧ st = [])) {p0 : (List Step)} {p1 : Int} {r : Int} (h0 : laws_szStepS N rec_laws_szBlock p0 p1 = some r) : ACalls Tryz.prog 164 [(ls eStep p0), (i64 p1)] [] (fun v st => v = (i64 r) ∧ st = []) := by
 unfold laws_szStepS at h0
 refine ai Tryz.func164 rfl rfl rfl rfl (zr tb rfl rfl (sr rfl fun K2 hK2 => zm tb 2 rfl (zl tb rfl rfl (zm tb 2 rfl (dn hK2 rfl (AW.seq fun K3 hK3 => zr tb rfl rfl ?_))))))
 refine ci h0 rfl ?_ ?_ <;> clear h0
 ·intro b5 h0
  refine zr tb rfl rfl ?_
  replace h0 := Sh.some_eq h0
  subst r
  exact AW.ret (xr (Wk.to (L := [(4, (i64 (-1)))]) ⟨.rfl, trivial⟩))
 ·intro b5 h0
  refine AW.skip (hK3 _ (AW.seq fun K7 hK7 => zr tb rfl rfl ?_))
  obtain ⟨o12, h1, h0⟩ := Sh.cont_some h0
  have M12 : ∀ (left11 : Int), o12 = Sum.inr left11 → ∀ s, Wk 0 s ⟨27, envL [(1, (i64 left11))], []⟩ → K7 s := by
   intro left11 hq s hw
   subst o12
   try dsimp only at h0
   refine hK7 _ (AW.weaken hw (zr tb rfl rfl ?_))
   replace h0 := Sh.some_eq h0
   subst r
   exact AW.ret (xr (Wk.to (L := [(4, (i64 left11))]) ⟨.rfl, trivial⟩))
  refine AW.block (AW.loopF (σ := Int × Int) (fun n v => laws_szStepS_L1 N p0 rec_laws_szBlock n v.1 v.2 = some o12) (fun (left9, i10) => ⟨27, envL [(0, (ls eStep p0)), (1, (i64 left9)), (5, (i64 i10))], []⟩) N (Sh.w (p1 - (Sh.len p0)), 0) h1 (Wk.tr rfl) (fun _ hv => by rw [laws_szStepS_L1] at hv; cases hv) ?_)
  rintro n ⟨left9, i10⟩ h1
  try dsimp only at h1 ⊢
  rw [laws_szStepS_L1] at h1
  refine AW.seq fun K14 hK14 => sr rfl fun K15 hK15 => zm tb 2 rfl (zl tb rfl rfl (zq tb rfl (dn hK15 rfl ?_)))
  refine ci h1 rfl ?_ ?_ <;> clear h1
  ·intro b16 h1
   refine AW.skip (hK14 _ (AW.seq fun K17 hK17 => AW.block (sr rfl fun K18 hK18 => zm tb 2 rfl (bs h1 fun c19 gc19 h1 => zz (.iptr [(i64 c19.op), (i64 c19.num), (i64 c19.into), (ls eI c19.args), (ls eBlock c19.kids)] 0) (aq_ixsE ei85 rfl rfl gc19 (eStep_eq _) rfl) rfl (zm tb 2 rfl (bs h1 fun q20 gq20 h1 => zc hb206 (laws_szStep_ok hrec_laws_szBlock gq20) rfl rfl rfl (zq tb rfl (dn hK18 rfl ?_))))))))
   refine zr tb rfl rfl ?_
   refine ci h1 rfl ?_ ?_ <;> clear h1
   ·intro b22 h1
    refine zr tb rfl rfl ?_
    replace h1 := Sh.some_eq h1
    subst o12
    try dsimp only [id] at h0
    replace h0 := Sh.some_eq h0
    subst r
    exact AW.ret (xr (Wk.to (L := [(4, (i64 (-1)))]) ⟨.rfl, trivial⟩))
   ·intro b22 h1
    exact AW.skip (hK17 _ (AW.regionO rfl (zm tb 3 rfl (AO.done (xi (q20, Sh.w (i10 + 1)) h1 (Wk.tr rfl))))))
  ·intro b16 h1
   exact AW.exit (M12 left9 (Sh.some_eq h1).symm _ (Wk.tr rfl))
theorem laws_szBlock_B_ok {N : Nat} {rec_laws_szBlock : Block → Int → Option (Int)} (hrec_laws_szBlock : ∀ {p0 : Block} {p1 : Int} {r : Int}, rec_laws_szBlock p0 p1 = some r → ACalls Tryz.prog 111 [(.agg [(ls eStep p0.steps), (i64 p0.result)]), (i64 p1)] [] (fun v st => v = (i64 r) ∧ st = [])) {p0 : Block} {p1 : Int} {r : Int} (h0 : laws_szBlock_B N rec_laws_szBlock p0 p1 = some r) : ACalls Tryz.prog 111 [(.agg [(ls eStep p0.steps), (i64 p0.result)]), (i64 p1)] [] (fun v st => v = (i64 r) ∧ st = []) := by
 unfold laws_szBlock_B at h0
 refine ai Tryz.func111 rfl rfl rfl rfl (sr rfl fun K1 hK1 => ao_box (m := 0) (st' := [⟨0, 87, 2, [[(ls eStep p0.steps), (i64 p0.result)]]⟩]) go0 rfl rfl rfl rfl rfl (zq tb rfl (dn hK1 rfl (sr rfl fun K2 hK2 => zm tb 3 rfl (bs h0 fun q3 gq3 h0 => zc hb164 (laws_szStepS_ok hrec_laws_szBlock gq3) rfl rfl rfl (zq tb rfl (dn hK2 rfl (AW.seq fun K4 hK4 => ?_))))))))
 refine zr tb rfl rfl ?_
 refine ci h0 rfl ?_ ?_ <;> clear h0
 ·intro b6 h0
  refine zr tb rfl rfl ?_
  replace h0 := Sh.some_eq h0
  subst r
  exact AW.ret (xr (Wk.d0 [(4, (i64 (-1)))] rfl))
 ·intro b6 h0
  refine AW.skip (hK4 _ (zr tb rfl rfl ?_))
  replace h0 := Sh.some_eq h0
  subst r
  exact AW.ret (xr (Wk.d0 [(4, (i64 q3))] rfl))

theorem laws_szBlock_F_ok {N : Nat} : ∀ (n : Nat), ∀ {p0 : Block} {p1 : Int} {r : Int}, laws_szBlock_F N n p0 p1 = some r → ACalls Tryz.prog 111 [(.agg [(ls eStep p0.steps), (i64 p0.result)]), (i64 p1)] [] (fun v st => v = (i64 r) ∧ st = []) := by
 intro n
 induction n with
 | zero => intro p0 p1 r h0; cases h0
 | succ n ih =>
  intro p0 p1 r h0
  rw [laws_szBlock_F] at h0
  exact laws_szBlock_B_ok (fun h => ih h) h0
theorem laws_szBlock_ok {N : Nat} : ∀ {p0 : Block} {p1 : Int} {r : Int}, laws_szBlock N p0 p1 = some r → ACalls Tryz.prog 111 [(.agg [(ls eStep p0.steps), (i64 p0.result)]), (i64 p1)] [] (fun v st => v = (i64 r) ∧ st = []) := by
 intro p0 p1 r h0
 exact laws_szBlock_F_ok N h0
theorem laws_szRoutine_ok {N : Nat} {p0 : RRoutine} {p1 : Int} {r : Int} (h0 : laws_szRoutine N p0 p1 = some r) : ACalls Tryz.prog 65 [(.agg [(ls eI p0.params), (ls eI p0.lent), (i64 p0.result), (ls eStep p0.body.steps), (i64 p0.body.result)]), (i64 p1)] [] (fun v st => v = (i64 r) ∧ st = []) := by
 unfold laws_szRoutine at h0
 refine ai Tryz.func65 rfl rfl rfl rfl (sr rfl fun K1 hK1 => ao_box (m := 0) (st' := [⟨0, 89, 5, [[(ls eI p0.params), (ls eI p0.lent), (i64 p0.result), (ls eStep p0.body.steps), (i64 p0.body.result)]]⟩]) go0 rfl rfl rfl rfl rfl (zq tb rfl (dn hK1 rfl (sr rfl fun K2 hK2 => zm tb 3 rfl (bs h0 fun q3 gq3 h0 => zc hb110 (laws_szIntS_ok gq3) rfl rfl rfl (zq tb rfl (dn hK2 rfl (AW.seq fun K4 hK4 => ?_))))))))
 refine zr tb rfl rfl ?_
 refine ci h0 rfl ?_ ?_ <;> clear h0
 ·intro b6 h0
  refine zr tb rfl rfl ?_
  replace h0 := Sh.some_eq h0
  subst r
  exact AW.ret (xr (Wk.d0 [(4, (i64 (-1)))] rfl))
 ·intro b6 h0
  refine AW.skip (hK4 _ (sr rfl fun K8 hK8 => zm tb 3 rfl (bs h0 fun q9 gq9 h0 => zc hb110 (laws_szIntS_ok gq9) rfl rfl rfl (zq tb rfl (dn hK8 rfl (AW.seq fun K10 hK10 => zr tb rfl rfl ?_))))))
  refine ci h0 rfl ?_ ?_ <;> clear h0
  ·intro b12 h0
   refine zr tb rfl rfl ?_
   replace h0 := Sh.some_eq h0
   subst r
   exact AW.ret (xr (Wk.d0 [(4, (i64 (-1)))] rfl))
  ·intro b12 h0
   refine AW.skip (hK10 _ (sr rfl fun K14 hK14 => zm tb 3 rfl (bs h0 fun q15 gq15 h0 => zc hb111 (laws_szBlock_ok gq15) rfl rfl rfl (zq tb rfl (dn hK14 rfl (AW.seq fun K16 hK16 => zr tb rfl rfl ?_))))))
   refine ci h0 rfl ?_ ?_ <;> clear h0
   ·intro b18 h0
    refine zr tb rfl rfl ?_
    replace h0 := Sh.some_eq h0
    subst r
    exact AW.ret (xr (Wk.d0 [(4, (i64 (-1)))] rfl))
   ·intro b18 h0
    refine AW.skip (hK16 _ (zr tb rfl rfl ?_))
    replace h0 := Sh.some_eq h0
    subst r
    exact AW.ret (xr (Wk.d0 [(4, (i64 q15))] rfl))
theorem laws_szRoutineS_ok {N : Nat} {p0 : (List RRoutine)} {p1 : Int} {r : Int} (h0 : laws_szRoutineS N p0 p1 = some r) : ACalls Tryz.prog 27 [(ls eRRoutine p0), (i64 p1)] [] (fun v st => v = (i64 r) ∧ st = []) := by
 unfold laws_szRoutineS at h0
 refine ai Tryz.func27 rfl rfl rfl rfl (zr tb rfl rfl (sr rfl fun K2 hK2 => zm tb 2 rfl (zl tb rfl rfl (zm tb 2 rfl (dn hK2 rfl (AW.seq fun K3 hK3 => zr tb rfl rfl ?_))))))
 refine ci h0 rfl ?_ ?_ <;> clear h0
 ·intro b5 h0
  refine zr tb rfl rfl ?_
  replace h0 := Sh.some_eq h0
  subst r
  exact AW.ret (xr (Wk.to (L := [(4, (i64 (-1)))]) ⟨.rfl, trivial⟩))
 ·intro b5 h0
  refine AW.skip (hK3 _ (AW.seq fun K7 hK7 => zr tb rfl rfl ?_))
  obtain ⟨o12, h1, h0⟩ := Sh.cont_some h0
  have M12 : ∀ (left11 : Int), o12 = Sum.inr left11 → ∀ s, Wk 0 s ⟨27, envL [(1, (i64 left11))], []⟩ → K7 s := by
   intro left11 hq s hw
   subst o12
   try dsimp only at h0
   refine hK7 _ (AW.weaken hw (zr tb rfl rfl ?_))
   replace h0 := Sh.some_eq h0
   subst r
   exact AW.ret (xr (Wk.to (L := [(4, (i64 left11))]) ⟨.rfl, trivial⟩))
  refine AW.block (AW.loopF (σ := Int × Int) (fun n v => laws_szRoutineS_L1 N p0 n v.1 v.2 = some o12) (fun (left9, i10) => ⟨27, envL [(0, (ls eRRoutine p0)), (1, (i64 left9)), (5, (i64 i10))], []⟩) N (Sh.w (p1 - (Sh.len p0)), 0) h1 (Wk.tr rfl) (fun _ hv => by rw [laws_szRoutineS_L1] at hv; cases hv) ?_)
  rintro n ⟨left9, i10⟩ h1
  try dsimp only at h1 ⊢
  rw [laws_szRoutineS_L1] at h1
  refine AW.seq fun K14 hK14 => sr rfl fun K15 hK15 => zm tb 2 rfl (zl tb rfl rfl (zq tb rfl (dn hK15 rfl ?_)))
  refine ci h1 rfl ?_ ?_ <;> clear h1
  ·intro b16 h1
   refine AW.skip (hK14 _ (AW.seq fun K17 hK17 => AW.block (sr rfl fun K18 hK18 => zm tb 2 rfl (bs h1 fun c19 gc19 h1 => zx ei23 gc19 rfl rfl rfl (zm tb 2 rfl (bs h1 fun q20 gq20 h1 => zc hb65 (laws_szRoutine_ok gq20) rfl rfl rfl (zq tb rfl (dn hK18 rfl ?_))))))))
   refine zr tb rfl rfl ?_
   refine ci h1 rfl ?_ ?_ <;> clear h1
   ·intro b22 h1
    refine zr tb rfl rfl ?_
    replace h1 := Sh.some_eq h1
    subst o12
    try dsimp only [id] at h0
    replace h0 := Sh.some_eq h0
    subst r
    exact AW.ret (xr (Wk.to (L := [(4, (i64 (-1)))]) ⟨.rfl, trivial⟩))
   ·intro b22 h1
    exact AW.skip (hK17 _ (AW.regionO rfl (zm tb 3 rfl (AO.done (xi (q20, Sh.w (i10 + 1)) h1 (Wk.tr rfl))))))
  ·intro b16 h1
   exact AW.exit (M12 left9 (Sh.some_eq h1).symm _ (Wk.tr rfl))
theorem laws_szNormal_ok {N : Nat} {p0 : RNormal} {p1 : Int} {r : Int} (h0 : laws_szNormal N p0 p1 = some r) : ACalls Tryz.prog 8 [(.agg [(ls eRDecl p0.decls), (ls eRRoutine p0.routines)]), (i64 p1)] [] (fun v st => v = (i64 r) ∧ st = []) := by
 unfold laws_szNormal at h0
 refine ai Tryz.func8 rfl rfl rfl rfl (sr rfl fun K1 hK1 => ao_box (m := 0) (st' := [⟨0, 25, 2, [[(ls eRDecl p0.decls), (ls eRRoutine p0.routines)]]⟩]) go0 rfl rfl rfl rfl rfl (zq tb rfl (dn hK1 rfl (sr rfl fun K2 hK2 => zm tb 3 rfl (bs h0 fun q3 gq3 h0 => zc hb26 (laws_szDeclS_ok gq3) rfl rfl rfl (zq tb rfl (dn hK2 rfl (AW.seq fun K4 hK4 => ?_))))))))
 refine zr tb rfl rfl ?_
 refine ci h0 rfl ?_ ?_ <;> clear h0
 ·intro b6 h0
  refine zr tb rfl rfl ?_
  replace h0 := Sh.some_eq h0
  subst r
  exact AW.ret (xr (Wk.d0 [(4, (i64 (-1)))] rfl))
 ·intro b6 h0
  refine AW.skip (hK4 _ (sr rfl fun K8 hK8 => zm tb 3 rfl (bs h0 fun q9 gq9 h0 => zc hb27 (laws_szRoutineS_ok gq9) rfl rfl rfl (zq tb rfl (dn hK8 rfl (AW.seq fun K10 hK10 => zr tb rfl rfl ?_))))))
  refine ci h0 rfl ?_ ?_ <;> clear h0
  ·intro b12 h0
   refine zr tb rfl rfl ?_
   replace h0 := Sh.some_eq h0
   subst r
   exact AW.ret (xr (Wk.d0 [(4, (i64 (-1)))] rfl))
  ·intro b12 h0
   refine AW.skip (hK10 _ (zr tb rfl rfl ?_))
   replace h0 := Sh.some_eq h0
   subst r
   exact AW.ret (xr (Wk.d0 [(4, (i64 q9))] rfl))
theorem laws_toIntS_ok {N : Nat} {p0 : (List Int)} {r : (List Int)} (h0 : laws_toIntS N p0 = some r) : ACalls Tryz.prog 121 [(ls eI p0)] [] (fun v st => v = (ow 0 0 r) ∧ st = [(ro 0 3 1 eI r)]) := by
 unfold laws_toIntS at h0
 refine ai Tryz.func121 rfl rfl rfl rfl (zr tb rfl rfl (sr rfl fun K2 hK2 => zq tb rfl (zl tb rfl rfl (bs h0 fun l3 gl3 h0 => ao_make (m := 0) (st' := [(ro 0 3 1 eI l3)]) (enc := eI) (u := 0) go0 ei37 rfl rfl rfl gl3 rfl rfl (zq tb rfl (dn hK2 rfl (AW.seq fun K4 hK4 => zr tb rfl rfl (bs h0 fun o9 h1 h0 => ?_))))))))
 have M9 : ∀ (l8 : (List Int)), o9 = l8 → ∀ s, Wk 0 s ⟨22, envL [(3, (ow 0 0 l8))], [(ro 0 3 1 eI l8)]⟩ → K4 s := by
  intro l8 hq s hw
  subst o9
  try dsimp only at h0
  refine hK4 _ (AW.weaken hw (zr tb rfl rfl ?_))
  replace h0 := Sh.some_eq h0
  subst r
  exact AW.ret (xr (Wk.to (L := [(2, (ow 0 0 l8))]) ⟨.rfl, trivial⟩))
 refine AW.block (AW.loopF (σ := Int × (List Int)) (fun n v => laws_toIntS_L1 p0 n v.1 v.2 = some o9) (fun (i6, l7) => ⟨22, envL [(0, (ls eI p0)), (3, (ow 0 0 l7)), (4, (i64 i6))], [(ro 0 3 1 eI l7)]⟩) N (0, l3) h1 (Wk.tr rfl) (fun _ hv => by rw [laws_toIntS_L1] at hv; cases hv) ?_)
 rintro n ⟨i6, l7⟩ h1
 try dsimp only at h1 ⊢
 rw [laws_toIntS_L1] at h1
 refine AW.seq fun K11 hK11 => sr rfl fun K12 hK12 => zm tb 2 rfl (zl tb rfl rfl (zq tb rfl (dn hK12 rfl ?_)))
 refine ci h1 rfl ?_ ?_ <;> clear h1
 ·intro b13 h1
  refine AW.skip (hK11 _ (AW.seq fun K14 hK14 => AW.block (AW.regionO rfl (zm tb 4 rfl (bs h1 fun c15 gc15 h1 => zx ei37 gc15 rfl rfl rfl (zq tb rfl (bs h1 fun c16 gc16 h1 => zz (.ptr 0 0 (Int.toNat i6) 0) (aq_ixo ei37 rfl rfl rfl rfl gc16) rfl (ao_stl (st' := [(ro 0 3 1 eI (Sh.put l7 i6 c15))]) (u' := c15) go0 ti3 rfl rfl gc16 rfl rfl rfl (show 0 + 1 ≤ 1 by decide) rfl rfl (dn hK14 rfl ?_)))))))))
  refine AW.regionO rfl (zm tb 3 rfl ?_)
  exact AO.done (xi (Sh.w (i6 + 1), Sh.put l7 i6 c15) h1 (Wk.to (L := [(0, (.sl (List.map eI p0))), (3, (.own 0 0 (List.length (Sh.put l7 i6 c15)))), (4, (i64 (Sh.w (i6 + 1))))]) ⟨.rfl, (.len (by simp only [Sh.put_len])), .rfl, trivial⟩))
 ·intro b13 h1
  exact AW.exit (M9 l7 (Sh.some_eq h1).symm _ (Wk.tr rfl))
theorem laws_toCon_ok {N : Nat} {p0 : RCon} {r : RCon} (h0 : laws_toCon N p0 = some r) : ACalls Tryz.prog 177 [(.agg (eRCon p0))] [] (fun v st => v = (.agg (eRCon r)) ∧ st = []) := by
 unfold laws_toCon at h0
 refine ACalls.flat rfl (ai Tryz.func177 rfl rfl rfl rfl (sr rfl fun K1 hK1 => ao_box (m := 0) (st' := [⟨0, 178, 1, [(eRCon p0)]⟩]) go0 rfl rfl rfl rfl rfl (ao_alloc (m := 1) (st' := [⟨0, 178, 1, [(eRCon p0)]⟩, ⟨0, 134, 1, [[.zc]]⟩]) go0 zi134 rfl rfl (dn hK1 rfl (sr rfl fun K2 hK2 => ao_alloc (m := 2) (st' := [⟨0, 178, 1, [(eRCon p0)]⟩, ⟨0, 134, 1, [[.zc]]⟩, ⟨0, 134, 1, [[.zc]]⟩]) go0 zi134 rfl rfl (dn hK2 rfl (sr rfl fun K3 hK3 => zm tb 2 rfl (bs h0 fun q4 gq4 h0 => ?_))))))))
 refine ao_call (v' := (ow 3 0 q4)) (st' := [⟨0, 178, 1, [(eRCon p0)]⟩, ⟨0, 134, 1, [[.zc]]⟩, ⟨0, 134, 1, [[.zc]]⟩, (ro 0 3 1 eI q4)]) go0 hb121 (laws_toIntS_ok gq4) rfl rfl ⟨(pure_map' fun _ => rfl), trivial⟩ rfl rfl (zq tb rfl (AO.weaken (Wk.frz (L := [(2, (.ptr 1 0 0 0)), (3, (.ptr 2 0 0 0)), (6, (ls eI q4)), (7, (.ptr 2 0 0 0))]) (st' := [⟨0, 178, 1, [(eRCon p0)]⟩, ⟨0, 134, 1, [[.zc]]⟩, ⟨0, 134, 1, [[.zc]]⟩, ⟨1, 3, 1, []⟩]) (id := 3) rfl (show 0 ≤ 3 by decide) (pure_map fun _ => rfl) ⟨.rfl, .rfl, (.frz rfl), .rfl, trivial⟩ rfl) (ao_str (st' := [⟨0, 178, 1, [(eRCon p0)]⟩, ⟨0, 134, 1, [[.zc]]⟩, ⟨0, 134, 1, [[(ls eI q4)]]⟩, ⟨1, 3, 1, []⟩]) go0 ti37 rfl rfl rfl rfl rfl rfl (show 0 + 1 ≤ 1 by decide) rfl (dn hK3 rfl (sr rfl fun K5 hK5 => zq tb rfl (ao_str (st' := [⟨0, 178, 1, [(eRCon p0)]⟩, ⟨0, 134, 1, [[(ls eI q4)]]⟩, ⟨0, 134, 1, [[(ls eI q4)]]⟩, ⟨1, 3, 1, []⟩]) go0 ti134 rfl rfl rfl rfl rfl rfl (show 0 + 1 ≤ 1 by decide) rfl (dn hK5 rfl ?_)))))))
 replace h0 := Sh.some_eq h0
 subst r
 exact AW.ret (Exists.intro _ (And.intro (Wk.refl _ _) (aq_ldpa (x := .tmp 2) (off := 0) (cs := [(ls eI q4)]) (vs := [(ls eI q4)]) ti134 rfl rfl rfl (show 0 + 1 ≤ 1 by decide) rfl _ rfl)))
theorem laws_toConS_ok {N : Nat} {p0 : (List RCon)} {r : (List RCon)} (h0 : laws_toConS N p0 = some r) : ACalls Tryz.prog 120 [(ls eRCon p0)] [] (fun v st => v = (ow 0 0 r) ∧ st = [(ro 0 134 1 eRCon r)]) := by
 unfold laws_toConS at h0
 refine ai Tryz.func120 rfl rfl rfl rfl (zr tb rfl rfl (sr rfl fun K2 hK2 => zq tb rfl (zl tb rfl rfl (bs h0 fun l3 gl3 h0 => ao_make (m := 0) (st' := [(ro 0 134 1 eRCon l3)]) (enc := eRCon) (u := (RCon.mk [])) go0 ei96 rfl rfl rfl gl3 rfl rfl (zq tb rfl (dn hK2 rfl (AW.seq fun K4 hK4 => zr tb rfl rfl (bs h0 fun o9 h1 h0 => ?_))))))))
 have M9 : ∀ (l8 : (List RCon)), o9 = l8 → ∀ s, Wk 0 s ⟨23, envL [(3, (ow 0 0 l8))], [(ro 0 134 1 eRCon l8)]⟩ → K4 s := by
  intro l8 hq s hw
  subst o9
  try dsimp only at h0
  refine hK4 _ (AW.weaken hw (zr tb rfl rfl ?_))
  replace h0 := Sh.some_eq h0
  subst r
  exact AW.ret (xr (Wk.to (L := [(2, (ow 0 0 l8))]) ⟨.rfl, trivial⟩))
 refine AW.block (AW.loopF (σ := Int × (List RCon)) (fun n v => laws_toConS_L1 N p0 n v.1 v.2 = some o9) (fun (i6, l7) => ⟨23, envL [(0, (ls eRCon p0)), (3, (ow 0 0 l7)), (4, (i64 i6))], [(ro 0 134 1 eRCon l7)]⟩) N (0, l3) h1 (Wk.tr rfl) (fun _ hv => by rw [laws_toConS_L1] at hv; cases hv) ?_)
 rintro n ⟨i6, l7⟩ h1
 try dsimp only at h1 ⊢
 rw [laws_toConS_L1] at h1
 refine AW.seq fun K11 hK11 => sr rfl fun K12 hK12 => zm tb 2 rfl (zl tb rfl rfl (zq tb rfl (dn hK12 rfl ?_)))
 refine ci h1 rfl ?_ ?_ <;> clear h1
 ·intro b13 h1
  refine AW.skip (hK11 _ (AW.seq fun K14 hK14 => AW.block (AW.regionO rfl (zm tb 4 rfl (bs h1 fun c15 gc15 h1 => zx ei81 gc15 rfl rfl rfl (zq tb rfl (bs h1 fun q16 gq16 h1 => zc (v' := (.agg (eRCon q16))) hb177 (laws_toCon_ok gq16) rfl rfl rfl (bs h1 fun c17 gc17 h1 => zz (.ptr 0 0 (Int.toNat i6) 0) (aq_ixo ei96 rfl rfl rfl rfl gc17) rfl ?_))))))))
  refine ao_stl (st' := [(ro 0 134 1 eRCon (Sh.put l7 i6 q16))]) (u' := q16) go0 ti134 rfl rfl gc17 rfl rfl rfl (show 0 + 1 ≤ 1 by decide) rfl rfl (dn hK14 rfl (AW.regionO rfl (zm tb 3 rfl ?_)))
  exact AO.done (xi (Sh.w (i6 + 1), Sh.put l7 i6 q16) h1 (Wk.to (L := [(0, (.sl (List.map eRCon p0))), (3, (.own 0 0 (List.length (Sh.put l7 i6 q16)))), (4, (i64 (Sh.w (i6 + 1))))]) ⟨.rfl, (.len (by simp only [Sh.put_len])), .rfl, trivial⟩))
 ·intro b13 h1
  exact AW.exit (M9 l7 (Sh.some_eq h1).symm _ (Wk.tr rfl))
noncomputable abbrev wB0 : Go.Abs.Row := ⟨0, 98, 3, [[(i64 0), (i64 0), .zc]]⟩
theorem laws_toDecl_ok {N : Nat} {p0 : RDecl} {r : RDecl} (h0 : laws_toDecl N p0 = some r) : ACalls Tryz.prog 72 [(.agg (eRDecl p0))] [] (fun v st => v = (.agg (eRDecl r)) ∧ st = []) := by
 unfold laws_toDecl at h0
 refine ACalls.flat rfl (ai Tryz.func72 rfl rfl rfl rfl (sr rfl fun K1 hK1 => ao_box (m := 0) (st' := [⟨0, 83, 3, [(eRDecl p0)]⟩]) go0 rfl rfl rfl rfl rfl (ao_alloc (m := 1) (st' := [⟨0, 83, 3, [(eRDecl p0)]⟩, wB0]) go0 zi98 rfl rfl (dn hK1 rfl (sr rfl fun K2 hK2 => ao_alloc (m := 2) (st' := [⟨0, 83, 3, [(eRDecl p0)]⟩, wB0, wB0]) go0 zi98 rfl rfl (dn hK2 rfl (sr rfl fun K3 hK3 => zm tb 3 rfl (ao_str (st' := [⟨0, 83, 3, [(eRDecl p0)]⟩, wB0, ⟨0, 98, 3, [[(i64 p0.from_), (i64 0), .zc]]⟩]) go0 ti3 rfl rfl rfl rfl rfl rfl (show 0 + 1 ≤ 3 by decide) rfl ?_))))))))
 refine dn hK3 rfl (sr rfl fun K4 hK4 => zm tb 3 rfl (ao_str (st' := [⟨0, 83, 3, [(eRDecl p0)]⟩, wB0, ⟨0, 98, 3, [[(i64 p0.from_), (i64 p0.to), .zc]]⟩]) go0 ti3 rfl rfl rfl rfl rfl rfl (show 1 + 1 ≤ 3 by decide) rfl (dn hK4 rfl (sr rfl fun K5 hK5 => zm tb 2 rfl (bs h0 fun q6 gq6 h0 => ao_call (v' := (ow 3 0 q6)) (st' := [⟨0, 83, 3, [(eRDecl p0)]⟩, wB0, ⟨0, 98, 3, [[(i64 p0.from_), (i64 p0.to), .zc]]⟩, (ro 0 134 1 eRCon q6)]) go0 hb120 (laws_toConS_ok gq6) rfl rfl ⟨(pure_map' fun _ => rfl), trivial⟩ rfl rfl (zq tb rfl (AO.weaken (Wk.frz (L := [(2, (.ptr 1 0 0 0)), (3, (.ptr 2 0 0 0)), (12, (ls eRCon q6)), (13, (.ptr 2 0 0 2))]) (st' := [⟨0, 83, 3, [(eRDecl p0)]⟩, wB0, ⟨0, 98, 3, [[(i64 p0.from_), (i64 p0.to), .zc]]⟩, ⟨1, 134, 1, []⟩]) (id := 3) rfl (show 0 ≤ 3 by decide) (pure_map fun _ => rfl) ⟨.rfl, .rfl, (.frz rfl), .rfl, trivial⟩ rfl) (ao_str (st' := [⟨0, 83, 3, [(eRDecl p0)]⟩, wB0, ⟨0, 98, 3, [[(i64 p0.from_), (i64 p0.to), (ls eRCon q6)]]⟩, ⟨1, 134, 1, []⟩]) go0 ti96 rfl rfl rfl rfl rfl rfl (show 2 + 1 ≤ 3 by decide) rfl ?_))))))))
 refine dn hK5 rfl (sr rfl fun K7 hK7 => zq tb rfl (ao_str (st' := [⟨0, 83, 3, [(eRDecl p0)]⟩, ⟨0, 98, 3, [[(i64 p0.from_), (i64 p0.to), (ls eRCon q6)]]⟩, ⟨0, 98, 3, [[(i64 p0.from_), (i64 p0.to), (ls eRCon q6)]]⟩, ⟨1, 134, 1, []⟩]) go0 ti98 rfl rfl rfl rfl rfl rfl (show 0 + 3 ≤ 3 by decide) rfl (dn hK7 rfl ?_)))
 replace h0 := Sh.some_eq h0
 subst r
 exact AW.ret (Exists.intro _ (And.intro (Wk.refl _ _) (aq_ldpa (x := .tmp 2) (off := 0) (cs := [(i64 p0.from_), (i64 p0.to), (ls eRCon q6)]) (vs := [(i64 p0.from_), (i64 p0.to), (ls eRCon q6)]) ti98 rfl rfl rfl (show 0 + 3 ≤ 3 by decide) rfl _ rfl)))
theorem laws_toDeclS_ok {N : Nat} {p0 : (List RDecl)} {r : (List RDecl)} (h0 : laws_toDeclS N p0 = some r) : ACalls Tryz.prog 31 [(ls eRDecl p0)] [] (fun v st => v = (ow 0 0 r) ∧ st = [(ro 0 98 3 eRDecl r)]) := by
 unfold laws_toDeclS at h0
 refine ai Tryz.func31 rfl rfl rfl rfl (zr tb rfl rfl (sr rfl fun K2 hK2 => zq tb rfl (zl tb rfl rfl (bs h0 fun l3 gl3 h0 => ao_make (m := 0) (st' := [(ro 0 98 3 eRDecl l3)]) (enc := eRDecl) (u := (RDecl.mk 0 0 [])) go0 ei27 rfl rfl rfl gl3 rfl rfl (zq tb rfl (dn hK2 rfl (AW.seq fun K4 hK4 => zr tb rfl rfl (bs h0 fun o9 h1 h0 => ?_))))))))
 have M9 : ∀ (l8 : (List RDecl)), o9 = l8 → ∀ s, Wk 0 s ⟨23, envL [(3, (ow 0 0 l8))], [(ro 0 98 3 eRDecl l8)]⟩ → K4 s := by
  intro l8 hq s hw
  subst o9
  try dsimp only at h0
  refine hK4 _ (AW.weaken hw (zr tb rfl rfl ?_))
  replace h0 := Sh.some_eq h0
  subst r
  exact AW.ret (xr (Wk.to (L := [(2, (ow 0 0 l8))]) ⟨.rfl, trivial⟩))
 refine AW.block (AW.loopF (σ := Int × (List RDecl)) (fun n v => laws_toDeclS_L1 N p0 n v.1 v.2 = some o9) (fun (i6, l7) => ⟨23, envL [(0, (ls eRDecl p0)), (3, (ow 0 0 l7)), (4, (i64 i6))], [(ro 0 98 3 eRDecl l7)]⟩) N (0, l3) h1 (Wk.tr rfl) (fun _ hv => by rw [laws_toDeclS_L1] at hv; cases hv) ?_)
 rintro n ⟨i6, l7⟩ h1
 try dsimp only at h1 ⊢
 rw [laws_toDeclS_L1] at h1
 refine AW.seq fun K11 hK11 => sr rfl fun K12 hK12 => zm tb 2 rfl (zl tb rfl rfl (zq tb rfl (dn hK12 rfl ?_)))
 refine ci h1 rfl ?_ ?_ <;> clear h1
 ·intro b13 h1
  refine AW.skip (hK11 _ (AW.seq fun K14 hK14 => AW.block (AW.regionO rfl (zm tb 4 rfl (bs h1 fun c15 gc15 h1 => zx ei22 gc15 rfl rfl rfl (zq tb rfl (bs h1 fun q16 gq16 h1 => zc (v' := (.agg (eRDecl q16))) hb72 (laws_toDecl_ok gq16) rfl rfl rfl (bs h1 fun c17 gc17 h1 => zz (.ptr 0 0 (Int.toNat i6) 0) (aq_ixo ei27 rfl rfl rfl rfl gc17) rfl ?_))))))))
  refine ao_stl (st' := [(ro 0 98 3 eRDecl (Sh.put l7 i6 q16))]) (u' := q16) go0 ti98 rfl rfl gc17 rfl rfl rfl (show 0 + 3 ≤ 3 by decide) rfl rfl (dn hK14 rfl (AW.regionO rfl (zm tb 3 rfl ?_)))
  exact AO.done (xi (Sh.w (i6 + 1), Sh.put l7 i6 q16) h1 (Wk.to (L := [(0, (.sl (List.map eRDecl p0))), (3, (.own 0 0 (List.length (Sh.put l7 i6 q16)))), (4, (i64 (Sh.w (i6 + 1))))]) ⟨.rfl, (.len (by simp only [Sh.put_len])), .rfl, trivial⟩))
 ·intro b13 h1
  exact AW.exit (M9 l7 (Sh.some_eq h1).symm _ (Wk.tr rfl))
theorem laws_toBlockS_ok {N : Nat} {rec_laws_toBlock : Block → Option (Block)} (hrec_laws_toBlock : ∀ {p0 : Block} {r : Block}, rec_laws_toBlock p0 = some r → ACalls Tryz.prog 122 [(.agg [(ls eStep p0.steps), (i64 p0.result)])] [] (fun v st => v = (.agg [(ls eStep r.steps), (i64 r.result)]) ∧ st = [])) {p0 : (List Block)} {r : (List Block)} (h0 : laws_toBlockS N rec_laws_toBlock p0 = some r) : ACalls Tryz.prog 230 [(ls eBlock p0)] [] (fun v st => v = (ow 0 0 r) ∧ st = [(ro 0 55 2 eBlock r)]) := by
 unfold laws_toBlockS at h0
 refine ai Tryz.func230 rfl rfl rfl rfl (zr tb rfl rfl (sr rfl fun K2 hK2 => zq tb rfl (zl tb rfl rfl (bs h0 fun l3 gl3 h0 => ao_make (m := 0) (st' := [(ro 0 55 2 eBlock l3)]) (enc := eBlock) (u := (Block.mk [] 0)) go0 ei69 rfl rfl rfl gl3 rfl rfl (zq tb rfl (dn hK2 rfl (AW.seq fun K4 hK4 => zr tb rfl rfl (bs h0 fun o9 h1 h0 => ?_))))))))
 have M9 : ∀ (l8 : (List Block)), o9 = l8 → ∀ s, Wk 0 s ⟨23, envL [(3, (ow 0 0 l8))], [(ro 0 55 2 eBlock l8)]⟩ → K4 s := by
  intro l8 hq s hw
  subst o9
  try dsimp only at h0
  refine hK4 _ (AW.weaken hw (zr tb rfl rfl ?_))
  replace h0 := Sh.some_eq h0
  subst r
  exact AW.ret (xr (Wk.to (L := [(2, (ow 0 0 l8))]) ⟨.rfl, trivial⟩))
 refine AW.block (AW.loopF (σ := Int × (List Block)) (fun n v => laws_toBlockS_L1 p0 rec_laws_toBlock n v.1 v.2 = some o9) (fun (i6, l7) => ⟨23, envL [(0, (ls eBlock p0)), (3, (ow 0 0 l7)), (4, (i64 i6))], [(ro 0 55 2 eBlock l7)]⟩) N (0, l3) h1 (Wk.tr rfl) (fun _ hv => by rw [laws_toBlockS_L1] at hv; cases hv) ?_)
 rintro n ⟨i6, l7⟩ h1
 try dsimp only at h1 ⊢
 rw [laws_toBlockS_L1] at h1
 refine AW.seq fun K11 hK11 => sr rfl fun K12 hK12 => zm tb 2 rfl (zl tb rfl rfl (zq tb rfl (dn hK12 rfl ?_)))
 refine ci h1 rfl ?_ ?_ <;> clear h1
 ·intro b13 h1
  refine AW.skip (hK11 _ (AW.seq fun K14 hK14 => AW.block (AW.regionO rfl (zm tb 4 rfl (bs h1 fun c15 gc15 h1 => zx ei209 gc15 rfl rfl rfl (zq tb rfl (bs h1 fun q16 gq16 h1 => zc (v' := (.agg [(ls eStep q16.steps), (i64 q16.result)])) hb122 (hrec_laws_toBlock gq16) rfl rfl rfl (bs h1 fun c17 gc17 h1 => zz (.ptr 0 0 (Int.toNat i6) 0) (aq_ixo ei69 rfl rfl rfl rfl gc17) rfl ?_))))))))
  refine ao_stl (st' := [(ro 0 55 2 eBlock (Sh.put l7 i6 q16))]) (u' := q16) go0 ti55 rfl rfl gc17 rfl rfl rfl (show 0 + 2 ≤ 2 by decide) rfl rfl (dn hK14 rfl (AW.regionO rfl (zm tb 3 rfl ?_)))
  exact AO.done (xi (Sh.w (i6 + 1), Sh.put l7 i6 q16) h1 (Wk.to (L := [(0, (.sl (List.map eBlock p0))), (3, (.own 0 0 (List.length (Sh.put l7 i6 q16)))), (4, (i64 (Sh.w (i6 + 1))))]) ⟨.rfl, (.len (by simp only [Sh.put_len])), .rfl, trivial⟩))
 ·intro b13 h1
  exact AW.exit (M9 l7 (Sh.some_eq h1).symm _ (Wk.tr rfl))
noncomputable abbrev wB1 (p0 : Step) : Go.Abs.Row := ⟨0, 211, 5, [[(i64 p0.op), (i64 p0.num), (i64 p0.into), (ls eI p0.args), (ls eBlock p0.kids)]]⟩
noncomputable abbrev wB2 : Go.Abs.Row := ⟨0, 71, 5, [[(i64 0), (i64 0), (i64 0), .zc, .zc]]⟩
noncomputable abbrev wB3 (p0 : Step) (q7 : (List Int)) (q9 : (List Block)) : Go.Abs.Row := ⟨0, 71, 5, [[(i64 p0.op), (i64 p0.num), (i64 p0.into), (ls eI q7), (ls eBlock q9)]]⟩
noncomputable abbrev wB4 (p0 : Step) (q7 : (List Int)) : Go.Abs.Row := ⟨0, 71, 5, [[(i64 p0.op), (i64 p0.num), (i64 p0.into), (ls eI q7), .zc]]⟩
noncomputable abbrev wB5 (p0 : Step) : Go.Abs.Row := ⟨0, 71, 5, [[(i64 p0.op), (i64 p0.num), (i64 p0.into), .zc, .zc]]⟩
theorem laws_toStep_ok {N : Nat} {rec_laws_toBlock : Block → Option (Block)} (hrec_laws_toBlock : ∀ {p0 : Block} {r : Block}, rec_laws_toBlock p0 = some r → ACalls Tryz.prog 122 [(.agg [(ls eStep p0.steps), (i64 p0.result)])] [] (fun v st => v = (.agg [(ls eStep r.steps), (i64 r.result)]) ∧ st = [])) {p0 : Step} {r : Step} (h0 : laws_toStep N rec_laws_toBlock p0 = some r) : ACalls Tryz.prog 209 [(.agg [(i64 p0.op), (i64 p0.num), (i64 p0.into), (ls eI p0.args), (ls eBlock p0.kids)])] [] (fun v st => v = (.agg [(i64 r.op), (i64 r.num), (i64 r.into), (ls eI r.args), (ls eBlock r.kids)]) ∧ st = []) := by
 unfold laws_toStep at h0
 refine ACalls.flat rfl (ai Tryz.func209 rfl rfl rfl rfl (sr rfl fun K1 hK1 => ao_box (m := 0) (st' := [(wB1 p0)]) go0 rfl rfl rfl rfl rfl (ao_alloc (m := 1) (st' := [(wB1 p0), wB2]) go0 zi71 rfl rfl (dn hK1 rfl (sr rfl fun K2 hK2 => ao_alloc (m := 2) (st' := [(wB1 p0), wB2, wB2]) go0 zi71 rfl rfl (dn hK2 rfl (sr rfl fun K3 hK3 => zm tb 3 rfl (ao_str (st' := [(wB1 p0), wB2, ⟨0, 71, 5, [[(i64 p0.op), (i64 0), (i64 0), .zc, .zc]]⟩]) go0 ti3 rfl rfl rfl rfl rfl rfl (show 0 + 1 ≤ 5 by decide) rfl ?_))))))))
 refine dn hK3 rfl (sr rfl fun K4 hK4 => zm tb 3 rfl (ao_str (st' := [(wB1 p0), wB2, ⟨0, 71, 5, [[(i64 p0.op), (i64 p0.num), (i64 0), .zc, .zc]]⟩]) go0 ti3 rfl rfl rfl rfl rfl rfl (show 1 + 1 ≤ 5 by decide) rfl (dn hK4 rfl (sr rfl fun K5 hK5 => zm tb 3 rfl (ao_str (st' := [(wB1 p0), wB2, (wB5 p0)]) go0 ti3 rfl rfl rfl rfl rfl rfl (show 2 + 1 ≤ 5 by decide) rfl (dn hK5 rfl (sr rfl fun K6 hK6 => zm tb 2 rfl (bs h0 fun q7 gq7 h0 => ?_))))))))
 refine ao_call (v' := (ow 3 0 q7)) (st' := [(wB1 p0), wB2, (wB5 p0), (ro 0 3 1 eI q7)]) go0 hb121 (laws_toIntS_ok gq7) rfl rfl ⟨(pure_map' fun _ => rfl), trivial⟩ rfl rfl (zq tb rfl (AO.weaken (Wk.frz (L := [(1, (.ptr 0 0 0 0)), (2, (.ptr 1 0 0 0)), (3, (.ptr 2 0 0 0)), (15, (ls eI q7)), (16, (.ptr 2 0 0 3))]) (st' := [(wB1 p0), wB2, (wB5 p0), ⟨1, 3, 1, []⟩]) (id := 3) rfl (show 0 ≤ 3 by decide) (pure_map fun _ => rfl) ⟨.rfl, .rfl, .rfl, (.frz rfl), .rfl, trivial⟩ rfl) (ao_str (st' := [(wB1 p0), wB2, (wB4 p0 q7), ⟨1, 3, 1, []⟩]) go0 ti37 rfl rfl rfl rfl rfl rfl (show 3 + 1 ≤ 5 by decide) rfl (dn hK6 rfl (sr rfl fun K8 hK8 => zm tb 2 rfl (bs h0 fun q9 gq9 h0 => ao_call (v' := (ow 4 0 q9)) (st' := [(wB1 p0), wB2, (wB4 p0 q7), ⟨1, 3, 1, []⟩, (ro 0 55 2 eBlock q9)]) go0 hb230 (laws_toBlockS_ok hrec_laws_toBlock gq9) rfl rfl ⟨(pure_map' fun _ => rfl), trivial⟩ rfl rfl (zq tb rfl (AO.weaken (Wk.frz (L := [(2, (.ptr 1 0 0 0)), (3, (.ptr 2 0 0 0)), (19, (ls eBlock q9)), (20, (.ptr 2 0 0 4))]) (st' := [(wB1 p0), wB2, (wB4 p0 q7), ⟨1, 3, 1, []⟩, ⟨1, 55, 2, []⟩]) (id := 4) rfl (show 0 ≤ 4 by decide) (pure_map fun _ => rfl) ⟨.rfl, .rfl, (.frz rfl), .rfl, trivial⟩ rfl) (ao_str (st' := [(wB1 p0), wB2, (wB3 p0 q7 q9), ⟨1, 3, 1, []⟩, ⟨1, 55, 2, []⟩]) go0 ti69 rfl rfl rfl rfl rfl rfl (show 4 + 1 ≤ 5 by decide) rfl ?_)))))))))
 refine dn hK8 rfl (sr rfl fun K10 hK10 => zq tb rfl (ao_str (st' := [(wB1 p0), (wB3 p0 q7 q9), (wB3 p0 q7 q9), ⟨1, 3, 1, []⟩, ⟨1, 55, 2, []⟩]) go0 ti71 rfl rfl rfl rfl rfl rfl (show 0 + 5 ≤ 5 by decide) rfl (dn hK10 rfl ?_)))
 replace h0 := Sh.some_eq h0
 subst r
 exact AW.ret (Exists.intro _ (And.intro (Wk.refl _ _) (aq_ldpa (x := .tmp 2) (off := 0) (cs := [(i64 p0.op), (i64 p0.num), (i64 p0.into), (ls eI q7), (ls eBlock q9)]) (vs := [(i64 p0.op), (i64 p0.num), (i64 p0.into), (ls eI q7), (ls eBlock q9)]) ti71 rfl rfl rfl (show 0 + 5 ≤ 5 by decide) rfl _ rfl)))
theorem laws_toStepS_ok {N : Nat} {rec_laws_toBlock : Block → Option (Block)} (hrec_laws_toBlock : ∀ {p0 : Block} {r : Block}, rec_laws_toBlock p0 = some r → ACalls Tryz.prog 122 [(.agg [(ls eStep p0.steps), (i64 p0.result)])] [] (fun v st => v = (.agg [(ls eStep r.steps), (i64 r.result)]) ∧ st = [])) {p0 : (List Step)} {r : (List Step)} (h0 : laws_toStepS N rec_laws_toBlock p0 = some r) : ACalls Tryz.prog 178 [(ls eStep p0)] [] (fun v st => v = (ow 0 0 r) ∧ st = [(ro 0 71 5 eStep r)]) := by
 unfold laws_toStepS at h0
 refine ai Tryz.func178 rfl rfl rfl rfl (zr tb rfl rfl (sr rfl fun K2 hK2 => zq tb rfl (zl tb rfl rfl (bs h0 fun l3 gl3 h0 => ao_make (m := 0) (st' := [(ro 0 71 5 eStep l3)]) (enc := eStep) (u := (Step.mk 0 0 0 [] [])) go0 ei53 rfl rfl (eStep_eq _) gl3 rfl rfl (zq tb rfl (dn hK2 rfl (AW.seq fun K4 hK4 => zr tb rfl rfl (bs h0 fun o9 h1 h0 => ?_))))))))
 have M9 : ∀ (l8 : (List Step)), o9 = l8 → ∀ s, Wk 0 s ⟨23, envL [(3, (ow 0 0 l8))], [(ro 0 71 5 eStep l8)]⟩ → K4 s := by
  intro l8 hq s hw
  subst o9
  try dsimp only at h0
  refine hK4 _ (AW.weaken hw (zr tb rfl rfl ?_))
  replace h0 := Sh.some_eq h0
  subst r
  exact AW.ret (xr (Wk.to (L := [(2, (ow 0 0 l8))]) ⟨.rfl, trivial⟩))
 refine AW.block (AW.loopF (σ := Int × (List Step)) (fun n v => laws_toStepS_L1 N p0 rec_laws_toBlock n v.1 v.2 = some o9) (fun (i6, l7) => ⟨23, envL [(0, (ls eStep p0)), (3, (ow 0 0 l7)), (4, (i64 i6))], [(ro 0 71 5 eStep l7)]⟩) N (0, l3) h1 (Wk.tr rfl) (fun _ hv => by rw [laws_toStepS_L1] at hv; cases hv) ?_)
 rintro n ⟨i6, l7⟩ h1
 try dsimp only at h1 ⊢
 rw [laws_toStepS_L1] at h1
 refine AW.seq fun K11 hK11 => sr rfl fun K12 hK12 => zm tb 2 rfl (zl tb rfl rfl (zq tb rfl (dn hK12 rfl ?_)))
 refine ci h1 rfl ?_ ?_ <;> clear h1
 ·intro b13 h1
  refine AW.skip (hK11 _ (AW.seq fun K14 hK14 => AW.block (AW.regionO rfl (zm tb 4 rfl (bs h1 fun c15 gc15 h1 => zz (.iptr [(i64 c15.op), (i64 c15.num), (i64 c15.into), (ls eI c15.args), (ls eBlock c15.kids)] 0) (aq_ixsE ei85 rfl rfl gc15 (eStep_eq _) rfl) rfl (zq tb rfl (bs h1 fun q16 gq16 h1 => zc (v' := (.agg [(i64 q16.op), (i64 q16.num), (i64 q16.into), (ls eI q16.args), (ls eBlock q16.kids)])) hb209 (laws_toStep_ok hrec_laws_toBlock gq16) rfl rfl rfl (bs h1 fun c17 gc17 h1 => zz (.ptr 0 0 (Int.toNat i6) 0) (aq_ixo ei53 rfl rfl rfl rfl gc17) rfl ?_))))))))
  refine ao_stl (st' := [(ro 0 71 5 eStep (Sh.put l7 i6 q16))]) (u' := q16) go0 ti71 rfl rfl gc17 rfl rfl rfl (show 0 + 5 ≤ 5 by decide) (by rw [eStep_eq, eStep_eq]; rfl) rfl ?_
  refine dn hK14 rfl (AW.regionO rfl (zm tb 3 rfl ?_))
  exact AO.done (xi (Sh.w (i6 + 1), Sh.put l7 i6 q16) h1 (Wk.to (L := [(0, (.sl (List.map eStep p0))), (3, (.own 0 0 (List.length (Sh.put l7 i6 q16)))), (4, (i64 (Sh.w (i6 + 1))))]) ⟨.rfl, (.len (by simp only [Sh.put_len])), .rfl, trivial⟩))
 ·intro b13 h1
  exact AW.exit (M9 l7 (Sh.some_eq h1).symm _ (Wk.tr rfl))
noncomputable abbrev wB6 (p0 : Block) : Go.Abs.Row := ⟨0, 87, 2, [[(ls eStep p0.steps), (i64 p0.result)]]⟩
theorem laws_toBlock_B_ok {N : Nat} {rec_laws_toBlock : Block → Option (Block)} (hrec_laws_toBlock : ∀ {p0 : Block} {r : Block}, rec_laws_toBlock p0 = some r → ACalls Tryz.prog 122 [(.agg [(ls eStep p0.steps), (i64 p0.result)])] [] (fun v st => v = (.agg [(ls eStep r.steps), (i64 r.result)]) ∧ st = [])) {p0 : Block} {r : Block} (h0 : laws_toBlock_B N rec_laws_toBlock p0 = some r) : ACalls Tryz.prog 122 [(.agg [(ls eStep p0.steps), (i64 p0.result)])] [] (fun v st => v = (.agg [(ls eStep r.steps), (i64 r.result)]) ∧ st = []) := by
 unfold laws_toBlock_B at h0
 refine ACalls.flat rfl (ai Tryz.func122 rfl rfl rfl rfl (sr rfl fun K1 hK1 => ao_box (m := 0) (st' := [(wB6 p0)]) go0 rfl rfl rfl rfl rfl (ao_alloc (m := 1) (st' := [(wB6 p0), ⟨0, 55, 2, [[.zc, (i64 0)]]⟩]) go0 zi55 rfl rfl (dn hK1 rfl (sr rfl fun K2 hK2 => ao_alloc (m := 2) (st' := [(wB6 p0), ⟨0, 55, 2, [[.zc, (i64 0)]]⟩, ⟨0, 55, 2, [[.zc, (i64 0)]]⟩]) go0 zi55 rfl rfl (dn hK2 rfl (sr rfl fun K3 hK3 => zm tb 2 rfl (bs h0 fun q4 gq4 h0 => ?_))))))))
 refine ao_call (v' := (ow 3 0 q4)) (st' := [(wB6 p0), ⟨0, 55, 2, [[.zc, (i64 0)]]⟩, ⟨0, 55, 2, [[.zc, (i64 0)]]⟩, (ro 0 71 5 eStep q4)]) go0 hb178 (laws_toStepS_ok hrec_laws_toBlock gq4) rfl rfl ⟨(pure_map' eStep_pure), trivial⟩ rfl rfl (zq tb rfl (AO.weaken (Wk.frz (L := [(1, (.ptr 0 0 0 0)), (2, (.ptr 1 0 0 0)), (3, (.ptr 2 0 0 0)), (6, (ls eStep q4)), (7, (.ptr 2 0 0 0))]) (st' := [(wB6 p0), ⟨0, 55, 2, [[.zc, (i64 0)]]⟩, ⟨0, 55, 2, [[.zc, (i64 0)]]⟩, ⟨1, 71, 5, []⟩]) (id := 3) rfl (show 0 ≤ 3 by decide) (pure_map eStep_pure) ⟨.rfl, .rfl, .rfl, (.frz rfl), .rfl, trivial⟩ rfl) (ao_str (st' := [(wB6 p0), ⟨0, 55, 2, [[.zc, (i64 0)]]⟩, ⟨0, 55, 2, [[(ls eStep q4), (i64 0)]]⟩, ⟨1, 71, 5, []⟩]) go0 ti53 rfl rfl rfl rfl rfl rfl (show 0 + 1 ≤ 2 by decide) rfl (dn hK3 rfl (sr rfl fun K5 hK5 => zm tb 3 rfl (ao_str (st' := [(wB6 p0), ⟨0, 55, 2, [[.zc, (i64 0)]]⟩, ⟨0, 55, 2, [[(ls eStep q4), (i64 p0.result)]]⟩, ⟨1, 71, 5, []⟩]) go0 ti3 rfl rfl rfl rfl rfl rfl (show 1 + 1 ≤ 2 by decide) rfl (dn hK5 rfl (sr rfl fun K6 hK6 => zq tb rfl (ao_str (st' := [(wB6 p0), ⟨0, 55, 2, [[(ls eStep q4), (i64 p0.result)]]⟩, ⟨0, 55, 2, [[(ls eStep q4), (i64 p0.result)]]⟩, ⟨1, 71, 5, []⟩]) go0 ti55 rfl rfl rfl rfl rfl rfl (show 0 + 2 ≤ 2 by decide) rfl ?_)))))))))
 refine dn hK6 rfl ?_
 replace h0 := Sh.some_eq h0
 subst r
 exact AW.ret (Exists.intro _ (And.intro (Wk.refl _ _) (aq_ldpa (x := .tmp 2) (off := 0) (cs := [(ls eStep q4), (i64 p0.result)]) (vs := [(ls eStep q4), (i64 p0.result)]) ti55 rfl rfl rfl (show 0 + 2 ≤ 2 by decide) rfl _ rfl)))

theorem laws_toBlock_F_ok {N : Nat} : ∀ (n : Nat), ∀ {p0 : Block} {r : Block}, laws_toBlock_F N n p0 = some r → ACalls Tryz.prog 122 [(.agg [(ls eStep p0.steps), (i64 p0.result)])] [] (fun v st => v = (.agg [(ls eStep r.steps), (i64 r.result)]) ∧ st = []) := by
 intro n
 induction n with
 | zero => intro p0 r h0; cases h0
 | succ n ih =>
  intro p0 r h0
  rw [laws_toBlock_F] at h0
  exact laws_toBlock_B_ok (fun h => ih h) h0
theorem laws_toBlock_ok {N : Nat} : ∀ {p0 : Block} {r : Block}, laws_toBlock N p0 = some r → ACalls Tryz.prog 122 [(.agg [(ls eStep p0.steps), (i64 p0.result)])] [] (fun v st => v = (.agg [(ls eStep r.steps), (i64 r.result)]) ∧ st = []) := by
 intro p0 r h0
 exact laws_toBlock_F_ok N h0
noncomputable abbrev wB7 (p0 : RRoutine) : Go.Abs.Row := ⟨0, 89, 5, [[(ls eI p0.params), (ls eI p0.lent), (i64 p0.result), (ls eStep p0.body.steps), (i64 p0.body.result)]]⟩
noncomputable abbrev wB8 : Go.Abs.Row := ⟨0, 57, 5, [[.zc, .zc, (i64 0), .zc, (i64 0)]]⟩
noncomputable abbrev wB9 (q4 : (List Int)) : Go.Abs.Row := ⟨0, 57, 5, [[(ls eI q4), .zc, (i64 0), .zc, (i64 0)]]⟩
theorem laws_toRoutine_ok {N : Nat} {p0 : RRoutine} {r : RRoutine} (h0 : laws_toRoutine N p0 = some r) : ACalls Tryz.prog 73 [(.agg [(ls eI p0.params), (ls eI p0.lent), (i64 p0.result), (ls eStep p0.body.steps), (i64 p0.body.result)])] [] (fun v st => v = (.agg [(ls eI r.params), (ls eI r.lent), (i64 r.result), (ls eStep r.body.steps), (i64 r.body.result)]) ∧ st = []) := by
 unfold laws_toRoutine at h0
 refine ACalls.flat rfl (ai Tryz.func73 rfl rfl rfl rfl (sr rfl fun K1 hK1 => ao_box (m := 0) (st' := [(wB7 p0)]) go0 rfl rfl rfl rfl rfl (ao_alloc (m := 1) (st' := [(wB7 p0), wB8]) go0 zi57 rfl rfl (dn hK1 rfl (sr rfl fun K2 hK2 => ao_alloc (m := 2) (st' := [(wB7 p0), wB8, wB8]) go0 zi57 rfl rfl (dn hK2 rfl (sr rfl fun K3 hK3 => zm tb 2 rfl (bs h0 fun q4 gq4 h0 => ?_))))))))
 refine ao_call (v' := (ow 3 0 q4)) (st' := [(wB7 p0), wB8, wB8, (ro 0 3 1 eI q4)]) go0 hb121 (laws_toIntS_ok gq4) rfl rfl ⟨(pure_map' fun _ => rfl), trivial⟩ rfl rfl (zq tb rfl (AO.weaken (Wk.frz (L := [(1, (.ptr 0 0 0 0)), (2, (.ptr 1 0 0 0)), (3, (.ptr 2 0 0 0)), (6, (ls eI q4)), (7, (.ptr 2 0 0 0))]) (st' := [(wB7 p0), wB8, wB8, ⟨1, 3, 1, []⟩]) (id := 3) rfl (show 0 ≤ 3 by decide) (pure_map fun _ => rfl) ⟨.rfl, .rfl, .rfl, (.frz rfl), .rfl, trivial⟩ rfl) (ao_str (st' := [(wB7 p0), wB8, (wB9 q4), ⟨1, 3, 1, []⟩]) go0 ti37 rfl rfl rfl rfl rfl rfl (show 0 + 1 ≤ 5 by decide) rfl (dn hK3 rfl (sr rfl fun K5 hK5 => zm tb 2 rfl (bs h0 fun q6 gq6 h0 => ao_call (v' := (ow 4 0 q6)) (st' := [(wB7 p0), wB8, (wB9 q4), ⟨1, 3, 1, []⟩, (ro 0 3 1 eI q6)]) go0 hb121 (laws_toIntS_ok gq6) rfl rfl ⟨(pure_map' fun _ => rfl), trivial⟩ rfl rfl (zq tb rfl (AO.weaken (Wk.frz (L := [(1, (.ptr 0 0 0 0)), (2, (.ptr 1 0 0 0)), (3, (.ptr 2 0 0 0)), (10, (ls eI q6)), (11, (.ptr 2 0 0 1))]) (st' := [(wB7 p0), wB8, (wB9 q4), ⟨1, 3, 1, []⟩, ⟨1, 3, 1, []⟩]) (id := 4) rfl (show 0 ≤ 4 by decide) (pure_map fun _ => rfl) ⟨.rfl, .rfl, .rfl, (.frz rfl), .rfl, trivial⟩ rfl) (ao_str (st' := [(wB7 p0), wB8, ⟨0, 57, 5, [[(ls eI q4), (ls eI q6), (i64 0), .zc, (i64 0)]]⟩, ⟨1, 3, 1, []⟩, ⟨1, 3, 1, []⟩]) go0 ti37 rfl rfl rfl rfl rfl rfl (show 1 + 1 ≤ 5 by decide) rfl ?_)))))))))
 refine dn hK5 rfl (sr rfl fun K7 hK7 => zm tb 3 rfl (ao_str (st' := [(wB7 p0), wB8, ⟨0, 57, 5, [[(ls eI q4), (ls eI q6), (i64 p0.result), .zc, (i64 0)]]⟩, ⟨1, 3, 1, []⟩, ⟨1, 3, 1, []⟩]) go0 ti3 rfl rfl rfl rfl rfl rfl (show 2 + 1 ≤ 5 by decide) rfl (dn hK7 rfl (sr rfl fun K8 hK8 => zm tb 2 rfl (bs h0 fun q9 gq9 h0 => zc (v' := (.agg [(ls eStep q9.steps), (i64 q9.result)])) hb122 (laws_toBlock_ok gq9) rfl rfl rfl (zq tb rfl (ao_str (st' := [(wB7 p0), wB8, ⟨0, 57, 5, [[(ls eI q4), (ls eI q6), (i64 p0.result), (ls eStep q9.steps), (i64 q9.result)]]⟩, ⟨1, 3, 1, []⟩, ⟨1, 3, 1, []⟩]) go0 ti55 rfl rfl rfl rfl rfl rfl (show 3 + 2 ≤ 5 by decide) rfl (dn hK8 rfl ?_))))))))
 refine sr rfl fun K10 hK10 => zq tb rfl (ao_str (st' := [(wB7 p0), ⟨0, 57, 5, [[(ls eI q4), (ls eI q6), (i64 p0.result), (ls eStep q9.steps), (i64 q9.result)]]⟩, ⟨0, 57, 5, [[(ls eI q4), (ls eI q6), (i64 p0.result), (ls eStep q9.steps), (i64 q9.result)]]⟩, ⟨1, 3, 1, []⟩, ⟨1, 3, 1, []⟩]) go0 ti57 rfl rfl rfl rfl rfl rfl (show 0 + 5 ≤ 5 by decide) rfl (dn hK10 rfl ?_))
 replace h0 := Sh.some_eq h0
 subst r
 exact AW.ret (Exists.intro _ (And.intro (Wk.refl _ _) (aq_ldpa (x := .tmp 2) (off := 0) (cs := [(ls eI q4), (ls eI q6), (i64 p0.result), (ls eStep q9.steps), (i64 q9.result)]) (vs := [(ls eI q4), (ls eI q6), (i64 p0.result), (ls eStep q9.steps), (i64 q9.result)]) ti57 rfl rfl rfl (show 0 + 5 ≤ 5 by decide) rfl _ rfl)))
theorem laws_toRoutineS_ok {N : Nat} {p0 : (List RRoutine)} {r : (List RRoutine)} (h0 : laws_toRoutineS N p0 = some r) : ACalls Tryz.prog 32 [(ls eRRoutine p0)] [] (fun v st => v = (ow 0 0 r) ∧ st = [(ro 0 57 5 eRRoutine r)]) := by
 unfold laws_toRoutineS at h0
 refine ai Tryz.func32 rfl rfl rfl rfl (zr tb rfl rfl (sr rfl fun K2 hK2 => zq tb rfl (zl tb rfl rfl (bs h0 fun l3 gl3 h0 => ao_make (m := 0) (st' := [(ro 0 57 5 eRRoutine l3)]) (enc := eRRoutine) (u := (RRoutine.mk [] [] 0 (Block.mk [] 0))) go0 ei28 rfl rfl rfl gl3 rfl rfl (zq tb rfl (dn hK2 rfl (AW.seq fun K4 hK4 => zr tb rfl rfl (bs h0 fun o9 h1 h0 => ?_))))))))
 have M9 : ∀ (l8 : (List RRoutine)), o9 = l8 → ∀ s, Wk 0 s ⟨23, envL [(3, (ow 0 0 l8))], [(ro 0 57 5 eRRoutine l8)]⟩ → K4 s := by
  intro l8 hq s hw
  subst o9
  try dsimp only at h0
  refine hK4 _ (AW.weaken hw (zr tb rfl rfl ?_))
  replace h0 := Sh.some_eq h0
  subst r
  exact AW.ret (xr (Wk.to (L := [(2, (ow 0 0 l8))]) ⟨.rfl, trivial⟩))
 refine AW.block (AW.loopF (σ := Int × (List RRoutine)) (fun n v => laws_toRoutineS_L1 N p0 n v.1 v.2 = some o9) (fun (i6, l7) => ⟨23, envL [(0, (ls eRRoutine p0)), (3, (ow 0 0 l7)), (4, (i64 i6))], [(ro 0 57 5 eRRoutine l7)]⟩) N (0, l3) h1 (Wk.tr rfl) (fun _ hv => by rw [laws_toRoutineS_L1] at hv; cases hv) ?_)
 rintro n ⟨i6, l7⟩ h1
 try dsimp only at h1 ⊢
 rw [laws_toRoutineS_L1] at h1
 refine AW.seq fun K11 hK11 => sr rfl fun K12 hK12 => zm tb 2 rfl (zl tb rfl rfl (zq tb rfl (dn hK12 rfl ?_)))
 refine ci h1 rfl ?_ ?_ <;> clear h1
 ·intro b13 h1
  refine AW.skip (hK11 _ (AW.seq fun K14 hK14 => AW.block (AW.regionO rfl (zm tb 4 rfl (bs h1 fun c15 gc15 h1 => zx ei23 gc15 rfl rfl rfl (zq tb rfl (bs h1 fun q16 gq16 h1 => zc (v' := (.agg [(ls eI q16.params), (ls eI q16.lent), (i64 q16.result), (ls eStep q16.body.steps), (i64 q16.body.result)])) hb73 (laws_toRoutine_ok gq16) rfl rfl rfl (bs h1 fun c17 gc17 h1 => zz (.ptr 0 0 (Int.toNat i6) 0) (aq_ixo ei28 rfl rfl rfl rfl gc17) rfl ?_))))))))
  refine ao_stl (st' := [(ro 0 57 5 eRRoutine (Sh.put l7 i6 q16))]) (u' := q16) go0 ti57 rfl rfl gc17 rfl rfl rfl (show 0 + 5 ≤ 5 by decide) rfl rfl (dn hK14 rfl (AW.regionO rfl (zm tb 3 rfl ?_)))
  exact AO.done (xi (Sh.w (i6 + 1), Sh.put l7 i6 q16) h1 (Wk.to (L := [(0, (.sl (List.map eRRoutine p0))), (3, (.own 0 0 (List.length (Sh.put l7 i6 q16)))), (4, (i64 (Sh.w (i6 + 1))))]) ⟨.rfl, (.len (by simp only [Sh.put_len])), .rfl, trivial⟩))
 ·intro b13 h1
  exact AW.exit (M9 l7 (Sh.some_eq h1).symm _ (Wk.tr rfl))
noncomputable abbrev wB10 (p0 : RNormal) : Go.Abs.Row := ⟨0, 25, 2, [[(ls eRDecl p0.decls), (ls eRRoutine p0.routines)]]⟩
theorem laws_toNormal_ok {N : Nat} {p0 : RNormal} {r : RNormal} (h0 : laws_toNormal N p0 = some r) : ACalls Tryz.prog 10 [(.agg [(ls eRDecl p0.decls), (ls eRRoutine p0.routines)])] [] (fun v st => v = (.agg [(ls eRDecl r.decls), (ls eRRoutine r.routines)]) ∧ st = []) := by
 unfold laws_toNormal at h0
 refine ACalls.flat rfl (ai Tryz.func10 rfl rfl rfl rfl (sr rfl fun K1 hK1 => ao_box (m := 0) (st' := [(wB10 p0)]) go0 rfl rfl rfl rfl rfl (ao_alloc (m := 1) (st' := [(wB10 p0), ⟨0, 30, 2, [[.zc, .zc]]⟩]) go0 zi30 rfl rfl (dn hK1 rfl (sr rfl fun K2 hK2 => ao_alloc (m := 2) (st' := [(wB10 p0), ⟨0, 30, 2, [[.zc, .zc]]⟩, ⟨0, 30, 2, [[.zc, .zc]]⟩]) go0 zi30 rfl rfl (dn hK2 rfl (sr rfl fun K3 hK3 => zm tb 2 rfl (bs h0 fun q4 gq4 h0 => ?_))))))))
 refine ao_call (v' := (ow 3 0 q4)) (st' := [(wB10 p0), ⟨0, 30, 2, [[.zc, .zc]]⟩, ⟨0, 30, 2, [[.zc, .zc]]⟩, (ro 0 98 3 eRDecl q4)]) go0 hb31 (laws_toDeclS_ok gq4) rfl rfl ⟨(pure_map' fun _ => rfl), trivial⟩ rfl rfl (zq tb rfl (AO.weaken (Wk.frz (L := [(1, (.ptr 0 0 0 0)), (2, (.ptr 1 0 0 0)), (3, (.ptr 2 0 0 0)), (6, (ls eRDecl q4)), (7, (.ptr 2 0 0 0))]) (st' := [(wB10 p0), ⟨0, 30, 2, [[.zc, .zc]]⟩, ⟨0, 30, 2, [[.zc, .zc]]⟩, ⟨1, 98, 3, []⟩]) (id := 3) rfl (show 0 ≤ 3 by decide) (pure_map fun _ => rfl) ⟨.rfl, .rfl, .rfl, (.frz rfl), .rfl, trivial⟩ rfl) (ao_str (st' := [(wB10 p0), ⟨0, 30, 2, [[.zc, .zc]]⟩, ⟨0, 30, 2, [[(ls eRDecl q4), .zc]]⟩, ⟨1, 98, 3, []⟩]) go0 ti27 rfl rfl rfl rfl rfl rfl (show 0 + 1 ≤ 2 by decide) rfl (dn hK3 rfl (sr rfl fun K5 hK5 => zm tb 2 rfl (bs h0 fun q6 gq6 h0 => ao_call (v' := (ow 4 0 q6)) (st' := [(wB10 p0), ⟨0, 30, 2, [[.zc, .zc]]⟩, ⟨0, 30, 2, [[(ls eRDecl q4), .zc]]⟩, ⟨1, 98, 3, []⟩, (ro 0 57 5 eRRoutine q6)]) go0 hb32 (laws_toRoutineS_ok gq6) rfl rfl ⟨(pure_map' fun _ => rfl), trivial⟩ rfl rfl (zq tb rfl (AO.weaken (Wk.frz (L := [(2, (.ptr 1 0 0 0)), (3, (.ptr 2 0 0 0)), (10, (ls eRRoutine q6)), (11, (.ptr 2 0 0 1))]) (st' := [(wB10 p0), ⟨0, 30, 2, [[.zc, .zc]]⟩, ⟨0, 30, 2, [[(ls eRDecl q4), .zc]]⟩, ⟨1, 98, 3, []⟩, ⟨1, 57, 5, []⟩]) (id := 4) rfl (show 0 ≤ 4 by decide) (pure_map fun _ => rfl) ⟨.rfl, .rfl, (.frz rfl), .rfl, trivial⟩ rfl) (ao_str (st' := [(wB10 p0), ⟨0, 30, 2, [[.zc, .zc]]⟩, ⟨0, 30, 2, [[(ls eRDecl q4), (ls eRRoutine q6)]]⟩, ⟨1, 98, 3, []⟩, ⟨1, 57, 5, []⟩]) go0 ti28 rfl rfl rfl rfl rfl rfl (show 1 + 1 ≤ 2 by decide) rfl ?_)))))))))
 refine dn hK5 rfl (sr rfl fun K7 hK7 => zq tb rfl (ao_str (st' := [(wB10 p0), ⟨0, 30, 2, [[(ls eRDecl q4), (ls eRRoutine q6)]]⟩, ⟨0, 30, 2, [[(ls eRDecl q4), (ls eRRoutine q6)]]⟩, ⟨1, 98, 3, []⟩, ⟨1, 57, 5, []⟩]) go0 ti30 rfl rfl rfl rfl rfl rfl (show 0 + 2 ≤ 2 by decide) rfl (dn hK7 rfl ?_)))
 replace h0 := Sh.some_eq h0
 subst r
 exact AW.ret (Exists.intro _ (And.intro (Wk.refl _ _) (aq_ldpa (x := .tmp 2) (off := 0) (cs := [(ls eRDecl q4), (ls eRRoutine q6)]) (vs := [(ls eRDecl q4), (ls eRRoutine q6)]) ti30 rfl rfl rfl (show 0 + 2 ≤ 2 by decide) rfl _ rfl)))
noncomputable abbrev wB11 (p0 : RNormal) : Go.Abs.Row := ⟨0, 30, 2, [[(ls eRDecl p0.decls), (ls eRRoutine p0.routines)]]⟩
theorem spec_sigsOf_ok {N : Nat} {p0 : RNormal} {r : RProgram} (h0 : spec_sigsOf N p0 = some r) : ACalls Tryz.prog 155 [(.agg [(ls eRDecl p0.decls), (ls eRRoutine p0.routines)])] [] (fun v st => v = (.agg [(ls eRDecl r.decls), (ls eRFunc r.funcs)]) ∧ st = []) := by
 unfold spec_sigsOf at h0
 refine ACalls.flat rfl (ai Tryz.func155 rfl rfl rfl rfl (sr rfl fun K1 hK1 => ao_box (m := 0) (st' := [(wB11 p0)]) go0 rfl rfl rfl rfl rfl (ao_alloc (m := 1) (st' := [(wB11 p0), ⟨0, 170, 2, [[.zc, .zc]]⟩]) go0 zi170 rfl rfl (dn hK1 rfl (sr rfl fun K2 hK2 => zm tb 2 rfl ?_)))))
 refine ao_bs (m := 2) (st' := [(wB11 p0), ⟨0, 170, 2, [[.zc, .zc]]⟩, (ro 0 205 5 eRFunc ([] : List RFunc))]) (l := ([] : List RFunc)) (enc := eRFunc) go0 ei168 (by decide) rfl rfl rfl rfl rfl rfl ?_
 refine zz (.agg [(ls eRDecl p0.decls), (.own 2 0 (List.length ([] : List RFunc)))]) (aq_bd ai170 bi170 zi170 rfl rfl) rfl (ao_alloc (m := 3) (st' := [(wB11 p0), ⟨0, 170, 2, [[.zc, .zc]]⟩, (ro 0 205 5 eRFunc ([] : List RFunc)), ⟨0, 170, 2, [[.zc, .zc]]⟩]) go0 zi170 rfl rfl (ao_str (st' := [(wB11 p0), ⟨0, 170, 2, [[.zc, .zc]]⟩, (ro 0 205 5 eRFunc ([] : List RFunc)), ⟨0, 170, 2, [[(ls eRDecl p0.decls), (.own 2 0 (List.length ([] : List RFunc)))]]⟩]) go0 ti170 rfl rfl rfl rfl rfl rfl (show 0 + 2 ≤ 2 by decide) rfl (dn hK2 rfl (AW.seq fun K3 hK3 => zr tb rfl rfl (bs h0 fun o8 h1 h0 => ?_)))))
 have M8 : ∀ (l7 : (List RFunc)), o8 = l7 → ∀ s, Wk 0 s ⟨35, envL [(2, (.ptr 0 0 0 0)), (3, (.ptr 2 0 0 0))], [⟨0, 170, 2, [[.zc, .zc]]⟩, (ro 0 205 5 eRFunc l7), ⟨0, 170, 2, [[(ls eRDecl p0.decls), (ow 1 0 l7)]]⟩]⟩ → K3 s := by
  intro l7 hq s hw
  subst o8
  try dsimp only at h0
  refine hK3 _ (AW.weaken hw (sr rfl fun K9 hK9 => zq tb rfl (AO.weaken (Wk.frz (L := [(2, (.ptr 0 0 0 0)), (34, (.agg [(ls eRDecl p0.decls), (ls eRFunc l7)]))]) (st' := [⟨0, 170, 2, [[.zc, .zc]]⟩, ⟨1, 205, 5, []⟩, ⟨0, 170, 2, [[(ls eRDecl p0.decls), (ow 1 0 l7)]]⟩]) (id := 1) rfl (show 0 ≤ 1 by decide) (pure_map fun _ => rfl) ⟨.rfl, (.agg ⟨.rfl, (.frz1 rfl), trivial⟩), trivial⟩ rfl) (ao_str (st' := [⟨0, 170, 2, [[(ls eRDecl p0.decls), (ls eRFunc l7)]]⟩, ⟨1, 205, 5, []⟩, ⟨0, 170, 2, [[(ls eRDecl p0.decls), (ow 1 0 l7)]]⟩]) go0 ti170 rfl rfl rfl rfl rfl rfl (show 0 + 2 ≤ 2 by decide) rfl (dn hK9 rfl ?_)))))
  replace h0 := Sh.some_eq h0
  subst r
  exact AW.ret (Exists.intro _ (And.intro (Wk.refl _ _) (aq_ldpa (x := .tmp 2) (off := 0) (cs := [(ls eRDecl p0.decls), (ls eRFunc l7)]) (vs := [(ls eRDecl p0.decls), (ls eRFunc l7)]) ti170 rfl rfl rfl (show 0 + 2 ≤ 2 by decide) rfl _ rfl)))
 refine AW.block (AW.loopF (σ := Int × (List RFunc)) (fun n v => spec_sigsOf_L1 p0 n v.1 v.2 = some o8) (fun (i5, l6) => ⟨35, envL [(1, (.ptr 0 0 0 0)), (2, (.ptr 1 0 0 0)), (3, (.ptr 3 0 0 0)), (4, (i64 i5))], [(wB11 p0), ⟨0, 170, 2, [[.zc, .zc]]⟩, (ro 0 205 5 eRFunc l6), ⟨0, 170, 2, [[(ls eRDecl p0.decls), (ow 2 0 l6)]]⟩]⟩) N (0, []) h1 (Wk.tr rfl) (fun _ hv => by rw [spec_sigsOf_L1] at hv; cases hv) ?_)
 rintro n ⟨i5, l6⟩ h1
 try dsimp only at h1 ⊢
 rw [spec_sigsOf_L1] at h1
 refine AW.seq fun K10 hK10 => sr rfl fun K11 hK11 => zm tb 3 rfl (zl tb rfl rfl (zq tb rfl (dn hK11 rfl ?_)))
 refine ci h1 rfl ?_ ?_ <;> clear h1
 ·intro b12 h1
  refine AW.skip (hK10 _ (AW.seq fun K13 hK13 => AW.block ?_))
  refine AW.drawTailO 16 (by kernel_rfl) (by kernel_rfl) (by rfl) ?_
  iterate 5 refine yq tb rfl ?_
  refine bs h1 fun c14 gc14 h1 => yx ei28 gc14 rfl rfl rfl ?_
  iterate 5 refine yq tb rfl ?_
  refine yx ei28 gc14 rfl rfl rfl ?_
  iterate 2 refine yq tb rfl ?_
  refine yz (.agg [(ls eI c14.params), (i64 c14.result), (i64 0), (i64 0), .zc]) (aq_bd ai205 bi205 zi205 rfl rfl) rfl ?_
  refine d_bsz (l := ([(RFunc.mk c14.params c14.result (RExpr.mk 0 0 []))])) (enc := eRFunc) (pv' := [(0, (.agg [(ls eI c14.params), (i64 c14.result), (i64 0), (i64 0), (.sl (List.map eRExpr []))]))]) go0 ei168 (by decide) rfl rfl (.cons (le.agg ⟨le.rfl, le.rfl, le.rfl, le.rfl, le.zc, trivial⟩) .nil) rfl rfl rfl (pure_map fun _ => rfl) ?_
  exact d_done (bs h1 fun l15 gl15 h1 => ao_apo (st' := [(wB11 p0), ⟨0, 170, 2, [[.zc, .zc]]⟩, (ro 1 205 5 eRFunc l15), ⟨0, 170, 2, [[(ls eRDecl p0.decls), (ow 2 0 l6)]]⟩]) (l2 := ([(RFunc.mk c14.params c14.result (RExpr.mk 0 0 []))])) go0 ei168 rfl rfl rfl rfl el_s (fun _ => rfl) gl15 rfl (zq tb rfl (ao_str (st' := [(wB11 p0), ⟨0, 170, 2, [[.zc, .zc]]⟩, (ro 1 205 5 eRFunc l15), ⟨0, 170, 2, [[(ls eRDecl p0.decls), (ow 2 1 l15)]]⟩]) go0 ti168 rfl rfl rfl rfl rfl rfl (show 1 + 1 ≤ 2 by decide) rfl (dn hK13 rfl (AW.regionO rfl (zm tb 3 rfl (AO.done (xi (Sh.w (i5 + 1), l15) h1 (Wk.rg (L := [(1, (.ptr 0 0 0 0)), (2, (.ptr 1 0 0 0)), (3, (.ptr 3 0 0 0)), (4, (i64 (Sh.w (i5 + 1))))]) (st' := [(wB11 p0), ⟨0, 170, 2, [[.zc, .zc]]⟩, (ro 0 205 5 eRFunc l15), ⟨0, 170, 2, [[(ls eRDecl p0.decls), (ow 2 0 l15)]]⟩]) (.raw rfl rfl (.raw rfl rfl (.pure (pure_map fun _ => rfl) (.raw rfl rfl .nil)))) ⟨.rfl, .rfl, .rfl, .rfl, trivial⟩)))))))))
 ·intro b12 h1
  exact AW.exit (M8 l6 (Sh.some_eq h1).symm _ (Wk.permk (L := [(2, (.ptr 0 0 0 0)), (3, (.ptr 2 0 0 0))]) (st' := [⟨0, 170, 2, [[.zc, .zc]]⟩, (ro 0 205 5 eRFunc l6), ⟨0, 170, 2, [[(ls eRDecl p0.decls), (ow 1 0 l6)]]⟩]) (st1 := [⟨0, 170, 2, [[.zc, .zc]]⟩, (ro 0 205 5 eRFunc l6), ⟨0, 170, 2, [[(ls eRDecl p0.decls), (ow 2 0 l6)]]⟩]) [1, 2, 3] rfl .nil (by decide) rfl rfl (.raw rfl rfl (.pure (pure_map fun _ => rfl) (.raw rfl rfl .nil))) ⟨.rfl, .rfl, trivial⟩))
theorem spec_inRange_ok {p0 : Int} {p1 : Int} {p2 : Int} {r : Bool} (h0 : spec_inRange p0 p1 p2 = some r) : ACalls Tryz.prog 158 [(i64 p0), (i64 p1), (i64 p2)] [] (fun v st => v = (.bool r) ∧ st = []) := by
 unfold spec_inRange at h0
 refine ai Tryz.func158 rfl rfl rfl rfl (zr tb rfl rfl (AW.seq fun K2 hK2 => bs h0 fun o4 h1 h0 => ?_))
 have M4 : ∀ (t3 : Bool), o4 = t3 → ∀ s, Wk 0 s ⟨15, envL [(6, (.bool t3))], []⟩ → K2 s := by
  intro t3 hq s hw
  subst o4
  try dsimp only at h0
  refine hK2 _ (AW.weaken hw ?_)
  replace h0 := Sh.some_eq h0
  subst r
  exact AW.ret (xr (Wk.to (L := [(6, (.bool t3))]) ⟨.rfl, trivial⟩))
 refine AW.regionO rfl (zm tb 4 rfl ?_)
 rcases Sh.ite_some h1 with ⟨b5, h1⟩ | ⟨b5, h1⟩
 ·exact zg tb b5 rfl (zg tb b5 rfl (zg tb b5 rfl (zt b5 rfl (zq tb rfl (AO.done (M4 (decide (p0 ≤ p2)) (Sh.some_eq h1).symm _ (Wk.tr rfl)))))))
 ·exact zs b5 rfl (zs b5 rfl (zs b5 rfl (zf b5 rfl (zq tb rfl (AO.done (M4 false (Sh.some_eq h1).symm _ (Wk.tr rfl)))))))
theorem spec_allTypes_ok {N : Nat} {p0 : (List RDecl)} {p1 : (List Int)} {r : Bool} (h0 : spec_allTypes N p0 p1 = some r) : ACalls Tryz.prog 202 [(ls eRDecl p0), (ls eI p1)] [] (fun v st => v = (.bool r) ∧ st = []) := by
 unfold spec_allTypes at h0
 refine ai Tryz.func202 rfl rfl rfl rfl (zr tb rfl rfl (AW.seq fun K2 hK2 => zr tb rfl rfl ?_))
 obtain ⟨o5, h1, h0⟩ := Sh.cont_some h0
 have M5 : ∀ (_ : Unit), o5 = Sum.inr () → ∀ s, Wk 0 s ⟨20, envL [], []⟩ → K2 s := by
  intro _ hq s hw
  subst o5
  try dsimp only at h0
  refine hK2 _ (AW.weaken hw (zr tb rfl rfl ?_))
  replace h0 := Sh.some_eq h0
  subst r
  exact AW.ret (xr (Wk.to (L := [(4, (.bool true))]) ⟨.rfl, trivial⟩))
 refine AW.block (AW.loopF (σ := Int) (fun n v => spec_allTypes_L1 p0 p1 n v = some o5) (fun i4 => ⟨20, envL [(0, (ls eRDecl p0)), (1, (ls eI p1)), (5, (i64 i4))], []⟩) N 0 h1 (Wk.tr rfl) (fun _ hv => by rw [spec_allTypes_L1] at hv; cases hv) ?_)
 rintro n i4 h1
 try dsimp only at h1 ⊢
 rw [spec_allTypes_L1] at h1
 refine AW.seq fun K7 hK7 => sr rfl fun K8 hK8 => zm tb 2 rfl (zl tb rfl rfl (zq tb rfl (dn hK8 rfl ?_)))
 refine ci h1 rfl ?_ ?_ <;> clear h1
 ·intro b9 h1
  refine AW.skip (hK7 _ (AW.seq fun K10 hK10 => AW.block (sr rfl fun K11 hK11 => zm tb 2 rfl (bs h1 fun c12 gc12 h1 => zx ei37 gc12 rfl rfl rfl (zm tb 2 rfl (zl tb rfl rfl (bs h1 fun q13 gq13 h1 => zc hb158 (spec_inRange_ok gq13) rfl rfl rfl (zq tb rfl ?_))))))))
  refine dn hK11 rfl ?_
  refine ci h1 rfl ?_ ?_ <;> clear h1
  ·intro b14 h1
   have b15 : q13 = false := by simpa using b14
   refine zr tb rfl rfl ?_
   replace h1 := Sh.some_eq h1
   subst o5
   try dsimp only [id] at h0
   replace h0 := Sh.some_eq h0
   subst r
   exact AW.ret (xr (Wk.to (L := [(4, (.bool false))]) ⟨.rfl, trivial⟩))
  ·intro b14 h1
   have b17 : q13 = true := by simpa using b14
   exact AW.skip (hK10 _ (AW.regionO rfl (zm tb 3 rfl (AO.done (xi (Sh.w (i4 + 1)) h1 (Wk.tr rfl))))))
 ·intro b9 h1
  exact AW.exit (M5 () (Sh.some_eq h1).symm _ (Wk.tr rfl))
theorem spec_validDecl_ok {N : Nat} {p0 : (List RDecl)} {p1 : Int} {r : Bool} (h0 : spec_validDecl N p0 p1 = some r) : ACalls Tryz.prog 228 [(ls eRDecl p0), (i64 p1)] [] (fun v st => v = (.bool r) ∧ st = []) := by
 unfold spec_validDecl at h0
 refine ai Tryz.func228 rfl rfl rfl rfl (zr tb rfl rfl (sr rfl fun K2 hK2 => zm tb 2 rfl (bs h0 fun c3 gc3 h0 => zx ei27 gc3 rfl rfl rfl (zq tb rfl (ao_alloc (m := 0) (st' := [wB0]) go0 zi98 rfl rfl (ao_str (st' := [⟨0, 98, 3, [(eRDecl c3)]⟩]) go0 ti98 rfl rfl rfl rfl rfl rfl (show 0 + 3 ≤ 3 by decide) rfl (dn hK2 rfl (AW.seq fun K4 hK4 => sr rfl fun K5 hK5 => ?_))))))))
 refine zm tb 2 rfl (zl tb rfl rfl (zq tb rfl (dn hK5 rfl ?_)))
 refine ci h0 rfl ?_ ?_ <;> clear h0
 ·intro b6 h0
  refine AW.seq fun K7 hK7 => AW.seq fun K8 hK8 => bs h0 fun o10 h1 h0 => ?_
  have M10 : ∀ (t9 : Bool), o10 = t9 → ∀ s, Wk 0 s ⟨100, envL [(0, (ls eRDecl p0)), (5, (.ptr 0 0 0 0)), (29, (.bool t9))], [⟨0, 98, 3, [(eRDecl c3)]⟩]⟩ → K8 s := by
   intro t9 hq s hw
   subst o10
   try dsimp only at h0
   refine hK8 _ (AW.weaken hw ?_)
   refine ci h0 rfl ?_ ?_ <;> clear h0
   ·intro b11 h0
    refine zr tb rfl rfl ?_
    replace h0 := Sh.some_eq h0
    subst r
    exact AW.ret (xr (Wk.d0 [(4, (.bool false))] rfl))
   ·intro b11 h0
    refine AW.skip (hK7 _ (AW.seq fun K13 hK13 => zr tb rfl rfl ?_))
    obtain ⟨o16, h1, h0⟩ := Sh.cont_some h0
    have M16 : ∀ (_ : Unit), o16 = Sum.inr () → ∀ s, Wk 0 s ⟨100, envL [], []⟩ → K13 s := by
     intro _ hq s hw
     subst o16
     try dsimp only at h0
     refine hK13 _ (AW.weaken hw (zr tb rfl rfl ?_))
     replace h0 := Sh.some_eq h0
     subst r
     exact AW.ret (xr (Wk.to (L := [(4, (.bool true))]) ⟨.rfl, trivial⟩))
    refine AW.block (AW.loopF (σ := Int) (fun n v => spec_validDecl_L1 N c3 p0 n v = some o16) (fun i15 => ⟨100, envL [(0, (ls eRDecl p0)), (5, (.ptr 0 0 0 0)), (6, (i64 i15))], [⟨0, 98, 3, [(eRDecl c3)]⟩]⟩) N 0 h1 (Wk.tr rfl) (fun _ hv => by rw [spec_validDecl_L1] at hv; cases hv) ?_)
    rintro n i15 h1
    try dsimp only at h1 ⊢
    rw [spec_validDecl_L1] at h1
    refine AW.seq fun K18 hK18 => sr rfl fun K19 hK19 => zm tb 3 rfl (zl tb rfl rfl (zq tb rfl (dn hK19 rfl ?_)))
    refine ci h1 rfl ?_ ?_ <;> clear h1
    ·intro b20 h1
     refine AW.skip (hK18 _ (AW.seq fun K21 hK21 => AW.block (AW.seq fun K22 hK22 => bs h1 fun o24 h2 h1 => ?_)))
     have M24 : ∀ (t23 : Bool), o24 = t23 → ∀ s, Wk 0 s ⟨100, envL [(0, (ls eRDecl p0)), (5, (.ptr 0 0 0 0)), (6, (i64 i15)), (55, (.bool t23))], [⟨0, 98, 3, [(eRDecl c3)]⟩]⟩ → K22 s := by
      intro t23 hq s hw
      subst o24
      try dsimp only at h1
      refine hK22 _ (AW.weaken hw ?_)
      refine ci h1 rfl ?_ ?_ <;> clear h1
      ·intro b25 h1
       refine zr tb rfl rfl ?_
       replace h1 := Sh.some_eq h1
       subst o16
       try dsimp only [id] at h0
       replace h0 := Sh.some_eq h0
       subst r
       exact AW.ret (xr (Wk.d0 [(4, (.bool false))] rfl))
      ·intro b25 h1
       exact AW.skip (hK21 _ (AW.regionO rfl (zm tb 3 rfl (AO.done (xi (Sh.w (i15 + 1)) h1 (Wk.tr rfl))))))
     refine AW.regionO rfl (zm tb 3 rfl (bs h2 fun c27 gc27 h2 => zx ei96 gc27 rfl rfl rfl (zm tb 2 rfl (zl tb rfl rfl (zm tb 2 rfl ?_)))))
     rcases Sh.ite_some h2 with ⟨b28, h2⟩ | ⟨b28, h2⟩
     ·refine zs b28 rfl ?_
      iterate 8 refine zs b28 rfl ?_
      exact zt b28 rfl (AO.done (M24 true (Sh.some_eq h2).symm _ (Wk.tr rfl)))
     ·refine zg tb b28 rfl ?_
      iterate 3 refine zg tb b28 rfl ?_
      exact ao_q (v := (.iptr (eRCon c27) 0)) (go1 rfl rfl b28) rfl (aq_ixs ei96 rfl rfl gc27 rfl) (zg tb b28 rfl (zg tb b28 rfl (bs h2 fun q29 gq29 h2 => zd b28 hb202 (spec_allTypes_ok gq29) rfl rfl rfl rfl (zg tb b28 rfl (zf b28 rfl (AO.done (M24 (!q29) (Sh.some_eq h2).symm _ (Wk.tr rfl))))))))
    ·intro b20 h1
     exact AW.exit (M16 () (Sh.some_eq h1).symm _ (Wk.d0 _ rfl))
  refine AW.regionO rfl (zm tb 2 rfl (zl tb rfl rfl (zm tb 2 rfl ?_)))
  rcases Sh.ite_some h1 with ⟨b30, h1⟩ | ⟨b30, h1⟩
  ·refine zs b30 rfl (zs b30 rfl (zs b30 rfl (zt b30 rfl (zq tb rfl ?_))))
   iterate 3 refine zs rfl rfl ?_
   exact zt rfl rfl (AO.done (M10 true (Sh.some_eq h1).symm _ (Wk.tr rfl)))
  ·refine zg tb b30 rfl (zg tb b30 rfl (zg tb b30 rfl (zf b30 rfl (zq tb rfl ?_))))
   rcases Sh.ite_some h1 with ⟨b31, h1⟩ | ⟨b31, h1⟩
   ·exact zs b31 rfl (zs b31 rfl (zs b31 rfl (zt b31 rfl (AO.done (M10 true (Sh.some_eq h1).symm _ (Wk.tr rfl))))))
   ·exact zg tb b31 rfl (zg tb b31 rfl (zg tb b31 rfl (zf b31 rfl (AO.done (M10 (!decide (c3.to = 0)) (Sh.some_eq h1).symm _ (Wk.tr rfl))))))
 ·intro b6 h0
  refine AW.skip (hK4 _ (AW.seq fun K32 hK32 => zr tb rfl rfl ?_))
  obtain ⟨o35, h1, h0⟩ := Sh.cont_some h0
  have M35 : ∀ (_ : Unit), o35 = Sum.inr () → ∀ s, Wk 0 s ⟨100, envL [(0, (ls eRDecl p0)), (5, (.ptr 0 0 0 0))], [⟨0, 98, 3, [(eRDecl c3)]⟩]⟩ → K32 s := by
   intro _ hq s hw
   subst o35
   try dsimp only at h0
   refine hK32 _ (AW.weaken hw (AW.seq fun K36 hK36 => bs h0 fun o38 h1 h0 => ?_))
   have M38 : ∀ (t37 : Bool), o38 = t37 → ∀ s, Wk 0 s ⟨100, envL [(4, (.bool t37))], []⟩ → K36 s := by
    intro t37 hq s hw
    subst o38
    try dsimp only at h0
    refine hK36 _ (AW.weaken hw ?_)
    replace h0 := Sh.some_eq h0
    subst r
    exact AW.ret (xr (Wk.to (L := [(4, (.bool t37))]) ⟨.rfl, trivial⟩))
   refine AW.regionO rfl (zm tb 3 rfl (zl tb rfl rfl (bs h1 fun q39 gq39 h1 => zc hb158 (spec_inRange_ok gq39) rfl rfl rfl (zq tb rfl ?_))))
   rcases Sh.ite_some h1 with ⟨b40, h1⟩ | ⟨b40, h1⟩
   ·exact zg tb b40 rfl (zg tb b40 rfl (zg tb b40 rfl (ao_q (v := (i64 (Sh.len p0))) (go1 rfl rfl b40) rfl (aq_lens sl27 rfl) (bs h1 fun q41 gq41 h1 => zd b40 hb158 (spec_inRange_ok gq41) rfl rfl rfl rfl (zt b40 rfl (zq tb rfl (AO.done (M38 q41 (Sh.some_eq h1).symm _ (Wk.d0 _ rfl)))))))))
   ·refine zs b40 rfl ?_
    iterate 4 refine zs b40 rfl ?_
    exact zf b40 rfl (zq tb rfl (AO.done (M38 false (Sh.some_eq h1).symm _ (Wk.d0 _ rfl))))
  refine AW.block (AW.loopF (σ := Int) (fun n v => spec_validDecl_L2 c3 p0 p1 n v = some o35) (fun i34 => ⟨100, envL [(0, (ls eRDecl p0)), (1, (i64 p1)), (5, (.ptr 0 0 0 0)), (7, (i64 i34))], [⟨0, 98, 3, [(eRDecl c3)]⟩]⟩) N 0 h1 (Wk.tr rfl) (fun _ hv => by rw [spec_validDecl_L2] at hv; cases hv) ?_)
  rintro n i34 h1
  try dsimp only at h1 ⊢
  rw [spec_validDecl_L2] at h1
  refine AW.seq fun K42 hK42 => zr tb rfl rfl ?_
  refine ci h1 rfl ?_ ?_ <;> clear h1
  ·intro b44 h1
   refine AW.skip (hK42 _ (AW.seq fun K45 hK45 => AW.block (AW.seq fun K46 hK46 => bs h1 fun o48 h2 h1 => ?_)))
   have M48 : ∀ (t47 : Bool), o48 = t47 → ∀ s, Wk 0 s ⟨100, envL [(0, (ls eRDecl p0)), (1, (i64 p1)), (5, (.ptr 0 0 0 0)), (7, (i64 i34)), (87, (.bool t47))], [⟨0, 98, 3, [(eRDecl c3)]⟩]⟩ → K46 s := by
    intro t47 hq s hw
    subst o48
    try dsimp only at h1
    refine hK46 _ (AW.weaken hw ?_)
    refine ci h1 rfl ?_ ?_ <;> clear h1
    ·intro b49 h1
     refine zr tb rfl rfl ?_
     replace h1 := Sh.some_eq h1
     subst o35
     try dsimp only [id] at h0
     replace h0 := Sh.some_eq h0
     subst r
     exact AW.ret (xr (Wk.d0 [(4, (.bool false))] rfl))
    ·intro b49 h1
     exact AW.skip (hK45 _ (AW.regionO rfl (zm tb 3 rfl (AO.done (xi (Sh.w (i34 + 1)) h1 (Wk.tr rfl))))))
   refine AW.draw (by kernel_rfl) (by kernel_rfl) (by rfl) ?_
   iterate 2 refine yq tb rfl ?_
   refine bs h2 fun c51 gc51 h2 => yx ei27 gc51 rfl rfl rfl ?_
   iterate 2 refine yq tb rfl ?_
   refine yl tb rfl rfl ?_
   iterate 2 refine yq tb rfl ?_
   rcases Sh.ite_some h2 with ⟨b52, h2⟩ | ⟨b52, h2⟩
   ·refine yg tb b52 rfl (yg tb b52 rfl (d_q (v := (.iptr (eRDecl c51) 0)) (go1 rfl rfl b52) rfl (aq_ixs ei27 rfl rfl gc51 rfl) ?_))
    iterate 5 refine yg tb b52 rfl ?_
    refine yt b52 rfl (yq tb rfl ?_)
    rcases Sh.ite_some h2 with ⟨b53, h2⟩ | ⟨b53, h2⟩
    ·refine yg tb b53 rfl (yg tb b53 rfl (d_q (v := (.iptr (eRDecl c51) 0)) (go1 rfl rfl b53) rfl (aq_ixs ei27 rfl rfl gc51 rfl) ?_))
     iterate 5 refine yg tb b53 rfl ?_
     exact yt b53 rfl (d_done (M48 (decide (c51.to = c3.to)) (Sh.some_eq h2).symm _ (Wk.tr rfl)))
    ·refine ys b53 rfl ?_
     iterate 7 refine ys b53 rfl ?_
     exact yf b53 rfl (d_done (M48 false (Sh.some_eq h2).symm _ (Wk.tr rfl)))
   ·refine ys b52 rfl ?_
    iterate 7 refine ys b52 rfl ?_
    refine yf b52 rfl (yq tb rfl ?_)
    iterate 8 refine ys rfl rfl ?_
    exact yf rfl rfl (d_done (M48 false (Sh.some_eq h2).symm _ (Wk.tr rfl)))
  ·intro b44 h1
   exact AW.exit (M35 () (Sh.some_eq h1).symm _ (Wk.tr rfl))
theorem spec_validTypes_ok {N : Nat} {p0 : (List RDecl)} {r : Bool} (h0 : spec_validTypes N p0 = some r) : ACalls Tryz.prog 201 [(ls eRDecl p0)] [] (fun v st => v = (.bool r) ∧ st = []) := by
 unfold spec_validTypes at h0
 refine ai Tryz.func201 rfl rfl rfl rfl (zr tb rfl rfl (AW.seq fun K2 hK2 => sr rfl fun K3 hK3 => zq tb rfl (zl tb rfl rfl (zq tb rfl (dn hK3 rfl ?_)))))
 refine ci h0 rfl ?_ ?_ <;> clear h0
 ·intro b4 h0
  refine zr tb rfl rfl ?_
  replace h0 := Sh.some_eq h0
  subst r
  exact AW.ret (xr (Wk.to (L := [(2, (.bool false))]) ⟨.rfl, trivial⟩))
 ·intro b4 h0
  refine AW.skip (hK2 _ (AW.seq fun K6 hK6 => zr tb rfl rfl ?_))
  obtain ⟨o9, h1, h0⟩ := Sh.cont_some h0
  have M9 : ∀ (_ : Unit), o9 = Sum.inr () → ∀ s, Wk 0 s ⟨17, envL [], []⟩ → K6 s := by
   intro _ hq s hw
   subst o9
   try dsimp only at h0
   refine hK6 _ (AW.weaken hw (zr tb rfl rfl ?_))
   replace h0 := Sh.some_eq h0
   subst r
   exact AW.ret (xr (Wk.to (L := [(2, (.bool true))]) ⟨.rfl, trivial⟩))
  refine AW.block (AW.loopF (σ := Int) (fun n v => spec_validTypes_L1 N p0 n v = some o9) (fun i8 => ⟨17, envL [(0, (ls eRDecl p0)), (3, (i64 i8))], []⟩) N 0 h1 (Wk.tr rfl) (fun _ hv => by rw [spec_validTypes_L1] at hv; cases hv) ?_)
  rintro n i8 h1
  try dsimp only at h1 ⊢
  rw [spec_validTypes_L1] at h1
  refine AW.seq fun K11 hK11 => sr rfl fun K12 hK12 => zm tb 2 rfl (zl tb rfl rfl (zq tb rfl (dn hK12 rfl ?_)))
  refine ci h1 rfl ?_ ?_ <;> clear h1
  ·intro b13 h1
   refine AW.skip (hK11 _ (AW.seq fun K14 hK14 => AW.block (sr rfl fun K15 hK15 => zm tb 2 rfl (bs h1 fun q16 gq16 h1 => zc hb228 (spec_validDecl_ok gq16) rfl rfl rfl (zq tb rfl (dn hK15 rfl ?_))))))
   refine ci h1 rfl ?_ ?_ <;> clear h1
   ·intro b17 h1
    have b18 : q16 = false := by simpa using b17
    refine zr tb rfl rfl ?_
    replace h1 := Sh.some_eq h1
    subst o9
    try dsimp only [id] at h0
    replace h0 := Sh.some_eq h0
    subst r
    exact AW.ret (xr (Wk.to (L := [(2, (.bool false))]) ⟨.rfl, trivial⟩))
   ·intro b17 h1
    have b20 : q16 = true := by simpa using b17
    exact AW.skip (hK14 _ (AW.regionO rfl (zm tb 3 rfl (AO.done (xi (Sh.w (i8 + 1)) h1 (Wk.tr rfl))))))
  ·intro b13 h1
   exact AW.exit (M9 () (Sh.some_eq h1).symm _ (Wk.tr rfl))
noncomputable abbrev wB12 (p0 : RProgram) : Go.Abs.Row := ⟨0, 170, 2, [[(ls eRDecl p0.decls), (ls eRFunc p0.funcs)]]⟩
theorem spec_validSigs_ok {N : Nat} {p0 : RProgram} {r : Bool} (h0 : spec_validSigs N p0 = some r) : ACalls Tryz.prog 154 [(.agg [(ls eRDecl p0.decls), (ls eRFunc p0.funcs)])] [] (fun v st => v = (.bool r) ∧ st = []) := by
 unfold spec_validSigs at h0
 refine ai Tryz.func154 rfl rfl rfl rfl (sr rfl fun K1 hK1 => ao_box (m := 0) (st' := [(wB12 p0)]) go0 rfl rfl rfl rfl rfl (zq tb rfl (dn hK1 rfl (AW.seq fun K2 hK2 => AW.seq fun K3 hK3 => bs h0 fun o5 h1 h0 => ?_))))
 have M5 : ∀ (t4 : Bool), o5 = t4 → ∀ s, Wk 0 s ⟨64, envL [(1, (.ptr 0 0 0 0)), (15, (.bool t4))], [(wB12 p0)]⟩ → K3 s := by
  intro t4 hq s hw
  subst o5
  try dsimp only at h0
  refine hK3 _ (AW.weaken hw ?_)
  refine ci h0 rfl ?_ ?_ <;> clear h0
  ·intro b6 h0
   refine zr tb rfl rfl ?_
   replace h0 := Sh.some_eq h0
   subst r
   exact AW.ret (xr (Wk.d0 [(2, (.bool false))] rfl))
  ·intro b6 h0
   refine AW.skip (hK2 _ (AW.seq fun K8 hK8 => zr tb rfl rfl ?_))
   obtain ⟨o11, h1, h0⟩ := Sh.cont_some h0
   have M11 : ∀ (_ : Unit), o11 = Sum.inr () → ∀ s, Wk 0 s ⟨64, envL [(1, (.ptr 0 0 0 0))], [(wB12 p0)]⟩ → K8 s := by
    intro _ hq s hw
    subst o11
    try dsimp only at h0
    refine hK8 _ (AW.weaken hw (AW.seq fun K12 hK12 => bs h0 fun o14 h1 h0 => ?_))
    have M14 : ∀ (t13 : Bool), o14 = t13 → ∀ s, Wk 0 s ⟨64, envL [(2, (.bool t13))], []⟩ → K12 s := by
     intro t13 hq s hw
     subst o14
     try dsimp only at h0
     refine hK12 _ (AW.weaken hw ?_)
     replace h0 := Sh.some_eq h0
     subst r
     exact AW.ret (xr (Wk.to (L := [(2, (.bool t13))]) ⟨.rfl, trivial⟩))
    refine AW.regionO rfl (zm tb 2 rfl (bs h1 fun c15 gc15 h1 => zx ei168 gc15 rfl rfl rfl (zm tb 2 rfl (zl tb rfl rfl (zm tb 2 rfl ?_)))))
    rcases Sh.ite_some h1 with ⟨b16, h1⟩ | ⟨b16, h1⟩
    ·refine zg tb b16 rfl (zg tb b16 rfl (ao_q (v := (.iptr (eRFunc c15) 0)) (go1 rfl rfl b16) rfl (aq_ixs ei168 rfl rfl gc15 rfl) ?_))
     iterate 3 refine zg tb b16 rfl ?_
     exact zt b16 rfl (zq tb rfl (AO.done (M14 (decide (c15.result = 0)) (Sh.some_eq h1).symm _ (Wk.d0 _ rfl))))
    ·refine zs b16 rfl ?_
     iterate 5 refine zs b16 rfl ?_
     exact zf b16 rfl (zq tb rfl (AO.done (M14 false (Sh.some_eq h1).symm _ (Wk.d0 _ rfl))))
   refine AW.block (AW.loopF (σ := Int) (fun n v => spec_validSigs_L1 N p0 n v = some o11) (fun i10 => ⟨64, envL [(1, (.ptr 0 0 0 0)), (3, (i64 i10))], [(wB12 p0)]⟩) N 0 h1 (Wk.tr rfl) (fun _ hv => by rw [spec_validSigs_L1] at hv; cases hv) ?_)
   rintro n i10 h1
   try dsimp only at h1 ⊢
   rw [spec_validSigs_L1] at h1
   refine AW.seq fun K17 hK17 => sr rfl fun K18 hK18 => zm tb 3 rfl (zl tb rfl rfl (zq tb rfl (dn hK18 rfl ?_)))
   refine ci h1 rfl ?_ ?_ <;> clear h1
   ·intro b19 h1
    refine AW.skip (hK17 _ (AW.seq fun K20 hK20 => AW.block (sr rfl fun K21 hK21 => zm tb 3 rfl (bs h1 fun c22 gc22 h1 => zx ei168 gc22 rfl rfl rfl (zq tb rfl (ao_alloc (m := 1) (st' := [(wB12 p0), ⟨0, 205, 5, [[.zc, (i64 0), (i64 0), (i64 0), .zc]]⟩]) go0 zi205 rfl rfl (ao_str (st' := [(wB12 p0), ⟨0, 205, 5, [[(ls eI c22.params), (i64 c22.result), (i64 c22.body.op), (i64 c22.body.num), (ls eRExpr c22.body.kids)]]⟩]) go0 ti205 rfl rfl rfl rfl rfl rfl (show 0 + 5 ≤ 5 by decide) rfl (dn hK21 rfl (AW.seq fun K23 hK23 => ?_)))))))))
    refine bs h1 fun o25 h2 h1 => ?_
    have M25 : ∀ (t24 : Bool), o25 = t24 → ∀ s, Wk 0 s ⟨64, envL [(1, (.ptr 0 0 0 0)), (3, (i64 i10)), (48, (.bool t24))], [(wB12 p0)]⟩ → K23 s := by
     intro t24 hq s hw
     subst o25
     try dsimp only at h1
     refine hK23 _ (AW.weaken hw ?_)
     refine ci h1 rfl ?_ ?_ <;> clear h1
     ·intro b26 h1
      refine zr tb rfl rfl ?_
      replace h1 := Sh.some_eq h1
      subst o11
      try dsimp only [id] at h0
      replace h0 := Sh.some_eq h0
      subst r
      exact AW.ret (xr (Wk.d0 [(2, (.bool false))] rfl))
     ·intro b26 h1
      exact AW.skip (hK20 _ (AW.regionO rfl (zm tb 3 rfl (AO.done (xi (Sh.w (i10 + 1)) h1 (Wk.tr rfl))))))
    refine AW.regionO rfl (zm tb 2 rfl (zl tb rfl rfl (zm tb 2 rfl ?_)))
    rcases Sh.ite_some h2 with ⟨b28, h2⟩ | ⟨b28, h2⟩
    ·refine zs b28 rfl ?_
     iterate 5 refine zs b28 rfl ?_
     refine zt b28 rfl (zq tb rfl ?_)
     iterate 7 refine zs rfl rfl ?_
     refine zt rfl rfl ?_
     exact AO.done (M25 true (Sh.some_eq h2).symm _ (Wk.permk (L := [(1, (.ptr 0 0 0 0)), (3, (i64 i10)), (48, (.bool true))]) (st' := [(wB12 p0)]) (st1 := [(wB12 p0)]) [0] rfl .nil (by decide) rfl rfl (.raw rfl rfl .nil) ⟨.rfl, .rfl, .rfl, trivial⟩))
    ·refine zg tb b28 rfl ?_
     iterate 3 refine zg tb b28 rfl ?_
     refine bs h2 fun q29 gq29 h2 => zd b28 hb202 (spec_allTypes_ok gq29) rfl rfl rfl rfl (zg tb b28 rfl (zf b28 rfl (zq tb rfl ?_)))
     rcases Sh.ite_some h2 with ⟨b30, h2⟩ | ⟨b30, h2⟩
     ·refine zs b30 rfl ?_
      iterate 6 refine zs b30 rfl ?_
      refine zt b30 rfl ?_
      exact AO.done (M25 true (Sh.some_eq h2).symm _ (Wk.permk (L := [(1, (.ptr 0 0 0 0)), (3, (i64 i10)), (48, (.bool true))]) (st' := [(wB12 p0)]) (st1 := [(wB12 p0)]) [0] rfl .nil (by decide) rfl rfl (.raw rfl rfl .nil) ⟨.rfl, .rfl, .rfl, trivial⟩))
     ·refine zg tb b30 rfl ?_
      iterate 3 refine zg tb b30 rfl ?_
      refine ao_q (v := (i64 (Sh.len p0.decls))) (go1 rfl rfl b30) rfl (aq_lens sl27 rfl) (bs h2 fun q31 gq31 h2 => zd b30 hb158 (spec_inRange_ok gq31) rfl rfl rfl rfl (zg tb b30 rfl (zf b30 rfl ?_)))
      exact AO.done (M25 (!q31) (Sh.some_eq h2).symm _ (Wk.permk (L := [(1, (.ptr 0 0 0 0)), (3, (i64 i10)), (48, (.bool (!q31)))]) (st' := [(wB12 p0)]) (st1 := [(wB12 p0)]) [0] rfl .nil (by decide) rfl rfl (.raw rfl rfl .nil) ⟨.rfl, .rfl, .rfl, trivial⟩))
   ·intro b19 h1
    exact AW.exit (M11 () (Sh.some_eq h1).symm _ (Wk.tr rfl))
 refine AW.regionO rfl (zm tb 2 rfl (bs h1 fun q32 gq32 h1 => zc hb201 (spec_validTypes_ok gq32) rfl rfl rfl (zm tb 2 rfl ?_)))
 rcases Sh.ite_some h1 with ⟨b33, h1⟩ | ⟨b33, h1⟩
 ·refine zs b33 rfl ?_
  iterate 4 refine zs b33 rfl ?_
  exact zt b33 rfl (AO.done (M5 true (Sh.some_eq h1).symm _ (Wk.tr rfl)))
 ·exact zg tb b33 rfl (zg tb b33 rfl (ao_q (v := (i64 (Sh.len p0.funcs))) (go1 rfl rfl b33) rfl (aq_lens sl168 rfl) (bs h1 fun q34 gq34 h1 => zd b33 hb158 (spec_inRange_ok gq34) rfl rfl rfl rfl (zg tb b33 rfl (zf b33 rfl (AO.done (M5 (!q34) (Sh.some_eq h1).symm _ (Wk.tr rfl))))))))
theorem spec_validLent_ok {N : Nat} {p0 : (List Int)} {p1 : (List Int)} {r : Bool} (h0 : spec_validLent N p0 p1 = some r) : ACalls Tryz.prog 156 [(ls eI p0), (ls eI p1)] [] (fun v st => v = (.bool r) ∧ st = []) := by
 unfold spec_validLent at h0
 refine ai Tryz.func156 rfl rfl rfl rfl (zr tb rfl rfl (AW.seq fun K2 hK2 => zr tb rfl rfl ?_))
 obtain ⟨o5, h1, h0⟩ := Sh.cont_some h0
 have M5 : ∀ (_ : Unit), o5 = Sum.inr () → ∀ s, Wk 0 s ⟨47, envL [], []⟩ → K2 s := by
  intro _ hq s hw
  subst o5
  try dsimp only at h0
  refine hK2 _ (AW.weaken hw (zr tb rfl rfl ?_))
  replace h0 := Sh.some_eq h0
  subst r
  exact AW.ret (xr (Wk.to (L := [(4, (.bool true))]) ⟨.rfl, trivial⟩))
 refine AW.block (AW.loopF (σ := Int) (fun n v => spec_validLent_L1 p0 p1 n v = some o5) (fun i4 => ⟨47, envL [(0, (ls eI p0)), (1, (ls eI p1)), (5, (i64 i4))], []⟩) N 0 h1 (Wk.tr rfl) (fun _ hv => by rw [spec_validLent_L1] at hv; cases hv) ?_)
 rintro n i4 h1
 try dsimp only at h1 ⊢
 rw [spec_validLent_L1] at h1
 refine AW.seq fun K7 hK7 => sr rfl fun K8 hK8 => zm tb 2 rfl (zl tb rfl rfl (zq tb rfl (dn hK8 rfl ?_)))
 refine ci h1 rfl ?_ ?_ <;> clear h1
 ·intro b9 h1
  refine AW.skip (hK7 _ (AW.seq fun K10 hK10 => AW.block (AW.seq fun K11 hK11 => bs h1 fun o13 h2 h1 => ?_)))
  have M13 : ∀ (t12 : Bool), o13 = t12 → ∀ s, Wk 0 s ⟨47, envL [(0, (ls eI p0)), (1, (ls eI p1)), (5, (i64 i4)), (46, (.bool t12))], []⟩ → K11 s := by
   intro t12 hq s hw
   subst o13
   try dsimp only at h1
   refine hK11 _ (AW.weaken hw ?_)
   refine ci h1 rfl ?_ ?_ <;> clear h1
   ·intro b14 h1
    refine zr tb rfl rfl ?_
    replace h1 := Sh.some_eq h1
    subst o5
    try dsimp only [id] at h0
    replace h0 := Sh.some_eq h0
    subst r
    exact AW.ret (xr (Wk.to (L := [(4, (.bool false))]) ⟨.rfl, trivial⟩))
   ·intro b14 h1
    exact AW.skip (hK10 _ (AW.regionO rfl (zm tb 3 rfl (AO.done (xi (Sh.w (i4 + 1)) h1 (Wk.tr rfl))))))
  refine AW.draw (by kernel_rfl) (by kernel_rfl) (by rfl) ?_
  iterate 2 refine yq tb rfl ?_
  refine bs h2 fun c16 gc16 h2 => yx ei37 gc16 rfl rfl rfl ?_
  iterate 2 refine yq tb rfl ?_
  refine yl tb rfl rfl (yq tb rfl (bs h2 fun q17 gq17 h2 => d_call (v := (.bool q17)) go0 hb158 (spec_inRange_ok gq17) rfl rfl rfl ?_))
  iterate 2 refine yq tb rfl ?_
  rcases Sh.ite_some h2 with ⟨b18, h2⟩ | ⟨b18, h2⟩
  ·refine ys b18 rfl ?_
   iterate 7 refine ys b18 rfl ?_
   refine yt b18 rfl (yq tb rfl ?_)
   iterate 3 refine ys rfl rfl ?_
   iterate 10 refine yn rfl ?_
   exact ys rfl rfl (yt rfl rfl (d_done (M13 true (Sh.some_eq h2).symm _ (Wk.tr rfl))))
  ·refine yg tb b18 rfl ?_
   iterate 2 refine yg tb b18 rfl ?_
   refine d_q (v := (.iptr (eI c16) 0)) (go1 rfl rfl b18) rfl (aq_ixs ei37 rfl rfl gc16 rfl) (yg tb b18 rfl (bs h2 fun c19 gc19 h2 => d_q (v := (.iptr (eI c19) 0)) (go1 rfl rfl b18) rfl (aq_ixs ei37 rfl rfl gc19 rfl) ?_))
   iterate 2 refine yg tb b18 rfl ?_
   refine yf b18 rfl (yq tb rfl ?_)
   rcases Sh.ite_some h2 with ⟨b20, h2⟩ | ⟨b20, h2⟩
   ·refine ys b20 rfl ?_
    iterate 2 refine ys b20 rfl ?_
    iterate 10 refine yn rfl ?_
    exact ys b20 rfl (yt b20 rfl (d_done (M13 true (Sh.some_eq h2).symm _ (Wk.tr rfl))))
   ·refine yg tb b20 rfl ?_
    iterate 2 refine yg tb b20 rfl ?_
    rcases Sh.ite_some h2 with ⟨b21, h2⟩ | ⟨b21, h2⟩
    ·refine yg tb b21 rfl (yg tb b21 rfl (d_q (v := (.iptr (eI c16) 0)) (go1 rfl rfl b21) rfl (aq_ixs ei37 rfl rfl gc16 rfl) ?_))
     iterate 4 refine yg tb b21 rfl ?_
     refine bs h2 fun c22 gc22 h2 => d_q (v := (.iptr (eI c22) 0)) (go1 rfl rfl b21) rfl (aq_ixs ei37 rfl rfl gc22 rfl) ?_
     iterate 2 refine yg tb b21 rfl ?_
     exact d_q (v := (.bool (decide (c16 ≤ c22)))) (go1 rfl rfl b20) rfl (aq_pkt rfl b21 rfl) (yf b20 rfl (d_done (M13 (decide (c16 ≤ c22)) (Sh.some_eq h2).symm _ (Wk.tr rfl))))
    ·refine ys b21 rfl ?_
     iterate 9 refine ys b21 rfl ?_
     exact d_q (v := (.bool false)) (go1 rfl rfl b20) rfl (aq_pkf rfl b21 rfl) (yf b20 rfl (d_done (M13 false (Sh.some_eq h2).symm _ (Wk.tr rfl))))
 ·intro b9 h1
  exact AW.exit (M5 () (Sh.some_eq h1).symm _ (Wk.tr rfl))
theorem spec_validNormalSigs_ok {N : Nat} {p0 : RNormal} {r : Bool} (h0 : spec_validNormalSigs N p0 = some r) : ACalls Tryz.prog 99 [(.agg [(ls eRDecl p0.decls), (ls eRRoutine p0.routines)])] [] (fun v st => v = (.bool r) ∧ st = []) := by
 unfold spec_validNormalSigs at h0
 refine ai Tryz.func99 rfl rfl rfl rfl (sr rfl fun K1 hK1 => ao_box (m := 0) (st' := [(wB11 p0)]) go0 rfl rfl rfl rfl rfl (zq tb rfl (dn hK1 rfl (AW.seq fun K2 hK2 => AW.seq fun K3 hK3 => bs h0 fun o5 h1 h0 => ?_))))
 have M5 : ∀ (t4 : Bool), o5 = t4 → ∀ s, Wk 0 s ⟨35, envL [(1, (.ptr 0 0 0 0)), (13, (.bool t4))], [(wB11 p0)]⟩ → K3 s := by
  intro t4 hq s hw
  subst o5
  try dsimp only at h0
  refine hK3 _ (AW.weaken hw ?_)
  refine ci h0 rfl ?_ ?_ <;> clear h0
  ·intro b6 h0
   refine zr tb rfl rfl ?_
   replace h0 := Sh.some_eq h0
   subst r
   exact AW.ret (xr (Wk.d0 [(2, (.bool false))] rfl))
  ·intro b6 h0
   refine AW.skip (hK2 _ (AW.seq fun K8 hK8 => zr tb rfl rfl ?_))
   obtain ⟨o11, h1, h0⟩ := Sh.cont_some h0
   have M11 : ∀ (_ : Unit), o11 = Sum.inr () → ∀ s, Wk 0 s ⟨35, envL [], []⟩ → K8 s := by
    intro _ hq s hw
    subst o11
    try dsimp only at h0
    refine hK8 _ (AW.weaken hw (zr tb rfl rfl ?_))
    replace h0 := Sh.some_eq h0
    subst r
    exact AW.ret (xr (Wk.to (L := [(2, (.bool true))]) ⟨.rfl, trivial⟩))
   refine AW.block (AW.loopF (σ := Int) (fun n v => spec_validNormalSigs_L1 N p0 n v = some o11) (fun i10 => ⟨35, envL [(1, (.ptr 0 0 0 0)), (3, (i64 i10))], [(wB11 p0)]⟩) N 0 h1 (Wk.tr rfl) (fun _ hv => by rw [spec_validNormalSigs_L1] at hv; cases hv) ?_)
   rintro n i10 h1
   try dsimp only at h1 ⊢
   rw [spec_validNormalSigs_L1] at h1
   refine AW.seq fun K13 hK13 => sr rfl fun K14 hK14 => zm tb 3 rfl (zl tb rfl rfl (zq tb rfl (dn hK14 rfl ?_)))
   refine ci h1 rfl ?_ ?_ <;> clear h1
   ·intro b15 h1
    refine AW.skip (hK13 _ (AW.seq fun K16 hK16 => AW.block (AW.seq fun K17 hK17 => ?_)))
    refine AW.draw (by kernel_rfl) (by kernel_rfl) (by rfl) ?_
    iterate 3 refine yq tb rfl ?_
    refine bs h1 fun c18 gc18 h1 => yx ei28 gc18 rfl rfl rfl ?_
    iterate 5 refine yq tb rfl ?_
    refine yx ei28 gc18 rfl rfl rfl ?_
    iterate 2 refine yq tb rfl ?_
    refine bs h1 fun q19 gq19 h1 => d_call (v := (.bool q19)) go0 hb156 (spec_validLent_ok gq19) rfl rfl rfl (yq tb rfl (d_done (hK17 _ ?_)))
    refine ci h1 rfl ?_ ?_ <;> clear h1
    ·intro b20 h1
     have b21 : q19 = false := by simpa using b20
     refine zr tb rfl rfl ?_
     replace h1 := Sh.some_eq h1
     subst o11
     try dsimp only [id] at h0
     replace h0 := Sh.some_eq h0
     subst r
     exact AW.ret (xr (Wk.d0 [(2, (.bool false))] rfl))
    ·intro b20 h1
     have b23 : q19 = true := by simpa using b20
     exact AW.skip (hK16 _ (AW.regionO rfl (zm tb 3 rfl (AO.done (xi (Sh.w (i10 + 1)) h1 (Wk.tr rfl))))))
   ·intro b15 h1
    exact AW.exit (M11 () (Sh.some_eq h1).symm _ (Wk.d0 _ rfl))
 refine AW.regionO rfl (zm tb 2 rfl (zl tb rfl rfl (zm tb 2 rfl ?_)))
 rcases Sh.ite_some h1 with ⟨b24, h1⟩ | ⟨b24, h1⟩
 ·refine zs b24 rfl ?_
  iterate 3 refine zs b24 rfl ?_
  exact zt b24 rfl (AO.done (M5 true (Sh.some_eq h1).symm _ (Wk.tr rfl)))
 ·exact zg tb b24 rfl (bs h1 fun q25 gq25 h1 => zd (v' := (.agg [(ls eRDecl q25.decls), (ls eRFunc q25.funcs)])) b24 hb155 (spec_sigsOf_ok gq25) rfl rfl rfl rfl (bs h1 fun q26 gq26 h1 => zd b24 hb154 (spec_validSigs_ok gq26) rfl rfl rfl rfl (zg tb b24 rfl (zf b24 rfl (AO.done (M5 (!q26) (Sh.some_eq h1).symm _ (Wk.tr rfl)))))))
noncomputable abbrev wB13 (p0 : Block) : Go.Abs.Row := ⟨0, 55, 2, [[(ls eStep p0.steps), (i64 p0.result)]]⟩
theorem spec_stepsLeft_B_ok {N : Nat} {rec_spec_stepsLeft : Block → Int → Option (Int)} (hrec_spec_stepsLeft : ∀ {p0 : Block} {p1 : Int} {r : Int}, rec_spec_stepsLeft p0 p1 = some r → ACalls Tryz.prog 113 [(.agg [(ls eStep p0.steps), (i64 p0.result)]), (i64 p1)] [] (fun v st => v = (i64 r) ∧ st = [])) {p0 : Block} {p1 : Int} {r : Int} (h0 : spec_stepsLeft_B N rec_spec_stepsLeft p0 p1 = some r) : ACalls Tryz.prog 113 [(.agg [(ls eStep p0.steps), (i64 p0.result)]), (i64 p1)] [] (fun v st => v = (i64 r) ∧ st = []) := by
 unfold spec_stepsLeft_B at h0
 refine ai Tryz.func113 rfl rfl rfl rfl (sr rfl fun K1 hK1 => ao_box (m := 0) (st' := [(wB13 p0)]) go0 rfl rfl rfl rfl rfl (zq tb rfl (dn hK1 rfl (AW.seq fun K2 hK2 => zr tb rfl rfl ?_))))
 obtain ⟨o7, h1, h0⟩ := Sh.cont_some h0
 have M7 : ∀ (left6 : Int), o7 = Sum.inr left6 → ∀ s, Wk 0 s ⟨43, envL [(1, (i64 left6))], []⟩ → K2 s := by
  intro left6 hq s hw
  subst o7
  try dsimp only at h0
  refine hK2 _ (AW.weaken hw (zr tb rfl rfl ?_))
  replace h0 := Sh.some_eq h0
  subst r
  exact AW.ret (xr (Wk.to (L := [(4, (i64 left6))]) ⟨.rfl, trivial⟩))
 refine AW.block (AW.loopF (σ := Int × Int) (fun n v => spec_stepsLeft_B_L1 N p0 rec_spec_stepsLeft n v.1 v.2 = some o7) (fun (left4, i5) => ⟨43, envL [(1, (i64 left4)), (2, (.ptr 0 0 0 0)), (5, (i64 i5))], [(wB13 p0)]⟩) N (p1, 0) h1 (Wk.tr rfl) (fun _ hv => by rw [spec_stepsLeft_B_L1] at hv; cases hv) ?_)
 rintro n ⟨left4, i5⟩ h1
 try dsimp only at h1 ⊢
 rw [spec_stepsLeft_B_L1] at h1
 refine AW.seq fun K9 hK9 => sr rfl fun K10 hK10 => zm tb 3 rfl (zl tb rfl rfl (zq tb rfl (dn hK10 rfl ?_)))
 refine ci h1 rfl ?_ ?_ <;> clear h1
 ·intro b11 h1
  refine AW.skip (hK9 _ (AW.seq fun K12 hK12 => AW.block (AW.seq fun K13 hK13 => zr tb rfl rfl ?_)))
  refine ci h1 rfl ?_ ?_ <;> clear h1
  ·intro b15 h1
   refine zr tb rfl rfl ?_
   replace h1 := Sh.some_eq h1
   subst o7
   try dsimp only [id] at h0
   replace h0 := Sh.some_eq h0
   subst r
   exact AW.ret (xr (Wk.d0 [(4, (i64 (-1)))] rfl))
  ·intro b15 h1
   refine AW.skip (hK13 _ ?_)
   iterate 2 refine zr tb rfl rfl ?_
   obtain ⟨o22, h2, h1⟩ := Sh.cont_some h1
   have M22 : ∀ (left21 : Int), o22 = Sum.inr left21 → ∀ s, Wk 0 s ⟨43, envL [(1, (i64 left21)), (2, (.ptr 0 0 0 0)), (5, (i64 i5))], [(wB13 p0)]⟩ → K12 s := by
    intro left21 hq s hw
    subst o22
    try dsimp only at h1
    exact hK12 _ (AW.weaken hw (AW.regionO rfl (zm tb 3 rfl (AO.done (xi (left21, Sh.w (i5 + 1)) h1 (Wk.tr rfl))))))
   refine AW.block (AW.loopF (σ := Int × Int) (fun n v => spec_stepsLeft_B_L2 i5 p0 rec_spec_stepsLeft n v.1 v.2 = some o22) (fun (left19, k20) => ⟨43, envL [(1, (i64 left19)), (2, (.ptr 0 0 0 0)), (5, (i64 i5)), (6, (i64 k20))], [(wB13 p0)]⟩) N (Sh.w (left4 - 1), 0) h2 (Wk.tr rfl) (fun _ hv => by rw [spec_stepsLeft_B_L2] at hv; cases hv) ?_)
   rintro n ⟨left19, k20⟩ h2
   try dsimp only at h2 ⊢
   rw [spec_stepsLeft_B_L2] at h2
   refine AW.seq fun K23 hK23 => sr rfl fun K24 hK24 => zm tb 4 rfl (bs h2 fun c25 gc25 h2 => zz (.iptr [(i64 c25.op), (i64 c25.num), (i64 c25.into), (ls eI c25.args), (ls eBlock c25.kids)] 0) (aq_ixsE ei53 rfl rfl gc25 (eStep_eq _) rfl) rfl (zm tb 2 rfl (zl tb rfl rfl (zq tb rfl (dn hK24 rfl ?_)))))
   refine ci h2 rfl ?_ ?_ <;> clear h2
   ·intro b26 h2
    refine AW.skip (hK23 _ (AW.seq fun K27 hK27 => AW.block (sr rfl fun K28 hK28 => zm tb 3 rfl (zz (.iptr [(i64 c25.op), (i64 c25.num), (i64 c25.into), (ls eI c25.args), (ls eBlock c25.kids)] 0) (aq_ixsE ei53 rfl rfl gc25 (eStep_eq _) rfl) rfl (zm tb 3 rfl (bs h2 fun c29 gc29 h2 => zx ei69 gc29 rfl rfl rfl (zm tb 2 rfl (bs h2 fun q30 gq30 h2 => zc hb113 (hrec_spec_stepsLeft gq30) rfl rfl rfl ?_))))))))
    refine zq tb rfl (dn hK28 rfl (zr tb rfl rfl ?_))
    refine ci h2 rfl ?_ ?_ <;> clear h2
    ·intro b32 h2
     refine zr tb rfl rfl ?_
     replace h2 := Sh.some_eq h2
     subst o22
     try dsimp only [id] at h1
     replace h1 := Sh.some_eq h1
     subst o7
     try dsimp only [id] at h0
     replace h0 := Sh.some_eq h0
     subst r
     exact AW.ret (xr (Wk.d0 [(4, (i64 (-1)))] rfl))
    ·intro b32 h2
     exact AW.skip (hK27 _ (AW.regionO rfl (zm tb 3 rfl (AO.done (xi (q30, Sh.w (k20 + 1)) h2 (Wk.tr rfl))))))
   ·intro b26 h2
    exact AW.exit (M22 left19 (Sh.some_eq h2).symm _ (Wk.tr rfl))
 ·intro b11 h1
  exact AW.exit (M7 left4 (Sh.some_eq h1).symm _ (Wk.d0 _ rfl))

theorem spec_stepsLeft_F_ok {N : Nat} : ∀ (n : Nat), ∀ {p0 : Block} {p1 : Int} {r : Int}, spec_stepsLeft_F N n p0 p1 = some r → ACalls Tryz.prog 113 [(.agg [(ls eStep p0.steps), (i64 p0.result)]), (i64 p1)] [] (fun v st => v = (i64 r) ∧ st = []) := by
 intro n
 induction n with
 | zero => intro p0 p1 r h0; cases h0
 | succ n ih =>
  intro p0 p1 r h0
  rw [spec_stepsLeft_F] at h0
  exact spec_stepsLeft_B_ok (fun h => ih h) h0
theorem spec_stepsLeft_ok {N : Nat} : ∀ {p0 : Block} {p1 : Int} {r : Int}, spec_stepsLeft N p0 p1 = some r → ACalls Tryz.prog 113 [(.agg [(ls eStep p0.steps), (i64 p0.result)]), (i64 p1)] [] (fun v st => v = (i64 r) ∧ st = []) := by
 intro p0 p1 r h0
 exact spec_stepsLeft_F_ok N h0
theorem spec_stepsOf_ok {N : Nat} {p0 : Block} {r : Int} (h0 : spec_stepsOf N p0 = some r) : ACalls Tryz.prog 67 [(.agg [(ls eStep p0.steps), (i64 p0.result)])] [] (fun v st => v = (i64 r) ∧ st = []) := by
 unfold spec_stepsOf at h0
 refine ai Tryz.func67 rfl rfl rfl rfl (sr rfl fun K1 hK1 => ao_box (m := 0) (st' := [(wB13 p0)]) go0 rfl rfl rfl rfl rfl (zq tb rfl (dn hK1 rfl (sr rfl fun K2 hK2 => zq tb rfl (bs h0 fun q3 gq3 h0 => zc hb113 (spec_stepsLeft_ok gq3) rfl rfl rfl (zq tb rfl (dn hK2 rfl (AW.seq fun K4 hK4 => ?_))))))))
 refine zr tb rfl rfl ?_
 refine ci h0 rfl ?_ ?_ <;> clear h0
 ·intro b6 h0
  refine zr tb rfl rfl ?_
  replace h0 := Sh.some_eq h0
  subst r
  exact AW.ret (xr (Wk.d0 [(2, (i64 (-1)))] rfl))
 ·intro b6 h0
  refine AW.skip (hK4 _ (zr tb rfl rfl ?_))
  replace h0 := Sh.some_eq h0
  subst r
  exact AW.ret (xr (Wk.d0 [(2, (i64 (Sh.w (600 - q3))))] rfl))
theorem spec_copyInts_ok {p0 : (List Int)} {r : (List Int)} (h0 : spec_copyInts p0 = some r) : ACalls Tryz.prog 103 [(ls eI p0)] [] (fun v st => v = (ow 0 0 r) ∧ st = [(ro 0 3 1 eI r)]) := by
 unfold spec_copyInts at h0
 refine ai Tryz.func103 rfl rfl rfl rfl (zr tb rfl rfl (sr rfl fun K2 hK2 => ?_))
 refine ao_bs (m := 0) (st' := [(ro 0 3 1 eI ([] : List Int))]) (l := ([] : List Int)) (enc := eI) go0 ei37 (by decide) rfl rfl rfl rfl rfl rfl ?_
 refine zq tb rfl (bs h0 fun l3 gl3 h0 => ao_apo (st' := [(ro 1 3 1 eI l3)]) (l2 := p0) go0 ei37 rfl rfl rfl rfl el_s (fun _ => rfl) gl3 rfl (zq tb rfl (dn hK2 rfl ?_)))
 replace h0 := Sh.some_eq h0
 subst r
 exact AW.ret (xr (Wk.rg (L := [(2, (ow 0 0 l3))]) (st' := [(ro 0 3 1 eI l3)]) (.pure (pure_map fun _ => rfl) .nil) ⟨.rfl, trivial⟩))
theorem spec_hasNum_ok {p0 : Int} {r : Bool} (h0 : spec_hasNum p0 = some r) : ACalls Tryz.prog 165 [(i64 p0)] [] (fun v st => v = (.bool r) ∧ st = []) := by
 unfold spec_hasNum at h0
 refine ai Tryz.func165 rfl rfl rfl rfl (zr tb rfl rfl (AW.seq fun K2 hK2 => bs h0 fun o4 h1 h0 => ?_))
 have M4 : ∀ (t3 : Bool), o4 = t3 → ∀ s, Wk 0 s ⟨21, envL [(2, (.bool t3))], []⟩ → K2 s := by
  intro t3 hq s hw
  subst o4
  try dsimp only at h0
  refine hK2 _ (AW.weaken hw ?_)
  replace h0 := Sh.some_eq h0
  subst r
  exact AW.ret (xr (Wk.to (L := [(2, (.bool t3))]) ⟨.rfl, trivial⟩))
 refine AW.regionO rfl (zm tb 3 rfl ?_)
 rcases Sh.ite_some h1 with ⟨b5, h1⟩ | ⟨b5, h1⟩
 ·refine zs b5 rfl (zs b5 rfl (zt b5 rfl (zq tb rfl (zs rfl rfl (zs rfl rfl (zt rfl rfl (zq tb rfl (zs rfl rfl (zs rfl rfl (zt rfl rfl (zq tb rfl ?_)))))))))))
  exact zs rfl rfl (zs rfl rfl (zt rfl rfl (zq tb rfl (AO.done (M4 true (Sh.some_eq h1).symm _ (Wk.tr rfl))))))
 ·refine zg tb b5 rfl (zg tb b5 rfl (zf b5 rfl (zq tb rfl ?_)))
  rcases Sh.ite_some h1 with ⟨b6, h1⟩ | ⟨b6, h1⟩
  ·refine zs b6 rfl (zs b6 rfl (zt b6 rfl (zq tb rfl (zs rfl rfl (zs rfl rfl (zt rfl rfl (zq tb rfl (zs rfl rfl (zs rfl rfl (zt rfl rfl (zq tb rfl ?_)))))))))))
   exact AO.done (M4 true (Sh.some_eq h1).symm _ (Wk.tr rfl))
  ·refine zg tb b6 rfl (zg tb b6 rfl (zf b6 rfl (zq tb rfl ?_)))
   rcases Sh.ite_some h1 with ⟨b7, h1⟩ | ⟨b7, h1⟩
   ·exact zs b7 rfl (zs b7 rfl (zt b7 rfl (zq tb rfl (zs rfl rfl (zs rfl rfl (zt rfl rfl (zq tb rfl (AO.done (M4 true (Sh.some_eq h1).symm _ (Wk.tr rfl))))))))))
   ·refine zg tb b7 rfl (zg tb b7 rfl (zf b7 rfl (zq tb rfl ?_)))
    rcases Sh.ite_some h1 with ⟨b8, h1⟩ | ⟨b8, h1⟩
    ·exact zs b8 rfl (zs b8 rfl (zt b8 rfl (zq tb rfl (AO.done (M4 true (Sh.some_eq h1).symm _ (Wk.tr rfl))))))
    ·exact zg tb b8 rfl (zg tb b8 rfl (zf b8 rfl (zq tb rfl (AO.done (M4 (decide (p0 = 10)) (Sh.some_eq h1).symm _ (Wk.tr rfl))))))
theorem spec_validInto_ok {p0 : (List Int)} {p1 : Step} {r : Bool} (h0 : spec_validInto p0 p1 = some r) : ACalls Tryz.prog 166 [(ls eI p0), (.agg [(i64 p1.op), (i64 p1.num), (i64 p1.into), (ls eI p1.args), (ls eBlock p1.kids)])] [] (fun v st => v = (.bool r) ∧ st = []) := by
 unfold spec_validInto at h0
 refine ai Tryz.func166 rfl rfl rfl rfl (sr rfl fun K1 hK1 => ao_box (m := 0) (st' := [⟨0, 71, 5, [[(i64 p1.op), (i64 p1.num), (i64 p1.into), (ls eI p1.args), (ls eBlock p1.kids)]]⟩]) go0 rfl rfl rfl rfl rfl (zq tb rfl (dn hK1 rfl (AW.seq fun K2 hK2 => zr tb rfl rfl ?_))))
 refine ci h0 rfl ?_ ?_ <;> clear h0
 ·intro b4 h0
  refine zr tb rfl rfl ?_
  replace h0 := Sh.some_eq h0
  subst r
  exact AW.ret (xr (Wk.d0 [(4, (.bool true))] rfl))
 ·intro b4 h0
  refine AW.skip (hK2 _ (AW.seq fun K6 hK6 => bs h0 fun o8 h1 h0 => ?_))
  have M8 : ∀ (t7 : Bool), o8 = t7 → ∀ s, Wk 0 s ⟨27, envL [(4, (.bool t7))], []⟩ → K6 s := by
   intro t7 hq s hw
   subst o8
   try dsimp only at h0
   refine hK6 _ (AW.weaken hw ?_)
   replace h0 := Sh.some_eq h0
   subst r
   exact AW.ret (xr (Wk.to (L := [(4, (.bool t7))]) ⟨.rfl, trivial⟩))
  refine AW.regionO rfl (zm tb 4 rfl ?_)
  rcases Sh.ite_some h1 with ⟨b9, h1⟩ | ⟨b9, h1⟩
  ·refine zg tb b9 rfl (zg tb b9 rfl (zg tb b9 rfl (ao_q (v := (i64 (Sh.len p0))) (go1 rfl rfl b9) rfl (aq_lens sl37 rfl) (bs h1 fun q10 gq10 h1 => zd b9 hb158 (spec_inRange_ok gq10) rfl rfl rfl rfl (zt b9 rfl (zq tb rfl ?_))))))
   rcases Sh.ite_some h1 with ⟨b11, h1⟩ | ⟨b11, h1⟩
   ·refine zg tb b11 rfl ?_
    iterate 3 refine zg tb b11 rfl ?_
    exact bs h1 fun c12 gc12 h1 => ao_q (v := (.iptr (eI c12) 0)) (go1 rfl rfl b11) rfl (aq_ixs ei37 rfl rfl gc12 rfl) (zg tb b11 rfl (zg tb b11 rfl (zt b11 rfl (zq tb rfl (AO.done (M8 (decide (0 < c12)) (Sh.some_eq h1).symm _ (Wk.d0 _ rfl)))))))
   ·refine zs b11 rfl ?_
    iterate 6 refine zs b11 rfl ?_
    exact zf b11 rfl (zq tb rfl (AO.done (M8 false (Sh.some_eq h1).symm _ (Wk.d0 _ rfl))))
  ·refine zs b9 rfl ?_
   iterate 4 refine zs b9 rfl ?_
   refine zf b9 rfl (zq tb rfl ?_)
   iterate 7 refine zs rfl rfl ?_
   exact zf rfl rfl (zq tb rfl (AO.done (M8 false (Sh.some_eq h1).symm _ (Wk.d0 _ rfl))))
theorem spec_typed_ok {N : Nat} {p0 : (List Int)} {p1 : (List Int)} {p2 : (List Int)} {r : Bool} (h0 : spec_typed N p0 p1 p2 = some r) : ACalls Tryz.prog 167 [(ls eI p0), (ls eI p1), (ls eI p2)] [] (fun v st => v = (.bool r) ∧ st = []) := by
 unfold spec_typed at h0
 refine ai Tryz.func167 rfl rfl rfl rfl (zr tb rfl rfl (AW.seq fun K2 hK2 => sr rfl fun K3 hK3 => zq tb rfl (zl tb rfl rfl (zq tb rfl (zl tb rfl rfl (zq tb rfl (dn hK3 rfl ?_)))))))
 refine ci h0 rfl ?_ ?_ <;> clear h0
 ·intro b4 h0
  have b5 : decide ((Sh.len p1) = (Sh.len p2)) = false := by simpa using b4
  refine zr tb rfl rfl ?_
  replace h0 := Sh.some_eq h0
  subst r
  exact AW.ret (xr (Wk.to (L := [(6, (.bool false))]) ⟨.rfl, trivial⟩))
 ·intro b4 h0
  have b7 : decide ((Sh.len p1) = (Sh.len p2)) = true := by simpa using b4
  refine AW.skip (hK2 _ (AW.seq fun K8 hK8 => zr tb rfl rfl ?_))
  obtain ⟨o11, h1, h0⟩ := Sh.cont_some h0
  have M11 : ∀ (_ : Unit), o11 = Sum.inr () → ∀ s, Wk 0 s ⟨42, envL [], []⟩ → K8 s := by
   intro _ hq s hw
   subst o11
   try dsimp only at h0
   refine hK8 _ (AW.weaken hw (zr tb rfl rfl ?_))
   replace h0 := Sh.some_eq h0
   subst r
   exact AW.ret (xr (Wk.to (L := [(6, (.bool true))]) ⟨.rfl, trivial⟩))
  refine AW.block (AW.loopF (σ := Int) (fun n v => spec_typed_L1 p0 p1 p2 n v = some o11) (fun i10 => ⟨42, envL [(0, (ls eI p0)), (1, (ls eI p1)), (2, (ls eI p2)), (7, (i64 i10))], []⟩) N 0 h1 (Wk.tr rfl) (fun _ hv => by rw [spec_typed_L1] at hv; cases hv) ?_)
  rintro n i10 h1
  try dsimp only at h1 ⊢
  rw [spec_typed_L1] at h1
  refine AW.seq fun K13 hK13 => sr rfl fun K14 hK14 => zm tb 2 rfl (zl tb rfl rfl (zq tb rfl (dn hK14 rfl ?_)))
  refine ci h1 rfl ?_ ?_ <;> clear h1
  ·intro b15 h1
   refine AW.skip (hK13 _ (AW.seq fun K16 hK16 => AW.block (AW.seq fun K17 hK17 => bs h1 fun o19 h2 h1 => ?_)))
   have M19 : ∀ (t18 : Bool), o19 = t18 → ∀ s, Wk 0 s ⟨42, envL [(0, (ls eI p0)), (1, (ls eI p1)), (2, (ls eI p2)), (7, (i64 i10)), (41, (.bool t18))], []⟩ → K17 s := by
    intro t18 hq s hw
    subst o19
    try dsimp only at h1
    refine hK17 _ (AW.weaken hw ?_)
    refine ci h1 rfl ?_ ?_ <;> clear h1
    ·intro b20 h1
     refine zr tb rfl rfl ?_
     replace h1 := Sh.some_eq h1
     subst o11
     try dsimp only [id] at h0
     replace h0 := Sh.some_eq h0
     subst r
     exact AW.ret (xr (Wk.to (L := [(6, (.bool false))]) ⟨.rfl, trivial⟩))
    ·intro b20 h1
     exact AW.skip (hK16 _ (AW.regionO rfl (zm tb 3 rfl (AO.done (xi (Sh.w (i10 + 1)) h1 (Wk.tr rfl))))))
   refine AW.draw (by kernel_rfl) (by kernel_rfl) (by rfl) ?_
   iterate 2 refine yq tb rfl ?_
   refine bs h2 fun c22 gc22 h2 => yx ei37 gc22 rfl rfl rfl ?_
   iterate 2 refine yq tb rfl ?_
   refine yl tb rfl rfl (yq tb rfl (bs h2 fun q23 gq23 h2 => d_call (v := (.bool q23)) go0 hb158 (spec_inRange_ok gq23) rfl rfl rfl ?_))
   iterate 2 refine yq tb rfl ?_
   rcases Sh.ite_some h2 with ⟨b24, h2⟩ | ⟨b24, h2⟩
   ·refine ys b24 rfl ?_
    iterate 11 refine ys b24 rfl ?_
    exact yt b24 rfl (d_done (M19 true (Sh.some_eq h2).symm _ (Wk.tr rfl)))
   ·refine yg tb b24 rfl ?_
    iterate 2 refine yg tb b24 rfl ?_
    refine d_q (v := (.iptr (eI c22) 0)) (go1 rfl rfl b24) rfl (aq_ixs ei37 rfl rfl gc22 rfl) (yg tb b24 rfl (bs h2 fun c25 gc25 h2 => d_q (v := (.iptr (eI c25) 0)) (go1 rfl rfl b24) rfl (aq_ixs ei37 rfl rfl gc25 rfl) ?_))
    iterate 3 refine yg tb b24 rfl ?_
    refine bs h2 fun c26 gc26 h2 => d_q (v := (.iptr (eI c26) 0)) (go1 rfl rfl b24) rfl (aq_ixs ei37 rfl rfl gc26 rfl) ?_
    iterate 2 refine yg tb b24 rfl ?_
    exact yf b24 rfl (d_done (M19 (!decide (c25 = c26)) (Sh.some_eq h2).symm _ (Wk.tr rfl)))
  ·intro b15 h1
   exact AW.exit (M11 () (Sh.some_eq h1).symm _ (Wk.tr rfl))
theorem spec_firstCon_ok {N : Nat} {p0 : (List RDecl)} {p1 : Int} {r : Int} (h0 : spec_firstCon N p0 p1 = some r) : ACalls Tryz.prog 207 [(ls eRDecl p0), (i64 p1)] [] (fun v st => v = (i64 r) ∧ st = []) := by
 unfold spec_firstCon at h0
 refine ai Tryz.func207 rfl rfl rfl rfl ?_
 iterate 2 refine zr tb rfl rfl ?_
 refine AW.seq fun K3 hK3 => zr tb rfl rfl (bs h0 fun o8 h1 h0 => ?_)
 have M8 : ∀ (n7 : Int), o8 = n7 → ∀ s, Wk 0 s ⟨21, envL [(5, (i64 n7))], []⟩ → K3 s := by
  intro n7 hq s hw
  subst o8
  try dsimp only at h0
  refine hK3 _ (AW.weaken hw (zr tb rfl rfl ?_))
  replace h0 := Sh.some_eq h0
  subst r
  exact AW.ret (xr (Wk.to (L := [(4, (i64 n7))]) ⟨.rfl, trivial⟩))
 refine AW.block (AW.loopF (σ := Int × Int) (fun n v => spec_firstCon_L1 p0 p1 n v.1 v.2 = some o8) (fun (n5, i6) => ⟨21, envL [(0, (ls eRDecl p0)), (1, (i64 p1)), (5, (i64 n5)), (6, (i64 i6))], []⟩) N (0, 0) h1 (Wk.tr rfl) (fun _ hv => by rw [spec_firstCon_L1] at hv; cases hv) ?_)
 rintro n ⟨n5, i6⟩ h1
 try dsimp only at h1 ⊢
 rw [spec_firstCon_L1] at h1
 refine AW.seq fun K10 hK10 => zr tb rfl rfl ?_
 refine ci h1 rfl ?_ ?_ <;> clear h1
 ·intro b12 h1
  refine AW.skip (hK10 _ (AW.seq fun K13 hK13 => AW.block (AW.regionO rfl (zm tb 3 rfl (bs h1 fun c14 gc14 h1 => zx ei27 gc14 rfl rfl rfl (zm tb 2 rfl (zl tb rfl rfl (zm tb 2 rfl (dn hK13 rfl (AW.regionO rfl ?_))))))))))
  exact zm tb 3 rfl (AO.done (xi (Sh.w (n5 + (Sh.len c14.cons)), Sh.w (i6 + 1)) h1 (Wk.tr rfl)))
 ·intro b12 h1
  exact AW.exit (M8 n5 (Sh.some_eq h1).symm _ (Wk.tr rfl))
theorem spec_conType_ok {N : Nat} {p0 : (List RDecl)} {p1 : Int} {r : Int} (h0 : spec_conType N p0 p1 = some r) : ACalls Tryz.prog 168 [(ls eRDecl p0), (i64 p1)] [] (fun v st => v = (i64 r) ∧ st = []) := by
 unfold spec_conType at h0
 refine ai Tryz.func168 rfl rfl rfl rfl (zr tb rfl rfl (AW.seq fun K2 hK2 => zr tb rfl rfl ?_))
 obtain ⟨o5, h1, h0⟩ := Sh.cont_some h0
 have M5 : ∀ (_ : Unit), o5 = Sum.inr () → ∀ s, Wk 0 s ⟨30, envL [], []⟩ → K2 s := by
  intro _ hq s hw
  subst o5
  try dsimp only at h0
  refine hK2 _ (AW.weaken hw (zr tb rfl rfl ?_))
  replace h0 := Sh.some_eq h0
  subst r
  exact AW.ret (xr (Wk.to (L := [(4, (i64 (-1)))]) ⟨.rfl, trivial⟩))
 refine AW.block (AW.loopF (σ := Int) (fun n v => spec_conType_L1 N p0 p1 n v = some o5) (fun i4 => ⟨30, envL [(0, (ls eRDecl p0)), (1, (i64 p1)), (5, (i64 i4))], []⟩) N 0 h1 (Wk.tr rfl) (fun _ hv => by rw [spec_conType_L1] at hv; cases hv) ?_)
 rintro n i4 h1
 try dsimp only at h1 ⊢
 rw [spec_conType_L1] at h1
 refine AW.seq fun K7 hK7 => sr rfl fun K8 hK8 => zm tb 2 rfl (zl tb rfl rfl (zq tb rfl (dn hK8 rfl ?_)))
 refine ci h1 rfl ?_ ?_ <;> clear h1
 ·intro b9 h1
  refine AW.skip (hK7 _ (AW.seq fun K10 hK10 => AW.block (sr rfl fun K11 hK11 => zm tb 2 rfl (bs h1 fun q12 gq12 h1 => zc hb207 (spec_firstCon_ok gq12) rfl rfl rfl (zq tb rfl (dn hK11 rfl (sr rfl fun K13 hK13 => zm tb 5 rfl (bs h1 fun c14 gc14 h1 => ?_))))))))
  refine zx ei27 gc14 rfl rfl rfl (zm tb 2 rfl (zl tb rfl rfl (zm tb 2 rfl (bs h1 fun q15 gq15 h1 => zc hb158 (spec_inRange_ok gq15) rfl rfl rfl (dn hK13 rfl ?_)))))
  refine ci h1 rfl ?_ ?_ <;> clear h1
  ·intro b16 h1
   refine zr tb rfl rfl ?_
   replace h1 := Sh.some_eq h1
   subst o5
   try dsimp only [id] at h0
   replace h0 := Sh.some_eq h0
   subst r
   exact AW.ret (xr (Wk.to (L := [(4, (i64 (Sh.w (i4 + 1))))]) ⟨.rfl, trivial⟩))
  ·intro b16 h1
   exact AW.skip (hK10 _ (AW.regionO rfl (zm tb 3 rfl (AO.done (xi (Sh.w (i4 + 1)) h1 (Wk.tr rfl))))))
 ·intro b9 h1
  exact AW.exit (M5 () (Sh.some_eq h1).symm _ (Wk.tr rfl))
theorem spec_conFields_ok {N : Nat} {p0 : (List RDecl)} {p1 : Int} {r : (List Int)} (h0 : spec_conFields N p0 p1 = some r) : ACalls Tryz.prog 169 [(ls eRDecl p0), (i64 p1)] [] (fun v st => v = (ls eI r) ∧ st = []) := by
 unfold spec_conFields at h0
 refine ai Tryz.func169 rfl rfl rfl rfl (zr tb rfl rfl (sr rfl fun K2 hK2 => zm tb 2 rfl (bs h0 fun q3 gq3 h0 => zc hb168 (spec_conType_ok gq3) rfl rfl rfl (zq tb rfl (dn hK2 rfl (AW.seq fun K4 hK4 => zr tb rfl rfl ?_))))))
 refine ci h0 rfl ?_ ?_ <;> clear h0
 ·intro b6 h0
  refine sr rfl fun K7 hK7 => ?_
  refine ao_bs (m := 0) (st' := [(ro 0 3 1 eI ([] : List Int))]) (l := ([] : List Int)) (enc := eI) go0 ei37 (by decide) rfl rfl rfl rfl rfl rfl ?_
  refine zq tb rfl (dn hK7 rfl ?_)
  replace h0 := Sh.some_eq h0
  subst r
  exact AW.ret (Exists.intro ⟨27, envL [(4, (.sl (List.map eI [])))], []⟩ (And.intro (by refine Wk.trans (Wk.frz (L := [(4, (.sl (List.map eI [])))]) (st' := [⟨1, 3, 1, []⟩]) (id := 0) rfl (show 0 ≤ 0 by decide) (pure_map fun _ => rfl) ⟨(.frz rfl), trivial⟩ rfl) ?_; refine Wk.trans (Wk.permk (L := [(4, (.sl (List.map eI [])))]) (st' := []) (st1 := []) [] rfl .nil (by decide) rfl rfl .nil ⟨.rfl, trivial⟩) ?_; exact Wk.to (L := [(4, (.sl (List.map eI [])))]) ⟨.rfl, trivial⟩) (And.intro rfl rfl)))
 ·intro b6 h0
  refine AW.skip (hK4 _ (AW.seq fun K8 hK8 => ?_))
  refine AW.draw (by kernel_rfl) (by kernel_rfl) (by rfl) ?_
  iterate 3 refine yq tb rfl ?_
  refine bs h0 fun c9 gc9 h0 => yx ei27 gc9 rfl rfl rfl ?_
  iterate 6 refine yq tb rfl ?_
  refine bs h0 fun q10 gq10 h0 => d_call (v := (i64 q10)) go0 hb207 (spec_firstCon_ok gq10) rfl rfl rfl (yq tb rfl (bs h0 fun c11 gc11 h0 => yx ei96 gc11 rfl rfl rfl ?_))
  iterate 3 refine yq tb rfl ?_
  refine d_done (hK8 _ ?_)
  replace h0 := Sh.some_eq h0
  subst r
  exact AW.ret (xr (Wk.to (L := [(4, (ls eI c11.fields))]) ⟨.rfl, trivial⟩))
theorem spec_consOf_ok {N : Nat} {p0 : (List RDecl)} {p1 : Int} {r : (List Int)} (h0 : spec_consOf N p0 p1 = some r) : ACalls Tryz.prog 175 [(ls eRDecl p0), (i64 p1)] [] (fun v st => v = (ow 0 0 r) ∧ st = [(ro 0 3 1 eI r)]) := by
 unfold spec_consOf at h0
 refine ai Tryz.func175 rfl rfl rfl rfl (zr tb rfl rfl (sr rfl fun K2 hK2 => ?_))
 refine ao_bs (m := 0) (st' := [(ro 0 3 1 eI ([] : List Int))]) (l := ([] : List Int)) (enc := eI) go0 ei37 (by decide) rfl rfl rfl rfl rfl rfl ?_
 refine zq tb rfl (dn hK2 rfl (AW.seq fun K3 hK3 => sr rfl fun K4 hK4 => zm tb 2 rfl (zl tb rfl rfl (bs h0 fun q5 gq5 h0 => zc hb158 (spec_inRange_ok gq5) rfl rfl rfl (zq tb rfl (dn hK4 rfl ?_))))))
 refine ci h0 rfl ?_ ?_ <;> clear h0
 ·intro b6 h0
  have b7 : q5 = false := by simpa using b6
  refine zr tb rfl rfl ?_
  replace h0 := Sh.some_eq h0
  subst r
  exact AW.ret (xr (Wk.to (L := [(4, (.own 0 0 (List.length ([] : List Int))))]) ⟨.rfl, trivial⟩))
 ·intro b6 h0
  have b9 : q5 = true := by simpa using b6
  refine AW.skip (hK3 _ (AW.seq fun K10 hK10 => zr tb rfl rfl (bs h0 fun o15 h1 h0 => ?_)))
  have M15 : ∀ (l14 : (List Int)), o15 = l14 → ∀ s, Wk 0 s ⟨35, envL [(5, (ow 0 0 l14))], [(ro 0 3 1 eI l14)]⟩ → K10 s := by
   intro l14 hq s hw
   subst o15
   try dsimp only at h0
   refine hK10 _ (AW.weaken hw (zr tb rfl rfl ?_))
   replace h0 := Sh.some_eq h0
   subst r
   exact AW.ret (xr (Wk.to (L := [(4, (ow 0 0 l14))]) ⟨.rfl, trivial⟩))
  refine AW.block (AW.loopF (σ := Int × (List Int)) (fun n v => spec_consOf_L1 N p0 p1 n v.1 v.2 = some o15) (fun (i12, l13) => ⟨35, envL [(0, (ls eRDecl p0)), (1, (i64 p1)), (5, (ow 0 0 l13)), (6, (i64 i12))], [(ro 0 3 1 eI l13)]⟩) N (0, []) h1 (Wk.tr rfl) (fun _ hv => by rw [spec_consOf_L1] at hv; cases hv) ?_)
  rintro n ⟨i12, l13⟩ h1
  try dsimp only at h1 ⊢
  rw [spec_consOf_L1] at h1
  refine AW.seq fun K17 hK17 => sr rfl fun K18 hK18 => zm tb 4 rfl (bs h1 fun c19 gc19 h1 => zx ei27 gc19 rfl rfl rfl (zm tb 2 rfl (zl tb rfl rfl (zq tb rfl (dn hK18 rfl ?_)))))
  refine ci h1 rfl ?_ ?_ <;> clear h1
  ·intro b20 h1
   refine AW.skip (hK17 _ (AW.seq fun K21 hK21 => AW.block (AW.regionO rfl (zm tb 4 rfl (bs h1 fun q22 gq22 h1 => zc hb207 (spec_firstCon_ok gq22) rfl rfl rfl (zm tb 2 rfl ?_))))))
   refine ao_bs (m := 1) (st' := [(ro 0 3 1 eI l13), (ro 0 3 1 eI [Sh.w (q22 + i12)])]) (l := [Sh.w (q22 + i12)]) (enc := eI) go0 ei37 (by decide) rfl rfl rfl rfl rfl rfl ?_
   refine bs h1 fun l23 gl23 h1 => ao_apo (st' := [(ro 1 3 1 eI l23), (ro 0 3 1 eI [Sh.w (q22 + i12)])]) (l2 := [Sh.w (q22 + i12)]) go0 ei37 rfl rfl rfl rfl (el_o rfl rfl) (fun _ => rfl) gl23 rfl (zq tb rfl (dn hK21 rfl (AW.regionO rfl (zm tb 3 rfl ?_))))
   exact AO.done (xi (Sh.w (i12 + 1), l23) h1 (by refine Wk.trans (Wk.rg (L := [(0, (ls eRDecl p0)), (1, (i64 p1)), (5, (ow 0 0 l23)), (6, (i64 (Sh.w (i12 + 1))))]) (st' := [(ro 0 3 1 eI l23), (ro 0 3 1 eI [Sh.w (q22 + i12)])]) (.pure (pure_map fun _ => rfl) (.pure (pure_map fun _ => rfl) .nil)) ⟨.rfl, .rfl, .rfl, .rfl, trivial⟩) ?_; exact Wk.permk (L := [(0, (ls eRDecl p0)), (1, (i64 p1)), (5, (ow 0 0 l23)), (6, (i64 (Sh.w (i12 + 1))))]) (st' := [(ro 0 3 1 eI l23)]) (st1 := [(ro 0 3 1 eI l23)]) [0] rfl .nil (by decide) rfl rfl (.pure (pure_map fun _ => rfl) .nil) ⟨.rfl, .rfl, .rfl, .rfl, trivial⟩))
  ·intro b20 h1
   exact AW.exit (M15 l13 (Sh.some_eq h1).symm _ (Wk.tr rfl))
theorem spec_extend_ok {p0 : (List Int)} {p1 : (List Int)} {r : (List Int)} (h0 : spec_extend p0 p1 = some r) : ACalls Tryz.prog 176 [(ls eI p0), (ls eI p1)] [] (fun v st => v = (ow 0 0 r) ∧ st = [(ro 0 3 1 eI r)]) := by
 unfold spec_extend at h0
 refine ai Tryz.func176 rfl rfl rfl rfl (zr tb rfl rfl (sr rfl fun K2 hK2 => zq tb rfl (bs h0 fun q3 gq3 h0 => ao_call (v' := (ow 0 0 q3)) (st' := [(ro 0 3 1 eI q3)]) go0 hb103 (spec_copyInts_ok gq3) rfl rfl ⟨(pure_map' fun _ => rfl), trivial⟩ rfl rfl (zq tb rfl (bs h0 fun l4 gl4 h0 => ao_apo (st' := [(ro 1 3 1 eI l4)]) (l2 := p1) go0 ei37 rfl rfl rfl rfl el_s (fun _ => rfl) gl4 rfl (zq tb rfl (dn hK2 rfl ?_)))))))
 replace h0 := Sh.some_eq h0
 subst r
 exact AW.ret (xr (Wk.rg (L := [(4, (ow 0 0 l4))]) (st' := [(ro 0 3 1 eI l4)]) (.pure (pure_map fun _ => rfl) .nil) ⟨.rfl, trivial⟩))
noncomputable abbrev wB14 (p2 : Step) : Go.Abs.Row := ⟨0, 71, 5, [[(i64 p2.op), (i64 p2.num), (i64 p2.into), (ls eI p2.args), (ls eBlock p2.kids)]]⟩
theorem spec_kidsType_ok {N : Nat} {rec_spec_blockType : RNormal → (List Int) → Block → Option (Int)} (hrec_spec_blockType : ∀ {p0 : RNormal} {p1 : (List Int)} {p2 : Block} {r : Int}, rec_spec_blockType p0 p1 p2 = some r → ACalls Tryz.prog 100 [(.agg [(ls eRDecl p0.decls), (ls eRRoutine p0.routines)]), (ls eI p1), (.agg [(ls eStep p2.steps), (i64 p2.result)])] [] (fun v st => v = (i64 r) ∧ st = [])) {p0 : RNormal} {p1 : (List Int)} {p2 : Step} {r : Int} (h0 : spec_kidsType N rec_spec_blockType p0 p1 p2 = some r) : ACalls Tryz.prog 170 [(.agg [(ls eRDecl p0.decls), (ls eRRoutine p0.routines)]), (ls eI p1), (.agg [(i64 p2.op), (i64 p2.num), (i64 p2.into), (ls eI p2.args), (ls eBlock p2.kids)])] [] (fun v st => v = (i64 r) ∧ st = []) := by
 unfold spec_kidsType at h0
 refine ai Tryz.func170 rfl rfl rfl rfl (sr rfl fun K1 hK1 => ao_box (m := 0) (st' := [(wB11 p0)]) go0 rfl rfl rfl rfl rfl (ao_box (m := 1) (st' := [(wB11 p0), (wB14 p2)]) go0 rfl rfl rfl rfl rfl (zq tb rfl (dn hK1 rfl (sr rfl fun K2 hK2 => zm tb 4 rfl (bs h0 fun q3 gq3 h0 => ao_call (v' := (ow 2 0 q3)) (st' := [(wB11 p0), (wB14 p2), (ro 0 3 1 eI q3)]) go0 hb175 (spec_consOf_ok gq3) rfl rfl ⟨(pure_map' fun _ => rfl), trivial⟩ rfl rfl (zq tb rfl (dn hK2 rfl ?_))))))))
 refine sr rfl fun K4 hK4 => zq tb rfl (zz (i64 (Sh.len q3)) (aq_leno sl37 rfl rfl rfl) rfl (zq tb rfl (dn hK4 rfl (AW.seq fun K5 hK5 => bs h0 fun o7 h1 h0 => ?_))))
 have M7 : ∀ (many6 : Int), o7 = many6 → ∀ s, Wk 0 s ⟨71, envL [(1, (ls eI p1)), (3, (.ptr 0 0 0 0)), (5, (.ptr 1 0 0 0)), (7, (ow 2 0 q3)), (8, (i64 many6))], [(wB11 p0), (wB14 p2), (ro 0 3 1 eI q3)]⟩ → K5 s := by
  intro many6 hq s hw
  subst o7
  try dsimp only at h0
  refine hK5 _ (AW.weaken hw (AW.seq fun K8 hK8 => AW.seq fun K9 hK9 => bs h0 fun o11 h1 h0 => ?_))
  have M11 : ∀ (t10 : Bool), o11 = t10 → ∀ s, Wk 0 s ⟨71, envL [(1, (ls eI p1)), (3, (.ptr 0 0 0 0)), (5, (.ptr 1 0 0 0)), (7, (ow 2 0 q3)), (8, (i64 many6)), (31, (.bool t10))], [(wB11 p0), (wB14 p2), (ro 0 3 1 eI q3)]⟩ → K9 s := by
   intro t10 hq s hw
   subst o11
   try dsimp only at h0
   refine hK9 _ (AW.weaken hw ?_)
   refine ci h0 rfl ?_ ?_ <;> clear h0
   ·intro b12 h0
    refine zr tb rfl rfl ?_
    replace h0 := Sh.some_eq h0
    subst r
    exact AW.ret (xr (Wk.d0 [(6, (i64 (-1)))] rfl))
   ·intro b12 h0
    refine AW.skip (hK8 _ (zr tb rfl rfl (AW.seq fun K15 hK15 => zr tb rfl rfl ?_)))
    obtain ⟨o20, h1, h0⟩ := Sh.cont_some h0
    have M20 : ∀ (t19 : Int), o20 = Sum.inr t19 → ∀ s, Wk 0 s ⟨71, envL [(9, (i64 t19))], []⟩ → K15 s := by
     intro t19 hq s hw
     subst o20
     try dsimp only at h0
     refine hK15 _ (AW.weaken hw (zr tb rfl rfl ?_))
     replace h0 := Sh.some_eq h0
     subst r
     exact AW.ret (xr (Wk.to (L := [(6, (i64 t19))]) ⟨.rfl, trivial⟩))
    refine AW.block (AW.loopF (σ := Int × Int) (fun n v => spec_kidsType_L1 N many6 p0 p1 p2 q3 rec_spec_blockType n v.1 v.2 = some o20) (fun (t17, i18) => ⟨71, envL [(1, (ls eI p1)), (3, (.ptr 0 0 0 0)), (5, (.ptr 1 0 0 0)), (7, (ow 2 0 q3)), (8, (i64 many6)), (9, (i64 t17)), (10, (i64 i18))], [(wB11 p0), (wB14 p2), (ro 0 3 1 eI q3)]⟩) N (0, 0) h1 (Wk.tr rfl) (fun _ hv => by rw [spec_kidsType_L1] at hv; cases hv) ?_)
    rintro n ⟨t17, i18⟩ h1
    try dsimp only at h1 ⊢
    rw [spec_kidsType_L1] at h1
    refine AW.seq fun K22 hK22 => zr tb rfl rfl ?_
    refine ci h1 rfl ?_ ?_ <;> clear h1
    ·intro b24 h1
     refine AW.skip (hK22 _ (AW.seq fun K25 hK25 => AW.block (zr tb rfl rfl (AW.seq fun K27 hK27 => bs h1 fun o29 h2 h1 => ?_))))
     have M29 : ∀ (inner28 : (List Int)), o29 = inner28 → ∀ s, Wk 0 s ⟨71, envL [(1, (ls eI p1)), (3, (.ptr 0 0 0 0)), (5, (.ptr 1 0 0 0)), (7, (ow 2 0 q3)), (8, (i64 many6)), (9, (i64 t17)), (10, (i64 i18)), (11, (ls eI inner28))], [(wB11 p0), (wB14 p2), (ro 0 3 1 eI q3)]⟩ → K27 s := by
      intro inner28 hq s hw
      subst o29
      try dsimp only at h1
      refine hK27 _ (AW.weaken hw (AW.seq fun K30 hK30 => ?_))
      refine AW.draw (by kernel_rfl) (by kernel_rfl) (by rfl) ?_
      iterate 5 refine yq tb rfl ?_
      refine bs h1 fun c31 gc31 h1 => yx ei69 gc31 rfl rfl rfl (yq tb rfl (bs h1 fun q32 gq32 h1 => d_call (v := (i64 q32)) go0 hb100 (hrec_spec_blockType gq32) rfl rfl rfl (yq tb rfl (d_done (hK30 _ (AW.seq fun K33 hK33 => AW.seq fun K34 hK34 => bs h1 fun o36 h2 h1 => ?_))))))
      have M36 : ∀ (t35 : Bool), o36 = t35 → ∀ s, Wk 0 s ⟨71, envL [(1, (ls eI p1)), (3, (.ptr 0 0 0 0)), (5, (.ptr 1 0 0 0)), (7, (ow 2 0 q3)), (8, (i64 many6)), (10, (i64 i18)), (12, (i64 q32)), (68, (.bool t35))], [(wB11 p0), (wB14 p2), (ro 0 3 1 eI q3)]⟩ → K34 s := by
       intro t35 hq s hw
       subst o36
       try dsimp only at h1
       refine hK34 _ (AW.weaken hw ?_)
       refine ci h1 rfl ?_ ?_ <;> clear h1
       ·intro b37 h1
        refine zr tb rfl rfl ?_
        replace h1 := Sh.some_eq h1
        subst o20
        try dsimp only [id] at h0
        replace h0 := Sh.some_eq h0
        subst r
        exact AW.ret (xr (Wk.d0 [(6, (i64 (-1)))] rfl))
       ·intro b37 h1
        exact AW.skip (hK33 _ (AW.regionO rfl (zm tb 2 rfl (dn hK25 rfl (AW.regionO rfl (zm tb 3 rfl (AO.done (xi (q32, Sh.w (i18 + 1)) h1 (Wk.tr rfl)))))))))
      refine AW.regionO rfl (zm tb 3 rfl ?_)
      rcases Sh.ite_some h2 with ⟨b39, h2⟩ | ⟨b39, h2⟩
      ·refine zs b39 rfl (zs b39 rfl (zs b39 rfl ?_))
       iterate 3 refine zn rfl ?_
       exact zs b39 rfl (zt b39 rfl (AO.done (M36 true (Sh.some_eq h2).symm _ (Wk.tr rfl))))
      ·refine zg tb b39 rfl (zg tb b39 rfl (zg tb b39 rfl ?_))
       rcases Sh.ite_some h2 with ⟨b40, h2⟩ | ⟨b40, h2⟩
       ·exact zg tb b40 rfl (zg tb b40 rfl (zg tb b40 rfl (ao_q (v := (.bool (!decide (q32 = t17)))) (go1 rfl rfl b39) rfl (aq_pkt rfl b40 rfl) (zf b39 rfl (AO.done (M36 (!decide (q32 = t17)) (Sh.some_eq h2).symm _ (Wk.tr rfl)))))))
       ·exact zs b40 rfl (zs b40 rfl (zs b40 rfl (ao_q (v := (.bool false)) (go1 rfl rfl b39) rfl (aq_pkf rfl b40 rfl) (zf b39 rfl (AO.done (M36 false (Sh.some_eq h2).symm _ (Wk.tr rfl)))))))
     refine zr tb rfl rfl ?_
     refine ci h2 rfl ?_ ?_ <;> clear h2
     ·intro b42 h2
      refine AW.drawTailO 9 (by kernel_rfl) (by kernel_rfl) (by rfl) ?_
      iterate 5 refine yq tb rfl ?_
      refine bs h2 fun c43 gc43 h2 => yz (.ptr 2 0 (Int.toNat i18) 0) (aq_ixo ei37 rfl rfl rfl rfl gc43) rfl (yz (i64 c43) (aq_ldp ti3 rfl rfl (map_get gc43) rfl) rfl (bs h2 fun q44 gq44 h2 => d_call (v := (ls eI q44)) go0 hb169 (spec_conFields_ok gq44) rfl rfl rfl (bs h2 fun q45 gq45 h2 => ?_)))
      refine d_call (v := (ls eI q45)) go0 hb176 (ACalls.wk (spec_extend_ok gq45) (by refine Wk.trans (Wk.frz (L := [(0, (ls eI q45))]) (st' := [⟨1, 3, 1, []⟩]) (id := 0) rfl (show 0 ≤ 0 by decide) (pure_map fun _ => rfl) ⟨(.frz rfl), trivial⟩ rfl) ?_; refine Wk.trans (Wk.permk (L := [(0, (ls eI q45))]) (st' := []) (st1 := []) [] rfl .nil (by decide) rfl rfl .nil ⟨.rfl, trivial⟩) ?_; exact Wk.to (L := [(0, (ls eI q45))]) ⟨.rfl, trivial⟩)) rfl rfl rfl ?_
      exact d_done (zq tb rfl (AO.done (M29 q45 (Sh.some_eq h2).symm _ (Wk.tr rfl))))
     ·intro b42 h2
      exact AW.skip (M29 p1 (Sh.some_eq h2).symm _ (Wk.tr rfl))
    ·intro b24 h1
     exact AW.exit (M20 t17 (Sh.some_eq h1).symm _ (Wk.d0 _ rfl))
  refine AW.regionO rfl (zm tb 3 rfl ?_)
  rcases Sh.ite_some h1 with ⟨b46, h1⟩ | ⟨b46, h1⟩
  ·refine zs b46 rfl ?_
   iterate 4 refine zs b46 rfl ?_
   exact zt b46 rfl (AO.done (M11 true (Sh.some_eq h1).symm _ (Wk.tr rfl)))
  ·exact zg tb b46 rfl (zg tb b46 rfl (ao_q (v := (i64 (Sh.len p2.kids))) (go1 rfl rfl b46) rfl (aq_lens sl69 rfl) (zg tb b46 rfl (zg tb b46 rfl (zf b46 rfl (AO.done (M11 (!decide ((Sh.len p2.kids) = many6)) (Sh.some_eq h1).symm _ (Wk.tr rfl))))))))
 refine zr tb rfl rfl ?_
 refine ci h1 rfl ?_ ?_ <;> clear h1
 ·intro b48 h1
  exact AW.regionO rfl (zq tb rfl (AO.done (M7 2 (Sh.some_eq h1).symm _ (Wk.tr rfl))))
 ·intro b48 h1
  exact AW.skip (M7 (Sh.len q3) (Sh.some_eq h1).symm _ (Wk.tr rfl))
theorem spec_arrowOf_ok {N : Nat} {p0 : (List RDecl)} {p1 : Int} {p2 : Int} {r : Int} (h0 : spec_arrowOf N p0 p1 p2 = some r) : ACalls Tryz.prog 208 [(ls eRDecl p0), (i64 p1), (i64 p2)] [] (fun v st => v = (i64 r) ∧ st = []) := by
 unfold spec_arrowOf at h0
 refine ai Tryz.func208 rfl rfl rfl rfl (zr tb rfl rfl (AW.seq fun K2 hK2 => zr tb rfl rfl ?_))
 obtain ⟨o5, h1, h0⟩ := Sh.cont_some h0
 have M5 : ∀ (_ : Unit), o5 = Sum.inr () → ∀ s, Wk 0 s ⟨41, envL [], []⟩ → K2 s := by
  intro _ hq s hw
  subst o5
  try dsimp only at h0
  refine hK2 _ (AW.weaken hw (zr tb rfl rfl ?_))
  replace h0 := Sh.some_eq h0
  subst r
  exact AW.ret (xr (Wk.to (L := [(6, (i64 (-1)))]) ⟨.rfl, trivial⟩))
 refine AW.block (AW.loopF (σ := Int) (fun n v => spec_arrowOf_L1 p0 p1 p2 n v = some o5) (fun i4 => ⟨41, envL [(0, (ls eRDecl p0)), (1, (i64 p1)), (2, (i64 p2)), (7, (i64 i4))], []⟩) N 0 h1 (Wk.tr rfl) (fun _ hv => by rw [spec_arrowOf_L1] at hv; cases hv) ?_)
 rintro n i4 h1
 try dsimp only at h1 ⊢
 rw [spec_arrowOf_L1] at h1
 refine AW.seq fun K7 hK7 => sr rfl fun K8 hK8 => zm tb 2 rfl (zl tb rfl rfl (zq tb rfl (dn hK8 rfl ?_)))
 refine ci h1 rfl ?_ ?_ <;> clear h1
 ·intro b9 h1
  refine AW.skip (hK7 _ (AW.seq fun K10 hK10 => AW.block (AW.seq fun K11 hK11 => bs h1 fun o13 h2 h1 => ?_)))
  have M13 : ∀ (t12 : Bool), o13 = t12 → ∀ s, Wk 0 s ⟨41, envL [(0, (ls eRDecl p0)), (1, (i64 p1)), (2, (i64 p2)), (7, (i64 i4)), (38, (.bool t12))], []⟩ → K11 s := by
   intro t12 hq s hw
   subst o13
   try dsimp only at h1
   refine hK11 _ (AW.weaken hw ?_)
   refine ci h1 rfl ?_ ?_ <;> clear h1
   ·intro b14 h1
    refine zr tb rfl rfl ?_
    replace h1 := Sh.some_eq h1
    subst o5
    try dsimp only [id] at h0
    replace h0 := Sh.some_eq h0
    subst r
    exact AW.ret (xr (Wk.to (L := [(6, (i64 (Sh.w (i4 + 1))))]) ⟨.rfl, trivial⟩))
   ·intro b14 h1
    exact AW.skip (hK10 _ (AW.regionO rfl (zm tb 3 rfl (AO.done (xi (Sh.w (i4 + 1)) h1 (Wk.tr rfl))))))
  refine AW.regionO rfl (zm tb 2 rfl (bs h2 fun c16 gc16 h2 => zx ei27 gc16 rfl rfl rfl (zm tb 2 rfl (zl tb rfl rfl (zm tb 2 rfl ?_)))))
  rcases Sh.ite_some h2 with ⟨b17, h2⟩ | ⟨b17, h2⟩
  ·refine zg tb b17 rfl (zg tb b17 rfl (ao_q (v := (.iptr (eRDecl c16) 0)) (go1 rfl rfl b17) rfl (aq_ixs ei27 rfl rfl gc16 rfl) ?_))
   iterate 4 refine zg tb b17 rfl ?_
   refine zt b17 rfl (zq tb rfl ?_)
   rcases Sh.ite_some h2 with ⟨b18, h2⟩ | ⟨b18, h2⟩
   ·refine zg tb b18 rfl (zg tb b18 rfl (ao_q (v := (.iptr (eRDecl c16) 0)) (go1 rfl rfl b18) rfl (aq_ixs ei27 rfl rfl gc16 rfl) ?_))
    iterate 4 refine zg tb b18 rfl ?_
    exact zt b18 rfl (AO.done (M13 (decide (c16.to = p2)) (Sh.some_eq h2).symm _ (Wk.tr rfl)))
   ·refine zs b18 rfl ?_
    iterate 6 refine zs b18 rfl ?_
    exact zf b18 rfl (AO.done (M13 false (Sh.some_eq h2).symm _ (Wk.tr rfl)))
  ·refine zs b17 rfl ?_
   iterate 6 refine zs b17 rfl ?_
   refine zf b17 rfl (zq tb rfl ?_)
   iterate 7 refine zs rfl rfl ?_
   exact zf rfl rfl (AO.done (M13 false (Sh.some_eq h2).symm _ (Wk.tr rfl)))
 ·intro b9 h1
  exact AW.exit (M5 () (Sh.some_eq h1).symm _ (Wk.tr rfl))
theorem spec_routineType_ok {N : Nat} {p0 : RNormal} {p1 : (List Int)} {p2 : Step} {r : Int} (h0 : spec_routineType N p0 p1 p2 = some r) : ACalls Tryz.prog 171 [(.agg [(ls eRDecl p0.decls), (ls eRRoutine p0.routines)]), (ls eI p1), (.agg [(i64 p2.op), (i64 p2.num), (i64 p2.into), (ls eI p2.args), (ls eBlock p2.kids)])] [] (fun v st => v = (i64 r) ∧ st = []) := by
 unfold spec_routineType at h0
 refine ai Tryz.func171 rfl rfl rfl rfl (sr rfl fun K1 hK1 => ao_box (m := 0) (st' := [(wB11 p0)]) go0 rfl rfl rfl rfl rfl (ao_box (m := 1) (st' := [(wB11 p0), (wB14 p2)]) go0 rfl rfl rfl rfl rfl (zq tb rfl (dn hK1 rfl (AW.seq fun K2 hK2 => sr rfl fun K3 hK3 => zm tb 4 rfl (zl tb rfl rfl (zq tb rfl (bs h0 fun q4 gq4 h0 => ?_))))))))
 refine zc hb158 (spec_inRange_ok gq4) rfl rfl rfl (zq tb rfl (dn hK3 rfl ?_))
 refine ci h0 rfl ?_ ?_ <;> clear h0
 ·intro b5 h0
  have b6 : q4 = false := by simpa using b5
  refine zr tb rfl rfl ?_
  replace h0 := Sh.some_eq h0
  subst r
  exact AW.ret (xr (Wk.d0 [(6, (i64 (-1)))] rfl))
 ·intro b5 h0
  have b8 : q4 = true := by simpa using b5
  refine AW.skip (hK2 _ (sr rfl fun K9 hK9 => zm tb 4 rfl (bs h0 fun c10 gc10 h0 => zx ei28 gc10 rfl rfl rfl (zq tb rfl (ao_alloc (m := 2) (st' := [(wB11 p0), (wB14 p2), wB8]) go0 zi57 rfl rfl (ao_str (st' := [(wB11 p0), (wB14 p2), ⟨0, 57, 5, [[(ls eI c10.params), (ls eI c10.lent), (i64 c10.result), (ls eStep c10.body.steps), (i64 c10.body.result)]]⟩]) go0 ti57 rfl rfl rfl rfl rfl rfl (show 0 + 5 ≤ 5 by decide) rfl (dn hK9 rfl (sr rfl fun K11 hK11 => zm tb 2 rfl (zl tb rfl rfl ?_)))))))))
  refine zq tb rfl (dn hK11 rfl (AW.seq fun K12 hK12 => zr tb rfl rfl ?_))
  refine ci h0 rfl ?_ ?_ <;> clear h0
  ·intro b14 h0
   refine AW.seq fun K15 hK15 => sr rfl fun K16 hK16 => zm tb 5 rfl (bs h0 fun q17 gq17 h0 => zc hb167 (spec_typed_ok gq17) rfl rfl rfl (zq tb rfl (dn hK16 rfl ?_)))
   refine ci h0 rfl ?_ ?_ <;> clear h0
   ·intro b18 h0
    have b19 : q17 = false := by simpa using b18
    refine zr tb rfl rfl ?_
    replace h0 := Sh.some_eq h0
    subst r
    exact AW.ret (xr (Wk.d0 [(6, (i64 (-1)))] rfl))
   ·intro b18 h0
    have b21 : q17 = true := by simpa using b18
    refine AW.skip (hK15 _ (zr tb rfl rfl ?_))
    replace h0 := Sh.some_eq h0
    subst r
    exact AW.ret (xr (Wk.d0 [(6, (i64 c10.result))] rfl))
  ·intro b14 h0
   refine AW.skip (hK12 _ (AW.seq fun K23 hK23 => AW.seq fun K24 hK24 => bs h0 fun o26 h1 h0 => ?_))
   have M26 : ∀ (t25 : Bool), o26 = t25 → ∀ s, Wk 0 s ⟨69, envL [(3, (.ptr 0 0 0 0)), (7, (.ptr 1 0 0 0)), (8, (i64 (Sh.len c10.params))), (57, (.bool t25))], [(wB11 p0), ⟨0, 57, 5, [[(ls eI c10.params), (ls eI c10.lent), (i64 c10.result), (ls eStep c10.body.steps), (i64 c10.body.result)]]⟩]⟩ → K24 s := by
    intro t25 hq s hw
    subst o26
    try dsimp only at h0
    refine hK24 _ (AW.weaken hw ?_)
    refine ci h0 rfl ?_ ?_ <;> clear h0
    ·intro b27 h0
     refine zr tb rfl rfl ?_
     replace h0 := Sh.some_eq h0
     subst r
     exact AW.ret (xr (Wk.d0 [(6, (i64 (-1)))] rfl))
    ·intro b27 h0
     refine AW.skip (hK23 _ (AW.seq fun K29 hK29 => ?_))
     refine AW.draw (by kernel_rfl) (by kernel_rfl) (by rfl) ?_
     iterate 6 refine yq tb rfl ?_
     refine bs h0 fun c30 gc30 h0 => yx ei37 gc30 rfl rfl rfl ?_
     iterate 3 refine yq tb rfl ?_
     refine bs h0 fun q31 gq31 h0 => d_call (v := (i64 q31)) go0 hb208 (spec_arrowOf_ok gq31) rfl rfl rfl (yq tb rfl (d_done (hK29 _ ?_)))
     replace h0 := Sh.some_eq h0
     subst r
     exact AW.ret (xr (Wk.d0 [(6, (i64 q31))] rfl))
   refine AW.drawTailO 19 (by kernel_rfl) (by kernel_rfl) (by rfl) ?_
   iterate 3 refine yq tb rfl ?_
   rcases Sh.ite_some h1 with ⟨b32, h1⟩ | ⟨b32, h1⟩
   ·refine ys b32 rfl ?_
    iterate 3 refine ys b32 rfl ?_
    refine yt b32 rfl (yq tb rfl ?_)
    iterate 10 refine ys rfl rfl ?_
    refine d_done (zt rfl rfl ?_)
    exact AO.done (M26 true (Sh.some_eq h1).symm _ (Wk.permk (L := [(3, (.ptr 0 0 0 0)), (7, (.ptr 1 0 0 0)), (8, (i64 (Sh.len c10.params))), (57, (.bool true))]) (st' := [(wB11 p0), ⟨0, 57, 5, [[(ls eI c10.params), (ls eI c10.lent), (i64 c10.result), (ls eStep c10.body.steps), (i64 c10.body.result)]]⟩]) (st1 := [(wB11 p0), ⟨0, 57, 5, [[(ls eI c10.params), (ls eI c10.lent), (i64 c10.result), (ls eStep c10.body.steps), (i64 c10.body.result)]]⟩]) [0, 2] rfl .nil (by decide) rfl rfl (.raw rfl rfl (.raw rfl rfl .nil)) ⟨.rfl, .rfl, .rfl, .rfl, trivial⟩))
   ·refine yg tb b32 rfl (yg tb b32 rfl (d_q (v := (i64 (Sh.len c10.lent))) (go1 rfl rfl b32) rfl (aq_lens sl37 rfl) (yg tb b32 rfl (yf b32 rfl (yq tb rfl ?_)))))
    rcases Sh.ite_some h1 with ⟨b33, h1⟩ | ⟨b33, h1⟩
    ·refine ys b33 rfl ?_
     iterate 9 refine ys b33 rfl ?_
     refine d_done (zt b33 rfl ?_)
     exact AO.done (M26 true (Sh.some_eq h1).symm _ (Wk.permk (L := [(3, (.ptr 0 0 0 0)), (7, (.ptr 1 0 0 0)), (8, (i64 (Sh.len c10.params))), (57, (.bool true))]) (st' := [(wB11 p0), ⟨0, 57, 5, [[(ls eI c10.params), (ls eI c10.lent), (i64 c10.result), (ls eStep c10.body.steps), (i64 c10.body.result)]]⟩]) (st1 := [(wB11 p0), ⟨0, 57, 5, [[(ls eI c10.params), (ls eI c10.lent), (i64 c10.result), (ls eStep c10.body.steps), (i64 c10.body.result)]]⟩]) [0, 2] rfl .nil (by decide) rfl rfl (.raw rfl rfl (.raw rfl rfl .nil)) ⟨.rfl, .rfl, .rfl, .rfl, trivial⟩))
    ·refine yg tb b33 rfl ?_
     iterate 6 refine yg tb b33 rfl ?_
     refine bs h1 fun l34 gl34 h1 => d_sls (i := 0) (j := Sh.w ((Sh.len c10.params) - 1)) (go1 rfl rfl b33) ei37 rfl rfl rfl (fun _ => rfl) gl34 (bs h1 fun q35 gq35 h1 => d_call (v := (.bool q35)) (go1 rfl rfl b33) hb167 (spec_typed_ok gq35) rfl rfl rfl (yg tb b33 rfl (d_done (zf b33 rfl ?_))))
     exact AO.done (M26 (!q35) (Sh.some_eq h1).symm _ (Wk.permk (L := [(3, (.ptr 0 0 0 0)), (7, (.ptr 1 0 0 0)), (8, (i64 (Sh.len c10.params))), (57, (.bool (!q35)))]) (st' := [(wB11 p0), ⟨0, 57, 5, [[(ls eI c10.params), (ls eI c10.lent), (i64 c10.result), (ls eStep c10.body.steps), (i64 c10.body.result)]]⟩]) (st1 := [(wB11 p0), ⟨0, 57, 5, [[(ls eI c10.params), (ls eI c10.lent), (i64 c10.result), (ls eStep c10.body.steps), (i64 c10.body.result)]]⟩]) [0, 2] rfl .nil (by decide) rfl rfl (.raw rfl rfl (.raw rfl rfl .nil)) ⟨.rfl, .rfl, .rfl, .rfl, trivial⟩))
theorem spec_isArrow_ok {p0 : (List RDecl)} {p1 : Int} {r : Bool} (h0 : spec_isArrow p0 p1 = some r) : ACalls Tryz.prog 172 [(ls eRDecl p0), (i64 p1)] [] (fun v st => v = (.bool r) ∧ st = []) := by
 unfold spec_isArrow at h0
 refine ai Tryz.func172 rfl rfl rfl rfl (zr tb rfl rfl (AW.seq fun K2 hK2 => bs h0 fun o4 h1 h0 => ?_))
 have M4 : ∀ (t3 : Bool), o4 = t3 → ∀ s, Wk 0 s ⟨19, envL [(4, (.bool t3))], []⟩ → K2 s := by
  intro t3 hq s hw
  subst o4
  try dsimp only at h0
  refine hK2 _ (AW.weaken hw ?_)
  replace h0 := Sh.some_eq h0
  subst r
  exact AW.ret (xr (Wk.to (L := [(4, (.bool t3))]) ⟨.rfl, trivial⟩))
 refine AW.regionO rfl (zm tb 2 rfl (zl tb rfl rfl (bs h1 fun q5 gq5 h1 => zc hb158 (spec_inRange_ok gq5) rfl rfl rfl (zq tb rfl ?_))))
 rcases Sh.ite_some h1 with ⟨b6, h1⟩ | ⟨b6, h1⟩
 ·exact zg tb b6 rfl (zg tb b6 rfl (zg tb b6 rfl (bs h1 fun c7 gc7 h1 => ao_q (v := (.iptr (eRDecl c7) 0)) (go1 rfl rfl b6) rfl (aq_ixs ei27 rfl rfl gc7 rfl) (zg tb b6 rfl (zg tb b6 rfl (ao_q (v := (i64 (Sh.len c7.cons))) (go1 rfl rfl b6) rfl (aq_lens sl96 rfl) (zg tb b6 rfl (zt b6 rfl (zq tb rfl (AO.done (M4 (decide ((Sh.len c7.cons) = 0)) (Sh.some_eq h1).symm _ (Wk.tr rfl))))))))))))
 ·refine zs b6 rfl ?_
  iterate 7 refine zs b6 rfl ?_
  exact zf b6 rfl (zq tb rfl (AO.done (M4 false (Sh.some_eq h1).symm _ (Wk.tr rfl))))
theorem spec_countingType_ok {p0 : RNormal} {p1 : (List Int)} {p2 : Step} {r : Int} (h0 : spec_countingType p0 p1 p2 = some r) : ACalls Tryz.prog 173 [(.agg [(ls eRDecl p0.decls), (ls eRRoutine p0.routines)]), (ls eI p1), (.agg [(i64 p2.op), (i64 p2.num), (i64 p2.into), (ls eI p2.args), (ls eBlock p2.kids)])] [] (fun v st => v = (i64 r) ∧ st = []) := by
 unfold spec_countingType at h0
 refine ai Tryz.func173 rfl rfl rfl rfl (sr rfl fun K1 hK1 => ao_box (m := 0) (st' := [(wB11 p0)]) go0 rfl rfl rfl rfl rfl (ao_box (m := 1) (st' := [(wB11 p0), (wB14 p2)]) go0 rfl rfl rfl rfl rfl (zq tb rfl (dn hK1 rfl (AW.seq fun K2 hK2 => AW.seq fun K3 hK3 => bs h0 fun o5 h1 h0 => ?_)))))
 have M5 : ∀ (t4 : Bool), o5 = t4 → ∀ s, Wk 0 s ⟨52, envL [(1, (ls eI p1)), (3, (.ptr 0 0 0 0)), (5, (.ptr 1 0 0 0)), (31, (.bool t4))], [(wB11 p0), (wB14 p2)]⟩ → K3 s := by
  intro t4 hq s hw
  subst o5
  try dsimp only at h0
  refine hK3 _ (AW.weaken hw ?_)
  refine ci h0 rfl ?_ ?_ <;> clear h0
  ·intro b6 h0
   refine zr tb rfl rfl ?_
   replace h0 := Sh.some_eq h0
   subst r
   exact AW.ret (xr (Wk.d0 [(6, (i64 (-1)))] rfl))
  ·intro b6 h0
   refine AW.skip (hK2 _ (AW.seq fun K8 hK8 => AW.seq fun K9 hK9 => bs h0 fun o11 h1 h0 => ?_))
   have M11 : ∀ (t10 : Bool), o11 = t10 → ∀ s, Wk 0 s ⟨52, envL [(51, (.bool t10))], []⟩ → K9 s := by
    intro t10 hq s hw
    subst o11
    try dsimp only at h0
    refine hK9 _ (AW.weaken hw ?_)
    refine ci h0 rfl ?_ ?_ <;> clear h0
    ·intro b12 h0
     refine zr tb rfl rfl ?_
     replace h0 := Sh.some_eq h0
     subst r
     exact AW.ret (xr (Wk.to (L := [(6, (i64 (-1)))]) ⟨.rfl, trivial⟩))
    ·intro b12 h0
     refine AW.skip (hK8 _ (zr tb rfl rfl ?_))
     replace h0 := Sh.some_eq h0
     subst r
     exact AW.ret (xr (Wk.to (L := [(6, (i64 0))]) ⟨.rfl, trivial⟩))
   refine AW.draw (by kernel_rfl) (by kernel_rfl) (by rfl) ?_
   iterate 4 refine yq tb rfl ?_
   rcases Sh.ite_some h1 with ⟨b15, h1⟩ | ⟨b15, h1⟩
   ·refine yg tb b15 rfl ?_
    iterate 2 refine yg tb b15 rfl ?_
    refine yt b15 rfl (yq tb rfl ?_)
    rcases Sh.ite_some h1 with ⟨b16, h1⟩ | ⟨b16, h1⟩
    ·refine yg tb b16 rfl ?_
     iterate 4 refine yg tb b16 rfl ?_
     exact bs h1 fun c17 gc17 h1 => d_q (v := (.iptr (eI c17) 0)) (go1 rfl rfl b16) rfl (aq_ixs ei37 rfl rfl gc17 rfl) (yg tb b16 rfl (bs h1 fun c18 gc18 h1 => d_q (v := (.iptr (eI c18) 0)) (go1 rfl rfl b16) rfl (aq_ixs ei37 rfl rfl gc18 rfl) (yg tb b16 rfl (bs h1 fun q19 gq19 h1 => d_call (v := (.bool q19)) (go1 rfl rfl b16) hb172 (spec_isArrow_ok gq19) rfl rfl rfl (yt b16 rfl (d_done (M11 q19 (Sh.some_eq h1).symm _ (Wk.d0 _ rfl))))))))
    ·refine ys b16 rfl ?_
     iterate 9 refine ys b16 rfl ?_
     exact yf b16 rfl (d_done (M11 false (Sh.some_eq h1).symm _ (Wk.d0 _ rfl)))
   ·refine ys b15 rfl ?_
    iterate 2 refine ys b15 rfl ?_
    refine yf b15 rfl (yq tb rfl ?_)
    iterate 10 refine ys rfl rfl ?_
    exact yf rfl rfl (d_done (M11 false (Sh.some_eq h1).symm _ (Wk.d0 _ rfl)))
 refine AW.regionO rfl (zm tb 2 rfl (zl tb rfl rfl (zm tb 2 rfl ?_)))
 rcases Sh.ite_some h1 with ⟨b20, h1⟩ | ⟨b20, h1⟩
 ·refine zs b20 rfl ?_
  iterate 8 refine zs b20 rfl ?_
  refine zt b20 rfl (zq tb rfl ?_)
  iterate 8 refine zs rfl rfl ?_
  exact zt rfl rfl (AO.done (M5 true (Sh.some_eq h1).symm _ (Wk.tr rfl)))
 ·refine zg tb b20 rfl (zg tb b20 rfl (bs h1 fun c21 gc21 h1 => ao_q (v := (.iptr (eI c21) 0)) (go1 rfl rfl b20) rfl (aq_ixs ei37 rfl rfl gc21 rfl) (zg tb b20 rfl (zg tb b20 rfl (ao_q (v := (i64 (Sh.len p1))) (go1 rfl rfl b20) rfl (aq_lens sl37 rfl) (zg tb b20 rfl (bs h1 fun q22 gq22 h1 => zd b20 hb158 (spec_inRange_ok gq22) rfl rfl rfl rfl (zg tb b20 rfl (zf b20 rfl ?_)))))))))
  refine zq tb rfl ?_
  rcases Sh.ite_some h1 with ⟨b23, h1⟩ | ⟨b23, h1⟩
  ·refine zs b23 rfl ?_
   iterate 7 refine zs b23 rfl ?_
   exact zt b23 rfl (AO.done (M5 true (Sh.some_eq h1).symm _ (Wk.tr rfl)))
  ·exact zg tb b23 rfl (zg tb b23 rfl (zg tb b23 rfl (ao_q (v := (.iptr (eI c21) 0)) (go1 rfl rfl b23) rfl (aq_ixs ei37 rfl rfl gc21 rfl) (zg tb b23 rfl (bs h1 fun c24 gc24 h1 => ao_q (v := (.iptr (eI c24) 0)) (go1 rfl rfl b23) rfl (aq_ixs ei37 rfl rfl gc24 rfl) (zg tb b23 rfl (zg tb b23 rfl (zf b23 rfl (AO.done (M5 (decide (c24 = 0)) (Sh.some_eq h1).symm _ (Wk.tr rfl)))))))))))
end Go.Proofs.YtcegihniiokijaaGreat

