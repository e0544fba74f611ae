import Derived.Test.YtefefailnbbooaaGreatProg
import Derived.Test.YtefefailnbbooaaGreatVSDefs
import Derived.Test.YtefefailnbbooaaGreatAbsQ
namespace Go.Proofs.YtefefailnbbooaaGreat
open Go Go.Abs RC
attribute [local irreducible] Go.Abs.dops
set_option maxRecDepth 100000
set_option maxHeartbeats 4000000

def tb : Tab Tryz.prog where
 t := [(100, true, 6), (102, false, 1), (115, false, 1), (117, true, 2), (127, true, 3), (139, true, 1), (141, true, 6), (147, true, 5), (153, true, 1), (22, false, 1), (23, false, 1), (25, true, 2), (26, false, 1), (27, false, 1), (28, false, 1), (3, false, 1), (30, true, 7), (34, false, 1), (35, false, 1), (37, true, 2), (39, false, 1), (4, false, 1), (40, false, 1), (42, true, 7), (64, false, 1), (66, true, 3), (68, false, 1), (70, true, 5), (73, true, 3), (76, true, 6), (82, false, 1), (84, true, 3), (86, false, 1), (88, true, 5), (90, true, 3), (92, true, 6), (94, false, 1), (96, true, 2)]
 f := [(100, 0, 0), (100, 1, 1), (100, 2, 2), (100, 3, 3), (100, 4, 4), (100, 5, 5), (117, 0, 0), (117, 1, 1), (127, 0, 0), (127, 1, 1), (127, 2, 2), (139, 0, 0), (141, 0, 0), (141, 1, 1), (141, 2, 2), (141, 3, 3), (141, 4, 4), (141, 5, 5), (147, 0, 0), (147, 1, 1), (153, 0, 0), (25, 0, 0), (25, 1, 1), (30, 0, 0), (30, 1, 1), (30, 2, 2), (30, 3, 3), (30, 4, 4), (30, 5, 5), (30, 6, 6), (37, 0, 0), (37, 1, 1), (42, 0, 0), (42, 1, 1), (42, 2, 2), (42, 3, 3), (42, 4, 4), (42, 5, 5), (42, 6, 6), (66, 0, 0), (66, 1, 1), (66, 2, 2), (70, 0, 0), (70, 1, 1), (70, 2, 2), (70, 3, 3), (70, 4, 4), (73, 0, 0), (73, 1, 1), (73, 2, 2), (76, 0, 0), (76, 1, 1), (76, 2, 2), (76, 3, 3), (76, 4, 4), (76, 5, 5), (84, 0, 0), (84, 1, 1), (84, 2, 2), (88, 0, 0), (88, 1, 1), (88, 2, 2), (88, 3, 3), (88, 4, 4), (90, 0, 0), (90, 1, 1), (90, 2, 2), (92, 0, 0), (92, 1, 1), (92, 2, 2), (92, 3, 3), (92, 4, 4), (92, 5, 5), (96, 0, 0), (96, 1, 1)]
 v := []
 b := [4]
 s := [115, 22, 23, 26, 27, 28, 34, 35, 39, 40, 64, 68, 82, 86, 94]
 ht := by kernel_rfl
 hf := by kernel_rfl
 hv := by kernel_rfl
 hb := by kernel_rfl
 hs := by kernel_rfl

theorem ai117 : allInfo Tryz.prog 117 = true := by kernel_rfl
theorem ai147 : allInfo Tryz.prog 147 = true := by kernel_rfl
theorem bi117 : finfos Tryz.prog 117 = some [(0, 1), (1, 1)] := by kernel_rfl
theorem bi147 : finfos Tryz.prog 147 = some [(0, 1), (1, 1), (2, 3)] := by kernel_rfl
theorem ei115 : einfo Tryz.prog 115 = some ⟨147, 5, 72, [.sl [], .int .i64 0, .int .i64 0, .int .i64 0, .sl []]⟩ := by kernel_rfl
theorem ei22 : einfo Tryz.prog 22 = some ⟨66, 3, 40, [.int .i64 0, .int .i64 0, .sl []]⟩ := by kernel_rfl
theorem ei23 : einfo Tryz.prog 23 = some ⟨70, 5, 88, [.sl [], .sl [], .int .i64 0, .int .i64 0, .sl []]⟩ := by kernel_rfl
theorem ei26 : einfo Tryz.prog 26 = some ⟨3, 1, 8, [.int .i64 0]⟩ := by kernel_rfl
theorem ei27 : einfo Tryz.prog 27 = some ⟨73, 3, 40, [.int .i64 0, .int .i64 0, .sl []]⟩ := by kernel_rfl
theorem ei28 : einfo Tryz.prog 28 = some ⟨76, 6, 96, [.int .i64 0, .int .i64 0, .int .i64 0, .sl [], .sl [], .sl []]⟩ := by kernel_rfl
theorem ei34 : einfo Tryz.prog 34 = some ⟨84, 3, 40, [.int .i64 0, .int .i64 0, .sl []]⟩ := by kernel_rfl
theorem ei35 : einfo Tryz.prog 35 = some ⟨88, 5, 88, [.sl [], .sl [], .int .i64 0, .int .i64 0, .sl []]⟩ := by kernel_rfl
theorem ei39 : einfo Tryz.prog 39 = some ⟨90, 3, 40, [.int .i64 0, .int .i64 0, .sl []]⟩ := by kernel_rfl
theorem ei40 : einfo Tryz.prog 40 = some ⟨92, 6, 96, [.int .i64 0, .int .i64 0, .int .i64 0, .sl [], .sl [], .sl []]⟩ := by kernel_rfl
theorem ei64 : einfo Tryz.prog 64 = some ⟨139, 1, 24, [.sl []]⟩ := by kernel_rfl
theorem ei68 : einfo Tryz.prog 68 = some ⟨141, 6, 80, [.int .i64 0, .int .i64 0, .int .i64 0, .int .i64 0, .sl [], .sl []]⟩ := by kernel_rfl
theorem ei82 : einfo Tryz.prog 82 = some ⟨153, 1, 24, [.sl []]⟩ := by kernel_rfl
theorem ei86 : einfo Tryz.prog 86 = some ⟨100, 6, 80, [.int .i64 0, .int .i64 0, .int .i64 0, .int .i64 0, .sl [], .sl []]⟩ := by kernel_rfl
theorem hb103 : hasBody Tryz.prog 103 = true := by kernel_rfl
theorem hb105 : hasBody Tryz.prog 105 = true := by kernel_rfl
theorem hb111 : hasBody Tryz.prog 111 = true := by kernel_rfl
theorem hb112 : hasBody Tryz.prog 112 = true := by kernel_rfl
theorem hb12 : hasBody Tryz.prog 12 = true := by kernel_rfl
theorem hb13 : hasBody Tryz.prog 13 = true := by kernel_rfl
theorem hb14 : hasBody Tryz.prog 14 = true := by kernel_rfl
theorem hb15 : hasBody Tryz.prog 15 = true := by kernel_rfl
theorem hb16 : hasBody Tryz.prog 16 = true := by kernel_rfl
theorem hb18 : hasBody Tryz.prog 18 = true := by kernel_rfl
theorem hb19 : hasBody Tryz.prog 19 = true := by kernel_rfl
theorem hb20 : hasBody Tryz.prog 20 = true := by kernel_rfl
theorem hb21 : hasBody Tryz.prog 21 = true := by kernel_rfl
theorem hb22 : hasBody Tryz.prog 22 = true := by kernel_rfl
theorem hb30 : hasBody Tryz.prog 30 = true := by kernel_rfl
theorem hb31 : hasBody Tryz.prog 31 = true := by kernel_rfl
theorem hb32 : hasBody Tryz.prog 32 = true := by kernel_rfl
theorem hb33 : hasBody Tryz.prog 33 = true := by kernel_rfl
theorem hb35 : hasBody Tryz.prog 35 = true := by kernel_rfl
theorem hb41 : hasBody Tryz.prog 41 = true := by kernel_rfl
theorem hb42 : hasBody Tryz.prog 42 = true := by kernel_rfl
theorem hb43 : hasBody Tryz.prog 43 = true := by kernel_rfl
theorem hb44 : hasBody Tryz.prog 44 = true := by kernel_rfl
theorem hb57 : hasBody Tryz.prog 57 = true := by kernel_rfl
theorem hb58 : hasBody Tryz.prog 58 = true := by kernel_rfl
theorem hb68 : hasBody Tryz.prog 68 = true := by kernel_rfl
theorem hb69 : hasBody Tryz.prog 69 = true := by kernel_rfl
theorem hb82 : hasBody Tryz.prog 82 = true := by kernel_rfl
theorem hb83 : hasBody Tryz.prog 83 = true := by kernel_rfl
theorem hb84 : hasBody Tryz.prog 84 = true := by kernel_rfl
theorem hb85 : hasBody Tryz.prog 85 = true := by kernel_rfl
theorem hb92 : hasBody Tryz.prog 92 = true := by kernel_rfl
theorem hb93 : hasBody Tryz.prog 93 = true := by kernel_rfl
theorem sl115 : isSliceT Tryz.prog 115 = true := by kernel_rfl
theorem sl26 : isSliceT Tryz.prog 26 = true := by kernel_rfl
theorem sl34 : isSliceT Tryz.prog 34 = true := by kernel_rfl
theorem ti100 : tinfo Tryz.prog 100 = some (true, 6) := by kernel_rfl
theorem ti115 : tinfo Tryz.prog 115 = some (false, 1) := by kernel_rfl
theorem ti117 : tinfo Tryz.prog 117 = some (true, 2) := by kernel_rfl
theorem ti147 : tinfo Tryz.prog 147 = some (true, 5) := by kernel_rfl
theorem ti153 : tinfo Tryz.prog 153 = some (true, 1) := by kernel_rfl
theorem ti26 : tinfo Tryz.prog 26 = some (false, 1) := by kernel_rfl
theorem ti3 : tinfo Tryz.prog 3 = some (false, 1) := by kernel_rfl
theorem ti34 : tinfo Tryz.prog 34 = some (false, 1) := by kernel_rfl
theorem ti35 : tinfo Tryz.prog 35 = some (false, 1) := by kernel_rfl
theorem ti37 : tinfo Tryz.prog 37 = some (true, 2) := by kernel_rfl
theorem ti39 : tinfo Tryz.prog 39 = some (false, 1) := by kernel_rfl
theorem ti40 : tinfo Tryz.prog 40 = some (false, 1) := by kernel_rfl
theorem ti42 : tinfo Tryz.prog 42 = some (true, 7) := by kernel_rfl
theorem ti82 : tinfo Tryz.prog 82 = some (false, 1) := by kernel_rfl
theorem ti84 : tinfo Tryz.prog 84 = some (true, 3) := by kernel_rfl
theorem ti86 : tinfo Tryz.prog 86 = some (false, 1) := by kernel_rfl
theorem ti88 : tinfo Tryz.prog 88 = some (true, 5) := by kernel_rfl
theorem ti90 : tinfo Tryz.prog 90 = some (true, 3) := by kernel_rfl
theorem ti92 : tinfo Tryz.prog 92 = some (true, 6) := by kernel_rfl
theorem zi100 : zinfo Tryz.prog 100 = some [.int .i64 0, .int .i64 0, .int .i64 0, .int .i64 0, .zc, .zc] := by kernel_rfl
theorem zi117 : zinfo Tryz.prog 117 = some [.zc, .zc] := by kernel_rfl
theorem zi147 : zinfo Tryz.prog 147 = some [.zc, .int .i64 0, .int .i64 0, .int .i64 0, .zc] := by kernel_rfl
theorem zi153 : zinfo Tryz.prog 153 = some [.zc] := by kernel_rfl
theorem zi37 : zinfo Tryz.prog 37 = some [.zc, .zc] := by kernel_rfl
theorem zi42 : zinfo Tryz.prog 42 = some [.int .i64 0, .int .i64 0, .int .i64 0, .int .i64 0, .zc, .zc, .zc] := by kernel_rfl
theorem zi84 : zinfo Tryz.prog 84 = some [.int .i64 0, .int .i64 0, .zc] := by kernel_rfl
theorem zi88 : zinfo Tryz.prog 88 = some [.zc, .zc, .int .i64 0, .int .i64 0, .zc] := by kernel_rfl
theorem zi90 : zinfo Tryz.prog 90 = some [.int .i64 0, .int .i64 0, .zc] := by kernel_rfl
theorem zi92 : zinfo Tryz.prog 92 = some [.int .i64 0, .int .i64 0, .int .i64 0, .zc, .zc, .zc] := by kernel_rfl

theorem laws_szIntS_ok {p0 : (List Int)} {p1 : Int} {r : Int} (h0 : laws_szIntS p0 p1 = some r) : ACalls Tryz.prog 14 [(.sl (List.map eI p0)), (i64 p1)] [] (fun v st => v = (i64 r) ∧ st = []) := by
 unfold laws_szIntS at h0
 refine ACalls.intro Tryz.func14 rfl (by show 2 ≤ 12; decide) ?_
 show AW _ 0 _ (aret _ 0 Tryz.f14 _) ⟨12, _, _⟩
 refine AW.weaken (Wk.to (L := [(0, (.sl (List.map eI p0))), (1, (i64 p1))]) ⟨.rfl, .rfl, trivial⟩) ?_
 refine sr rfl fun K1 hK1 => ?_
 refine zq tb rfl ?_
 refine dn hK1 rfl ?_
 refine sr rfl fun K2 hK2 => ?_
 iterate 2 refine zq tb rfl ?_
 refine zl tb rfl rfl ?_
 iterate 2 refine zq tb rfl ?_
 refine dn hK2 rfl ?_
 refine AW.seq fun K3 hK3 => ?_
 refine sr rfl fun K4 hK4 => ?_
 iterate 2 refine zq tb rfl ?_
 refine dn hK4 rfl ?_
 refine ci h0 rfl ?_ ?_ <;> clear h0
 ·intro b5 h0
  refine sr rfl fun K6 hK6 => ?_
  refine zq tb rfl ?_
  refine dn hK6 rfl ?_
  replace h0 := Sh.some_eq h0
  subst r
  exact AW.ret (xr (Wk.to (L := [(4, (i64 (-1)))]) ⟨.rfl, trivial⟩))
 ·intro b5 h0
  refine AW.skip (hK3 _ ?_)
  refine sr rfl fun K7 hK7 => ?_
  iterate 2 refine zq tb rfl ?_
  refine dn hK7 rfl ?_
  replace h0 := Sh.some_eq h0
  subst r
  exact AW.ret (xr (Wk.to (L := [(4, (i64 (Sh.w (p1 - (Sh.len p0)))))]) ⟨.rfl, trivial⟩))
theorem laws_szCon_ok {p0 : RCon} {p1 : Int} {r : Int} (h0 : laws_szCon p0 p1 = some r) : ACalls Tryz.prog 82 [(.agg (eRCon p0)), (i64 p1)] [] (fun v st => v = (i64 r) ∧ st = []) := by
 unfold laws_szCon at h0
 refine ACalls.intro Tryz.func82 rfl (by show 2 ≤ 12; decide) ?_
 show AW _ 0 _ (aret _ 0 Tryz.f82 _) ⟨12, _, _⟩
 refine AW.weaken (Wk.to (L := [(0, (.agg (eRCon p0))), (1, (i64 p1))]) ⟨.rfl, .rfl, trivial⟩) ?_
 refine sr rfl fun K1 hK1 => ?_
 refine ao_box (m := 0) (st' := [⟨0, 139, 1, [(eRCon p0)]⟩]) go0 rfl rfl rfl rfl rfl ?_
 refine zq tb rfl ?_
 refine dn hK1 rfl ?_
 refine sr rfl fun K2 hK2 => ?_
 iterate 3 refine zq tb rfl ?_
 obtain ⟨q3, gq3, h0⟩ := Sh.bind_some h0
 refine zc hb14 (laws_szIntS_ok gq3) rfl rfl rfl ?_
 refine zq tb rfl ?_
 refine dn hK2 rfl ?_
 refine AW.seq fun K4 hK4 => ?_
 refine sr rfl fun K5 hK5 => ?_
 iterate 2 refine zq tb rfl ?_
 refine dn hK5 rfl ?_
 refine ci h0 rfl ?_ ?_ <;> clear h0
 ·intro b6 h0
  refine sr rfl fun K7 hK7 => ?_
  refine zq tb rfl ?_
  refine dn hK7 rfl ?_
  replace h0 := Sh.some_eq h0
  subst r
  exact AW.ret (xr (Wk.d0 [(4, (i64 (-1)))] rfl))
 ·intro b6 h0
  refine AW.skip (hK4 _ ?_)
  refine sr rfl fun K8 hK8 => ?_
  iterate 2 refine zq tb rfl ?_
  refine dn hK8 rfl ?_
  replace h0 := Sh.some_eq h0
  subst r
  exact AW.ret (xr (Wk.d0 [(4, (i64 q3))] rfl))
theorem laws_szConS_ok {N : Nat} {p0 : (List RCon)} {p1 : Int} {r : Int} (h0 : laws_szConS N p0 p1 = some r) : ACalls Tryz.prog 57 [(.sl (List.map eRCon p0)), (i64 p1)] [] (fun v st => v = (i64 r) ∧ st = []) := by
 unfold laws_szConS at h0
 refine ACalls.intro Tryz.func57 rfl (by show 2 ≤ 27; decide) ?_
 show AW _ 0 _ (aret _ 0 Tryz.f57 _) ⟨27, _, _⟩
 refine AW.weaken (Wk.to (L := [(0, (.sl (List.map eRCon p0))), (1, (i64 p1))]) ⟨.rfl, .rfl, trivial⟩) ?_
 refine sr rfl fun K1 hK1 => ?_
 refine zq tb rfl ?_
 refine dn hK1 rfl ?_
 refine sr rfl fun K2 hK2 => ?_
 iterate 2 refine zq tb rfl ?_
 refine zl tb rfl rfl ?_
 iterate 2 refine zq tb rfl ?_
 refine dn hK2 rfl ?_
 refine AW.seq fun K3 hK3 => ?_
 refine sr rfl fun K4 hK4 => ?_
 iterate 2 refine zq tb rfl ?_
 refine dn hK4 rfl ?_
 refine ci h0 rfl ?_ ?_ <;> clear h0
 ·intro b5 h0
  refine sr rfl fun K6 hK6 => ?_
  refine zq tb rfl ?_
  refine dn hK6 rfl ?_
  replace h0 := Sh.some_eq h0
  subst r
  exact AW.ret (xr (Wk.to (L := [(4, (i64 (-1)))]) ⟨.rfl, trivial⟩))
 ·intro b5 h0
  refine AW.skip (hK3 _ ?_)
  refine AW.seq fun K7 hK7 => ?_
  refine sr rfl fun K8 hK8 => ?_
  refine zq tb rfl ?_
  refine dn hK8 rfl ?_
  obtain ⟨o12, h1, h0⟩ := Sh.cont_some h0
  have M12 : ∀ (left11 : Int), o12 = Sum.inr left11 → ∀ s, Wk 0 s ⟨27, envL [(1, (i64 left11))], []⟩ → K7 s := by
   intro left11 hq s hw
   subst o12
   try dsimp only at h0
   refine hK7 _ (AW.weaken hw ?_)
   refine sr rfl fun K13 hK13 => ?_
   iterate 2 refine zq tb rfl ?_
   refine dn hK13 rfl ?_
   replace h0 := Sh.some_eq h0
   subst r
   exact AW.ret (xr (Wk.to (L := [(4, (i64 left11))]) ⟨.rfl, trivial⟩))
  refine AW.block (AW.loopF (σ := Int × Int) (fun n v => laws_szConS_L1 p0 n v.1 v.2 = some o12) (fun (left9, i10) => ⟨27, envL [(0, (.sl (List.map eRCon p0))), (1, (i64 left9)), (5, (i64 i10))], []⟩) N (Sh.w (p1 - (Sh.len p0)), 0) h1 (Wk.tr rfl) (fun _ hv => by rw [laws_szConS_L1] at hv; cases hv) ?_)
  rintro n ⟨left9, i10⟩ h1
  try dsimp only at h1 ⊢
  rw [laws_szConS_L1] at h1
  refine AW.seq fun K14 hK14 => ?_
  refine sr rfl fun K15 hK15 => ?_
  iterate 2 refine zq tb rfl ?_
  refine zl tb rfl rfl ?_
  refine zq tb rfl ?_
  refine dn hK15 rfl ?_
  refine ci h1 rfl ?_ ?_ <;> clear h1
  ·intro b16 h1
   refine AW.skip (hK14 _ ?_)
   refine AW.seq fun K17 hK17 => ?_
   refine AW.block ?_
   refine sr rfl fun K18 hK18 => ?_
   iterate 2 refine zq tb rfl ?_
   obtain ⟨c19, gc19, h1⟩ := Sh.bind_some h1
   refine zx ei64 gc19 rfl rfl rfl ?_
   iterate 2 refine zq tb rfl ?_
   obtain ⟨q20, gq20, h1⟩ := Sh.bind_some h1
   refine zc hb82 (laws_szCon_ok gq20) rfl rfl rfl ?_
   refine zq tb rfl ?_
   refine dn hK18 rfl ?_
   refine sr rfl fun K21 hK21 => ?_
   iterate 2 refine zq tb rfl ?_
   refine dn hK21 rfl ?_
   refine ci h1 rfl ?_ ?_ <;> clear h1
   ·intro b22 h1
    refine sr rfl fun K23 hK23 => ?_
    refine zq tb rfl ?_
    refine dn hK23 rfl ?_
    replace h1 := Sh.some_eq h1
    subst o12
    try dsimp only [id] at h0
    replace h0 := Sh.some_eq h0
    subst r
    exact AW.ret (xr (Wk.to (L := [(4, (i64 (-1)))]) ⟨.rfl, trivial⟩))
   ·intro b22 h1
    refine AW.skip (hK17 _ ?_)
    refine AW.regionO (by rfl) ?_
    iterate 3 refine zq tb rfl ?_
    exact AO.done (xi (q20, Sh.w (i10 + 1)) h1 (Wk.tr rfl))
  ·intro b16 h1
   exact AW.exit (M12 left9 (Sh.some_eq h1).symm _ (Wk.tr rfl))
theorem laws_szDecl_ok {N : Nat} {p0 : RDecl} {p1 : Int} {r : Int} (h0 : laws_szDecl N p0 p1 = some r) : ACalls Tryz.prog 30 [(.agg (eRDecl p0)), (i64 p1)] [] (fun v st => v = (i64 r) ∧ st = []) := by
 unfold laws_szDecl at h0
 refine ACalls.intro Tryz.func30 rfl (by show 2 ≤ 12; decide) ?_
 show AW _ 0 _ (aret _ 0 Tryz.f30 _) ⟨12, _, _⟩
 refine AW.weaken (Wk.to (L := [(0, (.agg (eRDecl p0))), (1, (i64 p1))]) ⟨.rfl, .rfl, trivial⟩) ?_
 refine sr rfl fun K1 hK1 => ?_
 refine ao_box (m := 0) (st' := [⟨0, 66, 3, [(eRDecl p0)]⟩]) go0 rfl rfl rfl rfl rfl ?_
 refine zq tb rfl ?_
 refine dn hK1 rfl ?_
 refine sr rfl fun K2 hK2 => ?_
 iterate 3 refine zq tb rfl ?_
 obtain ⟨q3, gq3, h0⟩ := Sh.bind_some h0
 refine zc hb57 (laws_szConS_ok gq3) rfl rfl rfl ?_
 refine zq tb rfl ?_
 refine dn hK2 rfl ?_
 refine AW.seq fun K4 hK4 => ?_
 refine sr rfl fun K5 hK5 => ?_
 iterate 2 refine zq tb rfl ?_
 refine dn hK5 rfl ?_
 refine ci h0 rfl ?_ ?_ <;> clear h0
 ·intro b6 h0
  refine sr rfl fun K7 hK7 => ?_
  refine zq tb rfl ?_
  refine dn hK7 rfl ?_
  replace h0 := Sh.some_eq h0
  subst r
  exact AW.ret (xr (Wk.d0 [(4, (i64 (-1)))] rfl))
 ·intro b6 h0
  refine AW.skip (hK4 _ ?_)
  refine sr rfl fun K8 hK8 => ?_
  iterate 2 refine zq tb rfl ?_
  refine dn hK8 rfl ?_
  replace h0 := Sh.some_eq h0
  subst r
  exact AW.ret (xr (Wk.d0 [(4, (i64 q3))] rfl))
theorem laws_szDeclS_ok {N : Nat} {p0 : (List RDecl)} {p1 : Int} {r : Int} (h0 : laws_szDeclS N p0 p1 = some r) : ACalls Tryz.prog 12 [(.sl (List.map eRDecl p0)), (i64 p1)] [] (fun v st => v = (i64 r) ∧ st = []) := by
 unfold laws_szDeclS at h0
 refine ACalls.intro Tryz.func12 rfl (by show 2 ≤ 27; decide) ?_
 show AW _ 0 _ (aret _ 0 Tryz.f12 _) ⟨27, _, _⟩
 refine AW.weaken (Wk.to (L := [(0, (.sl (List.map eRDecl p0))), (1, (i64 p1))]) ⟨.rfl, .rfl, trivial⟩) ?_
 refine sr rfl fun K1 hK1 => ?_
 refine zq tb rfl ?_
 refine dn hK1 rfl ?_
 refine sr rfl fun K2 hK2 => ?_
 iterate 2 refine zq tb rfl ?_
 refine zl tb rfl rfl ?_
 iterate 2 refine zq tb rfl ?_
 refine dn hK2 rfl ?_
 refine AW.seq fun K3 hK3 => ?_
 refine sr rfl fun K4 hK4 => ?_
 iterate 2 refine zq tb rfl ?_
 refine dn hK4 rfl ?_
 refine ci h0 rfl ?_ ?_ <;> clear h0
 ·intro b5 h0
  refine sr rfl fun K6 hK6 => ?_
  refine zq tb rfl ?_
  refine dn hK6 rfl ?_
  replace h0 := Sh.some_eq h0
  subst r
  exact AW.ret (xr (Wk.to (L := [(4, (i64 (-1)))]) ⟨.rfl, trivial⟩))
 ·intro b5 h0
  refine AW.skip (hK3 _ ?_)
  refine AW.seq fun K7 hK7 => ?_
  refine sr rfl fun K8 hK8 => ?_
  refine zq tb rfl ?_
  refine dn hK8 rfl ?_
  obtain ⟨o12, h1, h0⟩ := Sh.cont_some h0
  have M12 : ∀ (left11 : Int), o12 = Sum.inr left11 → ∀ s, Wk 0 s ⟨27, envL [(1, (i64 left11))], []⟩ → K7 s := by
   intro left11 hq s hw
   subst o12
   try dsimp only at h0
   refine hK7 _ (AW.weaken hw ?_)
   refine sr rfl fun K13 hK13 => ?_
   iterate 2 refine zq tb rfl ?_
   refine dn hK13 rfl ?_
   replace h0 := Sh.some_eq h0
   subst r
   exact AW.ret (xr (Wk.to (L := [(4, (i64 left11))]) ⟨.rfl, trivial⟩))
  refine AW.block (AW.loopF (σ := Int × Int) (fun n v => laws_szDeclS_L1 N p0 n v.1 v.2 = some o12) (fun (left9, i10) => ⟨27, envL [(0, (.sl (List.map eRDecl p0))), (1, (i64 left9)), (5, (i64 i10))], []⟩) N (Sh.w (p1 - (Sh.len p0)), 0) h1 (Wk.tr rfl) (fun _ hv => by rw [laws_szDeclS_L1] at hv; cases hv) ?_)
  rintro n ⟨left9, i10⟩ h1
  try dsimp only at h1 ⊢
  rw [laws_szDeclS_L1] at h1
  refine AW.seq fun K14 hK14 => ?_
  refine sr rfl fun K15 hK15 => ?_
  iterate 2 refine zq tb rfl ?_
  refine zl tb rfl rfl ?_
  refine zq tb rfl ?_
  refine dn hK15 rfl ?_
  refine ci h1 rfl ?_ ?_ <;> clear h1
  ·intro b16 h1
   refine AW.skip (hK14 _ ?_)
   refine AW.seq fun K17 hK17 => ?_
   refine AW.block ?_
   refine sr rfl fun K18 hK18 => ?_
   iterate 2 refine zq tb rfl ?_
   obtain ⟨c19, gc19, h1⟩ := Sh.bind_some h1
   refine zx ei22 gc19 rfl rfl rfl ?_
   iterate 2 refine zq tb rfl ?_
   obtain ⟨q20, gq20, h1⟩ := Sh.bind_some h1
   refine zc hb30 (laws_szDecl_ok gq20) rfl rfl rfl ?_
   refine zq tb rfl ?_
   refine dn hK18 rfl ?_
   refine sr rfl fun K21 hK21 => ?_
   iterate 2 refine zq tb rfl ?_
   refine dn hK21 rfl ?_
   refine ci h1 rfl ?_ ?_ <;> clear h1
   ·intro b22 h1
    refine sr rfl fun K23 hK23 => ?_
    refine zq tb rfl ?_
    refine dn hK23 rfl ?_
    replace h1 := Sh.some_eq h1
    subst o12
    try dsimp only [id] at h0
    replace h0 := Sh.some_eq h0
    subst r
    exact AW.ret (xr (Wk.to (L := [(4, (i64 (-1)))]) ⟨.rfl, trivial⟩))
   ·intro b22 h1
    refine AW.skip (hK17 _ ?_)
    refine AW.regionO (by rfl) ?_
    iterate 3 refine zq tb rfl ?_
    exact AO.done (xi (q20, Sh.w (i10 + 1)) h1 (Wk.tr rfl))
  ·intro b16 h1
   exact AW.exit (M12 left9 (Sh.some_eq h1).symm _ (Wk.tr rfl))
theorem laws_szInstr_ok {p0 : RInstr} {p1 : Int} {r : Int} (h0 : laws_szInstr p0 p1 = some r) : ACalls Tryz.prog 83 [(.agg (eRInstr p0)), (i64 p1)] [] (fun v st => v = (i64 r) ∧ st = []) := by
 unfold laws_szInstr at h0
 refine ACalls.intro Tryz.func83 rfl (by show 2 ≤ 18; decide) ?_
 show AW _ 0 _ (aret _ 0 Tryz.f83 _) ⟨18, _, _⟩
 refine AW.weaken (Wk.to (L := [(0, (.agg (eRInstr p0))), (1, (i64 p1))]) ⟨.rfl, .rfl, trivial⟩) ?_
 refine sr rfl fun K1 hK1 => ?_
 refine ao_box (m := 0) (st' := [⟨0, 141, 6, [(eRInstr p0)]⟩]) go0 rfl rfl rfl rfl rfl ?_
 refine zq tb rfl ?_
 refine dn hK1 rfl ?_
 refine sr rfl fun K2 hK2 => ?_
 iterate 3 refine zq tb rfl ?_
 obtain ⟨q3, gq3, h0⟩ := Sh.bind_some h0
 refine zc hb14 (laws_szIntS_ok gq3) rfl rfl rfl ?_
 refine zq tb rfl ?_
 refine dn hK2 rfl ?_
 refine AW.seq fun K4 hK4 => ?_
 refine sr rfl fun K5 hK5 => ?_
 iterate 2 refine zq tb rfl ?_
 refine dn hK5 rfl ?_
 refine ci h0 rfl ?_ ?_ <;> clear h0
 ·intro b6 h0
  refine sr rfl fun K7 hK7 => ?_
  refine zq tb rfl ?_
  refine dn hK7 rfl ?_
  replace h0 := Sh.some_eq h0
  subst r
  exact AW.ret (xr (Wk.d0 [(4, (i64 (-1)))] rfl))
 ·intro b6 h0
  refine AW.skip (hK4 _ ?_)
  refine sr rfl fun K8 hK8 => ?_
  iterate 3 refine zq tb rfl ?_
  obtain ⟨q9, gq9, h0⟩ := Sh.bind_some h0
  refine zc hb14 (laws_szIntS_ok gq9) rfl rfl rfl ?_
  refine zq tb rfl ?_
  refine dn hK8 rfl ?_
  refine AW.seq fun K10 hK10 => ?_
  refine sr rfl fun K11 hK11 => ?_
  iterate 2 refine zq tb rfl ?_
  refine dn hK11 rfl ?_
  refine ci h0 rfl ?_ ?_ <;> clear h0
  ·intro b12 h0
   refine sr rfl fun K13 hK13 => ?_
   refine zq tb rfl ?_
   refine dn hK13 rfl ?_
   replace h0 := Sh.some_eq h0
   subst r
   exact AW.ret (xr (Wk.d0 [(4, (i64 (-1)))] rfl))
  ·intro b12 h0
   refine AW.skip (hK10 _ ?_)
   refine sr rfl fun K14 hK14 => ?_
   iterate 2 refine zq tb rfl ?_
   refine dn hK14 rfl ?_
   replace h0 := Sh.some_eq h0
   subst r
   exact AW.ret (xr (Wk.d0 [(4, (i64 q9))] rfl))
theorem laws_szInstrS_ok {N : Nat} {p0 : (List RInstr)} {p1 : Int} {r : Int} (h0 : laws_szInstrS N p0 p1 = some r) : ACalls Tryz.prog 58 [(.sl (List.map eRInstr p0)), (i64 p1)] [] (fun v st => v = (i64 r) ∧ st = []) := by
 unfold laws_szInstrS at h0
 refine ACalls.intro Tryz.func58 rfl (by show 2 ≤ 27; decide) ?_
 show AW _ 0 _ (aret _ 0 Tryz.f58 _) ⟨27, _, _⟩
 refine AW.weaken (Wk.to (L := [(0, (.sl (List.map eRInstr p0))), (1, (i64 p1))]) ⟨.rfl, .rfl, trivial⟩) ?_
 refine sr rfl fun K1 hK1 => ?_
 refine zq tb rfl ?_
 refine dn hK1 rfl ?_
 refine sr rfl fun K2 hK2 => ?_
 iterate 2 refine zq tb rfl ?_
 refine zl tb rfl rfl ?_
 iterate 2 refine zq tb rfl ?_
 refine dn hK2 rfl ?_
 refine AW.seq fun K3 hK3 => ?_
 refine sr rfl fun K4 hK4 => ?_
 iterate 2 refine zq tb rfl ?_
 refine dn hK4 rfl ?_
 refine ci h0 rfl ?_ ?_ <;> clear h0
 ·intro b5 h0
  refine sr rfl fun K6 hK6 => ?_
  refine zq tb rfl ?_
  refine dn hK6 rfl ?_
  replace h0 := Sh.some_eq h0
  subst r
  exact AW.ret (xr (Wk.to (L := [(4, (i64 (-1)))]) ⟨.rfl, trivial⟩))
 ·intro b5 h0
  refine AW.skip (hK3 _ ?_)
  refine AW.seq fun K7 hK7 => ?_
  refine sr rfl fun K8 hK8 => ?_
  refine zq tb rfl ?_
  refine dn hK8 rfl ?_
  obtain ⟨o12, h1, h0⟩ := Sh.cont_some h0
  have M12 : ∀ (left11 : Int), o12 = Sum.inr left11 → ∀ s, Wk 0 s ⟨27, envL [(1, (i64 left11))], []⟩ → K7 s := by
   intro left11 hq s hw
   subst o12
   try dsimp only at h0
   refine hK7 _ (AW.weaken hw ?_)
   refine sr rfl fun K13 hK13 => ?_
   iterate 2 refine zq tb rfl ?_
   refine dn hK13 rfl ?_
   replace h0 := Sh.some_eq h0
   subst r
   exact AW.ret (xr (Wk.to (L := [(4, (i64 left11))]) ⟨.rfl, trivial⟩))
  refine AW.block (AW.loopF (σ := Int × Int) (fun n v => laws_szInstrS_L1 p0 n v.1 v.2 = some o12) (fun (left9, i10) => ⟨27, envL [(0, (.sl (List.map eRInstr p0))), (1, (i64 left9)), (5, (i64 i10))], []⟩) N (Sh.w (p1 - (Sh.len p0)), 0) h1 (Wk.tr rfl) (fun _ hv => by rw [laws_szInstrS_L1] at hv; cases hv) ?_)
  rintro n ⟨left9, i10⟩ h1
  try dsimp only at h1 ⊢
  rw [laws_szInstrS_L1] at h1
  refine AW.seq fun K14 hK14 => ?_
  refine sr rfl fun K15 hK15 => ?_
  iterate 2 refine zq tb rfl ?_
  refine zl tb rfl rfl ?_
  refine zq tb rfl ?_
  refine dn hK15 rfl ?_
  refine ci h1 rfl ?_ ?_ <;> clear h1
  ·intro b16 h1
   refine AW.skip (hK14 _ ?_)
   refine AW.seq fun K17 hK17 => ?_
   refine AW.block ?_
   refine sr rfl fun K18 hK18 => ?_
   iterate 2 refine zq tb rfl ?_
   obtain ⟨c19, gc19, h1⟩ := Sh.bind_some h1
   refine zx ei68 gc19 rfl rfl rfl ?_
   iterate 2 refine zq tb rfl ?_
   obtain ⟨q20, gq20, h1⟩ := Sh.bind_some h1
   refine zc hb83 (laws_szInstr_ok gq20) rfl rfl rfl ?_
   refine zq tb rfl ?_
   refine dn hK18 rfl ?_
   refine sr rfl fun K21 hK21 => ?_
   iterate 2 refine zq tb rfl ?_
   refine dn hK21 rfl ?_
   refine ci h1 rfl ?_ ?_ <;> clear h1
   ·intro b22 h1
    refine sr rfl fun K23 hK23 => ?_
    refine zq tb rfl ?_
    refine dn hK23 rfl ?_
    replace h1 := Sh.some_eq h1
    subst o12
    try dsimp only [id] at h0
    replace h0 := Sh.some_eq h0
    subst r
    exact AW.ret (xr (Wk.to (L := [(4, (i64 (-1)))]) ⟨.rfl, trivial⟩))
   ·intro b22 h1
    refine AW.skip (hK17 _ ?_)
    refine AW.regionO (by rfl) ?_
    iterate 3 refine zq tb rfl ?_
    exact AO.done (xi (q20, Sh.w (i10 + 1)) h1 (Wk.tr rfl))
  ·intro b16 h1
   exact AW.exit (M12 left9 (Sh.some_eq h1).symm _ (Wk.tr rfl))
theorem laws_szProc_ok {N : Nat} {p0 : RProc} {p1 : Int} {r : Int} (h0 : laws_szProc N p0 p1 = some r) : ACalls Tryz.prog 31 [(.agg (eRProc p0)), (i64 p1)] [] (fun v st => v = (i64 r) ∧ st = []) := by
 unfold laws_szProc at h0
 refine ACalls.intro Tryz.func31 rfl (by show 2 ≤ 24; decide) ?_
 show AW _ 0 _ (aret _ 0 Tryz.f31 _) ⟨24, _, _⟩
 refine AW.weaken (Wk.to (L := [(0, (.agg (eRProc p0))), (1, (i64 p1))]) ⟨.rfl, .rfl, trivial⟩) ?_
 refine sr rfl fun K1 hK1 => ?_
 refine ao_box (m := 0) (st' := [⟨0, 70, 5, [(eRProc p0)]⟩]) go0 rfl rfl rfl rfl rfl ?_
 refine zq tb rfl ?_
 refine dn hK1 rfl ?_
 refine sr rfl fun K2 hK2 => ?_
 iterate 3 refine zq tb rfl ?_
 obtain ⟨q3, gq3, h0⟩ := Sh.bind_some h0
 refine zc hb14 (laws_szIntS_ok gq3) rfl rfl rfl ?_
 refine zq tb rfl ?_
 refine dn hK2 rfl ?_
 refine AW.seq fun K4 hK4 => ?_
 refine sr rfl fun K5 hK5 => ?_
 iterate 2 refine zq tb rfl ?_
 refine dn hK5 rfl ?_
 refine ci h0 rfl ?_ ?_ <;> clear h0
 ·intro b6 h0
  refine sr rfl fun K7 hK7 => ?_
  refine zq tb rfl ?_
  refine dn hK7 rfl ?_
  replace h0 := Sh.some_eq h0
  subst r
  exact AW.ret (xr (Wk.d0 [(4, (i64 (-1)))] rfl))
 ·intro b6 h0
  refine AW.skip (hK4 _ ?_)
  refine sr rfl fun K8 hK8 => ?_
  iterate 3 refine zq tb rfl ?_
  obtain ⟨q9, gq9, h0⟩ := Sh.bind_some h0
  refine zc hb14 (laws_szIntS_ok gq9) rfl rfl rfl ?_
  refine zq tb rfl ?_
  refine dn hK8 rfl ?_
  refine AW.seq fun K10 hK10 => ?_
  refine sr rfl fun K11 hK11 => ?_
  iterate 2 refine zq tb rfl ?_
  refine dn hK11 rfl ?_
  refine ci h0 rfl ?_ ?_ <;> clear h0
  ·intro b12 h0
   refine sr rfl fun K13 hK13 => ?_
   refine zq tb rfl ?_
   refine dn hK13 rfl ?_
   replace h0 := Sh.some_eq h0
   subst r
   exact AW.ret (xr (Wk.d0 [(4, (i64 (-1)))] rfl))
  ·intro b12 h0
   refine AW.skip (hK10 _ ?_)
   refine sr rfl fun K14 hK14 => ?_
   iterate 3 refine zq tb rfl ?_
   obtain ⟨q15, gq15, h0⟩ := Sh.bind_some h0
   refine zc hb58 (laws_szInstrS_ok gq15) rfl rfl rfl ?_
   refine zq tb rfl ?_
   refine dn hK14 rfl ?_
   refine AW.seq fun K16 hK16 => ?_
   refine sr rfl fun K17 hK17 => ?_
   iterate 2 refine zq tb rfl ?_
   refine dn hK17 rfl ?_
   refine ci h0 rfl ?_ ?_ <;> clear h0
   ·intro b18 h0
    refine sr rfl fun K19 hK19 => ?_
    refine zq tb rfl ?_
    refine dn hK19 rfl ?_
    replace h0 := Sh.some_eq h0
    subst r
    exact AW.ret (xr (Wk.d0 [(4, (i64 (-1)))] rfl))
   ·intro b18 h0
    refine AW.skip (hK16 _ ?_)
    refine sr rfl fun K20 hK20 => ?_
    iterate 2 refine zq tb rfl ?_
    refine dn hK20 rfl ?_
    replace h0 := Sh.some_eq h0
    subst r
    exact AW.ret (xr (Wk.d0 [(4, (i64 q15))] rfl))
theorem laws_szProcS_ok {N : Nat} {p0 : (List RProc)} {p1 : Int} {r : Int} (h0 : laws_szProcS N p0 p1 = some r) : ACalls Tryz.prog 13 [(.sl (List.map eRProc p0)), (i64 p1)] [] (fun v st => v = (i64 r) ∧ st = []) := by
 unfold laws_szProcS at h0
 refine ACalls.intro Tryz.func13 rfl (by show 2 ≤ 27; decide) ?_
 show AW _ 0 _ (aret _ 0 Tryz.f13 _) ⟨27, _, _⟩
 refine AW.weaken (Wk.to (L := [(0, (.sl (List.map eRProc p0))), (1, (i64 p1))]) ⟨.rfl, .rfl, trivial⟩) ?_
 refine sr rfl fun K1 hK1 => ?_
 refine zq tb rfl ?_
 refine dn hK1 rfl ?_
 refine sr rfl fun K2 hK2 => ?_
 iterate 2 refine zq tb rfl ?_
 refine zl tb rfl rfl ?_
 iterate 2 refine zq tb rfl ?_
 refine dn hK2 rfl ?_
 refine AW.seq fun K3 hK3 => ?_
 refine sr rfl fun K4 hK4 => ?_
 iterate 2 refine zq tb rfl ?_
 refine dn hK4 rfl ?_
 refine ci h0 rfl ?_ ?_ <;> clear h0
 ·intro b5 h0
  refine sr rfl fun K6 hK6 => ?_
  refine zq tb rfl ?_
  refine dn hK6 rfl ?_
  replace h0 := Sh.some_eq h0
  subst r
  exact AW.ret (xr (Wk.to (L := [(4, (i64 (-1)))]) ⟨.rfl, trivial⟩))
 ·intro b5 h0
  refine AW.skip (hK3 _ ?_)
  refine AW.seq fun K7 hK7 => ?_
  refine sr rfl fun K8 hK8 => ?_
  refine zq tb rfl ?_
  refine dn hK8 rfl ?_
  obtain ⟨o12, h1, h0⟩ := Sh.cont_some h0
  have M12 : ∀ (left11 : Int), o12 = Sum.inr left11 → ∀ s, Wk 0 s ⟨27, envL [(1, (i64 left11))], []⟩ → K7 s := by
   intro left11 hq s hw
   subst o12
   try dsimp only at h0
   refine hK7 _ (AW.weaken hw ?_)
   refine sr rfl fun K13 hK13 => ?_
   iterate 2 refine zq tb rfl ?_
   refine dn hK13 rfl ?_
   replace h0 := Sh.some_eq h0
   subst r
   exact AW.ret (xr (Wk.to (L := [(4, (i64 left11))]) ⟨.rfl, trivial⟩))
  refine AW.block (AW.loopF (σ := Int × Int) (fun n v => laws_szProcS_L1 N p0 n v.1 v.2 = some o12) (fun (left9, i10) => ⟨27, envL [(0, (.sl (List.map eRProc p0))), (1, (i64 left9)), (5, (i64 i10))], []⟩) N (Sh.w (p1 - (Sh.len p0)), 0) h1 (Wk.tr rfl) (fun _ hv => by rw [laws_szProcS_L1] at hv; cases hv) ?_)
  rintro n ⟨left9, i10⟩ h1
  try dsimp only at h1 ⊢
  rw [laws_szProcS_L1] at h1
  refine AW.seq fun K14 hK14 => ?_
  refine sr rfl fun K15 hK15 => ?_
  iterate 2 refine zq tb rfl ?_
  refine zl tb rfl rfl ?_
  refine zq tb rfl ?_
  refine dn hK15 rfl ?_
  refine ci h1 rfl ?_ ?_ <;> clear h1
  ·intro b16 h1
   refine AW.skip (hK14 _ ?_)
   refine AW.seq fun K17 hK17 => ?_
   refine AW.block ?_
   refine sr rfl fun K18 hK18 => ?_
   iterate 2 refine zq tb rfl ?_
   obtain ⟨c19, gc19, h1⟩ := Sh.bind_some h1
   refine zx ei23 gc19 rfl rfl rfl ?_
   iterate 2 refine zq tb rfl ?_
   obtain ⟨q20, gq20, h1⟩ := Sh.bind_some h1
   refine zc hb31 (laws_szProc_ok gq20) rfl rfl rfl ?_
   refine zq tb rfl ?_
   refine dn hK18 rfl ?_
   refine sr rfl fun K21 hK21 => ?_
   iterate 2 refine zq tb rfl ?_
   refine dn hK21 rfl ?_
   refine ci h1 rfl ?_ ?_ <;> clear h1
   ·intro b22 h1
    refine sr rfl fun K23 hK23 => ?_
    refine zq tb rfl ?_
    refine dn hK23 rfl ?_
    replace h1 := Sh.some_eq h1
    subst o12
    try dsimp only [id] at h0
    replace h0 := Sh.some_eq h0
    subst r
    exact AW.ret (xr (Wk.to (L := [(4, (i64 (-1)))]) ⟨.rfl, trivial⟩))
   ·intro b22 h1
    refine AW.skip (hK17 _ ?_)
    refine AW.regionO (by rfl) ?_
    iterate 3 refine zq tb rfl ?_
    exact AO.done (xi (q20, Sh.w (i10 + 1)) h1 (Wk.tr rfl))
  ·intro b16 h1
   exact AW.exit (M12 left9 (Sh.some_eq h1).symm _ (Wk.tr rfl))
theorem laws_szImage_ok {N : Nat} {p0 : RImage} {p1 : Int} {r : Int} (h0 : laws_szImage N p0 p1 = some r) : ACalls Tryz.prog 4 [(.agg (eRImage p0)), (i64 p1)] [] (fun v st => v = (i64 r) ∧ st = []) := by
 unfold laws_szImage at h0
 refine ACalls.intro Tryz.func4 rfl (by show 2 ≤ 18; decide) ?_
 show AW _ 0 _ (aret _ 0 Tryz.f4 _) ⟨18, _, _⟩
 refine AW.weaken (Wk.to (L := [(0, (.agg (eRImage p0))), (1, (i64 p1))]) ⟨.rfl, .rfl, trivial⟩) ?_
 refine sr rfl fun K1 hK1 => ?_
 refine ao_box (m := 0) (st' := [⟨0, 25, 2, [(eRImage p0)]⟩]) go0 rfl rfl rfl rfl rfl ?_
 refine zq tb rfl ?_
 refine dn hK1 rfl ?_
 refine sr rfl fun K2 hK2 => ?_
 iterate 3 refine zq tb rfl ?_
 obtain ⟨q3, gq3, h0⟩ := Sh.bind_some h0
 refine zc hb12 (laws_szDeclS_ok gq3) rfl rfl rfl ?_
 refine zq tb rfl ?_
 refine dn hK2 rfl ?_
 refine AW.seq fun K4 hK4 => ?_
 refine sr rfl fun K5 hK5 => ?_
 iterate 2 refine zq tb rfl ?_
 refine dn hK5 rfl ?_
 refine ci h0 rfl ?_ ?_ <;> clear h0
 ·intro b6 h0
  refine sr rfl fun K7 hK7 => ?_
  refine zq tb rfl ?_
  refine dn hK7 rfl ?_
  replace h0 := Sh.some_eq h0
  subst r
  exact AW.ret (xr (Wk.d0 [(4, (i64 (-1)))] rfl))
 ·intro b6 h0
  refine AW.skip (hK4 _ ?_)
  refine sr rfl fun K8 hK8 => ?_
  iterate 3 refine zq tb rfl ?_
  obtain ⟨q9, gq9, h0⟩ := Sh.bind_some h0
  refine zc hb13 (laws_szProcS_ok gq9) rfl rfl rfl ?_
  refine zq tb rfl ?_
  refine dn hK8 rfl ?_
  refine AW.seq fun K10 hK10 => ?_
  refine sr rfl fun K11 hK11 => ?_
  iterate 2 refine zq tb rfl ?_
  refine dn hK11 rfl ?_
  refine ci h0 rfl ?_ ?_ <;> clear h0
  ·intro b12 h0
   refine sr rfl fun K13 hK13 => ?_
   refine zq tb rfl ?_
   refine dn hK13 rfl ?_
   replace h0 := Sh.some_eq h0
   subst r
   exact AW.ret (xr (Wk.d0 [(4, (i64 (-1)))] rfl))
  ·intro b12 h0
   refine AW.skip (hK10 _ ?_)
   refine sr rfl fun K14 hK14 => ?_
   iterate 2 refine zq tb rfl ?_
   refine dn hK14 rfl ?_
   replace h0 := Sh.some_eq h0
   subst r
   exact AW.ret (xr (Wk.d0 [(4, (i64 q9))] rfl))
theorem laws_szCell_ok {p0 : Cell} {p1 : Int} {r : Int} (h0 : laws_szCell p0 p1 = some r) : ACalls Tryz.prog 32 [(.agg (eCell p0)), (i64 p1)] [] (fun v st => v = (i64 r) ∧ st = []) := by
 unfold laws_szCell at h0
 refine ACalls.intro Tryz.func32 rfl (by show 2 ≤ 12; decide) ?_
 show AW _ 0 _ (aret _ 0 Tryz.f32 _) ⟨12, _, _⟩
 refine AW.weaken (Wk.to (L := [(0, (.agg (eCell p0))), (1, (i64 p1))]) ⟨.rfl, .rfl, trivial⟩) ?_
 refine sr rfl fun K1 hK1 => ?_
 refine ao_box (m := 0) (st' := [⟨0, 73, 3, [(eCell p0)]⟩]) go0 rfl rfl rfl rfl rfl ?_
 refine zq tb rfl ?_
 refine dn hK1 rfl ?_
 refine sr rfl fun K2 hK2 => ?_
 iterate 3 refine zq tb rfl ?_
 obtain ⟨q3, gq3, h0⟩ := Sh.bind_some h0
 refine zc hb14 (laws_szIntS_ok gq3) rfl rfl rfl ?_
 refine zq tb rfl ?_
 refine dn hK2 rfl ?_
 refine AW.seq fun K4 hK4 => ?_
 refine sr rfl fun K5 hK5 => ?_
 iterate 2 refine zq tb rfl ?_
 refine dn hK5 rfl ?_
 refine ci h0 rfl ?_ ?_ <;> clear h0
 ·intro b6 h0
  refine sr rfl fun K7 hK7 => ?_
  refine zq tb rfl ?_
  refine dn hK7 rfl ?_
  replace h0 := Sh.some_eq h0
  subst r
  exact AW.ret (xr (Wk.d0 [(4, (i64 (-1)))] rfl))
 ·intro b6 h0
  refine AW.skip (hK4 _ ?_)
  refine sr rfl fun K8 hK8 => ?_
  iterate 2 refine zq tb rfl ?_
  refine dn hK8 rfl ?_
  replace h0 := Sh.some_eq h0
  subst r
  exact AW.ret (xr (Wk.d0 [(4, (i64 q3))] rfl))
theorem laws_szCellS_ok {N : Nat} {p0 : (List Cell)} {p1 : Int} {r : Int} (h0 : laws_szCellS N p0 p1 = some r) : ACalls Tryz.prog 15 [(.sl (List.map eCell p0)), (i64 p1)] [] (fun v st => v = (i64 r) ∧ st = []) := by
 unfold laws_szCellS at h0
 refine ACalls.intro Tryz.func15 rfl (by show 2 ≤ 27; decide) ?_
 show AW _ 0 _ (aret _ 0 Tryz.f15 _) ⟨27, _, _⟩
 refine AW.weaken (Wk.to (L := [(0, (.sl (List.map eCell p0))), (1, (i64 p1))]) ⟨.rfl, .rfl, trivial⟩) ?_
 refine sr rfl fun K1 hK1 => ?_
 refine zq tb rfl ?_
 refine dn hK1 rfl ?_
 refine sr rfl fun K2 hK2 => ?_
 iterate 2 refine zq tb rfl ?_
 refine zl tb rfl rfl ?_
 iterate 2 refine zq tb rfl ?_
 refine dn hK2 rfl ?_
 refine AW.seq fun K3 hK3 => ?_
 refine sr rfl fun K4 hK4 => ?_
 iterate 2 refine zq tb rfl ?_
 refine dn hK4 rfl ?_
 refine ci h0 rfl ?_ ?_ <;> clear h0
 ·intro b5 h0
  refine sr rfl fun K6 hK6 => ?_
  refine zq tb rfl ?_
  refine dn hK6 rfl ?_
  replace h0 := Sh.some_eq h0
  subst r
  exact AW.ret (xr (Wk.to (L := [(4, (i64 (-1)))]) ⟨.rfl, trivial⟩))
 ·intro b5 h0
  refine AW.skip (hK3 _ ?_)
  refine AW.seq fun K7 hK7 => ?_
  refine sr rfl fun K8 hK8 => ?_
  refine zq tb rfl ?_
  refine dn hK8 rfl ?_
  obtain ⟨o12, h1, h0⟩ := Sh.cont_some h0
  have M12 : ∀ (left11 : Int), o12 = Sum.inr left11 → ∀ s, Wk 0 s ⟨27, envL [(1, (i64 left11))], []⟩ → K7 s := by
   intro left11 hq s hw
   subst o12
   try dsimp only at h0
   refine hK7 _ (AW.weaken hw ?_)
   refine sr rfl fun K13 hK13 => ?_
   iterate 2 refine zq tb rfl ?_
   refine dn hK13 rfl ?_
   replace h0 := Sh.some_eq h0
   subst r
   exact AW.ret (xr (Wk.to (L := [(4, (i64 left11))]) ⟨.rfl, trivial⟩))
  refine AW.block (AW.loopF (σ := Int × Int) (fun n v => laws_szCellS_L1 p0 n v.1 v.2 = some o12) (fun (left9, i10) => ⟨27, envL [(0, (.sl (List.map eCell p0))), (1, (i64 left9)), (5, (i64 i10))], []⟩) N (Sh.w (p1 - (Sh.len p0)), 0) h1 (Wk.tr rfl) (fun _ hv => by rw [laws_szCellS_L1] at hv; cases hv) ?_)
  rintro n ⟨left9, i10⟩ h1
  try dsimp only at h1 ⊢
  rw [laws_szCellS_L1] at h1
  refine AW.seq fun K14 hK14 => ?_
  refine sr rfl fun K15 hK15 => ?_
  iterate 2 refine zq tb rfl ?_
  refine zl tb rfl rfl ?_
  refine zq tb rfl ?_
  refine dn hK15 rfl ?_
  refine ci h1 rfl ?_ ?_ <;> clear h1
  ·intro b16 h1
   refine AW.skip (hK14 _ ?_)
   refine AW.seq fun K17 hK17 => ?_
   refine AW.block ?_
   refine sr rfl fun K18 hK18 => ?_
   iterate 2 refine zq tb rfl ?_
   obtain ⟨c19, gc19, h1⟩ := Sh.bind_some h1
   refine zx ei27 gc19 rfl rfl rfl ?_
   iterate 2 refine zq tb rfl ?_
   obtain ⟨q20, gq20, h1⟩ := Sh.bind_some h1
   refine zc hb32 (laws_szCell_ok gq20) rfl rfl rfl ?_
   refine zq tb rfl ?_
   refine dn hK18 rfl ?_
   refine sr rfl fun K21 hK21 => ?_
   iterate 2 refine zq tb rfl ?_
   refine dn hK21 rfl ?_
   refine ci h1 rfl ?_ ?_ <;> clear h1
   ·intro b22 h1
    refine sr rfl fun K23 hK23 => ?_
    refine zq tb rfl ?_
    refine dn hK23 rfl ?_
    replace h1 := Sh.some_eq h1
    subst o12
    try dsimp only [id] at h0
    replace h0 := Sh.some_eq h0
    subst r
    exact AW.ret (xr (Wk.to (L := [(4, (i64 (-1)))]) ⟨.rfl, trivial⟩))
   ·intro b22 h1
    refine AW.skip (hK17 _ ?_)
    refine AW.regionO (by rfl) ?_
    iterate 3 refine zq tb rfl ?_
    exact AO.done (xi (q20, Sh.w (i10 + 1)) h1 (Wk.tr rfl))
  ·intro b16 h1
   exact AW.exit (M12 left9 (Sh.some_eq h1).symm _ (Wk.tr rfl))
theorem laws_szFrame_ok {p0 : RFrame} {p1 : Int} {r : Int} (h0 : laws_szFrame p0 p1 = some r) : ACalls Tryz.prog 33 [(.agg (eRFrame p0)), (i64 p1)] [] (fun v st => v = (i64 r) ∧ st = []) := by
 unfold laws_szFrame at h0
 refine ACalls.intro Tryz.func33 rfl (by show 2 ≤ 24; decide) ?_
 show AW _ 0 _ (aret _ 0 Tryz.f33 _) ⟨24, _, _⟩
 refine AW.weaken (Wk.to (L := [(0, (.agg (eRFrame p0))), (1, (i64 p1))]) ⟨.rfl, .rfl, trivial⟩) ?_
 refine sr rfl fun K1 hK1 => ?_
 refine ao_box (m := 0) (st' := [⟨0, 76, 6, [(eRFrame p0)]⟩]) go0 rfl rfl rfl rfl rfl ?_
 refine zq tb rfl ?_
 refine dn hK1 rfl ?_
 refine sr rfl fun K2 hK2 => ?_
 iterate 3 refine zq tb rfl ?_
 obtain ⟨q3, gq3, h0⟩ := Sh.bind_some h0
 refine zc hb14 (laws_szIntS_ok gq3) rfl rfl rfl ?_
 refine zq tb rfl ?_
 refine dn hK2 rfl ?_
 refine AW.seq fun K4 hK4 => ?_
 refine sr rfl fun K5 hK5 => ?_
 iterate 2 refine zq tb rfl ?_
 refine dn hK5 rfl ?_
 refine ci h0 rfl ?_ ?_ <;> clear h0
 ·intro b6 h0
  refine sr rfl fun K7 hK7 => ?_
  refine zq tb rfl ?_
  refine dn hK7 rfl ?_
  replace h0 := Sh.some_eq h0
  subst r
  exact AW.ret (xr (Wk.d0 [(4, (i64 (-1)))] rfl))
 ·intro b6 h0
  refine AW.skip (hK4 _ ?_)
  refine sr rfl fun K8 hK8 => ?_
  iterate 3 refine zq tb rfl ?_
  obtain ⟨q9, gq9, h0⟩ := Sh.bind_some h0
  refine zc hb14 (laws_szIntS_ok gq9) rfl rfl rfl ?_
  refine zq tb rfl ?_
  refine dn hK8 rfl ?_
  refine AW.seq fun K10 hK10 => ?_
  refine sr rfl fun K11 hK11 => ?_
  iterate 2 refine zq tb rfl ?_
  refine dn hK11 rfl ?_
  refine ci h0 rfl ?_ ?_ <;> clear h0
  ·intro b12 h0
   refine sr rfl fun K13 hK13 => ?_
   refine zq tb rfl ?_
   refine dn hK13 rfl ?_
   replace h0 := Sh.some_eq h0
   subst r
   exact AW.ret (xr (Wk.d0 [(4, (i64 (-1)))] rfl))
  ·intro b12 h0
   refine AW.skip (hK10 _ ?_)
   refine sr rfl fun K14 hK14 => ?_
   iterate 3 refine zq tb rfl ?_
   obtain ⟨q15, gq15, h0⟩ := Sh.bind_some h0
   refine zc hb14 (laws_szIntS_ok gq15) rfl rfl rfl ?_
   refine zq tb rfl ?_
   refine dn hK14 rfl ?_
   refine AW.seq fun K16 hK16 => ?_
   refine sr rfl fun K17 hK17 => ?_
   iterate 2 refine zq tb rfl ?_
   refine dn hK17 rfl ?_
   refine ci h0 rfl ?_ ?_ <;> clear h0
   ·intro b18 h0
    refine sr rfl fun K19 hK19 => ?_
    refine zq tb rfl ?_
    refine dn hK19 rfl ?_
    replace h0 := Sh.some_eq h0
    subst r
    exact AW.ret (xr (Wk.d0 [(4, (i64 (-1)))] rfl))
   ·intro b18 h0
    refine AW.skip (hK16 _ ?_)
    refine sr rfl fun K20 hK20 => ?_
    iterate 2 refine zq tb rfl ?_
    refine dn hK20 rfl ?_
    replace h0 := Sh.some_eq h0
    subst r
    exact AW.ret (xr (Wk.d0 [(4, (i64 q15))] rfl))
theorem laws_szFrameS_ok {N : Nat} {p0 : (List RFrame)} {p1 : Int} {r : Int} (h0 : laws_szFrameS N p0 p1 = some r) : ACalls Tryz.prog 16 [(.sl (List.map eRFrame p0)), (i64 p1)] [] (fun v st => v = (i64 r) ∧ st = []) := by
 unfold laws_szFrameS at h0
 refine ACalls.intro Tryz.func16 rfl (by show 2 ≤ 27; decide) ?_
 show AW _ 0 _ (aret _ 0 Tryz.f16 _) ⟨27, _, _⟩
 refine AW.weaken (Wk.to (L := [(0, (.sl (List.map eRFrame p0))), (1, (i64 p1))]) ⟨.rfl, .rfl, trivial⟩) ?_
 refine sr rfl fun K1 hK1 => ?_
 refine zq tb rfl ?_
 refine dn hK1 rfl ?_
 refine sr rfl fun K2 hK2 => ?_
 iterate 2 refine zq tb rfl ?_
 refine zl tb rfl rfl ?_
 iterate 2 refine zq tb rfl ?_
 refine dn hK2 rfl ?_
 refine AW.seq fun K3 hK3 => ?_
 refine sr rfl fun K4 hK4 => ?_
 iterate 2 refine zq tb rfl ?_
 refine dn hK4 rfl ?_
 refine ci h0 rfl ?_ ?_ <;> clear h0
 ·intro b5 h0
  refine sr rfl fun K6 hK6 => ?_
  refine zq tb rfl ?_
  refine dn hK6 rfl ?_
  replace h0 := Sh.some_eq h0
  subst r
  exact AW.ret (xr (Wk.to (L := [(4, (i64 (-1)))]) ⟨.rfl, trivial⟩))
 ·intro b5 h0
  refine AW.skip (hK3 _ ?_)
  refine AW.seq fun K7 hK7 => ?_
  refine sr rfl fun K8 hK8 => ?_
  refine zq tb rfl ?_
  refine dn hK8 rfl ?_
  obtain ⟨o12, h1, h0⟩ := Sh.cont_some h0
  have M12 : ∀ (left11 : Int), o12 = Sum.inr left11 → ∀ s, Wk 0 s ⟨27, envL [(1, (i64 left11))], []⟩ → K7 s := by
   intro left11 hq s hw
   subst o12
   try dsimp only at h0
   refine hK7 _ (AW.weaken hw ?_)
   refine sr rfl fun K13 hK13 => ?_
   iterate 2 refine zq tb rfl ?_
   refine dn hK13 rfl ?_
   replace h0 := Sh.some_eq h0
   subst r
   exact AW.ret (xr (Wk.to (L := [(4, (i64 left11))]) ⟨.rfl, trivial⟩))
  refine AW.block (AW.loopF (σ := Int × Int) (fun n v => laws_szFrameS_L1 p0 n v.1 v.2 = some o12) (fun (left9, i10) => ⟨27, envL [(0, (.sl (List.map eRFrame p0))), (1, (i64 left9)), (5, (i64 i10))], []⟩) N (Sh.w (p1 - (Sh.len p0)), 0) h1 (Wk.tr rfl) (fun _ hv => by rw [laws_szFrameS_L1] at hv; cases hv) ?_)
  rintro n ⟨left9, i10⟩ h1
  try dsimp only at h1 ⊢
  rw [laws_szFrameS_L1] at h1
  refine AW.seq fun K14 hK14 => ?_
  refine sr rfl fun K15 hK15 => ?_
  iterate 2 refine zq tb rfl ?_
  refine zl tb rfl rfl ?_
  refine zq tb rfl ?_
  refine dn hK15 rfl ?_
  refine ci h1 rfl ?_ ?_ <;> clear h1
  ·intro b16 h1
   refine AW.skip (hK14 _ ?_)
   refine AW.seq fun K17 hK17 => ?_
   refine AW.block ?_
   refine sr rfl fun K18 hK18 => ?_
   iterate 2 refine zq tb rfl ?_
   obtain ⟨c19, gc19, h1⟩ := Sh.bind_some h1
   refine zx ei28 gc19 rfl rfl rfl ?_
   iterate 2 refine zq tb rfl ?_
   obtain ⟨q20, gq20, h1⟩ := Sh.bind_some h1
   refine zc hb33 (laws_szFrame_ok gq20) rfl rfl rfl ?_
   refine zq tb rfl ?_
   refine dn hK18 rfl ?_
   refine sr rfl fun K21 hK21 => ?_
   iterate 2 refine zq tb rfl ?_
   refine dn hK21 rfl ?_
   refine ci h1 rfl ?_ ?_ <;> clear h1
   ·intro b22 h1
    refine sr rfl fun K23 hK23 => ?_
    refine zq tb rfl ?_
    refine dn hK23 rfl ?_
    replace h1 := Sh.some_eq h1
    subst o12
    try dsimp only [id] at h0
    replace h0 := Sh.some_eq h0
    subst r
    exact AW.ret (xr (Wk.to (L := [(4, (i64 (-1)))]) ⟨.rfl, trivial⟩))
   ·intro b22 h1
    refine AW.skip (hK17 _ ?_)
    refine AW.regionO (by rfl) ?_
    iterate 3 refine zq tb rfl ?_
    exact AO.done (xi (q20, Sh.w (i10 + 1)) h1 (Wk.tr rfl))
  ·intro b16 h1
   exact AW.exit (M12 left9 (Sh.some_eq h1).symm _ (Wk.tr rfl))
theorem laws_szState_ok {N : Nat} {p0 : RState} {p1 : Int} {r : Int} (h0 : laws_szState N p0 p1 = some r) : ACalls Tryz.prog 5 [(.agg (eRState p0)), (i64 p1)] [] (fun v st => v = (i64 r) ∧ st = []) := by
 unfold laws_szState at h0
 refine ACalls.intro Tryz.func5 rfl (by show 2 ≤ 24; decide) ?_
 show AW _ 0 _ (aret _ 0 Tryz.f5 _) ⟨24, _, _⟩
 refine AW.weaken (Wk.to (L := [(0, (.agg (eRState p0))), (1, (i64 p1))]) ⟨.rfl, .rfl, trivial⟩) ?_
 refine sr rfl fun K1 hK1 => ?_
 refine ao_box (m := 0) (st' := [⟨0, 30, 7, [(eRState p0)]⟩]) go0 rfl rfl rfl rfl rfl ?_
 refine zq tb rfl ?_
 refine dn hK1 rfl ?_
 refine sr rfl fun K2 hK2 => ?_
 iterate 3 refine zq tb rfl ?_
 obtain ⟨q3, gq3, h0⟩ := Sh.bind_some h0
 refine zc hb14 (laws_szIntS_ok gq3) rfl rfl rfl ?_
 refine zq tb rfl ?_
 refine dn hK2 rfl ?_
 refine AW.seq fun K4 hK4 => ?_
 refine sr rfl fun K5 hK5 => ?_
 iterate 2 refine zq tb rfl ?_
 refine dn hK5 rfl ?_
 refine ci h0 rfl ?_ ?_ <;> clear h0
 ·intro b6 h0
  refine sr rfl fun K7 hK7 => ?_
  refine zq tb rfl ?_
  refine dn hK7 rfl ?_
  replace h0 := Sh.some_eq h0
  subst r
  exact AW.ret (xr (Wk.d0 [(4, (i64 (-1)))] rfl))
 ·intro b6 h0
  refine AW.skip (hK4 _ ?_)
  refine sr rfl fun K8 hK8 => ?_
  iterate 3 refine zq tb rfl ?_
  obtain ⟨q9, gq9, h0⟩ := Sh.bind_some h0
  refine zc hb15 (laws_szCellS_ok gq9) rfl rfl rfl ?_
  refine zq tb rfl ?_
  refine dn hK8 rfl ?_
  refine AW.seq fun K10 hK10 => ?_
  refine sr rfl fun K11 hK11 => ?_
  iterate 2 refine zq tb rfl ?_
  refine dn hK11 rfl ?_
  refine ci h0 rfl ?_ ?_ <;> clear h0
  ·intro b12 h0
   refine sr rfl fun K13 hK13 => ?_
   refine zq tb rfl ?_
   refine dn hK13 rfl ?_
   replace h0 := Sh.some_eq h0
   subst r
   exact AW.ret (xr (Wk.d0 [(4, (i64 (-1)))] rfl))
  ·intro b12 h0
   refine AW.skip (hK10 _ ?_)
   refine sr rfl fun K14 hK14 => ?_
   iterate 3 refine zq tb rfl ?_
   obtain ⟨q15, gq15, h0⟩ := Sh.bind_some h0
   refine zc hb16 (laws_szFrameS_ok gq15) rfl rfl rfl ?_
   refine zq tb rfl ?_
   refine dn hK14 rfl ?_
   refine AW.seq fun K16 hK16 => ?_
   refine sr rfl fun K17 hK17 => ?_
   iterate 2 refine zq tb rfl ?_
   refine dn hK17 rfl ?_
   refine ci h0 rfl ?_ ?_ <;> clear h0
   ·intro b18 h0
    refine sr rfl fun K19 hK19 => ?_
    refine zq tb rfl ?_
    refine dn hK19 rfl ?_
    replace h0 := Sh.some_eq h0
    subst r
    exact AW.ret (xr (Wk.d0 [(4, (i64 (-1)))] rfl))
   ·intro b18 h0
    refine AW.skip (hK16 _ ?_)
    refine sr rfl fun K20 hK20 => ?_
    iterate 2 refine zq tb rfl ?_
    refine dn hK20 rfl ?_
    replace h0 := Sh.some_eq h0
    subst r
    exact AW.ret (xr (Wk.d0 [(4, (i64 q15))] rfl))
theorem laws_toIntS_ok {N : Nat} {p0 : (List Int)} {r : (List Int)} (h0 : laws_toIntS N p0 = some r) : ACalls Tryz.prog 20 [(.sl (List.map eI p0))] [] (fun v st => v = (.own 0 0 (List.length r)) ∧ st = [⟨0, 3, 1, List.map eI r⟩]) := by
 unfold laws_toIntS at h0
 refine ACalls.intro Tryz.func20 rfl (by show 1 ≤ 22; decide) ?_
 show AW _ 0 _ (aret _ 0 Tryz.f20 _) ⟨22, _, _⟩
 refine AW.weaken (Wk.to (L := [(0, (.sl (List.map eI p0)))]) ⟨.rfl, trivial⟩) ?_
 refine sr rfl fun K1 hK1 => ?_
 refine zq tb rfl ?_
 refine dn hK1 rfl ?_
 refine sr rfl fun K2 hK2 => ?_
 refine zq tb rfl ?_
 refine zl tb rfl rfl ?_
 obtain ⟨l3, gl3, h0⟩ := Sh.bind_some h0
 refine ao_make (m := 0) (st' := [⟨0, 3, 1, List.map eI l3⟩]) (enc := eI) (u := 0) go0 ei26 rfl rfl rfl gl3 rfl rfl ?_
 refine zq tb rfl ?_
 refine dn hK2 rfl ?_
 refine AW.seq fun K4 hK4 => ?_
 refine sr rfl fun K5 hK5 => ?_
 refine zq tb rfl ?_
 refine dn hK5 rfl ?_
 obtain ⟨o9, h1, h0⟩ := Sh.bind_some h0
 have M9 : ∀ (l8 : (List Int)), o9 = l8 → ∀ s, Wk 0 s ⟨22, envL [(3, (.own 0 0 (List.length l8)))], [⟨0, 3, 1, List.map eI l8⟩]⟩ → K4 s := by
  intro l8 hq s hw
  subst o9
  try dsimp only at h0
  refine hK4 _ (AW.weaken hw ?_)
  refine sr rfl fun K10 hK10 => ?_
  iterate 2 refine zq tb rfl ?_
  refine dn hK10 rfl ?_
  replace h0 := Sh.some_eq h0
  subst r
  exact AW.ret (xr (Wk.to (L := [(2, (.own 0 0 (List.length l8)))]) ⟨.rfl, trivial⟩))
 refine AW.block (AW.loopF (σ := Int × (List Int)) (fun n v => laws_toIntS_L1 p0 n v.1 v.2 = some o9) (fun (i6, l7) => ⟨22, envL [(0, (.sl (List.map eI p0))), (3, (.own 0 0 (List.length l7))), (4, (i64 i6))], [⟨0, 3, 1, List.map eI l7⟩]⟩) N (0, l3) h1 (Wk.tr rfl) (fun _ hv => by rw [laws_toIntS_L1] at hv; cases hv) ?_)
 rintro n ⟨i6, l7⟩ h1
 try dsimp only at h1 ⊢
 rw [laws_toIntS_L1] at h1
 refine AW.seq fun K11 hK11 => ?_
 refine sr rfl fun K12 hK12 => ?_
 iterate 2 refine zq tb rfl ?_
 refine zl tb rfl rfl ?_
 refine zq tb rfl ?_
 refine dn hK12 rfl ?_
 refine ci h1 rfl ?_ ?_ <;> clear h1
 ·intro b13 h1
  refine AW.skip (hK11 _ ?_)
  refine AW.seq fun K14 hK14 => ?_
  refine AW.block ?_
  refine AW.regionO (by rfl) ?_
  iterate 4 refine zq tb rfl ?_
  obtain ⟨c15, gc15, h1⟩ := Sh.bind_some h1
  refine zx ei26 gc15 rfl rfl rfl ?_
  refine zq tb rfl ?_
  obtain ⟨c16, gc16, h1⟩ := Sh.bind_some h1
  refine zz (.ptr 0 0 (Int.toNat i6) 0) (aq_ixo ei26 rfl rfl rfl rfl gc16) rfl ?_
  refine ao_stl (st' := [⟨0, 3, 1, List.map eI (Sh.put l7 i6 c15)⟩]) (u' := c15) go0 ti3 rfl rfl gc16 rfl rfl rfl (show 0 + 1 ≤ 1 by decide) rfl rfl ?_
  refine dn hK14 rfl ?_
  refine AW.regionO (by rfl) ?_
  iterate 3 refine zq tb rfl ?_
  exact AO.done (xi (Sh.w (i6 + 1), Sh.put l7 i6 c15) h1 (Wk.to (L := [(0, (.sl (List.map eI p0))), (3, (.own 0 0 (List.length (Sh.put l7 i6 c15)))), (4, (i64 (Sh.w (i6 + 1))))]) ⟨.rfl, (.len (by simp only [Sh.put_len])), .rfl, trivial⟩))
 ·intro b13 h1
  exact AW.exit (M9 l7 (Sh.some_eq h1).symm _ (Wk.tr rfl))
theorem laws_toCon_ok {N : Nat} {p0 : RCon} {r : RCon} (h0 : laws_toCon N p0 = some r) : ACalls Tryz.prog 92 [(.agg (eRCon p0))] [] (fun v st => v = (.agg (eRCon r)) ∧ st = []) := by
 unfold laws_toCon at h0
 refine ACalls.flat rfl ?_
 refine ACalls.intro Tryz.func92 rfl (by show 1 ≤ 9; decide) ?_
 show AW _ 0 _ (aret _ 0 Tryz.f92 _) ⟨9, _, _⟩
 refine AW.weaken (Wk.to (L := [(0, (.agg (eRCon p0)))]) ⟨.rfl, trivial⟩) ?_
 refine sr rfl fun K1 hK1 => ?_
 refine ao_box (m := 0) (st' := [⟨0, 139, 1, [(eRCon p0)]⟩]) go0 rfl rfl rfl rfl rfl ?_
 refine ao_alloc (m := 1) (st' := [⟨0, 139, 1, [(eRCon p0)]⟩, ⟨0, 153, 1, [[.zc]]⟩]) go0 zi153 rfl rfl ?_
 refine dn hK1 rfl ?_
 refine sr rfl fun K2 hK2 => ?_
 refine ao_alloc (m := 2) (st' := [⟨0, 139, 1, [(eRCon p0)]⟩, ⟨0, 153, 1, [[.zc]]⟩, ⟨0, 153, 1, [[.zc]]⟩]) go0 zi153 rfl rfl ?_
 refine dn hK2 rfl ?_
 refine sr rfl fun K3 hK3 => ?_
 iterate 2 refine zq tb rfl ?_
 obtain ⟨q4, gq4, h0⟩ := Sh.bind_some h0
 refine ao_call (v' := (.own 3 0 (List.length q4))) (st' := [⟨0, 139, 1, [(eRCon p0)]⟩, ⟨0, 153, 1, [[.zc]]⟩, ⟨0, 153, 1, [[.zc]]⟩, ⟨0, 3, 1, List.map eI q4⟩]) go0 hb20 (laws_toIntS_ok gq4) rfl rfl ⟨(pure_map' fun _ => rfl), trivial⟩ rfl rfl ?_
 refine zq tb rfl ?_
 refine AO.weaken (Wk.frz (L := [(2, (.ptr 1 0 0 0)), (3, (.ptr 2 0 0 0)), (6, (.sl (List.map eI q4))), (7, (.ptr 2 0 0 0))]) (st' := [⟨0, 139, 1, [(eRCon p0)]⟩, ⟨0, 153, 1, [[.zc]]⟩, ⟨0, 153, 1, [[.zc]]⟩, ⟨1, 3, 1, []⟩]) (id := 3) rfl (show 0 ≤ 3 by decide) (pure_map fun _ => rfl) ⟨.rfl, .rfl, (.frz rfl), .rfl, trivial⟩ rfl) ?_
 refine ao_str (st' := [⟨0, 139, 1, [(eRCon p0)]⟩, ⟨0, 153, 1, [[.zc]]⟩, ⟨0, 153, 1, [[(.sl (List.map eI q4))]]⟩, ⟨1, 3, 1, []⟩]) go0 ti26 rfl rfl rfl rfl rfl rfl (show 0 + 1 ≤ 1 by decide) rfl ?_
 refine dn hK3 rfl ?_
 refine sr rfl fun K5 hK5 => ?_
 refine zq tb rfl ?_
 refine ao_str (st' := [⟨0, 139, 1, [(eRCon p0)]⟩, ⟨0, 153, 1, [[(.sl (List.map eI q4))]]⟩, ⟨0, 153, 1, [[(.sl (List.map eI q4))]]⟩, ⟨1, 3, 1, []⟩]) go0 ti153 rfl rfl rfl rfl rfl rfl (show 0 + 1 ≤ 1 by decide) rfl ?_
 refine dn hK5 rfl ?_
 replace h0 := Sh.some_eq h0
 subst r
 exact AW.ret (Exists.intro _ (And.intro (Wk.refl _ _) (aq_ldpa (x := .tmp 2) (off := 0) (cs := [(.sl (List.map eI q4))]) (vs := [(.sl (List.map eI q4))]) ti153 rfl rfl rfl (show 0 + 1 ≤ 1 by decide) rfl _ rfl)))
theorem laws_toConS_ok {N : Nat} {p0 : (List RCon)} {r : (List RCon)} (h0 : laws_toConS N p0 = some r) : ACalls Tryz.prog 68 [(.sl (List.map eRCon p0))] [] (fun v st => v = (.own 0 0 (List.length r)) ∧ st = [⟨0, 153, 1, List.map eRCon r⟩]) := by
 unfold laws_toConS at h0
 refine ACalls.intro Tryz.func68 rfl (by show 1 ≤ 23; decide) ?_
 show AW _ 0 _ (aret _ 0 Tryz.f68 _) ⟨23, _, _⟩
 refine AW.weaken (Wk.to (L := [(0, (.sl (List.map eRCon p0)))]) ⟨.rfl, trivial⟩) ?_
 refine sr rfl fun K1 hK1 => ?_
 refine zq tb rfl ?_
 refine dn hK1 rfl ?_
 refine sr rfl fun K2 hK2 => ?_
 refine zq tb rfl ?_
 refine zl tb rfl rfl ?_
 obtain ⟨l3, gl3, h0⟩ := Sh.bind_some h0
 refine ao_make (m := 0) (st' := [⟨0, 153, 1, List.map eRCon l3⟩]) (enc := eRCon) (u := (RCon.mk [])) go0 ei82 rfl rfl rfl gl3 rfl rfl ?_
 refine zq tb rfl ?_
 refine dn hK2 rfl ?_
 refine AW.seq fun K4 hK4 => ?_
 refine sr rfl fun K5 hK5 => ?_
 refine zq tb rfl ?_
 refine dn hK5 rfl ?_
 obtain ⟨o9, h1, h0⟩ := Sh.bind_some h0
 have M9 : ∀ (l8 : (List RCon)), o9 = l8 → ∀ s, Wk 0 s ⟨23, envL [(3, (.own 0 0 (List.length l8)))], [⟨0, 153, 1, List.map eRCon l8⟩]⟩ → K4 s := by
  intro l8 hq s hw
  subst o9
  try dsimp only at h0
  refine hK4 _ (AW.weaken hw ?_)
  refine sr rfl fun K10 hK10 => ?_
  iterate 2 refine zq tb rfl ?_
  refine dn hK10 rfl ?_
  replace h0 := Sh.some_eq h0
  subst r
  exact AW.ret (xr (Wk.to (L := [(2, (.own 0 0 (List.length l8)))]) ⟨.rfl, trivial⟩))
 refine AW.block (AW.loopF (σ := Int × (List RCon)) (fun n v => laws_toConS_L1 N p0 n v.1 v.2 = some o9) (fun (i6, l7) => ⟨23, envL [(0, (.sl (List.map eRCon p0))), (3, (.own 0 0 (List.length l7))), (4, (i64 i6))], [⟨0, 153, 1, List.map eRCon l7⟩]⟩) N (0, l3) h1 (Wk.tr rfl) (fun _ hv => by rw [laws_toConS_L1] at hv; cases hv) ?_)
 rintro n ⟨i6, l7⟩ h1
 try dsimp only at h1 ⊢
 rw [laws_toConS_L1] at h1
 refine AW.seq fun K11 hK11 => ?_
 refine sr rfl fun K12 hK12 => ?_
 iterate 2 refine zq tb rfl ?_
 refine zl tb rfl rfl ?_
 refine zq tb rfl ?_
 refine dn hK12 rfl ?_
 refine ci h1 rfl ?_ ?_ <;> clear h1
 ·intro b13 h1
  refine AW.skip (hK11 _ ?_)
  refine AW.seq fun K14 hK14 => ?_
  refine AW.block ?_
  refine AW.regionO (by rfl) ?_
  iterate 4 refine zq tb rfl ?_
  obtain ⟨c15, gc15, h1⟩ := Sh.bind_some h1
  refine zx ei64 gc15 rfl rfl rfl ?_
  refine zq tb rfl ?_
  obtain ⟨q16, gq16, h1⟩ := Sh.bind_some h1
  refine zc (v' := (.agg (eRCon q16))) hb92 (laws_toCon_ok gq16) rfl rfl rfl ?_
  obtain ⟨c17, gc17, h1⟩ := Sh.bind_some h1
  refine zz (.ptr 0 0 (Int.toNat i6) 0) (aq_ixo ei82 rfl rfl rfl rfl gc17) rfl ?_
  refine ao_stl (st' := [⟨0, 153, 1, List.map eRCon (Sh.put l7 i6 q16)⟩]) (u' := q16) go0 ti153 rfl rfl gc17 rfl rfl rfl (show 0 + 1 ≤ 1 by decide) rfl rfl ?_
  refine dn hK14 rfl ?_
  refine AW.regionO (by rfl) ?_
  iterate 3 refine zq tb rfl ?_
  exact AO.done (xi (Sh.w (i6 + 1), Sh.put l7 i6 q16) h1 (Wk.to (L := [(0, (.sl (List.map eRCon p0))), (3, (.own 0 0 (List.length (Sh.put l7 i6 q16)))), (4, (i64 (Sh.w (i6 + 1))))]) ⟨.rfl, (.len (by simp only [Sh.put_len])), .rfl, trivial⟩))
 ·intro b13 h1
  exact AW.exit (M9 l7 (Sh.some_eq h1).symm _ (Wk.tr rfl))
theorem laws_toDecl_ok {N : Nat} {p0 : RDecl} {r : RDecl} (h0 : laws_toDecl N p0 = some r) : ACalls Tryz.prog 41 [(.agg (eRDecl p0))] [] (fun v st => v = (.agg (eRDecl r)) ∧ st = []) := by
 unfold laws_toDecl at h0
 refine ACalls.flat rfl ?_
 refine ACalls.intro Tryz.func41 rfl (by show 1 ≤ 15; decide) ?_
 show AW _ 0 _ (aret _ 0 Tryz.f41 _) ⟨15, _, _⟩
 refine AW.weaken (Wk.to (L := [(0, (.agg (eRDecl p0)))]) ⟨.rfl, trivial⟩) ?_
 refine sr rfl fun K1 hK1 => ?_
 refine ao_box (m := 0) (st' := [⟨0, 66, 3, [(eRDecl p0)]⟩]) go0 rfl rfl rfl rfl rfl ?_
 refine ao_alloc (m := 1) (st' := [⟨0, 66, 3, [(eRDecl p0)]⟩, ⟨0, 84, 3, [[(i64 0), (i64 0), .zc]]⟩]) go0 zi84 rfl rfl ?_
 refine dn hK1 rfl ?_
 refine sr rfl fun K2 hK2 => ?_
 refine ao_alloc (m := 2) (st' := [⟨0, 66, 3, [(eRDecl p0)]⟩, ⟨0, 84, 3, [[(i64 0), (i64 0), .zc]]⟩, ⟨0, 84, 3, [[(i64 0), (i64 0), .zc]]⟩]) go0 zi84 rfl rfl ?_
 refine dn hK2 rfl ?_
 refine sr rfl fun K3 hK3 => ?_
 iterate 3 refine zq tb rfl ?_
 refine ao_str (st' := [⟨0, 66, 3, [(eRDecl p0)]⟩, ⟨0, 84, 3, [[(i64 0), (i64 0), .zc]]⟩, ⟨0, 84, 3, [[(i64 p0.from_), (i64 0), .zc]]⟩]) go0 ti3 rfl rfl rfl rfl rfl rfl (show 0 + 1 ≤ 3 by decide) rfl ?_
 refine dn hK3 rfl ?_
 refine sr rfl fun K4 hK4 => ?_
 iterate 3 refine zq tb rfl ?_
 refine ao_str (st' := [⟨0, 66, 3, [(eRDecl p0)]⟩, ⟨0, 84, 3, [[(i64 0), (i64 0), .zc]]⟩, ⟨0, 84, 3, [[(i64 p0.from_), (i64 p0.to), .zc]]⟩]) go0 ti3 rfl rfl rfl rfl rfl rfl (show 1 + 1 ≤ 3 by decide) rfl ?_
 refine dn hK4 rfl ?_
 refine sr rfl fun K5 hK5 => ?_
 iterate 2 refine zq tb rfl ?_
 obtain ⟨q6, gq6, h0⟩ := Sh.bind_some h0
 refine ao_call (v' := (.own 3 0 (List.length q6))) (st' := [⟨0, 66, 3, [(eRDecl p0)]⟩, ⟨0, 84, 3, [[(i64 0), (i64 0), .zc]]⟩, ⟨0, 84, 3, [[(i64 p0.from_), (i64 p0.to), .zc]]⟩, ⟨0, 153, 1, List.map eRCon q6⟩]) go0 hb68 (laws_toConS_ok gq6) rfl rfl ⟨(pure_map' fun _ => rfl), trivial⟩ rfl rfl ?_
 refine zq tb rfl ?_
 refine AO.weaken (Wk.frz (L := [(2, (.ptr 1 0 0 0)), (3, (.ptr 2 0 0 0)), (12, (.sl (List.map eRCon q6))), (13, (.ptr 2 0 0 2))]) (st' := [⟨0, 66, 3, [(eRDecl p0)]⟩, ⟨0, 84, 3, [[(i64 0), (i64 0), .zc]]⟩, ⟨0, 84, 3, [[(i64 p0.from_), (i64 p0.to), .zc]]⟩, ⟨1, 153, 1, []⟩]) (id := 3) rfl (show 0 ≤ 3 by decide) (pure_map fun _ => rfl) ⟨.rfl, .rfl, (.frz rfl), .rfl, trivial⟩ rfl) ?_
 refine ao_str (st' := [⟨0, 66, 3, [(eRDecl p0)]⟩, ⟨0, 84, 3, [[(i64 0), (i64 0), .zc]]⟩, ⟨0, 84, 3, [[(i64 p0.from_), (i64 p0.to), (.sl (List.map eRCon q6))]]⟩, ⟨1, 153, 1, []⟩]) go0 ti82 rfl rfl rfl rfl rfl rfl (show 2 + 1 ≤ 3 by decide) rfl ?_
 refine dn hK5 rfl ?_
 refine sr rfl fun K7 hK7 => ?_
 refine zq tb rfl ?_
 refine ao_str (st' := [⟨0, 66, 3, [(eRDecl p0)]⟩, ⟨0, 84, 3, [[(i64 p0.from_), (i64 p0.to), (.sl (List.map eRCon q6))]]⟩, ⟨0, 84, 3, [[(i64 p0.from_), (i64 p0.to), (.sl (List.map eRCon q6))]]⟩, ⟨1, 153, 1, []⟩]) go0 ti84 rfl rfl rfl rfl rfl rfl (show 0 + 3 ≤ 3 by decide) rfl ?_
 refine dn hK7 rfl ?_
 replace h0 := Sh.some_eq h0
 subst r
 exact AW.ret (Exists.intro _ (And.intro (Wk.refl _ _) (aq_ldpa (x := .tmp 2) (off := 0) (cs := [(i64 p0.from_), (i64 p0.to), (.sl (List.map eRCon q6))]) (vs := [(i64 p0.from_), (i64 p0.to), (.sl (List.map eRCon q6))]) ti84 rfl rfl rfl (show 0 + 3 ≤ 3 by decide) rfl _ rfl)))
theorem laws_toDeclS_ok {N : Nat} {p0 : (List RDecl)} {r : (List RDecl)} (h0 : laws_toDeclS N p0 = some r) : ACalls Tryz.prog 18 [(.sl (List.map eRDecl p0))] [] (fun v st => v = (.own 0 0 (List.length r)) ∧ st = [⟨0, 84, 3, List.map eRDecl r⟩]) := by
 unfold laws_toDeclS at h0
 refine ACalls.intro Tryz.func18 rfl (by show 1 ≤ 23; decide) ?_
 show AW _ 0 _ (aret _ 0 Tryz.f18 _) ⟨23, _, _⟩
 refine AW.weaken (Wk.to (L := [(0, (.sl (List.map eRDecl p0)))]) ⟨.rfl, trivial⟩) ?_
 refine sr rfl fun K1 hK1 => ?_
 refine zq tb rfl ?_
 refine dn hK1 rfl ?_
 refine sr rfl fun K2 hK2 => ?_
 refine zq tb rfl ?_
 refine zl tb rfl rfl ?_
 obtain ⟨l3, gl3, h0⟩ := Sh.bind_some h0
 refine ao_make (m := 0) (st' := [⟨0, 84, 3, List.map eRDecl l3⟩]) (enc := eRDecl) (u := (RDecl.mk 0 0 [])) go0 ei34 rfl rfl rfl gl3 rfl rfl ?_
 refine zq tb rfl ?_
 refine dn hK2 rfl ?_
 refine AW.seq fun K4 hK4 => ?_
 refine sr rfl fun K5 hK5 => ?_
 refine zq tb rfl ?_
 refine dn hK5 rfl ?_
 obtain ⟨o9, h1, h0⟩ := Sh.bind_some h0
 have M9 : ∀ (l8 : (List RDecl)), o9 = l8 → ∀ s, Wk 0 s ⟨23, envL [(3, (.own 0 0 (List.length l8)))], [⟨0, 84, 3, List.map eRDecl l8⟩]⟩ → K4 s := by
  intro l8 hq s hw
  subst o9
  try dsimp only at h0
  refine hK4 _ (AW.weaken hw ?_)
  refine sr rfl fun K10 hK10 => ?_
  iterate 2 refine zq tb rfl ?_
  refine dn hK10 rfl ?_
  replace h0 := Sh.some_eq h0
  subst r
  exact AW.ret (xr (Wk.to (L := [(2, (.own 0 0 (List.length l8)))]) ⟨.rfl, trivial⟩))
 refine AW.block (AW.loopF (σ := Int × (List RDecl)) (fun n v => laws_toDeclS_L1 N p0 n v.1 v.2 = some o9) (fun (i6, l7) => ⟨23, envL [(0, (.sl (List.map eRDecl p0))), (3, (.own 0 0 (List.length l7))), (4, (i64 i6))], [⟨0, 84, 3, List.map eRDecl l7⟩]⟩) N (0, l3) h1 (Wk.tr rfl) (fun _ hv => by rw [laws_toDeclS_L1] at hv; cases hv) ?_)
 rintro n ⟨i6, l7⟩ h1
 try dsimp only at h1 ⊢
 rw [laws_toDeclS_L1] at h1
 refine AW.seq fun K11 hK11 => ?_
 refine sr rfl fun K12 hK12 => ?_
 iterate 2 refine zq tb rfl ?_
 refine zl tb rfl rfl ?_
 refine zq tb rfl ?_
 refine dn hK12 rfl ?_
 refine ci h1 rfl ?_ ?_ <;> clear h1
 ·intro b13 h1
  refine AW.skip (hK11 _ ?_)
  refine AW.seq fun K14 hK14 => ?_
  refine AW.block ?_
  refine AW.regionO (by rfl) ?_
  iterate 4 refine zq tb rfl ?_
  obtain ⟨c15, gc15, h1⟩ := Sh.bind_some h1
  refine zx ei22 gc15 rfl rfl rfl ?_
  refine zq tb rfl ?_
  obtain ⟨q16, gq16, h1⟩ := Sh.bind_some h1
  refine zc (v' := (.agg (eRDecl q16))) hb41 (laws_toDecl_ok gq16) rfl rfl rfl ?_
  obtain ⟨c17, gc17, h1⟩ := Sh.bind_some h1
  refine zz (.ptr 0 0 (Int.toNat i6) 0) (aq_ixo ei34 rfl rfl rfl rfl gc17) rfl ?_
  refine ao_stl (st' := [⟨0, 84, 3, List.map eRDecl (Sh.put l7 i6 q16)⟩]) (u' := q16) go0 ti84 rfl rfl gc17 rfl rfl rfl (show 0 + 3 ≤ 3 by decide) rfl rfl ?_
  refine dn hK14 rfl ?_
  refine AW.regionO (by rfl) ?_
  iterate 3 refine zq tb rfl ?_
  exact AO.done (xi (Sh.w (i6 + 1), Sh.put l7 i6 q16) h1 (Wk.to (L := [(0, (.sl (List.map eRDecl p0))), (3, (.own 0 0 (List.length (Sh.put l7 i6 q16)))), (4, (i64 (Sh.w (i6 + 1))))]) ⟨.rfl, (.len (by simp only [Sh.put_len])), .rfl, trivial⟩))
 ·intro b13 h1
  exact AW.exit (M9 l7 (Sh.some_eq h1).symm _ (Wk.tr rfl))
theorem laws_toInstr_ok {N : Nat} {p0 : RInstr} {r : RInstr} (h0 : laws_toInstr N p0 = some r) : ACalls Tryz.prog 93 [(.agg (eRInstr p0))] [] (fun v st => v = (.agg (eRInstr r)) ∧ st = []) := by
 unfold laws_toInstr at h0
 refine ACalls.flat rfl ?_
 refine ACalls.intro Tryz.func93 rfl (by show 1 ≤ 25; decide) ?_
 show AW _ 0 _ (aret _ 0 Tryz.f93 _) ⟨25, _, _⟩
 refine AW.weaken (Wk.to (L := [(0, (.agg (eRInstr p0)))]) ⟨.rfl, trivial⟩) ?_
 refine sr rfl fun K1 hK1 => ?_
 refine ao_box (m := 0) (st' := [⟨0, 141, 6, [(eRInstr p0)]⟩]) go0 rfl rfl rfl rfl rfl ?_
 refine ao_alloc (m := 1) (st' := [⟨0, 141, 6, [(eRInstr p0)]⟩, ⟨0, 100, 6, [[(i64 0), (i64 0), (i64 0), (i64 0), .zc, .zc]]⟩]) go0 zi100 rfl rfl ?_
 refine dn hK1 rfl ?_
 refine sr rfl fun K2 hK2 => ?_
 refine ao_alloc (m := 2) (st' := [⟨0, 141, 6, [(eRInstr p0)]⟩, ⟨0, 100, 6, [[(i64 0), (i64 0), (i64 0), (i64 0), .zc, .zc]]⟩, ⟨0, 100, 6, [[(i64 0), (i64 0), (i64 0), (i64 0), .zc, .zc]]⟩]) go0 zi100 rfl rfl ?_
 refine dn hK2 rfl ?_
 refine sr rfl fun K3 hK3 => ?_
 iterate 3 refine zq tb rfl ?_
 refine ao_str (st' := [⟨0, 141, 6, [(eRInstr p0)]⟩, ⟨0, 100, 6, [[(i64 0), (i64 0), (i64 0), (i64 0), .zc, .zc]]⟩, ⟨0, 100, 6, [[(i64 p0.op), (i64 0), (i64 0), (i64 0), .zc, .zc]]⟩]) go0 ti3 rfl rfl rfl rfl rfl rfl (show 0 + 1 ≤ 6 by decide) rfl ?_
 refine dn hK3 rfl ?_
 refine sr rfl fun K4 hK4 => ?_
 iterate 3 refine zq tb rfl ?_
 refine ao_str (st' := [⟨0, 141, 6, [(eRInstr p0)]⟩, ⟨0, 100, 6, [[(i64 0), (i64 0), (i64 0), (i64 0), .zc, .zc]]⟩, ⟨0, 100, 6, [[(i64 p0.op), (i64 p0.dst), (i64 0), (i64 0), .zc, .zc]]⟩]) go0 ti3 rfl rfl rfl rfl rfl rfl (show 1 + 1 ≤ 6 by decide) rfl ?_
 refine dn hK4 rfl ?_
 refine sr rfl fun K5 hK5 => ?_
 iterate 3 refine zq tb rfl ?_
 refine ao_str (st' := [⟨0, 141, 6, [(eRInstr p0)]⟩, ⟨0, 100, 6, [[(i64 0), (i64 0), (i64 0), (i64 0), .zc, .zc]]⟩, ⟨0, 100, 6, [[(i64 p0.op), (i64 p0.dst), (i64 p0.num), (i64 0), .zc, .zc]]⟩]) go0 ti3 rfl rfl rfl rfl rfl rfl (show 2 + 1 ≤ 6 by decide) rfl ?_
 refine dn hK5 rfl ?_
 refine sr rfl fun K6 hK6 => ?_
 iterate 3 refine zq tb rfl ?_
 refine ao_str (st' := [⟨0, 141, 6, [(eRInstr p0)]⟩, ⟨0, 100, 6, [[(i64 0), (i64 0), (i64 0), (i64 0), .zc, .zc]]⟩, ⟨0, 100, 6, [[(i64 p0.op), (i64 p0.dst), (i64 p0.num), (i64 p0.into), .zc, .zc]]⟩]) go0 ti3 rfl rfl rfl rfl rfl rfl (show 3 + 1 ≤ 6 by decide) rfl ?_
 refine dn hK6 rfl ?_
 refine sr rfl fun K7 hK7 => ?_
 iterate 2 refine zq tb rfl ?_
 obtain ⟨q8, gq8, h0⟩ := Sh.bind_some h0
 refine ao_call (v' := (.own 3 0 (List.length q8))) (st' := [⟨0, 141, 6, [(eRInstr p0)]⟩, ⟨0, 100, 6, [[(i64 0), (i64 0), (i64 0), (i64 0), .zc, .zc]]⟩, ⟨0, 100, 6, [[(i64 p0.op), (i64 p0.dst), (i64 p0.num), (i64 p0.into), .zc, .zc]]⟩, ⟨0, 3, 1, List.map eI q8⟩]) go0 hb20 (laws_toIntS_ok gq8) rfl rfl ⟨(pure_map' fun _ => rfl), trivial⟩ rfl rfl ?_
 refine zq tb rfl ?_
 refine AO.weaken (Wk.frz (L := [(1, (.ptr 0 0 0 0)), (2, (.ptr 1 0 0 0)), (3, (.ptr 2 0 0 0)), (18, (.sl (List.map eI q8))), (19, (.ptr 2 0 0 4))]) (st' := [⟨0, 141, 6, [(eRInstr p0)]⟩, ⟨0, 100, 6, [[(i64 0), (i64 0), (i64 0), (i64 0), .zc, .zc]]⟩, ⟨0, 100, 6, [[(i64 p0.op), (i64 p0.dst), (i64 p0.num), (i64 p0.into), .zc, .zc]]⟩, ⟨1, 3, 1, []⟩]) (id := 3) rfl (show 0 ≤ 3 by decide) (pure_map fun _ => rfl) ⟨.rfl, .rfl, .rfl, (.frz rfl), .rfl, trivial⟩ rfl) ?_
 refine ao_str (st' := [⟨0, 141, 6, [(eRInstr p0)]⟩, ⟨0, 100, 6, [[(i64 0), (i64 0), (i64 0), (i64 0), .zc, .zc]]⟩, ⟨0, 100, 6, [[(i64 p0.op), (i64 p0.dst), (i64 p0.num), (i64 p0.into), (.sl (List.map eI q8)), .zc]]⟩, ⟨1, 3, 1, []⟩]) go0 ti26 rfl rfl rfl rfl rfl rfl (show 4 + 1 ≤ 6 by decide) rfl ?_
 refine dn hK7 rfl ?_
 refine sr rfl fun K9 hK9 => ?_
 iterate 2 refine zq tb rfl ?_
 obtain ⟨q10, gq10, h0⟩ := Sh.bind_some h0
 refine ao_call (v' := (.own 4 0 (List.length q10))) (st' := [⟨0, 141, 6, [(eRInstr p0)]⟩, ⟨0, 100, 6, [[(i64 0), (i64 0), (i64 0), (i64 0), .zc, .zc]]⟩, ⟨0, 100, 6, [[(i64 p0.op), (i64 p0.dst), (i64 p0.num), (i64 p0.into), (.sl (List.map eI q8)), .zc]]⟩, ⟨1, 3, 1, []⟩, ⟨0, 3, 1, List.map eI q10⟩]) go0 hb20 (laws_toIntS_ok gq10) rfl rfl ⟨(pure_map' fun _ => rfl), trivial⟩ rfl rfl ?_
 refine zq tb rfl ?_
 refine AO.weaken (Wk.frz (L := [(2, (.ptr 1 0 0 0)), (3, (.ptr 2 0 0 0)), (22, (.sl (List.map eI q10))), (23, (.ptr 2 0 0 5))]) (st' := [⟨0, 141, 6, [(eRInstr p0)]⟩, ⟨0, 100, 6, [[(i64 0), (i64 0), (i64 0), (i64 0), .zc, .zc]]⟩, ⟨0, 100, 6, [[(i64 p0.op), (i64 p0.dst), (i64 p0.num), (i64 p0.into), (.sl (List.map eI q8)), .zc]]⟩, ⟨1, 3, 1, []⟩, ⟨1, 3, 1, []⟩]) (id := 4) rfl (show 0 ≤ 4 by decide) (pure_map fun _ => rfl) ⟨.rfl, .rfl, (.frz rfl), .rfl, trivial⟩ rfl) ?_
 refine ao_str (st' := [⟨0, 141, 6, [(eRInstr p0)]⟩, ⟨0, 100, 6, [[(i64 0), (i64 0), (i64 0), (i64 0), .zc, .zc]]⟩, ⟨0, 100, 6, [[(i64 p0.op), (i64 p0.dst), (i64 p0.num), (i64 p0.into), (.sl (List.map eI q8)), (.sl (List.map eI q10))]]⟩, ⟨1, 3, 1, []⟩, ⟨1, 3, 1, []⟩]) go0 ti26 rfl rfl rfl rfl rfl rfl (show 5 + 1 ≤ 6 by decide) rfl ?_
 refine dn hK9 rfl ?_
 refine sr rfl fun K11 hK11 => ?_
 refine zq tb rfl ?_
 refine ao_str (st' := [⟨0, 141, 6, [(eRInstr p0)]⟩, ⟨0, 100, 6, [[(i64 p0.op), (i64 p0.dst), (i64 p0.num), (i64 p0.into), (.sl (List.map eI q8)), (.sl (List.map eI q10))]]⟩, ⟨0, 100, 6, [[(i64 p0.op), (i64 p0.dst), (i64 p0.num), (i64 p0.into), (.sl (List.map eI q8)), (.sl (List.map eI q10))]]⟩, ⟨1, 3, 1, []⟩, ⟨1, 3, 1, []⟩]) go0 ti100 rfl rfl rfl rfl rfl rfl (show 0 + 6 ≤ 6 by decide) rfl ?_
 refine dn hK11 rfl ?_
 replace h0 := Sh.some_eq h0
 subst r
 exact AW.ret (Exists.intro _ (And.intro (Wk.refl _ _) (aq_ldpa (x := .tmp 2) (off := 0) (cs := [(i64 p0.op), (i64 p0.dst), (i64 p0.num), (i64 p0.into), (.sl (List.map eI q8)), (.sl (List.map eI q10))]) (vs := [(i64 p0.op), (i64 p0.dst), (i64 p0.num), (i64 p0.into), (.sl (List.map eI q8)), (.sl (List.map eI q10))]) ti100 rfl rfl rfl (show 0 + 6 ≤ 6 by decide) rfl _ rfl)))
theorem laws_toInstrS_ok {N : Nat} {p0 : (List RInstr)} {r : (List RInstr)} (h0 : laws_toInstrS N p0 = some r) : ACalls Tryz.prog 69 [(.sl (List.map eRInstr p0))] [] (fun v st => v = (.own 0 0 (List.length r)) ∧ st = [⟨0, 100, 6, List.map eRInstr r⟩]) := by
 unfold laws_toInstrS at h0
 refine ACalls.intro Tryz.func69 rfl (by show 1 ≤ 23; decide) ?_
 show AW _ 0 _ (aret _ 0 Tryz.f69 _) ⟨23, _, _⟩
 refine AW.weaken (Wk.to (L := [(0, (.sl (List.map eRInstr p0)))]) ⟨.rfl, trivial⟩) ?_
 refine sr rfl fun K1 hK1 => ?_
 refine zq tb rfl ?_
 refine dn hK1 rfl ?_
 refine sr rfl fun K2 hK2 => ?_
 refine zq tb rfl ?_
 refine zl tb rfl rfl ?_
 obtain ⟨l3, gl3, h0⟩ := Sh.bind_some h0
 refine ao_make (m := 0) (st' := [⟨0, 100, 6, List.map eRInstr l3⟩]) (enc := eRInstr) (u := (RInstr.mk 0 0 0 0 [] [])) go0 ei86 rfl rfl rfl gl3 rfl rfl ?_
 refine zq tb rfl ?_
 refine dn hK2 rfl ?_
 refine AW.seq fun K4 hK4 => ?_
 refine sr rfl fun K5 hK5 => ?_
 refine zq tb rfl ?_
 refine dn hK5 rfl ?_
 obtain ⟨o9, h1, h0⟩ := Sh.bind_some h0
 have M9 : ∀ (l8 : (List RInstr)), o9 = l8 → ∀ s, Wk 0 s ⟨23, envL [(3, (.own 0 0 (List.length l8)))], [⟨0, 100, 6, List.map eRInstr l8⟩]⟩ → K4 s := by
  intro l8 hq s hw
  subst o9
  try dsimp only at h0
  refine hK4 _ (AW.weaken hw ?_)
  refine sr rfl fun K10 hK10 => ?_
  iterate 2 refine zq tb rfl ?_
  refine dn hK10 rfl ?_
  replace h0 := Sh.some_eq h0
  subst r
  exact AW.ret (xr (Wk.to (L := [(2, (.own 0 0 (List.length l8)))]) ⟨.rfl, trivial⟩))
 refine AW.block (AW.loopF (σ := Int × (List RInstr)) (fun n v => laws_toInstrS_L1 N p0 n v.1 v.2 = some o9) (fun (i6, l7) => ⟨23, envL [(0, (.sl (List.map eRInstr p0))), (3, (.own 0 0 (List.length l7))), (4, (i64 i6))], [⟨0, 100, 6, List.map eRInstr l7⟩]⟩) N (0, l3) h1 (Wk.tr rfl) (fun _ hv => by rw [laws_toInstrS_L1] at hv; cases hv) ?_)
 rintro n ⟨i6, l7⟩ h1
 try dsimp only at h1 ⊢
 rw [laws_toInstrS_L1] at h1
 refine AW.seq fun K11 hK11 => ?_
 refine sr rfl fun K12 hK12 => ?_
 iterate 2 refine zq tb rfl ?_
 refine zl tb rfl rfl ?_
 refine zq tb rfl ?_
 refine dn hK12 rfl ?_
 refine ci h1 rfl ?_ ?_ <;> clear h1
 ·intro b13 h1
  refine AW.skip (hK11 _ ?_)
  refine AW.seq fun K14 hK14 => ?_
  refine AW.block ?_
  refine AW.regionO (by rfl) ?_
  iterate 4 refine zq tb rfl ?_
  obtain ⟨c15, gc15, h1⟩ := Sh.bind_some h1
  refine zx ei68 gc15 rfl rfl rfl ?_
  refine zq tb rfl ?_
  obtain ⟨q16, gq16, h1⟩ := Sh.bind_some h1
  refine zc (v' := (.agg (eRInstr q16))) hb93 (laws_toInstr_ok gq16) rfl rfl rfl ?_
  obtain ⟨c17, gc17, h1⟩ := Sh.bind_some h1
  refine zz (.ptr 0 0 (Int.toNat i6) 0) (aq_ixo ei86 rfl rfl rfl rfl gc17) rfl ?_
  refine ao_stl (st' := [⟨0, 100, 6, List.map eRInstr (Sh.put l7 i6 q16)⟩]) (u' := q16) go0 ti100 rfl rfl gc17 rfl rfl rfl (show 0 + 6 ≤ 6 by decide) rfl rfl ?_
  refine dn hK14 rfl ?_
  refine AW.regionO (by rfl) ?_
  iterate 3 refine zq tb rfl ?_
  exact AO.done (xi (Sh.w (i6 + 1), Sh.put l7 i6 q16) h1 (Wk.to (L := [(0, (.sl (List.map eRInstr p0))), (3, (.own 0 0 (List.length (Sh.put l7 i6 q16)))), (4, (i64 (Sh.w (i6 + 1))))]) ⟨.rfl, (.len (by simp only [Sh.put_len])), .rfl, trivial⟩))
 ·intro b13 h1
  exact AW.exit (M9 l7 (Sh.some_eq h1).symm _ (Wk.tr rfl))
theorem laws_toProc_ok {N : Nat} {p0 : RProc} {r : RProc} (h0 : laws_toProc N p0 = some r) : ACalls Tryz.prog 42 [(.agg (eRProc p0))] [] (fun v st => v = (.agg (eRProc r)) ∧ st = []) := by
 unfold laws_toProc at h0
 refine ACalls.flat rfl ?_
 refine ACalls.intro Tryz.func42 rfl (by show 1 ≤ 23; decide) ?_
 show AW _ 0 _ (aret _ 0 Tryz.f42 _) ⟨23, _, _⟩
 refine AW.weaken (Wk.to (L := [(0, (.agg (eRProc p0)))]) ⟨.rfl, trivial⟩) ?_
 refine sr rfl fun K1 hK1 => ?_
 refine ao_box (m := 0) (st' := [⟨0, 70, 5, [(eRProc p0)]⟩]) go0 rfl rfl rfl rfl rfl ?_
 refine ao_alloc (m := 1) (st' := [⟨0, 70, 5, [(eRProc p0)]⟩, ⟨0, 88, 5, [[.zc, .zc, (i64 0), (i64 0), .zc]]⟩]) go0 zi88 rfl rfl ?_
 refine dn hK1 rfl ?_
 refine sr rfl fun K2 hK2 => ?_
 refine ao_alloc (m := 2) (st' := [⟨0, 70, 5, [(eRProc p0)]⟩, ⟨0, 88, 5, [[.zc, .zc, (i64 0), (i64 0), .zc]]⟩, ⟨0, 88, 5, [[.zc, .zc, (i64 0), (i64 0), .zc]]⟩]) go0 zi88 rfl rfl ?_
 refine dn hK2 rfl ?_
 refine sr rfl fun K3 hK3 => ?_
 iterate 2 refine zq tb rfl ?_
 obtain ⟨q4, gq4, h0⟩ := Sh.bind_some h0
 refine ao_call (v' := (.own 3 0 (List.length q4))) (st' := [⟨0, 70, 5, [(eRProc p0)]⟩, ⟨0, 88, 5, [[.zc, .zc, (i64 0), (i64 0), .zc]]⟩, ⟨0, 88, 5, [[.zc, .zc, (i64 0), (i64 0), .zc]]⟩, ⟨0, 3, 1, List.map eI q4⟩]) go0 hb20 (laws_toIntS_ok gq4) rfl rfl ⟨(pure_map' fun _ => rfl), trivial⟩ rfl rfl ?_
 refine zq tb rfl ?_
 refine AO.weaken (Wk.frz (L := [(1, (.ptr 0 0 0 0)), (2, (.ptr 1 0 0 0)), (3, (.ptr 2 0 0 0)), (6, (.sl (List.map eI q4))), (7, (.ptr 2 0 0 0))]) (st' := [⟨0, 70, 5, [(eRProc p0)]⟩, ⟨0, 88, 5, [[.zc, .zc, (i64 0), (i64 0), .zc]]⟩, ⟨0, 88, 5, [[.zc, .zc, (i64 0), (i64 0), .zc]]⟩, ⟨1, 3, 1, []⟩]) (id := 3) rfl (show 0 ≤ 3 by decide) (pure_map fun _ => rfl) ⟨.rfl, .rfl, .rfl, (.frz rfl), .rfl, trivial⟩ rfl) ?_
 refine ao_str (st' := [⟨0, 70, 5, [(eRProc p0)]⟩, ⟨0, 88, 5, [[.zc, .zc, (i64 0), (i64 0), .zc]]⟩, ⟨0, 88, 5, [[(.sl (List.map eI q4)), .zc, (i64 0), (i64 0), .zc]]⟩, ⟨1, 3, 1, []⟩]) go0 ti26 rfl rfl rfl rfl rfl rfl (show 0 + 1 ≤ 5 by decide) rfl ?_
 refine dn hK3 rfl ?_
 refine sr rfl fun K5 hK5 => ?_
 iterate 2 refine zq tb rfl ?_
 obtain ⟨q6, gq6, h0⟩ := Sh.bind_some h0
 refine ao_call (v' := (.own 4 0 (List.length q6))) (st' := [⟨0, 70, 5, [(eRProc p0)]⟩, ⟨0, 88, 5, [[.zc, .zc, (i64 0), (i64 0), .zc]]⟩, ⟨0, 88, 5, [[(.sl (List.map eI q4)), .zc, (i64 0), (i64 0), .zc]]⟩, ⟨1, 3, 1, []⟩, ⟨0, 3, 1, List.map eI q6⟩]) go0 hb20 (laws_toIntS_ok gq6) rfl rfl ⟨(pure_map' fun _ => rfl), trivial⟩ rfl rfl ?_
 refine zq tb rfl ?_
 refine AO.weaken (Wk.frz (L := [(1, (.ptr 0 0 0 0)), (2, (.ptr 1 0 0 0)), (3, (.ptr 2 0 0 0)), (10, (.sl (List.map eI q6))), (11, (.ptr 2 0 0 1))]) (st' := [⟨0, 70, 5, [(eRProc p0)]⟩, ⟨0, 88, 5, [[.zc, .zc, (i64 0), (i64 0), .zc]]⟩, ⟨0, 88, 5, [[(.sl (List.map eI q4)), .zc, (i64 0), (i64 0), .zc]]⟩, ⟨1, 3, 1, []⟩, ⟨1, 3, 1, []⟩]) (id := 4) rfl (show 0 ≤ 4 by decide) (pure_map fun _ => rfl) ⟨.rfl, .rfl, .rfl, (.frz rfl), .rfl, trivial⟩ rfl) ?_
 refine ao_str (st' := [⟨0, 70, 5, [(eRProc p0)]⟩, ⟨0, 88, 5, [[.zc, .zc, (i64 0), (i64 0), .zc]]⟩, ⟨0, 88, 5, [[(.sl (List.map eI q4)), (.sl (List.map eI q6)), (i64 0), (i64 0), .zc]]⟩, ⟨1, 3, 1, []⟩, ⟨1, 3, 1, []⟩]) go0 ti26 rfl rfl rfl rfl rfl rfl (show 1 + 1 ≤ 5 by decide) rfl ?_
 refine dn hK5 rfl ?_
 refine sr rfl fun K7 hK7 => ?_
 iterate 3 refine zq tb rfl ?_
 refine ao_str (st' := [⟨0, 70, 5, [(eRProc p0)]⟩, ⟨0, 88, 5, [[.zc, .zc, (i64 0), (i64 0), .zc]]⟩, ⟨0, 88, 5, [[(.sl (List.map eI q4)), (.sl (List.map eI q6)), (i64 p0.result), (i64 0), .zc]]⟩, ⟨1, 3, 1, []⟩, ⟨1, 3, 1, []⟩]) go0 ti3 rfl rfl rfl rfl rfl rfl (show 2 + 1 ≤ 5 by decide) rfl ?_
 refine dn hK7 rfl ?_
 refine sr rfl fun K8 hK8 => ?_
 iterate 3 refine zq tb rfl ?_
 refine ao_str (st' := [⟨0, 70, 5, [(eRProc p0)]⟩, ⟨0, 88, 5, [[.zc, .zc, (i64 0), (i64 0), .zc]]⟩, ⟨0, 88, 5, [[(.sl (List.map eI q4)), (.sl (List.map eI q6)), (i64 p0.result), (i64 p0.regs), .zc]]⟩, ⟨1, 3, 1, []⟩, ⟨1, 3, 1, []⟩]) go0 ti3 rfl rfl rfl rfl rfl rfl (show 3 + 1 ≤ 5 by decide) rfl ?_
 refine dn hK8 rfl ?_
 refine sr rfl fun K9 hK9 => ?_
 iterate 2 refine zq tb rfl ?_
 obtain ⟨q10, gq10, h0⟩ := Sh.bind_some h0
 refine ao_call (v' := (.own 5 0 (List.length q10))) (st' := [⟨0, 70, 5, [(eRProc p0)]⟩, ⟨0, 88, 5, [[.zc, .zc, (i64 0), (i64 0), .zc]]⟩, ⟨0, 88, 5, [[(.sl (List.map eI q4)), (.sl (List.map eI q6)), (i64 p0.result), (i64 p0.regs), .zc]]⟩, ⟨1, 3, 1, []⟩, ⟨1, 3, 1, []⟩, ⟨0, 100, 6, List.map eRInstr q10⟩]) go0 hb69 (laws_toInstrS_ok gq10) rfl rfl ⟨(pure_map' fun _ => rfl), trivial⟩ rfl rfl ?_
 refine zq tb rfl ?_
 refine AO.weaken (Wk.frz (L := [(2, (.ptr 1 0 0 0)), (3, (.ptr 2 0 0 0)), (20, (.sl (List.map eRInstr q10))), (21, (.ptr 2 0 0 4))]) (st' := [⟨0, 70, 5, [(eRProc p0)]⟩, ⟨0, 88, 5, [[.zc, .zc, (i64 0), (i64 0), .zc]]⟩, ⟨0, 88, 5, [[(.sl (List.map eI q4)), (.sl (List.map eI q6)), (i64 p0.result), (i64 p0.regs), .zc]]⟩, ⟨1, 3, 1, []⟩, ⟨1, 3, 1, []⟩, ⟨1, 100, 6, []⟩]) (id := 5) rfl (show 0 ≤ 5 by decide) (pure_map fun _ => rfl) ⟨.rfl, .rfl, (.frz rfl), .rfl, trivial⟩ rfl) ?_
 refine ao_str (st' := [⟨0, 70, 5, [(eRProc p0)]⟩, ⟨0, 88, 5, [[.zc, .zc, (i64 0), (i64 0), .zc]]⟩, ⟨0, 88, 5, [[(.sl (List.map eI q4)), (.sl (List.map eI q6)), (i64 p0.result), (i64 p0.regs), (.sl (List.map eRInstr q10))]]⟩, ⟨1, 3, 1, []⟩, ⟨1, 3, 1, []⟩, ⟨1, 100, 6, []⟩]) go0 ti86 rfl rfl rfl rfl rfl rfl (show 4 + 1 ≤ 5 by decide) rfl ?_
 refine dn hK9 rfl ?_
 refine sr rfl fun K11 hK11 => ?_
 refine zq tb rfl ?_
 refine ao_str (st' := [⟨0, 70, 5, [(eRProc p0)]⟩, ⟨0, 88, 5, [[(.sl (List.map eI q4)), (.sl (List.map eI q6)), (i64 p0.result), (i64 p0.regs), (.sl (List.map eRInstr q10))]]⟩, ⟨0, 88, 5, [[(.sl (List.map eI q4)), (.sl (List.map eI q6)), (i64 p0.result), (i64 p0.regs), (.sl (List.map eRInstr q10))]]⟩, ⟨1, 3, 1, []⟩, ⟨1, 3, 1, []⟩, ⟨1, 100, 6, []⟩]) go0 ti88 rfl rfl rfl rfl rfl rfl (show 0 + 5 ≤ 5 by decide) rfl ?_
 refine dn hK11 rfl ?_
 replace h0 := Sh.some_eq h0
 subst r
 exact AW.ret (Exists.intro _ (And.intro (Wk.refl _ _) (aq_ldpa (x := .tmp 2) (off := 0) (cs := [(.sl (List.map eI q4)), (.sl (List.map eI q6)), (i64 p0.result), (i64 p0.regs), (.sl (List.map eRInstr q10))]) (vs := [(.sl (List.map eI q4)), (.sl (List.map eI q6)), (i64 p0.result), (i64 p0.regs), (.sl (List.map eRInstr q10))]) ti88 rfl rfl rfl (show 0 + 5 ≤ 5 by decide) rfl _ rfl)))
theorem laws_toProcS_ok {N : Nat} {p0 : (List RProc)} {r : (List RProc)} (h0 : laws_toProcS N p0 = some r) : ACalls Tryz.prog 19 [(.sl (List.map eRProc p0))] [] (fun v st => v = (.own 0 0 (List.length r)) ∧ st = [⟨0, 88, 5, List.map eRProc r⟩]) := by
 unfold laws_toProcS at h0
 refine ACalls.intro Tryz.func19 rfl (by show 1 ≤ 23; decide) ?_
 show AW _ 0 _ (aret _ 0 Tryz.f19 _) ⟨23, _, _⟩
 refine AW.weaken (Wk.to (L := [(0, (.sl (List.map eRProc p0)))]) ⟨.rfl, trivial⟩) ?_
 refine sr rfl fun K1 hK1 => ?_
 refine zq tb rfl ?_
 refine dn hK1 rfl ?_
 refine sr rfl fun K2 hK2 => ?_
 refine zq tb rfl ?_
 refine zl tb rfl rfl ?_
 obtain ⟨l3, gl3, h0⟩ := Sh.bind_some h0
 refine ao_make (m := 0) (st' := [⟨0, 88, 5, List.map eRProc l3⟩]) (enc := eRProc) (u := (RProc.mk [] [] 0 0 [])) go0 ei35 rfl rfl rfl gl3 rfl rfl ?_
 refine zq tb rfl ?_
 refine dn hK2 rfl ?_
 refine AW.seq fun K4 hK4 => ?_
 refine sr rfl fun K5 hK5 => ?_
 refine zq tb rfl ?_
 refine dn hK5 rfl ?_
 obtain ⟨o9, h1, h0⟩ := Sh.bind_some h0
 have M9 : ∀ (l8 : (List RProc)), o9 = l8 → ∀ s, Wk 0 s ⟨23, envL [(3, (.own 0 0 (List.length l8)))], [⟨0, 88, 5, List.map eRProc l8⟩]⟩ → K4 s := by
  intro l8 hq s hw
  subst o9
  try dsimp only at h0
  refine hK4 _ (AW.weaken hw ?_)
  refine sr rfl fun K10 hK10 => ?_
  iterate 2 refine zq tb rfl ?_
  refine dn hK10 rfl ?_
  replace h0 := Sh.some_eq h0
  subst r
  exact AW.ret (xr (Wk.to (L := [(2, (.own 0 0 (List.length l8)))]) ⟨.rfl, trivial⟩))
 refine AW.block (AW.loopF (σ := Int × (List RProc)) (fun n v => laws_toProcS_L1 N p0 n v.1 v.2 = some o9) (fun (i6, l7) => ⟨23, envL [(0, (.sl (List.map eRProc p0))), (3, (.own 0 0 (List.length l7))), (4, (i64 i6))], [⟨0, 88, 5, List.map eRProc l7⟩]⟩) N (0, l3) h1 (Wk.tr rfl) (fun _ hv => by rw [laws_toProcS_L1] at hv; cases hv) ?_)
 rintro n ⟨i6, l7⟩ h1
 try dsimp only at h1 ⊢
 rw [laws_toProcS_L1] at h1
 refine AW.seq fun K11 hK11 => ?_
 refine sr rfl fun K12 hK12 => ?_
 iterate 2 refine zq tb rfl ?_
 refine zl tb rfl rfl ?_
 refine zq tb rfl ?_
 refine dn hK12 rfl ?_
 refine ci h1 rfl ?_ ?_ <;> clear h1
 ·intro b13 h1
  refine AW.skip (hK11 _ ?_)
  refine AW.seq fun K14 hK14 => ?_
  refine AW.block ?_
  refine AW.regionO (by rfl) ?_
  iterate 4 refine zq tb rfl ?_
  obtain ⟨c15, gc15, h1⟩ := Sh.bind_some h1
  refine zx ei23 gc15 rfl rfl rfl ?_
  refine zq tb rfl ?_
  obtain ⟨q16, gq16, h1⟩ := Sh.bind_some h1
  refine zc (v' := (.agg (eRProc q16))) hb42 (laws_toProc_ok gq16) rfl rfl rfl ?_
  obtain ⟨c17, gc17, h1⟩ := Sh.bind_some h1
  refine zz (.ptr 0 0 (Int.toNat i6) 0) (aq_ixo ei35 rfl rfl rfl rfl gc17) rfl ?_
  refine ao_stl (st' := [⟨0, 88, 5, List.map eRProc (Sh.put l7 i6 q16)⟩]) (u' := q16) go0 ti88 rfl rfl gc17 rfl rfl rfl (show 0 + 5 ≤ 5 by decide) rfl rfl ?_
  refine dn hK14 rfl ?_
  refine AW.regionO (by rfl) ?_
  iterate 3 refine zq tb rfl ?_
  exact AO.done (xi (Sh.w (i6 + 1), Sh.put l7 i6 q16) h1 (Wk.to (L := [(0, (.sl (List.map eRProc p0))), (3, (.own 0 0 (List.length (Sh.put l7 i6 q16)))), (4, (i64 (Sh.w (i6 + 1))))]) ⟨.rfl, (.len (by simp only [Sh.put_len])), .rfl, trivial⟩))
 ·intro b13 h1
  exact AW.exit (M9 l7 (Sh.some_eq h1).symm _ (Wk.tr rfl))
theorem laws_toImage_ok {N : Nat} {p0 : RImage} {r : RImage} (h0 : laws_toImage N p0 = some r) : ACalls Tryz.prog 7 [(.agg (eRImage p0))] [] (fun v st => v = (.agg (eRImage r)) ∧ st = []) := by
 unfold laws_toImage at h0
 refine ACalls.flat rfl ?_
 refine ACalls.intro Tryz.func7 rfl (by show 1 ≤ 13; decide) ?_
 show AW _ 0 _ (aret _ 0 Tryz.f7 _) ⟨13, _, _⟩
 refine AW.weaken (Wk.to (L := [(0, (.agg (eRImage p0)))]) ⟨.rfl, trivial⟩) ?_
 refine sr rfl fun K1 hK1 => ?_
 refine ao_box (m := 0) (st' := [⟨0, 25, 2, [(eRImage p0)]⟩]) go0 rfl rfl rfl rfl rfl ?_
 refine ao_alloc (m := 1) (st' := [⟨0, 25, 2, [(eRImage p0)]⟩, ⟨0, 37, 2, [[.zc, .zc]]⟩]) go0 zi37 rfl rfl ?_
 refine dn hK1 rfl ?_
 refine sr rfl fun K2 hK2 => ?_
 refine ao_alloc (m := 2) (st' := [⟨0, 25, 2, [(eRImage p0)]⟩, ⟨0, 37, 2, [[.zc, .zc]]⟩, ⟨0, 37, 2, [[.zc, .zc]]⟩]) go0 zi37 rfl rfl ?_
 refine dn hK2 rfl ?_
 refine sr rfl fun K3 hK3 => ?_
 iterate 2 refine zq tb rfl ?_
 obtain ⟨q4, gq4, h0⟩ := Sh.bind_some h0
 refine ao_call (v' := (.own 3 0 (List.length q4))) (st' := [⟨0, 25, 2, [(eRImage p0)]⟩, ⟨0, 37, 2, [[.zc, .zc]]⟩, ⟨0, 37, 2, [[.zc, .zc]]⟩, ⟨0, 84, 3, List.map eRDecl q4⟩]) go0 hb18 (laws_toDeclS_ok gq4) rfl rfl ⟨(pure_map' fun _ => rfl), trivial⟩ rfl rfl ?_
 refine zq tb rfl ?_
 refine AO.weaken (Wk.frz (L := [(1, (.ptr 0 0 0 0)), (2, (.ptr 1 0 0 0)), (3, (.ptr 2 0 0 0)), (6, (.sl (List.map eRDecl q4))), (7, (.ptr 2 0 0 0))]) (st' := [⟨0, 25, 2, [(eRImage p0)]⟩, ⟨0, 37, 2, [[.zc, .zc]]⟩, ⟨0, 37, 2, [[.zc, .zc]]⟩, ⟨1, 84, 3, []⟩]) (id := 3) rfl (show 0 ≤ 3 by decide) (pure_map fun _ => rfl) ⟨.rfl, .rfl, .rfl, (.frz rfl), .rfl, trivial⟩ rfl) ?_
 refine ao_str (st' := [⟨0, 25, 2, [(eRImage p0)]⟩, ⟨0, 37, 2, [[.zc, .zc]]⟩, ⟨0, 37, 2, [[(.sl (List.map eRDecl q4)), .zc]]⟩, ⟨1, 84, 3, []⟩]) go0 ti34 rfl rfl rfl rfl rfl rfl (show 0 + 1 ≤ 2 by decide) rfl ?_
 refine dn hK3 rfl ?_
 refine sr rfl fun K5 hK5 => ?_
 iterate 2 refine zq tb rfl ?_
 obtain ⟨q6, gq6, h0⟩ := Sh.bind_some h0
 refine ao_call (v' := (.own 4 0 (List.length q6))) (st' := [⟨0, 25, 2, [(eRImage p0)]⟩, ⟨0, 37, 2, [[.zc, .zc]]⟩, ⟨0, 37, 2, [[(.sl (List.map eRDecl q4)), .zc]]⟩, ⟨1, 84, 3, []⟩, ⟨0, 88, 5, List.map eRProc q6⟩]) go0 hb19 (laws_toProcS_ok gq6) rfl rfl ⟨(pure_map' fun _ => rfl), trivial⟩ rfl rfl ?_
 refine zq tb rfl ?_
 refine AO.weaken (Wk.frz (L := [(2, (.ptr 1 0 0 0)), (3, (.ptr 2 0 0 0)), (10, (.sl (List.map eRProc q6))), (11, (.ptr 2 0 0 1))]) (st' := [⟨0, 25, 2, [(eRImage p0)]⟩, ⟨0, 37, 2, [[.zc, .zc]]⟩, ⟨0, 37, 2, [[(.sl (List.map eRDecl q4)), .zc]]⟩, ⟨1, 84, 3, []⟩, ⟨1, 88, 5, []⟩]) (id := 4) rfl (show 0 ≤ 4 by decide) (pure_map fun _ => rfl) ⟨.rfl, .rfl, (.frz rfl), .rfl, trivial⟩ rfl) ?_
 refine ao_str (st' := [⟨0, 25, 2, [(eRImage p0)]⟩, ⟨0, 37, 2, [[.zc, .zc]]⟩, ⟨0, 37, 2, [[(.sl (List.map eRDecl q4)), (.sl (List.map eRProc q6))]]⟩, ⟨1, 84, 3, []⟩, ⟨1, 88, 5, []⟩]) go0 ti35 rfl rfl rfl rfl rfl rfl (show 1 + 1 ≤ 2 by decide) rfl ?_
 refine dn hK5 rfl ?_
 refine sr rfl fun K7 hK7 => ?_
 refine zq tb rfl ?_
 refine ao_str (st' := [⟨0, 25, 2, [(eRImage p0)]⟩, ⟨0, 37, 2, [[(.sl (List.map eRDecl q4)), (.sl (List.map eRProc q6))]]⟩, ⟨0, 37, 2, [[(.sl (List.map eRDecl q4)), (.sl (List.map eRProc q6))]]⟩, ⟨1, 84, 3, []⟩, ⟨1, 88, 5, []⟩]) go0 ti37 rfl rfl rfl rfl rfl rfl (show 0 + 2 ≤ 2 by decide) rfl ?_
 refine dn hK7 rfl ?_
 replace h0 := Sh.some_eq h0
 subst r
 exact AW.ret (Exists.intro _ (And.intro (Wk.refl _ _) (aq_ldpa (x := .tmp 2) (off := 0) (cs := [(.sl (List.map eRDecl q4)), (.sl (List.map eRProc q6))]) (vs := [(.sl (List.map eRDecl q4)), (.sl (List.map eRProc q6))]) ti37 rfl rfl rfl (show 0 + 2 ≤ 2 by decide) rfl _ rfl)))
theorem laws_toCell_ok {N : Nat} {p0 : Cell} {r : Cell} (h0 : laws_toCell N p0 = some r) : ACalls Tryz.prog 43 [(.agg (eCell p0))] [] (fun v st => v = (.agg (eCell r)) ∧ st = []) := by
 unfold laws_toCell at h0
 refine ACalls.flat rfl ?_
 refine ACalls.intro Tryz.func43 rfl (by show 1 ≤ 15; decide) ?_
 show AW _ 0 _ (aret _ 0 Tryz.f43 _) ⟨15, _, _⟩
 refine AW.weaken (Wk.to (L := [(0, (.agg (eCell p0)))]) ⟨.rfl, trivial⟩) ?_
 refine sr rfl fun K1 hK1 => ?_
 refine ao_box (m := 0) (st' := [⟨0, 73, 3, [(eCell p0)]⟩]) go0 rfl rfl rfl rfl rfl ?_
 refine ao_alloc (m := 1) (st' := [⟨0, 73, 3, [(eCell p0)]⟩, ⟨0, 90, 3, [[(i64 0), (i64 0), .zc]]⟩]) go0 zi90 rfl rfl ?_
 refine dn hK1 rfl ?_
 refine sr rfl fun K2 hK2 => ?_
 refine ao_alloc (m := 2) (st' := [⟨0, 73, 3, [(eCell p0)]⟩, ⟨0, 90, 3, [[(i64 0), (i64 0), .zc]]⟩, ⟨0, 90, 3, [[(i64 0), (i64 0), .zc]]⟩]) go0 zi90 rfl rfl ?_
 refine dn hK2 rfl ?_
 refine sr rfl fun K3 hK3 => ?_
 iterate 3 refine zq tb rfl ?_
 refine ao_str (st' := [⟨0, 73, 3, [(eCell p0)]⟩, ⟨0, 90, 3, [[(i64 0), (i64 0), .zc]]⟩, ⟨0, 90, 3, [[(i64 p0.count), (i64 0), .zc]]⟩]) go0 ti3 rfl rfl rfl rfl rfl rfl (show 0 + 1 ≤ 3 by decide) rfl ?_
 refine dn hK3 rfl ?_
 refine sr rfl fun K4 hK4 => ?_
 iterate 3 refine zq tb rfl ?_
 refine ao_str (st' := [⟨0, 73, 3, [(eCell p0)]⟩, ⟨0, 90, 3, [[(i64 0), (i64 0), .zc]]⟩, ⟨0, 90, 3, [[(i64 p0.count), (i64 p0.tag), .zc]]⟩]) go0 ti3 rfl rfl rfl rfl rfl rfl (show 1 + 1 ≤ 3 by decide) rfl ?_
 refine dn hK4 rfl ?_
 refine sr rfl fun K5 hK5 => ?_
 iterate 2 refine zq tb rfl ?_
 obtain ⟨q6, gq6, h0⟩ := Sh.bind_some h0
 refine ao_call (v' := (.own 3 0 (List.length q6))) (st' := [⟨0, 73, 3, [(eCell p0)]⟩, ⟨0, 90, 3, [[(i64 0), (i64 0), .zc]]⟩, ⟨0, 90, 3, [[(i64 p0.count), (i64 p0.tag), .zc]]⟩, ⟨0, 3, 1, List.map eI q6⟩]) go0 hb20 (laws_toIntS_ok gq6) rfl rfl ⟨(pure_map' fun _ => rfl), trivial⟩ rfl rfl ?_
 refine zq tb rfl ?_
 refine AO.weaken (Wk.frz (L := [(2, (.ptr 1 0 0 0)), (3, (.ptr 2 0 0 0)), (12, (.sl (List.map eI q6))), (13, (.ptr 2 0 0 2))]) (st' := [⟨0, 73, 3, [(eCell p0)]⟩, ⟨0, 90, 3, [[(i64 0), (i64 0), .zc]]⟩, ⟨0, 90, 3, [[(i64 p0.count), (i64 p0.tag), .zc]]⟩, ⟨1, 3, 1, []⟩]) (id := 3) rfl (show 0 ≤ 3 by decide) (pure_map fun _ => rfl) ⟨.rfl, .rfl, (.frz rfl), .rfl, trivial⟩ rfl) ?_
 refine ao_str (st' := [⟨0, 73, 3, [(eCell p0)]⟩, ⟨0, 90, 3, [[(i64 0), (i64 0), .zc]]⟩, ⟨0, 90, 3, [[(i64 p0.count), (i64 p0.tag), (.sl (List.map eI q6))]]⟩, ⟨1, 3, 1, []⟩]) go0 ti26 rfl rfl rfl rfl rfl rfl (show 2 + 1 ≤ 3 by decide) rfl ?_
 refine dn hK5 rfl ?_
 refine sr rfl fun K7 hK7 => ?_
 refine zq tb rfl ?_
 refine ao_str (st' := [⟨0, 73, 3, [(eCell p0)]⟩, ⟨0, 90, 3, [[(i64 p0.count), (i64 p0.tag), (.sl (List.map eI q6))]]⟩, ⟨0, 90, 3, [[(i64 p0.count), (i64 p0.tag), (.sl (List.map eI q6))]]⟩, ⟨1, 3, 1, []⟩]) go0 ti90 rfl rfl rfl rfl rfl rfl (show 0 + 3 ≤ 3 by decide) rfl ?_
 refine dn hK7 rfl ?_
 replace h0 := Sh.some_eq h0
 subst r
 exact AW.ret (Exists.intro _ (And.intro (Wk.refl _ _) (aq_ldpa (x := .tmp 2) (off := 0) (cs := [(i64 p0.count), (i64 p0.tag), (.sl (List.map eI q6))]) (vs := [(i64 p0.count), (i64 p0.tag), (.sl (List.map eI q6))]) ti90 rfl rfl rfl (show 0 + 3 ≤ 3 by decide) rfl _ rfl)))
theorem laws_toCellS_ok {N : Nat} {p0 : (List Cell)} {r : (List Cell)} (h0 : laws_toCellS N p0 = some r) : ACalls Tryz.prog 21 [(.sl (List.map eCell p0))] [] (fun v st => v = (.own 0 0 (List.length r)) ∧ st = [⟨0, 90, 3, List.map eCell r⟩]) := by
 unfold laws_toCellS at h0
 refine ACalls.intro Tryz.func21 rfl (by show 1 ≤ 23; decide) ?_
 show AW _ 0 _ (aret _ 0 Tryz.f21 _) ⟨23, _, _⟩
 refine AW.weaken (Wk.to (L := [(0, (.sl (List.map eCell p0)))]) ⟨.rfl, trivial⟩) ?_
 refine sr rfl fun K1 hK1 => ?_
 refine zq tb rfl ?_
 refine dn hK1 rfl ?_
 refine sr rfl fun K2 hK2 => ?_
 refine zq tb rfl ?_
 refine zl tb rfl rfl ?_
 obtain ⟨l3, gl3, h0⟩ := Sh.bind_some h0
 refine ao_make (m := 0) (st' := [⟨0, 90, 3, List.map eCell l3⟩]) (enc := eCell) (u := (Cell.mk 0 0 [])) go0 ei39 rfl rfl rfl gl3 rfl rfl ?_
 refine zq tb rfl ?_
 refine dn hK2 rfl ?_
 refine AW.seq fun K4 hK4 => ?_
 refine sr rfl fun K5 hK5 => ?_
 refine zq tb rfl ?_
 refine dn hK5 rfl ?_
 obtain ⟨o9, h1, h0⟩ := Sh.bind_some h0
 have M9 : ∀ (l8 : (List Cell)), o9 = l8 → ∀ s, Wk 0 s ⟨23, envL [(3, (.own 0 0 (List.length l8)))], [⟨0, 90, 3, List.map eCell l8⟩]⟩ → K4 s := by
  intro l8 hq s hw
  subst o9
  try dsimp only at h0
  refine hK4 _ (AW.weaken hw ?_)
  refine sr rfl fun K10 hK10 => ?_
  iterate 2 refine zq tb rfl ?_
  refine dn hK10 rfl ?_
  replace h0 := Sh.some_eq h0
  subst r
  exact AW.ret (xr (Wk.to (L := [(2, (.own 0 0 (List.length l8)))]) ⟨.rfl, trivial⟩))
 refine AW.block (AW.loopF (σ := Int × (List Cell)) (fun n v => laws_toCellS_L1 N p0 n v.1 v.2 = some o9) (fun (i6, l7) => ⟨23, envL [(0, (.sl (List.map eCell p0))), (3, (.own 0 0 (List.length l7))), (4, (i64 i6))], [⟨0, 90, 3, List.map eCell l7⟩]⟩) N (0, l3) h1 (Wk.tr rfl) (fun _ hv => by rw [laws_toCellS_L1] at hv; cases hv) ?_)
 rintro n ⟨i6, l7⟩ h1
 try dsimp only at h1 ⊢
 rw [laws_toCellS_L1] at h1
 refine AW.seq fun K11 hK11 => ?_
 refine sr rfl fun K12 hK12 => ?_
 iterate 2 refine zq tb rfl ?_
 refine zl tb rfl rfl ?_
 refine zq tb rfl ?_
 refine dn hK12 rfl ?_
 refine ci h1 rfl ?_ ?_ <;> clear h1
 ·intro b13 h1
  refine AW.skip (hK11 _ ?_)
  refine AW.seq fun K14 hK14 => ?_
  refine AW.block ?_
  refine AW.regionO (by rfl) ?_
  iterate 4 refine zq tb rfl ?_
  obtain ⟨c15, gc15, h1⟩ := Sh.bind_some h1
  refine zx ei27 gc15 rfl rfl rfl ?_
  refine zq tb rfl ?_
  obtain ⟨q16, gq16, h1⟩ := Sh.bind_some h1
  refine zc (v' := (.agg (eCell q16))) hb43 (laws_toCell_ok gq16) rfl rfl rfl ?_
  obtain ⟨c17, gc17, h1⟩ := Sh.bind_some h1
  refine zz (.ptr 0 0 (Int.toNat i6) 0) (aq_ixo ei39 rfl rfl rfl rfl gc17) rfl ?_
  refine ao_stl (st' := [⟨0, 90, 3, List.map eCell (Sh.put l7 i6 q16)⟩]) (u' := q16) go0 ti90 rfl rfl gc17 rfl rfl rfl (show 0 + 3 ≤ 3 by decide) rfl rfl ?_
  refine dn hK14 rfl ?_
  refine AW.regionO (by rfl) ?_
  iterate 3 refine zq tb rfl ?_
  exact AO.done (xi (Sh.w (i6 + 1), Sh.put l7 i6 q16) h1 (Wk.to (L := [(0, (.sl (List.map eCell p0))), (3, (.own 0 0 (List.length (Sh.put l7 i6 q16)))), (4, (i64 (Sh.w (i6 + 1))))]) ⟨.rfl, (.len (by simp only [Sh.put_len])), .rfl, trivial⟩))
 ·intro b13 h1
  exact AW.exit (M9 l7 (Sh.some_eq h1).symm _ (Wk.tr rfl))
theorem laws_toFrame_ok {N : Nat} {p0 : RFrame} {r : RFrame} (h0 : laws_toFrame N p0 = some r) : ACalls Tryz.prog 44 [(.agg (eRFrame p0))] [] (fun v st => v = (.agg (eRFrame r)) ∧ st = []) := by
 unfold laws_toFrame at h0
 refine ACalls.flat rfl ?_
 refine ACalls.intro Tryz.func44 rfl (by show 1 ≤ 26; decide) ?_
 show AW _ 0 _ (aret _ 0 Tryz.f44 _) ⟨26, _, _⟩
 refine AW.weaken (Wk.to (L := [(0, (.agg (eRFrame p0)))]) ⟨.rfl, trivial⟩) ?_
 refine sr rfl fun K1 hK1 => ?_
 refine ao_box (m := 0) (st' := [⟨0, 76, 6, [(eRFrame p0)]⟩]) go0 rfl rfl rfl rfl rfl ?_
 refine ao_alloc (m := 1) (st' := [⟨0, 76, 6, [(eRFrame p0)]⟩, ⟨0, 92, 6, [[(i64 0), (i64 0), (i64 0), .zc, .zc, .zc]]⟩]) go0 zi92 rfl rfl ?_
 refine dn hK1 rfl ?_
 refine sr rfl fun K2 hK2 => ?_
 refine ao_alloc (m := 2) (st' := [⟨0, 76, 6, [(eRFrame p0)]⟩, ⟨0, 92, 6, [[(i64 0), (i64 0), (i64 0), .zc, .zc, .zc]]⟩, ⟨0, 92, 6, [[(i64 0), (i64 0), (i64 0), .zc, .zc, .zc]]⟩]) go0 zi92 rfl rfl ?_
 refine dn hK2 rfl ?_
 refine sr rfl fun K3 hK3 => ?_
 iterate 3 refine zq tb rfl ?_
 refine ao_str (st' := [⟨0, 76, 6, [(eRFrame p0)]⟩, ⟨0, 92, 6, [[(i64 0), (i64 0), (i64 0), .zc, .zc, .zc]]⟩, ⟨0, 92, 6, [[(i64 p0.proc), (i64 0), (i64 0), .zc, .zc, .zc]]⟩]) go0 ti3 rfl rfl rfl rfl rfl rfl (show 0 + 1 ≤ 6 by decide) rfl ?_
 refine dn hK3 rfl ?_
 refine sr rfl fun K4 hK4 => ?_
 iterate 3 refine zq tb rfl ?_
 refine ao_str (st' := [⟨0, 76, 6, [(eRFrame p0)]⟩, ⟨0, 92, 6, [[(i64 0), (i64 0), (i64 0), .zc, .zc, .zc]]⟩, ⟨0, 92, 6, [[(i64 p0.proc), (i64 p0.at_), (i64 0), .zc, .zc, .zc]]⟩]) go0 ti3 rfl rfl rfl rfl rfl rfl (show 1 + 1 ≤ 6 by decide) rfl ?_
 refine dn hK4 rfl ?_
 refine sr rfl fun K5 hK5 => ?_
 iterate 3 refine zq tb rfl ?_
 refine ao_str (st' := [⟨0, 76, 6, [(eRFrame p0)]⟩, ⟨0, 92, 6, [[(i64 0), (i64 0), (i64 0), .zc, .zc, .zc]]⟩, ⟨0, 92, 6, [[(i64 p0.proc), (i64 p0.at_), (i64 p0.dst), .zc, .zc, .zc]]⟩]) go0 ti3 rfl rfl rfl rfl rfl rfl (show 2 + 1 ≤ 6 by decide) rfl ?_
 refine dn hK5 rfl ?_
 refine sr rfl fun K6 hK6 => ?_
 iterate 2 refine zq tb rfl ?_
 obtain ⟨q7, gq7, h0⟩ := Sh.bind_some h0
 refine ao_call (v' := (.own 3 0 (List.length q7))) (st' := [⟨0, 76, 6, [(eRFrame p0)]⟩, ⟨0, 92, 6, [[(i64 0), (i64 0), (i64 0), .zc, .zc, .zc]]⟩, ⟨0, 92, 6, [[(i64 p0.proc), (i64 p0.at_), (i64 p0.dst), .zc, .zc, .zc]]⟩, ⟨0, 3, 1, List.map eI q7⟩]) go0 hb20 (laws_toIntS_ok gq7) rfl rfl ⟨(pure_map' fun _ => rfl), trivial⟩ rfl rfl ?_
 refine zq tb rfl ?_
 refine AO.weaken (Wk.frz (L := [(1, (.ptr 0 0 0 0)), (2, (.ptr 1 0 0 0)), (3, (.ptr 2 0 0 0)), (15, (.sl (List.map eI q7))), (16, (.ptr 2 0 0 3))]) (st' := [⟨0, 76, 6, [(eRFrame p0)]⟩, ⟨0, 92, 6, [[(i64 0), (i64 0), (i64 0), .zc, .zc, .zc]]⟩, ⟨0, 92, 6, [[(i64 p0.proc), (i64 p0.at_), (i64 p0.dst), .zc, .zc, .zc]]⟩, ⟨1, 3, 1, []⟩]) (id := 3) rfl (show 0 ≤ 3 by decide) (pure_map fun _ => rfl) ⟨.rfl, .rfl, .rfl, (.frz rfl), .rfl, trivial⟩ rfl) ?_
 refine ao_str (st' := [⟨0, 76, 6, [(eRFrame p0)]⟩, ⟨0, 92, 6, [[(i64 0), (i64 0), (i64 0), .zc, .zc, .zc]]⟩, ⟨0, 92, 6, [[(i64 p0.proc), (i64 p0.at_), (i64 p0.dst), (.sl (List.map eI q7)), .zc, .zc]]⟩, ⟨1, 3, 1, []⟩]) go0 ti26 rfl rfl rfl rfl rfl rfl (show 3 + 1 ≤ 6 by decide) rfl ?_
 refine dn hK6 rfl ?_
 refine sr rfl fun K8 hK8 => ?_
 iterate 2 refine zq tb rfl ?_
 obtain ⟨q9, gq9, h0⟩ := Sh.bind_some h0
 refine ao_call (v' := (.own 4 0 (List.length q9))) (st' := [⟨0, 76, 6, [(eRFrame p0)]⟩, ⟨0, 92, 6, [[(i64 0), (i64 0), (i64 0), .zc, .zc, .zc]]⟩, ⟨0, 92, 6, [[(i64 p0.proc), (i64 p0.at_), (i64 p0.dst), (.sl (List.map eI q7)), .zc, .zc]]⟩, ⟨1, 3, 1, []⟩, ⟨0, 3, 1, List.map eI q9⟩]) go0 hb20 (laws_toIntS_ok gq9) rfl rfl ⟨(pure_map' fun _ => rfl), trivial⟩ rfl rfl ?_
 refine zq tb rfl ?_
 refine AO.weaken (Wk.frz (L := [(1, (.ptr 0 0 0 0)), (2, (.ptr 1 0 0 0)), (3, (.ptr 2 0 0 0)), (19, (.sl (List.map eI q9))), (20, (.ptr 2 0 0 4))]) (st' := [⟨0, 76, 6, [(eRFrame p0)]⟩, ⟨0, 92, 6, [[(i64 0), (i64 0), (i64 0), .zc, .zc, .zc]]⟩, ⟨0, 92, 6, [[(i64 p0.proc), (i64 p0.at_), (i64 p0.dst), (.sl (List.map eI q7)), .zc, .zc]]⟩, ⟨1, 3, 1, []⟩, ⟨1, 3, 1, []⟩]) (id := 4) rfl (show 0 ≤ 4 by decide) (pure_map fun _ => rfl) ⟨.rfl, .rfl, .rfl, (.frz rfl), .rfl, trivial⟩ rfl) ?_
 refine ao_str (st' := [⟨0, 76, 6, [(eRFrame p0)]⟩, ⟨0, 92, 6, [[(i64 0), (i64 0), (i64 0), .zc, .zc, .zc]]⟩, ⟨0, 92, 6, [[(i64 p0.proc), (i64 p0.at_), (i64 p0.dst), (.sl (List.map eI q7)), (.sl (List.map eI q9)), .zc]]⟩, ⟨1, 3, 1, []⟩, ⟨1, 3, 1, []⟩]) go0 ti26 rfl rfl rfl rfl rfl rfl (show 4 + 1 ≤ 6 by decide) rfl ?_
 refine dn hK8 rfl ?_
 refine sr rfl fun K10 hK10 => ?_
 iterate 2 refine zq tb rfl ?_
 obtain ⟨q11, gq11, h0⟩ := Sh.bind_some h0
 refine ao_call (v' := (.own 5 0 (List.length q11))) (st' := [⟨0, 76, 6, [(eRFrame p0)]⟩, ⟨0, 92, 6, [[(i64 0), (i64 0), (i64 0), .zc, .zc, .zc]]⟩, ⟨0, 92, 6, [[(i64 p0.proc), (i64 p0.at_), (i64 p0.dst), (.sl (List.map eI q7)), (.sl (List.map eI q9)), .zc]]⟩, ⟨1, 3, 1, []⟩, ⟨1, 3, 1, []⟩, ⟨0, 3, 1, List.map eI q11⟩]) go0 hb20 (laws_toIntS_ok gq11) rfl rfl ⟨(pure_map' fun _ => rfl), trivial⟩ rfl rfl ?_
 refine zq tb rfl ?_
 refine AO.weaken (Wk.frz (L := [(2, (.ptr 1 0 0 0)), (3, (.ptr 2 0 0 0)), (23, (.sl (List.map eI q11))), (24, (.ptr 2 0 0 5))]) (st' := [⟨0, 76, 6, [(eRFrame p0)]⟩, ⟨0, 92, 6, [[(i64 0), (i64 0), (i64 0), .zc, .zc, .zc]]⟩, ⟨0, 92, 6, [[(i64 p0.proc), (i64 p0.at_), (i64 p0.dst), (.sl (List.map eI q7)), (.sl (List.map eI q9)), .zc]]⟩, ⟨1, 3, 1, []⟩, ⟨1, 3, 1, []⟩, ⟨1, 3, 1, []⟩]) (id := 5) rfl (show 0 ≤ 5 by decide) (pure_map fun _ => rfl) ⟨.rfl, .rfl, (.frz rfl), .rfl, trivial⟩ rfl) ?_
 refine ao_str (st' := [⟨0, 76, 6, [(eRFrame p0)]⟩, ⟨0, 92, 6, [[(i64 0), (i64 0), (i64 0), .zc, .zc, .zc]]⟩, ⟨0, 92, 6, [[(i64 p0.proc), (i64 p0.at_), (i64 p0.dst), (.sl (List.map eI q7)), (.sl (List.map eI q9)), (.sl (List.map eI q11))]]⟩, ⟨1, 3, 1, []⟩, ⟨1, 3, 1, []⟩, ⟨1, 3, 1, []⟩]) go0 ti26 rfl rfl rfl rfl rfl rfl (show 5 + 1 ≤ 6 by decide) rfl ?_
 refine dn hK10 rfl ?_
 refine sr rfl fun K12 hK12 => ?_
 refine zq tb rfl ?_
 refine ao_str (st' := [⟨0, 76, 6, [(eRFrame p0)]⟩, ⟨0, 92, 6, [[(i64 p0.proc), (i64 p0.at_), (i64 p0.dst), (.sl (List.map eI q7)), (.sl (List.map eI q9)), (.sl (List.map eI q11))]]⟩, ⟨0, 92, 6, [[(i64 p0.proc), (i64 p0.at_), (i64 p0.dst), (.sl (List.map eI q7)), (.sl (List.map eI q9)), (.sl (List.map eI q11))]]⟩, ⟨1, 3, 1, []⟩, ⟨1, 3, 1, []⟩, ⟨1, 3, 1, []⟩]) go0 ti92 rfl rfl rfl rfl rfl rfl (show 0 + 6 ≤ 6 by decide) rfl ?_
 refine dn hK12 rfl ?_
 replace h0 := Sh.some_eq h0
 subst r
 exact AW.ret (Exists.intro _ (And.intro (Wk.refl _ _) (aq_ldpa (x := .tmp 2) (off := 0) (cs := [(i64 p0.proc), (i64 p0.at_), (i64 p0.dst), (.sl (List.map eI q7)), (.sl (List.map eI q9)), (.sl (List.map eI q11))]) (vs := [(i64 p0.proc), (i64 p0.at_), (i64 p0.dst), (.sl (List.map eI q7)), (.sl (List.map eI q9)), (.sl (List.map eI q11))]) ti92 rfl rfl rfl (show 0 + 6 ≤ 6 by decide) rfl _ rfl)))
theorem laws_toFrameS_ok {N : Nat} {p0 : (List RFrame)} {r : (List RFrame)} (h0 : laws_toFrameS N p0 = some r) : ACalls Tryz.prog 22 [(.sl (List.map eRFrame p0))] [] (fun v st => v = (.own 0 0 (List.length r)) ∧ st = [⟨0, 92, 6, List.map eRFrame r⟩]) := by
 unfold laws_toFrameS at h0
 refine ACalls.intro Tryz.func22 rfl (by show 1 ≤ 23; decide) ?_
 show AW _ 0 _ (aret _ 0 Tryz.f22 _) ⟨23, _, _⟩
 refine AW.weaken (Wk.to (L := [(0, (.sl (List.map eRFrame p0)))]) ⟨.rfl, trivial⟩) ?_
 refine sr rfl fun K1 hK1 => ?_
 refine zq tb rfl ?_
 refine dn hK1 rfl ?_
 refine sr rfl fun K2 hK2 => ?_
 refine zq tb rfl ?_
 refine zl tb rfl rfl ?_
 obtain ⟨l3, gl3, h0⟩ := Sh.bind_some h0
 refine ao_make (m := 0) (st' := [⟨0, 92, 6, List.map eRFrame l3⟩]) (enc := eRFrame) (u := (RFrame.mk 0 0 0 [] [] [])) go0 ei40 rfl rfl rfl gl3 rfl rfl ?_
 refine zq tb rfl ?_
 refine dn hK2 rfl ?_
 refine AW.seq fun K4 hK4 => ?_
 refine sr rfl fun K5 hK5 => ?_
 refine zq tb rfl ?_
 refine dn hK5 rfl ?_
 obtain ⟨o9, h1, h0⟩ := Sh.bind_some h0
 have M9 : ∀ (l8 : (List RFrame)), o9 = l8 → ∀ s, Wk 0 s ⟨23, envL [(3, (.own 0 0 (List.length l8)))], [⟨0, 92, 6, List.map eRFrame l8⟩]⟩ → K4 s := by
  intro l8 hq s hw
  subst o9
  try dsimp only at h0
  refine hK4 _ (AW.weaken hw ?_)
  refine sr rfl fun K10 hK10 => ?_
  iterate 2 refine zq tb rfl ?_
  refine dn hK10 rfl ?_
  replace h0 := Sh.some_eq h0
  subst r
  exact AW.ret (xr (Wk.to (L := [(2, (.own 0 0 (List.length l8)))]) ⟨.rfl, trivial⟩))
 refine AW.block (AW.loopF (σ := Int × (List RFrame)) (fun n v => laws_toFrameS_L1 N p0 n v.1 v.2 = some o9) (fun (i6, l7) => ⟨23, envL [(0, (.sl (List.map eRFrame p0))), (3, (.own 0 0 (List.length l7))), (4, (i64 i6))], [⟨0, 92, 6, List.map eRFrame l7⟩]⟩) N (0, l3) h1 (Wk.tr rfl) (fun _ hv => by rw [laws_toFrameS_L1] at hv; cases hv) ?_)
 rintro n ⟨i6, l7⟩ h1
 try dsimp only at h1 ⊢
 rw [laws_toFrameS_L1] at h1
 refine AW.seq fun K11 hK11 => ?_
 refine sr rfl fun K12 hK12 => ?_
 iterate 2 refine zq tb rfl ?_
 refine zl tb rfl rfl ?_
 refine zq tb rfl ?_
 refine dn hK12 rfl ?_
 refine ci h1 rfl ?_ ?_ <;> clear h1
 ·intro b13 h1
  refine AW.skip (hK11 _ ?_)
  refine AW.seq fun K14 hK14 => ?_
  refine AW.block ?_
  refine AW.regionO (by rfl) ?_
  iterate 4 refine zq tb rfl ?_
  obtain ⟨c15, gc15, h1⟩ := Sh.bind_some h1
  refine zx ei28 gc15 rfl rfl rfl ?_
  refine zq tb rfl ?_
  obtain ⟨q16, gq16, h1⟩ := Sh.bind_some h1
  refine zc (v' := (.agg (eRFrame q16))) hb44 (laws_toFrame_ok gq16) rfl rfl rfl ?_
  obtain ⟨c17, gc17, h1⟩ := Sh.bind_some h1
  refine zz (.ptr 0 0 (Int.toNat i6) 0) (aq_ixo ei40 rfl rfl rfl rfl gc17) rfl ?_
  refine ao_stl (st' := [⟨0, 92, 6, List.map eRFrame (Sh.put l7 i6 q16)⟩]) (u' := q16) go0 ti92 rfl rfl gc17 rfl rfl rfl (show 0 + 6 ≤ 6 by decide) rfl rfl ?_
  refine dn hK14 rfl ?_
  refine AW.regionO (by rfl) ?_
  iterate 3 refine zq tb rfl ?_
  exact AO.done (xi (Sh.w (i6 + 1), Sh.put l7 i6 q16) h1 (Wk.to (L := [(0, (.sl (List.map eRFrame p0))), (3, (.own 0 0 (List.length (Sh.put l7 i6 q16)))), (4, (i64 (Sh.w (i6 + 1))))]) ⟨.rfl, (.len (by simp only [Sh.put_len])), .rfl, trivial⟩))
 ·intro b13 h1
  exact AW.exit (M9 l7 (Sh.some_eq h1).symm _ (Wk.tr rfl))
theorem laws_toState_ok {N : Nat} {p0 : RState} {r : RState} (h0 : laws_toState N p0 = some r) : ACalls Tryz.prog 8 [(.agg (eRState p0))] [] (fun v st => v = (.agg (eRState r)) ∧ st = []) := by
 unfold laws_toState at h0
 refine ACalls.flat rfl ?_
 refine ACalls.intro Tryz.func8 rfl (by show 1 ≤ 29; decide) ?_
 show AW _ 0 _ (aret _ 0 Tryz.f8 _) ⟨29, _, _⟩
 refine AW.weaken (Wk.to (L := [(0, (.agg (eRState p0)))]) ⟨.rfl, trivial⟩) ?_
 refine sr rfl fun K1 hK1 => ?_
 refine ao_box (m := 0) (st' := [⟨0, 30, 7, [(eRState p0)]⟩]) go0 rfl rfl rfl rfl rfl ?_
 refine ao_alloc (m := 1) (st' := [⟨0, 30, 7, [(eRState p0)]⟩, ⟨0, 42, 7, [[(i64 0), (i64 0), (i64 0), (i64 0), .zc, .zc, .zc]]⟩]) go0 zi42 rfl rfl ?_
 refine dn hK1 rfl ?_
 refine sr rfl fun K2 hK2 => ?_
 refine ao_alloc (m := 2) (st' := [⟨0, 30, 7, [(eRState p0)]⟩, ⟨0, 42, 7, [[(i64 0), (i64 0), (i64 0), (i64 0), .zc, .zc, .zc]]⟩, ⟨0, 42, 7, [[(i64 0), (i64 0), (i64 0), (i64 0), .zc, .zc, .zc]]⟩]) go0 zi42 rfl rfl ?_
 refine dn hK2 rfl ?_
 refine sr rfl fun K3 hK3 => ?_
 iterate 3 refine zq tb rfl ?_
 refine ao_str (st' := [⟨0, 30, 7, [(eRState p0)]⟩, ⟨0, 42, 7, [[(i64 0), (i64 0), (i64 0), (i64 0), .zc, .zc, .zc]]⟩, ⟨0, 42, 7, [[(i64 p0.status), (i64 0), (i64 0), (i64 0), .zc, .zc, .zc]]⟩]) go0 ti3 rfl rfl rfl rfl rfl rfl (show 0 + 1 ≤ 7 by decide) rfl ?_
 refine dn hK3 rfl ?_
 refine sr rfl fun K4 hK4 => ?_
 iterate 3 refine zq tb rfl ?_
 refine ao_str (st' := [⟨0, 30, 7, [(eRState p0)]⟩, ⟨0, 42, 7, [[(i64 0), (i64 0), (i64 0), (i64 0), .zc, .zc, .zc]]⟩, ⟨0, 42, 7, [[(i64 p0.status), (i64 p0.value), (i64 0), (i64 0), .zc, .zc, .zc]]⟩]) go0 ti3 rfl rfl rfl rfl rfl rfl (show 1 + 1 ≤ 7 by decide) rfl ?_
 refine dn hK4 rfl ?_
 refine sr rfl fun K5 hK5 => ?_
 iterate 3 refine zq tb rfl ?_
 refine ao_str (st' := [⟨0, 30, 7, [(eRState p0)]⟩, ⟨0, 42, 7, [[(i64 0), (i64 0), (i64 0), (i64 0), .zc, .zc, .zc]]⟩, ⟨0, 42, 7, [[(i64 p0.status), (i64 p0.value), (i64 p0.calls), (i64 0), .zc, .zc, .zc]]⟩]) go0 ti3 rfl rfl rfl rfl rfl rfl (show 2 + 1 ≤ 7 by decide) rfl ?_
 refine dn hK5 rfl ?_
 refine sr rfl fun K6 hK6 => ?_
 iterate 3 refine zq tb rfl ?_
 refine ao_str (st' := [⟨0, 30, 7, [(eRState p0)]⟩, ⟨0, 42, 7, [[(i64 0), (i64 0), (i64 0), (i64 0), .zc, .zc, .zc]]⟩, ⟨0, 42, 7, [[(i64 p0.status), (i64 p0.value), (i64 p0.calls), (i64 p0.most), .zc, .zc, .zc]]⟩]) go0 ti3 rfl rfl rfl rfl rfl rfl (show 3 + 1 ≤ 7 by decide) rfl ?_
 refine dn hK6 rfl ?_
 refine sr rfl fun K7 hK7 => ?_
 iterate 2 refine zq tb rfl ?_
 obtain ⟨q8, gq8, h0⟩ := Sh.bind_some h0
 refine ao_call (v' := (.own 3 0 (List.length q8))) (st' := [⟨0, 30, 7, [(eRState p0)]⟩, ⟨0, 42, 7, [[(i64 0), (i64 0), (i64 0), (i64 0), .zc, .zc, .zc]]⟩, ⟨0, 42, 7, [[(i64 p0.status), (i64 p0.value), (i64 p0.calls), (i64 p0.most), .zc, .zc, .zc]]⟩, ⟨0, 3, 1, List.map eI q8⟩]) go0 hb20 (laws_toIntS_ok gq8) rfl rfl ⟨(pure_map' fun _ => rfl), trivial⟩ rfl rfl ?_
 refine zq tb rfl ?_
 refine AO.weaken (Wk.frz (L := [(1, (.ptr 0 0 0 0)), (2, (.ptr 1 0 0 0)), (3, (.ptr 2 0 0 0)), (18, (.sl (List.map eI q8))), (19, (.ptr 2 0 0 4))]) (st' := [⟨0, 30, 7, [(eRState p0)]⟩, ⟨0, 42, 7, [[(i64 0), (i64 0), (i64 0), (i64 0), .zc, .zc, .zc]]⟩, ⟨0, 42, 7, [[(i64 p0.status), (i64 p0.value), (i64 p0.calls), (i64 p0.most), .zc, .zc, .zc]]⟩, ⟨1, 3, 1, []⟩]) (id := 3) rfl (show 0 ≤ 3 by decide) (pure_map fun _ => rfl) ⟨.rfl, .rfl, .rfl, (.frz rfl), .rfl, trivial⟩ rfl) ?_
 refine ao_str (st' := [⟨0, 30, 7, [(eRState p0)]⟩, ⟨0, 42, 7, [[(i64 0), (i64 0), (i64 0), (i64 0), .zc, .zc, .zc]]⟩, ⟨0, 42, 7, [[(i64 p0.status), (i64 p0.value), (i64 p0.calls), (i64 p0.most), (.sl (List.map eI q8)), .zc, .zc]]⟩, ⟨1, 3, 1, []⟩]) go0 ti26 rfl rfl rfl rfl rfl rfl (show 4 + 1 ≤ 7 by decide) rfl ?_
 refine dn hK7 rfl ?_
 refine sr rfl fun K9 hK9 => ?_
 iterate 2 refine zq tb rfl ?_
 obtain ⟨q10, gq10, h0⟩ := Sh.bind_some h0
 refine ao_call (v' := (.own 4 0 (List.length q10))) (st' := [⟨0, 30, 7, [(eRState p0)]⟩, ⟨0, 42, 7, [[(i64 0), (i64 0), (i64 0), (i64 0), .zc, .zc, .zc]]⟩, ⟨0, 42, 7, [[(i64 p0.status), (i64 p0.value), (i64 p0.calls), (i64 p0.most), (.sl (List.map eI q8)), .zc, .zc]]⟩, ⟨1, 3, 1, []⟩, ⟨0, 90, 3, List.map eCell q10⟩]) go0 hb21 (laws_toCellS_ok gq10) rfl rfl ⟨(pure_map' fun _ => rfl), trivial⟩ rfl rfl ?_
 refine zq tb rfl ?_
 refine AO.weaken (Wk.frz (L := [(1, (.ptr 0 0 0 0)), (2, (.ptr 1 0 0 0)), (3, (.ptr 2 0 0 0)), (22, (.sl (List.map eCell q10))), (23, (.ptr 2 0 0 5))]) (st' := [⟨0, 30, 7, [(eRState p0)]⟩, ⟨0, 42, 7, [[(i64 0), (i64 0), (i64 0), (i64 0), .zc, .zc, .zc]]⟩, ⟨0, 42, 7, [[(i64 p0.status), (i64 p0.value), (i64 p0.calls), (i64 p0.most), (.sl (List.map eI q8)), .zc, .zc]]⟩, ⟨1, 3, 1, []⟩, ⟨1, 90, 3, []⟩]) (id := 4) rfl (show 0 ≤ 4 by decide) (pure_map fun _ => rfl) ⟨.rfl, .rfl, .rfl, (.frz rfl), .rfl, trivial⟩ rfl) ?_
 refine ao_str (st' := [⟨0, 30, 7, [(eRState p0)]⟩, ⟨0, 42, 7, [[(i64 0), (i64 0), (i64 0), (i64 0), .zc, .zc, .zc]]⟩, ⟨0, 42, 7, [[(i64 p0.status), (i64 p0.value), (i64 p0.calls), (i64 p0.most), (.sl (List.map eI q8)), (.sl (List.map eCell q10)), .zc]]⟩, ⟨1, 3, 1, []⟩, ⟨1, 90, 3, []⟩]) go0 ti39 rfl rfl rfl rfl rfl rfl (show 5 + 1 ≤ 7 by decide) rfl ?_
 refine dn hK9 rfl ?_
 refine sr rfl fun K11 hK11 => ?_
 iterate 2 refine zq tb rfl ?_
 obtain ⟨q12, gq12, h0⟩ := Sh.bind_some h0
 refine ao_call (v' := (.own 5 0 (List.length q12))) (st' := [⟨0, 30, 7, [(eRState p0)]⟩, ⟨0, 42, 7, [[(i64 0), (i64 0), (i64 0), (i64 0), .zc, .zc, .zc]]⟩, ⟨0, 42, 7, [[(i64 p0.status), (i64 p0.value), (i64 p0.calls), (i64 p0.most), (.sl (List.map eI q8)), (.sl (List.map eCell q10)), .zc]]⟩, ⟨1, 3, 1, []⟩, ⟨1, 90, 3, []⟩, ⟨0, 92, 6, List.map eRFrame q12⟩]) go0 hb22 (laws_toFrameS_ok gq12) rfl rfl ⟨(pure_map' fun _ => rfl), trivial⟩ rfl rfl ?_
 refine zq tb rfl ?_
 refine AO.weaken (Wk.frz (L := [(2, (.ptr 1 0 0 0)), (3, (.ptr 2 0 0 0)), (26, (.sl (List.map eRFrame q12))), (27, (.ptr 2 0 0 6))]) (st' := [⟨0, 30, 7, [(eRState p0)]⟩, ⟨0, 42, 7, [[(i64 0), (i64 0), (i64 0), (i64 0), .zc, .zc, .zc]]⟩, ⟨0, 42, 7, [[(i64 p0.status), (i64 p0.value), (i64 p0.calls), (i64 p0.most), (.sl (List.map eI q8)), (.sl (List.map eCell q10)), .zc]]⟩, ⟨1, 3, 1, []⟩, ⟨1, 90, 3, []⟩, ⟨1, 92, 6, []⟩]) (id := 5) rfl (show 0 ≤ 5 by decide) (pure_map fun _ => rfl) ⟨.rfl, .rfl, (.frz rfl), .rfl, trivial⟩ rfl) ?_
 refine ao_str (st' := [⟨0, 30, 7, [(eRState p0)]⟩, ⟨0, 42, 7, [[(i64 0), (i64 0), (i64 0), (i64 0), .zc, .zc, .zc]]⟩, ⟨0, 42, 7, [[(i64 p0.status), (i64 p0.value), (i64 p0.calls), (i64 p0.most), (.sl (List.map eI q8)), (.sl (List.map eCell q10)), (.sl (List.map eRFrame q12))]]⟩, ⟨1, 3, 1, []⟩, ⟨1, 90, 3, []⟩, ⟨1, 92, 6, []⟩]) go0 ti40 rfl rfl rfl rfl rfl rfl (show 6 + 1 ≤ 7 by decide) rfl ?_
 refine dn hK11 rfl ?_
 refine sr rfl fun K13 hK13 => ?_
 refine zq tb rfl ?_
 refine ao_str (st' := [⟨0, 30, 7, [(eRState p0)]⟩, ⟨0, 42, 7, [[(i64 p0.status), (i64 p0.value), (i64 p0.calls), (i64 p0.most), (.sl (List.map eI q8)), (.sl (List.map eCell q10)), (.sl (List.map eRFrame q12))]]⟩, ⟨0, 42, 7, [[(i64 p0.status), (i64 p0.value), (i64 p0.calls), (i64 p0.most), (.sl (List.map eI q8)), (.sl (List.map eCell q10)), (.sl (List.map eRFrame q12))]]⟩, ⟨1, 3, 1, []⟩, ⟨1, 90, 3, []⟩, ⟨1, 92, 6, []⟩]) go0 ti42 rfl rfl rfl rfl rfl rfl (show 0 + 7 ≤ 7 by decide) rfl ?_
 refine dn hK13 rfl ?_
 replace h0 := Sh.some_eq h0
 subst r
 exact AW.ret (Exists.intro _ (And.intro (Wk.refl _ _) (aq_ldpa (x := .tmp 2) (off := 0) (cs := [(i64 p0.status), (i64 p0.value), (i64 p0.calls), (i64 p0.most), (.sl (List.map eI q8)), (.sl (List.map eCell q10)), (.sl (List.map eRFrame q12))]) (vs := [(i64 p0.status), (i64 p0.value), (i64 p0.calls), (i64 p0.most), (.sl (List.map eI q8)), (.sl (List.map eCell q10)), (.sl (List.map eRFrame q12))]) ti42 rfl rfl rfl (show 0 + 7 ≤ 7 by decide) rfl _ rfl)))
theorem spec_sigsOfImage_ok {N : Nat} {p0 : RImage} {r : RProgram} (h0 : spec_sigsOfImage N p0 = some r) : ACalls Tryz.prog 60 [(.agg (eRImage p0))] [] (fun v st => v = (.agg [(.sl (List.map eRDecl r.decls)), (.sl (List.map eRFunc r.funcs))]) ∧ st = []) := by
 unfold spec_sigsOfImage at h0
 refine ACalls.flat rfl ?_
 refine ACalls.intro Tryz.func60 rfl (by show 1 ≤ 35; decide) ?_
 show AW _ 0 _ (aret _ 0 Tryz.f60 _) ⟨35, _, _⟩
 refine AW.weaken (Wk.to (L := [(0, (.agg (eRImage p0)))]) ⟨.rfl, trivial⟩) ?_
 refine sr rfl fun K1 hK1 => ?_
 refine ao_box (m := 0) (st' := [⟨0, 37, 2, [(eRImage p0)]⟩]) go0 rfl rfl rfl rfl rfl ?_
 refine ao_alloc (m := 1) (st' := [⟨0, 37, 2, [(eRImage p0)]⟩, ⟨0, 117, 2, [[.zc, .zc]]⟩]) go0 zi117 rfl rfl ?_
 refine dn hK1 rfl ?_
 refine sr rfl fun K2 hK2 => ?_
 iterate 2 refine zq tb rfl ?_
 refine ao_bs (m := 2) (st' := [⟨0, 37, 2, [(eRImage p0)]⟩, ⟨0, 117, 2, [[.zc, .zc]]⟩, ⟨0, 147, 5, List.map eRFunc ([] : List RFunc)⟩]) (l := ([] : List RFunc)) (enc := eRFunc) go0 ei115 (by decide) rfl rfl rfl rfl rfl rfl ?_
 refine zz (.agg [(.sl (List.map eRDecl p0.decls)), (.own 2 0 (List.length ([] : List RFunc)))]) (aq_bd ai117 bi117 zi117 rfl rfl) rfl ?_
 refine ao_alloc (m := 3) (st' := [⟨0, 37, 2, [(eRImage p0)]⟩, ⟨0, 117, 2, [[.zc, .zc]]⟩, ⟨0, 147, 5, List.map eRFunc ([] : List RFunc)⟩, ⟨0, 117, 2, [[.zc, .zc]]⟩]) go0 zi117 rfl rfl ?_
 refine ao_str (st' := [⟨0, 37, 2, [(eRImage p0)]⟩, ⟨0, 117, 2, [[.zc, .zc]]⟩, ⟨0, 147, 5, List.map eRFunc ([] : List RFunc)⟩, ⟨0, 117, 2, [[(.sl (List.map eRDecl p0.decls)), (.own 2 0 (List.length ([] : List RFunc)))]]⟩]) go0 ti117 rfl rfl rfl rfl rfl rfl (show 0 + 2 ≤ 2 by decide) rfl ?_
 refine dn hK2 rfl ?_
 refine AW.seq fun K3 hK3 => ?_
 refine sr rfl fun K4 hK4 => ?_
 refine zq tb rfl ?_
 refine dn hK4 rfl ?_
 obtain ⟨o8, h1, h0⟩ := Sh.bind_some h0
 have M8 : ∀ (l7 : (List RFunc)), o8 = l7 → ∀ s, Wk 0 s ⟨35, envL [(2, (.ptr 0 0 0 0)), (3, (.ptr 2 0 0 0))], [⟨0, 117, 2, [[.zc, .zc]]⟩, ⟨0, 147, 5, List.map eRFunc l7⟩, ⟨0, 117, 2, [[(.sl (List.map eRDecl p0.decls)), (.own 1 0 (List.length l7))]]⟩]⟩ → K3 s := by
  intro l7 hq s hw
  subst o8
  try dsimp only at h0
  refine hK3 _ (AW.weaken hw ?_)
  refine sr rfl fun K9 hK9 => ?_
  refine zq tb rfl ?_
  refine AO.weaken (Wk.frz (L := [(2, (.ptr 0 0 0 0)), (34, (.agg [(.sl (List.map eRDecl p0.decls)), (.sl (List.map eRFunc l7))]))]) (st' := [⟨0, 117, 2, [[.zc, .zc]]⟩, ⟨1, 147, 5, []⟩, ⟨0, 117, 2, [[(.sl (List.map eRDecl p0.decls)), (.own 1 0 (List.length l7))]]⟩]) (id := 1) rfl (show 0 ≤ 1 by decide) (pure_map fun _ => rfl) ⟨.rfl, (.agg ⟨.rfl, (.frz1 rfl), trivial⟩), trivial⟩ rfl) ?_
  refine ao_str (st' := [⟨0, 117, 2, [[(.sl (List.map eRDecl p0.decls)), (.sl (List.map eRFunc l7))]]⟩, ⟨1, 147, 5, []⟩, ⟨0, 117, 2, [[(.sl (List.map eRDecl p0.decls)), (.own 1 0 (List.length l7))]]⟩]) go0 ti117 rfl rfl rfl rfl rfl rfl (show 0 + 2 ≤ 2 by decide) rfl ?_
  refine dn hK9 rfl ?_
  replace h0 := Sh.some_eq h0
  subst r
  exact AW.ret (Exists.intro _ (And.intro (Wk.refl _ _) (aq_ldpa (x := .tmp 2) (off := 0) (cs := [(.sl (List.map eRDecl p0.decls)), (.sl (List.map eRFunc l7))]) (vs := [(.sl (List.map eRDecl p0.decls)), (.sl (List.map eRFunc l7))]) ti117 rfl rfl rfl (show 0 + 2 ≤ 2 by decide) rfl _ rfl)))
 refine AW.block (AW.loopF (σ := Int × (List RFunc)) (fun n v => spec_sigsOfImage_L1 p0 n v.1 v.2 = some o8) (fun (i5, l6) => ⟨35, envL [(1, (.ptr 0 0 0 0)), (2, (.ptr 1 0 0 0)), (3, (.ptr 3 0 0 0)), (4, (i64 i5))], [⟨0, 37, 2, [(eRImage p0)]⟩, ⟨0, 117, 2, [[.zc, .zc]]⟩, ⟨0, 147, 5, List.map eRFunc l6⟩, ⟨0, 117, 2, [[(.sl (List.map eRDecl p0.decls)), (.own 2 0 (List.length l6))]]⟩]⟩) N (0, []) h1 (Wk.tr rfl) (fun _ hv => by rw [spec_sigsOfImage_L1] at hv; cases hv) ?_)
 rintro n ⟨i5, l6⟩ h1
 try dsimp only at h1 ⊢
 rw [spec_sigsOfImage_L1] at h1
 refine AW.seq fun K10 hK10 => ?_
 refine sr rfl fun K11 hK11 => ?_
 iterate 3 refine zq tb rfl ?_
 refine zl tb rfl rfl ?_
 refine zq tb rfl ?_
 refine dn hK11 rfl ?_
 refine ci h1 rfl ?_ ?_ <;> clear h1
 ·intro b12 h1
  refine AW.skip (hK10 _ ?_)
  refine AW.seq fun K13 hK13 => ?_
  refine AW.block ?_
  refine AW.drawTailO 16 (by kernel_rfl) (by kernel_rfl) (by rfl) ?_
  iterate 5 refine yq tb rfl ?_
  obtain ⟨c14, gc14, h1⟩ := Sh.bind_some h1
  refine yx ei35 gc14 rfl rfl rfl ?_
  iterate 5 refine yq tb rfl ?_
  refine yx ei35 gc14 rfl rfl rfl ?_
  iterate 2 refine yq tb rfl ?_
  refine yz (.agg [(.sl (List.map eI c14.params)), (i64 c14.result), (i64 0), (i64 0), .zc]) (aq_bd ai147 bi147 zi147 rfl rfl) rfl ?_
  refine d_bsz (l := ([(RFunc.mk c14.params c14.result (RExpr.mk 0 0 []))])) (enc := eRFunc) (pv' := [(0, (.agg [(.sl (List.map eI c14.params)), (i64 c14.result), (i64 0), (i64 0), (.sl (List.map eRExpr []))]))]) go0 ei115 (by decide) rfl rfl (.cons (le.agg ⟨le.rfl, le.rfl, le.rfl, le.rfl, le.zc, trivial⟩) .nil) rfl rfl rfl (pure_map fun _ => rfl) ?_
  refine d_done ?_
  obtain ⟨l15, gl15, h1⟩ := Sh.bind_some h1
  refine ao_apo (st' := [⟨0, 37, 2, [(eRImage p0)]⟩, ⟨0, 117, 2, [[.zc, .zc]]⟩, ⟨1, 147, 5, List.map eRFunc l15⟩, ⟨0, 117, 2, [[(.sl (List.map eRDecl p0.decls)), (.own 2 0 (List.length l6))]]⟩]) (l2 := ([(RFunc.mk c14.params c14.result (RExpr.mk 0 0 []))])) go0 ei115 rfl rfl rfl rfl el_s (fun _ => rfl) gl15 rfl ?_
  refine zq tb rfl ?_
  refine ao_str (st' := [⟨0, 37, 2, [(eRImage p0)]⟩, ⟨0, 117, 2, [[.zc, .zc]]⟩, ⟨1, 147, 5, List.map eRFunc l15⟩, ⟨0, 117, 2, [[(.sl (List.map eRDecl p0.decls)), (.own 2 1 (List.length l15))]]⟩]) go0 ti115 rfl rfl rfl rfl rfl rfl (show 1 + 1 ≤ 2 by decide) rfl ?_
  refine dn hK13 rfl ?_
  refine AW.regionO (by rfl) ?_
  iterate 3 refine zq tb rfl ?_
  exact AO.done (xi (Sh.w (i5 + 1), l15) h1 (Wk.rg (L := [(1, (.ptr 0 0 0 0)), (2, (.ptr 1 0 0 0)), (3, (.ptr 3 0 0 0)), (4, (i64 (Sh.w (i5 + 1))))]) (st' := [⟨0, 37, 2, [(eRImage p0)]⟩, ⟨0, 117, 2, [[.zc, .zc]]⟩, ⟨0, 147, 5, List.map eRFunc l15⟩, ⟨0, 117, 2, [[(.sl (List.map eRDecl p0.decls)), (.own 2 0 (List.length l15))]]⟩]) (.raw rfl rfl (.raw rfl rfl (.pure (pure_map fun _ => rfl) (.raw rfl rfl .nil)))) ⟨.rfl, .rfl, .rfl, .rfl, trivial⟩))
 ·intro b12 h1
  exact AW.exit (M8 l6 (Sh.some_eq h1).symm _ (Wk.permk (L := [(2, (.ptr 0 0 0 0)), (3, (.ptr 2 0 0 0))]) (st' := [⟨0, 117, 2, [[.zc, .zc]]⟩, ⟨0, 147, 5, List.map eRFunc l6⟩, ⟨0, 117, 2, [[(.sl (List.map eRDecl p0.decls)), (.own 1 0 (List.length l6))]]⟩]) (st1 := [⟨0, 117, 2, [[.zc, .zc]]⟩, ⟨0, 147, 5, List.map eRFunc l6⟩, ⟨0, 117, 2, [[(.sl (List.map eRDecl p0.decls)), (.own 2 0 (List.length l6))]]⟩]) [1, 2, 3] rfl .nil (by decide) rfl rfl (.raw rfl rfl (.pure (pure_map fun _ => rfl) (.raw rfl rfl .nil))) ⟨.rfl, .rfl, trivial⟩))
theorem spec_inRange_ok {p0 : Int} {p1 : Int} {p2 : Int} {r : Bool} (h0 : spec_inRange p0 p1 p2 = some r) : ACalls Tryz.prog 35 [(i64 p0), (i64 p1), (i64 p2)] [] (fun v st => v = (.bool r) ∧ st = []) := by
 unfold spec_inRange at h0
 refine ACalls.intro Tryz.func35 rfl (by show 3 ≤ 15; decide) ?_
 show AW _ 0 _ (aret _ 0 Tryz.f35 _) ⟨15, _, _⟩
 refine AW.weaken (Wk.to (L := [(0, (i64 p0)), (1, (i64 p1)), (2, (i64 p2))]) ⟨.rfl, .rfl, .rfl, trivial⟩) ?_
 refine sr rfl fun K1 hK1 => ?_
 refine zq tb rfl ?_
 refine dn hK1 rfl ?_
 refine AW.seq fun K2 hK2 => ?_
 obtain ⟨o4, h1, h0⟩ := Sh.bind_some h0
 have M4 : ∀ (t3 : Bool), o4 = t3 → ∀ s, Wk 0 s ⟨15, envL [(6, (.bool t3))], []⟩ → K2 s := by
  intro t3 hq s hw
  subst o4
  try dsimp only at h0
  refine hK2 _ (AW.weaken hw ?_)
  replace h0 := Sh.some_eq h0
  subst r
  exact AW.ret (xr (Wk.to (L := [(6, (.bool t3))]) ⟨.rfl, trivial⟩))
 refine AW.regionO (by rfl) ?_
 iterate 4 refine zq tb rfl ?_
 rcases Sh.ite_some h1 with ⟨b5, h1⟩ | ⟨b5, h1⟩
 ·refine zg tb b5 rfl ?_
  iterate 2 refine zg tb b5 rfl ?_
  refine zt b5 rfl ?_
  refine zq tb rfl ?_
  exact AO.done (M4 (decide (p0 ≤ p2)) (Sh.some_eq h1).symm _ (Wk.tr rfl))
 ·refine zs b5 rfl ?_
  iterate 2 refine zs b5 rfl ?_
  refine zf b5 rfl ?_
  refine zq tb rfl ?_
  exact AO.done (M4 false (Sh.some_eq h1).symm _ (Wk.tr rfl))
theorem spec_allTypes_ok {N : Nat} {p0 : (List RDecl)} {p1 : (List Int)} {r : Bool} (h0 : spec_allTypes N p0 p1 = some r) : ACalls Tryz.prog 85 [(.sl (List.map eRDecl p0)), (.sl (List.map eI p1))] [] (fun v st => v = (.bool r) ∧ st = []) := by
 unfold spec_allTypes at h0
 refine ACalls.intro Tryz.func85 rfl (by show 2 ≤ 20; decide) ?_
 show AW _ 0 _ (aret _ 0 Tryz.f85 _) ⟨20, _, _⟩
 refine AW.weaken (Wk.to (L := [(0, (.sl (List.map eRDecl p0))), (1, (.sl (List.map eI p1)))]) ⟨.rfl, .rfl, trivial⟩) ?_
 refine sr rfl fun K1 hK1 => ?_
 refine zq tb rfl ?_
 refine dn hK1 rfl ?_
 refine AW.seq fun K2 hK2 => ?_
 refine sr rfl fun K3 hK3 => ?_
 refine zq tb rfl ?_
 refine dn hK3 rfl ?_
 obtain ⟨o5, h1, h0⟩ := Sh.cont_some h0
 have M5 : ∀ (_ : Unit), o5 = Sum.inr () → ∀ s, Wk 0 s ⟨20, envL [], []⟩ → K2 s := by
  intro _ hq s hw
  subst o5
  try dsimp only at h0
  refine hK2 _ (AW.weaken hw ?_)
  refine sr rfl fun K6 hK6 => ?_
  refine zq tb rfl ?_
  refine dn hK6 rfl ?_
  replace h0 := Sh.some_eq h0
  subst r
  exact AW.ret (xr (Wk.to (L := [(4, (.bool true))]) ⟨.rfl, trivial⟩))
 refine AW.block (AW.loopF (σ := Int) (fun n v => spec_allTypes_L1 p0 p1 n v = some o5) (fun i4 => ⟨20, envL [(0, (.sl (List.map eRDecl p0))), (1, (.sl (List.map eI p1))), (5, (i64 i4))], []⟩) N 0 h1 (Wk.tr rfl) (fun _ hv => by rw [spec_allTypes_L1] at hv; cases hv) ?_)
 rintro n i4 h1
 try dsimp only at h1 ⊢
 rw [spec_allTypes_L1] at h1
 refine AW.seq fun K7 hK7 => ?_
 refine sr rfl fun K8 hK8 => ?_
 iterate 2 refine zq tb rfl ?_
 refine zl tb rfl rfl ?_
 refine zq tb rfl ?_
 refine dn hK8 rfl ?_
 refine ci h1 rfl ?_ ?_ <;> clear h1
 ·intro b9 h1
  refine AW.skip (hK7 _ ?_)
  refine AW.seq fun K10 hK10 => ?_
  refine AW.block ?_
  refine sr rfl fun K11 hK11 => ?_
  iterate 2 refine zq tb rfl ?_
  obtain ⟨c12, gc12, h1⟩ := Sh.bind_some h1
  refine zx ei26 gc12 rfl rfl rfl ?_
  iterate 2 refine zq tb rfl ?_
  refine zl tb rfl rfl ?_
  obtain ⟨q13, gq13, h1⟩ := Sh.bind_some h1
  refine zc hb35 (spec_inRange_ok gq13) rfl rfl rfl ?_
  refine zq tb rfl ?_
  refine dn hK11 rfl ?_
  refine ci h1 rfl ?_ ?_ <;> clear h1
  ·intro b14 h1
   have b15 : q13 = false := by simpa using b14
   refine sr rfl fun K16 hK16 => ?_
   refine zq tb rfl ?_
   refine dn hK16 rfl ?_
   replace h1 := Sh.some_eq h1
   subst o5
   try dsimp only [id] at h0
   replace h0 := Sh.some_eq h0
   subst r
   exact AW.ret (xr (Wk.to (L := [(4, (.bool false))]) ⟨.rfl, trivial⟩))
  ·intro b14 h1
   have b17 : q13 = true := by simpa using b14
   refine AW.skip (hK10 _ ?_)
   refine AW.regionO (by rfl) ?_
   iterate 3 refine zq tb rfl ?_
   exact AO.done (xi (Sh.w (i4 + 1)) h1 (Wk.tr rfl))
 ·intro b9 h1
  exact AW.exit (M5 () (Sh.some_eq h1).symm _ (Wk.tr rfl))
theorem spec_validDecl_ok {N : Nat} {p0 : (List RDecl)} {p1 : Int} {r : Bool} (h0 : spec_validDecl N p0 p1 = some r) : ACalls Tryz.prog 103 [(.sl (List.map eRDecl p0)), (i64 p1)] [] (fun v st => v = (.bool r) ∧ st = []) := by
 unfold spec_validDecl at h0
 refine ACalls.intro Tryz.func103 rfl (by show 2 ≤ 100; decide) ?_
 show AW _ 0 _ (aret _ 0 Tryz.f103 _) ⟨100, _, _⟩
 refine AW.weaken (Wk.to (L := [(0, (.sl (List.map eRDecl p0))), (1, (i64 p1))]) ⟨.rfl, .rfl, trivial⟩) ?_
 refine sr rfl fun K1 hK1 => ?_
 refine zq tb rfl ?_
 refine dn hK1 rfl ?_
 refine sr rfl fun K2 hK2 => ?_
 iterate 2 refine zq tb rfl ?_
 obtain ⟨c3, gc3, h0⟩ := Sh.bind_some h0
 refine zx ei34 gc3 rfl rfl rfl ?_
 refine zq tb rfl ?_
 refine ao_alloc (m := 0) (st' := [⟨0, 84, 3, [[(i64 0), (i64 0), .zc]]⟩]) go0 zi84 rfl rfl ?_
 refine ao_str (st' := [⟨0, 84, 3, [(eRDecl c3)]⟩]) go0 ti84 rfl rfl rfl rfl rfl rfl (show 0 + 3 ≤ 3 by decide) rfl ?_
 refine dn hK2 rfl ?_
 refine AW.seq fun K4 hK4 => ?_
 refine sr rfl fun K5 hK5 => ?_
 iterate 2 refine zq tb rfl ?_
 refine zl tb rfl rfl ?_
 refine zq tb rfl ?_
 refine dn hK5 rfl ?_
 refine ci h0 rfl ?_ ?_ <;> clear h0
 ·intro b6 h0
  refine AW.seq fun K7 hK7 => ?_
  refine AW.seq fun K8 hK8 => ?_
  obtain ⟨o10, h1, h0⟩ := Sh.bind_some h0
  have M10 : ∀ (t9 : Bool), o10 = t9 → ∀ s, Wk 0 s ⟨100, envL [(0, (.sl (List.map eRDecl p0))), (5, (.ptr 0 0 0 0)), (29, (.bool t9))], [⟨0, 84, 3, [(eRDecl c3)]⟩]⟩ → K8 s := by
   intro t9 hq s hw
   subst o10
   try dsimp only at h0
   refine hK8 _ (AW.weaken hw ?_)
   refine ci h0 rfl ?_ ?_ <;> clear h0
   ·intro b11 h0
    refine sr rfl fun K12 hK12 => ?_
    refine zq tb rfl ?_
    refine dn hK12 rfl ?_
    replace h0 := Sh.some_eq h0
    subst r
    exact AW.ret (xr (Wk.d0 [(4, (.bool false))] rfl))
   ·intro b11 h0
    refine AW.skip (hK7 _ ?_)
    refine AW.seq fun K13 hK13 => ?_
    refine sr rfl fun K14 hK14 => ?_
    refine zq tb rfl ?_
    refine dn hK14 rfl ?_
    obtain ⟨o16, h1, h0⟩ := Sh.cont_some h0
    have M16 : ∀ (_ : Unit), o16 = Sum.inr () → ∀ s, Wk 0 s ⟨100, envL [], []⟩ → K13 s := by
     intro _ hq s hw
     subst o16
     try dsimp only at h0
     refine hK13 _ (AW.weaken hw ?_)
     refine sr rfl fun K17 hK17 => ?_
     refine zq tb rfl ?_
     refine dn hK17 rfl ?_
     replace h0 := Sh.some_eq h0
     subst r
     exact AW.ret (xr (Wk.to (L := [(4, (.bool true))]) ⟨.rfl, trivial⟩))
    refine AW.block (AW.loopF (σ := Int) (fun n v => spec_validDecl_L1 N c3 p0 n v = some o16) (fun i15 => ⟨100, envL [(0, (.sl (List.map eRDecl p0))), (5, (.ptr 0 0 0 0)), (6, (i64 i15))], [⟨0, 84, 3, [(eRDecl c3)]⟩]⟩) N 0 h1 (Wk.tr rfl) (fun _ hv => by rw [spec_validDecl_L1] at hv; cases hv) ?_)
    rintro n i15 h1
    try dsimp only at h1 ⊢
    rw [spec_validDecl_L1] at h1
    refine AW.seq fun K18 hK18 => ?_
    refine sr rfl fun K19 hK19 => ?_
    iterate 3 refine zq tb rfl ?_
    refine zl tb rfl rfl ?_
    refine zq tb rfl ?_
    refine dn hK19 rfl ?_
    refine ci h1 rfl ?_ ?_ <;> clear h1
    ·intro b20 h1
     refine AW.skip (hK18 _ ?_)
     refine AW.seq fun K21 hK21 => ?_
     refine AW.block ?_
     refine AW.seq fun K22 hK22 => ?_
     obtain ⟨o24, h2, h1⟩ := Sh.bind_some h1
     have M24 : ∀ (t23 : Bool), o24 = t23 → ∀ s, Wk 0 s ⟨100, envL [(0, (.sl (List.map eRDecl p0))), (5, (.ptr 0 0 0 0)), (6, (i64 i15)), (55, (.bool t23))], [⟨0, 84, 3, [(eRDecl c3)]⟩]⟩ → K22 s := by
      intro t23 hq s hw
      subst o24
      try dsimp only at h1
      refine hK22 _ (AW.weaken hw ?_)
      refine ci h1 rfl ?_ ?_ <;> clear h1
      ·intro b25 h1
       refine sr rfl fun K26 hK26 => ?_
       refine zq tb rfl ?_
       refine dn hK26 rfl ?_
       replace h1 := Sh.some_eq h1
       subst o16
       try dsimp only [id] at h0
       replace h0 := Sh.some_eq h0
       subst r
       exact AW.ret (xr (Wk.d0 [(4, (.bool false))] rfl))
      ·intro b25 h1
       refine AW.skip (hK21 _ ?_)
       refine AW.regionO (by rfl) ?_
       iterate 3 refine zq tb rfl ?_
       exact AO.done (xi (Sh.w (i15 + 1)) h1 (Wk.tr rfl))
     refine AW.regionO (by rfl) ?_
     iterate 3 refine zq tb rfl ?_
     obtain ⟨c27, gc27, h2⟩ := Sh.bind_some h2
     refine zx ei82 gc27 rfl rfl rfl ?_
     iterate 2 refine zq tb rfl ?_
     refine zl tb rfl rfl ?_
     iterate 2 refine zq tb rfl ?_
     rcases Sh.ite_some h2 with ⟨b28, h2⟩ | ⟨b28, h2⟩
     ·refine zs b28 rfl ?_
      iterate 8 refine zs b28 rfl ?_
      refine zt b28 rfl ?_
      exact AO.done (M24 true (Sh.some_eq h2).symm _ (Wk.tr rfl))
     ·refine zg tb b28 rfl ?_
      iterate 3 refine zg tb b28 rfl ?_
      refine ao_q (v := (.iptr (eRCon c27) 0)) (go1 rfl rfl b28) rfl (aq_ixs ei82 rfl rfl gc27 rfl) ?_
      iterate 2 refine zg tb b28 rfl ?_
      obtain ⟨q29, gq29, h2⟩ := Sh.bind_some h2
      refine zd b28 hb85 (spec_allTypes_ok gq29) rfl rfl rfl rfl ?_
      refine zg tb b28 rfl ?_
      refine zf b28 rfl ?_
      exact AO.done (M24 (!q29) (Sh.some_eq h2).symm _ (Wk.tr rfl))
    ·intro b20 h1
     exact AW.exit (M16 () (Sh.some_eq h1).symm _ (Wk.d0 _ rfl))
  refine AW.regionO (by rfl) ?_
  iterate 2 refine zq tb rfl ?_
  refine zl tb rfl rfl ?_
  iterate 2 refine zq tb rfl ?_
  rcases Sh.ite_some h1 with ⟨b30, h1⟩ | ⟨b30, h1⟩
  ·refine zs b30 rfl ?_
   iterate 2 refine zs b30 rfl ?_
   refine zt b30 rfl ?_
   refine zq tb rfl ?_
   iterate 3 refine zs rfl rfl ?_
   refine zt rfl rfl ?_
   exact AO.done (M10 true (Sh.some_eq h1).symm _ (Wk.tr rfl))
  ·refine zg tb b30 rfl ?_
   iterate 2 refine zg tb b30 rfl ?_
   refine zf b30 rfl ?_
   refine zq tb rfl ?_
   rcases Sh.ite_some h1 with ⟨b31, h1⟩ | ⟨b31, h1⟩
   ·refine zs b31 rfl ?_
    iterate 2 refine zs b31 rfl ?_
    refine zt b31 rfl ?_
    exact AO.done (M10 true (Sh.some_eq h1).symm _ (Wk.tr rfl))
   ·refine zg tb b31 rfl ?_
    iterate 2 refine zg tb b31 rfl ?_
    refine zf b31 rfl ?_
    exact AO.done (M10 (!decide (c3.to = 0)) (Sh.some_eq h1).symm _ (Wk.tr rfl))
 ·intro b6 h0
  refine AW.skip (hK4 _ ?_)
  refine AW.seq fun K32 hK32 => ?_
  refine sr rfl fun K33 hK33 => ?_
  refine zq tb rfl ?_
  refine dn hK33 rfl ?_
  obtain ⟨o35, h1, h0⟩ := Sh.cont_some h0
  have M35 : ∀ (_ : Unit), o35 = Sum.inr () → ∀ s, Wk 0 s ⟨100, envL [(0, (.sl (List.map eRDecl p0))), (5, (.ptr 0 0 0 0))], [⟨0, 84, 3, [(eRDecl c3)]⟩]⟩ → K32 s := by
   intro _ hq s hw
   subst o35
   try dsimp only at h0
   refine hK32 _ (AW.weaken hw ?_)
   refine AW.seq fun K36 hK36 => ?_
   obtain ⟨o38, h1, h0⟩ := Sh.bind_some h0
   have M38 : ∀ (t37 : Bool), o38 = t37 → ∀ s, Wk 0 s ⟨100, envL [(4, (.bool t37))], []⟩ → K36 s := by
    intro t37 hq s hw
    subst o38
    try dsimp only at h0
    refine hK36 _ (AW.weaken hw ?_)
    replace h0 := Sh.some_eq h0
    subst r
    exact AW.ret (xr (Wk.to (L := [(4, (.bool t37))]) ⟨.rfl, trivial⟩))
   refine AW.regionO (by rfl) ?_
   iterate 3 refine zq tb rfl ?_
   refine zl tb rfl rfl ?_
   obtain ⟨q39, gq39, h1⟩ := Sh.bind_some h1
   refine zc hb35 (spec_inRange_ok gq39) rfl rfl rfl ?_
   refine zq tb rfl ?_
   rcases Sh.ite_some h1 with ⟨b40, h1⟩ | ⟨b40, h1⟩
   ·refine zg tb b40 rfl ?_
    iterate 2 refine zg tb b40 rfl ?_
    refine ao_q (v := (i64 (Sh.len p0))) (go1 rfl rfl b40) rfl (aq_lens sl34 rfl) ?_
    obtain ⟨q41, gq41, h1⟩ := Sh.bind_some h1
    refine zd b40 hb35 (spec_inRange_ok gq41) rfl rfl rfl rfl ?_
    refine zt b40 rfl ?_
    refine zq tb rfl ?_
    exact AO.done (M38 q41 (Sh.some_eq h1).symm _ (Wk.d0 _ rfl))
   ·refine zs b40 rfl ?_
    iterate 4 refine zs b40 rfl ?_
    refine zf b40 rfl ?_
    refine zq tb rfl ?_
    exact AO.done (M38 false (Sh.some_eq h1).symm _ (Wk.d0 _ rfl))
  refine AW.block (AW.loopF (σ := Int) (fun n v => spec_validDecl_L2 c3 p0 p1 n v = some o35) (fun i34 => ⟨100, envL [(0, (.sl (List.map eRDecl p0))), (1, (i64 p1)), (5, (.ptr 0 0 0 0)), (7, (i64 i34))], [⟨0, 84, 3, [(eRDecl c3)]⟩]⟩) N 0 h1 (Wk.tr rfl) (fun _ hv => by rw [spec_validDecl_L2] at hv; cases hv) ?_)
  rintro n i34 h1
  try dsimp only at h1 ⊢
  rw [spec_validDecl_L2] at h1
  refine AW.seq fun K42 hK42 => ?_
  refine sr rfl fun K43 hK43 => ?_
  iterate 3 refine zq tb rfl ?_
  refine dn hK43 rfl ?_
  refine ci h1 rfl ?_ ?_ <;> clear h1
  ·intro b44 h1
   refine AW.skip (hK42 _ ?_)
   refine AW.seq fun K45 hK45 => ?_
   refine AW.block ?_
   refine AW.seq fun K46 hK46 => ?_
   obtain ⟨o48, h2, h1⟩ := Sh.bind_some h1
   have M48 : ∀ (t47 : Bool), o48 = t47 → ∀ s, Wk 0 s ⟨100, envL [(0, (.sl (List.map eRDecl p0))), (1, (i64 p1)), (5, (.ptr 0 0 0 0)), (7, (i64 i34)), (87, (.bool t47))], [⟨0, 84, 3, [(eRDecl c3)]⟩]⟩ → K46 s := by
    intro t47 hq s hw
    subst o48
    try dsimp only at h1
    refine hK46 _ (AW.weaken hw ?_)
    refine ci h1 rfl ?_ ?_ <;> clear h1
    ·intro b49 h1
     refine sr rfl fun K50 hK50 => ?_
     refine zq tb rfl ?_
     refine dn hK50 rfl ?_
     replace h1 := Sh.some_eq h1
     subst o35
     try dsimp only [id] at h0
     replace h0 := Sh.some_eq h0
     subst r
     exact AW.ret (xr (Wk.d0 [(4, (.bool false))] rfl))
    ·intro b49 h1
     refine AW.skip (hK45 _ ?_)
     refine AW.regionO (by rfl) ?_
     iterate 3 refine zq tb rfl ?_
     exact AO.done (xi (Sh.w (i34 + 1)) h1 (Wk.tr rfl))
   refine AW.draw (by kernel_rfl) (by kernel_rfl) (by rfl) ?_
   iterate 2 refine yq tb rfl ?_
   obtain ⟨c51, gc51, h2⟩ := Sh.bind_some h2
   refine yx ei34 gc51 rfl rfl rfl ?_
   iterate 2 refine yq tb rfl ?_
   refine yl tb rfl rfl ?_
   iterate 2 refine yq tb rfl ?_
   rcases Sh.ite_some h2 with ⟨b52, h2⟩ | ⟨b52, h2⟩
   ·refine yg tb b52 rfl ?_
    refine yg tb b52 rfl ?_
    refine d_q (v := (.iptr (eRDecl c51) 0)) (go1 rfl rfl b52) rfl (aq_ixs ei34 rfl rfl gc51 rfl) ?_
    iterate 5 refine yg tb b52 rfl ?_
    refine yt b52 rfl ?_
    refine yq tb rfl ?_
    rcases Sh.ite_some h2 with ⟨b53, h2⟩ | ⟨b53, h2⟩
    ·refine yg tb b53 rfl ?_
     refine yg tb b53 rfl ?_
     refine d_q (v := (.iptr (eRDecl c51) 0)) (go1 rfl rfl b53) rfl (aq_ixs ei34 rfl rfl gc51 rfl) ?_
     iterate 5 refine yg tb b53 rfl ?_
     refine yt b53 rfl ?_
     exact d_done (M48 (decide (c51.to = c3.to)) (Sh.some_eq h2).symm _ (Wk.tr rfl))
    ·refine ys b53 rfl ?_
     iterate 7 refine ys b53 rfl ?_
     refine yf b53 rfl ?_
     exact d_done (M48 false (Sh.some_eq h2).symm _ (Wk.tr rfl))
   ·refine ys b52 rfl ?_
    iterate 7 refine ys b52 rfl ?_
    refine yf b52 rfl ?_
    refine yq tb rfl ?_
    iterate 8 refine ys rfl rfl ?_
    refine yf rfl rfl ?_
    exact d_done (M48 false (Sh.some_eq h2).symm _ (Wk.tr rfl))
  ·intro b44 h1
   exact AW.exit (M35 () (Sh.some_eq h1).symm _ (Wk.tr rfl))
theorem spec_validTypes_ok {N : Nat} {p0 : (List RDecl)} {r : Bool} (h0 : spec_validTypes N p0 = some r) : ACalls Tryz.prog 84 [(.sl (List.map eRDecl p0))] [] (fun v st => v = (.bool r) ∧ st = []) := by
 unfold spec_validTypes at h0
 refine ACalls.intro Tryz.func84 rfl (by show 1 ≤ 17; decide) ?_
 show AW _ 0 _ (aret _ 0 Tryz.f84 _) ⟨17, _, _⟩
 refine AW.weaken (Wk.to (L := [(0, (.sl (List.map eRDecl p0)))]) ⟨.rfl, trivial⟩) ?_
 refine sr rfl fun K1 hK1 => ?_
 refine zq tb rfl ?_
 refine dn hK1 rfl ?_
 refine AW.seq fun K2 hK2 => ?_
 refine sr rfl fun K3 hK3 => ?_
 refine zq tb rfl ?_
 refine zl tb rfl rfl ?_
 refine zq tb rfl ?_
 refine dn hK3 rfl ?_
 refine ci h0 rfl ?_ ?_ <;> clear h0
 ·intro b4 h0
  refine sr rfl fun K5 hK5 => ?_
  refine zq tb rfl ?_
  refine dn hK5 rfl ?_
  replace h0 := Sh.some_eq h0
  subst r
  exact AW.ret (xr (Wk.to (L := [(2, (.bool false))]) ⟨.rfl, trivial⟩))
 ·intro b4 h0
  refine AW.skip (hK2 _ ?_)
  refine AW.seq fun K6 hK6 => ?_
  refine sr rfl fun K7 hK7 => ?_
  refine zq tb rfl ?_
  refine dn hK7 rfl ?_
  obtain ⟨o9, h1, h0⟩ := Sh.cont_some h0
  have M9 : ∀ (_ : Unit), o9 = Sum.inr () → ∀ s, Wk 0 s ⟨17, envL [], []⟩ → K6 s := by
   intro _ hq s hw
   subst o9
   try dsimp only at h0
   refine hK6 _ (AW.weaken hw ?_)
   refine sr rfl fun K10 hK10 => ?_
   refine zq tb rfl ?_
   refine dn hK10 rfl ?_
   replace h0 := Sh.some_eq h0
   subst r
   exact AW.ret (xr (Wk.to (L := [(2, (.bool true))]) ⟨.rfl, trivial⟩))
  refine AW.block (AW.loopF (σ := Int) (fun n v => spec_validTypes_L1 N p0 n v = some o9) (fun i8 => ⟨17, envL [(0, (.sl (List.map eRDecl p0))), (3, (i64 i8))], []⟩) N 0 h1 (Wk.tr rfl) (fun _ hv => by rw [spec_validTypes_L1] at hv; cases hv) ?_)
  rintro n i8 h1
  try dsimp only at h1 ⊢
  rw [spec_validTypes_L1] at h1
  refine AW.seq fun K11 hK11 => ?_
  refine sr rfl fun K12 hK12 => ?_
  iterate 2 refine zq tb rfl ?_
  refine zl tb rfl rfl ?_
  refine zq tb rfl ?_
  refine dn hK12 rfl ?_
  refine ci h1 rfl ?_ ?_ <;> clear h1
  ·intro b13 h1
   refine AW.skip (hK11 _ ?_)
   refine AW.seq fun K14 hK14 => ?_
   refine AW.block ?_
   refine sr rfl fun K15 hK15 => ?_
   iterate 2 refine zq tb rfl ?_
   obtain ⟨q16, gq16, h1⟩ := Sh.bind_some h1
   refine zc hb103 (spec_validDecl_ok gq16) rfl rfl rfl ?_
   refine zq tb rfl ?_
   refine dn hK15 rfl ?_
   refine ci h1 rfl ?_ ?_ <;> clear h1
   ·intro b17 h1
    have b18 : q16 = false := by simpa using b17
    refine sr rfl fun K19 hK19 => ?_
    refine zq tb rfl ?_
    refine dn hK19 rfl ?_
    replace h1 := Sh.some_eq h1
    subst o9
    try dsimp only [id] at h0
    replace h0 := Sh.some_eq h0
    subst r
    exact AW.ret (xr (Wk.to (L := [(2, (.bool false))]) ⟨.rfl, trivial⟩))
   ·intro b17 h1
    have b20 : q16 = true := by simpa using b17
    refine AW.skip (hK14 _ ?_)
    refine AW.regionO (by rfl) ?_
    iterate 3 refine zq tb rfl ?_
    exact AO.done (xi (Sh.w (i8 + 1)) h1 (Wk.tr rfl))
  ·intro b13 h1
   exact AW.exit (M9 () (Sh.some_eq h1).symm _ (Wk.tr rfl))
theorem spec_validSigs_ok {N : Nat} {p0 : RProgram} {r : Bool} (h0 : spec_validSigs N p0 = some r) : ACalls Tryz.prog 59 [(.agg [(.sl (List.map eRDecl p0.decls)), (.sl (List.map eRFunc p0.funcs))])] [] (fun v st => v = (.bool r) ∧ st = []) := by
 unfold spec_validSigs at h0
 refine ACalls.intro Tryz.func59 rfl (by show 1 ≤ 64; decide) ?_
 show AW _ 0 _ (aret _ 0 Tryz.f59 _) ⟨64, _, _⟩
 refine AW.weaken (Wk.to (L := [(0, (.agg [(.sl (List.map eRDecl p0.decls)), (.sl (List.map eRFunc p0.funcs))]))]) ⟨.rfl, trivial⟩) ?_
 refine sr rfl fun K1 hK1 => ?_
 refine ao_box (m := 0) (st' := [⟨0, 117, 2, [[(.sl (List.map eRDecl p0.decls)), (.sl (List.map eRFunc p0.funcs))]]⟩]) go0 rfl rfl rfl rfl rfl ?_
 refine zq tb rfl ?_
 refine dn hK1 rfl ?_
 refine AW.seq fun K2 hK2 => ?_
 refine AW.seq fun K3 hK3 => ?_
 obtain ⟨o5, h1, h0⟩ := Sh.bind_some h0
 have M5 : ∀ (t4 : Bool), o5 = t4 → ∀ s, Wk 0 s ⟨64, envL [(1, (.ptr 0 0 0 0)), (15, (.bool t4))], [⟨0, 117, 2, [[(.sl (List.map eRDecl p0.decls)), (.sl (List.map eRFunc p0.funcs))]]⟩]⟩ → K3 s := by
  intro t4 hq s hw
  subst o5
  try dsimp only at h0
  refine hK3 _ (AW.weaken hw ?_)
  refine ci h0 rfl ?_ ?_ <;> clear h0
  ·intro b6 h0
   refine sr rfl fun K7 hK7 => ?_
   refine zq tb rfl ?_
   refine dn hK7 rfl ?_
   replace h0 := Sh.some_eq h0
   subst r
   exact AW.ret (xr (Wk.d0 [(2, (.bool false))] rfl))
  ·intro b6 h0
   refine AW.skip (hK2 _ ?_)
   refine AW.seq fun K8 hK8 => ?_
   refine sr rfl fun K9 hK9 => ?_
   refine zq tb rfl ?_
   refine dn hK9 rfl ?_
   obtain ⟨o11, h1, h0⟩ := Sh.cont_some h0
   have M11 : ∀ (_ : Unit), o11 = Sum.inr () → ∀ s, Wk 0 s ⟨64, envL [(1, (.ptr 0 0 0 0))], [⟨0, 117, 2, [[(.sl (List.map eRDecl p0.decls)), (.sl (List.map eRFunc p0.funcs))]]⟩]⟩ → K8 s := by
    intro _ hq s hw
    subst o11
    try dsimp only at h0
    refine hK8 _ (AW.weaken hw ?_)
    refine AW.seq fun K12 hK12 => ?_
    obtain ⟨o14, h1, h0⟩ := Sh.bind_some h0
    have M14 : ∀ (t13 : Bool), o14 = t13 → ∀ s, Wk 0 s ⟨64, envL [(2, (.bool t13))], []⟩ → K12 s := by
     intro t13 hq s hw
     subst o14
     try dsimp only at h0
     refine hK12 _ (AW.weaken hw ?_)
     replace h0 := Sh.some_eq h0
     subst r
     exact AW.ret (xr (Wk.to (L := [(2, (.bool t13))]) ⟨.rfl, trivial⟩))
    refine AW.regionO (by rfl) ?_
    iterate 2 refine zq tb rfl ?_
    obtain ⟨c15, gc15, h1⟩ := Sh.bind_some h1
    refine zx ei115 gc15 rfl rfl rfl ?_
    iterate 2 refine zq tb rfl ?_
    refine zl tb rfl rfl ?_
    iterate 2 refine zq tb rfl ?_
    rcases Sh.ite_some h1 with ⟨b16, h1⟩ | ⟨b16, h1⟩
    ·refine zg tb b16 rfl ?_
     refine zg tb b16 rfl ?_
     refine ao_q (v := (.iptr (eRFunc c15) 0)) (go1 rfl rfl b16) rfl (aq_ixs ei115 rfl rfl gc15 rfl) ?_
     iterate 3 refine zg tb b16 rfl ?_
     refine zt b16 rfl ?_
     refine zq tb rfl ?_
     exact AO.done (M14 (decide (c15.result = 0)) (Sh.some_eq h1).symm _ (Wk.d0 _ rfl))
    ·refine zs b16 rfl ?_
     iterate 5 refine zs b16 rfl ?_
     refine zf b16 rfl ?_
     refine zq tb rfl ?_
     exact AO.done (M14 false (Sh.some_eq h1).symm _ (Wk.d0 _ rfl))
   refine AW.block (AW.loopF (σ := Int) (fun n v => spec_validSigs_L1 N p0 n v = some o11) (fun i10 => ⟨64, envL [(1, (.ptr 0 0 0 0)), (3, (i64 i10))], [⟨0, 117, 2, [[(.sl (List.map eRDecl p0.decls)), (.sl (List.map eRFunc p0.funcs))]]⟩]⟩) N 0 h1 (Wk.tr rfl) (fun _ hv => by rw [spec_validSigs_L1] at hv; cases hv) ?_)
   rintro n i10 h1
   try dsimp only at h1 ⊢
   rw [spec_validSigs_L1] at h1
   refine AW.seq fun K17 hK17 => ?_
   refine sr rfl fun K18 hK18 => ?_
   iterate 3 refine zq tb rfl ?_
   refine zl tb rfl rfl ?_
   refine zq tb rfl ?_
   refine dn hK18 rfl ?_
   refine ci h1 rfl ?_ ?_ <;> clear h1
   ·intro b19 h1
    refine AW.skip (hK17 _ ?_)
    refine AW.seq fun K20 hK20 => ?_
    refine AW.block ?_
    refine sr rfl fun K21 hK21 => ?_
    iterate 3 refine zq tb rfl ?_
    obtain ⟨c22, gc22, h1⟩ := Sh.bind_some h1
    refine zx ei115 gc22 rfl rfl rfl ?_
    refine zq tb rfl ?_
    refine ao_alloc (m := 1) (st' := [⟨0, 117, 2, [[(.sl (List.map eRDecl p0.decls)), (.sl (List.map eRFunc p0.funcs))]]⟩, ⟨0, 147, 5, [[.zc, (i64 0), (i64 0), (i64 0), .zc]]⟩]) go0 zi147 rfl rfl ?_
    refine ao_str (st' := [⟨0, 117, 2, [[(.sl (List.map eRDecl p0.decls)), (.sl (List.map eRFunc p0.funcs))]]⟩, ⟨0, 147, 5, [[(.sl (List.map eI c22.params)), (i64 c22.result), (i64 c22.body.op), (i64 c22.body.num), (.sl (List.map eRExpr c22.body.kids))]]⟩]) go0 ti147 rfl rfl rfl rfl rfl rfl (show 0 + 5 ≤ 5 by decide) rfl ?_
    refine dn hK21 rfl ?_
    refine AW.seq fun K23 hK23 => ?_
    obtain ⟨o25, h2, h1⟩ := Sh.bind_some h1
    have M25 : ∀ (t24 : Bool), o25 = t24 → ∀ s, Wk 0 s ⟨64, envL [(1, (.ptr 0 0 0 0)), (3, (i64 i10)), (48, (.bool t24))], [⟨0, 117, 2, [[(.sl (List.map eRDecl p0.decls)), (.sl (List.map eRFunc p0.funcs))]]⟩]⟩ → K23 s := by
     intro t24 hq s hw
     subst o25
     try dsimp only at h1
     refine hK23 _ (AW.weaken hw ?_)
     refine ci h1 rfl ?_ ?_ <;> clear h1
     ·intro b26 h1
      refine sr rfl fun K27 hK27 => ?_
      refine zq tb rfl ?_
      refine dn hK27 rfl ?_
      replace h1 := Sh.some_eq h1
      subst o11
      try dsimp only [id] at h0
      replace h0 := Sh.some_eq h0
      subst r
      exact AW.ret (xr (Wk.d0 [(2, (.bool false))] rfl))
     ·intro b26 h1
      refine AW.skip (hK20 _ ?_)
      refine AW.regionO (by rfl) ?_
      iterate 3 refine zq tb rfl ?_
      exact AO.done (xi (Sh.w (i10 + 1)) h1 (Wk.tr rfl))
    refine AW.regionO (by rfl) ?_
    iterate 2 refine zq tb rfl ?_
    refine zl tb rfl rfl ?_
    iterate 2 refine zq tb rfl ?_
    rcases Sh.ite_some h2 with ⟨b28, h2⟩ | ⟨b28, h2⟩
    ·refine zs b28 rfl ?_
     iterate 5 refine zs b28 rfl ?_
     refine zt b28 rfl ?_
     refine zq tb rfl ?_
     iterate 7 refine zs rfl rfl ?_
     refine zt rfl rfl ?_
     exact AO.done (M25 true (Sh.some_eq h2).symm _ (Wk.permk (L := [(1, (.ptr 0 0 0 0)), (3, (i64 i10)), (48, (.bool true))]) (st' := [⟨0, 117, 2, [[(.sl (List.map eRDecl p0.decls)), (.sl (List.map eRFunc p0.funcs))]]⟩]) (st1 := [⟨0, 117, 2, [[(.sl (List.map eRDecl p0.decls)), (.sl (List.map eRFunc p0.funcs))]]⟩]) [0] rfl .nil (by decide) rfl rfl (.raw rfl rfl .nil) ⟨.rfl, .rfl, .rfl, trivial⟩))
    ·refine zg tb b28 rfl ?_
     iterate 3 refine zg tb b28 rfl ?_
     obtain ⟨q29, gq29, h2⟩ := Sh.bind_some h2
     refine zd b28 hb85 (spec_allTypes_ok gq29) rfl rfl rfl rfl ?_
     refine zg tb b28 rfl ?_
     refine zf b28 rfl ?_
     refine zq tb rfl ?_
     rcases Sh.ite_some h2 with ⟨b30, h2⟩ | ⟨b30, h2⟩
     ·refine zs b30 rfl ?_
      iterate 6 refine zs b30 rfl ?_
      refine zt b30 rfl ?_
      exact AO.done (M25 true (Sh.some_eq h2).symm _ (Wk.permk (L := [(1, (.ptr 0 0 0 0)), (3, (i64 i10)), (48, (.bool true))]) (st' := [⟨0, 117, 2, [[(.sl (List.map eRDecl p0.decls)), (.sl (List.map eRFunc p0.funcs))]]⟩]) (st1 := [⟨0, 117, 2, [[(.sl (List.map eRDecl p0.decls)), (.sl (List.map eRFunc p0.funcs))]]⟩]) [0] rfl .nil (by decide) rfl rfl (.raw rfl rfl .nil) ⟨.rfl, .rfl, .rfl, trivial⟩))
     ·refine zg tb b30 rfl ?_
      iterate 3 refine zg tb b30 rfl ?_
      refine ao_q (v := (i64 (Sh.len p0.decls))) (go1 rfl rfl b30) rfl (aq_lens sl34 rfl) ?_
      obtain ⟨q31, gq31, h2⟩ := Sh.bind_some h2
      refine zd b30 hb35 (spec_inRange_ok gq31) rfl rfl rfl rfl ?_
      refine zg tb b30 rfl ?_
      refine zf b30 rfl ?_
      exact AO.done (M25 (!q31) (Sh.some_eq h2).symm _ (Wk.permk (L := [(1, (.ptr 0 0 0 0)), (3, (i64 i10)), (48, (.bool (!q31)))]) (st' := [⟨0, 117, 2, [[(.sl (List.map eRDecl p0.decls)), (.sl (List.map eRFunc p0.funcs))]]⟩]) (st1 := [⟨0, 117, 2, [[(.sl (List.map eRDecl p0.decls)), (.sl (List.map eRFunc p0.funcs))]]⟩]) [0] rfl .nil (by decide) rfl rfl (.raw rfl rfl .nil) ⟨.rfl, .rfl, .rfl, trivial⟩))
   ·intro b19 h1
    exact AW.exit (M11 () (Sh.some_eq h1).symm _ (Wk.tr rfl))
 refine AW.regionO (by rfl) ?_
 iterate 2 refine zq tb rfl ?_
 obtain ⟨q32, gq32, h1⟩ := Sh.bind_some h1
 refine zc hb84 (spec_validTypes_ok gq32) rfl rfl rfl ?_
 iterate 2 refine zq tb rfl ?_
 rcases Sh.ite_some h1 with ⟨b33, h1⟩ | ⟨b33, h1⟩
 ·refine zs b33 rfl ?_
  iterate 4 refine zs b33 rfl ?_
  refine zt b33 rfl ?_
  exact AO.done (M5 true (Sh.some_eq h1).symm _ (Wk.tr rfl))
 ·refine zg tb b33 rfl ?_
  refine zg tb b33 rfl ?_
  refine ao_q (v := (i64 (Sh.len p0.funcs))) (go1 rfl rfl b33) rfl (aq_lens sl115 rfl) ?_
  obtain ⟨q34, gq34, h1⟩ := Sh.bind_some h1
  refine zd b33 hb35 (spec_inRange_ok gq34) rfl rfl rfl rfl ?_
  refine zg tb b33 rfl ?_
  refine zf b33 rfl ?_
  exact AO.done (M5 (!q34) (Sh.some_eq h1).symm _ (Wk.tr rfl))
theorem spec_validLent_ok {N : Nat} {p0 : (List Int)} {p1 : (List Int)} {r : Bool} (h0 : spec_validLent N p0 p1 = some r) : ACalls Tryz.prog 86 [(.sl (List.map eI p0)), (.sl (List.map eI p1))] [] (fun v st => v = (.bool r) ∧ st = []) := by
 unfold spec_validLent at h0
 refine ACalls.intro Tryz.func86 rfl (by show 2 ≤ 47; decide) ?_
 show AW _ 0 _ (aret _ 0 Tryz.f86 _) ⟨47, _, _⟩
 refine AW.weaken (Wk.to (L := [(0, (.sl (List.map eI p0))), (1, (.sl (List.map eI p1)))]) ⟨.rfl, .rfl, trivial⟩) ?_
 refine sr rfl fun K1 hK1 => ?_
 refine zq tb rfl ?_
 refine dn hK1 rfl ?_
 refine AW.seq fun K2 hK2 => ?_
 refine sr rfl fun K3 hK3 => ?_
 refine zq tb rfl ?_
 refine dn hK3 rfl ?_
 obtain ⟨o5, h1, h0⟩ := Sh.cont_some h0
 have M5 : ∀ (_ : Unit), o5 = Sum.inr () → ∀ s, Wk 0 s ⟨47, envL [], []⟩ → K2 s := by
  intro _ hq s hw
  subst o5
  try dsimp only at h0
  refine hK2 _ (AW.weaken hw ?_)
  refine sr rfl fun K6 hK6 => ?_
  refine zq tb rfl ?_
  refine dn hK6 rfl ?_
  replace h0 := Sh.some_eq h0
  subst r
  exact AW.ret (xr (Wk.to (L := [(4, (.bool true))]) ⟨.rfl, trivial⟩))
 refine AW.block (AW.loopF (σ := Int) (fun n v => spec_validLent_L1 p0 p1 n v = some o5) (fun i4 => ⟨47, envL [(0, (.sl (List.map eI p0))), (1, (.sl (List.map eI p1))), (5, (i64 i4))], []⟩) N 0 h1 (Wk.tr rfl) (fun _ hv => by rw [spec_validLent_L1] at hv; cases hv) ?_)
 rintro n i4 h1
 try dsimp only at h1 ⊢
 rw [spec_validLent_L1] at h1
 refine AW.seq fun K7 hK7 => ?_
 refine sr rfl fun K8 hK8 => ?_
 iterate 2 refine zq tb rfl ?_
 refine zl tb rfl rfl ?_
 refine zq tb rfl ?_
 refine dn hK8 rfl ?_
 refine ci h1 rfl ?_ ?_ <;> clear h1
 ·intro b9 h1
  refine AW.skip (hK7 _ ?_)
  refine AW.seq fun K10 hK10 => ?_
  refine AW.block ?_
  refine AW.seq fun K11 hK11 => ?_
  obtain ⟨o13, h2, h1⟩ := Sh.bind_some h1
  have M13 : ∀ (t12 : Bool), o13 = t12 → ∀ s, Wk 0 s ⟨47, envL [(0, (.sl (List.map eI p0))), (1, (.sl (List.map eI p1))), (5, (i64 i4)), (46, (.bool t12))], []⟩ → K11 s := by
   intro t12 hq s hw
   subst o13
   try dsimp only at h1
   refine hK11 _ (AW.weaken hw ?_)
   refine ci h1 rfl ?_ ?_ <;> clear h1
   ·intro b14 h1
    refine sr rfl fun K15 hK15 => ?_
    refine zq tb rfl ?_
    refine dn hK15 rfl ?_
    replace h1 := Sh.some_eq h1
    subst o5
    try dsimp only [id] at h0
    replace h0 := Sh.some_eq h0
    subst r
    exact AW.ret (xr (Wk.to (L := [(4, (.bool false))]) ⟨.rfl, trivial⟩))
   ·intro b14 h1
    refine AW.skip (hK10 _ ?_)
    refine AW.regionO (by rfl) ?_
    iterate 3 refine zq tb rfl ?_
    exact AO.done (xi (Sh.w (i4 + 1)) h1 (Wk.tr rfl))
  refine AW.draw (by kernel_rfl) (by kernel_rfl) (by rfl) ?_
  iterate 2 refine yq tb rfl ?_
  obtain ⟨c16, gc16, h2⟩ := Sh.bind_some h2
  refine yx ei26 gc16 rfl rfl rfl ?_
  iterate 2 refine yq tb rfl ?_
  refine yl tb rfl rfl ?_
  refine yq tb rfl ?_
  obtain ⟨q17, gq17, h2⟩ := Sh.bind_some h2
  refine d_call (v := (.bool q17)) go0 hb35 (spec_inRange_ok gq17) rfl rfl rfl ?_
  iterate 2 refine yq tb rfl ?_
  rcases Sh.ite_some h2 with ⟨b18, h2⟩ | ⟨b18, h2⟩
  ·refine ys b18 rfl ?_
   iterate 7 refine ys b18 rfl ?_
   refine yt b18 rfl ?_
   refine yq tb rfl ?_
   iterate 3 refine ys rfl rfl ?_
   iterate 10 refine yn rfl ?_
   refine ys rfl rfl ?_
   refine yt rfl rfl ?_
   exact d_done (M13 true (Sh.some_eq h2).symm _ (Wk.tr rfl))
  ·refine yg tb b18 rfl ?_
   iterate 2 refine yg tb b18 rfl ?_
   refine d_q (v := (.iptr (eI c16) 0)) (go1 rfl rfl b18) rfl (aq_ixs ei26 rfl rfl gc16 rfl) ?_
   refine yg tb b18 rfl ?_
   obtain ⟨c19, gc19, h2⟩ := Sh.bind_some h2
   refine d_q (v := (.iptr (eI c19) 0)) (go1 rfl rfl b18) rfl (aq_ixs ei26 rfl rfl gc19 rfl) ?_
   iterate 2 refine yg tb b18 rfl ?_
   refine yf b18 rfl ?_
   refine yq tb rfl ?_
   rcases Sh.ite_some h2 with ⟨b20, h2⟩ | ⟨b20, h2⟩
   ·refine ys b20 rfl ?_
    iterate 2 refine ys b20 rfl ?_
    iterate 10 refine yn rfl ?_
    refine ys b20 rfl ?_
    refine yt b20 rfl ?_
    exact d_done (M13 true (Sh.some_eq h2).symm _ (Wk.tr rfl))
   ·refine yg tb b20 rfl ?_
    iterate 2 refine yg tb b20 rfl ?_
    rcases Sh.ite_some h2 with ⟨b21, h2⟩ | ⟨b21, h2⟩
    ·refine yg tb b21 rfl ?_
     refine yg tb b21 rfl ?_
     refine d_q (v := (.iptr (eI c16) 0)) (go1 rfl rfl b21) rfl (aq_ixs ei26 rfl rfl gc16 rfl) ?_
     iterate 4 refine yg tb b21 rfl ?_
     obtain ⟨c22, gc22, h2⟩ := Sh.bind_some h2
     refine d_q (v := (.iptr (eI c22) 0)) (go1 rfl rfl b21) rfl (aq_ixs ei26 rfl rfl gc22 rfl) ?_
     iterate 2 refine yg tb b21 rfl ?_
     refine d_q (v := (.bool (decide (c16 ≤ c22)))) (go1 rfl rfl b20) rfl (aq_pkt rfl b21 rfl) ?_
     refine yf b20 rfl ?_
     exact d_done (M13 (decide (c16 ≤ c22)) (Sh.some_eq h2).symm _ (Wk.tr rfl))
    ·refine ys b21 rfl ?_
     iterate 9 refine ys b21 rfl ?_
     refine d_q (v := (.bool false)) (go1 rfl rfl b20) rfl (aq_pkf rfl b21 rfl) ?_
     refine yf b20 rfl ?_
     exact d_done (M13 false (Sh.some_eq h2).symm _ (Wk.tr rfl))
 ·intro b9 h1
  exact AW.exit (M5 () (Sh.some_eq h1).symm _ (Wk.tr rfl))
theorem spec_defines_ok {p0 : Int} {r : Bool} (h0 : spec_defines p0 = some r) : ACalls Tryz.prog 111 [(i64 p0)] [] (fun v st => v = (.bool r) ∧ st = []) := by
 unfold spec_defines at h0
 refine ACalls.intro Tryz.func111 rfl (by show 1 ≤ 5; decide) ?_
 show AW _ 0 _ (aret _ 0 Tryz.f111 _) ⟨5, _, _⟩
 refine AW.weaken (Wk.to (L := [(0, (i64 p0))]) ⟨.rfl, trivial⟩) ?_
 refine sr rfl fun K1 hK1 => ?_
 refine zq tb rfl ?_
 refine dn hK1 rfl ?_
 refine sr rfl fun K2 hK2 => ?_
 refine zq tb rfl ?_
 obtain ⟨q3, gq3, h0⟩ := Sh.bind_some h0
 refine zc hb35 (spec_inRange_ok gq3) rfl rfl rfl ?_
 refine zq tb rfl ?_
 refine dn hK2 rfl ?_
 replace h0 := Sh.some_eq h0
 subst r
 exact AW.ret (xr (Wk.to (L := [(2, (.bool q3))]) ⟨.rfl, trivial⟩))
theorem spec_sets_ok {p0 : Int} {r : Bool} (h0 : spec_sets p0 = some r) : ACalls Tryz.prog 104 [(i64 p0)] [] (fun v st => v = (.bool r) ∧ st = []) := by
 unfold spec_sets at h0
 refine ACalls.intro Tryz.func104 rfl (by show 1 ≤ 21; decide) ?_
 show AW _ 0 _ (aret _ 0 Tryz.f104 _) ⟨21, _, _⟩
 refine AW.weaken (Wk.to (L := [(0, (i64 p0))]) ⟨.rfl, trivial⟩) ?_
 refine sr rfl fun K1 hK1 => ?_
 refine zq tb rfl ?_
 refine dn hK1 rfl ?_
 refine AW.seq fun K2 hK2 => ?_
 obtain ⟨o4, h1, h0⟩ := Sh.bind_some h0
 have M4 : ∀ (t3 : Bool), o4 = t3 → ∀ s, Wk 0 s ⟨21, envL [(2, (.bool t3))], []⟩ → K2 s := by
  intro t3 hq s hw
  subst o4
  try dsimp only at h0
  refine hK2 _ (AW.weaken hw ?_)
  replace h0 := Sh.some_eq h0
  subst r
  exact AW.ret (xr (Wk.to (L := [(2, (.bool t3))]) ⟨.rfl, trivial⟩))
 refine AW.regionO (by rfl) ?_
 refine zq tb rfl ?_
 obtain ⟨q5, gq5, h1⟩ := Sh.bind_some h1
 refine zc hb111 (spec_defines_ok gq5) rfl rfl rfl ?_
 refine zq tb rfl ?_
 rcases Sh.ite_some h1 with ⟨b6, h1⟩ | ⟨b6, h1⟩
 ·refine zg tb b6 rfl ?_
  refine zg tb b6 rfl ?_
  refine zt b6 rfl ?_
  refine zq tb rfl ?_
  rcases Sh.ite_some h1 with ⟨b7, h1⟩ | ⟨b7, h1⟩
  ·refine zg tb b7 rfl ?_
   refine zg tb b7 rfl ?_
   refine zt b7 rfl ?_
   refine zq tb rfl ?_
   rcases Sh.ite_some h1 with ⟨b8, h1⟩ | ⟨b8, h1⟩
   ·refine zs b8 rfl ?_
    refine zs b8 rfl ?_
    refine zt b8 rfl ?_
    refine zq tb rfl ?_
    iterate 2 refine zs rfl rfl ?_
    refine zt rfl rfl ?_
    refine zq tb rfl ?_
    exact AO.done (M4 true (Sh.some_eq h1).symm _ (Wk.tr rfl))
   ·refine zg tb b8 rfl ?_
    refine zg tb b8 rfl ?_
    refine zf b8 rfl ?_
    refine zq tb rfl ?_
    rcases Sh.ite_some h1 with ⟨b9, h1⟩ | ⟨b9, h1⟩
    ·refine zs b9 rfl ?_
     refine zs b9 rfl ?_
     refine zt b9 rfl ?_
     refine zq tb rfl ?_
     exact AO.done (M4 true (Sh.some_eq h1).symm _ (Wk.tr rfl))
    ·refine zg tb b9 rfl ?_
     refine zg tb b9 rfl ?_
     refine zf b9 rfl ?_
     refine zq tb rfl ?_
     exact AO.done (M4 (decide (p0 = 19)) (Sh.some_eq h1).symm _ (Wk.tr rfl))
  ·refine zs b7 rfl ?_
   refine zs b7 rfl ?_
   refine zf b7 rfl ?_
   refine zq tb rfl ?_
   iterate 2 refine zg tb rfl rfl ?_
   refine zf rfl rfl ?_
   refine zq tb rfl ?_
   rcases Sh.ite_some h1 with ⟨b10, h1⟩ | ⟨b10, h1⟩
   ·refine zs b10 rfl ?_
    refine zs b10 rfl ?_
    refine zt b10 rfl ?_
    refine zq tb rfl ?_
    exact AO.done (M4 true (Sh.some_eq h1).symm _ (Wk.tr rfl))
   ·refine zg tb b10 rfl ?_
    refine zg tb b10 rfl ?_
    refine zf b10 rfl ?_
    refine zq tb rfl ?_
    exact AO.done (M4 (decide (p0 = 19)) (Sh.some_eq h1).symm _ (Wk.tr rfl))
 ·refine zs b6 rfl ?_
  refine zs b6 rfl ?_
  refine zf b6 rfl ?_
  refine zq tb rfl ?_
  iterate 2 refine zs rfl rfl ?_
  refine zf rfl rfl ?_
  refine zq tb rfl ?_
  iterate 2 refine zg tb rfl rfl ?_
  refine zf rfl rfl ?_
  refine zq tb rfl ?_
  rcases Sh.ite_some h1 with ⟨b11, h1⟩ | ⟨b11, h1⟩
  ·refine zs b11 rfl ?_
   refine zs b11 rfl ?_
   refine zt b11 rfl ?_
   refine zq tb rfl ?_
   exact AO.done (M4 true (Sh.some_eq h1).symm _ (Wk.tr rfl))
  ·refine zg tb b11 rfl ?_
   refine zg tb b11 rfl ?_
   refine zf b11 rfl ?_
   refine zq tb rfl ?_
   exact AO.done (M4 (decide (p0 = 19)) (Sh.some_eq h1).symm _ (Wk.tr rfl))
theorem spec_firstCon_ok {N : Nat} {p0 : (List RDecl)} {p1 : Int} {r : Int} (h0 : spec_firstCon N p0 p1 = some r) : ACalls Tryz.prog 112 [(.sl (List.map eRDecl p0)), (i64 p1)] [] (fun v st => v = (i64 r) ∧ st = []) := by
 unfold spec_firstCon at h0
 refine ACalls.intro Tryz.func112 rfl (by show 2 ≤ 21; decide) ?_
 show AW _ 0 _ (aret _ 0 Tryz.f112 _) ⟨21, _, _⟩
 refine AW.weaken (Wk.to (L := [(0, (.sl (List.map eRDecl p0))), (1, (i64 p1))]) ⟨.rfl, .rfl, trivial⟩) ?_
 refine sr rfl fun K1 hK1 => ?_
 refine zq tb rfl ?_
 refine dn hK1 rfl ?_
 refine sr rfl fun K2 hK2 => ?_
 refine zq tb rfl ?_
 refine dn hK2 rfl ?_
 refine AW.seq fun K3 hK3 => ?_
 refine sr rfl fun K4 hK4 => ?_
 refine zq tb rfl ?_
 refine dn hK4 rfl ?_
 obtain ⟨o8, h1, h0⟩ := Sh.bind_some h0
 have M8 : ∀ (n7 : Int), o8 = n7 → ∀ s, Wk 0 s ⟨21, envL [(5, (i64 n7))], []⟩ → K3 s := by
  intro n7 hq s hw
  subst o8
  try dsimp only at h0
  refine hK3 _ (AW.weaken hw ?_)
  refine sr rfl fun K9 hK9 => ?_
  iterate 2 refine zq tb rfl ?_
  refine dn hK9 rfl ?_
  replace h0 := Sh.some_eq h0
  subst r
  exact AW.ret (xr (Wk.to (L := [(4, (i64 n7))]) ⟨.rfl, trivial⟩))
 refine AW.block (AW.loopF (σ := Int × Int) (fun n v => spec_firstCon_L1 p0 p1 n v.1 v.2 = some o8) (fun (n5, i6) => ⟨21, envL [(0, (.sl (List.map eRDecl p0))), (1, (i64 p1)), (5, (i64 n5)), (6, (i64 i6))], []⟩) N (0, 0) h1 (Wk.tr rfl) (fun _ hv => by rw [spec_firstCon_L1] at hv; cases hv) ?_)
 rintro n ⟨n5, i6⟩ h1
 try dsimp only at h1 ⊢
 rw [spec_firstCon_L1] at h1
 refine AW.seq fun K10 hK10 => ?_
 refine sr rfl fun K11 hK11 => ?_
 iterate 3 refine zq tb rfl ?_
 refine dn hK11 rfl ?_
 refine ci h1 rfl ?_ ?_ <;> clear h1
 ·intro b12 h1
  refine AW.skip (hK10 _ ?_)
  refine AW.seq fun K13 hK13 => ?_
  refine AW.block ?_
  refine AW.regionO (by rfl) ?_
  iterate 3 refine zq tb rfl ?_
  obtain ⟨c14, gc14, h1⟩ := Sh.bind_some h1
  refine zx ei34 gc14 rfl rfl rfl ?_
  iterate 2 refine zq tb rfl ?_
  refine zl tb rfl rfl ?_
  iterate 2 refine zq tb rfl ?_
  refine dn hK13 rfl ?_
  refine AW.regionO (by rfl) ?_
  iterate 3 refine zq tb rfl ?_
  exact AO.done (xi (Sh.w (n5 + (Sh.len c14.cons)), Sh.w (i6 + 1)) h1 (Wk.tr rfl))
 ·intro b12 h1
  exact AW.exit (M8 n5 (Sh.some_eq h1).symm _ (Wk.tr rfl))
theorem spec_conType_ok {N : Nat} {p0 : (List RDecl)} {p1 : Int} {r : Int} (h0 : spec_conType N p0 p1 = some r) : ACalls Tryz.prog 105 [(.sl (List.map eRDecl p0)), (i64 p1)] [] (fun v st => v = (i64 r) ∧ st = []) := by
 unfold spec_conType at h0
 refine ACalls.intro Tryz.func105 rfl (by show 2 ≤ 30; decide) ?_
 show AW _ 0 _ (aret _ 0 Tryz.f105 _) ⟨30, _, _⟩
 refine AW.weaken (Wk.to (L := [(0, (.sl (List.map eRDecl p0))), (1, (i64 p1))]) ⟨.rfl, .rfl, trivial⟩) ?_
 refine sr rfl fun K1 hK1 => ?_
 refine zq tb rfl ?_
 refine dn hK1 rfl ?_
 refine AW.seq fun K2 hK2 => ?_
 refine sr rfl fun K3 hK3 => ?_
 refine zq tb rfl ?_
 refine dn hK3 rfl ?_
 obtain ⟨o5, h1, h0⟩ := Sh.cont_some h0
 have M5 : ∀ (_ : Unit), o5 = Sum.inr () → ∀ s, Wk 0 s ⟨30, envL [], []⟩ → K2 s := by
  intro _ hq s hw
  subst o5
  try dsimp only at h0
  refine hK2 _ (AW.weaken hw ?_)
  refine sr rfl fun K6 hK6 => ?_
  refine zq tb rfl ?_
  refine dn hK6 rfl ?_
  replace h0 := Sh.some_eq h0
  subst r
  exact AW.ret (xr (Wk.to (L := [(4, (i64 (-1)))]) ⟨.rfl, trivial⟩))
 refine AW.block (AW.loopF (σ := Int) (fun n v => spec_conType_L1 N p0 p1 n v = some o5) (fun i4 => ⟨30, envL [(0, (.sl (List.map eRDecl p0))), (1, (i64 p1)), (5, (i64 i4))], []⟩) N 0 h1 (Wk.tr rfl) (fun _ hv => by rw [spec_conType_L1] at hv; cases hv) ?_)
 rintro n i4 h1
 try dsimp only at h1 ⊢
 rw [spec_conType_L1] at h1
 refine AW.seq fun K7 hK7 => ?_
 refine sr rfl fun K8 hK8 => ?_
 iterate 2 refine zq tb rfl ?_
 refine zl tb rfl rfl ?_
 refine zq tb rfl ?_
 refine dn hK8 rfl ?_
 refine ci h1 rfl ?_ ?_ <;> clear h1
 ·intro b9 h1
  refine AW.skip (hK7 _ ?_)
  refine AW.seq fun K10 hK10 => ?_
  refine AW.block ?_
  refine sr rfl fun K11 hK11 => ?_
  iterate 2 refine zq tb rfl ?_
  obtain ⟨q12, gq12, h1⟩ := Sh.bind_some h1
  refine zc hb112 (spec_firstCon_ok gq12) rfl rfl rfl ?_
  refine zq tb rfl ?_
  refine dn hK11 rfl ?_
  refine sr rfl fun K13 hK13 => ?_
  iterate 5 refine zq tb rfl ?_
  obtain ⟨c14, gc14, h1⟩ := Sh.bind_some h1
  refine zx ei34 gc14 rfl rfl rfl ?_
  iterate 2 refine zq tb rfl ?_
  refine zl tb rfl rfl ?_
  iterate 2 refine zq tb rfl ?_
  obtain ⟨q15, gq15, h1⟩ := Sh.bind_some h1
  refine zc hb35 (spec_inRange_ok gq15) rfl rfl rfl ?_
  refine dn hK13 rfl ?_
  refine ci h1 rfl ?_ ?_ <;> clear h1
  ·intro b16 h1
   refine sr rfl fun K17 hK17 => ?_
   iterate 3 refine zq tb rfl ?_
   refine dn hK17 rfl ?_
   replace h1 := Sh.some_eq h1
   subst o5
   try dsimp only [id] at h0
   replace h0 := Sh.some_eq h0
   subst r
   exact AW.ret (xr (Wk.to (L := [(4, (i64 (Sh.w (i4 + 1))))]) ⟨.rfl, trivial⟩))
  ·intro b16 h1
   refine AW.skip (hK10 _ ?_)
   refine AW.regionO (by rfl) ?_
   iterate 3 refine zq tb rfl ?_
   exact AO.done (xi (Sh.w (i4 + 1)) h1 (Wk.tr rfl))
 ·intro b9 h1
  exact AW.exit (M5 () (Sh.some_eq h1).symm _ (Wk.tr rfl))
theorem spec_conFields_ok {N : Nat} {p0 : (List RDecl)} {p1 : Int} {r : (List Int)} (h0 : spec_conFields N p0 p1 = some r) : ACalls Tryz.prog 106 [(.sl (List.map eRDecl p0)), (i64 p1)] [] (fun v st => v = (.sl (List.map eI r)) ∧ st = []) := by
 unfold spec_conFields at h0
 refine ACalls.intro Tryz.func106 rfl (by show 2 ≤ 27; decide) ?_
 show AW _ 0 _ (aret _ 0 Tryz.f106 _) ⟨27, _, _⟩
 refine AW.weaken (Wk.to (L := [(0, (.sl (List.map eRDecl p0))), (1, (i64 p1))]) ⟨.rfl, .rfl, trivial⟩) ?_
 refine sr rfl fun K1 hK1 => ?_
 refine zq tb rfl ?_
 refine dn hK1 rfl ?_
 refine sr rfl fun K2 hK2 => ?_
 iterate 2 refine zq tb rfl ?_
 obtain ⟨q3, gq3, h0⟩ := Sh.bind_some h0
 refine zc hb105 (spec_conType_ok gq3) rfl rfl rfl ?_
 refine zq tb rfl ?_
 refine dn hK2 rfl ?_
 refine AW.seq fun K4 hK4 => ?_
 refine sr rfl fun K5 hK5 => ?_
 iterate 2 refine zq tb rfl ?_
 refine dn hK5 rfl ?_
 refine ci h0 rfl ?_ ?_ <;> clear h0
 ·intro b6 h0
  refine sr rfl fun K7 hK7 => ?_
  refine ao_bs (m := 0) (st' := [⟨0, 3, 1, List.map eI ([] : List Int)⟩]) (l := ([] : List Int)) (enc := eI) go0 ei26 (by decide) rfl rfl rfl rfl rfl rfl ?_
  refine zq tb rfl ?_
  refine dn hK7 rfl ?_
  replace h0 := Sh.some_eq h0
  subst r
  exact AW.ret (Exists.intro ⟨27, envL [(4, (.sl (List.map eI [])))], []⟩ (And.intro (by refine Wk.trans (Wk.frz (L := [(4, (.sl (List.map eI [])))]) (st' := [⟨1, 3, 1, []⟩]) (id := 0) rfl (show 0 ≤ 0 by decide) (pure_map fun _ => rfl) ⟨(.frz rfl), trivial⟩ rfl) ?_; refine Wk.trans (Wk.permk (L := [(4, (.sl (List.map eI [])))]) (st' := []) (st1 := []) [] rfl .nil (by decide) rfl rfl .nil ⟨.rfl, trivial⟩) ?_; exact Wk.to (L := [(4, (.sl (List.map eI [])))]) ⟨.rfl, trivial⟩) (And.intro rfl rfl)))
 ·intro b6 h0
  refine AW.skip (hK4 _ ?_)
  refine AW.seq fun K8 hK8 => ?_
  refine AW.draw (by kernel_rfl) (by kernel_rfl) (by rfl) ?_
  iterate 3 refine yq tb rfl ?_
  obtain ⟨c9, gc9, h0⟩ := Sh.bind_some h0
  refine yx ei34 gc9 rfl rfl rfl ?_
  iterate 6 refine yq tb rfl ?_
  obtain ⟨q10, gq10, h0⟩ := Sh.bind_some h0
  refine d_call (v := (i64 q10)) go0 hb112 (spec_firstCon_ok gq10) rfl rfl rfl ?_
  refine yq tb rfl ?_
  obtain ⟨c11, gc11, h0⟩ := Sh.bind_some h0
  refine yx ei82 gc11 rfl rfl rfl ?_
  iterate 3 refine yq tb rfl ?_
  refine d_done (hK8 _ ?_)
  replace h0 := Sh.some_eq h0
  subst r
  exact AW.ret (xr (Wk.to (L := [(4, (.sl (List.map eI c11.fields)))]) ⟨.rfl, trivial⟩))
theorem spec_procWith_ok {p0 : RImage} {p1 : Int} {p2 : Int} {p3 : Int} {r : Bool} (h0 : spec_procWith p0 p1 p2 p3 = some r) : ACalls Tryz.prog 107 [(.agg (eRImage p0)), (i64 p1), (i64 p2), (i64 p3)] [] (fun v st => v = (.bool r) ∧ st = []) := by
 unfold spec_procWith at h0
 refine ACalls.intro Tryz.func107 rfl (by show 4 ≤ 28; decide) ?_
 show AW _ 0 _ (aret _ 0 Tryz.f107 _) ⟨28, _, _⟩
 refine AW.weaken (Wk.to (L := [(0, (.agg (eRImage p0))), (1, (i64 p1)), (2, (i64 p2)), (3, (i64 p3))]) ⟨.rfl, .rfl, .rfl, .rfl, trivial⟩) ?_
 refine sr rfl fun K1 hK1 => ?_
 refine ao_box (m := 0) (st' := [⟨0, 37, 2, [(eRImage p0)]⟩]) go0 rfl rfl rfl rfl rfl ?_
 refine zq tb rfl ?_
 refine dn hK1 rfl ?_
 refine AW.seq fun K2 hK2 => ?_
 obtain ⟨o4, h1, h0⟩ := Sh.bind_some h0
 have M4 : ∀ (t3 : Bool), o4 = t3 → ∀ s, Wk 0 s ⟨28, envL [(8, (.bool t3))], []⟩ → K2 s := by
  intro t3 hq s hw
  subst o4
  try dsimp only at h0
  refine hK2 _ (AW.weaken hw ?_)
  replace h0 := Sh.some_eq h0
  subst r
  exact AW.ret (xr (Wk.to (L := [(8, (.bool t3))]) ⟨.rfl, trivial⟩))
 refine AW.regionO (by rfl) ?_
 iterate 3 refine zq tb rfl ?_
 refine zl tb rfl rfl ?_
 refine zq tb rfl ?_
 obtain ⟨q5, gq5, h1⟩ := Sh.bind_some h1
 refine zc hb35 (spec_inRange_ok gq5) rfl rfl rfl ?_
 refine zq tb rfl ?_
 rcases Sh.ite_some h1 with ⟨b6, h1⟩ | ⟨b6, h1⟩
 ·refine zg tb b6 rfl ?_
  iterate 2 refine zg tb b6 rfl ?_
  obtain ⟨c7, gc7, h1⟩ := Sh.bind_some h1
  refine ao_q (v := (.iptr (eRProc c7) 0)) (go1 rfl rfl b6) rfl (aq_ixs ei35 rfl rfl gc7 rfl) ?_
  iterate 2 refine zg tb b6 rfl ?_
  refine ao_q (v := (i64 (Sh.len c7.params))) (go1 rfl rfl b6) rfl (aq_lens sl26 rfl) ?_
  iterate 4 refine zg tb b6 rfl ?_
  refine zt b6 rfl ?_
  refine zq tb rfl ?_
  exact AO.done (M4 (decide ((Sh.len c7.params) = (Sh.w (p2 + p3)))) (Sh.some_eq h1).symm _ (Wk.d0 _ rfl))
 ·refine zs b6 rfl ?_
  iterate 10 refine zs b6 rfl ?_
  refine zf b6 rfl ?_
  refine zq tb rfl ?_
  exact AO.done (M4 false (Sh.some_eq h1).symm _ (Wk.d0 _ rfl))
theorem spec_consOf_ok {N : Nat} {p0 : (List RDecl)} {p1 : Int} {r : (List Int)} (h0 : spec_consOf N p0 p1 = some r) : ACalls Tryz.prog 108 [(.sl (List.map eRDecl p0)), (i64 p1)] [] (fun v st => v = (.own 0 0 (List.length r)) ∧ st = [⟨0, 3, 1, List.map eI r⟩]) := by
 unfold spec_consOf at h0
 refine ACalls.intro Tryz.func108 rfl (by show 2 ≤ 35; decide) ?_
 show AW _ 0 _ (aret _ 0 Tryz.f108 _) ⟨35, _, _⟩
 refine AW.weaken (Wk.to (L := [(0, (.sl (List.map eRDecl p0))), (1, (i64 p1))]) ⟨.rfl, .rfl, trivial⟩) ?_
 refine sr rfl fun K1 hK1 => ?_
 refine zq tb rfl ?_
 refine dn hK1 rfl ?_
 refine sr rfl fun K2 hK2 => ?_
 refine ao_bs (m := 0) (st' := [⟨0, 3, 1, List.map eI ([] : List Int)⟩]) (l := ([] : List Int)) (enc := eI) go0 ei26 (by decide) rfl rfl rfl rfl rfl rfl ?_
 refine zq tb rfl ?_
 refine dn hK2 rfl ?_
 refine AW.seq fun K3 hK3 => ?_
 refine sr rfl fun K4 hK4 => ?_
 iterate 2 refine zq tb rfl ?_
 refine zl tb rfl rfl ?_
 obtain ⟨q5, gq5, h0⟩ := Sh.bind_some h0
 refine zc hb35 (spec_inRange_ok gq5) rfl rfl rfl ?_
 refine zq tb rfl ?_
 refine dn hK4 rfl ?_
 refine ci h0 rfl ?_ ?_ <;> clear h0
 ·intro b6 h0
  have b7 : q5 = false := by simpa using b6
  refine sr rfl fun K8 hK8 => ?_
  iterate 2 refine zq tb rfl ?_
  refine dn hK8 rfl ?_
  replace h0 := Sh.some_eq h0
  subst r
  exact AW.ret (xr (Wk.to (L := [(4, (.own 0 0 (List.length ([] : List Int))))]) ⟨.rfl, trivial⟩))
 ·intro b6 h0
  have b9 : q5 = true := by simpa using b6
  refine AW.skip (hK3 _ ?_)
  refine AW.seq fun K10 hK10 => ?_
  refine sr rfl fun K11 hK11 => ?_
  refine zq tb rfl ?_
  refine dn hK11 rfl ?_
  obtain ⟨o15, h1, h0⟩ := Sh.bind_some h0
  have M15 : ∀ (l14 : (List Int)), o15 = l14 → ∀ s, Wk 0 s ⟨35, envL [(5, (.own 0 0 (List.length l14)))], [⟨0, 3, 1, List.map eI l14⟩]⟩ → K10 s := by
   intro l14 hq s hw
   subst o15
   try dsimp only at h0
   refine hK10 _ (AW.weaken hw ?_)
   refine sr rfl fun K16 hK16 => ?_
   iterate 2 refine zq tb rfl ?_
   refine dn hK16 rfl ?_
   replace h0 := Sh.some_eq h0
   subst r
   exact AW.ret (xr (Wk.to (L := [(4, (.own 0 0 (List.length l14)))]) ⟨.rfl, trivial⟩))
  refine AW.block (AW.loopF (σ := Int × (List Int)) (fun n v => spec_consOf_L1 N p0 p1 n v.1 v.2 = some o15) (fun (i12, l13) => ⟨35, envL [(0, (.sl (List.map eRDecl p0))), (1, (i64 p1)), (5, (.own 0 0 (List.length l13))), (6, (i64 i12))], [⟨0, 3, 1, List.map eI l13⟩]⟩) N (0, []) h1 (Wk.tr rfl) (fun _ hv => by rw [spec_consOf_L1] at hv; cases hv) ?_)
  rintro n ⟨i12, l13⟩ h1
  try dsimp only at h1 ⊢
  rw [spec_consOf_L1] at h1
  refine AW.seq fun K17 hK17 => ?_
  refine sr rfl fun K18 hK18 => ?_
  iterate 4 refine zq tb rfl ?_
  obtain ⟨c19, gc19, h1⟩ := Sh.bind_some h1
  refine zx ei34 gc19 rfl rfl rfl ?_
  iterate 2 refine zq tb rfl ?_
  refine zl tb rfl rfl ?_
  refine zq tb rfl ?_
  refine dn hK18 rfl ?_
  refine ci h1 rfl ?_ ?_ <;> clear h1
  ·intro b20 h1
   refine AW.skip (hK17 _ ?_)
   refine AW.seq fun K21 hK21 => ?_
   refine AW.block ?_
   refine AW.regionO (by rfl) ?_
   iterate 4 refine zq tb rfl ?_
   obtain ⟨q22, gq22, h1⟩ := Sh.bind_some h1
   refine zc hb112 (spec_firstCon_ok gq22) rfl rfl rfl ?_
   iterate 2 refine zq tb rfl ?_
   refine ao_bs (m := 1) (st' := [⟨0, 3, 1, List.map eI l13⟩, ⟨0, 3, 1, List.map eI [Sh.w (q22 + i12)]⟩]) (l := [Sh.w (q22 + i12)]) (enc := eI) go0 ei26 (by decide) rfl rfl rfl rfl rfl rfl ?_
   obtain ⟨l23, gl23, h1⟩ := Sh.bind_some h1
   refine ao_apo (st' := [⟨1, 3, 1, List.map eI l23⟩, ⟨0, 3, 1, List.map eI [Sh.w (q22 + i12)]⟩]) (l2 := [Sh.w (q22 + i12)]) go0 ei26 rfl rfl rfl rfl (el_o rfl rfl) (fun _ => rfl) gl23 rfl ?_
   refine zq tb rfl ?_
   refine dn hK21 rfl ?_
   refine AW.regionO (by rfl) ?_
   iterate 3 refine zq tb rfl ?_
   exact AO.done (xi (Sh.w (i12 + 1), l23) h1 (by refine Wk.trans (Wk.rg (L := [(0, (.sl (List.map eRDecl p0))), (1, (i64 p1)), (5, (.own 0 0 (List.length l23))), (6, (i64 (Sh.w (i12 + 1))))]) (st' := [⟨0, 3, 1, List.map eI l23⟩, ⟨0, 3, 1, List.map eI [Sh.w (q22 + i12)]⟩]) (.pure (pure_map fun _ => rfl) (.pure (pure_map fun _ => rfl) .nil)) ⟨.rfl, .rfl, .rfl, .rfl, trivial⟩) ?_; exact Wk.permk (L := [(0, (.sl (List.map eRDecl p0))), (1, (i64 p1)), (5, (.own 0 0 (List.length l23))), (6, (i64 (Sh.w (i12 + 1))))]) (st' := [⟨0, 3, 1, List.map eI l23⟩]) (st1 := [⟨0, 3, 1, List.map eI l23⟩]) [0] rfl .nil (by decide) rfl rfl (.pure (pure_map fun _ => rfl) .nil) ⟨.rfl, .rfl, .rfl, .rfl, trivial⟩))
  ·intro b20 h1
   exact AW.exit (M15 l13 (Sh.some_eq h1).symm _ (Wk.tr rfl))
theorem spec_validJumps_ok {N : Nat} {p0 : (List Int)} {p1 : Int} {p2 : Int} {p3 : Int} {r : Bool} (h0 : spec_validJumps N p0 p1 p2 p3 = some r) : ACalls Tryz.prog 109 [(.sl (List.map eI p0)), (i64 p1), (i64 p2), (i64 p3)] [] (fun v st => v = (.bool r) ∧ st = []) := by
 unfold spec_validJumps at h0
 refine ACalls.intro Tryz.func109 rfl (by show 4 ≤ 29; decide) ?_
 show AW _ 0 _ (aret _ 0 Tryz.f109 _) ⟨29, _, _⟩
 refine AW.weaken (Wk.to (L := [(0, (.sl (List.map eI p0))), (1, (i64 p1)), (2, (i64 p2)), (3, (i64 p3))]) ⟨.rfl, .rfl, .rfl, .rfl, trivial⟩) ?_
 refine sr rfl fun K1 hK1 => ?_
 refine zq tb rfl ?_
 refine dn hK1 rfl ?_
 refine AW.seq fun K2 hK2 => ?_
 refine sr rfl fun K3 hK3 => ?_
 refine zq tb rfl ?_
 refine zl tb rfl rfl ?_
 iterate 2 refine zq tb rfl ?_
 refine dn hK3 rfl ?_
 refine ci h0 rfl ?_ ?_ <;> clear h0
 ·intro b4 h0
  have b5 : decide ((Sh.len p0) = p1) = false := by simpa using b4
  refine sr rfl fun K6 hK6 => ?_
  refine zq tb rfl ?_
  refine dn hK6 rfl ?_
  replace h0 := Sh.some_eq h0
  subst r
  exact AW.ret (xr (Wk.to (L := [(8, (.bool false))]) ⟨.rfl, trivial⟩))
 ·intro b4 h0
  have b7 : decide ((Sh.len p0) = p1) = true := by simpa using b4
  refine AW.skip (hK2 _ ?_)
  refine AW.seq fun K8 hK8 => ?_
  refine sr rfl fun K9 hK9 => ?_
  refine zq tb rfl ?_
  refine dn hK9 rfl ?_
  obtain ⟨o11, h1, h0⟩ := Sh.cont_some h0
  have M11 : ∀ (_ : Unit), o11 = Sum.inr () → ∀ s, Wk 0 s ⟨29, envL [], []⟩ → K8 s := by
   intro _ hq s hw
   subst o11
   try dsimp only at h0
   refine hK8 _ (AW.weaken hw ?_)
   refine sr rfl fun K12 hK12 => ?_
   refine zq tb rfl ?_
   refine dn hK12 rfl ?_
   replace h0 := Sh.some_eq h0
   subst r
   exact AW.ret (xr (Wk.to (L := [(8, (.bool true))]) ⟨.rfl, trivial⟩))
  refine AW.block (AW.loopF (σ := Int) (fun n v => spec_validJumps_L1 p0 p1 p2 p3 n v = some o11) (fun i10 => ⟨29, envL [(0, (.sl (List.map eI p0))), (1, (i64 p1)), (2, (i64 p2)), (3, (i64 p3)), (9, (i64 i10))], []⟩) N 0 h1 (Wk.tr rfl) (fun _ hv => by rw [spec_validJumps_L1] at hv; cases hv) ?_)
  rintro n i10 h1
  try dsimp only at h1 ⊢
  rw [spec_validJumps_L1] at h1
  refine AW.seq fun K13 hK13 => ?_
  refine sr rfl fun K14 hK14 => ?_
  iterate 3 refine zq tb rfl ?_
  refine dn hK14 rfl ?_
  refine ci h1 rfl ?_ ?_ <;> clear h1
  ·intro b15 h1
   refine AW.skip (hK13 _ ?_)
   refine AW.seq fun K16 hK16 => ?_
   refine AW.block ?_
   refine sr rfl fun K17 hK17 => ?_
   iterate 2 refine zq tb rfl ?_
   obtain ⟨c18, gc18, h1⟩ := Sh.bind_some h1
   refine zx ei26 gc18 rfl rfl rfl ?_
   iterate 5 refine zq tb rfl ?_
   obtain ⟨q19, gq19, h1⟩ := Sh.bind_some h1
   refine zc hb35 (spec_inRange_ok gq19) rfl rfl rfl ?_
   refine zq tb rfl ?_
   refine dn hK17 rfl ?_
   refine ci h1 rfl ?_ ?_ <;> clear h1
   ·intro b20 h1
    have b21 : q19 = false := by simpa using b20
    refine sr rfl fun K22 hK22 => ?_
    refine zq tb rfl ?_
    refine dn hK22 rfl ?_
    replace h1 := Sh.some_eq h1
    subst o11
    try dsimp only [id] at h0
    replace h0 := Sh.some_eq h0
    subst r
    exact AW.ret (xr (Wk.to (L := [(8, (.bool false))]) ⟨.rfl, trivial⟩))
   ·intro b20 h1
    have b23 : q19 = true := by simpa using b20
    refine AW.skip (hK16 _ ?_)
    refine AW.regionO (by rfl) ?_
    iterate 3 refine zq tb rfl ?_
    exact AO.done (xi (Sh.w (i10 + 1)) h1 (Wk.tr rfl))
  ·intro b15 h1
   exact AW.exit (M11 () (Sh.some_eq h1).symm _ (Wk.tr rfl))
end Go.Proofs.YtefefailnbbooaaGreat

