import Derived.Test.YtgcghdgbahfcjaaGreatProg
import Derived.Test.YtgcghdgbahfcjaaGreatOCDefs
import Derived.Test.YtgcghdgbahfcjaaGreatOCWalkP2
namespace Go.Proofs.YtgcghdgbahfcjaaGreat
open Go Go.Abs RC
attribute [local irreducible] Go.Abs.dops
set_option maxRecDepth 100000
set_option maxHeartbeats 4000000

theorem hb10 : hasBody Tryz.prog 10 = true := by kernel_rfl
theorem hb11 : hasBody Tryz.prog 11 = true := by kernel_rfl
theorem hb13 : hasBody Tryz.prog 13 = true := by kernel_rfl
theorem hb14 : hasBody Tryz.prog 14 = true := by kernel_rfl
theorem hb15 : hasBody Tryz.prog 15 = true := by kernel_rfl
theorem hb16 : hasBody Tryz.prog 16 = true := by kernel_rfl
theorem hb18 : hasBody Tryz.prog 18 = true := by kernel_rfl
theorem hb41 : hasBody Tryz.prog 41 = true := by kernel_rfl
theorem hb42 : hasBody Tryz.prog 42 = true := by kernel_rfl
theorem hb43 : hasBody Tryz.prog 43 = true := by kernel_rfl
theorem hb44 : hasBody Tryz.prog 44 = true := by kernel_rfl
theorem hb6 : hasBody Tryz.prog 6 = true := by kernel_rfl
theorem hb7 : hasBody Tryz.prog 7 = true := by kernel_rfl
theorem hb8 : hasBody Tryz.prog 8 = true := by kernel_rfl
theorem hb9 : hasBody Tryz.prog 9 = true := by kernel_rfl

theorem laws_markImage_ok {N : Nat} {s0 : (List RDecl)} {s1 : (List RProc)} {p1 : Int} {r : Int × (List RDecl) × (List RProc)} (h0 : laws_markImage N s0 s1 p1 = some r) : ACalls Tryz.prog 15 [(.agg [(ow 0 0 s0), (ow 1 0 s1)]), (i64 p1)] [(ro 0 98 3 (eRDeclD 148 3) s0), (ro 0 102 5 (eRProcD 3 3 138 3 3) s1)] (fun v st => v = (i64 r.1) ∧ st = [(ro 0 98 3 (eRDeclD 148 3) r.2.1), (ro 0 102 5 (eRProcD 3 3 138 3 3) r.2.2)]) := by
 unfold laws_markImage at h0
 refine ai Tryz.func15 rfl rfl rfl rfl (sr rfl fun K1 hK1 => ao_box (m := 2) go0 rfl rfl rfl rfl rfl (zq tb rfl (dn hK1 rfl (sr rfl fun K2 hK2 => zm tb 3 rfl (bs h0 fun q3 gq3 h0 => ?_)))))
 refine ao_callsL (rowsP := [⟨0, 98, 3, List.map (eRDeclD 148 3) s0⟩]) (rows0 := [⟨0, 98, 3, List.map (eRDeclD 148 3) s0⟩]) (rows1 := [⟨0, 98, 3, List.map (eRDeclD 148 3) q3.2⟩]) (rows2 := []) (rows1' := [⟨0, 98, 3, List.map (eRDeclD 148 3) q3.2⟩]) (rows2' := []) (st' := [⟨0, 98, 3, List.map (eRDeclD 148 3) q3.2⟩, ⟨0, 102, 5, List.map (eRProcD 3 3 138 3 3) s1⟩, ⟨0, 37, 2, [[(.own 0 0 (List.length s0)), (.own 1 0 (List.length s1))]]⟩]) (v' := (i64 q3.1)) [0] go0 hb41 (laws_markDeclS_ok gq3) rfl (by decide) rfl rfl (.deep (pure_mapD fun _ => rfl) .nil) rfl rfl (.deep (pure_mapD fun _ => rfl) .nil) .nil rfl rfl (fun hln => ?_)
 have ln4 : List.length q3.2 = List.length s0 := by simpa only [List.length_map] using hln 0 _ _ rfl rfl rfl
 refine zq tb rfl (dn hK2 rfl (sr rfl fun K5 hK5 => zm tb 3 rfl (bs h0 fun q6 gq6 h0 => ?_)))
 refine ao_callsL (rowsP := [⟨0, 102, 5, List.map (eRProcD 3 3 138 3 3) s1⟩]) (rows0 := [⟨0, 102, 5, List.map (eRProcD 3 3 138 3 3) s1⟩]) (rows1 := [⟨0, 102, 5, List.map (eRProcD 3 3 138 3 3) q6.2⟩]) (rows2 := []) (rows1' := [⟨0, 102, 5, List.map (eRProcD 3 3 138 3 3) q6.2⟩]) (rows2' := []) (st' := [⟨0, 98, 3, List.map (eRDeclD 148 3) q3.2⟩, ⟨0, 102, 5, List.map (eRProcD 3 3 138 3 3) q6.2⟩, ⟨0, 37, 2, [[(.own 0 0 (List.length s0)), (.own 1 0 (List.length s1))]]⟩]) (v' := (i64 q6.1)) [1] go0 hb42 (laws_markProcS_ok gq6) rfl (by decide) rfl rfl (.deep (pure_mapD fun _ => rfl) .nil) rfl rfl (.deep (pure_mapD fun _ => rfl) .nil) .nil rfl rfl (fun hln => ?_)
 have ln7 : List.length q6.2 = List.length s1 := by simpa only [List.length_map] using hln 0 _ _ rfl rfl rfl
 refine zq tb rfl (dn hK5 rfl (zr tb rfl rfl ?_))
 replace h0 := Sh.some_eq h0
 subst r
 exact AW.ret (Exists.intro _ (And.intro (((Wk.steq (st := [⟨0, 98, 3, List.map (eRDeclD 148 3) q3.2⟩, ⟨0, 102, 5, List.map (eRProcD 3 3 138 3 3) q6.2⟩, ⟨0, 37, 2, [[(.own 0 0 (List.length s0)), (.own 1 0 (List.length s1))]]⟩]) (st' := [⟨0, 98, 3, List.map (eRDeclD 148 3) q3.2⟩, ⟨0, 102, 5, List.map (eRProcD 3 3 138 3 3) q6.2⟩, ⟨0, 37, 2, [[(.own 0 0 (List.length q3.2)), (.own 1 0 (List.length q6.2))]]⟩]) (by first | (simp only [Sh.put_len]; done) | simp only [Sh.put_len, ln4, ln7] | simp only [ln4, ln7])).trans (Wk.permk (L := [(4, (i64 q6.1))]) (st' := [⟨0, 98, 3, List.map (eRDeclD 148 3) q3.2⟩, ⟨0, 102, 5, List.map (eRProcD 3 3 138 3 3) q6.2⟩]) (st1 := [⟨0, 98, 3, List.map (eRDeclD 148 3) q3.2⟩, ⟨0, 102, 5, List.map (eRProcD 3 3 138 3 3) q6.2⟩]) [0, 1] rfl (.deep (pure_mapD fun _ => rfl) (.deep (pure_mapD fun _ => rfl) .nil)) (by decide) rfl rfl (.deep (pure_mapD fun _ => rfl) (.deep (pure_mapD fun _ => rfl) .nil)) ⟨.rfl, trivial⟩)).trans (Wk.to (L := [(4, (i64 q6.1))]) ⟨.rfl, trivial⟩)) (And.intro rfl rfl)))
theorem laws_markCellS_ok {N : Nat} {s0 : (List Cell)} {p1 : Int} {r : Int × (List Cell)} (h0 : laws_markCellS N s0 p1 = some r) : ACalls Tryz.prog 43 [(ow 0 0 s0), (i64 p1)] [(ro 0 76 3 (eCellD 3) s0)] (fun v st => v = (i64 r.1) ∧ st = [(ro 0 76 3 (eCellD 3) r.2)]) := by
 unfold laws_markCellS at h0
 refine ai Tryz.func43 rfl rfl rfl rfl (zr tb rfl rfl (AW.seq fun K2 hK2 => zr tb rfl rfl (bs h0 fun o9 h1 h0 => ?_)))
 have M9 : ∀ (k7 : Int) (l8 : (List Cell)), o9 = (k7, l8) → ∀ s, Wk 1 s ⟨34, envL [(1, (i64 k7))], [(ro 0 76 3 (eCellD 3) l8)]⟩ → K2 s := by
  intro k7 l8 hq s hw
  subst o9
  try dsimp only at h0
  refine hK2 _ (AW.weaken hw (zr tb rfl rfl ?_))
  replace h0 := Sh.some_eq h0
  subst r
  exact AW.ret (xr (Wk.to (L := [(4, (i64 k7))]) ⟨.rfl, trivial⟩))
 refine AW.block (AW.loopF (σ := Int × Int × (List Cell)) (fun n v => laws_markCellS_L1 N n v.1 v.2.1 v.2.2 = some o9) (fun (k4, i5, l6) => ⟨34, envL [(0, (ow 0 0 l6)), (1, (i64 k4)), (5, (i64 i5))], [(ro 0 76 3 (eCellD 3) l6)]⟩) N (p1, 0, s0) h1 (Wk.tr rfl) (fun _ hv => by rw [laws_markCellS_L1] at hv; cases hv) ?_)
 rintro n ⟨k4, i5, l6⟩ h1
 try dsimp only at h1 ⊢
 rw [laws_markCellS_L1] at h1
 refine AW.seq fun K11 hK11 => sr rfl fun K12 hK12 => zm tb 2 rfl (zz (i64 (Sh.len l6)) (aq_leno sl39 rfl rfl rfl) rfl (zq tb rfl (dn hK12 rfl ?_)))
 refine ci h1 rfl ?_ ?_ <;> clear h1
 ·intro b13 h1
  refine AW.skip (hK11 _ (AW.seq fun K14 hK14 => AW.block (sr rfl fun K15 hK15 => zm tb 3 rfl (bs h1 fun c16 gc16 h1 => zz (.ptr 0 0 (Int.toNat i5) 0) (aq_ixo ei39 rfl rfl rfl rfl gc16) rfl (zq tb rfl (ao_stl (u' := (Cell.mk k4 c16.tag c16.fields)) go0 ti3 rfl rfl gc16 rfl rfl rfl (show 0 + 1 ≤ 3 by decide) rfl rfl ?_))))))
  generalize hg901 : Sh.put l6 i5 (Cell.mk k4 c16.tag c16.fields) = lg901 at h1 ⊢
  have ln901 := congrArg List.length hg901
  simp only [Sh.put_len] at ln901
  refine dn hK15 rfl (zr tb rfl rfl (sr rfl fun K18 hK18 => zm tb 3 rfl (bs h1 fun c19 gc19 h1 => ?_)))
  refine zz (.ptr 0 0 (Int.toNat i5) 0) (aq_ixo ei39 rfl rfl rfl (by first | (simp only [Sh.put_len]; done) | omega) gc19) rfl ?_
  refine zq tb rfl (ao_stl (u' := (Cell.mk c19.count (Sh.w (k4 + 1)) c19.fields)) go0 ti3 rfl rfl gc19 rfl rfl rfl (show 1 + 1 ≤ 3 by decide) rfl rfl ?_)
  generalize hg902 : Sh.put lg901 i5 (Cell.mk c19.count (Sh.w (k4 + 1)) c19.fields) = lg902 at h1 ⊢
  have ln902 := congrArg List.length hg902
  simp only [Sh.put_len] at ln902
  refine dn hK18 rfl (zr tb rfl rfl (AW.regionO rfl (zm tb 2 rfl (bs h1 fun c21 gc21 h1 => ?_))))
  refine zz (.ptr 0 0 (Int.toNat i5) 0) (aq_ixo ei39 rfl rfl rfl (by first | (simp only [Sh.put_len]; done) | omega) gc21) rfl ?_
  refine zq tb rfl (AO.weaken (Wk.expel (id := 0) (j := 2) (i := i5) (c := c21) (ys := c21.fields) (encY := eI) rfl gc21 rfl rfl rfl rfl rfl) (zz (ow 1 0 c21.fields) (aq_ldp ti26 rfl rfl (hole_get gc21) rfl) rfl (zq tb rfl (bs h1 fun q22 gq22 h1 => ?_))))
  refine ao_callsL (rowsP := [⟨0, 3, 1, List.map eI c21.fields⟩]) (rows0 := [⟨0, 3, 1, List.map eI c21.fields⟩]) (rows1 := [⟨0, 3, 1, List.map eI q22.2⟩]) (rows2 := []) (rows1' := [⟨0, 3, 1, List.map eI q22.2⟩]) (rows2' := []) (st' := [⟨0, 76, 3, hole lg902 (eCellD 3) i5 [(i64 c21.count), (i64 c21.tag), (.own 1 0 (List.length c21.fields))]⟩, ⟨0, 3, 1, List.map eI q22.2⟩]) (v' := (i64 q22.1)) [1] go0 hb17 (laws_markIntS_ok gq22) rfl (by decide) rfl rfl (.pure (pure_map fun _ => rfl) .nil) rfl rfl (.pure (pure_map fun _ => rfl) .nil) .nil rfl rfl (fun hln => ?_)
  have ln23 : List.length q22.2 = List.length c21.fields := by simpa only [List.length_map] using hln 0 _ _ rfl rfl rfl
  refine AO.weaken (Wk.take (id := 0) (m := 1) (j := 2) (i := i5) (c := c21) (ys := q22.2) (encY := eI) rfl gc21 rfl rfl (by first | (simp only [Sh.put_len]; done) | (simp only [Sh.put_len]; omega) | omega) (by decide) (show 1 ≤ 1 by decide) (fun _ => rfl) rfl rfl) ?_
  refine AO.weaken (Wk.filled (id := 0) (i := i5) (u := (Cell.mk c21.count c21.tag q22.2)) rfl rfl rfl) ?_
  generalize hg903 : Sh.put lg902 i5 (Cell.mk c21.count c21.tag q22.2) = lg903 at h1 ⊢
  have ln903 := congrArg List.length hg903
  simp only [Sh.put_len] at ln903
  refine zq tb rfl (dn hK14 rfl (AW.regionO rfl (zm tb 3 rfl ?_)))
  exact AO.done (xi (q22.1, Sh.w (i5 + 1), lg903) h1 (by refine Wk.trans (Wk.permk (L := [(0, (.own 0 0 (List.length l6))), (1, (i64 q22.1)), (5, (i64 (Sh.w (i5 + 1))))]) (st' := [⟨0, 76, 3, List.map (eCellD 3) lg903⟩]) (st1 := [⟨0, 76, 3, List.map (eCellD 3) lg903⟩]) [0] rfl (.deep (pure_mapD fun _ => rfl) .nil) (by decide) rfl rfl (.deep (pure_mapD fun _ => rfl) .nil) ⟨.rfl, .rfl, .rfl, trivial⟩) ?_; exact Wk.to (L := [(0, (.own 0 0 (List.length lg903))), (1, (i64 q22.1)), (5, (i64 (Sh.w (i5 + 1))))]) ⟨(.len (by first | (simp only [Sh.put_len]; done) | (simp only [Sh.put_len]; omega) | omega)), .rfl, .rfl, trivial⟩))
 ·intro b13 h1
  exact AW.exit (M9 k4 l6 (Sh.some_eq h1).symm _ (Wk.tr rfl))
theorem laws_markFrameS_ok {N : Nat} {s0 : (List RFrame)} {p1 : Int} {r : Int × (List RFrame)} (h0 : laws_markFrameS N s0 p1 = some r) : ACalls Tryz.prog 44 [(ow 0 0 s0), (i64 p1)] [(ro 0 64 6 (eRFrameD 3 3 3) s0)] (fun v st => v = (i64 r.1) ∧ st = [(ro 0 64 6 (eRFrameD 3 3 3) r.2)]) := by
 unfold laws_markFrameS at h0
 refine ai Tryz.func44 rfl rfl rfl rfl (zr tb rfl rfl (AW.seq fun K2 hK2 => zr tb rfl rfl (bs h0 fun o9 h1 h0 => ?_)))
 have M9 : ∀ (k7 : Int) (l8 : (List RFrame)), o9 = (k7, l8) → ∀ s, Wk 1 s ⟨55, envL [(1, (i64 k7))], [(ro 0 64 6 (eRFrameD 3 3 3) l8)]⟩ → K2 s := by
  intro k7 l8 hq s hw
  subst o9
  try dsimp only at h0
  refine hK2 _ (AW.weaken hw (zr tb rfl rfl ?_))
  replace h0 := Sh.some_eq h0
  subst r
  exact AW.ret (xr (Wk.to (L := [(4, (i64 k7))]) ⟨.rfl, trivial⟩))
 refine AW.block (AW.loopF (σ := Int × Int × (List RFrame)) (fun n v => laws_markFrameS_L1 N n v.1 v.2.1 v.2.2 = some o9) (fun (k4, i5, l6) => ⟨55, envL [(0, (ow 0 0 l6)), (1, (i64 k4)), (5, (i64 i5))], [(ro 0 64 6 (eRFrameD 3 3 3) l6)]⟩) N (p1, 0, s0) h1 (Wk.tr rfl) (fun _ hv => by rw [laws_markFrameS_L1] at hv; cases hv) ?_)
 rintro n ⟨k4, i5, l6⟩ h1
 try dsimp only at h1 ⊢
 rw [laws_markFrameS_L1] at h1
 refine AW.seq fun K11 hK11 => sr rfl fun K12 hK12 => zm tb 2 rfl (zz (i64 (Sh.len l6)) (aq_leno sl40 rfl rfl rfl) rfl (zq tb rfl (dn hK12 rfl ?_)))
 refine ci h1 rfl ?_ ?_ <;> clear h1
 ·intro b13 h1
  refine AW.skip (hK11 _ (AW.seq fun K14 hK14 => AW.block (sr rfl fun K15 hK15 => zm tb 3 rfl (bs h1 fun c16 gc16 h1 => zz (.ptr 0 0 (Int.toNat i5) 0) (aq_ixo ei40 rfl rfl rfl rfl gc16) rfl (zq tb rfl (ao_stl (u' := (RFrame.mk k4 c16.at_ c16.dst c16.regs c16.own c16.held)) go0 ti3 rfl rfl gc16 rfl rfl rfl (show 0 + 1 ≤ 6 by decide) rfl rfl ?_))))))
  generalize hg901 : Sh.put l6 i5 (RFrame.mk k4 c16.at_ c16.dst c16.regs c16.own c16.held) = lg901 at h1 ⊢
  have ln901 := congrArg List.length hg901
  simp only [Sh.put_len] at ln901
  refine dn hK15 rfl (zr tb rfl rfl (sr rfl fun K18 hK18 => zm tb 3 rfl (bs h1 fun c19 gc19 h1 => ?_)))
  refine zz (.ptr 0 0 (Int.toNat i5) 0) (aq_ixo ei40 rfl rfl rfl (by first | (simp only [Sh.put_len]; done) | omega) gc19) rfl ?_
  refine zq tb rfl (ao_stl (u' := (RFrame.mk c19.proc (Sh.w (k4 + 1)) c19.dst c19.regs c19.own c19.held)) go0 ti3 rfl rfl gc19 rfl rfl rfl (show 1 + 1 ≤ 6 by decide) rfl rfl ?_)
  generalize hg902 : Sh.put lg901 i5 (RFrame.mk c19.proc (Sh.w (k4 + 1)) c19.dst c19.regs c19.own c19.held) = lg902 at h1 ⊢
  have ln902 := congrArg List.length hg902
  simp only [Sh.put_len] at ln902
  refine dn hK18 rfl (zr tb rfl rfl (sr rfl fun K21 hK21 => zm tb 3 rfl (bs h1 fun c22 gc22 h1 => ?_)))
  refine zz (.ptr 0 0 (Int.toNat i5) 0) (aq_ixo ei40 rfl rfl rfl (by first | (simp only [Sh.put_len]; done) | omega) gc22) rfl ?_
  refine zq tb rfl (ao_stl (u' := (RFrame.mk c22.proc c22.at_ (Sh.w ((Sh.w (k4 + 1)) + 1)) c22.regs c22.own c22.held)) go0 ti3 rfl rfl gc22 rfl rfl rfl (show 2 + 1 ≤ 6 by decide) rfl rfl ?_)
  generalize hg903 : Sh.put lg902 i5 (RFrame.mk c22.proc c22.at_ (Sh.w ((Sh.w (k4 + 1)) + 1)) c22.regs c22.own c22.held) = lg903 at h1 ⊢
  have ln903 := congrArg List.length hg903
  simp only [Sh.put_len] at ln903
  refine dn hK21 rfl (zr tb rfl rfl (sr rfl fun K24 hK24 => zm tb 2 rfl (bs h1 fun c25 gc25 h1 => ?_)))
  refine zz (.ptr 0 0 (Int.toNat i5) 0) (aq_ixo ei40 rfl rfl rfl (by first | (simp only [Sh.put_len]; done) | omega) gc25) rfl ?_
  refine zq tb rfl (AO.weaken (Wk.expel (id := 0) (j := 3) (i := i5) (c := c25) (ys := c25.regs) (encY := eI) rfl gc25 rfl rfl rfl rfl rfl) (zz (ow 1 0 c25.regs) (aq_ldp ti26 rfl rfl (hole_get gc25) rfl) rfl (zq tb rfl (bs h1 fun q26 gq26 h1 => ?_))))
  refine ao_callsL (rowsP := [⟨0, 3, 1, List.map eI c25.regs⟩]) (rows0 := [⟨0, 3, 1, List.map eI c25.regs⟩]) (rows1 := [⟨0, 3, 1, List.map eI q26.2⟩]) (rows2 := []) (rows1' := [⟨0, 3, 1, List.map eI q26.2⟩]) (rows2' := []) (st' := [⟨0, 64, 6, hole lg903 (eRFrameD 3 3 3) i5 [(i64 c25.proc), (i64 c25.at_), (i64 c25.dst), (.own 1 0 (List.length c25.regs)), (.dv 3 1 (List.map eI c25.own)), (.dv 3 1 (List.map eI c25.held))]⟩, ⟨0, 3, 1, List.map eI q26.2⟩]) (v' := (i64 q26.1)) [1] go0 hb17 (laws_markIntS_ok gq26) rfl (by decide) rfl rfl (.pure (pure_map fun _ => rfl) .nil) rfl rfl (.pure (pure_map fun _ => rfl) .nil) .nil rfl rfl (fun hln => ?_)
  have ln27 : List.length q26.2 = List.length c25.regs := by simpa only [List.length_map] using hln 0 _ _ rfl rfl rfl
  refine AO.weaken (Wk.take (id := 0) (m := 1) (j := 3) (i := i5) (c := c25) (ys := q26.2) (encY := eI) rfl gc25 rfl rfl (by first | (simp only [Sh.put_len]; done) | (simp only [Sh.put_len]; omega) | omega) (by decide) (show 1 ≤ 1 by decide) (fun _ => rfl) rfl rfl) ?_
  refine AO.weaken (Wk.filled (id := 0) (i := i5) (u := (RFrame.mk c25.proc c25.at_ c25.dst q26.2 c25.own c25.held)) rfl rfl rfl) ?_
  generalize hg904 : Sh.put lg903 i5 (RFrame.mk c25.proc c25.at_ c25.dst q26.2 c25.own c25.held) = lg904 at h1 ⊢
  have ln904 := congrArg List.length hg904
  simp only [Sh.put_len] at ln904
  refine zq tb rfl (dn hK24 rfl (sr rfl fun K28 hK28 => zm tb 2 rfl (bs h1 fun c29 gc29 h1 => ?_)))
  refine zz (.ptr 0 0 (Int.toNat i5) 0) (aq_ixo ei40 rfl rfl rfl (by first | (simp only [Sh.put_len]; done) | (simp only [Sh.put_len]; omega) | omega) gc29) rfl ?_
  refine zq tb rfl (AO.weaken (Wk.expel (id := 0) (j := 4) (i := i5) (c := c29) (ys := c29.own) (encY := eI) rfl gc29 rfl rfl rfl rfl rfl) (zz (ow 2 0 c29.own) (aq_ldp ti26 rfl rfl (hole_get gc29) rfl) rfl (zq tb rfl (bs h1 fun q30 gq30 h1 => ?_))))
  refine ao_callsL (rowsP := [⟨0, 3, 1, List.map eI c29.own⟩]) (rows0 := [⟨0, 3, 1, List.map eI c29.own⟩]) (rows1 := [⟨0, 3, 1, List.map eI q30.2⟩]) (rows2 := []) (rows1' := [⟨0, 3, 1, List.map eI q30.2⟩]) (rows2' := []) (st' := [⟨0, 64, 6, hole lg904 (eRFrameD 3 3 3) i5 [(i64 c29.proc), (i64 c29.at_), (i64 c29.dst), (.dv 3 1 (List.map eI c29.regs)), (.own 2 0 (List.length c29.own)), (.dv 3 1 (List.map eI c29.held))]⟩, ⟨1, 3, 1, []⟩, ⟨0, 3, 1, List.map eI q30.2⟩]) (v' := (i64 q30.1)) [2] go0 hb17 (laws_markIntS_ok gq30) rfl (by decide) rfl rfl (.pure (pure_map fun _ => rfl) .nil) rfl rfl (.pure (pure_map fun _ => rfl) .nil) .nil rfl rfl (fun hln => ?_)
  have ln31 : List.length q30.2 = List.length c29.own := by simpa only [List.length_map] using hln 0 _ _ rfl rfl rfl
  refine AO.weaken (Wk.take (id := 0) (m := 2) (j := 4) (i := i5) (c := c29) (ys := q30.2) (encY := eI) rfl gc29 rfl rfl (by first | (simp only [Sh.put_len]; done) | (simp only [Sh.put_len]; omega) | omega) (by decide) (show 1 ≤ 2 by decide) (fun _ => rfl) rfl rfl) ?_
  refine AO.weaken (Wk.filled (id := 0) (i := i5) (u := (RFrame.mk c29.proc c29.at_ c29.dst c29.regs q30.2 c29.held)) rfl rfl rfl) ?_
  generalize hg905 : Sh.put lg904 i5 (RFrame.mk c29.proc c29.at_ c29.dst c29.regs q30.2 c29.held) = lg905 at h1 ⊢
  have ln905 := congrArg List.length hg905
  simp only [Sh.put_len] at ln905
  refine zq tb rfl (dn hK28 rfl (AW.regionO rfl (zm tb 2 rfl (bs h1 fun c32 gc32 h1 => ?_))))
  refine zz (.ptr 0 0 (Int.toNat i5) 0) (aq_ixo ei40 rfl rfl rfl (by first | (simp only [Sh.put_len]; done) | (simp only [Sh.put_len]; omega) | omega) gc32) rfl ?_
  refine zq tb rfl (AO.weaken (Wk.expel (id := 0) (j := 5) (i := i5) (c := c32) (ys := c32.held) (encY := eI) rfl gc32 rfl rfl rfl rfl rfl) (zz (ow 3 0 c32.held) (aq_ldp ti26 rfl rfl (hole_get gc32) rfl) rfl (zq tb rfl (bs h1 fun q33 gq33 h1 => ?_))))
  refine ao_callsL (rowsP := [⟨0, 3, 1, List.map eI c32.held⟩]) (rows0 := [⟨0, 3, 1, List.map eI c32.held⟩]) (rows1 := [⟨0, 3, 1, List.map eI q33.2⟩]) (rows2 := []) (rows1' := [⟨0, 3, 1, List.map eI q33.2⟩]) (rows2' := []) (st' := [⟨0, 64, 6, hole lg905 (eRFrameD 3 3 3) i5 [(i64 c32.proc), (i64 c32.at_), (i64 c32.dst), (.dv 3 1 (List.map eI c32.regs)), (.dv 3 1 (List.map eI c32.own)), (.own 3 0 (List.length c32.held))]⟩, ⟨1, 3, 1, []⟩, ⟨1, 3, 1, []⟩, ⟨0, 3, 1, List.map eI q33.2⟩]) (v' := (i64 q33.1)) [3] go0 hb17 (laws_markIntS_ok gq33) rfl (by decide) rfl rfl (.pure (pure_map fun _ => rfl) .nil) rfl rfl (.pure (pure_map fun _ => rfl) .nil) .nil rfl rfl (fun hln => ?_)
  have ln34 : List.length q33.2 = List.length c32.held := by simpa only [List.length_map] using hln 0 _ _ rfl rfl rfl
  refine AO.weaken (Wk.take (id := 0) (m := 3) (j := 5) (i := i5) (c := c32) (ys := q33.2) (encY := eI) rfl gc32 rfl rfl (by first | (simp only [Sh.put_len]; done) | (simp only [Sh.put_len]; omega) | omega) (by decide) (show 1 ≤ 3 by decide) (fun _ => rfl) rfl rfl) ?_
  refine AO.weaken (Wk.filled (id := 0) (i := i5) (u := (RFrame.mk c32.proc c32.at_ c32.dst c32.regs c32.own q33.2)) rfl rfl rfl) ?_
  generalize hg906 : Sh.put lg905 i5 (RFrame.mk c32.proc c32.at_ c32.dst c32.regs c32.own q33.2) = lg906 at h1 ⊢
  have ln906 := congrArg List.length hg906
  simp only [Sh.put_len] at ln906
  refine zq tb rfl (dn hK14 rfl (AW.regionO rfl (zm tb 3 rfl ?_)))
  exact AO.done (xi (q33.1, Sh.w (i5 + 1), lg906) h1 (by refine Wk.trans (Wk.permk (L := [(0, (.own 0 0 (List.length l6))), (1, (i64 q33.1)), (5, (i64 (Sh.w (i5 + 1))))]) (st' := [⟨0, 64, 6, List.map (eRFrameD 3 3 3) lg906⟩]) (st1 := [⟨0, 64, 6, List.map (eRFrameD 3 3 3) lg906⟩]) [0] rfl (.deep (pure_mapD fun _ => rfl) .nil) (by decide) rfl rfl (.deep (pure_mapD fun _ => rfl) .nil) ⟨.rfl, .rfl, .rfl, trivial⟩) ?_; exact Wk.to (L := [(0, (.own 0 0 (List.length lg906))), (1, (i64 q33.1)), (5, (i64 (Sh.w (i5 + 1))))]) ⟨(.len (by first | (simp only [Sh.put_len]; done) | (simp only [Sh.put_len]; omega) | omega)), .rfl, .rfl, trivial⟩))
 ·intro b13 h1
  exact AW.exit (M9 k4 l6 (Sh.some_eq h1).symm _ (Wk.tr rfl))
theorem laws_markState_ok {N : Nat} {s0 : (List Int)} {s1 : (List Cell)} {s2 : (List RFrame)} {p0_0 : Int} {p0_1 : Int} {p0_2 : Int} {p0_3 : Int} {p1 : Int} {r : Int × (List Int) × (List Cell) × (List RFrame)} (h0 : laws_markState N s0 s1 s2 p0_0 p0_1 p0_2 p0_3 p1 = some r) : ACalls Tryz.prog 16 [(.agg [(i64 p0_0), (i64 p0_1), (i64 p0_2), (i64 p0_3), (ow 0 0 s0), (ow 1 0 s1), (ow 2 0 s2)]), (i64 p1)] [(ro 0 3 1 eI s0), (ro 0 76 3 (eCellD 3) s1), (ro 0 64 6 (eRFrameD 3 3 3) s2)] (fun v st => v = (i64 r.1) ∧ st = [(ro 0 3 1 eI r.2.1), (ro 0 76 3 (eCellD 3) r.2.2.1), (ro 0 64 6 (eRFrameD 3 3 3) r.2.2.2)]) := by
 unfold laws_markState at h0
 refine ai Tryz.func16 rfl rfl rfl rfl (sr rfl fun K1 hK1 => ao_box (m := 3) go0 rfl rfl rfl rfl rfl (zq tb rfl (dn hK1 rfl (sr rfl fun K2 hK2 => zm tb 3 rfl (bs h0 fun q3 gq3 h0 => ?_)))))
 refine ao_callsL (rowsP := [⟨0, 3, 1, List.map eI s0⟩]) (rows0 := [⟨0, 3, 1, List.map eI s0⟩]) (rows1 := [⟨0, 3, 1, List.map eI q3.2⟩]) (rows2 := []) (rows1' := [⟨0, 3, 1, List.map eI q3.2⟩]) (rows2' := []) (st' := [⟨0, 3, 1, List.map eI q3.2⟩, ⟨0, 76, 3, List.map (eCellD 3) s1⟩, ⟨0, 64, 6, List.map (eRFrameD 3 3 3) s2⟩, ⟨0, 42, 7, [[(i64 p0_0), (i64 p0_1), (i64 p0_2), (i64 p0_3), (.own 0 0 (List.length s0)), (.own 1 0 (List.length s1)), (.own 2 0 (List.length s2))]]⟩]) (v' := (i64 q3.1)) [0] go0 hb17 (laws_markIntS_ok gq3) rfl (by decide) rfl rfl (.pure (pure_map fun _ => rfl) .nil) rfl rfl (.pure (pure_map fun _ => rfl) .nil) .nil rfl rfl (fun hln => ?_)
 have ln4 : List.length q3.2 = List.length s0 := by simpa only [List.length_map] using hln 0 _ _ rfl rfl rfl
 refine zq tb rfl (dn hK2 rfl (sr rfl fun K5 hK5 => zm tb 3 rfl (bs h0 fun q6 gq6 h0 => ?_)))
 refine ao_callsL (rowsP := [⟨0, 76, 3, List.map (eCellD 3) s1⟩]) (rows0 := [⟨0, 76, 3, List.map (eCellD 3) s1⟩]) (rows1 := [⟨0, 76, 3, List.map (eCellD 3) q6.2⟩]) (rows2 := []) (rows1' := [⟨0, 76, 3, List.map (eCellD 3) q6.2⟩]) (rows2' := []) (st' := [⟨0, 3, 1, List.map eI q3.2⟩, ⟨0, 76, 3, List.map (eCellD 3) q6.2⟩, ⟨0, 64, 6, List.map (eRFrameD 3 3 3) s2⟩, ⟨0, 42, 7, [[(i64 p0_0), (i64 p0_1), (i64 p0_2), (i64 p0_3), (.own 0 0 (List.length s0)), (.own 1 0 (List.length s1)), (.own 2 0 (List.length s2))]]⟩]) (v' := (i64 q6.1)) [1] go0 hb43 (laws_markCellS_ok gq6) rfl (by decide) rfl rfl (.deep (pure_mapD fun _ => rfl) .nil) rfl rfl (.deep (pure_mapD fun _ => rfl) .nil) .nil rfl rfl (fun hln => ?_)
 have ln7 : List.length q6.2 = List.length s1 := by simpa only [List.length_map] using hln 0 _ _ rfl rfl rfl
 refine zq tb rfl (dn hK5 rfl (sr rfl fun K8 hK8 => zm tb 3 rfl (bs h0 fun q9 gq9 h0 => ?_)))
 refine ao_callsL (rowsP := [⟨0, 64, 6, List.map (eRFrameD 3 3 3) s2⟩]) (rows0 := [⟨0, 64, 6, List.map (eRFrameD 3 3 3) s2⟩]) (rows1 := [⟨0, 64, 6, List.map (eRFrameD 3 3 3) q9.2⟩]) (rows2 := []) (rows1' := [⟨0, 64, 6, List.map (eRFrameD 3 3 3) q9.2⟩]) (rows2' := []) (st' := [⟨0, 3, 1, List.map eI q3.2⟩, ⟨0, 76, 3, List.map (eCellD 3) q6.2⟩, ⟨0, 64, 6, List.map (eRFrameD 3 3 3) q9.2⟩, ⟨0, 42, 7, [[(i64 p0_0), (i64 p0_1), (i64 p0_2), (i64 p0_3), (.own 0 0 (List.length s0)), (.own 1 0 (List.length s1)), (.own 2 0 (List.length s2))]]⟩]) (v' := (i64 q9.1)) [2] go0 hb44 (laws_markFrameS_ok gq9) rfl (by decide) rfl rfl (.deep (pure_mapD fun _ => rfl) .nil) rfl rfl (.deep (pure_mapD fun _ => rfl) .nil) .nil rfl rfl (fun hln => ?_)
 have ln10 : List.length q9.2 = List.length s2 := by simpa only [List.length_map] using hln 0 _ _ rfl rfl rfl
 refine zq tb rfl (dn hK8 rfl (zr tb rfl rfl ?_))
 replace h0 := Sh.some_eq h0
 subst r
 exact AW.ret (Exists.intro _ (And.intro (((Wk.steq (st := [⟨0, 3, 1, List.map eI q3.2⟩, ⟨0, 76, 3, List.map (eCellD 3) q6.2⟩, ⟨0, 64, 6, List.map (eRFrameD 3 3 3) q9.2⟩, ⟨0, 42, 7, [[(i64 p0_0), (i64 p0_1), (i64 p0_2), (i64 p0_3), (.own 0 0 (List.length s0)), (.own 1 0 (List.length s1)), (.own 2 0 (List.length s2))]]⟩]) (st' := [⟨0, 3, 1, List.map eI q3.2⟩, ⟨0, 76, 3, List.map (eCellD 3) q6.2⟩, ⟨0, 64, 6, List.map (eRFrameD 3 3 3) q9.2⟩, ⟨0, 42, 7, [[(i64 p0_0), (i64 p0_1), (i64 p0_2), (i64 p0_3), (.own 0 0 (List.length q3.2)), (.own 1 0 (List.length q6.2)), (.own 2 0 (List.length q9.2))]]⟩]) (by first | (simp only [Sh.put_len]; done) | simp only [Sh.put_len, ln4, ln7, ln10] | simp only [ln4, ln7, ln10])).trans (Wk.permk (L := [(4, (i64 q9.1))]) (st' := [⟨0, 3, 1, List.map eI q3.2⟩, ⟨0, 76, 3, List.map (eCellD 3) q6.2⟩, ⟨0, 64, 6, List.map (eRFrameD 3 3 3) q9.2⟩]) (st1 := [⟨0, 3, 1, List.map eI q3.2⟩, ⟨0, 76, 3, List.map (eCellD 3) q6.2⟩, ⟨0, 64, 6, List.map (eRFrameD 3 3 3) q9.2⟩]) [0, 1, 2] rfl (.pure (pure_map fun _ => rfl) (.deep (pure_mapD fun _ => rfl) (.deep (pure_mapD fun _ => rfl) .nil))) (by decide) rfl rfl (.pure (pure_map fun _ => rfl) (.deep (pure_mapD fun _ => rfl) (.deep (pure_mapD fun _ => rfl) .nil))) ⟨.rfl, trivial⟩)).trans (Wk.to (L := [(4, (i64 q9.1))]) ⟨.rfl, trivial⟩)) (And.intro rfl rfl)))
theorem laws_heldIntS_ok {N : Nat} {p0 : (List Int)} {p1 : Int} {r : Int} (h0 : laws_heldIntS N p0 p1 = some r) : ACalls Tryz.prog 18 [(ls eI p0), (i64 p1)] [] (fun v st => v = (i64 r) ∧ st = []) := by
 unfold laws_heldIntS at h0
 refine ai Tryz.func18 rfl rfl rfl rfl (zr tb rfl rfl (AW.seq fun K2 hK2 => zr tb rfl rfl ?_))
 obtain ⟨o7, h1, h0⟩ := Sh.cont_some h0
 have M7 : ∀ (k6 : Int), o7 = Sum.inr k6 → ∀ s, Wk 0 s ⟨21, envL [(1, (i64 k6))], []⟩ → K2 s := by
  intro k6 hq s hw
  subst o7
  try dsimp only at h0
  refine hK2 _ (AW.weaken hw (zr tb rfl rfl ?_))
  replace h0 := Sh.some_eq h0
  subst r
  exact AW.ret (xr (Wk.to (L := [(4, (i64 k6))]) ⟨.rfl, trivial⟩))
 refine AW.block (AW.loopF (σ := Int × Int) (fun n v => laws_heldIntS_L1 p0 n v.1 v.2 = some o7) (fun (k4, i5) => ⟨21, envL [(0, (ls eI p0)), (1, (i64 k4)), (5, (i64 i5))], []⟩) N (p1, 0) h1 (Wk.tr rfl) (fun _ hv => by rw [laws_heldIntS_L1] at hv; cases hv) ?_)
 rintro n ⟨k4, i5⟩ h1
 try dsimp only at h1 ⊢
 rw [laws_heldIntS_L1] at h1
 refine AW.seq fun K9 hK9 => sr rfl fun K10 hK10 => zm tb 2 rfl (zl tb rfl rfl (zq tb rfl (dn hK10 rfl ?_)))
 refine ci h1 rfl ?_ ?_ <;> clear h1
 ·intro b11 h1
  refine AW.skip (hK9 _ (AW.seq fun K12 hK12 => AW.block (AW.seq fun K13 hK13 => sr rfl fun K14 hK14 => zm tb 2 rfl (bs h1 fun c15 gc15 h1 => zx ei26 gc15 rfl rfl rfl (zm tb 3 rfl (dn hK14 rfl ?_))))))
  refine ci h1 rfl ?_ ?_ <;> clear h1
  ·intro b16 h1
   have b17 : decide (c15 = k4) = false := by simpa using b16
   refine zr tb rfl rfl ?_
   replace h1 := Sh.some_eq h1
   subst o7
   try dsimp only [id] at h0
   replace h0 := Sh.some_eq h0
   subst r
   exact AW.ret (xr (Wk.to (L := [(4, (i64 (-1)))]) ⟨.rfl, trivial⟩))
  ·intro b16 h1
   have b19 : decide (c15 = k4) = true := by simpa using b16
   exact AW.skip (hK13 _ (AW.regionO rfl (zm tb 3 rfl (dn hK12 rfl (AW.regionO rfl (zm tb 3 rfl (AO.done (xi (Sh.w (k4 + 1), Sh.w (i5 + 1)) h1 (Wk.tr rfl)))))))))
 ·intro b11 h1
  exact AW.exit (M7 k4 (Sh.some_eq h1).symm _ (Wk.tr rfl))
theorem laws_FnExactOwnedCells_ok {N : Nat} {p0 : RImage} {p1 : RState} {r : Bool} (h0 : laws_FnExactOwnedCells N p0 p1 = some r) : ACalls Tryz.prog 3 [(.agg (eRImage p0)), (.agg (eRState p1))] [] (fun v st => v = (.bool r) ∧ st = []) := by
 unfold laws_FnExactOwnedCells at h0
 refine ai Tryz.func3 rfl rfl rfl rfl (sr rfl fun K1 hK1 => ao_box (m := 0) go0 rfl rfl rfl rfl rfl (ao_box (m := 1) go0 rfl rfl rfl rfl rfl (zq tb rfl (dn hK1 rfl (zr tb rfl rfl (sr rfl fun K3 hK3 => zm tb 2 rfl (bs h0 fun q4 gq4 h0 => zc hb6 (laws_szImage_ok gq4) rfl rfl rfl (zq tb rfl ?_))))))))
 refine dn hK3 rfl (AW.seq fun K5 hK5 => zr tb rfl rfl ?_)
 refine ci h0 rfl ?_ ?_ <;> clear h0
 ·intro b7 h0
  refine zr tb rfl rfl ?_
  replace h0 := Sh.some_eq h0
  subst r
  exact AW.ret (xr (Wk.d0 [(4, (.bool true))] rfl))
 ·intro b7 h0
  refine AW.skip (hK5 _ (sr rfl fun K9 hK9 => zm tb 2 rfl (bs h0 fun q10 gq10 h0 => zc hb7 (laws_szState_ok gq10) rfl rfl rfl (zq tb rfl (dn hK9 rfl (AW.seq fun K11 hK11 => zr tb rfl rfl ?_))))))
  refine ci h0 rfl ?_ ?_ <;> clear h0
  ·intro b13 h0
   refine zr tb rfl rfl ?_
   replace h0 := Sh.some_eq h0
   subst r
   exact AW.ret (xr (Wk.d0 [(4, (.bool true))] rfl))
  ·intro b13 h0
   refine AW.skip (hK11 _ (AW.seq fun K15 hK15 => ?_))
   refine AW.drawTailO 4 (by kernel_rfl) (by kernel_rfl) (by rfl) ?_
   refine yq tb rfl (bs h0 fun q16 gq16 h0 => ?_)
   refine d_call (v := (.agg (eRImage q16))) go0 hb9 (ACalls.wk (laws_toImage_ok gq16) (by refine Wk.trans (Wk.frzD (L := [(0, (.agg [(ls eRDecl q16.decls), (ow 1 0 q16.procs)]))]) (st' := [⟨1, 98, 3, []⟩, (ro 0 102 5 (eRProcD 3 3 138 3 3) q16.procs)]) (id := 0) rfl (show 0 ≤ 0 by decide) (deepR_map (fun _ => rfl)) ⟨(.agg ⟨(.fzD1 rfl (fun x => eRDeclD_und x)), .rfl, trivial⟩), trivial⟩ rfl) ?_; refine Wk.trans (Wk.frzD (L := [(0, (.agg (eRImage q16)))]) (st' := [⟨1, 98, 3, []⟩, ⟨1, 102, 5, []⟩]) (id := 1) rfl (show 0 ≤ 1 by decide) (deepR_map (fun _ => rfl)) ⟨(.agg ⟨.rfl, (.fzD1 rfl (fun x => eRProcD_und x)), trivial⟩), trivial⟩ rfl) ?_; refine Wk.trans (Wk.permk (L := [(0, (.agg (eRImage q16)))]) (st' := []) (st1 := []) [] rfl .nil (by decide) rfl rfl .nil ⟨.rfl, trivial⟩) ?_; exact Wk.to (L := [(0, (.agg (eRImage q16)))]) ⟨.rfl, trivial⟩)) rfl rfl rfl ?_
   refine yq tb rfl (bs h0 fun q17 gq17 h0 => ?_)
   refine d_call (v := (.agg (eRState q17))) go0 hb10 (ACalls.wk (laws_toState_ok gq17) (by refine Wk.trans (Wk.frz (L := [(0, (.agg [(i64 q17.status), (i64 q17.value), (i64 q17.calls), (i64 q17.most), (ls eI q17.out), (ow 1 0 q17.heap), (ow 2 0 q17.frames)]))]) (st' := [⟨1, 3, 1, []⟩, (ro 0 76 3 (eCellD 3) q17.heap), (ro 0 64 6 (eRFrameD 3 3 3) q17.frames)]) (id := 0) rfl (show 0 ≤ 0 by decide) (pure_map fun _ => rfl) ⟨(.agg ⟨.rfl, .rfl, .rfl, .rfl, (.frz1 rfl), .rfl, .rfl, trivial⟩), trivial⟩ rfl) ?_; refine Wk.trans (Wk.frzD (L := [(0, (.agg [(i64 q17.status), (i64 q17.value), (i64 q17.calls), (i64 q17.most), (ls eI q17.out), (ls eCell q17.heap), (ow 2 0 q17.frames)]))]) (st' := [⟨1, 3, 1, []⟩, ⟨1, 76, 3, []⟩, (ro 0 64 6 (eRFrameD 3 3 3) q17.frames)]) (id := 1) rfl (show 0 ≤ 1 by decide) (deepR_map (fun _ => rfl)) ⟨(.agg ⟨.rfl, .rfl, .rfl, .rfl, .rfl, (.fzD1 rfl (fun x => eCellD_und x)), .rfl, trivial⟩), trivial⟩ rfl) ?_; refine Wk.trans (Wk.frzD (L := [(0, (.agg (eRState q17)))]) (st' := [⟨1, 3, 1, []⟩, ⟨1, 76, 3, []⟩, ⟨1, 64, 6, []⟩]) (id := 2) rfl (show 0 ≤ 2 by decide) (deepR_map (fun _ => rfl)) ⟨(.agg ⟨.rfl, .rfl, .rfl, .rfl, .rfl, .rfl, (.fzD1 rfl (fun x => eRFrameD_und x)), trivial⟩), trivial⟩ rfl) ?_; refine Wk.trans (Wk.permk (L := [(0, (.agg (eRState q17)))]) (st' := []) (st1 := []) [] rfl .nil (by decide) rfl rfl .nil ⟨.rfl, trivial⟩) ?_; exact Wk.to (L := [(0, (.agg (eRState q17)))]) ⟨.rfl, trivial⟩)) rfl rfl rfl ?_
   refine d_done (bs h0 fun q18 gq18 h0 => ao_call (v' := (ow 2 0 q18)) go0 hb8 (spec_OwnedCells_ok gq18) rfl rfl ⟨(pure_map' fun _ => rfl), trivial⟩ rfl rfl (zq tb rfl (dn hK15 rfl (sr rfl fun K19 hK19 => zq tb rfl (bs h0 fun q20 gq20 h0 => ao_call (v' := (.agg [(ow 3 0 q20.decls), (ow 4 0 q20.procs)])) go0 hb9 (laws_toImage_ok gq20) rfl rfl ⟨(pure_mapD fun _ => rfl), ⟨(pure_mapD fun _ => rfl), trivial⟩⟩ rfl rfl (ao_alloc (m := 5) go0 zi37 rfl rfl (ao_str go0 ti37 rfl rfl rfl rfl rfl rfl (show 0 + 2 ≤ 2 by decide) rfl (dn hK19 rfl ?_))))))))
   refine sr rfl fun K21 hK21 => zq tb rfl (bs h0 fun q22 gq22 h0 => ao_call (v' := (.agg [(i64 q22.status), (i64 q22.value), (i64 q22.calls), (i64 q22.most), (ow 6 0 q22.out), (ow 7 0 q22.heap), (ow 8 0 q22.frames)])) go0 hb10 (laws_toState_ok gq22) rfl rfl ⟨(pure_map' fun _ => rfl), ⟨(pure_mapD fun _ => rfl), ⟨(pure_mapD fun _ => rfl), trivial⟩⟩⟩ rfl rfl (ao_alloc (m := 9) go0 zi42 rfl rfl (ao_str go0 ti42 rfl rfl rfl rfl rfl rfl (show 0 + 7 ≤ 7 by decide) rfl (dn hK21 rfl (sr rfl fun K23 hK23 => zm tb 2 rfl (bs h0 fun q24 gq24 h0 => ao_callb (v' := (ow 10 0 q24)) go0 hb11 (impl_OwnedCells_ok gq24) rfl (.agg (.ownD rfl rfl (fun _ => rfl) (fun x => eRDeclD_und x) (.ownD rfl rfl (fun _ => rfl) (fun x => eRProcD_und x) .nil)) (.agg (.val rfl (.val rfl (.val rfl (.val rfl (.own rfl rfl (fun _ => rfl) (.ownD rfl rfl (fun _ => rfl) (fun x => eCellD_und x) (.ownD rfl rfl (fun _ => rfl) (fun x => eRFrameD_und x) .nil))))))) .nil)) rfl (srow (fun _ => rfl) trivial) rfl rfl (zq tb rfl ?_)))))))
   refine dn hK23 rfl (AW.seq fun K25 hK25 => sr rfl fun K26 hK26 => zm tb 2 rfl (bs h0 fun q27 gq27 h0 => ao_callb (v' := (.bool q27)) go0 hb12 (laws_eqIntS_ok gq27) rfl (.own rfl rfl (fun _ => rfl) (.own rfl rfl (fun _ => rfl) .nil)) rfl trivial rfl rfl (zq tb rfl (dn hK26 rfl ?_))))
   refine ci h0 rfl ?_ ?_ <;> clear h0
   ·intro b28 h0
    have b29 : q27 = false := by simpa using b28
    refine zr tb rfl rfl ?_
    replace h0 := Sh.some_eq h0
    subst r
    exact AW.ret (xr (Wk.d0 [(4, (.bool false))] rfl))
   ·intro b28 h0
    have b31 : q27 = true := by simpa using b28
    refine AW.skip (hK25 _ (AW.seq fun K32 hK32 => AW.seq fun K33 hK33 => ?_))
    refine AW.draw (by kernel_rfl) (by kernel_rfl) (by rfl) ?_
    iterate 2 refine yq tb rfl ?_
    refine bs h0 fun q34 gq34 h0 => ?_
    refine d_call (v := (.agg (eRImage q34))) go0 hb9 (ACalls.wk (laws_toImage_ok gq34) (by refine Wk.trans (Wk.frzD (L := [(0, (.agg [(ls eRDecl q34.decls), (ow 1 0 q34.procs)]))]) (st' := [⟨1, 98, 3, []⟩, (ro 0 102 5 (eRProcD 3 3 138 3 3) q34.procs)]) (id := 0) rfl (show 0 ≤ 0 by decide) (deepR_map (fun _ => rfl)) ⟨(.agg ⟨(.fzD1 rfl (fun x => eRDeclD_und x)), .rfl, trivial⟩), trivial⟩ rfl) ?_; refine Wk.trans (Wk.frzD (L := [(0, (.agg (eRImage q34)))]) (st' := [⟨1, 98, 3, []⟩, ⟨1, 102, 5, []⟩]) (id := 1) rfl (show 0 ≤ 1 by decide) (deepR_map (fun _ => rfl)) ⟨(.agg ⟨.rfl, (.fzD1 rfl (fun x => eRProcD_und x)), trivial⟩), trivial⟩ rfl) ?_; refine Wk.trans (Wk.permk (L := [(0, (.agg (eRImage q34)))]) (st' := []) (st1 := []) [] rfl .nil (by decide) rfl rfl .nil ⟨.rfl, trivial⟩) ?_; exact Wk.to (L := [(0, (.agg (eRImage q34)))]) ⟨.rfl, trivial⟩)) rfl rfl rfl ?_
    refine bs h0 fun q35 gq35 h0 => d_callb (v' := (.bool q35)) go0 hb13 (laws_eqImage_ok gq35) rfl (.agg (.ownD rfl rfl (fun _ => rfl) (fun x => eRDeclD_und x) (.ownD rfl rfl (fun _ => rfl) (fun x => eRProcD_und x) .nil)) (.val rfl .nil)) rfl rfl (yq tb rfl (d_done (hK33 _ ?_)))
    refine ci h0 rfl ?_ ?_ <;> clear h0
    ·intro b36 h0
     have b37 : q35 = false := by simpa using b36
     refine zr tb rfl rfl ?_
     replace h0 := Sh.some_eq h0
     subst r
     exact AW.ret (xr (Wk.d0 [(4, (.bool false))] rfl))
    ·intro b36 h0
     have b39 : q35 = true := by simpa using b36
     refine AW.skip (hK32 _ (AW.seq fun K40 hK40 => AW.seq fun K41 hK41 => ?_))
     refine AW.draw (by kernel_rfl) (by kernel_rfl) (by rfl) ?_
     iterate 2 refine yq tb rfl ?_
     refine bs h0 fun q42 gq42 h0 => ?_
     refine d_call (v := (.agg (eRState q42))) go0 hb10 (ACalls.wk (laws_toState_ok gq42) (by refine Wk.trans (Wk.frz (L := [(0, (.agg [(i64 q42.status), (i64 q42.value), (i64 q42.calls), (i64 q42.most), (ls eI q42.out), (ow 1 0 q42.heap), (ow 2 0 q42.frames)]))]) (st' := [⟨1, 3, 1, []⟩, (ro 0 76 3 (eCellD 3) q42.heap), (ro 0 64 6 (eRFrameD 3 3 3) q42.frames)]) (id := 0) rfl (show 0 ≤ 0 by decide) (pure_map fun _ => rfl) ⟨(.agg ⟨.rfl, .rfl, .rfl, .rfl, (.frz1 rfl), .rfl, .rfl, trivial⟩), trivial⟩ rfl) ?_; refine Wk.trans (Wk.frzD (L := [(0, (.agg [(i64 q42.status), (i64 q42.value), (i64 q42.calls), (i64 q42.most), (ls eI q42.out), (ls eCell q42.heap), (ow 2 0 q42.frames)]))]) (st' := [⟨1, 3, 1, []⟩, ⟨1, 76, 3, []⟩, (ro 0 64 6 (eRFrameD 3 3 3) q42.frames)]) (id := 1) rfl (show 0 ≤ 1 by decide) (deepR_map (fun _ => rfl)) ⟨(.agg ⟨.rfl, .rfl, .rfl, .rfl, .rfl, (.fzD1 rfl (fun x => eCellD_und x)), .rfl, trivial⟩), trivial⟩ rfl) ?_; refine Wk.trans (Wk.frzD (L := [(0, (.agg (eRState q42)))]) (st' := [⟨1, 3, 1, []⟩, ⟨1, 76, 3, []⟩, ⟨1, 64, 6, []⟩]) (id := 2) rfl (show 0 ≤ 2 by decide) (deepR_map (fun _ => rfl)) ⟨(.agg ⟨.rfl, .rfl, .rfl, .rfl, .rfl, .rfl, (.fzD1 rfl (fun x => eRFrameD_und x)), trivial⟩), trivial⟩ rfl) ?_; refine Wk.trans (Wk.permk (L := [(0, (.agg (eRState q42)))]) (st' := []) (st1 := []) [] rfl .nil (by decide) rfl rfl .nil ⟨.rfl, trivial⟩) ?_; exact Wk.to (L := [(0, (.agg (eRState q42)))]) ⟨.rfl, trivial⟩)) rfl rfl rfl ?_
     refine bs h0 fun q43 gq43 h0 => d_callb (v' := (.bool q43)) go0 hb14 (laws_eqState_ok gq43) rfl (.agg (.val rfl (.val rfl (.val rfl (.val rfl (.own rfl rfl (fun _ => rfl) (.ownD rfl rfl (fun _ => rfl) (fun x => eCellD_und x) (.ownD rfl rfl (fun _ => rfl) (fun x => eRFrameD_und x) .nil))))))) (.val rfl .nil)) rfl rfl (yq tb rfl (d_done (hK41 _ ?_)))
     refine ci h0 rfl ?_ ?_ <;> clear h0
     ·intro b44 h0
      have b45 : q43 = false := by simpa using b44
      refine zr tb rfl rfl ?_
      replace h0 := Sh.some_eq h0
      subst r
      exact AW.ret (xr (Wk.d0 [(4, (.bool false))] rfl))
     ·intro b44 h0
      have b47 : q43 = true := by simpa using b44
      refine AW.skip (hK40 _ (zr tb rfl rfl (sr rfl fun K49 hK49 => zm tb 2 rfl (bs h0 fun q50 gq50 h0 => ?_))))
      refine ao_callsL (rowsP := [⟨0, 98, 3, List.map (eRDeclD 148 3) q20.decls⟩, ⟨0, 102, 5, List.map (eRProcD 3 3 138 3 3) q20.procs⟩]) (rows0 := [⟨0, 98, 3, List.map (eRDeclD 148 3) q20.decls⟩, ⟨0, 102, 5, List.map (eRProcD 3 3 138 3 3) q20.procs⟩]) (rows1 := [⟨0, 98, 3, List.map (eRDeclD 148 3) q50.2.1⟩, ⟨0, 102, 5, List.map (eRProcD 3 3 138 3 3) q50.2.2⟩]) (rows2 := []) (rows1' := [⟨0, 98, 3, List.map (eRDeclD 148 3) q50.2.1⟩, ⟨0, 102, 5, List.map (eRProcD 3 3 138 3 3) q50.2.2⟩]) (rows2' := []) (st' := [⟨0, 25, 2, [(eRImage p0)]⟩, ⟨0, 30, 7, [(eRState p1)]⟩, ⟨0, 3, 1, List.map eI q18⟩, ⟨0, 98, 3, List.map (eRDeclD 148 3) q50.2.1⟩, ⟨0, 102, 5, List.map (eRProcD 3 3 138 3 3) q50.2.2⟩, ⟨0, 37, 2, [[(.own 3 0 (List.length q20.decls)), (.own 4 0 (List.length q20.procs))]]⟩, ⟨0, 3, 1, List.map eI q22.out⟩, ⟨0, 76, 3, List.map (eCellD 3) q22.heap⟩, ⟨0, 64, 6, List.map (eRFrameD 3 3 3) q22.frames⟩, ⟨0, 42, 7, [[(i64 q22.status), (i64 q22.value), (i64 q22.calls), (i64 q22.most), (.own 6 0 (List.length q22.out)), (.own 7 0 (List.length q22.heap)), (.own 8 0 (List.length q22.frames))]]⟩, ⟨0, 3, 1, List.map eI q24⟩]) (v' := (i64 q50.1)) [3, 4] go0 hb15 (laws_markImage_ok gq50) rfl (by decide) rfl rfl (.deep (pure_mapD fun _ => rfl) (.deep (pure_mapD fun _ => rfl) .nil)) rfl rfl (.deep (pure_mapD fun _ => rfl) (.deep (pure_mapD fun _ => rfl) .nil)) .nil rfl rfl (fun hln => ?_)
      have ln51 : List.length q50.2.1 = List.length q20.decls := by simpa only [List.length_map] using hln 0 _ _ rfl rfl rfl
      have ln52 : List.length q50.2.2 = List.length q20.procs := by simpa only [List.length_map] using hln 1 _ _ rfl rfl rfl
      refine zq tb rfl (dn hK49 rfl (sr rfl fun K53 hK53 => zm tb 2 rfl (bs h0 fun q54 gq54 h0 => ?_)))
      refine ao_callsL (rowsP := [⟨0, 3, 1, List.map eI q22.out⟩, ⟨0, 76, 3, List.map (eCellD 3) q22.heap⟩, ⟨0, 64, 6, List.map (eRFrameD 3 3 3) q22.frames⟩]) (rows0 := [⟨0, 3, 1, List.map eI q22.out⟩, ⟨0, 76, 3, List.map (eCellD 3) q22.heap⟩, ⟨0, 64, 6, List.map (eRFrameD 3 3 3) q22.frames⟩]) (rows1 := [⟨0, 3, 1, List.map eI q54.2.1⟩, ⟨0, 76, 3, List.map (eCellD 3) q54.2.2.1⟩, ⟨0, 64, 6, List.map (eRFrameD 3 3 3) q54.2.2.2⟩]) (rows2 := []) (rows1' := [⟨0, 3, 1, List.map eI q54.2.1⟩, ⟨0, 76, 3, List.map (eCellD 3) q54.2.2.1⟩, ⟨0, 64, 6, List.map (eRFrameD 3 3 3) q54.2.2.2⟩]) (rows2' := []) (st' := [⟨0, 25, 2, [(eRImage p0)]⟩, ⟨0, 30, 7, [(eRState p1)]⟩, ⟨0, 3, 1, List.map eI q18⟩, ⟨0, 98, 3, List.map (eRDeclD 148 3) q50.2.1⟩, ⟨0, 102, 5, List.map (eRProcD 3 3 138 3 3) q50.2.2⟩, ⟨0, 37, 2, [[(.own 3 0 (List.length q20.decls)), (.own 4 0 (List.length q20.procs))]]⟩, ⟨0, 3, 1, List.map eI q54.2.1⟩, ⟨0, 76, 3, List.map (eCellD 3) q54.2.2.1⟩, ⟨0, 64, 6, List.map (eRFrameD 3 3 3) q54.2.2.2⟩, ⟨0, 42, 7, [[(i64 q22.status), (i64 q22.value), (i64 q22.calls), (i64 q22.most), (.own 6 0 (List.length q22.out)), (.own 7 0 (List.length q22.heap)), (.own 8 0 (List.length q22.frames))]]⟩, ⟨0, 3, 1, List.map eI q24⟩]) (v' := (i64 q54.1)) [6, 7, 8] go0 hb16 (laws_markState_ok gq54) rfl (by decide) rfl rfl (.pure (pure_map fun _ => rfl) (.deep (pure_mapD fun _ => rfl) (.deep (pure_mapD fun _ => rfl) .nil))) rfl rfl (.pure (pure_map fun _ => rfl) (.deep (pure_mapD fun _ => rfl) (.deep (pure_mapD fun _ => rfl) .nil))) .nil rfl rfl (fun hln => ?_)
      have ln55 : List.length q54.2.1 = List.length q22.out := by simpa only [List.length_map] using hln 0 _ _ rfl rfl rfl
      have ln56 : List.length q54.2.2.1 = List.length q22.heap := by simpa only [List.length_map] using hln 1 _ _ rfl rfl rfl
      have ln57 : List.length q54.2.2.2 = List.length q22.frames := by simpa only [List.length_map] using hln 2 _ _ rfl rfl rfl
      refine zq tb rfl (dn hK53 rfl (AW.seq fun K58 hK58 => AW.seq fun K59 hK59 => bs h0 fun o61 h1 h0 => ?_))
      have M61 : ∀ (t60 : Bool), o61 = t60 → ∀ s, Wk 0 s ⟨92, envL [(2, (.ptr 0 0 0 0)), (3, (.ptr 1 0 0 0)), (6, (ow 2 0 q18)), (9, (ow 3 0 q24)), (63, (.bool t60))], [⟨0, 25, 2, [(eRImage p0)]⟩, ⟨0, 30, 7, [(eRState p1)]⟩, (ro 0 3 1 eI q18), (ro 0 3 1 eI q24)]⟩ → K59 s := by
       intro t60 hq s hw
       subst o61
       try dsimp only at h0
       refine hK59 _ (AW.weaken hw ?_)
       refine ci h0 rfl ?_ ?_ <;> clear h0
       ·intro b62 h0
        refine zr tb rfl rfl ?_
        replace h0 := Sh.some_eq h0
        subst r
        exact AW.ret (xr (Wk.d0 [(4, (.bool false))] rfl))
       ·intro b62 h0
        refine AW.skip (hK58 _ (zr tb rfl rfl (sr rfl fun K65 hK65 => zm tb 2 rfl (bs h0 fun q66 gq66 h0 => ?_))))
        refine ao_callsL (rowsP := [⟨0, 3, 1, List.map eI q24⟩]) (rows0 := [⟨0, 3, 1, List.map eI q24⟩]) (rows1 := [⟨0, 3, 1, List.map eI q66.2⟩]) (rows2 := []) (rows1' := [⟨0, 3, 1, List.map eI q66.2⟩]) (rows2' := []) (st' := [⟨0, 25, 2, [(eRImage p0)]⟩, ⟨0, 30, 7, [(eRState p1)]⟩, ⟨0, 3, 1, List.map eI q18⟩, ⟨0, 3, 1, List.map eI q66.2⟩]) (v' := (i64 q66.1)) [3] go0 hb17 (laws_markIntS_ok gq66) rfl (by decide) rfl rfl (.pure (pure_map fun _ => rfl) .nil) rfl rfl (.pure (pure_map fun _ => rfl) .nil) .nil rfl rfl (fun hln => ?_)
        have ln67 : List.length q66.2 = List.length q24 := by simpa only [List.length_map] using hln 0 _ _ rfl rfl rfl
        refine zq tb rfl (dn hK65 rfl (zr tb rfl rfl (sr rfl fun K69 hK69 => zm tb 2 rfl (bs h0 fun q70 gq70 h0 => ?_))))
        refine ao_callb (v' := (i64 q70)) go0 hb18 (laws_heldIntS_ok gq70) rfl (.own rfl (by first | (simp only [Sh.put_len]; done) | (simp only [Sh.put_len]; omega) | omega) (fun _ => rfl) (.val rfl .nil)) rfl trivial rfl rfl ?_
        refine zq tb rfl (dn hK69 rfl (AW.seq fun K71 hK71 => zr tb rfl rfl ?_))
        refine ci h0 rfl ?_ ?_ <;> clear h0
        ·intro b73 h0
         refine zr tb rfl rfl ?_
         replace h0 := Sh.some_eq h0
         subst r
         exact AW.ret (xr (Wk.d0 [(4, (.bool false))] rfl))
        ·intro b73 h0
         refine AW.skip (hK71 _ (AW.seq fun K75 hK75 => zr tb rfl rfl ?_))
         refine ci h0 rfl ?_ ?_ <;> clear h0
         ·intro b77 h0
          have b78 : decide (q70 = q66.1) = false := by simpa using b77
          refine zr tb rfl rfl ?_
          replace h0 := Sh.some_eq h0
          subst r
          exact AW.ret (xr (Wk.d0 [(4, (.bool false))] rfl))
         ·intro b77 h0
          have b80 : decide (q70 = q66.1) = true := by simpa using b77
          refine AW.skip (hK75 _ (AW.seq fun K81 hK81 => ?_))
          refine AW.drawTailO 4 (by kernel_rfl) (by kernel_rfl) (by rfl) ?_
          refine yq tb rfl (bs h0 fun q82 gq82 h0 => ?_)
          refine d_call (v := (.agg (eRImage q82))) go0 hb9 (ACalls.wk (laws_toImage_ok gq82) (by refine Wk.trans (Wk.frzD (L := [(0, (.agg [(ls eRDecl q82.decls), (ow 1 0 q82.procs)]))]) (st' := [⟨1, 98, 3, []⟩, (ro 0 102 5 (eRProcD 3 3 138 3 3) q82.procs)]) (id := 0) rfl (show 0 ≤ 0 by decide) (deepR_map (fun _ => rfl)) ⟨(.agg ⟨(.fzD1 rfl (fun x => eRDeclD_und x)), .rfl, trivial⟩), trivial⟩ rfl) ?_; refine Wk.trans (Wk.frzD (L := [(0, (.agg (eRImage q82)))]) (st' := [⟨1, 98, 3, []⟩, ⟨1, 102, 5, []⟩]) (id := 1) rfl (show 0 ≤ 1 by decide) (deepR_map (fun _ => rfl)) ⟨(.agg ⟨.rfl, (.fzD1 rfl (fun x => eRProcD_und x)), trivial⟩), trivial⟩ rfl) ?_; refine Wk.trans (Wk.permk (L := [(0, (.agg (eRImage q82)))]) (st' := []) (st1 := []) [] rfl .nil (by decide) rfl rfl .nil ⟨.rfl, trivial⟩) ?_; exact Wk.to (L := [(0, (.agg (eRImage q82)))]) ⟨.rfl, trivial⟩)) rfl rfl rfl ?_
          refine yq tb rfl (bs h0 fun q83 gq83 h0 => ?_)
          refine d_call (v := (.agg (eRState q83))) go0 hb10 (ACalls.wk (laws_toState_ok gq83) (by refine Wk.trans (Wk.frz (L := [(0, (.agg [(i64 q83.status), (i64 q83.value), (i64 q83.calls), (i64 q83.most), (ls eI q83.out), (ow 1 0 q83.heap), (ow 2 0 q83.frames)]))]) (st' := [⟨1, 3, 1, []⟩, (ro 0 76 3 (eCellD 3) q83.heap), (ro 0 64 6 (eRFrameD 3 3 3) q83.frames)]) (id := 0) rfl (show 0 ≤ 0 by decide) (pure_map fun _ => rfl) ⟨(.agg ⟨.rfl, .rfl, .rfl, .rfl, (.frz1 rfl), .rfl, .rfl, trivial⟩), trivial⟩ rfl) ?_; refine Wk.trans (Wk.frzD (L := [(0, (.agg [(i64 q83.status), (i64 q83.value), (i64 q83.calls), (i64 q83.most), (ls eI q83.out), (ls eCell q83.heap), (ow 2 0 q83.frames)]))]) (st' := [⟨1, 3, 1, []⟩, ⟨1, 76, 3, []⟩, (ro 0 64 6 (eRFrameD 3 3 3) q83.frames)]) (id := 1) rfl (show 0 ≤ 1 by decide) (deepR_map (fun _ => rfl)) ⟨(.agg ⟨.rfl, .rfl, .rfl, .rfl, .rfl, (.fzD1 rfl (fun x => eCellD_und x)), .rfl, trivial⟩), trivial⟩ rfl) ?_; refine Wk.trans (Wk.frzD (L := [(0, (.agg (eRState q83)))]) (st' := [⟨1, 3, 1, []⟩, ⟨1, 76, 3, []⟩, ⟨1, 64, 6, []⟩]) (id := 2) rfl (show 0 ≤ 2 by decide) (deepR_map (fun _ => rfl)) ⟨(.agg ⟨.rfl, .rfl, .rfl, .rfl, .rfl, .rfl, (.fzD1 rfl (fun x => eRFrameD_und x)), trivial⟩), trivial⟩ rfl) ?_; refine Wk.trans (Wk.permk (L := [(0, (.agg (eRState q83)))]) (st' := []) (st1 := []) [] rfl .nil (by decide) rfl rfl .nil ⟨.rfl, trivial⟩) ?_; exact Wk.to (L := [(0, (.agg (eRState q83)))]) ⟨.rfl, trivial⟩)) rfl rfl rfl ?_
          refine d_done (bs h0 fun q84 gq84 h0 => ao_call (v' := (ow 4 0 q84)) go0 hb11 (impl_OwnedCells_ok gq84) rfl rfl ⟨(pure_map' fun _ => rfl), trivial⟩ rfl rfl (zq tb rfl (dn hK81 rfl (AW.seq fun K85 hK85 => sr rfl fun K86 hK86 => zm tb 2 rfl (AO.weaken (Wk.frz (L := [(9, (ow 3 0 q24)), (11, (i64 q66.1)), (80, (ls eI q84)), (81, (ow 2 0 q18))]) (st' := [⟨0, 25, 2, [(eRImage p0)]⟩, ⟨0, 30, 7, [(eRState p1)]⟩, (ro 0 3 1 eI q18), (ro 0 3 1 eI q66.2), ⟨1, 3, 1, []⟩]) (id := 4) rfl (show 0 ≤ 4 by decide) (pure_map fun _ => rfl) ⟨.rfl, .rfl, (.frz rfl), .rfl, trivial⟩ rfl) (AO.weaken (Wk.frz (L := [(9, (ow 3 0 q24)), (11, (i64 q66.1)), (80, (ls eI q84)), (81, (ls eI q18))]) (st' := [⟨0, 25, 2, [(eRImage p0)]⟩, ⟨0, 30, 7, [(eRState p1)]⟩, ⟨1, 3, 1, []⟩, (ro 0 3 1 eI q66.2), ⟨1, 3, 1, []⟩]) (id := 2) rfl (show 0 ≤ 2 by decide) (pure_map fun _ => rfl) ⟨.rfl, .rfl, .rfl, (.frz rfl), trivial⟩ rfl) (bs h0 fun q87 gq87 h0 => zc hb12 (laws_eqIntS_ok gq87) rfl rfl rfl ?_)))))))
          refine zq tb rfl (dn hK86 rfl ?_)
          refine ci h0 rfl ?_ ?_ <;> clear h0
          ·intro b88 h0
           have b89 : q87 = false := by simpa using b88
           refine zr tb rfl rfl ?_
           replace h0 := Sh.some_eq h0
           subst r
           exact AW.ret (xr (Wk.d0 [(4, (.bool false))] rfl))
          ·intro b88 h0
           have b91 : q87 = true := by simpa using b88
           refine AW.skip (hK85 _ (zr tb rfl rfl (sr rfl fun K93 hK93 => zm tb 2 rfl ?_)))
           refine AO.weaken (Wk.frz (L := [(11, (i64 q66.1)), (84, (.sl (List.map eI q66.2))), (85, (i64 1))]) (st' := [⟨0, 25, 2, [(eRImage p0)]⟩, ⟨0, 30, 7, [(eRState p1)]⟩, ⟨1, 3, 1, []⟩, ⟨1, 3, 1, []⟩, ⟨1, 3, 1, []⟩]) (id := 3) rfl (show 0 ≤ 3 by decide) (pure_map fun _ => rfl) ⟨.rfl, (.frz (by first | (simp only [Sh.put_len]; done) | (simp only [Sh.put_len]; omega) | omega)), .rfl, trivial⟩ rfl) ?_
           refine bs h0 fun q94 gq94 h0 => zc hb18 (laws_heldIntS_ok gq94) rfl rfl rfl (zq tb rfl (dn hK93 rfl (AW.seq fun K95 hK95 => zr tb rfl rfl ?_)))
           refine ci h0 rfl ?_ ?_ <;> clear h0
           ·intro b97 h0
            refine zr tb rfl rfl ?_
            replace h0 := Sh.some_eq h0
            subst r
            exact AW.ret (xr (Wk.d0 [(4, (.bool false))] rfl))
           ·intro b97 h0
            refine AW.skip (hK95 _ (AW.seq fun K99 hK99 => zr tb rfl rfl ?_))
            refine ci h0 rfl ?_ ?_ <;> clear h0
            ·intro b101 h0
             have b102 : decide (q94 = q66.1) = false := by simpa using b101
             refine zr tb rfl rfl ?_
             replace h0 := Sh.some_eq h0
             subst r
             exact AW.ret (xr (Wk.d0 [(4, (.bool false))] rfl))
            ·intro b101 h0
             have b104 : decide (q94 = q66.1) = true := by simpa using b101
             refine AW.skip (hK99 _ (zr tb rfl rfl ?_))
             replace h0 := Sh.some_eq h0
             subst r
             exact AW.ret (xr (Wk.d0 [(4, (.bool true))] rfl))
      refine AW.regionO rfl (zm tb 3 rfl ?_)
      rcases Sh.ite_some h1 with ⟨b106, h1⟩ | ⟨b106, h1⟩
      ·refine zs b106 rfl ?_
       iterate 3 refine zs b106 rfl ?_
       refine zt b106 rfl ?_
       exact AO.done (M61 true (Sh.some_eq h1).symm _ (by refine Wk.trans (Wk.steq (st := [⟨0, 25, 2, [(eRImage p0)]⟩, ⟨0, 30, 7, [(eRState p1)]⟩, ⟨0, 3, 1, List.map eI q18⟩, ⟨0, 98, 3, List.map (eRDeclD 148 3) q50.2.1⟩, ⟨0, 102, 5, List.map (eRProcD 3 3 138 3 3) q50.2.2⟩, ⟨0, 37, 2, [[(.own 3 0 (List.length q20.decls)), (.own 4 0 (List.length q20.procs))]]⟩, ⟨0, 3, 1, List.map eI q54.2.1⟩, ⟨0, 76, 3, List.map (eCellD 3) q54.2.2.1⟩, ⟨0, 64, 6, List.map (eRFrameD 3 3 3) q54.2.2.2⟩, ⟨0, 42, 7, [[(i64 q22.status), (i64 q22.value), (i64 q22.calls), (i64 q22.most), (.own 6 0 (List.length q22.out)), (.own 7 0 (List.length q22.heap)), (.own 8 0 (List.length q22.frames))]]⟩, ⟨0, 3, 1, List.map eI q24⟩]) (st' := [⟨0, 25, 2, [(eRImage p0)]⟩, ⟨0, 30, 7, [(eRState p1)]⟩, ⟨0, 3, 1, List.map eI q18⟩, ⟨0, 98, 3, List.map (eRDeclD 148 3) q50.2.1⟩, ⟨0, 102, 5, List.map (eRProcD 3 3 138 3 3) q50.2.2⟩, ⟨0, 37, 2, [[(.own 3 0 (List.length q50.2.1)), (.own 4 0 (List.length q50.2.2))]]⟩, ⟨0, 3, 1, List.map eI q54.2.1⟩, ⟨0, 76, 3, List.map (eCellD 3) q54.2.2.1⟩, ⟨0, 64, 6, List.map (eRFrameD 3 3 3) q54.2.2.2⟩, ⟨0, 42, 7, [[(i64 q22.status), (i64 q22.value), (i64 q22.calls), (i64 q22.most), (.own 6 0 (List.length q54.2.1)), (.own 7 0 (List.length q54.2.2.1)), (.own 8 0 (List.length q54.2.2.2))]]⟩, ⟨0, 3, 1, List.map eI q24⟩]) (by first | (simp only [Sh.put_len]; done) | simp only [Sh.put_len, ln51, ln52, ln55, ln56, ln57] | simp only [ln51, ln52, ln55, ln56, ln57])) ?_; exact Wk.permk (L := [(2, (.ptr 0 0 0 0)), (3, (.ptr 1 0 0 0)), (6, (.own 2 0 (List.length q18))), (9, (.own 3 0 (List.length q24))), (63, (.bool true))]) (st' := [⟨0, 25, 2, [(eRImage p0)]⟩, ⟨0, 30, 7, [(eRState p1)]⟩, ⟨0, 3, 1, List.map eI q18⟩, ⟨0, 3, 1, List.map eI q24⟩]) (st1 := [⟨0, 25, 2, [(eRImage p0)]⟩, ⟨0, 30, 7, [(eRState p1)]⟩, ⟨0, 3, 1, List.map eI q18⟩, ⟨0, 3, 1, List.map eI q24⟩]) [0, 1, 2, 10] rfl .nil (by decide) rfl rfl (.raw rfl rfl (.raw rfl rfl (.pure (pure_map fun _ => rfl) (.pure (pure_map fun _ => rfl) .nil)))) ⟨.rfl, .rfl, .rfl, .rfl, .rfl, trivial⟩))
      ·refine zg tb b106 rfl (zg tb b106 rfl (bs h1 fun q107 gq107 h1 => ao_callb (v' := (.bool q107)) (go1 rfl rfl b106) hb12 (laws_eqIntS_ok gq107) rfl (.own rfl rfl (fun _ => rfl) (.own rfl rfl (fun _ => rfl) .nil)) rfl trivial rfl rfl (zg tb b106 rfl (zf b106 rfl ?_))))
       exact AO.done (M61 (!q107) (Sh.some_eq h1).symm _ (by refine Wk.trans (Wk.steq (st := [⟨0, 25, 2, [(eRImage p0)]⟩, ⟨0, 30, 7, [(eRState p1)]⟩, ⟨0, 3, 1, List.map eI q18⟩, ⟨0, 98, 3, List.map (eRDeclD 148 3) q50.2.1⟩, ⟨0, 102, 5, List.map (eRProcD 3 3 138 3 3) q50.2.2⟩, ⟨0, 37, 2, [[(.own 3 0 (List.length q20.decls)), (.own 4 0 (List.length q20.procs))]]⟩, ⟨0, 3, 1, List.map eI q54.2.1⟩, ⟨0, 76, 3, List.map (eCellD 3) q54.2.2.1⟩, ⟨0, 64, 6, List.map (eRFrameD 3 3 3) q54.2.2.2⟩, ⟨0, 42, 7, [[(i64 q22.status), (i64 q22.value), (i64 q22.calls), (i64 q22.most), (.own 6 0 (List.length q22.out)), (.own 7 0 (List.length q22.heap)), (.own 8 0 (List.length q22.frames))]]⟩, ⟨0, 3, 1, List.map eI q24⟩]) (st' := [⟨0, 25, 2, [(eRImage p0)]⟩, ⟨0, 30, 7, [(eRState p1)]⟩, ⟨0, 3, 1, List.map eI q18⟩, ⟨0, 98, 3, List.map (eRDeclD 148 3) q50.2.1⟩, ⟨0, 102, 5, List.map (eRProcD 3 3 138 3 3) q50.2.2⟩, ⟨0, 37, 2, [[(.own 3 0 (List.length q50.2.1)), (.own 4 0 (List.length q50.2.2))]]⟩, ⟨0, 3, 1, List.map eI q54.2.1⟩, ⟨0, 76, 3, List.map (eCellD 3) q54.2.2.1⟩, ⟨0, 64, 6, List.map (eRFrameD 3 3 3) q54.2.2.2⟩, ⟨0, 42, 7, [[(i64 q22.status), (i64 q22.value), (i64 q22.calls), (i64 q22.most), (.own 6 0 (List.length q54.2.1)), (.own 7 0 (List.length q54.2.2.1)), (.own 8 0 (List.length q54.2.2.2))]]⟩, ⟨0, 3, 1, List.map eI q24⟩]) (by first | (simp only [Sh.put_len]; done) | simp only [Sh.put_len, ln51, ln52, ln55, ln56, ln57] | simp only [ln51, ln52, ln55, ln56, ln57])) ?_; exact Wk.permk (L := [(2, (.ptr 0 0 0 0)), (3, (.ptr 1 0 0 0)), (6, (.own 2 0 (List.length q18))), (9, (.own 3 0 (List.length q24))), (63, (.bool (!q107)))]) (st' := [⟨0, 25, 2, [(eRImage p0)]⟩, ⟨0, 30, 7, [(eRState p1)]⟩, ⟨0, 3, 1, List.map eI q18⟩, ⟨0, 3, 1, List.map eI q24⟩]) (st1 := [⟨0, 25, 2, [(eRImage p0)]⟩, ⟨0, 30, 7, [(eRState p1)]⟩, ⟨0, 3, 1, List.map eI q18⟩, ⟨0, 3, 1, List.map eI q24⟩]) [0, 1, 2, 10] rfl .nil (by decide) rfl rfl (.raw rfl rfl (.raw rfl rfl (.pure (pure_map fun _ => rfl) (.pure (pure_map fun _ => rfl) .nil)))) ⟨.rfl, .rfl, .rfl, .rfl, .rfl, trivial⟩))
end Go.Proofs.YtgcghdgbahfcjaaGreat

