import Derived.Test.YtobjlimoekffaaaProg
import Derived.Test.YtobjlimoekffaaaGEncCToLRDefs
import Derived.Test.YtobjlimoekffaaaLRWalkP0
namespace Go.Proofs.Ytobjlimoekffaaa
open Go Go.Abs RC
attribute [local irreducible] Go.Abs.dops
set_option maxRecDepth 100000
set_option maxHeartbeats 4000000

theorem ai108 : allInfo Try.prog 108 = true := by kernel_rfl
theorem ai117 : allInfo Try.prog 117 = true := by kernel_rfl
theorem ai83 : allInfo Try.prog 83 = true := by kernel_rfl
theorem bi108 : finfos Try.prog 108 = some [(0, 1), (1, 1), (2, 1)] := by kernel_rfl
theorem bi117 : finfos Try.prog 117 = some [(0, 1)] := by kernel_rfl
theorem bi83 : finfos Try.prog 83 = some [(0, 1), (1, 1)] := by kernel_rfl
theorem ei81 : einfo Try.prog 81 = some ⟨108, 3, 56, [.sl [], .sl [], .int .i64 0]⟩ := by kernel_rfl
theorem ei88 : einfo Try.prog 88 = some ⟨4, 1, 1, [.bool false]⟩ := by kernel_rfl
theorem hb39 : hasBody Try.prog 39 = true := by kernel_rfl
theorem hb40 : hasBody Try.prog 40 = true := by kernel_rfl
theorem hb42 : hasBody Try.prog 42 = true := by kernel_rfl
theorem hb60 : hasBody Try.prog 60 = true := by kernel_rfl
theorem hb61 : hasBody Try.prog 61 = true := by kernel_rfl
theorem hb62 : hasBody Try.prog 62 = true := by kernel_rfl
theorem hb63 : hasBody Try.prog 63 = true := by kernel_rfl
theorem hb64 : hasBody Try.prog 64 = true := by kernel_rfl
theorem hb65 : hasBody Try.prog 65 = true := by kernel_rfl
theorem hb78 : hasBody Try.prog 78 = true := by kernel_rfl
theorem hb79 : hasBody Try.prog 79 = true := by kernel_rfl
theorem hb80 : hasBody Try.prog 80 = true := by kernel_rfl
theorem hb81 : hasBody Try.prog 81 = true := by kernel_rfl
theorem hb82 : hasBody Try.prog 82 = true := by kernel_rfl
theorem hb83 : hasBody Try.prog 83 = true := by kernel_rfl
theorem hb84 : hasBody Try.prog 84 = true := by kernel_rfl
theorem hb88 : hasBody Try.prog 88 = true := by kernel_rfl
theorem sl76 : isSliceT Try.prog 76 = true := by kernel_rfl
theorem sl81 : isSliceT Try.prog 81 = true := by kernel_rfl
theorem ti108 : tinfo Try.prog 108 = some (true, 3) := by kernel_rfl
theorem ti71 : tinfo Try.prog 71 = some (false, 1) := by kernel_rfl
theorem ti81 : tinfo Try.prog 81 = some (false, 1) := by kernel_rfl
theorem ti83 : tinfo Try.prog 83 = some (true, 2) := by kernel_rfl
theorem zi108 : zinfo Try.prog 108 = some [.zc, .zc, .int .i64 0] := by kernel_rfl
theorem zi71 : zinfo Try.prog 71 = some [.nilf] := by kernel_rfl
theorem zi83 : zinfo Try.prog 83 = some [.zc, .zc] := by kernel_rfl

theorem laws_toConS_2_ok {N : Nat} {p0 : (List RCon)} {r : (List RCon)} (h0 : laws_toConS N p0 = some r) : ACalls Try.prog 57 [(ls eRCon p0)] [] (fun v st => v = (ow 0 0 r) ∧ st = [(ro 0 117 1 (eRConD 3) r)]) := by
 unfold laws_toConS at h0
 refine ai Try.func57 rfl rfl rfl rfl (zr tb rfl rfl (sr rfl fun K2 hK2 => zq tb rfl (zl tb rfl rfl (bs h0 fun l3 gl3 h0 => ao_maked (m := 0) (st' := [(ro 0 117 1 (eRConD 3) l3)]) (enc := (eRConD 3)) (u := (RCon.mk [])) ei76 rfl rfl ⟨.inr ⟨rfl, _, _, rfl, by decide⟩, trivial⟩ gl3 rfl rfl (zq tb rfl (dn hK2 rfl (AW.seq fun K4 hK4 => zr tb rfl rfl (bs h0 fun o9 h1 h0 => ?_))))))))
 have M9 : ∀ (l8 : (List RCon)), o9 = l8 → ∀ s, Wk 0 s ⟨23, envL [(3, (ow 0 0 l8))], [(ro 0 117 1 (eRConD 3) l8)]⟩ → K4 s := by
  intro l8 hq s hw
  subst o9
  try dsimp only at h0
  refine hK4 _ (AW.weaken hw (zr tb rfl rfl ?_))
  replace h0 := Sh.some_eq h0
  subst r
  exact AW.ret (xr (Wk.to (L := [(2, (ow 0 0 l8))]) ⟨.rfl, trivial⟩))
 refine AW.block (AW.loopF (σ := Int × (List RCon)) (fun n v => laws_toConS_L1 N p0 n v.1 v.2 = some o9) (fun (i6, l7) => ⟨23, envL [(0, (ls eRCon p0)), (3, (ow 0 0 l7)), (4, (i64 i6))], [(ro 0 117 1 (eRConD 3) l7)]⟩) N (0, l3) h1 (Wk.tr rfl) (fun _ hv => by rw [laws_toConS_L1] at hv; cases hv) ?_)
 rintro n ⟨i6, l7⟩ h1
 try dsimp only at h1 ⊢
 rw [laws_toConS_L1] at h1
 refine AW.seq fun K11 hK11 => sr rfl fun K12 hK12 => zm tb 2 rfl (zl tb rfl rfl (zq tb rfl (dn hK12 rfl ?_)))
 refine ci h1 rfl ?_ ?_ <;> clear h1
 ·intro b13 h1
  refine AW.skip (hK11 _ (AW.seq fun K14 hK14 => AW.block (AW.regionO rfl (zm tb 4 rfl (bs h1 fun c15 gc15 h1 => zx ei56 gc15 rfl rfl rfl (zq tb rfl (bs h1 fun q16 gq16 h1 => ao_call (v' := (.agg [(ow 1 0 q16.fields)])) (st' := [(ro 0 117 1 (eRConD 3) l7), (ro 0 3 1 eI q16.fields)]) go0 hb76 (laws_toCon_2_ok gq16) rfl rfl ⟨(pure_map' fun _ => rfl), trivial⟩ rfl rfl (bs h1 fun c17 gc17 h1 => zz (.ptr 0 0 (Int.toNat i6) 0) (aq_ixo ei76 rfl rfl rfl rfl gc17) rfl ?_))))))))
  refine ao_sth (st' := [⟨0, 117, 1, hole l7 (eRConD 3) i6 [(ow 1 0 q16.fields)]⟩, (ro 0 3 1 eI q16.fields)]) go0 ti117 rfl rfl gc17 rfl rfl rfl (show 1 ≤ 1 by decide) rfl rfl ?_
  refine AO.weaken (Wk.take (id := 0) (m := 1) (j := 0) (i := i6) (c := c17) (ys := q16.fields) (encY := eI) (x' := [(.dv 3 1 (List.map eI q16.fields))]) (st' := [⟨0, 117, 1, hole l7 (eRConD 3) i6 [(.dv 3 1 (List.map eI q16.fields))]⟩, ⟨1, 3, 1, []⟩]) rfl gc17 rfl rfl rfl (by decide) (show 0 ≤ 1 by decide) (fun _ => rfl) rfl rfl) ?_
  refine AO.weaken (Wk.filled (id := 0) (i := i6) (u := q16) (st' := [(ro 0 117 1 (eRConD 3) (Sh.put l7 i6 q16)), ⟨1, 3, 1, []⟩]) rfl rfl rfl) (dn hK14 rfl (AW.regionO rfl (zm tb 3 rfl ?_)))
  exact AO.done (xi (Sh.w (i6 + 1), Sh.put l7 i6 q16) h1 (by refine Wk.trans (Wk.permk (L := [(0, (.sl (List.map eRCon p0))), (3, (.own 0 0 (List.length l7))), (4, (i64 (Sh.w (i6 + 1))))]) (st' := [⟨0, 117, 1, List.map (eRConD 3) (Sh.put l7 i6 q16)⟩]) (st1 := [⟨0, 117, 1, List.map (eRConD 3) (Sh.put l7 i6 q16)⟩]) [0] rfl .nil (by decide) rfl rfl (.deep (pure_mapD fun _ => rfl) .nil) ⟨.rfl, .rfl, .rfl, trivial⟩) ?_; exact Wk.to (L := [(0, (.sl (List.map eRCon p0))), (3, (.own 0 0 (List.length (Sh.put l7 i6 q16)))), (4, (i64 (Sh.w (i6 + 1))))]) ⟨.rfl, (.len (by simp only [Sh.put_len])), .rfl, trivial⟩))
 ·intro b13 h1
  exact AW.exit (M9 l7 (Sh.some_eq h1).symm _ (Wk.tr rfl))
theorem laws_toDecl_2_ok {N : Nat} {p0 : RDecl} {r : RDecl} (h0 : laws_toDecl N p0 = some r) : ACalls Try.prog 37 [(.agg (eRDecl p0))] [] (fun v st => v = (.agg [(i64 r.from_), (i64 r.to), (ow 0 0 r.cons)]) ∧ st = [(ro 0 117 1 (eRConD 3) r.cons)]) := by
 unfold laws_toDecl at h0
 refine ACalls.wk (r0 := (.agg [(i64 r.from_), (i64 r.to), (ow 0 0 r.cons)])) (st0 := [(ro 0 117 1 (eRConD 3) r.cons), ⟨0, 78, 3, [[(i64 r.from_), (i64 r.to), (ow 0 0 r.cons)]]⟩]) ?_ (Wk.sel (L := [(0, (.agg [(i64 r.from_), (i64 r.to), (ow 0 0 r.cons)]))]) (st' := [(ro 0 117 1 (eRConD 3) r.cons)]) [0] rfl (by decide) rfl rfl (.deep (pure_mapD fun _ => rfl) trivial) ⟨.rfl, trivial⟩)
 refine ai Try.func37 rfl rfl rfl rfl (sr rfl fun K1 hK1 => ao_box (m := 0) (st' := [⟨0, 58, 3, [(eRDecl p0)]⟩]) go0 rfl rfl rfl rfl rfl (ao_alloc (m := 1) (st' := [⟨0, 58, 3, [(eRDecl p0)]⟩, ⟨0, 78, 3, [[(i64 0), (i64 0), .zc]]⟩]) go0 zi78 rfl rfl (dn hK1 rfl (sr rfl fun K2 hK2 => ao_alloc (m := 2) (st' := [⟨0, 58, 3, [(eRDecl p0)]⟩, ⟨0, 78, 3, [[(i64 0), (i64 0), .zc]]⟩, ⟨0, 78, 3, [[(i64 0), (i64 0), .zc]]⟩]) go0 zi78 rfl rfl (dn hK2 rfl (sr rfl fun K3 hK3 => zm tb 3 rfl (ao_str (st' := [⟨0, 58, 3, [(eRDecl p0)]⟩, ⟨0, 78, 3, [[(i64 0), (i64 0), .zc]]⟩, ⟨0, 78, 3, [[(i64 p0.from_), (i64 0), .zc]]⟩]) go0 ti3 rfl rfl rfl rfl rfl rfl (show 0 + 1 ≤ 3 by decide) rfl (dn hK3 rfl ?_))))))))
 refine sr rfl fun K4 hK4 => zm tb 3 rfl (ao_str (st' := [⟨0, 58, 3, [(eRDecl p0)]⟩, ⟨0, 78, 3, [[(i64 0), (i64 0), .zc]]⟩, ⟨0, 78, 3, [[(i64 p0.from_), (i64 p0.to), .zc]]⟩]) go0 ti3 rfl rfl rfl rfl rfl rfl (show 1 + 1 ≤ 3 by decide) rfl (dn hK4 rfl (sr rfl fun K5 hK5 => zm tb 2 rfl (bs h0 fun q6 gq6 h0 => ao_call (v' := (ow 3 0 q6)) (st' := [⟨0, 58, 3, [(eRDecl p0)]⟩, ⟨0, 78, 3, [[(i64 0), (i64 0), .zc]]⟩, ⟨0, 78, 3, [[(i64 p0.from_), (i64 p0.to), .zc]]⟩, (ro 0 117 1 (eRConD 3) q6)]) go0 hb57 (laws_toConS_2_ok gq6) rfl rfl ⟨(pure_mapD fun _ => rfl), trivial⟩ rfl rfl (zq tb rfl (ao_str (st' := [⟨0, 58, 3, [(eRDecl p0)]⟩, ⟨0, 78, 3, [[(i64 0), (i64 0), .zc]]⟩, ⟨0, 78, 3, [[(i64 p0.from_), (i64 p0.to), (ow 3 0 q6)]]⟩, (ro 0 117 1 (eRConD 3) q6)]) go0 ti76 rfl rfl rfl rfl rfl rfl (show 2 + 1 ≤ 3 by decide) rfl (dn hK5 rfl (sr rfl fun K7 hK7 => ?_))))))))
 refine zq tb rfl (ao_str (st' := [⟨0, 58, 3, [(eRDecl p0)]⟩, ⟨0, 78, 3, [[(i64 p0.from_), (i64 p0.to), (ow 3 0 q6)]]⟩, ⟨0, 78, 3, [[(i64 p0.from_), (i64 p0.to), (ow 3 0 q6)]]⟩, (ro 0 117 1 (eRConD 3) q6)]) go0 ti78 rfl rfl rfl rfl rfl rfl (show 0 + 3 ≤ 3 by decide) rfl (dn hK7 rfl ?_))
 replace h0 := Sh.some_eq h0
 subst r
 exact AW.ret (Exists.intro _ (And.intro ((Wk.permk (L := [(2, (.ptr 1 0 0 0))]) (st' := [(ro 0 117 1 (eRConD 3) q6), ⟨0, 78, 3, [[(i64 p0.from_), (i64 p0.to), (ow 0 0 q6)]]⟩]) (st1 := [(ro 0 117 1 (eRConD 3) q6), ⟨0, 78, 3, [[(i64 p0.from_), (i64 p0.to), (ow 3 0 q6)]]⟩]) [3, 1] rfl .nil (by decide) rfl rfl (.deep (pure_mapD fun _ => rfl) (.raw rfl rfl .nil)) ⟨.rfl, trivial⟩).trans (Wk.to (L := [(2, (.ptr 1 0 0 0))]) ⟨.rfl, trivial⟩)) (aq_ldpa (x := .tmp 2) (off := 0) (cs := [(i64 p0.from_), (i64 p0.to), (ow 0 0 q6)]) (vs := [(i64 p0.from_), (i64 p0.to), (ow 0 0 q6)]) ti78 rfl rfl rfl (show 0 + 3 ≤ 3 by decide) rfl _ ⟨rfl, rfl⟩)))
theorem laws_toDeclS_2_ok {N : Nat} {p0 : (List RDecl)} {r : (List RDecl)} (h0 : laws_toDeclS N p0 = some r) : ACalls Try.prog 19 [(ls eRDecl p0)] [] (fun v st => v = (ow 0 0 r) ∧ st = [(ro 0 78 3 (eRDeclD 117 3) r)]) := by
 unfold laws_toDeclS at h0
 refine ai Try.func19 rfl rfl rfl rfl (zr tb rfl rfl (sr rfl fun K2 hK2 => zq tb rfl (zl tb rfl rfl (bs h0 fun l3 gl3 h0 => ao_maked (m := 0) (st' := [(ro 0 78 3 (eRDeclD 117 3) l3)]) (enc := (eRDeclD 117 3)) (u := (RDecl.mk 0 0 [])) ei29 rfl rfl ⟨.inl ⟨rfl, rfl⟩, ⟨.inl ⟨rfl, rfl⟩, ⟨.inr ⟨rfl, _, _, rfl, by decide⟩, trivial⟩⟩⟩ gl3 rfl rfl (zq tb rfl (dn hK2 rfl (AW.seq fun K4 hK4 => zr tb rfl rfl (bs h0 fun o9 h1 h0 => ?_))))))))
 have M9 : ∀ (l8 : (List RDecl)), o9 = l8 → ∀ s, Wk 0 s ⟨23, envL [(3, (ow 0 0 l8))], [(ro 0 78 3 (eRDeclD 117 3) l8)]⟩ → K4 s := by
  intro l8 hq s hw
  subst o9
  try dsimp only at h0
  refine hK4 _ (AW.weaken hw (zr tb rfl rfl ?_))
  replace h0 := Sh.some_eq h0
  subst r
  exact AW.ret (xr (Wk.to (L := [(2, (ow 0 0 l8))]) ⟨.rfl, trivial⟩))
 refine AW.block (AW.loopF (σ := Int × (List RDecl)) (fun n v => laws_toDeclS_L1 N p0 n v.1 v.2 = some o9) (fun (i6, l7) => ⟨23, envL [(0, (ls eRDecl p0)), (3, (ow 0 0 l7)), (4, (i64 i6))], [(ro 0 78 3 (eRDeclD 117 3) l7)]⟩) N (0, l3) h1 (Wk.tr rfl) (fun _ hv => by rw [laws_toDeclS_L1] at hv; cases hv) ?_)
 rintro n ⟨i6, l7⟩ h1
 try dsimp only at h1 ⊢
 rw [laws_toDeclS_L1] at h1
 refine AW.seq fun K11 hK11 => sr rfl fun K12 hK12 => zm tb 2 rfl (zl tb rfl rfl (zq tb rfl (dn hK12 rfl ?_)))
 refine ci h1 rfl ?_ ?_ <;> clear h1
 ·intro b13 h1
  refine AW.skip (hK11 _ (AW.seq fun K14 hK14 => AW.block (AW.regionO rfl (zm tb 4 rfl (bs h1 fun c15 gc15 h1 => zx ei22 gc15 rfl rfl rfl (zq tb rfl (bs h1 fun q16 gq16 h1 => ao_call (v' := (.agg [(i64 q16.from_), (i64 q16.to), (ow 1 0 q16.cons)])) (st' := [(ro 0 78 3 (eRDeclD 117 3) l7), (ro 0 117 1 (eRConD 3) q16.cons)]) go0 hb37 (laws_toDecl_2_ok gq16) rfl rfl ⟨(pure_mapD fun _ => rfl), trivial⟩ rfl rfl (bs h1 fun c17 gc17 h1 => zz (.ptr 0 0 (Int.toNat i6) 0) (aq_ixo ei29 rfl rfl rfl rfl gc17) rfl ?_))))))))
  refine ao_sth (st' := [⟨0, 78, 3, hole l7 (eRDeclD 117 3) i6 [(i64 q16.from_), (i64 q16.to), (ow 1 0 q16.cons)]⟩, (ro 0 117 1 (eRConD 3) q16.cons)]) go0 ti78 rfl rfl gc17 rfl rfl rfl (show 3 ≤ 3 by decide) rfl rfl ?_
  refine AO.weaken (Wk.take (id := 0) (m := 1) (j := 2) (i := i6) (c := c17) (ys := q16.cons) (encY := (eRConD 3)) (x' := [(i64 q16.from_), (i64 q16.to), (.dv 117 1 (List.map (eRConD 3) q16.cons))]) (st' := [⟨0, 78, 3, hole l7 (eRDeclD 117 3) i6 [(i64 q16.from_), (i64 q16.to), (.dv 117 1 (List.map (eRConD 3) q16.cons))]⟩, ⟨1, 117, 1, []⟩]) rfl gc17 rfl rfl rfl (by decide) (show 0 ≤ 1 by decide) (fun _ => rfl) rfl rfl) ?_
  refine AO.weaken (Wk.filled (id := 0) (i := i6) (u := q16) (st' := [(ro 0 78 3 (eRDeclD 117 3) (Sh.put l7 i6 q16)), ⟨1, 117, 1, []⟩]) rfl rfl rfl) (dn hK14 rfl (AW.regionO rfl (zm tb 3 rfl ?_)))
  exact AO.done (xi (Sh.w (i6 + 1), Sh.put l7 i6 q16) h1 (by refine Wk.trans (Wk.permk (L := [(0, (.sl (List.map eRDecl p0))), (3, (.own 0 0 (List.length l7))), (4, (i64 (Sh.w (i6 + 1))))]) (st' := [⟨0, 78, 3, List.map (eRDeclD 117 3) (Sh.put l7 i6 q16)⟩]) (st1 := [⟨0, 78, 3, List.map (eRDeclD 117 3) (Sh.put l7 i6 q16)⟩]) [0] rfl .nil (by decide) rfl rfl (.deep (pure_mapD fun _ => rfl) .nil) ⟨.rfl, .rfl, .rfl, trivial⟩) ?_; exact Wk.to (L := [(0, (.sl (List.map eRDecl p0))), (3, (.own 0 0 (List.length (Sh.put l7 i6 q16)))), (4, (i64 (Sh.w (i6 + 1))))]) ⟨.rfl, (.len (by simp only [Sh.put_len])), .rfl, trivial⟩))
 ·intro b13 h1
  exact AW.exit (M9 l7 (Sh.some_eq h1).symm _ (Wk.tr rfl))
theorem laws_toInstr_2_ok {N : Nat} {p0 : RInstr} {r : RInstr} (h0 : laws_toInstr N p0 = some r) : ACalls Try.prog 77 [(.agg (eRInstr p0))] [] (fun v st => v = (.agg [(i64 r.op), (i64 r.dst), (i64 r.num), (i64 r.into), (ow 0 0 r.args), (ow 1 0 r.jumps)]) ∧ st = [(ro 0 3 1 eI r.args), (ro 0 3 1 eI r.jumps)]) := by
 unfold laws_toInstr at h0
 refine ACalls.wk (r0 := (.agg [(i64 r.op), (i64 r.dst), (i64 r.num), (i64 r.into), (ow 0 0 r.args), (ow 1 0 r.jumps)])) (st0 := [(ro 0 3 1 eI r.args), (ro 0 3 1 eI r.jumps), ⟨0, 73, 6, [[(i64 r.op), (i64 r.dst), (i64 r.num), (i64 r.into), (ow 0 0 r.args), (ow 1 0 r.jumps)]]⟩]) ?_ (Wk.sel (L := [(0, (.agg [(i64 r.op), (i64 r.dst), (i64 r.num), (i64 r.into), (ow 0 0 r.args), (ow 1 0 r.jumps)]))]) (st' := [(ro 0 3 1 eI r.args), (ro 0 3 1 eI r.jumps)]) [0, 1] rfl (by decide) rfl rfl (.pure (pure_map fun _ => rfl) (.pure (pure_map fun _ => rfl) trivial)) ⟨.rfl, trivial⟩)
 refine ai Try.func77 rfl rfl rfl rfl (sr rfl fun K1 hK1 => ao_box (m := 0) (st' := [⟨0, 121, 6, [(eRInstr p0)]⟩]) go0 rfl rfl rfl rfl rfl (ao_alloc (m := 1) (st' := [⟨0, 121, 6, [(eRInstr p0)]⟩, ⟨0, 73, 6, [[(i64 0), (i64 0), (i64 0), (i64 0), .zc, .zc]]⟩]) go0 zi73 rfl rfl (dn hK1 rfl (sr rfl fun K2 hK2 => ao_alloc (m := 2) (st' := [⟨0, 121, 6, [(eRInstr p0)]⟩, ⟨0, 73, 6, [[(i64 0), (i64 0), (i64 0), (i64 0), .zc, .zc]]⟩, ⟨0, 73, 6, [[(i64 0), (i64 0), (i64 0), (i64 0), .zc, .zc]]⟩]) go0 zi73 rfl rfl (dn hK2 rfl (sr rfl fun K3 hK3 => zm tb 3 rfl (ao_str (st' := [⟨0, 121, 6, [(eRInstr p0)]⟩, ⟨0, 73, 6, [[(i64 0), (i64 0), (i64 0), (i64 0), .zc, .zc]]⟩, ⟨0, 73, 6, [[(i64 p0.op), (i64 0), (i64 0), (i64 0), .zc, .zc]]⟩]) go0 ti3 rfl rfl rfl rfl rfl rfl (show 0 + 1 ≤ 6 by decide) rfl (dn hK3 rfl ?_))))))))
 refine sr rfl fun K4 hK4 => zm tb 3 rfl (ao_str (st' := [⟨0, 121, 6, [(eRInstr p0)]⟩, ⟨0, 73, 6, [[(i64 0), (i64 0), (i64 0), (i64 0), .zc, .zc]]⟩, ⟨0, 73, 6, [[(i64 p0.op), (i64 p0.dst), (i64 0), (i64 0), .zc, .zc]]⟩]) go0 ti3 rfl rfl rfl rfl rfl rfl (show 1 + 1 ≤ 6 by decide) rfl (dn hK4 rfl (sr rfl fun K5 hK5 => zm tb 3 rfl (ao_str (st' := [⟨0, 121, 6, [(eRInstr p0)]⟩, ⟨0, 73, 6, [[(i64 0), (i64 0), (i64 0), (i64 0), .zc, .zc]]⟩, ⟨0, 73, 6, [[(i64 p0.op), (i64 p0.dst), (i64 p0.num), (i64 0), .zc, .zc]]⟩]) go0 ti3 rfl rfl rfl rfl rfl rfl (show 2 + 1 ≤ 6 by decide) rfl (dn hK5 rfl (sr rfl fun K6 hK6 => zm tb 3 rfl (ao_str (st' := [⟨0, 121, 6, [(eRInstr p0)]⟩, ⟨0, 73, 6, [[(i64 0), (i64 0), (i64 0), (i64 0), .zc, .zc]]⟩, ⟨0, 73, 6, [[(i64 p0.op), (i64 p0.dst), (i64 p0.num), (i64 p0.into), .zc, .zc]]⟩]) go0 ti3 rfl rfl rfl rfl rfl rfl (show 3 + 1 ≤ 6 by decide) rfl (dn hK6 rfl ?_))))))))
 refine sr rfl fun K7 hK7 => zm tb 2 rfl (bs h0 fun q8 gq8 h0 => ao_call (v' := (ow 3 0 q8)) (st' := [⟨0, 121, 6, [(eRInstr p0)]⟩, ⟨0, 73, 6, [[(i64 0), (i64 0), (i64 0), (i64 0), .zc, .zc]]⟩, ⟨0, 73, 6, [[(i64 p0.op), (i64 p0.dst), (i64 p0.num), (i64 p0.into), .zc, .zc]]⟩, (ro 0 3 1 eI q8)]) go0 hb58 (laws_toIntS_ok gq8) rfl rfl ⟨(pure_map' fun _ => rfl), trivial⟩ rfl rfl (zq tb rfl (ao_str (st' := [⟨0, 121, 6, [(eRInstr p0)]⟩, ⟨0, 73, 6, [[(i64 0), (i64 0), (i64 0), (i64 0), .zc, .zc]]⟩, ⟨0, 73, 6, [[(i64 p0.op), (i64 p0.dst), (i64 p0.num), (i64 p0.into), (ow 3 0 q8), .zc]]⟩, (ro 0 3 1 eI q8)]) go0 ti27 rfl rfl rfl rfl rfl rfl (show 4 + 1 ≤ 6 by decide) rfl (dn hK7 rfl (sr rfl fun K9 hK9 => zm tb 2 rfl (bs h0 fun q10 gq10 h0 => ao_call (v' := (ow 4 0 q10)) (st' := [⟨0, 121, 6, [(eRInstr p0)]⟩, ⟨0, 73, 6, [[(i64 0), (i64 0), (i64 0), (i64 0), .zc, .zc]]⟩, ⟨0, 73, 6, [[(i64 p0.op), (i64 p0.dst), (i64 p0.num), (i64 p0.into), (ow 3 0 q8), .zc]]⟩, (ro 0 3 1 eI q8), (ro 0 3 1 eI q10)]) go0 hb58 (laws_toIntS_ok gq10) rfl rfl ⟨(pure_map' fun _ => rfl), trivial⟩ rfl rfl (zq tb rfl ?_)))))))
 refine ao_str (st' := [⟨0, 121, 6, [(eRInstr p0)]⟩, ⟨0, 73, 6, [[(i64 0), (i64 0), (i64 0), (i64 0), .zc, .zc]]⟩, ⟨0, 73, 6, [[(i64 p0.op), (i64 p0.dst), (i64 p0.num), (i64 p0.into), (ow 3 0 q8), (ow 4 0 q10)]]⟩, (ro 0 3 1 eI q8), (ro 0 3 1 eI q10)]) go0 ti27 rfl rfl rfl rfl rfl rfl (show 5 + 1 ≤ 6 by decide) rfl (dn hK9 rfl (sr rfl fun K11 hK11 => zq tb rfl (ao_str (st' := [⟨0, 121, 6, [(eRInstr p0)]⟩, ⟨0, 73, 6, [[(i64 p0.op), (i64 p0.dst), (i64 p0.num), (i64 p0.into), (ow 3 0 q8), (ow 4 0 q10)]]⟩, ⟨0, 73, 6, [[(i64 p0.op), (i64 p0.dst), (i64 p0.num), (i64 p0.into), (ow 3 0 q8), (ow 4 0 q10)]]⟩, (ro 0 3 1 eI q8), (ro 0 3 1 eI q10)]) go0 ti73 rfl rfl rfl rfl rfl rfl (show 0 + 6 ≤ 6 by decide) rfl (dn hK11 rfl ?_))))
 replace h0 := Sh.some_eq h0
 subst r
 exact AW.ret (Exists.intro _ (And.intro ((Wk.permk (L := [(2, (.ptr 2 0 0 0))]) (st' := [(ro 0 3 1 eI q8), (ro 0 3 1 eI q10), ⟨0, 73, 6, [[(i64 p0.op), (i64 p0.dst), (i64 p0.num), (i64 p0.into), (ow 0 0 q8), (ow 1 0 q10)]]⟩]) (st1 := [(ro 0 3 1 eI q8), (ro 0 3 1 eI q10), ⟨0, 73, 6, [[(i64 p0.op), (i64 p0.dst), (i64 p0.num), (i64 p0.into), (ow 3 0 q8), (ow 4 0 q10)]]⟩]) [3, 4, 1] rfl .nil (by decide) rfl rfl (.pure (pure_map fun _ => rfl) (.pure (pure_map fun _ => rfl) (.raw rfl rfl .nil))) ⟨.rfl, trivial⟩).trans (Wk.to (L := [(2, (.ptr 2 0 0 0))]) ⟨.rfl, trivial⟩)) (aq_ldpa (x := .tmp 2) (off := 0) (cs := [(i64 p0.op), (i64 p0.dst), (i64 p0.num), (i64 p0.into), (ow 0 0 q8), (ow 1 0 q10)]) (vs := [(i64 p0.op), (i64 p0.dst), (i64 p0.num), (i64 p0.into), (ow 0 0 q8), (ow 1 0 q10)]) ti73 rfl rfl rfl (show 0 + 6 ≤ 6 by decide) rfl _ ⟨rfl, rfl⟩)))
theorem laws_toInstrS_2_ok {N : Nat} {p0 : (List RInstr)} {r : (List RInstr)} (h0 : laws_toInstrS N p0 = some r) : ACalls Try.prog 59 [(ls eRInstr p0)] [] (fun v st => v = (ow 0 0 r) ∧ st = [(ro 0 73 6 (eRInstrD 3 3) r)]) := by
 unfold laws_toInstrS at h0
 refine ai Try.func59 rfl rfl rfl rfl (zr tb rfl rfl (sr rfl fun K2 hK2 => zq tb rfl (zl tb rfl rfl (bs h0 fun l3 gl3 h0 => ao_maked (m := 0) (st' := [(ro 0 73 6 (eRInstrD 3 3) l3)]) (enc := (eRInstrD 3 3)) (u := (RInstr.mk 0 0 0 0 [] [])) ei43 rfl rfl ⟨.inl ⟨rfl, rfl⟩, ⟨.inl ⟨rfl, rfl⟩, ⟨.inl ⟨rfl, rfl⟩, ⟨.inl ⟨rfl, rfl⟩, ⟨.inr ⟨rfl, _, _, rfl, by decide⟩, ⟨.inr ⟨rfl, _, _, rfl, by decide⟩, trivial⟩⟩⟩⟩⟩⟩ gl3 rfl rfl (zq tb rfl (dn hK2 rfl (AW.seq fun K4 hK4 => zr tb rfl rfl (bs h0 fun o9 h1 h0 => ?_))))))))
 have M9 : ∀ (l8 : (List RInstr)), o9 = l8 → ∀ s, Wk 0 s ⟨23, envL [(3, (ow 0 0 l8))], [(ro 0 73 6 (eRInstrD 3 3) l8)]⟩ → K4 s := by
  intro l8 hq s hw
  subst o9
  try dsimp only at h0
  refine hK4 _ (AW.weaken hw (zr tb rfl rfl ?_))
  replace h0 := Sh.some_eq h0
  subst r
  exact AW.ret (xr (Wk.to (L := [(2, (ow 0 0 l8))]) ⟨.rfl, trivial⟩))
 refine AW.block (AW.loopF (σ := Int × (List RInstr)) (fun n v => laws_toInstrS_L1 N p0 n v.1 v.2 = some o9) (fun (i6, l7) => ⟨23, envL [(0, (ls eRInstr p0)), (3, (ow 0 0 l7)), (4, (i64 i6))], [(ro 0 73 6 (eRInstrD 3 3) l7)]⟩) N (0, l3) h1 (Wk.tr rfl) (fun _ hv => by rw [laws_toInstrS_L1] at hv; cases hv) ?_)
 rintro n ⟨i6, l7⟩ h1
 try dsimp only at h1 ⊢
 rw [laws_toInstrS_L1] at h1
 refine AW.seq fun K11 hK11 => sr rfl fun K12 hK12 => zm tb 2 rfl (zl tb rfl rfl (zq tb rfl (dn hK12 rfl ?_)))
 refine ci h1 rfl ?_ ?_ <;> clear h1
 ·intro b13 h1
  refine AW.skip (hK11 _ (AW.seq fun K14 hK14 => AW.block (AW.regionO rfl (zm tb 4 rfl (bs h1 fun c15 gc15 h1 => zx ei60 gc15 rfl rfl rfl (zq tb rfl (bs h1 fun q16 gq16 h1 => ao_call (v' := (.agg [(i64 q16.op), (i64 q16.dst), (i64 q16.num), (i64 q16.into), (ow 1 0 q16.args), (ow 2 0 q16.jumps)])) (st' := [(ro 0 73 6 (eRInstrD 3 3) l7), (ro 0 3 1 eI q16.args), (ro 0 3 1 eI q16.jumps)]) go0 hb77 (laws_toInstr_2_ok gq16) rfl rfl ⟨(pure_map' fun _ => rfl), ⟨(pure_map' fun _ => rfl), trivial⟩⟩ rfl rfl (bs h1 fun c17 gc17 h1 => zz (.ptr 0 0 (Int.toNat i6) 0) (aq_ixo ei43 rfl rfl rfl rfl gc17) rfl ?_))))))))
  refine ao_sth (st' := [⟨0, 73, 6, hole l7 (eRInstrD 3 3) i6 [(i64 q16.op), (i64 q16.dst), (i64 q16.num), (i64 q16.into), (ow 1 0 q16.args), (ow 2 0 q16.jumps)]⟩, (ro 0 3 1 eI q16.args), (ro 0 3 1 eI q16.jumps)]) go0 ti73 rfl rfl gc17 rfl rfl rfl (show 6 ≤ 6 by decide) rfl rfl ?_
  refine AO.weaken (Wk.take (id := 0) (m := 1) (j := 4) (i := i6) (c := c17) (ys := q16.args) (encY := eI) (x' := [(i64 q16.op), (i64 q16.dst), (i64 q16.num), (i64 q16.into), (.dv 3 1 (List.map eI q16.args)), (ow 2 0 q16.jumps)]) (st' := [⟨0, 73, 6, hole l7 (eRInstrD 3 3) i6 [(i64 q16.op), (i64 q16.dst), (i64 q16.num), (i64 q16.into), (.dv 3 1 (List.map eI q16.args)), (ow 2 0 q16.jumps)]⟩, ⟨1, 3, 1, []⟩, (ro 0 3 1 eI q16.jumps)]) rfl gc17 rfl rfl rfl (by decide) (show 0 ≤ 1 by decide) (fun _ => rfl) rfl rfl) ?_
  refine AO.weaken (Wk.take (id := 0) (m := 2) (j := 5) (i := i6) (c := c17) (ys := q16.jumps) (encY := eI) (x' := [(i64 q16.op), (i64 q16.dst), (i64 q16.num), (i64 q16.into), (.dv 3 1 (List.map eI q16.args)), (.dv 3 1 (List.map eI q16.jumps))]) (st' := [⟨0, 73, 6, hole l7 (eRInstrD 3 3) i6 [(i64 q16.op), (i64 q16.dst), (i64 q16.num), (i64 q16.into), (.dv 3 1 (List.map eI q16.args)), (.dv 3 1 (List.map eI q16.jumps))]⟩, ⟨1, 3, 1, []⟩, ⟨1, 3, 1, []⟩]) rfl gc17 rfl rfl rfl (by decide) (show 0 ≤ 2 by decide) (fun _ => rfl) rfl rfl) ?_
  refine AO.weaken (Wk.filled (id := 0) (i := i6) (u := q16) (st' := [(ro 0 73 6 (eRInstrD 3 3) (Sh.put l7 i6 q16)), ⟨1, 3, 1, []⟩, ⟨1, 3, 1, []⟩]) rfl rfl rfl) (dn hK14 rfl (AW.regionO rfl (zm tb 3 rfl ?_)))
  exact AO.done (xi (Sh.w (i6 + 1), Sh.put l7 i6 q16) h1 (by refine Wk.trans (Wk.permk (L := [(0, (.sl (List.map eRInstr p0))), (3, (.own 0 0 (List.length l7))), (4, (i64 (Sh.w (i6 + 1))))]) (st' := [⟨0, 73, 6, List.map (eRInstrD 3 3) (Sh.put l7 i6 q16)⟩]) (st1 := [⟨0, 73, 6, List.map (eRInstrD 3 3) (Sh.put l7 i6 q16)⟩]) [0] rfl .nil (by decide) rfl rfl (.deep (pure_mapD fun _ => rfl) .nil) ⟨.rfl, .rfl, .rfl, trivial⟩) ?_; exact Wk.to (L := [(0, (.sl (List.map eRInstr p0))), (3, (.own 0 0 (List.length (Sh.put l7 i6 q16)))), (4, (i64 (Sh.w (i6 + 1))))]) ⟨.rfl, (.len (by simp only [Sh.put_len])), .rfl, trivial⟩))
 ·intro b13 h1
  exact AW.exit (M9 l7 (Sh.some_eq h1).symm _ (Wk.tr rfl))
theorem laws_toProc_2_ok {N : Nat} {p0 : RProc} {r : RProc} (h0 : laws_toProc N p0 = some r) : ACalls Try.prog 38 [(.agg (eRProc p0))] [] (fun v st => v = (.agg [(ow 0 0 r.params), (ow 1 0 r.lent), (i64 r.result), (i64 r.regs), (ow 2 0 r.code)]) ∧ st = [(ro 0 3 1 eI r.params), (ro 0 3 1 eI r.lent), (ro 0 73 6 (eRInstrD 3 3) r.code)]) := by
 unfold laws_toProc at h0
 refine ACalls.wk (r0 := (.agg [(ow 0 0 r.params), (ow 1 0 r.lent), (i64 r.result), (i64 r.regs), (ow 2 0 r.code)])) (st0 := [(ro 0 3 1 eI r.params), (ro 0 3 1 eI r.lent), (ro 0 73 6 (eRInstrD 3 3) r.code), ⟨0, 45, 5, [[(ow 0 0 r.params), (ow 1 0 r.lent), (i64 r.result), (i64 r.regs), (ow 2 0 r.code)]]⟩]) ?_ (Wk.sel (L := [(0, (.agg [(ow 0 0 r.params), (ow 1 0 r.lent), (i64 r.result), (i64 r.regs), (ow 2 0 r.code)]))]) (st' := [(ro 0 3 1 eI r.params), (ro 0 3 1 eI r.lent), (ro 0 73 6 (eRInstrD 3 3) r.code)]) [0, 1, 2] rfl (by decide) rfl rfl (.pure (pure_map fun _ => rfl) (.pure (pure_map fun _ => rfl) (.deep (pure_mapD fun _ => rfl) trivial))) ⟨.rfl, trivial⟩)
 refine ai Try.func38 rfl rfl rfl rfl (sr rfl fun K1 hK1 => ao_box (m := 0) (st' := [⟨0, 62, 5, [(eRProc p0)]⟩]) go0 rfl rfl rfl rfl rfl (ao_alloc (m := 1) (st' := [⟨0, 62, 5, [(eRProc p0)]⟩, ⟨0, 45, 5, [[.zc, .zc, (i64 0), (i64 0), .zc]]⟩]) go0 zi45 rfl rfl (dn hK1 rfl (sr rfl fun K2 hK2 => ao_alloc (m := 2) (st' := [⟨0, 62, 5, [(eRProc p0)]⟩, ⟨0, 45, 5, [[.zc, .zc, (i64 0), (i64 0), .zc]]⟩, ⟨0, 45, 5, [[.zc, .zc, (i64 0), (i64 0), .zc]]⟩]) go0 zi45 rfl rfl (dn hK2 rfl (sr rfl fun K3 hK3 => zm tb 2 rfl (bs h0 fun q4 gq4 h0 => ao_call (v' := (ow 3 0 q4)) (st' := [⟨0, 62, 5, [(eRProc p0)]⟩, ⟨0, 45, 5, [[.zc, .zc, (i64 0), (i64 0), .zc]]⟩, ⟨0, 45, 5, [[.zc, .zc, (i64 0), (i64 0), .zc]]⟩, (ro 0 3 1 eI q4)]) go0 hb58 (laws_toIntS_ok gq4) rfl rfl ⟨(pure_map' fun _ => rfl), trivial⟩ rfl rfl ?_)))))))
 refine zq tb rfl (ao_str (st' := [⟨0, 62, 5, [(eRProc p0)]⟩, ⟨0, 45, 5, [[.zc, .zc, (i64 0), (i64 0), .zc]]⟩, ⟨0, 45, 5, [[(ow 3 0 q4), .zc, (i64 0), (i64 0), .zc]]⟩, (ro 0 3 1 eI q4)]) go0 ti27 rfl rfl rfl rfl rfl rfl (show 0 + 1 ≤ 5 by decide) rfl (dn hK3 rfl (sr rfl fun K5 hK5 => zm tb 2 rfl (bs h0 fun q6 gq6 h0 => ao_call (v' := (ow 4 0 q6)) (st' := [⟨0, 62, 5, [(eRProc p0)]⟩, ⟨0, 45, 5, [[.zc, .zc, (i64 0), (i64 0), .zc]]⟩, ⟨0, 45, 5, [[(ow 3 0 q4), .zc, (i64 0), (i64 0), .zc]]⟩, (ro 0 3 1 eI q4), (ro 0 3 1 eI q6)]) go0 hb58 (laws_toIntS_ok gq6) rfl rfl ⟨(pure_map' fun _ => rfl), trivial⟩ rfl rfl (zq tb rfl (ao_str (st' := [⟨0, 62, 5, [(eRProc p0)]⟩, ⟨0, 45, 5, [[.zc, .zc, (i64 0), (i64 0), .zc]]⟩, ⟨0, 45, 5, [[(ow 3 0 q4), (ow 4 0 q6), (i64 0), (i64 0), .zc]]⟩, (ro 0 3 1 eI q4), (ro 0 3 1 eI q6)]) go0 ti27 rfl rfl rfl rfl rfl rfl (show 1 + 1 ≤ 5 by decide) rfl (dn hK5 rfl (sr rfl fun K7 hK7 => zm tb 3 rfl ?_))))))))
 refine ao_str (st' := [⟨0, 62, 5, [(eRProc p0)]⟩, ⟨0, 45, 5, [[.zc, .zc, (i64 0), (i64 0), .zc]]⟩, ⟨0, 45, 5, [[(ow 3 0 q4), (ow 4 0 q6), (i64 p0.result), (i64 0), .zc]]⟩, (ro 0 3 1 eI q4), (ro 0 3 1 eI q6)]) go0 ti3 rfl rfl rfl rfl rfl rfl (show 2 + 1 ≤ 5 by decide) rfl (dn hK7 rfl (sr rfl fun K8 hK8 => zm tb 3 rfl (ao_str (st' := [⟨0, 62, 5, [(eRProc p0)]⟩, ⟨0, 45, 5, [[.zc, .zc, (i64 0), (i64 0), .zc]]⟩, ⟨0, 45, 5, [[(ow 3 0 q4), (ow 4 0 q6), (i64 p0.result), (i64 p0.regs), .zc]]⟩, (ro 0 3 1 eI q4), (ro 0 3 1 eI q6)]) go0 ti3 rfl rfl rfl rfl rfl rfl (show 3 + 1 ≤ 5 by decide) rfl (dn hK8 rfl (sr rfl fun K9 hK9 => zm tb 2 rfl (bs h0 fun q10 gq10 h0 => ao_call (v' := (ow 5 0 q10)) (st' := [⟨0, 62, 5, [(eRProc p0)]⟩, ⟨0, 45, 5, [[.zc, .zc, (i64 0), (i64 0), .zc]]⟩, ⟨0, 45, 5, [[(ow 3 0 q4), (ow 4 0 q6), (i64 p0.result), (i64 p0.regs), .zc]]⟩, (ro 0 3 1 eI q4), (ro 0 3 1 eI q6), (ro 0 73 6 (eRInstrD 3 3) q10)]) go0 hb59 (laws_toInstrS_2_ok gq10) rfl rfl ⟨(pure_mapD fun _ => rfl), trivial⟩ rfl rfl (zq tb rfl (ao_str (st' := [⟨0, 62, 5, [(eRProc p0)]⟩, ⟨0, 45, 5, [[.zc, .zc, (i64 0), (i64 0), .zc]]⟩, ⟨0, 45, 5, [[(ow 3 0 q4), (ow 4 0 q6), (i64 p0.result), (i64 p0.regs), (ow 5 0 q10)]]⟩, (ro 0 3 1 eI q4), (ro 0 3 1 eI q6), (ro 0 73 6 (eRInstrD 3 3) q10)]) go0 ti43 rfl rfl rfl rfl rfl rfl (show 4 + 1 ≤ 5 by decide) rfl ?_))))))))
 refine dn hK9 rfl (sr rfl fun K11 hK11 => zq tb rfl (ao_str (st' := [⟨0, 62, 5, [(eRProc p0)]⟩, ⟨0, 45, 5, [[(ow 3 0 q4), (ow 4 0 q6), (i64 p0.result), (i64 p0.regs), (ow 5 0 q10)]]⟩, ⟨0, 45, 5, [[(ow 3 0 q4), (ow 4 0 q6), (i64 p0.result), (i64 p0.regs), (ow 5 0 q10)]]⟩, (ro 0 3 1 eI q4), (ro 0 3 1 eI q6), (ro 0 73 6 (eRInstrD 3 3) q10)]) go0 ti45 rfl rfl rfl rfl rfl rfl (show 0 + 5 ≤ 5 by decide) rfl (dn hK11 rfl ?_)))
 replace h0 := Sh.some_eq h0
 subst r
 exact AW.ret (Exists.intro _ (And.intro ((Wk.permk (L := [(2, (.ptr 3 0 0 0))]) (st' := [(ro 0 3 1 eI q4), (ro 0 3 1 eI q6), (ro 0 73 6 (eRInstrD 3 3) q10), ⟨0, 45, 5, [[(ow 0 0 q4), (ow 1 0 q6), (i64 p0.result), (i64 p0.regs), (ow 2 0 q10)]]⟩]) (st1 := [(ro 0 3 1 eI q4), (ro 0 3 1 eI q6), (ro 0 73 6 (eRInstrD 3 3) q10), ⟨0, 45, 5, [[(ow 3 0 q4), (ow 4 0 q6), (i64 p0.result), (i64 p0.regs), (ow 5 0 q10)]]⟩]) [3, 4, 5, 1] rfl .nil (by decide) rfl rfl (.pure (pure_map fun _ => rfl) (.pure (pure_map fun _ => rfl) (.deep (pure_mapD fun _ => rfl) (.raw rfl rfl .nil)))) ⟨.rfl, trivial⟩).trans (Wk.to (L := [(2, (.ptr 3 0 0 0))]) ⟨.rfl, trivial⟩)) (aq_ldpa (x := .tmp 2) (off := 0) (cs := [(ow 0 0 q4), (ow 1 0 q6), (i64 p0.result), (i64 p0.regs), (ow 2 0 q10)]) (vs := [(ow 0 0 q4), (ow 1 0 q6), (i64 p0.result), (i64 p0.regs), (ow 2 0 q10)]) ti45 rfl rfl rfl (show 0 + 5 ≤ 5 by decide) rfl _ ⟨rfl, rfl⟩)))
theorem laws_toProcS_2_ok {N : Nat} {p0 : (List RProc)} {r : (List RProc)} (h0 : laws_toProcS N p0 = some r) : ACalls Try.prog 20 [(ls eRProc p0)] [] (fun v st => v = (ow 0 0 r) ∧ st = [(ro 0 45 5 (eRProcD 3 3 73 3 3) r)]) := by
 unfold laws_toProcS at h0
 refine ai Try.func20 rfl rfl rfl rfl (zr tb rfl rfl (sr rfl fun K2 hK2 => zq tb rfl (zl tb rfl rfl (bs h0 fun l3 gl3 h0 => ao_maked (m := 0) (st' := [(ro 0 45 5 (eRProcD 3 3 73 3 3) l3)]) (enc := (eRProcD 3 3 73 3 3)) (u := (RProc.mk [] [] 0 0 [])) ei30 rfl rfl ⟨.inr ⟨rfl, _, _, rfl, by decide⟩, ⟨.inr ⟨rfl, _, _, rfl, by decide⟩, ⟨.inl ⟨rfl, rfl⟩, ⟨.inl ⟨rfl, rfl⟩, ⟨.inr ⟨rfl, _, _, rfl, by decide⟩, trivial⟩⟩⟩⟩⟩ gl3 rfl rfl (zq tb rfl (dn hK2 rfl (AW.seq fun K4 hK4 => zr tb rfl rfl (bs h0 fun o9 h1 h0 => ?_))))))))
 have M9 : ∀ (l8 : (List RProc)), o9 = l8 → ∀ s, Wk 0 s ⟨23, envL [(3, (ow 0 0 l8))], [(ro 0 45 5 (eRProcD 3 3 73 3 3) l8)]⟩ → K4 s := by
  intro l8 hq s hw
  subst o9
  try dsimp only at h0
  refine hK4 _ (AW.weaken hw (zr tb rfl rfl ?_))
  replace h0 := Sh.some_eq h0
  subst r
  exact AW.ret (xr (Wk.to (L := [(2, (ow 0 0 l8))]) ⟨.rfl, trivial⟩))
 refine AW.block (AW.loopF (σ := Int × (List RProc)) (fun n v => laws_toProcS_L1 N p0 n v.1 v.2 = some o9) (fun (i6, l7) => ⟨23, envL [(0, (ls eRProc p0)), (3, (ow 0 0 l7)), (4, (i64 i6))], [(ro 0 45 5 (eRProcD 3 3 73 3 3) l7)]⟩) N (0, l3) h1 (Wk.tr rfl) (fun _ hv => by rw [laws_toProcS_L1] at hv; cases hv) ?_)
 rintro n ⟨i6, l7⟩ h1
 try dsimp only at h1 ⊢
 rw [laws_toProcS_L1] at h1
 refine AW.seq fun K11 hK11 => sr rfl fun K12 hK12 => zm tb 2 rfl (zl tb rfl rfl (zq tb rfl (dn hK12 rfl ?_)))
 refine ci h1 rfl ?_ ?_ <;> clear h1
 ·intro b13 h1
  refine AW.skip (hK11 _ (AW.seq fun K14 hK14 => AW.block (AW.regionO rfl (zm tb 4 rfl (bs h1 fun c15 gc15 h1 => zx ei23 gc15 rfl rfl rfl (zq tb rfl (bs h1 fun q16 gq16 h1 => ao_call (v' := (.agg [(ow 1 0 q16.params), (ow 2 0 q16.lent), (i64 q16.result), (i64 q16.regs), (ow 3 0 q16.code)])) (st' := [(ro 0 45 5 (eRProcD 3 3 73 3 3) l7), (ro 0 3 1 eI q16.params), (ro 0 3 1 eI q16.lent), (ro 0 73 6 (eRInstrD 3 3) q16.code)]) go0 hb38 (laws_toProc_2_ok gq16) rfl rfl ⟨(pure_map' fun _ => rfl), ⟨(pure_map' fun _ => rfl), ⟨(pure_mapD fun _ => rfl), trivial⟩⟩⟩ rfl rfl (bs h1 fun c17 gc17 h1 => zz (.ptr 0 0 (Int.toNat i6) 0) (aq_ixo ei30 rfl rfl rfl rfl gc17) rfl ?_))))))))
  refine ao_sth (st' := [⟨0, 45, 5, hole l7 (eRProcD 3 3 73 3 3) i6 [(ow 1 0 q16.params), (ow 2 0 q16.lent), (i64 q16.result), (i64 q16.regs), (ow 3 0 q16.code)]⟩, (ro 0 3 1 eI q16.params), (ro 0 3 1 eI q16.lent), (ro 0 73 6 (eRInstrD 3 3) q16.code)]) go0 ti45 rfl rfl gc17 rfl rfl rfl (show 5 ≤ 5 by decide) rfl rfl ?_
  refine AO.weaken (Wk.take (id := 0) (m := 1) (j := 0) (i := i6) (c := c17) (ys := q16.params) (encY := eI) (x' := [(.dv 3 1 (List.map eI q16.params)), (ow 2 0 q16.lent), (i64 q16.result), (i64 q16.regs), (ow 3 0 q16.code)]) (st' := [⟨0, 45, 5, hole l7 (eRProcD 3 3 73 3 3) i6 [(.dv 3 1 (List.map eI q16.params)), (ow 2 0 q16.lent), (i64 q16.result), (i64 q16.regs), (ow 3 0 q16.code)]⟩, ⟨1, 3, 1, []⟩, (ro 0 3 1 eI q16.lent), (ro 0 73 6 (eRInstrD 3 3) q16.code)]) rfl gc17 rfl rfl rfl (by decide) (show 0 ≤ 1 by decide) (fun _ => rfl) rfl rfl) ?_
  refine AO.weaken (Wk.take (id := 0) (m := 2) (j := 1) (i := i6) (c := c17) (ys := q16.lent) (encY := eI) (x' := [(.dv 3 1 (List.map eI q16.params)), (.dv 3 1 (List.map eI q16.lent)), (i64 q16.result), (i64 q16.regs), (ow 3 0 q16.code)]) (st' := [⟨0, 45, 5, hole l7 (eRProcD 3 3 73 3 3) i6 [(.dv 3 1 (List.map eI q16.params)), (.dv 3 1 (List.map eI q16.lent)), (i64 q16.result), (i64 q16.regs), (ow 3 0 q16.code)]⟩, ⟨1, 3, 1, []⟩, ⟨1, 3, 1, []⟩, (ro 0 73 6 (eRInstrD 3 3) q16.code)]) rfl gc17 rfl rfl rfl (by decide) (show 0 ≤ 2 by decide) (fun _ => rfl) rfl rfl) ?_
  refine AO.weaken (Wk.take (id := 0) (m := 3) (j := 4) (i := i6) (c := c17) (ys := q16.code) (encY := (eRInstrD 3 3)) (x' := [(.dv 3 1 (List.map eI q16.params)), (.dv 3 1 (List.map eI q16.lent)), (i64 q16.result), (i64 q16.regs), (.dv 73 6 (List.map (eRInstrD 3 3) q16.code))]) (st' := [⟨0, 45, 5, hole l7 (eRProcD 3 3 73 3 3) i6 [(.dv 3 1 (List.map eI q16.params)), (.dv 3 1 (List.map eI q16.lent)), (i64 q16.result), (i64 q16.regs), (.dv 73 6 (List.map (eRInstrD 3 3) q16.code))]⟩, ⟨1, 3, 1, []⟩, ⟨1, 3, 1, []⟩, ⟨1, 73, 6, []⟩]) rfl gc17 rfl rfl rfl (by decide) (show 0 ≤ 3 by decide) (fun _ => rfl) rfl rfl) ?_
  refine AO.weaken (Wk.filled (id := 0) (i := i6) (u := q16) (st' := [(ro 0 45 5 (eRProcD 3 3 73 3 3) (Sh.put l7 i6 q16)), ⟨1, 3, 1, []⟩, ⟨1, 3, 1, []⟩, ⟨1, 73, 6, []⟩]) rfl rfl rfl) (dn hK14 rfl (AW.regionO rfl (zm tb 3 rfl ?_)))
  exact AO.done (xi (Sh.w (i6 + 1), Sh.put l7 i6 q16) h1 (by refine Wk.trans (Wk.permk (L := [(0, (.sl (List.map eRProc p0))), (3, (.own 0 0 (List.length l7))), (4, (i64 (Sh.w (i6 + 1))))]) (st' := [⟨0, 45, 5, List.map (eRProcD 3 3 73 3 3) (Sh.put l7 i6 q16)⟩]) (st1 := [⟨0, 45, 5, List.map (eRProcD 3 3 73 3 3) (Sh.put l7 i6 q16)⟩]) [0] rfl .nil (by decide) rfl rfl (.deep (pure_mapD fun _ => rfl) .nil) ⟨.rfl, .rfl, .rfl, trivial⟩) ?_; exact Wk.to (L := [(0, (.sl (List.map eRProc p0))), (3, (.own 0 0 (List.length (Sh.put l7 i6 q16)))), (4, (i64 (Sh.w (i6 + 1))))]) ⟨.rfl, (.len (by simp only [Sh.put_len])), .rfl, trivial⟩))
 ·intro b13 h1
  exact AW.exit (M9 l7 (Sh.some_eq h1).symm _ (Wk.tr rfl))
theorem laws_toImage_2_ok {N : Nat} {p0 : RImage} {r : RImage} (h0 : laws_toImage N p0 = some r) : ACalls Try.prog 6 [(.agg (eRImage p0))] [] (fun v st => v = (.agg [(ow 0 0 r.decls), (ow 1 0 r.procs)]) ∧ st = [(ro 0 78 3 (eRDeclD 117 3) r.decls), (ro 0 45 5 (eRProcD 3 3 73 3 3) r.procs)]) := by
 unfold laws_toImage at h0
 refine ACalls.wk (r0 := (.agg [(ow 0 0 r.decls), (ow 1 0 r.procs)])) (st0 := [(ro 0 78 3 (eRDeclD 117 3) r.decls), (ro 0 45 5 (eRProcD 3 3 73 3 3) r.procs), ⟨0, 32, 2, [[(ow 0 0 r.decls), (ow 1 0 r.procs)]]⟩]) ?_ (Wk.sel (L := [(0, (.agg [(ow 0 0 r.decls), (ow 1 0 r.procs)]))]) (st' := [(ro 0 78 3 (eRDeclD 117 3) r.decls), (ro 0 45 5 (eRProcD 3 3 73 3 3) r.procs)]) [0, 1] rfl (by decide) rfl rfl (.deep (pure_mapD fun _ => rfl) (.deep (pure_mapD fun _ => rfl) trivial)) ⟨.rfl, trivial⟩)
 refine ai Try.func6 rfl rfl rfl rfl (sr rfl fun K1 hK1 => ao_box (m := 0) (st' := [⟨0, 25, 2, [(eRImage p0)]⟩]) go0 rfl rfl rfl rfl rfl (ao_alloc (m := 1) (st' := [⟨0, 25, 2, [(eRImage p0)]⟩, ⟨0, 32, 2, [[.zc, .zc]]⟩]) go0 zi32 rfl rfl (dn hK1 rfl (sr rfl fun K2 hK2 => ao_alloc (m := 2) (st' := [⟨0, 25, 2, [(eRImage p0)]⟩, ⟨0, 32, 2, [[.zc, .zc]]⟩, ⟨0, 32, 2, [[.zc, .zc]]⟩]) go0 zi32 rfl rfl (dn hK2 rfl (sr rfl fun K3 hK3 => zm tb 2 rfl (bs h0 fun q4 gq4 h0 => ao_call (v' := (ow 3 0 q4)) (st' := [⟨0, 25, 2, [(eRImage p0)]⟩, ⟨0, 32, 2, [[.zc, .zc]]⟩, ⟨0, 32, 2, [[.zc, .zc]]⟩, (ro 0 78 3 (eRDeclD 117 3) q4)]) go0 hb19 (laws_toDeclS_2_ok gq4) rfl rfl ⟨(pure_mapD fun _ => rfl), trivial⟩ rfl rfl ?_)))))))
 refine zq tb rfl (ao_str (st' := [⟨0, 25, 2, [(eRImage p0)]⟩, ⟨0, 32, 2, [[.zc, .zc]]⟩, ⟨0, 32, 2, [[(ow 3 0 q4), .zc]]⟩, (ro 0 78 3 (eRDeclD 117 3) q4)]) go0 ti29 rfl rfl rfl rfl rfl rfl (show 0 + 1 ≤ 2 by decide) rfl (dn hK3 rfl (sr rfl fun K5 hK5 => zm tb 2 rfl (bs h0 fun q6 gq6 h0 => ao_call (v' := (ow 4 0 q6)) (st' := [⟨0, 25, 2, [(eRImage p0)]⟩, ⟨0, 32, 2, [[.zc, .zc]]⟩, ⟨0, 32, 2, [[(ow 3 0 q4), .zc]]⟩, (ro 0 78 3 (eRDeclD 117 3) q4), (ro 0 45 5 (eRProcD 3 3 73 3 3) q6)]) go0 hb20 (laws_toProcS_2_ok gq6) rfl rfl ⟨(pure_mapD fun _ => rfl), trivial⟩ rfl rfl (zq tb rfl (ao_str (st' := [⟨0, 25, 2, [(eRImage p0)]⟩, ⟨0, 32, 2, [[.zc, .zc]]⟩, ⟨0, 32, 2, [[(ow 3 0 q4), (ow 4 0 q6)]]⟩, (ro 0 78 3 (eRDeclD 117 3) q4), (ro 0 45 5 (eRProcD 3 3 73 3 3) q6)]) go0 ti30 rfl rfl rfl rfl rfl rfl (show 1 + 1 ≤ 2 by decide) rfl (dn hK5 rfl (sr rfl fun K7 hK7 => zq tb rfl ?_))))))))
 refine ao_str (st' := [⟨0, 25, 2, [(eRImage p0)]⟩, ⟨0, 32, 2, [[(ow 3 0 q4), (ow 4 0 q6)]]⟩, ⟨0, 32, 2, [[(ow 3 0 q4), (ow 4 0 q6)]]⟩, (ro 0 78 3 (eRDeclD 117 3) q4), (ro 0 45 5 (eRProcD 3 3 73 3 3) q6)]) go0 ti32 rfl rfl rfl rfl rfl rfl (show 0 + 2 ≤ 2 by decide) rfl (dn hK7 rfl ?_)
 replace h0 := Sh.some_eq h0
 subst r
 exact AW.ret (Exists.intro _ (And.intro ((Wk.permk (L := [(2, (.ptr 2 0 0 0))]) (st' := [(ro 0 78 3 (eRDeclD 117 3) q4), (ro 0 45 5 (eRProcD 3 3 73 3 3) q6), ⟨0, 32, 2, [[(ow 0 0 q4), (ow 1 0 q6)]]⟩]) (st1 := [(ro 0 78 3 (eRDeclD 117 3) q4), (ro 0 45 5 (eRProcD 3 3 73 3 3) q6), ⟨0, 32, 2, [[(ow 3 0 q4), (ow 4 0 q6)]]⟩]) [3, 4, 1] rfl .nil (by decide) rfl rfl (.deep (pure_mapD fun _ => rfl) (.deep (pure_mapD fun _ => rfl) (.raw rfl rfl .nil))) ⟨.rfl, trivial⟩).trans (Wk.to (L := [(2, (.ptr 2 0 0 0))]) ⟨.rfl, trivial⟩)) (aq_ldpa (x := .tmp 2) (off := 0) (cs := [(ow 0 0 q4), (ow 1 0 q6)]) (vs := [(ow 0 0 q4), (ow 1 0 q6)]) ti32 rfl rfl rfl (show 0 + 2 ≤ 2 by decide) rfl _ ⟨rfl, rfl⟩)))
theorem impl_isType_ok {p0 : (List RDecl)} {p1 : Int} {r : Bool} (h0 : impl_isType p0 p1 = some r) : ACalls Try.prog 80 [(ls eRDecl p0), (i64 p1)] [] (fun v st => v = (.bool r) ∧ st = []) := by
 unfold impl_isType at h0
 refine ai Try.func80 rfl rfl rfl rfl (zr tb rfl rfl (AW.seq fun K2 hK2 => bs h0 fun o4 h1 h0 => ?_))
 have M4 : ∀ (t3 : Bool), o4 = t3 → ∀ s, Wk 0 s ⟨13, envL [(4, (.bool t3))], []⟩ → K2 s := by
  intro t3 hq s hw
  subst o4
  try dsimp only at h0
  refine hK2 _ (AW.weaken hw ?_)
  replace h0 := Sh.some_eq h0
  subst r
  exact AW.ret (xr (Wk.to (L := [(4, (.bool t3))]) ⟨.rfl, trivial⟩))
 refine AW.regionO rfl (zm tb 3 rfl ?_)
 rcases Sh.ite_some h1 with ⟨b5, h1⟩ | ⟨b5, h1⟩
 ·exact zg tb b5 rfl (zg tb b5 rfl (ao_q (v := (i64 (Sh.len p0))) (go1 rfl rfl b5) rfl (aq_lens sl29 rfl) (zg tb b5 rfl (zt b5 rfl (zq tb rfl (AO.done (M4 (decide (p1 ≤ (Sh.len p0))) (Sh.some_eq h1).symm _ (Wk.tr rfl))))))))
 ·refine zs b5 rfl ?_
  iterate 3 refine zs b5 rfl ?_
  exact zf b5 rfl (zq tb rfl (AO.done (M4 false (Sh.some_eq h1).symm _ (Wk.tr rfl))))
theorem impl_allTypes_ok {N : Nat} {p0 : (List RDecl)} {p1 : (List Int)} {r : Bool} (h0 : impl_allTypes N p0 p1 = some r) : ACalls Try.prog 79 [(ls eRDecl p0), (ls eI p1)] [] (fun v st => v = (.bool r) ∧ st = []) := by
 unfold impl_allTypes at h0
 refine ai Try.func79 rfl rfl rfl rfl (zr tb rfl rfl (AW.seq fun K2 hK2 => sr rfl fun K3 hK3 => zq tb rfl (zl tb rfl rfl (zq tb rfl (dn hK3 rfl ?_)))))
 obtain ⟨o5, h1, h0⟩ := Sh.cont_some h0
 have M5 : ∀ (_ : Unit), o5 = Sum.inr () → ∀ s, Wk 0 s ⟨18, envL [], []⟩ → K2 s := by
  intro _ hq s hw
  subst o5
  try dsimp only at h0
  refine hK2 _ (AW.weaken hw (zr tb rfl rfl ?_))
  replace h0 := Sh.some_eq h0
  subst r
  exact AW.ret (xr (Wk.to (L := [(4, (.bool true))]) ⟨.rfl, trivial⟩))
 refine AW.block (AW.loopF (σ := Int) (fun n v => impl_allTypes_L1 p0 p1 n v = some o5) (fun t4 => ⟨18, envL [(0, (ls eRDecl p0)), (7, (ls eI p1)), (8, (i64 (Sh.len p1))), (9, (i64 t4))], []⟩) N 0 h1 (Wk.tr rfl) (fun _ hv => by rw [impl_allTypes_L1] at hv; cases hv) ?_)
 rintro n t4 h1
 try dsimp only at h1 ⊢
 rw [impl_allTypes_L1] at h1
 refine zr tb rfl rfl (AW.seq fun K8 hK8 => ?_)
 refine ci h1 rfl ?_ ?_ <;> clear h1
 ·intro b9 h1
  refine AW.skip (hK8 _ (AW.seq fun K10 hK10 => AW.block (sr rfl fun K11 hK11 => bs h1 fun c12 gc12 h1 => zx ei27 gc12 rfl rfl rfl (zm tb 2 rfl (dn hK11 rfl (sr rfl fun K13 hK13 => zm tb 2 rfl (bs h1 fun q14 gq14 h1 => zc hb80 (impl_isType_ok gq14) rfl rfl rfl ?_)))))))
  refine zq tb rfl (dn hK13 rfl ?_)
  refine ci h1 rfl ?_ ?_ <;> clear h1
  ·intro b15 h1
   have b16 : q14 = false := by simpa using b15
   refine zr tb rfl rfl ?_
   replace h1 := Sh.some_eq h1
   subst o5
   try dsimp only [id] at h0
   replace h0 := Sh.some_eq h0
   subst r
   exact AW.ret (xr (Wk.to (L := [(4, (.bool false))]) ⟨.rfl, trivial⟩))
  ·intro b15 h1
   have b18 : q14 = true := by simpa using b15
   exact AW.skip (hK10 _ (AW.regionO rfl (zm tb 2 rfl (AO.done (xi (Sh.w (t4 + 1)) h1 (Wk.tr rfl))))))
 ·intro b9 h1
  exact AW.exit (M5 () (Sh.some_eq h1).symm _ (Wk.tr rfl))
theorem impl_ValidTypes_ok {N : Nat} {p0 : (List RDecl)} {r : Bool} (h0 : impl_ValidTypes N p0 = some r) : ACalls Try.prog 78 [(ls eRDecl p0)] [] (fun v st => v = (.bool r) ∧ st = []) := by
 unfold impl_ValidTypes at h0
 refine ai Try.func78 rfl rfl rfl rfl (zr tb rfl rfl (AW.seq fun K2 hK2 => sr rfl fun K3 hK3 => zq tb rfl (zl tb rfl rfl (zq tb rfl (dn hK3 rfl ?_)))))
 refine ci h0 rfl ?_ ?_ <;> clear h0
 ·intro b4 h0
  refine zr tb rfl rfl ?_
  replace h0 := Sh.some_eq h0
  subst r
  exact AW.ret (xr (Wk.to (L := [(2, (.bool false))]) ⟨.rfl, trivial⟩))
 ·intro b4 h0
  refine AW.skip (hK2 _ (AW.seq fun K6 hK6 => sr rfl fun K7 hK7 => zq tb rfl (zl tb rfl rfl (zq tb rfl (dn hK7 rfl ?_)))))
  obtain ⟨o9, h1, h0⟩ := Sh.cont_some h0
  have M9 : ∀ (_ : Unit), o9 = Sum.inr () → ∀ s, Wk 0 s ⟨106, envL [], []⟩ → K6 s := by
   intro _ hq s hw
   subst o9
   try dsimp only at h0
   refine hK6 _ (AW.weaken hw (zr tb rfl rfl ?_))
   replace h0 := Sh.some_eq h0
   subst r
   exact AW.ret (xr (Wk.to (L := [(2, (.bool true))]) ⟨.rfl, trivial⟩))
  refine AW.block (AW.loopF (σ := Int) (fun n v => impl_ValidTypes_L1 N p0 n v = some o9) (fun t8 => ⟨106, envL [(0, (ls eRDecl p0)), (12, (ls eRDecl p0)), (13, (i64 (Sh.len p0))), (14, (i64 t8))], []⟩) N 0 h1 (Wk.tr rfl) (fun _ hv => by rw [impl_ValidTypes_L1] at hv; cases hv) ?_)
  rintro n t8 h1
  try dsimp only at h1 ⊢
  rw [impl_ValidTypes_L1] at h1
  refine zr tb rfl rfl (AW.seq fun K12 hK12 => ?_)
  refine ci h1 rfl ?_ ?_ <;> clear h1
  ·intro b13 h1
   refine AW.skip (hK12 _ (AW.seq fun K14 hK14 => AW.block (sr rfl fun K15 hK15 => zq tb rfl (bs h1 fun c16 gc16 h1 => zx ei29 gc16 rfl rfl rfl (zq tb rfl (ao_alloc (m := 0) (st' := [⟨0, 78, 3, [[(i64 0), (i64 0), .zc]]⟩]) go0 zi78 rfl rfl (zq tb rfl (ao_str (st' := [⟨0, 78, 3, [(eRDecl c16)]⟩]) go0 ti78 rfl rfl rfl rfl rfl rfl (show 0 + 3 ≤ 3 by decide) rfl (dn hK15 rfl ?_)))))))))
   refine AW.seq fun K17 hK17 => AW.seq fun K18 hK18 => bs h1 fun o20 h2 h1 => ?_
   have M20 : ∀ (t19 : Bool), o20 = t19 → ∀ s, Wk 0 s ⟨106, envL [(0, (ls eRDecl p0)), (3, (i64 t8)), (4, (.ptr 0 0 0 0)), (12, (ls eRDecl p0)), (13, (i64 (Sh.len p0))), (14, (i64 t8)), (52, (.bool t19))], [⟨0, 78, 3, [(eRDecl c16)]⟩]⟩ → K18 s := by
    intro t19 hq s hw
    subst o20
    try dsimp only at h1
    refine hK18 _ (AW.weaken hw ?_)
    refine ci h1 rfl ?_ ?_ <;> clear h1
    ·intro b21 h1
     refine zr tb rfl rfl ?_
     replace h1 := Sh.some_eq h1
     subst o9
     try dsimp only [id] at h0
     replace h0 := Sh.some_eq h0
     subst r
     exact AW.ret (xr (Wk.d0 [(2, (.bool false))] rfl))
    ·intro b21 h1
     refine AW.skip (hK17 _ (AW.seq fun K23 hK23 => sr rfl fun K24 hK24 => zm tb 2 rfl (zl tb rfl rfl (zq tb rfl (dn hK24 rfl ?_)))))
     obtain ⟨o26, h2, h1⟩ := Sh.cont_some h1
     have M26 : ∀ (_ : Unit), o26 = Sum.inr () → ∀ s, Wk 0 s ⟨106, envL [(0, (ls eRDecl p0)), (3, (i64 t8)), (4, (.ptr 0 0 0 0)), (12, (ls eRDecl p0)), (13, (i64 (Sh.len p0))), (14, (i64 t8))], [⟨0, 78, 3, [(eRDecl c16)]⟩]⟩ → K23 s := by
      intro _ hq s hw
      subst o26
      try dsimp only at h1
      refine hK23 _ (AW.weaken hw (sr rfl fun K27 hK27 => zm tb 2 rfl (bs h1 fun l28 gl28 h1 => ao_sls (i := 0) (j := t8) go0 ei29 rfl rfl rfl (fun _ => rfl) gl28 (zl tb rfl rfl (zq tb rfl (dn hK27 rfl ?_))))))
      obtain ⟨o30, h2, h1⟩ := Sh.cont_some h1
      have M30 : ∀ (_ : Unit), o30 = Sum.inr () → ∀ s, Wk 0 s ⟨106, envL [(0, (ls eRDecl p0)), (12, (ls eRDecl p0)), (13, (i64 (Sh.len p0))), (14, (i64 t8))], []⟩ → K14 s := by
       intro _ hq s hw
       subst o30
       try dsimp only at h1
       exact hK14 _ (AW.weaken hw (AW.regionO rfl (zm tb 2 rfl (AO.done (xi (Sh.w (t8 + 1)) h1 (Wk.tr rfl))))))
      refine AW.block (AW.loopF (σ := Int) (fun n v => impl_ValidTypes_L3 c16 l28 n v = some o30) (fun t29 => ⟨106, envL [(0, (ls eRDecl p0)), (4, (.ptr 0 0 0 0)), (12, (ls eRDecl p0)), (13, (i64 (Sh.len p0))), (14, (i64 t8)), (74, (ls eRDecl l28)), (75, (i64 (Sh.len l28))), (76, (i64 t29))], [⟨0, 78, 3, [(eRDecl c16)]⟩]⟩) N 0 h2 (Wk.tr rfl) (fun _ hv => by rw [impl_ValidTypes_L3] at hv; cases hv) ?_)
      rintro n t29 h2
      try dsimp only at h2 ⊢
      rw [impl_ValidTypes_L3] at h2
      refine zr tb rfl rfl (AW.seq fun K32 hK32 => ?_)
      refine ci h2 rfl ?_ ?_ <;> clear h2
      ·intro b33 h2
       refine AW.skip (hK32 _ (AW.seq fun K34 hK34 => AW.block (sr rfl fun K35 hK35 => bs h2 fun c36 gc36 h2 => zx ei29 gc36 rfl rfl rfl (zq tb rfl (ao_alloc (m := 1) (st' := [⟨0, 78, 3, [(eRDecl c16)]⟩, ⟨0, 78, 3, [[(i64 0), (i64 0), .zc]]⟩]) go0 zi78 rfl rfl (ao_str (st' := [⟨0, 78, 3, [(eRDecl c16)]⟩, ⟨0, 78, 3, [(eRDecl c36)]⟩]) go0 ti78 rfl rfl rfl rfl rfl rfl (show 0 + 3 ≤ 3 by decide) rfl (dn hK35 rfl (AW.seq fun K37 hK37 => bs h2 fun o39 h3 h2 => ?_))))))))
       have M39 : ∀ (t38 : Bool), o39 = t38 → ∀ s, Wk 0 s ⟨106, envL [(0, (ls eRDecl p0)), (4, (.ptr 0 0 0 0)), (12, (ls eRDecl p0)), (13, (i64 (Sh.len p0))), (14, (i64 t8)), (74, (ls eRDecl l28)), (75, (i64 (Sh.len l28))), (76, (i64 t29)), (103, (.bool t38))], [⟨0, 78, 3, [(eRDecl c16)]⟩]⟩ → K37 s := by
        intro t38 hq s hw
        subst o39
        try dsimp only at h2
        refine hK37 _ (AW.weaken hw ?_)
        refine ci h2 rfl ?_ ?_ <;> clear h2
        ·intro b40 h2
         refine zr tb rfl rfl ?_
         replace h2 := Sh.some_eq h2
         subst o30
         try dsimp only [id] at h1
         replace h1 := Sh.some_eq h1
         subst o9
         try dsimp only [id] at h0
         replace h0 := Sh.some_eq h0
         subst r
         exact AW.ret (xr (Wk.d0 [(2, (.bool false))] rfl))
        ·intro b40 h2
         exact AW.skip (hK34 _ (AW.regionO rfl (zm tb 2 rfl (AO.done (xi (Sh.w (t29 + 1)) h2 (Wk.tr rfl))))))
       refine AW.regionO rfl (zm tb 2 rfl (zl tb rfl rfl (zm tb 2 rfl ?_)))
       rcases Sh.ite_some h3 with ⟨b42, h3⟩ | ⟨b42, h3⟩
       ·refine zg tb b42 rfl (zg tb b42 rfl (ao_q (v := (i64 (Sh.len c36.cons))) (go1 rfl rfl b42) rfl (aq_lens sl76 rfl) (zg tb b42 rfl (zt b42 rfl (zq tb rfl ?_)))))
        rcases Sh.ite_some h3 with ⟨b43, h3⟩ | ⟨b43, h3⟩
        ·refine zg tb b43 rfl ?_
         iterate 4 refine zg tb b43 rfl ?_
         refine zt b43 rfl (zq tb rfl ?_)
         rcases Sh.ite_some h3 with ⟨b44, h3⟩ | ⟨b44, h3⟩
         ·refine zg tb b44 rfl ?_
          iterate 4 refine zg tb b44 rfl ?_
          refine zt b44 rfl ?_
          exact AO.done (M39 (decide (c36.to = c16.to)) (Sh.some_eq h3).symm _ (Wk.permk (L := [(0, (ls eRDecl p0)), (4, (.ptr 0 0 0 0)), (12, (ls eRDecl p0)), (13, (i64 (Sh.len p0))), (14, (i64 t8)), (74, (ls eRDecl l28)), (75, (i64 (Sh.len l28))), (76, (i64 t29)), (103, (.bool (decide (c36.to = c16.to))))]) (st' := [⟨0, 78, 3, [(eRDecl c16)]⟩]) (st1 := [⟨0, 78, 3, [(eRDecl c16)]⟩]) [0] rfl .nil (by decide) rfl rfl (.raw rfl rfl .nil) ⟨.rfl, .rfl, .rfl, .rfl, .rfl, .rfl, .rfl, .rfl, .rfl, trivial⟩))
         ·refine zs b44 rfl ?_
          iterate 4 refine zs b44 rfl ?_
          refine zf b44 rfl ?_
          exact AO.done (M39 false (Sh.some_eq h3).symm _ (Wk.permk (L := [(0, (ls eRDecl p0)), (4, (.ptr 0 0 0 0)), (12, (ls eRDecl p0)), (13, (i64 (Sh.len p0))), (14, (i64 t8)), (74, (ls eRDecl l28)), (75, (i64 (Sh.len l28))), (76, (i64 t29)), (103, (.bool false))]) (st' := [⟨0, 78, 3, [(eRDecl c16)]⟩]) (st1 := [⟨0, 78, 3, [(eRDecl c16)]⟩]) [0] rfl .nil (by decide) rfl rfl (.raw rfl rfl .nil) ⟨.rfl, .rfl, .rfl, .rfl, .rfl, .rfl, .rfl, .rfl, .rfl, trivial⟩))
        ·refine zs b43 rfl ?_
         iterate 4 refine zs b43 rfl ?_
         refine zf b43 rfl (zq tb rfl ?_)
         iterate 5 refine zs rfl rfl ?_
         refine zf rfl rfl ?_
         exact AO.done (M39 false (Sh.some_eq h3).symm _ (Wk.permk (L := [(0, (ls eRDecl p0)), (4, (.ptr 0 0 0 0)), (12, (ls eRDecl p0)), (13, (i64 (Sh.len p0))), (14, (i64 t8)), (74, (ls eRDecl l28)), (75, (i64 (Sh.len l28))), (76, (i64 t29)), (103, (.bool false))]) (st' := [⟨0, 78, 3, [(eRDecl c16)]⟩]) (st1 := [⟨0, 78, 3, [(eRDecl c16)]⟩]) [0] rfl .nil (by decide) rfl rfl (.raw rfl rfl .nil) ⟨.rfl, .rfl, .rfl, .rfl, .rfl, .rfl, .rfl, .rfl, .rfl, trivial⟩))
       ·refine zs b42 rfl ?_
        iterate 3 refine zs b42 rfl ?_
        refine zf b42 rfl (zq tb rfl ?_)
        iterate 5 refine zs rfl rfl ?_
        refine zf rfl rfl (zq tb rfl ?_)
        iterate 5 refine zs rfl rfl ?_
        refine zf rfl rfl ?_
        exact AO.done (M39 false (Sh.some_eq h3).symm _ (Wk.permk (L := [(0, (ls eRDecl p0)), (4, (.ptr 0 0 0 0)), (12, (ls eRDecl p0)), (13, (i64 (Sh.len p0))), (14, (i64 t8)), (74, (ls eRDecl l28)), (75, (i64 (Sh.len l28))), (76, (i64 t29)), (103, (.bool false))]) (st' := [⟨0, 78, 3, [(eRDecl c16)]⟩]) (st1 := [⟨0, 78, 3, [(eRDecl c16)]⟩]) [0] rfl .nil (by decide) rfl rfl (.raw rfl rfl .nil) ⟨.rfl, .rfl, .rfl, .rfl, .rfl, .rfl, .rfl, .rfl, .rfl, trivial⟩))
      ·intro b33 h2
       exact AW.exit (M30 () (Sh.some_eq h2).symm _ (Wk.d0 _ rfl))
     refine AW.block (AW.loopF (σ := Int) (fun n v => impl_ValidTypes_L2 N c16 p0 n v = some o26) (fun t25 => ⟨106, envL [(0, (ls eRDecl p0)), (3, (i64 t8)), (4, (.ptr 0 0 0 0)), (12, (ls eRDecl p0)), (13, (i64 (Sh.len p0))), (14, (i64 t8)), (54, (ls eRCon c16.cons)), (55, (i64 (Sh.len c16.cons))), (56, (i64 t25))], [⟨0, 78, 3, [(eRDecl c16)]⟩]⟩) N 0 h2 (Wk.tr rfl) (fun _ hv => by rw [impl_ValidTypes_L2] at hv; cases hv) ?_)
     rintro n t25 h2
     try dsimp only at h2 ⊢
     rw [impl_ValidTypes_L2] at h2
     refine zr tb rfl rfl (AW.seq fun K46 hK46 => ?_)
     refine ci h2 rfl ?_ ?_ <;> clear h2
     ·intro b47 h2
      refine AW.skip (hK46 _ (AW.seq fun K48 hK48 => AW.block (sr rfl fun K49 hK49 => bs h2 fun c50 gc50 h2 => zx ei76 gc50 rfl rfl rfl (zq tb rfl (ao_alloc (m := 1) (st' := [⟨0, 78, 3, [(eRDecl c16)]⟩, ⟨0, 117, 1, [[.zc]]⟩]) go0 zi117 rfl rfl (ao_str (st' := [⟨0, 78, 3, [(eRDecl c16)]⟩, ⟨0, 117, 1, [(eRCon c50)]⟩]) go0 ti117 rfl rfl rfl rfl rfl rfl (show 0 + 1 ≤ 1 by decide) rfl (dn hK49 rfl (AW.seq fun K51 hK51 => bs h2 fun o53 h3 h2 => ?_))))))))
      have M53 : ∀ (t52 : Bool), o53 = t52 → ∀ s, Wk 0 s ⟨106, envL [(0, (ls eRDecl p0)), (3, (i64 t8)), (4, (.ptr 0 0 0 0)), (12, (ls eRDecl p0)), (13, (i64 (Sh.len p0))), (14, (i64 t8)), (54, (ls eRCon c16.cons)), (55, (i64 (Sh.len c16.cons))), (56, (i64 t25)), (70, (.bool t52))], [⟨0, 78, 3, [(eRDecl c16)]⟩]⟩ → K51 s := by
       intro t52 hq s hw
       subst o53
       try dsimp only at h2
       refine hK51 _ (AW.weaken hw ?_)
       refine ci h2 rfl ?_ ?_ <;> clear h2
       ·intro b54 h2
        refine zr tb rfl rfl ?_
        replace h2 := Sh.some_eq h2
        subst o26
        try dsimp only [id] at h1
        replace h1 := Sh.some_eq h1
        subst o9
        try dsimp only [id] at h0
        replace h0 := Sh.some_eq h0
        subst r
        exact AW.ret (xr (Wk.d0 [(2, (.bool false))] rfl))
       ·intro b54 h2
        exact AW.skip (hK48 _ (AW.regionO rfl (zm tb 2 rfl (AO.done (xi (Sh.w (t25 + 1)) h2 (Wk.tr rfl))))))
      refine AW.regionO rfl (zm tb 2 rfl (zl tb rfl rfl (zm tb 2 rfl ?_)))
      rcases Sh.ite_some h3 with ⟨b56, h3⟩ | ⟨b56, h3⟩
      ·refine zs b56 rfl ?_
       iterate 4 refine zs b56 rfl ?_
       refine zt b56 rfl ?_
       exact AO.done (M53 true (Sh.some_eq h3).symm _ (Wk.permk (L := [(0, (ls eRDecl p0)), (3, (i64 t8)), (4, (.ptr 0 0 0 0)), (12, (ls eRDecl p0)), (13, (i64 (Sh.len p0))), (14, (i64 t8)), (54, (ls eRCon c16.cons)), (55, (i64 (Sh.len c16.cons))), (56, (i64 t25)), (70, (.bool true))]) (st' := [⟨0, 78, 3, [(eRDecl c16)]⟩]) (st1 := [⟨0, 78, 3, [(eRDecl c16)]⟩]) [0] rfl .nil (by decide) rfl rfl (.raw rfl rfl .nil) ⟨.rfl, .rfl, .rfl, .rfl, .rfl, .rfl, .rfl, .rfl, .rfl, .rfl, trivial⟩))
      ·refine zg tb b56 rfl (zg tb b56 rfl (zg tb b56 rfl (bs h3 fun q57 gq57 h3 => zd b56 hb79 (impl_allTypes_ok gq57) rfl rfl rfl rfl (zg tb b56 rfl (zf b56 rfl ?_)))))
       exact AO.done (M53 (!q57) (Sh.some_eq h3).symm _ (Wk.permk (L := [(0, (ls eRDecl p0)), (3, (i64 t8)), (4, (.ptr 0 0 0 0)), (12, (ls eRDecl p0)), (13, (i64 (Sh.len p0))), (14, (i64 t8)), (54, (ls eRCon c16.cons)), (55, (i64 (Sh.len c16.cons))), (56, (i64 t25)), (70, (.bool (!q57)))]) (st' := [⟨0, 78, 3, [(eRDecl c16)]⟩]) (st1 := [⟨0, 78, 3, [(eRDecl c16)]⟩]) [0] rfl .nil (by decide) rfl rfl (.raw rfl rfl .nil) ⟨.rfl, .rfl, .rfl, .rfl, .rfl, .rfl, .rfl, .rfl, .rfl, .rfl, trivial⟩))
     ·intro b47 h2
      exact AW.exit (M26 () (Sh.some_eq h2).symm _ (Wk.tr rfl))
   refine AW.regionO rfl (zm tb 3 rfl (bs h2 fun q58 gq58 h2 => zc hb80 (impl_isType_ok gq58) rfl rfl rfl (zm tb 2 rfl ?_)))
   rcases Sh.ite_some h2 with ⟨b59, h2⟩ | ⟨b59, h2⟩
   ·refine zs b59 rfl ?_
    iterate 4 refine zs b59 rfl ?_
    refine zt b59 rfl (zq tb rfl ?_)
    iterate 4 refine zs rfl rfl ?_
    refine zt rfl rfl (zq tb rfl ?_)
    iterate 5 refine zs rfl rfl ?_
    iterate 8 refine zn rfl ?_
    exact zs rfl rfl (zt rfl rfl (AO.done (M20 true (Sh.some_eq h2).symm _ (Wk.tr rfl))))
   ·refine zg tb b59 rfl (zg tb b59 rfl (zg tb b59 rfl (bs h2 fun q60 gq60 h2 => zd b59 hb80 (impl_isType_ok gq60) rfl rfl rfl rfl (zg tb b59 rfl (zf b59 rfl (zq tb rfl ?_))))))
    rcases Sh.ite_some h2 with ⟨b61, h2⟩ | ⟨b61, h2⟩
    ·refine zs b61 rfl ?_
     iterate 3 refine zs b61 rfl ?_
     refine zt b61 rfl (zq tb rfl ?_)
     iterate 5 refine zs rfl rfl ?_
     iterate 8 refine zn rfl ?_
     exact zs rfl rfl (zt rfl rfl (AO.done (M20 true (Sh.some_eq h2).symm _ (Wk.tr rfl))))
    ·refine zg tb b61 rfl (zg tb b61 rfl (ao_q (v := (i64 (Sh.len c16.cons))) (go1 rfl rfl b61) rfl (aq_lens sl76 rfl) (zg tb b61 rfl (zf b61 rfl (zq tb rfl ?_)))))
     rcases Sh.ite_some h2 with ⟨b62, h2⟩ | ⟨b62, h2⟩
     ·refine zs b62 rfl ?_
      iterate 4 refine zs b62 rfl ?_
      iterate 8 refine zn rfl ?_
      exact zs b62 rfl (zt b62 rfl (AO.done (M20 true (Sh.some_eq h2).symm _ (Wk.tr rfl))))
     ·refine zg tb b62 rfl (zg tb b62 rfl (ao_q (v := (i64 (Sh.len c16.cons))) (go1 rfl rfl b62) rfl (aq_lens sl76 rfl) (zg tb b62 rfl (zg tb b62 rfl ?_))))
      rcases Sh.ite_some h2 with ⟨b63, h2⟩ | ⟨b63, h2⟩
      ·refine zg tb b63 rfl ?_
       iterate 3 refine zg tb b63 rfl ?_
       rcases Sh.ite_some h2 with ⟨b64, h2⟩ | ⟨b64, h2⟩
       ·exact zs b64 rfl (zs b64 rfl (zs b64 rfl (ao_q (v := (.bool true)) (go1 rfl rfl b63) rfl (aq_pkt rfl b64 rfl) (ao_q (v := (.bool true)) (go1 rfl rfl b62) rfl (aq_pkt rfl b63 rfl) (zf b62 rfl (AO.done (M20 true (Sh.some_eq h2).symm _ (Wk.tr rfl))))))))
       ·exact zg tb b64 rfl (zg tb b64 rfl (zg tb b64 rfl (ao_q (v := (.bool (!decide (c16.to = 0)))) (go1 rfl rfl b63) rfl (aq_pkf rfl b64 rfl) (ao_q (v := (.bool (!decide (c16.to = 0)))) (go1 rfl rfl b62) rfl (aq_pkt rfl b63 rfl) (zf b62 rfl (AO.done (M20 (!decide (c16.to = 0)) (Sh.some_eq h2).symm _ (Wk.tr rfl))))))))
      ·refine zs b63 rfl ?_
       iterate 3 refine zs b63 rfl ?_
       iterate 3 refine zn rfl ?_
       exact zs b63 rfl (ao_q (v := (.bool false)) (go1 rfl rfl b62) rfl (aq_pkf rfl b63 rfl) (zf b62 rfl (AO.done (M20 false (Sh.some_eq h2).symm _ (Wk.tr rfl)))))
  ·intro b13 h1
   exact AW.exit (M9 () (Sh.some_eq h1).symm _ (Wk.tr rfl))
theorem impl_validSigs_ok {N : Nat} {p0 : (List RDecl)} {p1 : (List RSignature)} {r : Bool} (h0 : impl_validSigs N p0 p1 = some r) : ACalls Try.prog 60 [(ls eRDecl p0), (ls eRSignature p1)] [] (fun v st => v = (.bool r) ∧ st = []) := by
 unfold impl_validSigs at h0
 refine ai Try.func60 rfl rfl rfl rfl (zr tb rfl rfl (AW.seq fun K2 hK2 => AW.seq fun K3 hK3 => bs h0 fun o5 h1 h0 => ?_))
 have M5 : ∀ (t4 : Bool), o5 = t4 → ∀ s, Wk 0 s ⟨102, envL [(0, (ls eRDecl p0)), (1, (ls eRSignature p1)), (36, (.bool t4))], []⟩ → K3 s := by
  intro t4 hq s hw
  subst o5
  try dsimp only at h0
  refine hK3 _ (AW.weaken hw ?_)
  refine ci h0 rfl ?_ ?_ <;> clear h0
  ·intro b6 h0
   refine zr tb rfl rfl ?_
   replace h0 := Sh.some_eq h0
   subst r
   exact AW.ret (xr (Wk.to (L := [(4, (.bool false))]) ⟨.rfl, trivial⟩))
  ·intro b6 h0
   refine AW.skip (hK2 _ (AW.seq fun K8 hK8 => sr rfl fun K9 hK9 => zq tb rfl (zl tb rfl rfl (zq tb rfl (dn hK9 rfl ?_)))))
   obtain ⟨o11, h1, h0⟩ := Sh.cont_some h0
   have M11 : ∀ (_ : Unit), o11 = Sum.inr () → ∀ s, Wk 0 s ⟨102, envL [], []⟩ → K8 s := by
    intro _ hq s hw
    subst o11
    try dsimp only at h0
    refine hK8 _ (AW.weaken hw (zr tb rfl rfl ?_))
    replace h0 := Sh.some_eq h0
    subst r
    exact AW.ret (xr (Wk.to (L := [(4, (.bool true))]) ⟨.rfl, trivial⟩))
   refine AW.block (AW.loopF (σ := Int) (fun n v => impl_validSigs_L1 N p0 p1 n v = some o11) (fun t10 => ⟨102, envL [(0, (ls eRDecl p0)), (37, (ls eRSignature p1)), (38, (i64 (Sh.len p1))), (39, (i64 t10))], []⟩) N 0 h1 (Wk.tr rfl) (fun _ hv => by rw [impl_validSigs_L1] at hv; cases hv) ?_)
   rintro n t10 h1
   try dsimp only at h1 ⊢
   rw [impl_validSigs_L1] at h1
   refine zr tb rfl rfl (AW.seq fun K14 hK14 => ?_)
   refine ci h1 rfl ?_ ?_ <;> clear h1
   ·intro b15 h1
    refine AW.skip (hK14 _ (AW.seq fun K16 hK16 => AW.block (sr rfl fun K17 hK17 => bs h1 fun c18 gc18 h1 => zx ei81 gc18 rfl rfl rfl (zq tb rfl (ao_alloc (m := 0) (st' := [⟨0, 108, 3, [[.zc, .zc, (i64 0)]]⟩]) go0 zi108 rfl rfl (ao_str (st' := [⟨0, 108, 3, [[(ls eI c18.params), (ls eI c18.lent), (i64 c18.result)]]⟩]) go0 ti108 rfl rfl rfl rfl rfl rfl (show 0 + 3 ≤ 3 by decide) rfl (dn hK17 rfl (AW.seq fun K19 hK19 => AW.seq fun K20 hK20 => ?_))))))))
    refine bs h1 fun o22 h2 h1 => ?_
    have M22 : ∀ (t21 : Bool), o22 = t21 → ∀ s, Wk 0 s ⟨102, envL [(0, (ls eRDecl p0)), (6, (.ptr 0 0 0 0)), (37, (ls eRSignature p1)), (38, (i64 (Sh.len p1))), (39, (i64 t10)), (60, (.bool t21))], [⟨0, 108, 3, [[(ls eI c18.params), (ls eI c18.lent), (i64 c18.result)]]⟩]⟩ → K20 s := by
     intro t21 hq s hw
     subst o22
     try dsimp only at h1
     refine hK20 _ (AW.weaken hw ?_)
     refine ci h1 rfl ?_ ?_ <;> clear h1
     ·intro b23 h1
      refine zr tb rfl rfl ?_
      replace h1 := Sh.some_eq h1
      subst o11
      try dsimp only [id] at h0
      replace h0 := Sh.some_eq h0
      subst r
      exact AW.ret (xr (Wk.d0 [(4, (.bool false))] rfl))
     ·intro b23 h1
      refine AW.skip (hK19 _ (sr rfl fun K25 hK25 => zm tb 2 rfl (zl tb rfl rfl (zq tb rfl (dn hK25 rfl ?_)))))
      obtain ⟨o27, h2, h1⟩ := Sh.cont_some h1
      have M27 : ∀ (_ : Unit), o27 = Sum.inr () → ∀ s, Wk 0 s ⟨102, envL [(0, (ls eRDecl p0)), (37, (ls eRSignature p1)), (38, (i64 (Sh.len p1))), (39, (i64 t10))], []⟩ → K16 s := by
       intro _ hq s hw
       subst o27
       try dsimp only at h1
       exact hK16 _ (AW.weaken hw (AW.regionO rfl (zm tb 2 rfl (AO.done (xi (Sh.w (t10 + 1)) h1 (Wk.tr rfl))))))
      refine AW.block (AW.loopF (σ := Int) (fun n v => impl_validSigs_L2 c18 n v = some o27) (fun t26 => ⟨102, envL [(0, (ls eRDecl p0)), (6, (.ptr 0 0 0 0)), (37, (ls eRSignature p1)), (38, (i64 (Sh.len p1))), (39, (i64 t10)), (62, (ls eI c18.lent)), (63, (i64 (Sh.len c18.lent))), (64, (i64 t26))], [⟨0, 108, 3, [[(ls eI c18.params), (ls eI c18.lent), (i64 c18.result)]]⟩]⟩) N 0 h2 (Wk.tr rfl) (fun _ hv => by rw [impl_validSigs_L2] at hv; cases hv) ?_)
      rintro n t26 h2
      try dsimp only at h2 ⊢
      rw [impl_validSigs_L2] at h2
      refine zr tb rfl rfl (AW.seq fun K29 hK29 => ?_)
      refine ci h2 rfl ?_ ?_ <;> clear h2
      ·intro b30 h2
       refine AW.skip (hK29 _ (AW.seq fun K31 hK31 => AW.block (sr rfl fun K32 hK32 => zq tb rfl (bs h2 fun c33 gc33 h2 => zx ei27 gc33 rfl rfl rfl (zm tb 3 rfl (dn hK32 rfl (AW.seq fun K34 hK34 => bs h2 fun o36 h3 h2 => ?_)))))))
       have M36 : ∀ (t35 : Bool), o36 = t35 → ∀ s, Wk 0 s ⟨102, envL [(0, (ls eRDecl p0)), (6, (.ptr 0 0 0 0)), (37, (ls eRSignature p1)), (38, (i64 (Sh.len p1))), (39, (i64 t10)), (62, (ls eI c18.lent)), (63, (i64 (Sh.len c18.lent))), (64, (i64 t26)), (99, (.bool t35))], [⟨0, 108, 3, [[(ls eI c18.params), (ls eI c18.lent), (i64 c18.result)]]⟩]⟩ → K34 s := by
        intro t35 hq s hw
        subst o36
        try dsimp only at h2
        refine hK34 _ (AW.weaken hw ?_)
        refine ci h2 rfl ?_ ?_ <;> clear h2
        ·intro b37 h2
         refine zr tb rfl rfl ?_
         replace h2 := Sh.some_eq h2
         subst o27
         try dsimp only [id] at h1
         replace h1 := Sh.some_eq h1
         subst o11
         try dsimp only [id] at h0
         replace h0 := Sh.some_eq h0
         subst r
         exact AW.ret (xr (Wk.d0 [(4, (.bool false))] rfl))
        ·intro b37 h2
         exact AW.skip (hK31 _ (AW.regionO rfl (zm tb 2 rfl (AO.done (xi (Sh.w (t26 + 1)) h2 (Wk.tr rfl))))))
       refine AW.regionO rfl (zm tb 3 rfl ?_)
       rcases Sh.ite_some h3 with ⟨b39, h3⟩ | ⟨b39, h3⟩
       ·refine zs b39 rfl ?_
        iterate 4 refine zs b39 rfl ?_
        refine zt b39 rfl (zq tb rfl ?_)
        iterate 6 refine zs rfl rfl ?_
        refine zt rfl rfl (zq tb rfl ?_)
        iterate 3 refine zs rfl rfl ?_
        iterate 8 refine zn rfl ?_
        exact zs rfl rfl (zt rfl rfl (AO.done (M36 true (Sh.some_eq h3).symm _ (Wk.tr rfl))))
       ·refine zg tb b39 rfl (zg tb b39 rfl (zg tb b39 rfl (ao_q (v := (i64 (Sh.len c18.params))) (go1 rfl rfl b39) rfl (aq_lens sl27 rfl) (zg tb b39 rfl (zf b39 rfl (zq tb rfl ?_))))))
        rcases Sh.ite_some h3 with ⟨b40, h3⟩ | ⟨b40, h3⟩
        ·refine zs b40 rfl ?_
         iterate 5 refine zs b40 rfl ?_
         refine zt b40 rfl (zq tb rfl ?_)
         iterate 3 refine zs rfl rfl ?_
         iterate 8 refine zn rfl ?_
         exact zs rfl rfl (zt rfl rfl (AO.done (M36 true (Sh.some_eq h3).symm _ (Wk.tr rfl))))
        ·refine zg tb b40 rfl (zg tb b40 rfl (zg tb b40 rfl (bs h3 fun c41 gc41 h3 => ao_q (v := (.iptr (eI c41) 0)) (go1 rfl rfl b40) rfl (aq_ixs ei27 rfl rfl gc41 rfl) (zg tb b40 rfl (zg tb b40 rfl (zf b40 rfl (zq tb rfl ?_)))))))
         rcases Sh.ite_some h3 with ⟨b42, h3⟩ | ⟨b42, h3⟩
         ·refine zs b42 rfl (zs b42 rfl (zs b42 rfl ?_))
          iterate 8 refine zn rfl ?_
          exact zs b42 rfl (zt b42 rfl (AO.done (M36 true (Sh.some_eq h3).symm _ (Wk.tr rfl))))
         ·refine zg tb b42 rfl (zg tb b42 rfl (zg tb b42 rfl ?_))
          rcases Sh.ite_some h3 with ⟨b43, h3⟩ | ⟨b43, h3⟩
          ·refine zg tb b43 rfl ?_
           iterate 4 refine zg tb b43 rfl ?_
           exact bs h3 fun c44 gc44 h3 => ao_q (v := (.iptr (eI c44) 0)) (go1 rfl rfl b43) rfl (aq_ixs ei27 rfl rfl gc44 rfl) (zg tb b43 rfl (zg tb b43 rfl (ao_q (v := (.bool (decide (c33 ≤ c44)))) (go1 rfl rfl b42) rfl (aq_pkt rfl b43 rfl) (zf b42 rfl (AO.done (M36 (decide (c33 ≤ c44)) (Sh.some_eq h3).symm _ (Wk.tr rfl)))))))
          ·refine zs b43 rfl ?_
           iterate 7 refine zs b43 rfl ?_
           exact ao_q (v := (.bool false)) (go1 rfl rfl b42) rfl (aq_pkf rfl b43 rfl) (zf b42 rfl (AO.done (M36 false (Sh.some_eq h3).symm _ (Wk.tr rfl))))
      ·intro b30 h2
       exact AW.exit (M27 () (Sh.some_eq h2).symm _ (Wk.d0 _ rfl))
    refine AW.regionO rfl (zm tb 2 rfl (zl tb rfl rfl (zm tb 2 rfl ?_)))
    rcases Sh.ite_some h2 with ⟨b45, h2⟩ | ⟨b45, h2⟩
    ·refine zs b45 rfl ?_
     iterate 4 refine zs b45 rfl ?_
     refine zt b45 rfl (zq tb rfl ?_)
     iterate 5 refine zs rfl rfl ?_
     exact zt rfl rfl (AO.done (M22 true (Sh.some_eq h2).symm _ (Wk.tr rfl)))
    ·refine zg tb b45 rfl (zg tb b45 rfl (zg tb b45 rfl (bs h2 fun q46 gq46 h2 => zd b45 hb79 (impl_allTypes_ok gq46) rfl rfl rfl rfl (zg tb b45 rfl (zf b45 rfl (zq tb rfl ?_))))))
     rcases Sh.ite_some h2 with ⟨b47, h2⟩ | ⟨b47, h2⟩
     ·refine zs b47 rfl ?_
      iterate 4 refine zs b47 rfl ?_
      exact zt b47 rfl (AO.done (M22 true (Sh.some_eq h2).symm _ (Wk.tr rfl)))
     ·exact zg tb b47 rfl (zg tb b47 rfl (zg tb b47 rfl (bs h2 fun q48 gq48 h2 => zd b47 hb80 (impl_isType_ok gq48) rfl rfl rfl rfl (zg tb b47 rfl (zf b47 rfl (AO.done (M22 (!q48) (Sh.some_eq h2).symm _ (Wk.tr rfl))))))))
   ·intro b15 h1
    exact AW.exit (M11 () (Sh.some_eq h1).symm _ (Wk.tr rfl))
 refine AW.regionO rfl (zq tb rfl (bs h1 fun q49 gq49 h1 => zc hb78 (impl_ValidTypes_ok gq49) rfl rfl rfl (zm tb 2 rfl ?_)))
 rcases Sh.ite_some h1 with ⟨b50, h1⟩ | ⟨b50, h1⟩
 ·refine zs b50 rfl (zs b50 rfl (zs b50 rfl (zt b50 rfl (zq tb rfl ?_))))
  iterate 3 refine zs rfl rfl ?_
  refine zt rfl rfl (zq tb rfl ?_)
  iterate 6 refine zs rfl rfl ?_
  refine zt rfl rfl (zq tb rfl ?_)
  iterate 5 refine zs rfl rfl ?_
  exact zt rfl rfl (AO.done (M5 true (Sh.some_eq h1).symm _ (Wk.tr rfl)))
 ·refine zg tb b50 rfl (ao_q (v := (i64 (Sh.len p1))) (go1 rfl rfl b50) rfl (aq_lens sl81 rfl) (zg tb b50 rfl (zf b50 rfl (zq tb rfl ?_))))
  rcases Sh.ite_some h1 with ⟨b51, h1⟩ | ⟨b51, h1⟩
  ·refine zs b51 rfl (zs b51 rfl (zs b51 rfl (zt b51 rfl (zq tb rfl ?_))))
   iterate 6 refine zs rfl rfl ?_
   refine zt rfl rfl (zq tb rfl ?_)
   iterate 5 refine zs rfl rfl ?_
   exact zt rfl rfl (AO.done (M5 true (Sh.some_eq h1).symm _ (Wk.tr rfl)))
  ·refine zg tb b51 rfl (ao_q (v := (i64 (Sh.len p1))) (go1 rfl rfl b51) rfl (aq_lens sl81 rfl) (zg tb b51 rfl (zf b51 rfl (zq tb rfl ?_))))
   rcases Sh.ite_some h1 with ⟨b52, h1⟩ | ⟨b52, h1⟩
   ·refine zs b52 rfl ?_
    iterate 5 refine zs b52 rfl ?_
    refine zt b52 rfl (zq tb rfl ?_)
    iterate 5 refine zs rfl rfl ?_
    exact zt rfl rfl (AO.done (M5 true (Sh.some_eq h1).symm _ (Wk.tr rfl)))
   ·refine zg tb b52 rfl (bs h1 fun c53 gc53 h1 => ao_q (v := (.iptr (eRSignature c53) 0)) (go1 rfl rfl b52) rfl (aq_ixs ei81 rfl rfl gc53 rfl) (zg tb b52 rfl (zg tb b52 rfl (ao_q (v := (i64 (Sh.len c53.params))) (go1 rfl rfl b52) rfl (aq_lens sl27 rfl) (zg tb b52 rfl (zf b52 rfl (zq tb rfl ?_)))))))
    rcases Sh.ite_some h1 with ⟨b54, h1⟩ | ⟨b54, h1⟩
    ·refine zs b54 rfl ?_
     iterate 4 refine zs b54 rfl ?_
     exact zt b54 rfl (AO.done (M5 true (Sh.some_eq h1).symm _ (Wk.tr rfl)))
    ·refine zg tb b54 rfl (ao_q (v := (.iptr (eRSignature c53) 0)) (go1 rfl rfl b54) rfl (aq_ixs ei81 rfl rfl gc53 rfl) ?_)
     iterate 3 refine zg tb b54 rfl ?_
     exact zf b54 rfl (AO.done (M5 (!decide (c53.result = 0)) (Sh.some_eq h1).symm _ (Wk.tr rfl)))
theorem impl_imageSigs_ok {N : Nat} {p0 : RImage} {r : RSignatures × Bool} (h0 : impl_imageSigs N p0 = some r) : ACalls Try.prog 39 [(.agg (eRImage p0))] [] (fun v st => v = (.tup [(.agg (eRSignatures r.1)), (.bool r.2)]) ∧ st = []) := by
 unfold impl_imageSigs at h0
 refine ACalls.flat rfl (ai Try.func39 rfl rfl rfl rfl (sr rfl fun K1 hK1 => ao_box (m := 0) (st' := [⟨0, 32, 2, [(eRImage p0)]⟩]) go0 rfl rfl rfl rfl rfl (ao_alloc (m := 1) (st' := [⟨0, 32, 2, [(eRImage p0)]⟩, ⟨0, 83, 2, [[.zc, .zc]]⟩]) go0 zi83 rfl rfl (zq tb rfl (dn hK1 rfl (AW.seq fun K2 hK2 => sr rfl fun K3 hK3 => zm tb 2 rfl (zl tb rfl rfl (zq tb rfl ?_))))))))
 refine dn hK3 rfl ?_
 refine ci h0 rfl ?_ ?_ <;> clear h0
 ·intro b4 h0
  refine sr rfl fun K5 hK5 => zz (.agg [.zc, .zc]) (aq_bd ai83 bi83 zi83 rfl rfl) rfl (ao_str (st' := [⟨0, 32, 2, [(eRImage p0)]⟩, ⟨0, 83, 2, [[.zc, .zc]]⟩]) go0 ti83 rfl rfl rfl rfl rfl rfl (show 0 + 2 ≤ 2 by decide) rfl (zq tb rfl (dn hK5 rfl ?_)))
  replace h0 := Sh.some_eq h0
  subst r
  exact AW.ret (Exists.intro _ (And.intro ((((Wk.cellLe (id := 1) (cs := [.zc, .zc]) (cs' := [(.sl (List.map eRDecl [])), .zc]) (st' := [⟨0, 32, 2, [(eRImage p0)]⟩, ⟨0, 83, 2, [[(.sl (List.map eRDecl [])), .zc]]⟩]) rfl ⟨le.zc, le.rfl, trivial⟩ rfl rfl).trans (Wk.cellLe (id := 1) (cs := [(.sl (List.map eRDecl [])), .zc]) (cs' := [(.sl (List.map eRDecl [])), (.sl (List.map eRSignature []))]) (st' := [⟨0, 32, 2, [(eRImage p0)]⟩, ⟨0, 83, 2, [[(.sl (List.map eRDecl [])), (.sl (List.map eRSignature []))]]⟩]) rfl ⟨le.rfl, le.zc, trivial⟩ rfl rfl)).trans (Wk.permk (L := [(2, (.ptr 0 0 0 0)), (3, (.bool false))]) (st' := [⟨0, 83, 2, [[(.sl (List.map eRDecl [])), (.sl (List.map eRSignature []))]]⟩]) (st1 := [⟨0, 83, 2, [[(.sl (List.map eRDecl [])), (.sl (List.map eRSignature []))]]⟩]) [1] rfl .nil (by decide) rfl rfl (.raw rfl rfl .nil) ⟨.rfl, .rfl, trivial⟩)).trans (Wk.to (L := [(2, (.ptr 0 0 0 0)), (3, (.bool false))]) ⟨.rfl, .rfl, trivial⟩)) (aq_ldpa (x := .tmp 2) (off := 0) (cs := [(.sl (List.map eRDecl [])), (.sl (List.map eRSignature []))]) (vs := [(.sl (List.map eRDecl [])), (.sl (List.map eRSignature []))]) ti83 rfl rfl rfl (show 0 + 2 ≤ 2 by decide) rfl _ rfl)))
 ·intro b4 h0
  refine AW.skip (hK2 _ (sr rfl fun K6 hK6 => zm tb 2 rfl (zz (.agg [(ls eRDecl p0.decls), .zc]) (aq_bd ai83 bi83 zi83 rfl rfl) rfl (ao_alloc (m := 2) (st' := [⟨0, 32, 2, [(eRImage p0)]⟩, ⟨0, 83, 2, [[.zc, .zc]]⟩, ⟨0, 83, 2, [[.zc, .zc]]⟩]) go0 zi83 rfl rfl (ao_str (st' := [⟨0, 32, 2, [(eRImage p0)]⟩, ⟨0, 83, 2, [[.zc, .zc]]⟩, ⟨0, 83, 2, [[(ls eRDecl p0.decls), .zc]]⟩]) go0 ti83 rfl rfl rfl rfl rfl rfl (show 0 + 2 ≤ 2 by decide) rfl (dn hK6 rfl (AW.seq fun K7 hK7 => sr rfl fun K8 hK8 => zm tb 2 rfl (zl tb rfl rfl (zq tb rfl ?_)))))))))
  refine dn hK8 rfl (bs h0 fun o12 h1 h0 => ?_)
  have M12 : ∀ (l11 : (List RSignature)), o12 = l11 → ∀ s, Wk 0 s ⟨41, envL [(1, (.ptr 0 0 0 0)), (2, (.ptr 1 0 0 0)), (4, (.ptr 2 0 0 0))], [⟨0, 32, 2, [(eRImage p0)]⟩, ⟨0, 83, 2, [[.zc, .zc]]⟩, ⟨0, 83, 2, [[(ls eRDecl p0.decls), (ow 3 0 l11)]]⟩, (ro 0 108 3 eRSignature l11)]⟩ → K7 s := by
   intro l11 hq s hw
   subst o12
   try dsimp only at h0
   refine hK7 _ (AW.weaken hw (AW.seq fun K13 hK13 => ?_))
   refine AW.drawTailO 6 (by kernel_rfl) (by kernel_rfl) (by rfl) ?_
   iterate 5 refine yq tb rfl ?_
   refine bs h0 fun q14 gq14 h0 => d_callb (v' := (.bool q14)) go0 hb60 (impl_validSigs_ok gq14) rfl (.val rfl (.own rfl rfl (fun _ => rfl) .nil)) rfl rfl (d_done (AO.weaken (Wk.frz (L := [(2, (.ptr 1 0 0 0)), (35, (.agg [(ls eRDecl p0.decls), (ls eRSignature l11)])), (40, (.bool q14))]) (st' := [⟨0, 32, 2, [(eRImage p0)]⟩, ⟨0, 83, 2, [[.zc, .zc]]⟩, ⟨0, 83, 2, [[(ls eRDecl p0.decls), (ow 3 0 l11)]]⟩, ⟨1, 108, 3, []⟩]) (id := 3) rfl (show 0 ≤ 3 by decide) (pure_map fun _ => rfl) ⟨.rfl, (.agg ⟨.rfl, (.frz1 rfl), trivial⟩), .rfl, trivial⟩ rfl) (ao_str (st' := [⟨0, 32, 2, [(eRImage p0)]⟩, ⟨0, 83, 2, [[(ls eRDecl p0.decls), (ls eRSignature l11)]]⟩, ⟨0, 83, 2, [[(ls eRDecl p0.decls), (ow 3 0 l11)]]⟩, ⟨1, 108, 3, []⟩]) go0 ti83 rfl rfl rfl rfl rfl rfl (show 0 + 2 ≤ 2 by decide) rfl (zq tb rfl (dn hK13 rfl ?_)))))
   replace h0 := Sh.some_eq h0
   subst r
   exact AW.ret (Exists.intro _ (And.intro ((Wk.permk (L := [(2, (.ptr 0 0 0 0)), (3, (.bool q14))]) (st' := [⟨0, 83, 2, [[(ls eRDecl p0.decls), (ls eRSignature l11)]]⟩]) (st1 := [⟨0, 83, 2, [[(ls eRDecl p0.decls), (ls eRSignature l11)]]⟩]) [1] rfl .nil (by decide) rfl rfl (.raw rfl rfl .nil) ⟨.rfl, .rfl, trivial⟩).trans (Wk.to (L := [(2, (.ptr 0 0 0 0)), (3, (.bool q14))]) ⟨.rfl, .rfl, trivial⟩)) (aq_ldpa (x := .tmp 2) (off := 0) (cs := [(ls eRDecl p0.decls), (ls eRSignature l11)]) (vs := [(ls eRDecl p0.decls), (ls eRSignature l11)]) ti83 rfl rfl rfl (show 0 + 2 ≤ 2 by decide) rfl _ rfl)))
  refine AW.block (AW.loopF (σ := Int × (List RSignature)) (fun n v => impl_imageSigs_L1 p0 n v.1 v.2 = some o12) (fun (t9, l10) => ⟨41, envL [(1, (.ptr 0 0 0 0)), (2, (.ptr 1 0 0 0)), (4, (.ptr 2 0 0 0)), (16, (ls eRProc p0.procs)), (17, (i64 (Sh.len p0.procs))), (18, (i64 t9))], [⟨0, 32, 2, [(eRImage p0)]⟩, ⟨0, 83, 2, [[.zc, .zc]]⟩, ⟨0, 83, 2, [[(ls eRDecl p0.decls), (ow 3 0 l10)]]⟩, (ro 0 108 3 eRSignature l10)]⟩) N (0, []) h1 (by refine Wk.trans (Wk.adoptC (id := 2) (st' := [⟨0, 32, 2, [(eRImage p0)]⟩, ⟨0, 83, 2, [[.zc, .zc]]⟩, ⟨0, 83, 2, [[(ls eRDecl p0.decls), (.own 3 0 (List.length ([] : List RSignature)))]]⟩, (ro 0 108 3 eRSignature ([] : List RSignature))]) (j := 1) rfl rfl 108 (size' := 3) (by decide) rfl rfl rfl rfl) ?_; exact Wk.tr rfl) (fun _ hv => by rw [impl_imageSigs_L1] at hv; cases hv) ?_)
  rintro n ⟨t9, l10⟩ h1
  try dsimp only at h1 ⊢
  rw [impl_imageSigs_L1] at h1
  refine zr tb rfl rfl (AW.seq fun K16 hK16 => ?_)
  refine ci h1 rfl ?_ ?_ <;> clear h1
  ·intro b17 h1
   refine AW.skip (hK16 _ (AW.seq fun K18 hK18 => AW.block (sr rfl fun K19 hK19 => bs h1 fun c20 gc20 h1 => zx ei30 gc20 rfl rfl rfl (zq tb rfl (ao_alloc (m := 4) (st' := [⟨0, 32, 2, [(eRImage p0)]⟩, ⟨0, 83, 2, [[.zc, .zc]]⟩, ⟨0, 83, 2, [[(ls eRDecl p0.decls), (ow 3 0 l10)]]⟩, (ro 0 108 3 eRSignature l10), ⟨0, 45, 5, [[.zc, .zc, (i64 0), (i64 0), .zc]]⟩]) go0 zi45 rfl rfl (ao_str (st' := [⟨0, 32, 2, [(eRImage p0)]⟩, ⟨0, 83, 2, [[.zc, .zc]]⟩, ⟨0, 83, 2, [[(ls eRDecl p0.decls), (ow 3 0 l10)]]⟩, (ro 0 108 3 eRSignature l10), ⟨0, 45, 5, [(eRProc c20)]⟩]) go0 ti45 rfl rfl rfl rfl rfl rfl (show 0 + 5 ≤ 5 by decide) rfl (dn hK19 rfl (AW.regionO rfl (zm tb 8 rfl ?_)))))))))
   refine zz (.agg [(ls eI c20.params), (ls eI c20.lent), (i64 c20.result)]) (aq_bd ai108 bi108 zi108 rfl rfl) rfl ?_
   refine ao_bs (m := 5) (st' := [⟨0, 32, 2, [(eRImage p0)]⟩, ⟨0, 83, 2, [[.zc, .zc]]⟩, ⟨0, 83, 2, [[(ls eRDecl p0.decls), (ow 3 0 l10)]]⟩, (ro 0 108 3 eRSignature l10), ⟨0, 45, 5, [(eRProc c20)]⟩, (ro 0 108 3 eRSignature [(RSignature.mk c20.params c20.lent c20.result)])]) (l := [(RSignature.mk c20.params c20.lent c20.result)]) (enc := eRSignature) go0 ei81 (by decide) rfl rfl rfl rfl rfl rfl ?_
   refine bs h1 fun l21 gl21 h1 => ao_apo (st' := [⟨0, 32, 2, [(eRImage p0)]⟩, ⟨0, 83, 2, [[.zc, .zc]]⟩, ⟨0, 83, 2, [[(ls eRDecl p0.decls), (ow 3 0 l10)]]⟩, (ro 1 108 3 eRSignature l21), ⟨0, 45, 5, [(eRProc c20)]⟩, (ro 0 108 3 eRSignature [(RSignature.mk c20.params c20.lent c20.result)])]) (l2 := [(RSignature.mk c20.params c20.lent c20.result)]) go0 ei81 rfl rfl rfl rfl (el_o rfl rfl) (fun _ => rfl) gl21 rfl (zq tb rfl (ao_str (st' := [⟨0, 32, 2, [(eRImage p0)]⟩, ⟨0, 83, 2, [[.zc, .zc]]⟩, ⟨0, 83, 2, [[(ls eRDecl p0.decls), (ow 3 1 l21)]]⟩, (ro 1 108 3 eRSignature l21), ⟨0, 45, 5, [(eRProc c20)]⟩, (ro 0 108 3 eRSignature [(RSignature.mk c20.params c20.lent c20.result)])]) go0 ti81 rfl rfl rfl rfl rfl rfl (show 1 + 1 ≤ 2 by decide) rfl (dn hK18 rfl (AW.regionO rfl (zm tb 2 rfl ?_)))))
   exact AO.done (xi (Sh.w (t9 + 1), l21) h1 (by refine Wk.trans (Wk.rg (L := [(1, (.ptr 0 0 0 0)), (2, (.ptr 1 0 0 0)), (4, (.ptr 2 0 0 0)), (16, (ls eRProc p0.procs)), (17, (i64 (Sh.len p0.procs))), (18, (i64 (Sh.w (t9 + 1))))]) (st' := [⟨0, 32, 2, [(eRImage p0)]⟩, ⟨0, 83, 2, [[.zc, .zc]]⟩, ⟨0, 83, 2, [[(ls eRDecl p0.decls), (ow 3 0 l21)]]⟩, (ro 0 108 3 eRSignature l21), ⟨0, 45, 5, [(eRProc c20)]⟩, (ro 0 108 3 eRSignature [(RSignature.mk c20.params c20.lent c20.result)])]) (.raw rfl rfl (.raw rfl rfl (.raw rfl rfl (.pure (pure_map fun _ => rfl) (.raw rfl rfl (.pure (pure_map fun _ => rfl) .nil)))))) ⟨.rfl, .rfl, .rfl, .rfl, .rfl, .rfl, trivial⟩) ?_; exact Wk.permk (L := [(1, (.ptr 0 0 0 0)), (2, (.ptr 1 0 0 0)), (4, (.ptr 2 0 0 0)), (16, (ls eRProc p0.procs)), (17, (i64 (Sh.len p0.procs))), (18, (i64 (Sh.w (t9 + 1))))]) (st' := [⟨0, 32, 2, [(eRImage p0)]⟩, ⟨0, 83, 2, [[.zc, .zc]]⟩, ⟨0, 83, 2, [[(ls eRDecl p0.decls), (ow 3 0 l21)]]⟩, (ro 0 108 3 eRSignature l21)]) (st1 := [⟨0, 32, 2, [(eRImage p0)]⟩, ⟨0, 83, 2, [[.zc, .zc]]⟩, ⟨0, 83, 2, [[(ls eRDecl p0.decls), (ow 3 0 l21)]]⟩, (ro 0 108 3 eRSignature l21)]) [0, 1, 2, 3] rfl .nil (by decide) rfl rfl (.raw rfl rfl (.raw rfl rfl (.raw rfl rfl (.pure (pure_map fun _ => rfl) .nil)))) ⟨.rfl, .rfl, .rfl, .rfl, .rfl, .rfl, trivial⟩))
  ·intro b17 h1
   exact AW.exit (M12 l10 (Sh.some_eq h1).symm _ (Wk.tr rfl))
theorem impl_setsRegister_ok {p0 : Int} {r : Bool} (h0 : impl_setsRegister p0 = some r) : ACalls Try.prog 42 [(i64 p0)] [] (fun v st => v = (.bool r) ∧ st = []) := by
 unfold impl_setsRegister at h0
 refine ai Try.func42 rfl rfl rfl rfl (zr tb rfl rfl (AW.seq fun K2 hK2 => bs h0 fun o4 h1 h0 => ?_))
 have M4 : ∀ (t3 : Bool), o4 = t3 → ∀ s, Wk 0 s ⟨17, envL [(2, (.bool t3))], []⟩ → K2 s := by
  intro t3 hq s hw
  subst o4
  try dsimp only at h0
  refine hK2 _ (AW.weaken hw ?_)
  replace h0 := Sh.some_eq h0
  subst r
  exact AW.ret (xr (Wk.to (L := [(2, (.bool t3))]) ⟨.rfl, trivial⟩))
 refine AW.regionO rfl (zm tb 3 rfl ?_)
 rcases Sh.ite_some h1 with ⟨b5, h1⟩ | ⟨b5, h1⟩
 ·refine zg tb b5 rfl (zg tb b5 rfl (zt b5 rfl (zq tb rfl ?_)))
  rcases Sh.ite_some h1 with ⟨b6, h1⟩ | ⟨b6, h1⟩
  ·exact zs b6 rfl (zs b6 rfl (zt b6 rfl (zq tb rfl (zs rfl rfl (zs rfl rfl (zt rfl rfl (zq tb rfl (AO.done (M4 true (Sh.some_eq h1).symm _ (Wk.tr rfl))))))))))
  ·refine zg tb b6 rfl (zg tb b6 rfl (zf b6 rfl (zq tb rfl ?_)))
   rcases Sh.ite_some h1 with ⟨b7, h1⟩ | ⟨b7, h1⟩
   ·exact zs b7 rfl (zs b7 rfl (zt b7 rfl (zq tb rfl (AO.done (M4 true (Sh.some_eq h1).symm _ (Wk.tr rfl))))))
   ·exact zg tb b7 rfl (zg tb b7 rfl (zf b7 rfl (zq tb rfl (AO.done (M4 (decide (p0 = 19)) (Sh.some_eq h1).symm _ (Wk.tr rfl))))))
 ·refine zs b5 rfl (zs b5 rfl (zf b5 rfl (zq tb rfl (zg tb rfl rfl (zg tb rfl rfl (zf rfl rfl (zq tb rfl ?_)))))))
  rcases Sh.ite_some h1 with ⟨b8, h1⟩ | ⟨b8, h1⟩
  ·exact zs b8 rfl (zs b8 rfl (zt b8 rfl (zq tb rfl (AO.done (M4 true (Sh.some_eq h1).symm _ (Wk.tr rfl))))))
  ·exact zg tb b8 rfl (zg tb b8 rfl (zf b8 rfl (zq tb rfl (AO.done (M4 (decide (p0 = 19)) (Sh.some_eq h1).symm _ (Wk.tr rfl))))))
theorem impl_signatures_instrValid_1_ok {s0_0 : Int} {s1_0 : (List Int)} {s1_1 : (List Int)} {s1_2 : Int} {s1_3 : Int} {s1_4 : (List RInstr)} {p0 : Int} {r : Bool} (h0 : impl_signatures_instrValid_1 s0_0 s1_0 s1_1 s1_2 s1_3 s1_4 p0 = some r) : ACalls Try.prog 61 [(i64 p0), (.ptr 0 0 0 0), (.ptr 1 0 0 0)] [⟨0, 3, 1, [[(i64 s0_0)]]⟩, ⟨0, 45, 5, [[(ls eI s1_0), (ls eI s1_1), (i64 s1_2), (i64 s1_3), (ls eRInstr s1_4)]]⟩] (fun v st => v = (.bool r) ∧ st = [⟨0, 3, 1, [[(i64 s0_0)]]⟩, ⟨0, 45, 5, [[(ls eI s1_0), (ls eI s1_1), (i64 s1_2), (i64 s1_3), (ls eRInstr s1_4)]]⟩]) := by
 unfold impl_signatures_instrValid_1 at h0
 refine ai Try.func61 rfl rfl rfl rfl (zr tb rfl rfl (AW.seq fun K2 hK2 => bs h0 fun o4 h1 h0 => ?_))
 have M4 : ∀ (t3 : Bool), o4 = t3 → ∀ s, Wk 2 s ⟨15, envL [(4, (.bool t3))], [⟨0, 3, 1, [[(i64 s0_0)]]⟩, ⟨0, 45, 5, [[(ls eI s1_0), (ls eI s1_1), (i64 s1_2), (i64 s1_3), (ls eRInstr s1_4)]]⟩]⟩ → K2 s := by
  intro t3 hq s hw
  subst o4
  try dsimp only at h0
  refine hK2 _ (AW.weaken hw ?_)
  replace h0 := Sh.some_eq h0
  subst r
  exact AW.ret (xr (Wk.to (L := [(4, (.bool t3))]) ⟨.rfl, trivial⟩))
 refine AW.regionO rfl (zm tb 4 rfl ?_)
 rcases Sh.ite_some h1 with ⟨b5, h1⟩ | ⟨b5, h1⟩
 ·exact zg tb b5 rfl (zg tb b5 rfl (zg tb b5 rfl (ao_q (v := (i64 (Sh.len s1_4))) (go1 rfl rfl b5) rfl (aq_lens sl43 rfl) (zg tb b5 rfl (zt b5 rfl (zq tb rfl (AO.done (M4 (decide (p0 < (Sh.len s1_4))) (Sh.some_eq h1).symm _ (Wk.tr rfl)))))))))
 ·refine zs b5 rfl ?_
  iterate 4 refine zs b5 rfl ?_
  exact zf b5 rfl (zq tb rfl (AO.done (M4 false (Sh.some_eq h1).symm _ (Wk.tr rfl))))
theorem impl_signatures_instrValid_2_ok {s1_0 : Int} {s2_0 : (List Int)} {s2_1 : (List Int)} {s2_2 : Int} {s2_3 : Int} {s2_4 : (List RInstr)} {p0 : Int} {r : Bool} (h0 : impl_signatures_instrValid_2 s1_0 s2_0 s2_1 s2_2 s2_3 s2_4 p0 = some r) : ACalls Try.prog 63 [(i64 p0), (.ptr 0 0 0 0)] [⟨0, 71, 1, [[(.fn 61 [(.ptr 1 0 0 0), (.ptr 2 0 0 0)])]]⟩, ⟨0, 3, 1, [[(i64 s1_0)]]⟩, ⟨0, 45, 5, [[(ls eI s2_0), (ls eI s2_1), (i64 s2_2), (i64 s2_3), (ls eRInstr s2_4)]]⟩] (fun v st => v = (.bool r) ∧ st = [⟨0, 71, 1, [[(.fn 61 [(.ptr 1 0 0 0), (.ptr 2 0 0 0)])]]⟩, ⟨0, 3, 1, [[(i64 s1_0)]]⟩, ⟨0, 45, 5, [[(ls eI s2_0), (ls eI s2_1), (i64 s2_2), (i64 s2_3), (ls eRInstr s2_4)]]⟩]) := by
 unfold impl_signatures_instrValid_2 at h0
 refine ai Try.func63 rfl rfl rfl rfl (zr tb rfl rfl (sr rfl fun K2 hK2 => zm tb 2 rfl (bs h0 fun q3 gq3 h0 => ?_)))
 refine ao_callst (rowsP := [⟨0, 3, 1, [[(i64 s1_0)]]⟩, ⟨0, 45, 5, [[(ls eI s2_0), (ls eI s2_1), (i64 s2_2), (i64 s2_3), (ls eRInstr s2_4)]]⟩]) (rows0 := [⟨0, 3, 1, [[(i64 s1_0)]]⟩, ⟨0, 45, 5, [[(ls eI s2_0), (ls eI s2_1), (i64 s2_2), (i64 s2_3), (ls eRInstr s2_4)]]⟩]) (rows1 := [⟨0, 3, 1, [[(i64 s1_0)]]⟩, ⟨0, 45, 5, [[(ls eI s2_0), (ls eI s2_1), (i64 s2_2), (i64 s2_3), (ls eRInstr s2_4)]]⟩]) (rows2 := []) (rows1' := [⟨0, 3, 1, [[(i64 s1_0)]]⟩, ⟨0, 45, 5, [[(ls eI s2_0), (ls eI s2_1), (i64 s2_2), (i64 s2_3), (ls eRInstr s2_4)]]⟩]) (rows2' := []) (st' := [⟨0, 71, 1, [[(.fn 61 [(.ptr 1 0 0 0), (.ptr 2 0 0 0)])]]⟩, ⟨0, 3, 1, [[(i64 s1_0)]]⟩, ⟨0, 45, 5, [[(ls eI s2_0), (ls eI s2_1), (i64 s2_2), (i64 s2_3), (ls eRInstr s2_4)]]⟩]) (v' := (.bool q3)) [1, 2] go0 rfl hb61 (impl_signatures_instrValid_1_ok gq3) rfl (by decide) rfl rfl (.raw rfl rfl (.raw rfl rfl .nil)) rfl rfl (.raw rfl rfl (.raw rfl rfl .nil)) .nil rfl rfl ?_
 refine zm tb 2 rfl (dn hK2 rfl ?_)
 replace h0 := Sh.some_eq h0
 subst r
 exact AW.ret (xr (Wk.to (L := [(3, (.bool (!q3)))]) ⟨.rfl, trivial⟩))
theorem slices_IndexFunc_int_int_ok {N : Nat} {s1_0 : Int} {s2_0 : (List Int)} {s2_1 : (List Int)} {s2_2 : Int} {s2_3 : Int} {s2_4 : (List RInstr)} {p0 : (List Int)} {r : Int} (h0 : slices_IndexFunc_int_int N s1_0 s2_0 s2_1 s2_2 s2_3 s2_4 p0 = some r) : ACalls Try.prog 81 [(ls eI p0), (.fn 63 [(.ptr 0 0 0 0)])] [⟨0, 71, 1, [[(.fn 61 [(.ptr 1 0 0 0), (.ptr 2 0 0 0)])]]⟩, ⟨0, 3, 1, [[(i64 s1_0)]]⟩, ⟨0, 45, 5, [[(ls eI s2_0), (ls eI s2_1), (i64 s2_2), (i64 s2_3), (ls eRInstr s2_4)]]⟩] (fun v st => v = (i64 r) ∧ st = [⟨0, 71, 1, [[(.fn 61 [(.ptr 1 0 0 0), (.ptr 2 0 0 0)])]]⟩, ⟨0, 3, 1, [[(i64 s1_0)]]⟩, ⟨0, 45, 5, [[(ls eI s2_0), (ls eI s2_1), (i64 s2_2), (i64 s2_3), (ls eRInstr s2_4)]]⟩]) := by
 unfold slices_IndexFunc_int_int at h0
 refine ai Try.func81 rfl rfl rfl rfl (zr tb rfl rfl (AW.seq fun K2 hK2 => sr rfl fun K3 hK3 => zq tb rfl (zl tb rfl rfl (zq tb rfl (dn hK3 rfl ?_)))))
 obtain ⟨o5, h1, h0⟩ := Sh.cont_some h0
 have M5 : ∀ (_ : Unit), o5 = Sum.inr () → ∀ s, Wk 3 s ⟨19, envL [], [⟨0, 71, 1, [[(.fn 61 [(.ptr 1 0 0 0), (.ptr 2 0 0 0)])]]⟩, ⟨0, 3, 1, [[(i64 s1_0)]]⟩, ⟨0, 45, 5, [[(ls eI s2_0), (ls eI s2_1), (i64 s2_2), (i64 s2_3), (ls eRInstr s2_4)]]⟩]⟩ → K2 s := by
  intro _ hq s hw
  subst o5
  try dsimp only at h0
  refine hK2 _ (AW.weaken hw (zr tb rfl rfl ?_))
  replace h0 := Sh.some_eq h0
  subst r
  exact AW.ret (xr (Wk.to (L := [(4, (i64 (-1)))]) ⟨.rfl, trivial⟩))
 refine AW.block (AW.loopF (σ := Int) (fun n v => slices_IndexFunc_int_int_L1 s1_0 s2_0 s2_1 s2_2 s2_3 s2_4 p0 n v = some o5) (fun t4 => ⟨19, envL [(0, (ls eI p0)), (1, (.fn 63 [(.ptr 0 0 0 0)])), (7, (i64 (Sh.len p0))), (8, (i64 t4))], [⟨0, 71, 1, [[(.fn 61 [(.ptr 1 0 0 0), (.ptr 2 0 0 0)])]]⟩, ⟨0, 3, 1, [[(i64 s1_0)]]⟩, ⟨0, 45, 5, [[(ls eI s2_0), (ls eI s2_1), (i64 s2_2), (i64 s2_3), (ls eRInstr s2_4)]]⟩]⟩) N 0 h1 (Wk.tr rfl) (fun _ hv => by rw [slices_IndexFunc_int_int_L1] at hv; cases hv) ?_)
 rintro n t4 h1
 try dsimp only at h1 ⊢
 rw [slices_IndexFunc_int_int_L1] at h1
 refine zr tb rfl rfl (AW.seq fun K8 hK8 => ?_)
 refine ci h1 rfl ?_ ?_ <;> clear h1
 ·intro b9 h1
  refine AW.skip (hK8 _ (AW.seq fun K10 hK10 => AW.block (zr tb rfl rfl (sr rfl fun K12 hK12 => zm tb 3 rfl (bs h1 fun c13 gc13 h1 => zx ei27 gc13 rfl rfl rfl (zq tb rfl (bs h1 fun q14 gq14 h1 => ?_)))))))
  refine ao_callst (rowsP := [⟨0, 71, 1, [[(.fn 61 [(.ptr 1 0 0 0), (.ptr 2 0 0 0)])]]⟩, ⟨0, 3, 1, [[(i64 s1_0)]]⟩, ⟨0, 45, 5, [[(ls eI s2_0), (ls eI s2_1), (i64 s2_2), (i64 s2_3), (ls eRInstr s2_4)]]⟩]) (rows0 := [⟨0, 71, 1, [[(.fn 61 [(.ptr 1 0 0 0), (.ptr 2 0 0 0)])]]⟩, ⟨0, 3, 1, [[(i64 s1_0)]]⟩, ⟨0, 45, 5, [[(ls eI s2_0), (ls eI s2_1), (i64 s2_2), (i64 s2_3), (ls eRInstr s2_4)]]⟩]) (rows1 := [⟨0, 71, 1, [[(.fn 61 [(.ptr 1 0 0 0), (.ptr 2 0 0 0)])]]⟩, ⟨0, 3, 1, [[(i64 s1_0)]]⟩, ⟨0, 45, 5, [[(ls eI s2_0), (ls eI s2_1), (i64 s2_2), (i64 s2_3), (ls eRInstr s2_4)]]⟩]) (rows2 := []) (rows1' := [⟨0, 71, 1, [[(.fn 61 [(.ptr 1 0 0 0), (.ptr 2 0 0 0)])]]⟩, ⟨0, 3, 1, [[(i64 s1_0)]]⟩, ⟨0, 45, 5, [[(ls eI s2_0), (ls eI s2_1), (i64 s2_2), (i64 s2_3), (ls eRInstr s2_4)]]⟩]) (rows2' := []) (st' := [⟨0, 71, 1, [[(.fn 61 [(.ptr 1 0 0 0), (.ptr 2 0 0 0)])]]⟩, ⟨0, 3, 1, [[(i64 s1_0)]]⟩, ⟨0, 45, 5, [[(ls eI s2_0), (ls eI s2_1), (i64 s2_2), (i64 s2_3), (ls eRInstr s2_4)]]⟩]) (v' := (.bool q14)) [0, 1, 2] go0 rfl hb63 (impl_signatures_instrValid_2_ok gq14) rfl (by decide) rfl rfl (.raw rfl rfl (.raw rfl rfl (.raw rfl rfl .nil))) rfl rfl (.raw rfl rfl (.raw rfl rfl (.raw rfl rfl .nil))) .nil rfl rfl ?_
  refine dn hK12 rfl ?_
  refine ci h1 rfl ?_ ?_ <;> clear h1
  ·intro b15 h1
   refine zr tb rfl rfl ?_
   replace h1 := Sh.some_eq h1
   subst o5
   try dsimp only [id] at h0
   replace h0 := Sh.some_eq h0
   subst r
   exact AW.ret (xr (Wk.to (L := [(4, (i64 t4))]) ⟨.rfl, trivial⟩))
  ·intro b15 h1
   exact AW.skip (hK10 _ (AW.regionO rfl (zm tb 2 rfl (AO.done (xi (Sh.w (t4 + 1)) h1 (Wk.tr rfl))))))
 ·intro b9 h1
  exact AW.exit (M5 () (Sh.some_eq h1).symm _ (Wk.tr rfl))
theorem slices_ContainsFunc_int_int_ok {N : Nat} {s1_0 : Int} {s2_0 : (List Int)} {s2_1 : (List Int)} {s2_2 : Int} {s2_3 : Int} {s2_4 : (List RInstr)} {p0 : (List Int)} {r : Bool} (h0 : slices_ContainsFunc_int_int N s1_0 s2_0 s2_1 s2_2 s2_3 s2_4 p0 = some r) : ACalls Try.prog 62 [(ls eI p0), (.fn 63 [(.ptr 0 0 0 0)])] [⟨0, 71, 1, [[(.fn 61 [(.ptr 1 0 0 0), (.ptr 2 0 0 0)])]]⟩, ⟨0, 3, 1, [[(i64 s1_0)]]⟩, ⟨0, 45, 5, [[(ls eI s2_0), (ls eI s2_1), (i64 s2_2), (i64 s2_3), (ls eRInstr s2_4)]]⟩] (fun v st => v = (.bool r) ∧ st = [⟨0, 71, 1, [[(.fn 61 [(.ptr 1 0 0 0), (.ptr 2 0 0 0)])]]⟩, ⟨0, 3, 1, [[(i64 s1_0)]]⟩, ⟨0, 45, 5, [[(ls eI s2_0), (ls eI s2_1), (i64 s2_2), (i64 s2_3), (ls eRInstr s2_4)]]⟩]) := by
 unfold slices_ContainsFunc_int_int at h0
 refine ai Try.func62 rfl rfl rfl rfl (zr tb rfl rfl (sr rfl fun K2 hK2 => zm tb 2 rfl (bs h0 fun q3 gq3 h0 => ?_)))
 refine ao_calls (rowsP := [⟨0, 71, 1, [[(.fn 61 [(.ptr 1 0 0 0), (.ptr 2 0 0 0)])]]⟩, ⟨0, 3, 1, [[(i64 s1_0)]]⟩, ⟨0, 45, 5, [[(ls eI s2_0), (ls eI s2_1), (i64 s2_2), (i64 s2_3), (ls eRInstr s2_4)]]⟩]) (rows0 := [⟨0, 71, 1, [[(.fn 61 [(.ptr 1 0 0 0), (.ptr 2 0 0 0)])]]⟩, ⟨0, 3, 1, [[(i64 s1_0)]]⟩, ⟨0, 45, 5, [[(ls eI s2_0), (ls eI s2_1), (i64 s2_2), (i64 s2_3), (ls eRInstr s2_4)]]⟩]) (rows1 := [⟨0, 71, 1, [[(.fn 61 [(.ptr 1 0 0 0), (.ptr 2 0 0 0)])]]⟩, ⟨0, 3, 1, [[(i64 s1_0)]]⟩, ⟨0, 45, 5, [[(ls eI s2_0), (ls eI s2_1), (i64 s2_2), (i64 s2_3), (ls eRInstr s2_4)]]⟩]) (rows2 := []) (rows1' := [⟨0, 71, 1, [[(.fn 61 [(.ptr 1 0 0 0), (.ptr 2 0 0 0)])]]⟩, ⟨0, 3, 1, [[(i64 s1_0)]]⟩, ⟨0, 45, 5, [[(ls eI s2_0), (ls eI s2_1), (i64 s2_2), (i64 s2_3), (ls eRInstr s2_4)]]⟩]) (rows2' := []) (st' := [⟨0, 71, 1, [[(.fn 61 [(.ptr 1 0 0 0), (.ptr 2 0 0 0)])]]⟩, ⟨0, 3, 1, [[(i64 s1_0)]]⟩, ⟨0, 45, 5, [[(ls eI s2_0), (ls eI s2_1), (i64 s2_2), (i64 s2_3), (ls eRInstr s2_4)]]⟩]) (v' := (i64 q3)) [0, 1, 2] go0 hb81 (slices_IndexFunc_int_int_ok gq3) rfl (by decide) rfl rfl (.raw rfl rfl (.raw rfl rfl (.raw rfl rfl .nil))) rfl rfl (.raw rfl rfl (.raw rfl rfl (.raw rfl rfl .nil))) .nil rfl rfl ?_
 refine zm tb 2 rfl (dn hK2 rfl ?_)
 replace h0 := Sh.some_eq h0
 subst r
 exact AW.ret (xr (Wk.to (L := [(4, (.bool (decide (0 ≤ q3))))]) ⟨.rfl, trivial⟩))
theorem impl_conCount_ok {N : Nat} {p0 : (List RDecl)} {r : Int} (h0 : impl_conCount N p0 = some r) : ACalls Try.prog 82 [(ls eRDecl p0)] [] (fun v st => v = (i64 r) ∧ st = []) := by
 unfold impl_conCount at h0
 refine ai Try.func82 rfl rfl rfl rfl ?_
 iterate 2 refine zr tb rfl rfl ?_
 refine AW.seq fun K3 hK3 => sr rfl fun K4 hK4 => zq tb rfl (zl tb rfl rfl (zq tb rfl (dn hK4 rfl (bs h0 fun o8 h1 h0 => ?_))))
 have M8 : ∀ (n7 : Int), o8 = n7 → ∀ s, Wk 0 s ⟨19, envL [(3, (i64 n7))], []⟩ → K3 s := by
  intro n7 hq s hw
  subst o8
  try dsimp only at h0
  refine hK3 _ (AW.weaken hw (zr tb rfl rfl ?_))
  replace h0 := Sh.some_eq h0
  subst r
  exact AW.ret (xr (Wk.to (L := [(2, (i64 n7))]) ⟨.rfl, trivial⟩))
 refine AW.block (AW.loopF (σ := Int × Int) (fun n v => impl_conCount_L1 p0 n v.1 v.2 = some o8) (fun (n5, t6) => ⟨19, envL [(3, (i64 n5)), (6, (ls eRDecl p0)), (7, (i64 (Sh.len p0))), (8, (i64 t6))], []⟩) N (0, 0) h1 (Wk.tr rfl) (fun _ hv => by rw [impl_conCount_L1] at hv; cases hv) ?_)
 rintro n ⟨n5, t6⟩ h1
 try dsimp only at h1 ⊢
 rw [impl_conCount_L1] at h1
 refine zr tb rfl rfl (AW.seq fun K11 hK11 => ?_)
 refine ci h1 rfl ?_ ?_ <;> clear h1
 ·intro b12 h1
  refine AW.skip (hK11 _ (AW.seq fun K13 hK13 => AW.block (sr rfl fun K14 hK14 => bs h1 fun c15 gc15 h1 => zx ei29 gc15 rfl rfl rfl (zq tb rfl (ao_alloc (m := 0) (st' := [⟨0, 78, 3, [[(i64 0), (i64 0), .zc]]⟩]) go0 zi78 rfl rfl (ao_str (st' := [⟨0, 78, 3, [(eRDecl c15)]⟩]) go0 ti78 rfl rfl rfl rfl rfl rfl (show 0 + 3 ≤ 3 by decide) rfl (dn hK14 rfl (AW.regionO rfl (zm tb 3 rfl ?_)))))))))
  exact zl tb rfl rfl (zm tb 2 rfl (dn hK13 rfl (AW.regionO rfl (zm tb 2 rfl (AO.done (xi (Sh.w (n5 + (Sh.len c15.cons)), Sh.w (t6 + 1)) h1 (Wk.d0 _ rfl)))))))
 ·intro b12 h1
  exact AW.exit (M8 n5 (Sh.some_eq h1).symm _ (Wk.tr rfl))
theorem impl_consOf_ok {N : Nat} {p0 : (List RDecl)} {p1 : Int} {r : (List Int)} (h0 : impl_consOf N p0 p1 = some r) : ACalls Try.prog 83 [(ls eRDecl p0), (i64 p1)] [] (fun v st => v = (ow 0 0 r) ∧ st = [(ro 0 3 1 eI r)]) := by
 unfold impl_consOf at h0
 refine ai Try.func83 rfl rfl rfl rfl (zr tb rfl rfl (AW.seq fun K2 hK2 => AW.seq fun K3 hK3 => bs h0 fun o5 h1 h0 => ?_))
 have M5 : ∀ (t4 : Bool), o5 = t4 → ∀ s, Wk 0 s ⟨39, envL [(0, (ls eRDecl p0)), (1, (i64 p1)), (15, (.bool t4))], []⟩ → K3 s := by
  intro t4 hq s hw
  subst o5
  try dsimp only at h0
  refine hK3 _ (AW.weaken hw ?_)
  refine ci h0 rfl ?_ ?_ <;> clear h0
  ·intro b6 h0
   refine zr tb rfl rfl ?_
   replace h0 := Sh.some_eq h0
   subst r
   exact AW.ret (Exists.intro _ (And.intro (((Wk.adopt (t := 4) rfl 3 (size := 1) (by decide)).trans (Wk.to (L := [(4, (.own 0 0 (List.length ([] : List Int))))]) ⟨.rfl, trivial⟩)).trans (Wk.to (L := [(4, (.own 0 0 (List.length ([] : List Int))))]) ⟨.rfl, trivial⟩)) (And.intro rfl rfl)))
  ·intro b6 h0
   refine AW.skip (hK2 _ (sr rfl fun K8 hK8 => zm tb 3 rfl (bs h0 fun l9 gl9 h0 => ao_sls (i := 0) (j := Sh.w (p1 - 1)) go0 ei29 rfl rfl rfl (fun _ => rfl) gl9 (bs h0 fun q10 gq10 h0 => zc hb82 (impl_conCount_ok gq10) rfl rfl rfl (zq tb rfl (dn hK8 rfl (zr tb rfl rfl (AW.seq fun K12 hK12 => sr rfl fun K13 hK13 => ?_))))))))
   refine zm tb 3 rfl (bs h0 fun c14 gc14 h0 => zx ei29 gc14 rfl rfl rfl (zm tb 2 rfl (zl tb rfl rfl (zq tb rfl (dn hK13 rfl (bs h0 fun o18 h1 h0 => ?_))))))
   have M18 : ∀ (l17 : (List Int)), o18 = l17 → ∀ s, Wk 0 s ⟨39, envL [(6, (ow 0 0 l17))], [(ro 0 3 1 eI l17)]⟩ → K12 s := by
    intro l17 hq s hw
    subst o18
    try dsimp only at h0
    refine hK12 _ (AW.weaken hw (zr tb rfl rfl ?_))
    replace h0 := Sh.some_eq h0
    subst r
    exact AW.ret (xr (Wk.to (L := [(4, (ow 0 0 l17))]) ⟨.rfl, trivial⟩))
   refine AW.block (AW.loopF (σ := Int × (List Int)) (fun n v => impl_consOf_L1 c14 q10 n v.1 v.2 = some o18) (fun (t15, l16) => ⟨39, envL [(5, (i64 q10)), (6, (ow 0 0 l16)), (27, (i64 (Sh.len c14.cons))), (28, (i64 t15))], [(ro 0 3 1 eI l16)]⟩) N (0, []) h1 ((Wk.adopt (t := 6) rfl 3 (size := 1) (by decide)).trans (Wk.to (L := [(5, (i64 q10)), (6, (.own 0 0 (List.length ([] : List Int)))), (27, (i64 (Sh.len c14.cons))), (28, (i64 0))]) ⟨.rfl, .rfl, .rfl, .rfl, trivial⟩)) (fun _ hv => by rw [impl_consOf_L1] at hv; cases hv) ?_)
   rintro n ⟨t15, l16⟩ h1
   try dsimp only at h1 ⊢
   rw [impl_consOf_L1] at h1
   refine zr tb rfl rfl (AW.seq fun K21 hK21 => ?_)
   refine ci h1 rfl ?_ ?_ <;> clear h1
   ·intro b22 h1
    refine AW.skip (hK21 _ (AW.seq fun K23 hK23 => AW.block (zr tb rfl rfl (AW.regionO rfl (zm tb 4 rfl ?_)))))
    refine ao_bs (m := 1) (st' := [(ro 0 3 1 eI l16), (ro 0 3 1 eI [Sh.w (q10 + t15)])]) (l := [Sh.w (q10 + t15)]) (enc := eI) go0 ei27 (by decide) rfl rfl rfl rfl rfl rfl ?_
    refine bs h1 fun l25 gl25 h1 => ao_apo (st' := [(ro 1 3 1 eI l25), (ro 0 3 1 eI [Sh.w (q10 + t15)])]) (l2 := [Sh.w (q10 + t15)]) go0 ei27 rfl rfl rfl rfl (el_o rfl rfl) (fun _ => rfl) gl25 rfl (zq tb rfl (dn hK23 rfl (AW.regionO rfl (zm tb 2 rfl ?_))))
    exact AO.done (xi (Sh.w (t15 + 1), l25) h1 (by refine Wk.trans (Wk.rg (L := [(5, (i64 q10)), (6, (ow 0 0 l25)), (27, (i64 (Sh.len c14.cons))), (28, (i64 (Sh.w (t15 + 1))))]) (st' := [(ro 0 3 1 eI l25), (ro 0 3 1 eI [Sh.w (q10 + t15)])]) (.pure (pure_map fun _ => rfl) (.pure (pure_map fun _ => rfl) .nil)) ⟨.rfl, .rfl, .rfl, .rfl, trivial⟩) ?_; exact Wk.permk (L := [(5, (i64 q10)), (6, (ow 0 0 l25)), (27, (i64 (Sh.len c14.cons))), (28, (i64 (Sh.w (t15 + 1))))]) (st' := [(ro 0 3 1 eI l25)]) (st1 := [(ro 0 3 1 eI l25)]) [0] rfl .nil (by decide) rfl rfl (.pure (pure_map fun _ => rfl) .nil) ⟨.rfl, .rfl, .rfl, .rfl, trivial⟩))
   ·intro b22 h1
    exact AW.exit (M18 l16 (Sh.some_eq h1).symm _ (Wk.tr rfl))
 refine AW.regionO rfl (zm tb 3 rfl ?_)
 rcases Sh.ite_some h1 with ⟨b26, h1⟩ | ⟨b26, h1⟩
 ·refine zs b26 rfl ?_
  iterate 3 refine zs b26 rfl ?_
  exact zt b26 rfl (AO.done (M5 true (Sh.some_eq h1).symm _ (Wk.tr rfl)))
 ·exact zg tb b26 rfl (zg tb b26 rfl (ao_q (v := (i64 (Sh.len p0))) (go1 rfl rfl b26) rfl (aq_lens sl29 rfl) (zg tb b26 rfl (zf b26 rfl (AO.done (M5 (decide ((Sh.len p0) < p1)) (Sh.some_eq h1).symm _ (Wk.tr rfl)))))))
theorem impl_signatures_numValid_ok {N : Nat} {s0_0 : Int} {s1_0 : (List Int)} {s1_1 : (List Int)} {s1_2 : Int} {s1_3 : Int} {s1_4 : (List RInstr)} {p0 : RSignatures} {p1 : RInstr} {r : Bool} (h0 : impl_signatures_numValid N s0_0 s1_0 s1_1 s1_2 s1_3 s1_4 p0 p1 = some r) : ACalls Try.prog 64 [(.agg (eRSignatures p0)), (.agg (eRInstr p1)), (.fn 61 [(.ptr 0 0 0 0), (.ptr 1 0 0 0)])] [⟨0, 3, 1, [[(i64 s0_0)]]⟩, ⟨0, 45, 5, [[(ls eI s1_0), (ls eI s1_1), (i64 s1_2), (i64 s1_3), (ls eRInstr s1_4)]]⟩] (fun v st => v = (.bool r) ∧ st = [⟨0, 3, 1, [[(i64 s0_0)]]⟩, ⟨0, 45, 5, [[(ls eI s1_0), (ls eI s1_1), (i64 s1_2), (i64 s1_3), (ls eRInstr s1_4)]]⟩]) := by
 unfold impl_signatures_numValid at h0
 refine ai Try.func64 rfl rfl rfl rfl (sr rfl fun K1 hK1 => ao_box (m := 2) (st' := [⟨0, 3, 1, [[(i64 s0_0)]]⟩, ⟨0, 45, 5, [[(ls eI s1_0), (ls eI s1_1), (i64 s1_2), (i64 s1_3), (ls eRInstr s1_4)]]⟩, ⟨0, 83, 2, [(eRSignatures p0)]⟩]) go0 rfl rfl rfl rfl rfl (ao_box (m := 3) (st' := [⟨0, 3, 1, [[(i64 s0_0)]]⟩, ⟨0, 45, 5, [[(ls eI s1_0), (ls eI s1_1), (i64 s1_2), (i64 s1_3), (ls eRInstr s1_4)]]⟩, ⟨0, 83, 2, [(eRSignatures p0)]⟩, ⟨0, 73, 6, [(eRInstr p1)]⟩]) go0 rfl rfl rfl rfl rfl (zq tb rfl (dn hK1 rfl (AW.seq fun K2 hK2 => zr tb rfl rfl (AW.block (zr tb rfl rfl ?_)))))))
 refine ci h0 rfl ?_ ?_ <;> clear h0
 ·intro b5 h0
  refine AW.seq fun K6 hK6 => bs h0 fun o8 h1 h0 => ?_
  have M8 : ∀ (t7 : Bool), o8 = t7 → ∀ s, Wk 2 s ⟨109, envL [(6, (.bool t7))], [⟨0, 3, 1, [[(i64 s0_0)]]⟩, ⟨0, 45, 5, [[(ls eI s1_0), (ls eI s1_1), (i64 s1_2), (i64 s1_3), (ls eRInstr s1_4)]]⟩]⟩ → K6 s := by
   intro t7 hq s hw
   subst o8
   try dsimp only at h0
   refine hK6 _ (AW.weaken hw ?_)
   replace h0 := Sh.some_eq h0
   subst r
   exact AW.ret (xr (Wk.to (L := [(6, (.bool t7))]) ⟨.rfl, trivial⟩))
  refine AW.regionO rfl (zm tb 4 rfl ?_)
  rcases Sh.ite_some h1 with ⟨b9, h1⟩ | ⟨b9, h1⟩
  ·refine zg tb b9 rfl (zg tb b9 rfl (zg tb b9 rfl (zt b9 rfl (zq tb rfl ?_))))
   exact AO.done (M8 (decide (p1.num ≤ 999)) (Sh.some_eq h1).symm _ (Wk.permk (L := [(6, (.bool (decide (p1.num ≤ 999))))]) (st' := [⟨0, 3, 1, [[(i64 s0_0)]]⟩, ⟨0, 45, 5, [[(ls eI s1_0), (ls eI s1_1), (i64 s1_2), (i64 s1_3), (ls eRInstr s1_4)]]⟩]) (st1 := [⟨0, 3, 1, [[(i64 s0_0)]]⟩, ⟨0, 45, 5, [[(ls eI s1_0), (ls eI s1_1), (i64 s1_2), (i64 s1_3), (ls eRInstr s1_4)]]⟩]) [0, 1] rfl (.raw rfl rfl (.raw rfl rfl .nil)) (by decide) rfl rfl (.raw rfl rfl (.raw rfl rfl .nil)) ⟨.rfl, trivial⟩))
  ·refine zs b9 rfl (zs b9 rfl (zs b9 rfl (zf b9 rfl (zq tb rfl ?_))))
   exact AO.done (M8 false (Sh.some_eq h1).symm _ (Wk.permk (L := [(6, (.bool false))]) (st' := [⟨0, 3, 1, [[(i64 s0_0)]]⟩, ⟨0, 45, 5, [[(ls eI s1_0), (ls eI s1_1), (i64 s1_2), (i64 s1_3), (ls eRInstr s1_4)]]⟩]) (st1 := [⟨0, 3, 1, [[(i64 s0_0)]]⟩, ⟨0, 45, 5, [[(ls eI s1_0), (ls eI s1_1), (i64 s1_2), (i64 s1_3), (ls eRInstr s1_4)]]⟩]) [0, 1] rfl (.raw rfl rfl (.raw rfl rfl .nil)) (by decide) rfl rfl (.raw rfl rfl (.raw rfl rfl .nil)) ⟨.rfl, trivial⟩))
 ·intro b5 h0
  refine zr tb rfl rfl ?_
  refine ci h0 rfl ?_ ?_ <;> clear h0
  ·intro b11 h0
   refine AW.seq fun K12 hK12 => bs h0 fun o14 h1 h0 => ?_
   have M14 : ∀ (t13 : Bool), o14 = t13 → ∀ s, Wk 2 s ⟨109, envL [(6, (.bool t13))], [⟨0, 3, 1, [[(i64 s0_0)]]⟩, ⟨0, 45, 5, [[(ls eI s1_0), (ls eI s1_1), (i64 s1_2), (i64 s1_3), (ls eRInstr s1_4)]]⟩]⟩ → K12 s := by
    intro t13 hq s hw
    subst o14
    try dsimp only at h0
    refine hK12 _ (AW.weaken hw ?_)
    replace h0 := Sh.some_eq h0
    subst r
    exact AW.ret (xr (Wk.to (L := [(6, (.bool t13))]) ⟨.rfl, trivial⟩))
   refine AW.draw (by kernel_rfl) (by kernel_rfl) (by rfl) ?_
   iterate 4 refine yq tb rfl ?_
   rcases Sh.ite_some h1 with ⟨b15, h1⟩ | ⟨b15, h1⟩
   ·refine yg tb b15 rfl ?_
    iterate 3 refine yg tb b15 rfl ?_
    refine bs h1 fun q16 gq16 h1 => d_call (v := (i64 q16)) (go1 rfl rfl b15) hb82 (impl_conCount_ok gq16) rfl rfl rfl (yg tb b15 rfl (yt b15 rfl (yq tb rfl ?_)))
    exact d_done (M14 (decide (p1.num < q16)) (Sh.some_eq h1).symm _ (Wk.permk (L := [(6, (.bool (decide (p1.num < q16))))]) (st' := [⟨0, 3, 1, [[(i64 s0_0)]]⟩, ⟨0, 45, 5, [[(ls eI s1_0), (ls eI s1_1), (i64 s1_2), (i64 s1_3), (ls eRInstr s1_4)]]⟩]) (st1 := [⟨0, 3, 1, [[(i64 s0_0)]]⟩, ⟨0, 45, 5, [[(ls eI s1_0), (ls eI s1_1), (i64 s1_2), (i64 s1_3), (ls eRInstr s1_4)]]⟩]) [0, 1] rfl (.raw rfl rfl (.raw rfl rfl .nil)) (by decide) rfl rfl (.raw rfl rfl (.raw rfl rfl .nil)) ⟨.rfl, trivial⟩))
   ·refine ys b15 rfl ?_
    iterate 5 refine ys b15 rfl ?_
    refine yf b15 rfl (yq tb rfl ?_)
    exact d_done (M14 false (Sh.some_eq h1).symm _ (Wk.permk (L := [(6, (.bool false))]) (st' := [⟨0, 3, 1, [[(i64 s0_0)]]⟩, ⟨0, 45, 5, [[(ls eI s1_0), (ls eI s1_1), (i64 s1_2), (i64 s1_3), (ls eRInstr s1_4)]]⟩]) (st1 := [⟨0, 3, 1, [[(i64 s0_0)]]⟩, ⟨0, 45, 5, [[(ls eI s1_0), (ls eI s1_1), (i64 s1_2), (i64 s1_3), (ls eRInstr s1_4)]]⟩]) [0, 1] rfl (.raw rfl rfl (.raw rfl rfl .nil)) (by decide) rfl rfl (.raw rfl rfl (.raw rfl rfl .nil)) ⟨.rfl, trivial⟩))
  ·intro b11 h0
   refine AW.seq fun K17 hK17 => bs h0 fun o19 h1 h0 => ?_
   have M19 : ∀ (t18 : Bool), o19 = t18 → ∀ s, Wk 2 s ⟨109, envL [(2, (.fn 61 [(.ptr 0 0 0 0), (.ptr 1 0 0 0)])), (3, (.ptr 2 0 0 0)), (4, (.ptr 3 0 0 0)), (9, (i64 p1.op)), (33, (.bool t18))], [⟨0, 3, 1, [[(i64 s0_0)]]⟩, ⟨0, 45, 5, [[(ls eI s1_0), (ls eI s1_1), (i64 s1_2), (i64 s1_3), (ls eRInstr s1_4)]]⟩, ⟨0, 83, 2, [(eRSignatures p0)]⟩, ⟨0, 73, 6, [(eRInstr p1)]⟩]⟩ → K17 s := by
    intro t18 hq s hw
    subst o19
    try dsimp only at h0
    refine hK17 _ (AW.weaken hw ?_)
    refine ci h0 rfl ?_ ?_ <;> clear h0
    ·intro b20 h0
     refine AW.seq fun K21 hK21 => bs h0 fun o23 h1 h0 => ?_
     have M23 : ∀ (t22 : Bool), o23 = t22 → ∀ s, Wk 2 s ⟨109, envL [(6, (.bool t22))], [⟨0, 3, 1, [[(i64 s0_0)]]⟩, ⟨0, 45, 5, [[(ls eI s1_0), (ls eI s1_1), (i64 s1_2), (i64 s1_3), (ls eRInstr s1_4)]]⟩]⟩ → K21 s := by
      intro t22 hq s hw
      subst o23
      try dsimp only at h0
      refine hK21 _ (AW.weaken hw ?_)
      replace h0 := Sh.some_eq h0
      subst r
      exact AW.ret (xr (Wk.to (L := [(6, (.bool t22))]) ⟨.rfl, trivial⟩))
     refine AW.regionO rfl (zm tb 4 rfl ?_)
     rcases Sh.ite_some h1 with ⟨b24, h1⟩ | ⟨b24, h1⟩
     ·refine zg tb b24 rfl ?_
      iterate 3 refine zg tb b24 rfl ?_
      refine ao_q (v := (i64 (Sh.len p0.funcs))) (go1 rfl rfl b24) rfl (aq_lens sl81 rfl) (zg tb b24 rfl (zt b24 rfl (zq tb rfl ?_)))
      exact AO.done (M23 (decide (p1.num < (Sh.len p0.funcs))) (Sh.some_eq h1).symm _ (Wk.permk (L := [(6, (.bool (decide (p1.num < (Sh.len p0.funcs)))))]) (st' := [⟨0, 3, 1, [[(i64 s0_0)]]⟩, ⟨0, 45, 5, [[(ls eI s1_0), (ls eI s1_1), (i64 s1_2), (i64 s1_3), (ls eRInstr s1_4)]]⟩]) (st1 := [⟨0, 3, 1, [[(i64 s0_0)]]⟩, ⟨0, 45, 5, [[(ls eI s1_0), (ls eI s1_1), (i64 s1_2), (i64 s1_3), (ls eRInstr s1_4)]]⟩]) [0, 1] rfl (.raw rfl rfl (.raw rfl rfl .nil)) (by decide) rfl rfl (.raw rfl rfl (.raw rfl rfl .nil)) ⟨.rfl, trivial⟩))
     ·refine zs b24 rfl ?_
      iterate 5 refine zs b24 rfl ?_
      refine zf b24 rfl (zq tb rfl ?_)
      exact AO.done (M23 false (Sh.some_eq h1).symm _ (Wk.permk (L := [(6, (.bool false))]) (st' := [⟨0, 3, 1, [[(i64 s0_0)]]⟩, ⟨0, 45, 5, [[(ls eI s1_0), (ls eI s1_1), (i64 s1_2), (i64 s1_3), (ls eRInstr s1_4)]]⟩]) (st1 := [⟨0, 3, 1, [[(i64 s0_0)]]⟩, ⟨0, 45, 5, [[(ls eI s1_0), (ls eI s1_1), (i64 s1_2), (i64 s1_3), (ls eRInstr s1_4)]]⟩]) [0, 1] rfl (.raw rfl rfl (.raw rfl rfl .nil)) (by decide) rfl rfl (.raw rfl rfl (.raw rfl rfl .nil)) ⟨.rfl, trivial⟩))
    ·intro b20 h0
     refine zr tb rfl rfl ?_
     refine ci h0 rfl ?_ ?_ <;> clear h0
     ·intro b26 h0
      refine AW.seq fun K27 hK27 => bs h0 fun o29 h1 h0 => ?_
      have M29 : ∀ (t28 : Bool), o29 = t28 → ∀ s, Wk 2 s ⟨109, envL [(6, (.bool t28))], [⟨0, 3, 1, [[(i64 s0_0)]]⟩, ⟨0, 45, 5, [[(ls eI s1_0), (ls eI s1_1), (i64 s1_2), (i64 s1_3), (ls eRInstr s1_4)]]⟩]⟩ → K27 s := by
       intro t28 hq s hw
       subst o29
       try dsimp only at h0
       refine hK27 _ (AW.weaken hw ?_)
       replace h0 := Sh.some_eq h0
       subst r
       exact AW.ret (xr (Wk.to (L := [(6, (.bool t28))]) ⟨.rfl, trivial⟩))
      refine AW.regionO rfl (zm tb 4 rfl ?_)
      rcases Sh.ite_some h1 with ⟨b30, h1⟩ | ⟨b30, h1⟩
      ·refine zg tb b30 rfl ?_
       iterate 3 refine zg tb b30 rfl ?_
       refine ao_q (v := (i64 (Sh.len p0.funcs))) (go1 rfl rfl b30) rfl (aq_lens sl81 rfl) (zg tb b30 rfl (zt b30 rfl (zq tb rfl ?_)))
       rcases Sh.ite_some h1 with ⟨b31, h1⟩ | ⟨b31, h1⟩
       ·refine zg tb b31 rfl ?_
        iterate 3 refine zg tb b31 rfl ?_
        refine bs h1 fun c32 gc32 h1 => ao_q (v := (.iptr (eRSignature c32) 0)) (go1 rfl rfl b31) rfl (aq_ixs ei81 rfl rfl gc32 rfl) (zg tb b31 rfl (zg tb b31 rfl (ao_q (v := (i64 (Sh.len c32.lent))) (go1 rfl rfl b31) rfl (aq_lens sl27 rfl) (zg tb b31 rfl (zt b31 rfl (zq tb rfl ?_))))))
        exact AO.done (M29 (decide ((Sh.len c32.lent) = 0)) (Sh.some_eq h1).symm _ (Wk.permk (L := [(6, (.bool (decide ((Sh.len c32.lent) = 0))))]) (st' := [⟨0, 3, 1, [[(i64 s0_0)]]⟩, ⟨0, 45, 5, [[(ls eI s1_0), (ls eI s1_1), (i64 s1_2), (i64 s1_3), (ls eRInstr s1_4)]]⟩]) (st1 := [⟨0, 3, 1, [[(i64 s0_0)]]⟩, ⟨0, 45, 5, [[(ls eI s1_0), (ls eI s1_1), (i64 s1_2), (i64 s1_3), (ls eRInstr s1_4)]]⟩]) [0, 1] rfl (.raw rfl rfl (.raw rfl rfl .nil)) (by decide) rfl rfl (.raw rfl rfl (.raw rfl rfl .nil)) ⟨.rfl, trivial⟩))
       ·refine zs b31 rfl ?_
        iterate 8 refine zs b31 rfl ?_
        refine zf b31 rfl (zq tb rfl ?_)
        exact AO.done (M29 false (Sh.some_eq h1).symm _ (Wk.permk (L := [(6, (.bool false))]) (st' := [⟨0, 3, 1, [[(i64 s0_0)]]⟩, ⟨0, 45, 5, [[(ls eI s1_0), (ls eI s1_1), (i64 s1_2), (i64 s1_3), (ls eRInstr s1_4)]]⟩]) (st1 := [⟨0, 3, 1, [[(i64 s0_0)]]⟩, ⟨0, 45, 5, [[(ls eI s1_0), (ls eI s1_1), (i64 s1_2), (i64 s1_3), (ls eRInstr s1_4)]]⟩]) [0, 1] rfl (.raw rfl rfl (.raw rfl rfl .nil)) (by decide) rfl rfl (.raw rfl rfl (.raw rfl rfl .nil)) ⟨.rfl, trivial⟩))
      ·refine zs b30 rfl ?_
       iterate 5 refine zs b30 rfl ?_
       refine zf b30 rfl (zq tb rfl ?_)
       iterate 9 refine zs rfl rfl ?_
       refine zf rfl rfl (zq tb rfl ?_)
       exact AO.done (M29 false (Sh.some_eq h1).symm _ (Wk.permk (L := [(6, (.bool false))]) (st' := [⟨0, 3, 1, [[(i64 s0_0)]]⟩, ⟨0, 45, 5, [[(ls eI s1_0), (ls eI s1_1), (i64 s1_2), (i64 s1_3), (ls eRInstr s1_4)]]⟩]) (st1 := [⟨0, 3, 1, [[(i64 s0_0)]]⟩, ⟨0, 45, 5, [[(ls eI s1_0), (ls eI s1_1), (i64 s1_2), (i64 s1_3), (ls eRInstr s1_4)]]⟩]) [0, 1] rfl (.raw rfl rfl (.raw rfl rfl .nil)) (by decide) rfl rfl (.raw rfl rfl (.raw rfl rfl .nil)) ⟨.rfl, trivial⟩))
     ·intro b26 h0
      refine zr tb rfl rfl ?_
      refine ci h0 rfl ?_ ?_ <;> clear h0
      ·intro b34 h0
       refine AW.seq fun K35 hK35 => bs h0 fun o37 h1 h0 => ?_
       have M37 : ∀ (t36 : Bool), o37 = t36 → ∀ s, Wk 2 s ⟨109, envL [(6, (.bool t36))], [⟨0, 3, 1, [[(i64 s0_0)]]⟩, ⟨0, 45, 5, [[(ls eI s1_0), (ls eI s1_1), (i64 s1_2), (i64 s1_3), (ls eRInstr s1_4)]]⟩]⟩ → K35 s := by
        intro t36 hq s hw
        subst o37
        try dsimp only at h0
        refine hK35 _ (AW.weaken hw ?_)
        replace h0 := Sh.some_eq h0
        subst r
        exact AW.ret (xr (Wk.to (L := [(6, (.bool t36))]) ⟨.rfl, trivial⟩))
       refine AW.regionO rfl (zm tb 4 rfl ?_)
       rcases Sh.ite_some h1 with ⟨b38, h1⟩ | ⟨b38, h1⟩
       ·refine zg tb b38 rfl (zg tb b38 rfl (zg tb b38 rfl (zt b38 rfl (zq tb rfl ?_))))
        exact AO.done (M37 (decide (p1.num < 3)) (Sh.some_eq h1).symm _ (Wk.permk (L := [(6, (.bool (decide (p1.num < 3))))]) (st' := [⟨0, 3, 1, [[(i64 s0_0)]]⟩, ⟨0, 45, 5, [[(ls eI s1_0), (ls eI s1_1), (i64 s1_2), (i64 s1_3), (ls eRInstr s1_4)]]⟩]) (st1 := [⟨0, 3, 1, [[(i64 s0_0)]]⟩, ⟨0, 45, 5, [[(ls eI s1_0), (ls eI s1_1), (i64 s1_2), (i64 s1_3), (ls eRInstr s1_4)]]⟩]) [0, 1] rfl (.raw rfl rfl (.raw rfl rfl .nil)) (by decide) rfl rfl (.raw rfl rfl (.raw rfl rfl .nil)) ⟨.rfl, trivial⟩))
       ·refine zs b38 rfl (zs b38 rfl (zs b38 rfl (zf b38 rfl (zq tb rfl ?_))))
        exact AO.done (M37 false (Sh.some_eq h1).symm _ (Wk.permk (L := [(6, (.bool false))]) (st' := [⟨0, 3, 1, [[(i64 s0_0)]]⟩, ⟨0, 45, 5, [[(ls eI s1_0), (ls eI s1_1), (i64 s1_2), (i64 s1_3), (ls eRInstr s1_4)]]⟩]) (st1 := [⟨0, 3, 1, [[(i64 s0_0)]]⟩, ⟨0, 45, 5, [[(ls eI s1_0), (ls eI s1_1), (i64 s1_2), (i64 s1_3), (ls eRInstr s1_4)]]⟩]) [0, 1] rfl (.raw rfl rfl (.raw rfl rfl .nil)) (by decide) rfl rfl (.raw rfl rfl (.raw rfl rfl .nil)) ⟨.rfl, trivial⟩))
      ·intro b34 h0
       refine AW.seq fun K39 hK39 => bs h0 fun o41 h1 h0 => ?_
       have M41 : ∀ (t40 : Bool), o41 = t40 → ∀ s, Wk 2 s ⟨109, envL [(2, (.fn 61 [(.ptr 0 0 0 0), (.ptr 1 0 0 0)])), (3, (.ptr 2 0 0 0)), (4, (.ptr 3 0 0 0)), (9, (i64 p1.op)), (81, (.bool t40))], [⟨0, 3, 1, [[(i64 s0_0)]]⟩, ⟨0, 45, 5, [[(ls eI s1_0), (ls eI s1_1), (i64 s1_2), (i64 s1_3), (ls eRInstr s1_4)]]⟩, ⟨0, 83, 2, [(eRSignatures p0)]⟩, ⟨0, 73, 6, [(eRInstr p1)]⟩]⟩ → K39 s := by
        intro t40 hq s hw
        subst o41
        try dsimp only at h0
        refine hK39 _ (AW.weaken hw ?_)
        refine ci h0 rfl ?_ ?_ <;> clear h0
        ·intro b42 h0
         refine sr rfl fun K43 hK43 => zm tb 3 rfl (bs h0 fun q44 gq44 h0 => ?_)
         refine ao_callst (rowsP := [⟨0, 3, 1, [[(i64 s0_0)]]⟩, ⟨0, 45, 5, [[(ls eI s1_0), (ls eI s1_1), (i64 s1_2), (i64 s1_3), (ls eRInstr s1_4)]]⟩]) (rows0 := [⟨0, 3, 1, [[(i64 s0_0)]]⟩, ⟨0, 45, 5, [[(ls eI s1_0), (ls eI s1_1), (i64 s1_2), (i64 s1_3), (ls eRInstr s1_4)]]⟩]) (rows1 := [⟨0, 3, 1, [[(i64 s0_0)]]⟩, ⟨0, 45, 5, [[(ls eI s1_0), (ls eI s1_1), (i64 s1_2), (i64 s1_3), (ls eRInstr s1_4)]]⟩]) (rows2 := []) (rows1' := [⟨0, 3, 1, [[(i64 s0_0)]]⟩, ⟨0, 45, 5, [[(ls eI s1_0), (ls eI s1_1), (i64 s1_2), (i64 s1_3), (ls eRInstr s1_4)]]⟩]) (rows2' := []) (st' := [⟨0, 3, 1, [[(i64 s0_0)]]⟩, ⟨0, 45, 5, [[(ls eI s1_0), (ls eI s1_1), (i64 s1_2), (i64 s1_3), (ls eRInstr s1_4)]]⟩, ⟨0, 83, 2, [(eRSignatures p0)]⟩, ⟨0, 73, 6, [(eRInstr p1)]⟩]) (v' := (.bool q44)) [0, 1] go0 rfl hb61 (impl_signatures_instrValid_1_ok gq44) rfl (by decide) rfl rfl (.raw rfl rfl (.raw rfl rfl .nil)) rfl rfl (.raw rfl rfl (.raw rfl rfl .nil)) .nil rfl rfl ?_
         refine zq tb rfl (dn hK43 rfl ?_)
         replace h0 := Sh.some_eq h0
         subst r
         exact AW.ret (xr (Wk.permk (L := [(6, (.bool q44))]) (st' := [⟨0, 3, 1, [[(i64 s0_0)]]⟩, ⟨0, 45, 5, [[(ls eI s1_0), (ls eI s1_1), (i64 s1_2), (i64 s1_3), (ls eRInstr s1_4)]]⟩]) (st1 := [⟨0, 3, 1, [[(i64 s0_0)]]⟩, ⟨0, 45, 5, [[(ls eI s1_0), (ls eI s1_1), (i64 s1_2), (i64 s1_3), (ls eRInstr s1_4)]]⟩]) [0, 1] rfl (.raw rfl rfl (.raw rfl rfl .nil)) (by decide) rfl rfl (.raw rfl rfl (.raw rfl rfl .nil)) ⟨.rfl, trivial⟩))
        ·intro b42 h0
         refine zr tb rfl rfl ?_
         refine ci h0 rfl ?_ ?_ <;> clear h0
         ·intro b46 h0
          refine sr rfl fun K47 hK47 => zm tb 4 rfl (bs h0 fun q48 gq48 h0 => ao_call (v' := (ow 4 0 q48)) (st' := [⟨0, 3, 1, [[(i64 s0_0)]]⟩, ⟨0, 45, 5, [[(ls eI s1_0), (ls eI s1_1), (i64 s1_2), (i64 s1_3), (ls eRInstr s1_4)]]⟩, ⟨0, 83, 2, [(eRSignatures p0)]⟩, ⟨0, 73, 6, [(eRInstr p1)]⟩, (ro 0 3 1 eI q48)]) go0 hb83 (impl_consOf_ok gq48) rfl rfl ⟨(pure_map' fun _ => rfl), trivial⟩ rfl rfl (zq tb rfl (dn hK47 rfl (AW.seq fun K49 hK49 => bs h0 fun o51 h1 h0 => ?_))))
          have M51 : ∀ (t50 : Bool), o51 = t50 → ∀ s, Wk 2 s ⟨109, envL [(6, (.bool t50))], [⟨0, 3, 1, [[(i64 s0_0)]]⟩, ⟨0, 45, 5, [[(ls eI s1_0), (ls eI s1_1), (i64 s1_2), (i64 s1_3), (ls eRInstr s1_4)]]⟩]⟩ → K49 s := by
           intro t50 hq s hw
           subst o51
           try dsimp only at h0
           refine hK49 _ (AW.weaken hw ?_)
           replace h0 := Sh.some_eq h0
           subst r
           exact AW.ret (xr (Wk.to (L := [(6, (.bool t50))]) ⟨.rfl, trivial⟩))
          refine AW.regionO rfl (zq tb rfl (zz (i64 (Sh.len q48)) (aq_leno sl27 rfl rfl rfl) rfl (zm tb 2 rfl ?_)))
          rcases Sh.ite_some h1 with ⟨b52, h1⟩ | ⟨b52, h1⟩
          ·refine zg tb b52 rfl (zg tb b52 rfl (ao_q (v := (i64 (Sh.len p1.jumps))) (go1 rfl rfl b52) rfl (aq_lens sl27 rfl) (zg tb b52 rfl (ao_q (v := (i64 (Sh.len q48))) (go1 rfl rfl b52) rfl (aq_leno sl27 rfl rfl rfl) (zg tb b52 rfl (zt b52 rfl (zq tb rfl ?_)))))))
           exact AO.done (M51 (decide ((Sh.len p1.jumps) = (Sh.len q48))) (Sh.some_eq h1).symm _ (Wk.permk (L := [(6, (.bool (decide ((Sh.len p1.jumps) = (Sh.len q48)))))]) (st' := [⟨0, 3, 1, [[(i64 s0_0)]]⟩, ⟨0, 45, 5, [[(ls eI s1_0), (ls eI s1_1), (i64 s1_2), (i64 s1_3), (ls eRInstr s1_4)]]⟩]) (st1 := [⟨0, 3, 1, [[(i64 s0_0)]]⟩, ⟨0, 45, 5, [[(ls eI s1_0), (ls eI s1_1), (i64 s1_2), (i64 s1_3), (ls eRInstr s1_4)]]⟩]) [0, 1] rfl (.raw rfl rfl (.raw rfl rfl .nil)) (by decide) rfl rfl (.raw rfl rfl (.raw rfl rfl .nil)) ⟨.rfl, trivial⟩))
          ·refine zs b52 rfl ?_
           iterate 5 refine zs b52 rfl ?_
           refine zf b52 rfl (zq tb rfl ?_)
           exact AO.done (M51 false (Sh.some_eq h1).symm _ (Wk.permk (L := [(6, (.bool false))]) (st' := [⟨0, 3, 1, [[(i64 s0_0)]]⟩, ⟨0, 45, 5, [[(ls eI s1_0), (ls eI s1_1), (i64 s1_2), (i64 s1_3), (ls eRInstr s1_4)]]⟩]) (st1 := [⟨0, 3, 1, [[(i64 s0_0)]]⟩, ⟨0, 45, 5, [[(ls eI s1_0), (ls eI s1_1), (i64 s1_2), (i64 s1_3), (ls eRInstr s1_4)]]⟩]) [0, 1] rfl (.raw rfl rfl (.raw rfl rfl .nil)) (by decide) rfl rfl (.raw rfl rfl (.raw rfl rfl .nil)) ⟨.rfl, trivial⟩))
         ·intro b46 h0
          refine AW.skip (hK2 _ (zr tb rfl rfl ?_))
          replace h0 := Sh.some_eq h0
          subst r
          exact AW.ret (xr (Wk.permk (L := [(6, (.bool (decide (p1.num = 0))))]) (st' := [⟨0, 3, 1, [[(i64 s0_0)]]⟩, ⟨0, 45, 5, [[(ls eI s1_0), (ls eI s1_1), (i64 s1_2), (i64 s1_3), (ls eRInstr s1_4)]]⟩]) (st1 := [⟨0, 3, 1, [[(i64 s0_0)]]⟩, ⟨0, 45, 5, [[(ls eI s1_0), (ls eI s1_1), (i64 s1_2), (i64 s1_3), (ls eRInstr s1_4)]]⟩]) [0, 1] rfl (.raw rfl rfl (.raw rfl rfl .nil)) (by decide) rfl rfl (.raw rfl rfl (.raw rfl rfl .nil)) ⟨.rfl, trivial⟩))
       refine zr tb rfl rfl ?_
       refine ci h1 rfl ?_ ?_ <;> clear h1
       ·intro b55 h1
        exact AW.skip (M41 true (Sh.some_eq h1).symm _ (Wk.to (L := [(2, (.fn 61 [(.ptr 0 0 0 0), (.ptr 1 0 0 0)])), (3, (.ptr 2 0 0 0)), (4, (.ptr 3 0 0 0)), (9, (i64 p1.op)), (81, (.bool true))]) ⟨.rfl, .rfl, .rfl, .rfl, (.of (congrArg AV.bool b55)), trivial⟩))
       ·intro b55 h1
        exact AW.regionO rfl (zm tb 2 rfl (AO.done (M41 (decide (p1.op = 22)) (Sh.some_eq h1).symm _ (Wk.tr rfl))))
   refine zr tb rfl rfl ?_
   refine ci h1 rfl ?_ ?_ <;> clear h1
   ·intro b57 h1
    exact AW.skip (M19 true (Sh.some_eq h1).symm _ (Wk.to (L := [(2, (.fn 61 [(.ptr 0 0 0 0), (.ptr 1 0 0 0)])), (3, (.ptr 2 0 0 0)), (4, (.ptr 3 0 0 0)), (9, (i64 p1.op)), (33, (.bool true))]) ⟨.rfl, .rfl, .rfl, .rfl, (.of (congrArg AV.bool b57)), trivial⟩))
   ·intro b57 h1
    exact AW.regionO rfl (zm tb 2 rfl (AO.done (M19 (decide (p1.op = 24)) (Sh.some_eq h1).symm _ (Wk.tr rfl))))
theorem impl_conAt_ok {N : Nat} {p0 : (List RDecl)} {p1 : Int} {r : Int × RCon} (h0 : impl_conAt N p0 p1 = some r) : ACalls Try.prog 88 [(ls eRDecl p0), (i64 p1)] [] (fun v st => v = (.tup [(i64 r.1), (.agg (eRCon r.2))]) ∧ st = []) := by
 unfold impl_conAt at h0
 refine ACalls.flat rfl (ai Try.func88 rfl rfl rfl rfl (sr rfl fun K1 hK1 => zq tb rfl (ao_alloc (m := 0) (st' := [⟨0, 117, 1, [[.zc]]⟩]) go0 zi117 rfl rfl (dn hK1 rfl (AW.seq fun K2 hK2 => sr rfl fun K3 hK3 => zq tb rfl (zl tb rfl rfl (zq tb rfl (dn hK3 rfl ?_))))))))
 obtain ⟨o6, h1, h0⟩ := Sh.cont_some h0
 have M6 : ∀ (_ : Unit), o6 = Sum.inr () → ∀ s, Wk 0 s ⟨38, envL [(5, (.ptr 0 0 0 0))], [⟨0, 117, 1, [[.zc]]⟩]⟩ → K2 s := by
  intro _ hq s hw
  subst o6
  try dsimp only at h0
  refine hK2 _ (AW.weaken hw (sr rfl fun K7 hK7 => zz (.agg [.zc]) (aq_bd ai117 bi117 zi117 rfl rfl) rfl (zq tb rfl (ao_str (st' := [⟨0, 117, 1, [[.zc]]⟩]) go0 ti117 rfl rfl rfl rfl rfl rfl (show 0 + 1 ≤ 1 by decide) rfl (dn hK7 rfl ?_)))))
  replace h0 := Sh.some_eq h0
  subst r
  exact AW.ret (Exists.intro _ (And.intro ((Wk.cellLe (id := 0) (cs := [.zc]) (cs' := [(.sl (List.map eI []))]) (st' := [⟨0, 117, 1, [[(.sl (List.map eI []))]]⟩]) rfl ⟨le.zc, trivial⟩ rfl rfl).trans (Wk.to (L := [(4, (i64 (-1))), (5, (.ptr 0 0 0 0))]) ⟨.rfl, .rfl, trivial⟩)) (aq_ldpa (x := .tmp 5) (off := 0) (cs := [(.sl (List.map eI []))]) (vs := [(.sl (List.map eI []))]) ti117 rfl rfl rfl (show 0 + 1 ≤ 1 by decide) rfl _ rfl)))
 refine AW.block (AW.loopF (σ := Int × Int) (fun n v => impl_conAt_L1 p0 n v.1 v.2 = some o6) (fun (c4, t5) => ⟨38, envL [(1, (i64 c4)), (5, (.ptr 0 0 0 0)), (8, (ls eRDecl p0)), (9, (i64 (Sh.len p0))), (10, (i64 t5))], [⟨0, 117, 1, [[.zc]]⟩]⟩) N (p1, 0) h1 (Wk.tr rfl) (fun _ hv => by rw [impl_conAt_L1] at hv; cases hv) ?_)
 rintro n ⟨c4, t5⟩ h1
 try dsimp only at h1 ⊢
 rw [impl_conAt_L1] at h1
 refine zr tb rfl rfl (AW.seq fun K9 hK9 => ?_)
 refine ci h1 rfl ?_ ?_ <;> clear h1
 ·intro b10 h1
  refine AW.skip (hK9 _ (AW.seq fun K11 hK11 => AW.block (sr rfl fun K12 hK12 => zq tb rfl (bs h1 fun c13 gc13 h1 => zx ei29 gc13 rfl rfl rfl (zq tb rfl (ao_alloc (m := 1) (st' := [⟨0, 117, 1, [[.zc]]⟩, ⟨0, 78, 3, [[(i64 0), (i64 0), .zc]]⟩]) go0 zi78 rfl rfl (zq tb rfl (ao_str (st' := [⟨0, 117, 1, [[.zc]]⟩, ⟨0, 78, 3, [(eRDecl c13)]⟩]) go0 ti78 rfl rfl rfl rfl rfl rfl (show 0 + 3 ≤ 3 by decide) rfl (dn hK12 rfl ?_)))))))))
  refine AW.seq fun K14 hK14 => AW.seq fun K15 hK15 => bs h1 fun o17 h2 h1 => ?_
  have M17 : ∀ (t16 : Bool), o17 = t16 → ∀ s, Wk 0 s ⟨38, envL [(1, (i64 c4)), (5, (.ptr 0 0 0 0)), (6, (i64 t5)), (7, (.ptr 1 0 0 0)), (8, (ls eRDecl p0)), (9, (i64 (Sh.len p0))), (10, (i64 t5)), (23, (.bool t16))], [⟨0, 117, 1, [[.zc]]⟩, ⟨0, 78, 3, [(eRDecl c13)]⟩]⟩ → K15 s := by
   intro t16 hq s hw
   subst o17
   try dsimp only at h1
   refine hK15 _ (AW.weaken hw ?_)
   refine ci h1 rfl ?_ ?_ <;> clear h1
   ·intro b18 h1
    refine AW.seq fun K19 hK19 => ?_
    refine AW.drawTailO 8 (by kernel_rfl) (by kernel_rfl) (by rfl) ?_
    iterate 5 refine yq tb rfl ?_
    refine bs h1 fun c20 gc20 h1 => yx ei76 gc20 rfl rfl rfl ?_
    iterate 2 refine yq tb rfl ?_
    refine d_done (ao_str (st' := [⟨0, 117, 1, [(eRCon c20)]⟩, ⟨0, 78, 3, [(eRDecl c13)]⟩]) go0 ti117 rfl rfl rfl rfl rfl rfl (show 0 + 1 ≤ 1 by decide) rfl (dn hK19 rfl ?_))
    replace h1 := Sh.some_eq h1
    subst o6
    try dsimp only [id] at h0
    replace h0 := Sh.some_eq h0
    subst r
    exact AW.ret (Exists.intro _ (And.intro ((Wk.permk (L := [(4, (i64 (Sh.w (t5 + 1)))), (5, (.ptr 0 0 0 0))]) (st' := [⟨0, 117, 1, [(eRCon c20)]⟩]) (st1 := [⟨0, 117, 1, [(eRCon c20)]⟩]) [0] rfl .nil (by decide) rfl rfl (.raw rfl rfl .nil) ⟨.rfl, .rfl, trivial⟩).trans (Wk.to (L := [(4, (i64 (Sh.w (t5 + 1)))), (5, (.ptr 0 0 0 0))]) ⟨.rfl, .rfl, trivial⟩)) (aq_ldpa (x := .tmp 5) (off := 0) (cs := (eRCon c20)) (vs := (eRCon c20)) ti117 rfl rfl rfl (show 0 + 1 ≤ 1 by decide) rfl _ rfl)))
   ·intro b18 h1
    refine AW.skip (hK14 _ (AW.regionO rfl (zm tb 3 rfl (zl tb rfl rfl (zm tb 2 rfl (dn hK11 rfl (AW.regionO rfl (zm tb 2 rfl ?_))))))))
    exact AO.done (xi (Sh.w (c4 - (Sh.len c13.cons)), Sh.w (t5 + 1)) h1 (Wk.permk (L := [(1, (i64 (Sh.w (c4 - (Sh.len c13.cons))))), (5, (.ptr 0 0 0 0)), (8, (ls eRDecl p0)), (9, (i64 (Sh.len p0))), (10, (i64 (Sh.w (t5 + 1))))]) (st' := [⟨0, 117, 1, [[.zc]]⟩]) (st1 := [⟨0, 117, 1, [[.zc]]⟩]) [0] rfl .nil (by decide) rfl rfl (.raw rfl rfl .nil) ⟨.rfl, .rfl, .rfl, .rfl, .rfl, trivial⟩))
  refine AW.regionO rfl (zm tb 3 rfl ?_)
  rcases Sh.ite_some h2 with ⟨b21, h2⟩ | ⟨b21, h2⟩
  ·exact zg tb b21 rfl (zg tb b21 rfl (zg tb b21 rfl (ao_q (v := (i64 (Sh.len c13.cons))) (go1 rfl rfl b21) rfl (aq_lens sl76 rfl) (zg tb b21 rfl (zt b21 rfl (AO.done (M17 (decide (c4 < (Sh.len c13.cons))) (Sh.some_eq h2).symm _ (Wk.tr rfl))))))))
  ·refine zs b21 rfl ?_
   iterate 4 refine zs b21 rfl ?_
   exact zf b21 rfl (AO.done (M17 false (Sh.some_eq h2).symm _ (Wk.tr rfl)))
 ·intro b10 h1
  exact AW.exit (M6 () (Sh.some_eq h1).symm _ (Wk.tr rfl))
theorem impl_fieldsOf_ok {N : Nat} {p0 : (List RDecl)} {p1 : Int} {r : (List Int)} (h0 : impl_fieldsOf N p0 p1 = some r) : ACalls Try.prog 84 [(ls eRDecl p0), (i64 p1)] [] (fun v st => v = (ls eI r) ∧ st = []) := by
 unfold impl_fieldsOf at h0
 refine ai Try.func84 rfl rfl rfl rfl (zr tb rfl rfl (sr rfl fun K2 hK2 => zm tb 2 rfl (bs h0 fun q3 gq3 h0 => zc (v' := (.tup [(i64 q3.1), (.agg (eRCon q3.2))])) hb88 (impl_conAt_ok gq3) rfl rfl rfl (zm tb 3 rfl (ao_alloc (m := 0) (st' := [⟨0, 117, 1, [[.zc]]⟩]) go0 zi117 rfl rfl (zq tb rfl (ao_str (st' := [⟨0, 117, 1, [(eRCon q3.2)]⟩]) go0 ti117 rfl rfl rfl rfl rfl rfl (show 0 + 1 ≤ 1 by decide) rfl (dn hK2 rfl (zr tb rfl rfl ?_)))))))))
 replace h0 := Sh.some_eq h0
 subst r
 exact AW.ret (xr (Wk.d0 [(4, (ls eI q3.2.fields))] rfl))
theorem impl_signatures_argsOf_ok {N : Nat} {p0 : RSignatures} {p1 : RInstr} {r : Int × Int} (h0 : impl_signatures_argsOf N p0 p1 = some r) : ACalls Try.prog 65 [(.agg (eRSignatures p0)), (.agg (eRInstr p1))] [] (fun v st => v = (.tup [(i64 r.1), (i64 r.2)]) ∧ st = []) := by
 unfold impl_signatures_argsOf at h0
 refine ai Try.func65 rfl rfl rfl rfl (sr rfl fun K1 hK1 => ao_box (m := 0) (st' := [⟨0, 83, 2, [(eRSignatures p0)]⟩]) go0 rfl rfl rfl rfl rfl (ao_box (m := 1) (st' := [⟨0, 83, 2, [(eRSignatures p0)]⟩, ⟨0, 73, 6, [(eRInstr p1)]⟩]) go0 rfl rfl rfl rfl rfl (zm tb 2 rfl (dn hK1 rfl (zr tb rfl rfl (AW.seq fun K3 hK3 => ?_))))))
 obtain ⟨o5, h1, h0⟩ := Sh.cont_some h0
 have M5 : ∀ (n4 : Int), o5 = Sum.inr n4 → ∀ s, Wk 0 s ⟨53, envL [(6, (i64 n4))], []⟩ → K3 s := by
  intro n4 hq s hw
  subst o5
  try dsimp only at h0
  refine hK3 _ (AW.weaken hw (zr tb rfl rfl ?_))
  replace h0 := Sh.some_eq h0
  subst r
  exact AW.ret (xr (Wk.to (L := [(4, (i64 n4)), (5, (i64 n4))]) ⟨.rfl, .rfl, trivial⟩))
 refine zr tb rfl rfl (AW.block (AW.seq fun K8 hK8 => bs h1 fun o10 h2 h1 => ?_))
 have M10 : ∀ (t9 : Bool), o10 = t9 → ∀ s, Wk 0 s ⟨53, envL [(2, (.ptr 0 0 0 0)), (3, (.ptr 1 0 0 0)), (6, (i64 1)), (8, (i64 p1.op)), (9, (.bool t9))], [⟨0, 83, 2, [(eRSignatures p0)]⟩, ⟨0, 73, 6, [(eRInstr p1)]⟩]⟩ → K8 s := by
  intro t9 hq s hw
  subst o10
  try dsimp only at h1
  refine hK8 _ (AW.weaken hw ?_)
  refine ci h1 rfl ?_ ?_ <;> clear h1
  ·intro b11 h1
   exact AW.regionO rfl (zq tb rfl (AO.done (M5 0 (Sh.some_eq h1).symm _ (Wk.d0 _ rfl))))
  ·intro b11 h1
   refine AW.seq fun K12 hK12 => bs h1 fun o14 h2 h1 => ?_
   have M14 : ∀ (t13 : Bool), o14 = t13 → ∀ s, Wk 0 s ⟨53, envL [(2, (.ptr 0 0 0 0)), (3, (.ptr 1 0 0 0)), (6, (i64 1)), (8, (i64 p1.op)), (12, (.bool t13))], [⟨0, 83, 2, [(eRSignatures p0)]⟩, ⟨0, 73, 6, [(eRInstr p1)]⟩]⟩ → K12 s := by
    intro t13 hq s hw
    subst o14
    try dsimp only at h1
    refine hK12 _ (AW.weaken hw ?_)
    refine ci h1 rfl ?_ ?_ <;> clear h1
    ·intro b15 h1
     exact AW.regionO rfl (zq tb rfl (AO.done (M5 2 (Sh.some_eq h1).symm _ (Wk.d0 _ rfl))))
    ·intro b15 h1
     refine zr tb rfl rfl ?_
     refine ci h1 rfl ?_ ?_ <;> clear h1
     ·intro b17 h1
      exact AW.regionO rfl (zm tb 4 rfl (bs h1 fun q18 gq18 h1 => zc hb84 (impl_fieldsOf_ok gq18) rfl rfl rfl (zl tb rfl rfl (zq tb rfl (AO.done (M5 (Sh.len q18) (Sh.some_eq h1).symm _ (Wk.d0 _ rfl)))))))
     ·intro b17 h1
      refine AW.seq fun K19 hK19 => bs h1 fun o21 h2 h1 => ?_
      have M21 : ∀ (t20 : Bool), o21 = t20 → ∀ s, Wk 0 s ⟨53, envL [(2, (.ptr 0 0 0 0)), (3, (.ptr 1 0 0 0)), (6, (i64 1)), (8, (i64 p1.op)), (26, (.bool t20))], [⟨0, 83, 2, [(eRSignatures p0)]⟩, ⟨0, 73, 6, [(eRInstr p1)]⟩]⟩ → K19 s := by
       intro t20 hq s hw
       subst o21
       try dsimp only at h1
       refine hK19 _ (AW.weaken hw ?_)
       refine ci h1 rfl ?_ ?_ <;> clear h1
       ·intro b22 h1
        exact AW.regionO rfl (zm tb 4 rfl (bs h1 fun c23 gc23 h1 => zx ei81 gc23 rfl rfl rfl (zm tb 2 rfl (zl tb rfl rfl (zq tb rfl (AO.done (M5 (Sh.len c23.params) (Sh.some_eq h1).symm _ (Wk.d0 _ rfl))))))))
       ·intro b22 h1
        refine zr tb rfl rfl ?_
        refine ci h1 rfl ?_ ?_ <;> clear h1
        ·intro b25 h1
         exact AW.regionO rfl (zm tb 4 rfl (bs h1 fun c26 gc26 h1 => zx ei81 gc26 rfl rfl rfl (zm tb 2 rfl (zl tb rfl rfl (zm tb 2 rfl (AO.done (M5 (Sh.w ((Sh.len c26.params) - 1)) (Sh.some_eq h1).symm _ (Wk.d0 _ rfl))))))))
        ·intro b25 h1
         refine AW.seq fun K27 hK27 => bs h1 fun o29 h2 h1 => ?_
         have M29 : ∀ (t28 : Bool), o29 = t28 → ∀ s, Wk 0 s ⟨53, envL [(6, (i64 1)), (48, (.bool t28))], []⟩ → K27 s := by
          intro t28 hq s hw
          subst o29
          try dsimp only at h1
          refine hK27 _ (AW.weaken hw ?_)
          refine ci h1 rfl ?_ ?_ <;> clear h1
          ·intro b30 h1
           refine zr tb rfl rfl ?_
           replace h1 := Sh.some_eq h1
           subst o5
           try dsimp only [id] at h0
           replace h0 := Sh.some_eq h0
           subst r
           exact AW.ret (xr (Wk.to (L := [(4, (i64 1)), (5, (i64 4))]) ⟨.rfl, .rfl, trivial⟩))
          ·intro b30 h1
           exact AW.skip (M5 1 (Sh.some_eq h1).symm _ (Wk.tr rfl))
         refine zr tb rfl rfl ?_
         refine ci h2 rfl ?_ ?_ <;> clear h2
         ·intro b33 h2
          exact AW.skip (M29 true (Sh.some_eq h2).symm _ (by refine Wk.trans (Wk.permk (L := [(6, (i64 1)), (48, (.bool (decide (p1.op = 16))))]) (st' := []) (st1 := []) [] rfl .nil (by decide) rfl rfl .nil ⟨.rfl, .rfl, trivial⟩) ?_; exact Wk.to (L := [(6, (i64 1)), (48, (.bool true))]) ⟨.rfl, (.of (congrArg AV.bool b33)), trivial⟩))
         ·intro b33 h2
          exact AW.regionO rfl (zm tb 2 rfl (AO.done (M29 (decide (p1.op = 17)) (Sh.some_eq h2).symm _ (Wk.d0 _ rfl))))
      refine zr tb rfl rfl ?_
      refine ci h2 rfl ?_ ?_ <;> clear h2
      ·intro b35 h2
       exact AW.skip (M21 true (Sh.some_eq h2).symm _ (Wk.to (L := [(2, (.ptr 0 0 0 0)), (3, (.ptr 1 0 0 0)), (6, (i64 1)), (8, (i64 p1.op)), (26, (.bool true))]) ⟨.rfl, .rfl, .rfl, .rfl, (.of (congrArg AV.bool b35)), trivial⟩))
      ·intro b35 h2
       exact AW.regionO rfl (zm tb 2 rfl (AO.done (M21 (decide (p1.op = 24)) (Sh.some_eq h2).symm _ (Wk.tr rfl))))
   refine zr tb rfl rfl ?_
   refine ci h2 rfl ?_ ?_ <;> clear h2
   ·intro b37 h2
    exact AW.skip (M14 true (Sh.some_eq h2).symm _ (Wk.to (L := [(2, (.ptr 0 0 0 0)), (3, (.ptr 1 0 0 0)), (6, (i64 1)), (8, (i64 p1.op)), (12, (.bool true))]) ⟨.rfl, .rfl, .rfl, .rfl, (.of (congrArg AV.bool b37)), trivial⟩))
   ·intro b37 h2
    refine zr tb rfl rfl ?_
    refine ci h2 rfl ?_ ?_ <;> clear h2
    ·intro b39 h2
     exact AW.skip (M14 true (Sh.some_eq h2).symm _ (Wk.to (L := [(2, (.ptr 0 0 0 0)), (3, (.ptr 1 0 0 0)), (6, (i64 1)), (8, (i64 p1.op)), (12, (.bool true))]) ⟨.rfl, .rfl, .rfl, .rfl, (.of (congrArg AV.bool b39)), trivial⟩))
    ·intro b39 h2
     refine zr tb rfl rfl ?_
     refine ci h2 rfl ?_ ?_ <;> clear h2
     ·intro b41 h2
      exact AW.skip (M14 true (Sh.some_eq h2).symm _ (Wk.to (L := [(2, (.ptr 0 0 0 0)), (3, (.ptr 1 0 0 0)), (6, (i64 1)), (8, (i64 p1.op)), (12, (.bool true))]) ⟨.rfl, .rfl, .rfl, .rfl, (.of (congrArg AV.bool b41)), trivial⟩))
     ·intro b41 h2
      refine zr tb rfl rfl ?_
      refine ci h2 rfl ?_ ?_ <;> clear h2
      ·intro b43 h2
       exact AW.skip (M14 true (Sh.some_eq h2).symm _ (Wk.to (L := [(2, (.ptr 0 0 0 0)), (3, (.ptr 1 0 0 0)), (6, (i64 1)), (8, (i64 p1.op)), (12, (.bool true))]) ⟨.rfl, .rfl, .rfl, .rfl, (.of (congrArg AV.bool b43)), trivial⟩))
      ·intro b43 h2
       exact AW.regionO rfl (zm tb 2 rfl (AO.done (M14 (decide (p1.op = 11)) (Sh.some_eq h2).symm _ (Wk.tr rfl))))
 refine zr tb rfl rfl ?_
 refine ci h2 rfl ?_ ?_ <;> clear h2
 ·intro b45 h2
  exact AW.skip (M10 true (Sh.some_eq h2).symm _ (Wk.to (L := [(2, (.ptr 0 0 0 0)), (3, (.ptr 1 0 0 0)), (6, (i64 1)), (8, (i64 p1.op)), (9, (.bool true))]) ⟨.rfl, .rfl, .rfl, .rfl, (.of (congrArg AV.bool b45)), trivial⟩))
 ·intro b45 h2
  exact AW.regionO rfl (zm tb 2 rfl (AO.done (M10 (decide (p1.op = 22)) (Sh.some_eq h2).symm _ (Wk.tr rfl))))
theorem impl_signatures_instrValid_ok {N : Nat} {p0 : RSignatures} {p1 : RProc} {p2 : Int} {p3 : RInstr} {r : Bool} (h0 : impl_signatures_instrValid N p0 p1 p2 p3 = some r) : ACalls Try.prog 40 [(.agg (eRSignatures p0)), (.agg (eRProc p1)), (i64 p2), (.agg (eRInstr p3))] [] (fun v st => v = (.bool r) ∧ st = []) := by
 unfold impl_signatures_instrValid at h0
 refine ai Try.func40 rfl rfl rfl rfl (sr rfl fun K1 hK1 => ao_box (m := 0) (st' := [⟨0, 83, 2, [(eRSignatures p0)]⟩]) go0 rfl rfl rfl rfl rfl (ao_box (m := 1) (st' := [⟨0, 83, 2, [(eRSignatures p0)]⟩, ⟨0, 45, 5, [(eRProc p1)]⟩]) go0 rfl rfl rfl rfl rfl (ao_box (m := 2) (st' := [⟨0, 83, 2, [(eRSignatures p0)]⟩, ⟨0, 45, 5, [(eRProc p1)]⟩, ⟨0, 3, 1, [[(i64 p2)]]⟩]) go0 rfl rfl rfl rfl rfl (ao_box (m := 3) (st' := [⟨0, 83, 2, [(eRSignatures p0)]⟩, ⟨0, 45, 5, [(eRProc p1)]⟩, ⟨0, 3, 1, [[(i64 p2)]]⟩, ⟨0, 73, 6, [(eRInstr p3)]⟩]) go0 rfl rfl rfl rfl rfl (zq tb rfl (dn hK1 rfl (AW.seq fun K2 hK2 => AW.seq fun K3 hK3 => bs h0 fun o5 h1 h0 => ?_)))))))
 have M5 : ∀ (t4 : Bool), o5 = t4 → ∀ s, Wk 0 s ⟨140, envL [(4, (.ptr 0 0 0 0)), (5, (.ptr 1 0 0 0)), (6, (.ptr 2 0 0 0)), (7, (.ptr 3 0 0 0)), (41, (.bool t4))], [⟨0, 83, 2, [(eRSignatures p0)]⟩, ⟨0, 45, 5, [(eRProc p1)]⟩, ⟨0, 3, 1, [[(i64 p2)]]⟩, ⟨0, 73, 6, [(eRInstr p3)]⟩]⟩ → K3 s := by
  intro t4 hq s hw
  subst o5
  try dsimp only at h0
  refine hK3 _ (AW.weaken hw ?_)
  refine ci h0 rfl ?_ ?_ <;> clear h0
  ·intro b6 h0
   refine zr tb rfl rfl ?_
   replace h0 := Sh.some_eq h0
   subst r
   exact AW.ret (xr (Wk.d0 [(8, (.bool false))] rfl))
  ·intro b6 h0
   refine AW.skip (hK2 _ (AW.seq fun K8 hK8 => AW.seq fun K9 hK9 => bs h0 fun o11 h1 h0 => ?_))
   have M11 : ∀ (t10 : Bool), o11 = t10 → ∀ s, Wk 0 s ⟨140, envL [(4, (.ptr 0 0 0 0)), (5, (.ptr 1 0 0 0)), (6, (.ptr 2 0 0 0)), (7, (.ptr 3 0 0 0)), (84, (.bool t10))], [⟨0, 83, 2, [(eRSignatures p0)]⟩, ⟨0, 45, 5, [(eRProc p1)]⟩, ⟨0, 3, 1, [[(i64 p2)]]⟩, ⟨0, 73, 6, [(eRInstr p3)]⟩]⟩ → K9 s := by
    intro t10 hq s hw
    subst o11
    try dsimp only at h0
    refine hK9 _ (AW.weaken hw ?_)
    refine ci h0 rfl ?_ ?_ <;> clear h0
    ·intro b12 h0
     refine zr tb rfl rfl ?_
     replace h0 := Sh.some_eq h0
     subst r
     exact AW.ret (xr (Wk.d0 [(8, (.bool false))] rfl))
    ·intro b12 h0
     refine AW.skip (hK8 _ (AW.seq fun K14 hK14 => sr rfl fun K15 hK15 => zm tb 2 rfl (zl tb rfl rfl (zq tb rfl (dn hK15 rfl ?_)))))
     obtain ⟨o17, h1, h0⟩ := Sh.cont_some h0
     have M17 : ∀ (_ : Unit), o17 = Sum.inr () → ∀ s, Wk 0 s ⟨140, envL [(4, (.ptr 0 0 0 0)), (5, (.ptr 1 0 0 0)), (6, (.ptr 2 0 0 0)), (7, (.ptr 3 0 0 0))], [⟨0, 83, 2, [(eRSignatures p0)]⟩, ⟨0, 45, 5, [(eRProc p1)]⟩, ⟨0, 3, 1, [[(i64 p2)]]⟩, ⟨0, 73, 6, [(eRInstr p3)]⟩]⟩ → K14 s := by
      intro _ hq s hw
      subst o17
      try dsimp only at h0
      refine hK14 _ (AW.weaken hw (sr rfl fun K18 hK18 => zz (.fn 61 [(.ptr 2 0 0 0), (.ptr 1 0 0 0)]) (aq_fn rfl) rfl (ao_alloc (m := 4) (st' := [⟨0, 83, 2, [(eRSignatures p0)]⟩, ⟨0, 45, 5, [(eRProc p1)]⟩, ⟨0, 3, 1, [[(i64 p2)]]⟩, ⟨0, 73, 6, [(eRInstr p3)]⟩, ⟨0, 71, 1, [[.nilf]]⟩]) go0 zi71 rfl rfl (ao_str (st' := [⟨0, 83, 2, [(eRSignatures p0)]⟩, ⟨0, 45, 5, [(eRProc p1)]⟩, ⟨0, 3, 1, [[(i64 p2)]]⟩, ⟨0, 73, 6, [(eRInstr p3)]⟩, ⟨0, 71, 1, [[(.fn 61 [(.ptr 2 0 0 0), (.ptr 1 0 0 0)])]]⟩]) go0 ti71 rfl rfl rfl rfl rfl rfl (show 0 + 1 ≤ 1 by decide) rfl (dn hK18 rfl (AW.seq fun K19 hK19 => AW.seq fun K20 hK20 => bs h0 fun o22 h1 h0 => ?_))))))
      have M22 : ∀ (t21 : Bool), o22 = t21 → ∀ s, Wk 0 s ⟨140, envL [(4, (.ptr 0 0 0 0)), (7, (.ptr 3 0 0 0)), (11, (.ptr 4 0 0 0)), (116, (.bool t21))], [⟨0, 83, 2, [(eRSignatures p0)]⟩, ⟨0, 45, 5, [(eRProc p1)]⟩, ⟨0, 3, 1, [[(i64 p2)]]⟩, ⟨0, 73, 6, [(eRInstr p3)]⟩, ⟨0, 71, 1, [[(.fn 61 [(.ptr 2 0 0 0), (.ptr 1 0 0 0)])]]⟩]⟩ → K20 s := by
       intro t21 hq s hw
       subst o22
       try dsimp only at h0
       refine hK20 _ (AW.weaken hw ?_)
       refine ci h0 rfl ?_ ?_ <;> clear h0
       ·intro b23 h0
        refine zr tb rfl rfl ?_
        replace h0 := Sh.some_eq h0
        subst r
        exact AW.ret (xr (Wk.d0 [(8, (.bool false))] rfl))
       ·intro b23 h0
        refine AW.skip (hK19 _ (AW.seq fun K25 hK25 => sr rfl fun K26 hK26 => zm tb 3 rfl (bs h0 fun q27 gq27 h0 => ?_)))
        refine ao_calls (rowsP := [⟨0, 3, 1, [[(i64 p2)]]⟩, ⟨0, 45, 5, [(eRProc p1)]⟩]) (rows0 := [⟨0, 3, 1, [[(i64 p2)]]⟩, ⟨0, 45, 5, [(eRProc p1)]⟩]) (rows1 := [⟨0, 3, 1, [[(i64 p2)]]⟩, ⟨0, 45, 5, [(eRProc p1)]⟩]) (rows2 := []) (rows1' := [⟨0, 3, 1, [[(i64 p2)]]⟩, ⟨0, 45, 5, [(eRProc p1)]⟩]) (rows2' := []) (st' := [⟨0, 83, 2, [(eRSignatures p0)]⟩, ⟨0, 45, 5, [(eRProc p1)]⟩, ⟨0, 3, 1, [[(i64 p2)]]⟩, ⟨0, 73, 6, [(eRInstr p3)]⟩, ⟨0, 71, 1, [[(.fn 61 [(.ptr 2 0 0 0), (.ptr 1 0 0 0)])]]⟩]) (v' := (.bool q27)) [2, 1] go0 hb64 (impl_signatures_numValid_ok gq27) rfl (by decide) rfl rfl (.raw rfl rfl (.raw rfl rfl .nil)) rfl rfl (.raw rfl rfl (.raw rfl rfl .nil)) .nil rfl rfl ?_
        refine zq tb rfl (dn hK26 rfl ?_)
        refine ci h0 rfl ?_ ?_ <;> clear h0
        ·intro b28 h0
         have b29 : q27 = false := by simpa using b28
         refine zr tb rfl rfl ?_
         replace h0 := Sh.some_eq h0
         subst r
         exact AW.ret (xr (Wk.d0 [(8, (.bool false))] rfl))
        ·intro b28 h0
         have b31 : q27 = true := by simpa using b28
         refine AW.skip (hK25 _ (sr rfl fun K32 hK32 => zm tb 2 rfl (bs h0 fun q33 gq33 h0 => zc (v' := (.tup [(i64 q33.1), (i64 q33.2)])) hb65 (impl_signatures_argsOf_ok gq33) rfl rfl rfl (zm tb 5 rfl (dn hK32 rfl (AW.seq fun K34 hK34 => bs h0 fun o36 h1 h0 => ?_))))))
         have M36 : ∀ (t35 : Bool), o36 = t35 → ∀ s, Wk 0 s ⟨140, envL [(8, (.bool t35))], []⟩ → K34 s := by
          intro t35 hq s hw
          subst o36
          try dsimp only at h0
          refine hK34 _ (AW.weaken hw ?_)
          replace h0 := Sh.some_eq h0
          subst r
          exact AW.ret (xr (Wk.to (L := [(8, (.bool t35))]) ⟨.rfl, trivial⟩))
         refine AW.regionO rfl (zm tb 2 rfl (zl tb rfl rfl (zm tb 3 rfl ?_)))
         rcases Sh.ite_some h1 with ⟨b37, h1⟩ | ⟨b37, h1⟩
         ·exact zg tb b37 rfl (zg tb b37 rfl (ao_q (v := (i64 (Sh.len p3.args))) (go1 rfl rfl b37) rfl (aq_lens sl27 rfl) (zg tb b37 rfl (zg tb b37 rfl (zt b37 rfl (zq tb rfl (AO.done (M36 (decide ((Sh.len p3.args) ≤ q33.2)) (Sh.some_eq h1).symm _ (Wk.d0 _ rfl)))))))))
         ·refine zs b37 rfl ?_
          iterate 4 refine zs b37 rfl ?_
          exact zf b37 rfl (zq tb rfl (AO.done (M36 false (Sh.some_eq h1).symm _ (Wk.d0 _ rfl))))
      refine AW.regionO rfl (zm tb 2 rfl (zl tb rfl rfl (zm tb 2 rfl ?_)))
      rcases Sh.ite_some h1 with ⟨b38, h1⟩ | ⟨b38, h1⟩
      ·refine zg tb b38 rfl (zg tb b38 rfl (zg tb b38 rfl (zt b38 rfl (zq tb rfl ?_))))
       rcases Sh.ite_some h1 with ⟨b39, h1⟩ | ⟨b39, h1⟩
       ·refine zs b39 rfl ?_
        iterate 3 refine zs b39 rfl ?_
        exact zt b39 rfl (AO.done (M22 true (Sh.some_eq h1).symm _ (Wk.tr rfl)))
       ·refine zg tb b39 rfl (zg tb b39 rfl (ao_q (v := (.fn 63 [(.ptr 4 0 0 0)])) (go1 rfl rfl b39) rfl (aq_fn rfl) (bs h1 fun q40 gq40 h1 => ?_)))
        refine ao_calls (rowsP := [⟨0, 71, 1, [[(.fn 61 [(.ptr 2 0 0 0), (.ptr 1 0 0 0)])]]⟩, ⟨0, 3, 1, [[(i64 p2)]]⟩, ⟨0, 45, 5, [(eRProc p1)]⟩]) (rows0 := [⟨0, 71, 1, [[(.fn 61 [(.ptr 1 0 0 0), (.ptr 2 0 0 0)])]]⟩, ⟨0, 3, 1, [[(i64 p2)]]⟩, ⟨0, 45, 5, [(eRProc p1)]⟩]) (rows1 := [⟨0, 71, 1, [[(.fn 61 [(.ptr 1 0 0 0), (.ptr 2 0 0 0)])]]⟩, ⟨0, 3, 1, [[(i64 p2)]]⟩, ⟨0, 45, 5, [(eRProc p1)]⟩]) (rows2 := []) (rows1' := [⟨0, 71, 1, [[(.fn 61 [(.ptr 2 0 0 0), (.ptr 1 0 0 0)])]]⟩, ⟨0, 3, 1, [[(i64 p2)]]⟩, ⟨0, 45, 5, [(eRProc p1)]⟩]) (rows2' := []) (st' := [⟨0, 83, 2, [(eRSignatures p0)]⟩, ⟨0, 45, 5, [(eRProc p1)]⟩, ⟨0, 3, 1, [[(i64 p2)]]⟩, ⟨0, 73, 6, [(eRInstr p3)]⟩, ⟨0, 71, 1, [[(.fn 61 [(.ptr 2 0 0 0), (.ptr 1 0 0 0)])]]⟩]) (v' := (.bool q40)) [4, 2, 1] (go1 rfl rfl b39) hb62 (slices_ContainsFunc_int_int_ok gq40) rfl (by decide) rfl rfl (.raw rfl rfl (.raw rfl rfl (.raw rfl rfl .nil))) rfl rfl (.raw rfl rfl (.raw rfl rfl (.raw rfl rfl .nil))) .nil rfl rfl ?_
        exact zf b39 rfl (AO.done (M22 q40 (Sh.some_eq h1).symm _ (Wk.tr rfl)))
      ·refine zs b38 rfl (zs b38 rfl (zs b38 rfl (zf b38 rfl (zq tb rfl (zg tb rfl rfl (zg tb rfl rfl (ao_q (v := (.fn 63 [(.ptr 4 0 0 0)])) (go1 rfl rfl rfl) rfl (aq_fn rfl) (bs h1 fun q41 gq41 h1 => ?_))))))))
       refine ao_calls (rowsP := [⟨0, 71, 1, [[(.fn 61 [(.ptr 2 0 0 0), (.ptr 1 0 0 0)])]]⟩, ⟨0, 3, 1, [[(i64 p2)]]⟩, ⟨0, 45, 5, [(eRProc p1)]⟩]) (rows0 := [⟨0, 71, 1, [[(.fn 61 [(.ptr 1 0 0 0), (.ptr 2 0 0 0)])]]⟩, ⟨0, 3, 1, [[(i64 p2)]]⟩, ⟨0, 45, 5, [(eRProc p1)]⟩]) (rows1 := [⟨0, 71, 1, [[(.fn 61 [(.ptr 1 0 0 0), (.ptr 2 0 0 0)])]]⟩, ⟨0, 3, 1, [[(i64 p2)]]⟩, ⟨0, 45, 5, [(eRProc p1)]⟩]) (rows2 := []) (rows1' := [⟨0, 71, 1, [[(.fn 61 [(.ptr 2 0 0 0), (.ptr 1 0 0 0)])]]⟩, ⟨0, 3, 1, [[(i64 p2)]]⟩, ⟨0, 45, 5, [(eRProc p1)]⟩]) (rows2' := []) (st' := [⟨0, 83, 2, [(eRSignatures p0)]⟩, ⟨0, 45, 5, [(eRProc p1)]⟩, ⟨0, 3, 1, [[(i64 p2)]]⟩, ⟨0, 73, 6, [(eRInstr p3)]⟩, ⟨0, 71, 1, [[(.fn 61 [(.ptr 2 0 0 0), (.ptr 1 0 0 0)])]]⟩]) (v' := (.bool q41)) [4, 2, 1] (go1 rfl rfl rfl) hb62 (slices_ContainsFunc_int_int_ok gq41) rfl (by decide) rfl rfl (.raw rfl rfl (.raw rfl rfl (.raw rfl rfl .nil))) rfl rfl (.raw rfl rfl (.raw rfl rfl (.raw rfl rfl .nil))) .nil rfl rfl ?_
       exact zf rfl rfl (AO.done (M22 q41 (Sh.some_eq h1).symm _ (Wk.tr rfl)))
     refine AW.block (AW.loopF (σ := Int) (fun n v => impl_signatures_instrValid_L1 p1 p3 n v = some o17) (fun t16 => ⟨140, envL [(4, (.ptr 0 0 0 0)), (5, (.ptr 1 0 0 0)), (6, (.ptr 2 0 0 0)), (7, (.ptr 3 0 0 0)), (86, (ls eI p3.args)), (87, (i64 (Sh.len p3.args))), (88, (i64 t16))], [⟨0, 83, 2, [(eRSignatures p0)]⟩, ⟨0, 45, 5, [(eRProc p1)]⟩, ⟨0, 3, 1, [[(i64 p2)]]⟩, ⟨0, 73, 6, [(eRInstr p3)]⟩]⟩) N 0 h1 (Wk.tr rfl) (fun _ hv => by rw [impl_signatures_instrValid_L1] at hv; cases hv) ?_)
     rintro n t16 h1
     try dsimp only at h1 ⊢
     rw [impl_signatures_instrValid_L1] at h1
     refine zr tb rfl rfl (AW.seq fun K43 hK43 => ?_)
     refine ci h1 rfl ?_ ?_ <;> clear h1
     ·intro b44 h1
      refine AW.skip (hK43 _ (AW.seq fun K45 hK45 => AW.block (sr rfl fun K46 hK46 => bs h1 fun c47 gc47 h1 => zx ei27 gc47 rfl rfl rfl (zm tb 2 rfl (dn hK46 rfl (AW.seq fun K48 hK48 => bs h1 fun o50 h2 h1 => ?_))))))
      have M50 : ∀ (t49 : Bool), o50 = t49 → ∀ s, Wk 0 s ⟨140, envL [(4, (.ptr 0 0 0 0)), (5, (.ptr 1 0 0 0)), (6, (.ptr 2 0 0 0)), (7, (.ptr 3 0 0 0)), (86, (ls eI p3.args)), (87, (i64 (Sh.len p3.args))), (88, (i64 t16)), (99, (.bool t49))], [⟨0, 83, 2, [(eRSignatures p0)]⟩, ⟨0, 45, 5, [(eRProc p1)]⟩, ⟨0, 3, 1, [[(i64 p2)]]⟩, ⟨0, 73, 6, [(eRInstr p3)]⟩]⟩ → K48 s := by
       intro t49 hq s hw
       subst o50
       try dsimp only at h1
       refine hK48 _ (AW.weaken hw ?_)
       refine ci h1 rfl ?_ ?_ <;> clear h1
       ·intro b51 h1
        refine zr tb rfl rfl ?_
        replace h1 := Sh.some_eq h1
        subst o17
        try dsimp only [id] at h0
        replace h0 := Sh.some_eq h0
        subst r
        exact AW.ret (xr (Wk.d0 [(8, (.bool false))] rfl))
       ·intro b51 h1
        exact AW.skip (hK45 _ (AW.regionO rfl (zm tb 2 rfl (AO.done (xi (Sh.w (t16 + 1)) h1 (Wk.tr rfl))))))
      refine AW.regionO rfl (zm tb 3 rfl ?_)
      rcases Sh.ite_some h2 with ⟨b53, h2⟩ | ⟨b53, h2⟩
      ·refine zs b53 rfl ?_
       iterate 3 refine zs b53 rfl ?_
       exact zt b53 rfl (AO.done (M50 true (Sh.some_eq h2).symm _ (Wk.tr rfl)))
      ·refine zg tb b53 rfl ?_
       iterate 3 refine zg tb b53 rfl ?_
       exact zf b53 rfl (AO.done (M50 (decide (p1.regs ≤ c47)) (Sh.some_eq h2).symm _ (Wk.tr rfl)))
     ·intro b44 h1
      exact AW.exit (M17 () (Sh.some_eq h1).symm _ (Wk.tr rfl))
   refine AW.regionO rfl (zm tb 4 rfl ?_)
   rcases Sh.ite_some h1 with ⟨b54, h1⟩ | ⟨b54, h1⟩
   ·refine zs b54 rfl ?_
    iterate 4 refine zs b54 rfl ?_
    refine zt b54 rfl (zq tb rfl ?_)
    iterate 4 refine zs rfl rfl ?_
    iterate 4 refine zn rfl ?_
    refine zs rfl rfl (zt rfl rfl (zq tb rfl ?_))
    iterate 3 refine zs rfl rfl ?_
    refine zt rfl rfl (zq tb rfl ?_)
    iterate 5 refine zs rfl rfl ?_
    refine zt rfl rfl (zq tb rfl ?_)
    iterate 4 refine zs rfl rfl ?_
    iterate 3 refine zn rfl ?_
    exact zs rfl rfl (zt rfl rfl (AO.done (M11 true (Sh.some_eq h1).symm _ (Wk.tr rfl))))
   ·refine zg tb b54 rfl ?_
    iterate 4 refine zg tb b54 rfl ?_
    refine zf b54 rfl (zq tb rfl ?_)
    rcases Sh.ite_some h1 with ⟨b55, h1⟩ | ⟨b55, h1⟩
    ·refine zs b55 rfl ?_
     iterate 3 refine zs b55 rfl ?_
     iterate 4 refine zn rfl ?_
     refine zs b55 rfl (zt b55 rfl (zq tb rfl ?_))
     iterate 3 refine zs rfl rfl ?_
     refine zt rfl rfl (zq tb rfl ?_)
     iterate 5 refine zs rfl rfl ?_
     refine zt rfl rfl (zq tb rfl ?_)
     iterate 4 refine zs rfl rfl ?_
     iterate 3 refine zn rfl ?_
     exact zs rfl rfl (zt rfl rfl (AO.done (M11 true (Sh.some_eq h1).symm _ (Wk.tr rfl))))
    ·refine zg tb b55 rfl ?_
     iterate 3 refine zg tb b55 rfl ?_
     rcases Sh.ite_some h1 with ⟨b56, h1⟩ | ⟨b56, h1⟩
     ·refine zg tb b56 rfl (zg tb b56 rfl (bs h1 fun q57 gq57 h1 => zd b56 hb42 (impl_setsRegister_ok gq57) rfl rfl rfl rfl (zg tb b56 rfl (ao_q (v := (.bool (!q57))) (go1 rfl rfl b55) rfl (aq_pkt rfl b56 rfl) (zf b55 rfl (zq tb rfl ?_))))))
      rcases Sh.ite_some h1 with ⟨b58, h1⟩ | ⟨b58, h1⟩
      ·refine zs b58 rfl (zs b58 rfl (zs b58 rfl (zt b58 rfl (zq tb rfl ?_))))
       iterate 5 refine zs rfl rfl ?_
       refine zt rfl rfl (zq tb rfl ?_)
       iterate 4 refine zs rfl rfl ?_
       iterate 3 refine zn rfl ?_
       exact zs rfl rfl (zt rfl rfl (AO.done (M11 true (Sh.some_eq h1).symm _ (Wk.tr rfl))))
      ·refine zg tb b58 rfl (zg tb b58 rfl (zg tb b58 rfl (zf b58 rfl (zq tb rfl ?_))))
       rcases Sh.ite_some h1 with ⟨b59, h1⟩ | ⟨b59, h1⟩
       ·refine zs b59 rfl ?_
        iterate 4 refine zs b59 rfl ?_
        refine zt b59 rfl (zq tb rfl ?_)
        iterate 4 refine zs rfl rfl ?_
        iterate 3 refine zn rfl ?_
        exact zs rfl rfl (zt rfl rfl (AO.done (M11 true (Sh.some_eq h1).symm _ (Wk.tr rfl))))
       ·refine zg tb b59 rfl ?_
        iterate 4 refine zg tb b59 rfl ?_
        refine zf b59 rfl (zq tb rfl ?_)
        rcases Sh.ite_some h1 with ⟨b60, h1⟩ | ⟨b60, h1⟩
        ·refine zs b60 rfl ?_
         iterate 3 refine zs b60 rfl ?_
         iterate 3 refine zn rfl ?_
         exact zs b60 rfl (zt b60 rfl (AO.done (M11 true (Sh.some_eq h1).symm _ (Wk.tr rfl))))
        ·refine zg tb b60 rfl ?_
         iterate 3 refine zg tb b60 rfl ?_
         rcases Sh.ite_some h1 with ⟨b61, h1⟩ | ⟨b61, h1⟩
         ·exact zg tb b61 rfl (zg tb b61 rfl (zg tb b61 rfl (ao_q (v := (.bool (!decide (p3.op = 6)))) (go1 rfl rfl b60) rfl (aq_pkt rfl b61 rfl) (zf b60 rfl (AO.done (M11 (!decide (p3.op = 6)) (Sh.some_eq h1).symm _ (Wk.tr rfl)))))))
         ·exact zs b61 rfl (zs b61 rfl (zs b61 rfl (ao_q (v := (.bool false)) (go1 rfl rfl b60) rfl (aq_pkf rfl b61 rfl) (zf b60 rfl (AO.done (M11 false (Sh.some_eq h1).symm _ (Wk.tr rfl)))))))
     ·refine zs b56 rfl ?_
      iterate 3 refine zs b56 rfl ?_
      refine ao_q (v := (.bool false)) (go1 rfl rfl b55) rfl (aq_pkf rfl b56 rfl) (zf b55 rfl (zq tb rfl ?_))
      iterate 3 refine zg tb rfl rfl ?_
      refine zf rfl rfl (zq tb rfl ?_)
      rcases Sh.ite_some h1 with ⟨b62, h1⟩ | ⟨b62, h1⟩
      ·refine zs b62 rfl ?_
       iterate 4 refine zs b62 rfl ?_
       refine zt b62 rfl (zq tb rfl ?_)
       iterate 4 refine zs rfl rfl ?_
       iterate 3 refine zn rfl ?_
       exact zs rfl rfl (zt rfl rfl (AO.done (M11 true (Sh.some_eq h1).symm _ (Wk.tr rfl))))
      ·refine zg tb b62 rfl ?_
       iterate 4 refine zg tb b62 rfl ?_
       refine zf b62 rfl (zq tb rfl ?_)
       rcases Sh.ite_some h1 with ⟨b63, h1⟩ | ⟨b63, h1⟩
       ·refine zs b63 rfl ?_
        iterate 3 refine zs b63 rfl ?_
        iterate 3 refine zn rfl ?_
        exact zs b63 rfl (zt b63 rfl (AO.done (M11 true (Sh.some_eq h1).symm _ (Wk.tr rfl))))
       ·refine zg tb b63 rfl ?_
        iterate 3 refine zg tb b63 rfl ?_
        rcases Sh.ite_some h1 with ⟨b64, h1⟩ | ⟨b64, h1⟩
        ·exact zg tb b64 rfl (zg tb b64 rfl (zg tb b64 rfl (ao_q (v := (.bool (!decide (p3.op = 6)))) (go1 rfl rfl b63) rfl (aq_pkt rfl b64 rfl) (zf b63 rfl (AO.done (M11 (!decide (p3.op = 6)) (Sh.some_eq h1).symm _ (Wk.tr rfl)))))))
        ·exact zs b64 rfl (zs b64 rfl (zs b64 rfl (ao_q (v := (.bool false)) (go1 rfl rfl b63) rfl (aq_pkf rfl b64 rfl) (zf b63 rfl (AO.done (M11 false (Sh.some_eq h1).symm _ (Wk.tr rfl)))))))
 refine AW.regionO rfl (zm tb 4 rfl ?_)
 rcases Sh.ite_some h1 with ⟨b65, h1⟩ | ⟨b65, h1⟩
 ·refine zs b65 rfl (zs b65 rfl (zs b65 rfl (zt b65 rfl (zq tb rfl ?_))))
  iterate 3 refine zs rfl rfl ?_
  refine zt rfl rfl (zq tb rfl ?_)
  iterate 3 refine zs rfl rfl ?_
  refine zt rfl rfl (zq tb rfl ?_)
  iterate 3 refine zs rfl rfl ?_
  refine zt rfl rfl (zq tb rfl ?_)
  iterate 3 refine zs rfl rfl ?_
  exact zt rfl rfl (AO.done (M5 true (Sh.some_eq h1).symm _ (Wk.tr rfl)))
 ·refine zg tb b65 rfl (zg tb b65 rfl (zg tb b65 rfl (zf b65 rfl (zq tb rfl ?_))))
  rcases Sh.ite_some h1 with ⟨b66, h1⟩ | ⟨b66, h1⟩
  ·refine zs b66 rfl (zs b66 rfl (zs b66 rfl (zt b66 rfl (zq tb rfl ?_))))
   iterate 3 refine zs rfl rfl ?_
   refine zt rfl rfl (zq tb rfl ?_)
   iterate 3 refine zs rfl rfl ?_
   refine zt rfl rfl (zq tb rfl ?_)
   iterate 3 refine zs rfl rfl ?_
   exact zt rfl rfl (AO.done (M5 true (Sh.some_eq h1).symm _ (Wk.tr rfl)))
  ·refine zg tb b66 rfl (zg tb b66 rfl (zg tb b66 rfl (zf b66 rfl (zq tb rfl ?_))))
   rcases Sh.ite_some h1 with ⟨b67, h1⟩ | ⟨b67, h1⟩
   ·refine zs b67 rfl (zs b67 rfl (zs b67 rfl (zt b67 rfl (zq tb rfl ?_))))
    iterate 3 refine zs rfl rfl ?_
    refine zt rfl rfl (zq tb rfl ?_)
    iterate 3 refine zs rfl rfl ?_
    exact zt rfl rfl (AO.done (M5 true (Sh.some_eq h1).symm _ (Wk.tr rfl)))
   ·refine zg tb b67 rfl (zg tb b67 rfl (zg tb b67 rfl (zf b67 rfl (zq tb rfl ?_))))
    rcases Sh.ite_some h1 with ⟨b68, h1⟩ | ⟨b68, h1⟩
    ·refine zs b68 rfl (zs b68 rfl (zs b68 rfl (zt b68 rfl (zq tb rfl ?_))))
     iterate 3 refine zs rfl rfl ?_
     exact zt rfl rfl (AO.done (M5 true (Sh.some_eq h1).symm _ (Wk.tr rfl)))
    ·refine zg tb b68 rfl (zg tb b68 rfl (zg tb b68 rfl (zf b68 rfl (zq tb rfl ?_))))
     rcases Sh.ite_some h1 with ⟨b69, h1⟩ | ⟨b69, h1⟩
     ·exact zs b69 rfl (zs b69 rfl (zs b69 rfl (zt b69 rfl (AO.done (M5 true (Sh.some_eq h1).symm _ (Wk.tr rfl))))))
     ·exact zg tb b69 rfl (zg tb b69 rfl (zg tb b69 rfl (zf b69 rfl (AO.done (M5 (decide (p3.op = 13)) (Sh.some_eq h1).symm _ (Wk.tr rfl))))))
theorem impl_ValidImage_ok {N : Nat} {p0 : RImage} {r : Bool} (h0 : impl_ValidImage N p0 = some r) : ACalls Try.prog 21 [(.agg (eRImage p0))] [] (fun v st => v = (.bool r) ∧ st = []) := by
 unfold impl_ValidImage at h0
 refine ai Try.func21 rfl rfl rfl rfl (sr rfl fun K1 hK1 => ao_box (m := 0) (st' := [⟨0, 32, 2, [(eRImage p0)]⟩]) go0 rfl rfl rfl rfl rfl (zq tb rfl (dn hK1 rfl (sr rfl fun K2 hK2 => zq tb rfl (bs h0 fun q3 gq3 h0 => zc (v' := (.tup [(.agg (eRSignatures q3.1)), (.bool q3.2)])) hb39 (impl_imageSigs_ok gq3) rfl rfl rfl (zm tb 3 rfl (ao_alloc (m := 1) (st' := [⟨0, 32, 2, [(eRImage p0)]⟩, ⟨0, 83, 2, [[.zc, .zc]]⟩]) go0 zi83 rfl rfl (ao_str (st' := [⟨0, 32, 2, [(eRImage p0)]⟩, ⟨0, 83, 2, [(eRSignatures q3.1)]⟩]) go0 ti83 rfl rfl rfl rfl rfl rfl (show 0 + 2 ≤ 2 by decide) rfl ?_))))))))
 refine zq tb rfl (dn hK2 rfl (AW.seq fun K4 hK4 => zr tb rfl rfl ?_))
 refine ci h0 rfl ?_ ?_ <;> clear h0
 ·intro b6 h0
  have b7 : q3.2 = false := by simpa using b6
  refine zr tb rfl rfl ?_
  replace h0 := Sh.some_eq h0
  subst r
  exact AW.ret (xr (Wk.d0 [(2, (.bool false))] rfl))
 ·intro b6 h0
  have b9 : q3.2 = true := by simpa using b6
  refine AW.skip (hK4 _ (AW.seq fun K10 hK10 => sr rfl fun K11 hK11 => zm tb 2 rfl (zl tb rfl rfl (zq tb rfl (dn hK11 rfl ?_)))))
  obtain ⟨o13, h1, h0⟩ := Sh.cont_some h0
  have M13 : ∀ (_ : Unit), o13 = Sum.inr () → ∀ s, Wk 0 s ⟨79, envL [], []⟩ → K10 s := by
   intro _ hq s hw
   subst o13
   try dsimp only at h0
   refine hK10 _ (AW.weaken hw (zr tb rfl rfl ?_))
   replace h0 := Sh.some_eq h0
   subst r
   exact AW.ret (xr (Wk.to (L := [(2, (.bool true))]) ⟨.rfl, trivial⟩))
  refine AW.block (AW.loopF (σ := Int) (fun n v => impl_ValidImage_L1 N p0 q3 n v = some o13) (fun t12 => ⟨79, envL [(3, (.ptr 0 0 0 0)), (18, (ls eRProc p0.procs)), (19, (i64 (Sh.len p0.procs))), (20, (i64 t12))], [⟨0, 83, 2, [(eRSignatures q3.1)]⟩]⟩) N 0 h1 (Wk.permk (L := [(3, (.ptr 0 0 0 0)), (18, (ls eRProc p0.procs)), (19, (i64 (Sh.len p0.procs))), (20, (i64 0))]) (st' := [⟨0, 83, 2, [(eRSignatures q3.1)]⟩]) (st1 := [⟨0, 83, 2, [(eRSignatures q3.1)]⟩]) [1] rfl .nil (by decide) rfl rfl (.raw rfl rfl .nil) ⟨.rfl, .rfl, .rfl, .rfl, trivial⟩) (fun _ hv => by rw [impl_ValidImage_L1] at hv; cases hv) ?_)
  rintro n t12 h1
  try dsimp only at h1 ⊢
  rw [impl_ValidImage_L1] at h1
  refine zr tb rfl rfl (AW.seq fun K16 hK16 => ?_)
  refine ci h1 rfl ?_ ?_ <;> clear h1
  ·intro b17 h1
   refine AW.skip (hK16 _ (AW.seq fun K18 hK18 => AW.block (sr rfl fun K19 hK19 => bs h1 fun c20 gc20 h1 => zx ei30 gc20 rfl rfl rfl (zq tb rfl (ao_alloc (m := 1) (st' := [⟨0, 83, 2, [(eRSignatures q3.1)]⟩, ⟨0, 45, 5, [[.zc, .zc, (i64 0), (i64 0), .zc]]⟩]) go0 zi45 rfl rfl (ao_str (st' := [⟨0, 83, 2, [(eRSignatures q3.1)]⟩, ⟨0, 45, 5, [(eRProc c20)]⟩]) go0 ti45 rfl rfl rfl rfl rfl rfl (show 0 + 5 ≤ 5 by decide) rfl (dn hK19 rfl (AW.seq fun K21 hK21 => AW.seq fun K22 hK22 => ?_))))))))
   refine bs h1 fun o24 h2 h1 => ?_
   have M24 : ∀ (t23 : Bool), o24 = t23 → ∀ s, Wk 0 s ⟨79, envL [(3, (.ptr 0 0 0 0)), (6, (.ptr 1 0 0 0)), (18, (ls eRProc p0.procs)), (19, (i64 (Sh.len p0.procs))), (20, (i64 t12)), (47, (.bool t23))], [⟨0, 83, 2, [(eRSignatures q3.1)]⟩, ⟨0, 45, 5, [(eRProc c20)]⟩]⟩ → K22 s := by
    intro t23 hq s hw
    subst o24
    try dsimp only at h1
    refine hK22 _ (AW.weaken hw ?_)
    refine ci h1 rfl ?_ ?_ <;> clear h1
    ·intro b25 h1
     refine zr tb rfl rfl ?_
     replace h1 := Sh.some_eq h1
     subst o13
     try dsimp only [id] at h0
     replace h0 := Sh.some_eq h0
     subst r
     exact AW.ret (xr (Wk.d0 [(2, (.bool false))] rfl))
    ·intro b25 h1
     refine AW.skip (hK21 _ (AW.seq fun K27 hK27 => sr rfl fun K28 hK28 => zm tb 4 rfl (zl tb rfl rfl (zq tb rfl (bs h1 fun c29 gc29 h1 => zx ei43 gc29 rfl rfl rfl (zm tb 3 rfl (dn hK28 rfl (AW.seq fun K30 hK30 => bs h1 fun o32 h2 h1 => ?_))))))))
     have M32 : ∀ (t31 : Bool), o32 = t31 → ∀ s, Wk 0 s ⟨79, envL [(3, (.ptr 0 0 0 0)), (6, (.ptr 1 0 0 0)), (18, (ls eRProc p0.procs)), (19, (i64 (Sh.len p0.procs))), (20, (i64 t12)), (62, (.bool t31))], [⟨0, 83, 2, [(eRSignatures q3.1)]⟩, ⟨0, 45, 5, [(eRProc c20)]⟩]⟩ → K30 s := by
      intro t31 hq s hw
      subst o32
      try dsimp only at h1
      refine hK30 _ (AW.weaken hw ?_)
      refine ci h1 rfl ?_ ?_ <;> clear h1
      ·intro b33 h1
       refine zr tb rfl rfl ?_
       replace h1 := Sh.some_eq h1
       subst o13
       try dsimp only [id] at h0
       replace h0 := Sh.some_eq h0
       subst r
       exact AW.ret (xr (Wk.d0 [(2, (.bool false))] rfl))
      ·intro b33 h1
       refine AW.skip (hK27 _ (sr rfl fun K35 hK35 => zm tb 2 rfl (zl tb rfl rfl (zq tb rfl (dn hK35 rfl ?_)))))
       obtain ⟨o37, h2, h1⟩ := Sh.cont_some h1
       have M37 : ∀ (_ : Unit), o37 = Sum.inr () → ∀ s, Wk 0 s ⟨79, envL [(3, (.ptr 0 0 0 0)), (18, (ls eRProc p0.procs)), (19, (i64 (Sh.len p0.procs))), (20, (i64 t12))], [⟨0, 83, 2, [(eRSignatures q3.1)]⟩]⟩ → K18 s := by
        intro _ hq s hw
        subst o37
        try dsimp only at h1
        exact hK18 _ (AW.weaken hw (AW.regionO rfl (zm tb 2 rfl (AO.done (xi (Sh.w (t12 + 1)) h1 (Wk.tr rfl))))))
       refine AW.block (AW.loopF (σ := Int) (fun n v => impl_ValidImage_L2 N c20 q3 n v = some o37) (fun t36 => ⟨79, envL [(3, (.ptr 0 0 0 0)), (6, (.ptr 1 0 0 0)), (18, (ls eRProc p0.procs)), (19, (i64 (Sh.len p0.procs))), (20, (i64 t12)), (64, (ls eRInstr c20.code)), (65, (i64 (Sh.len c20.code))), (66, (i64 t36))], [⟨0, 83, 2, [(eRSignatures q3.1)]⟩, ⟨0, 45, 5, [(eRProc c20)]⟩]⟩) N 0 h2 (Wk.tr rfl) (fun _ hv => by rw [impl_ValidImage_L2] at hv; cases hv) ?_)
       rintro n t36 h2
       try dsimp only at h2 ⊢
       rw [impl_ValidImage_L2] at h2
       refine zr tb rfl rfl (AW.seq fun K39 hK39 => ?_)
       refine ci h2 rfl ?_ ?_ <;> clear h2
       ·intro b40 h2
        refine AW.skip (hK39 _ (AW.seq fun K41 hK41 => AW.block (sr rfl fun K42 hK42 => zq tb rfl (bs h2 fun c43 gc43 h2 => zx ei43 gc43 rfl rfl rfl (zq tb rfl (ao_alloc (m := 2) (st' := [⟨0, 83, 2, [(eRSignatures q3.1)]⟩, ⟨0, 45, 5, [(eRProc c20)]⟩, ⟨0, 73, 6, [[(i64 0), (i64 0), (i64 0), (i64 0), .zc, .zc]]⟩]) go0 zi73 rfl rfl (zq tb rfl (ao_str (st' := [⟨0, 83, 2, [(eRSignatures q3.1)]⟩, ⟨0, 45, 5, [(eRProc c20)]⟩, ⟨0, 73, 6, [(eRInstr c43)]⟩]) go0 ti73 rfl rfl rfl rfl rfl rfl (show 0 + 6 ≤ 6 by decide) rfl (dn hK42 rfl ?_)))))))))
        refine sr rfl fun K44 hK44 => zm tb 4 rfl (bs h2 fun q45 gq45 h2 => zc hb40 (impl_signatures_instrValid_ok gq45) rfl rfl rfl (zq tb rfl (dn hK44 rfl ?_)))
        refine ci h2 rfl ?_ ?_ <;> clear h2
        ·intro b46 h2
         have b47 : q45 = false := by simpa using b46
         refine zr tb rfl rfl ?_
         replace h2 := Sh.some_eq h2
         subst o37
         try dsimp only [id] at h1
         replace h1 := Sh.some_eq h1
         subst o13
         try dsimp only [id] at h0
         replace h0 := Sh.some_eq h0
         subst r
         exact AW.ret (xr (Wk.d0 [(2, (.bool false))] rfl))
        ·intro b46 h2
         have b49 : q45 = true := by simpa using b46
         refine AW.skip (hK41 _ (AW.regionO rfl (zm tb 2 rfl ?_)))
         exact AO.done (xi (Sh.w (t36 + 1)) h2 (Wk.permk (L := [(3, (.ptr 0 0 0 0)), (6, (.ptr 1 0 0 0)), (18, (ls eRProc p0.procs)), (19, (i64 (Sh.len p0.procs))), (20, (i64 t12)), (64, (ls eRInstr c20.code)), (65, (i64 (Sh.len c20.code))), (66, (i64 (Sh.w (t36 + 1))))]) (st' := [⟨0, 83, 2, [(eRSignatures q3.1)]⟩, ⟨0, 45, 5, [(eRProc c20)]⟩]) (st1 := [⟨0, 83, 2, [(eRSignatures q3.1)]⟩, ⟨0, 45, 5, [(eRProc c20)]⟩]) [0, 1] rfl .nil (by decide) rfl rfl (.raw rfl rfl (.raw rfl rfl .nil)) ⟨.rfl, .rfl, .rfl, .rfl, .rfl, .rfl, .rfl, .rfl, trivial⟩))
       ·intro b40 h2
        exact AW.exit (M37 () (Sh.some_eq h2).symm _ (Wk.permk (L := [(3, (.ptr 0 0 0 0)), (18, (ls eRProc p0.procs)), (19, (i64 (Sh.len p0.procs))), (20, (i64 t12))]) (st' := [⟨0, 83, 2, [(eRSignatures q3.1)]⟩]) (st1 := [⟨0, 83, 2, [(eRSignatures q3.1)]⟩]) [0] rfl .nil (by decide) rfl rfl (.raw rfl rfl .nil) ⟨.rfl, .rfl, .rfl, .rfl, trivial⟩))
     refine AW.regionO rfl (zm tb 3 rfl ?_)
     rcases Sh.ite_some h2 with ⟨b50, h2⟩ | ⟨b50, h2⟩
     ·exact zg tb b50 rfl (zg tb b50 rfl (zt b50 rfl (AO.done (M32 (!decide (c29.op = 24)) (Sh.some_eq h2).symm _ (Wk.tr rfl)))))
     ·exact zs b50 rfl (zs b50 rfl (zf b50 rfl (AO.done (M32 false (Sh.some_eq h2).symm _ (Wk.tr rfl)))))
   refine AW.regionO rfl (zm tb 4 rfl (zl tb rfl rfl (zz (i64 (if (Sh.len c20.params) > 1 then (Sh.len c20.params) else 1)) (aq_max rfl rfl) rfl (zm tb 2 rfl ?_))))
   rcases Sh.ite_some h2 with ⟨b51, h2⟩ | ⟨b51, h2⟩
   ·refine zs b51 rfl (zs b51 rfl (zs b51 rfl (zt b51 rfl (zq tb rfl ?_))))
    iterate 4 refine zs rfl rfl ?_
    refine zt rfl rfl (zq tb rfl ?_)
    iterate 4 refine zs rfl rfl ?_
    exact zt rfl rfl (AO.done (M24 true (Sh.some_eq h2).symm _ (Wk.tr rfl)))
   ·refine zg tb b51 rfl (zg tb b51 rfl (zg tb b51 rfl (zf b51 rfl (zq tb rfl ?_))))
    rcases Sh.ite_some h2 with ⟨b52, h2⟩ | ⟨b52, h2⟩
    ·refine zs b52 rfl ?_
     iterate 3 refine zs b52 rfl ?_
     refine zt b52 rfl (zq tb rfl ?_)
     iterate 4 refine zs rfl rfl ?_
     exact zt rfl rfl (AO.done (M24 true (Sh.some_eq h2).symm _ (Wk.tr rfl)))
    ·refine zg tb b52 rfl (zg tb b52 rfl (ao_q (v := (i64 (Sh.len c20.code))) (go1 rfl rfl b52) rfl (aq_lens sl43 rfl) (zg tb b52 rfl (zf b52 rfl (zq tb rfl ?_)))))
     rcases Sh.ite_some h2 with ⟨b53, h2⟩ | ⟨b53, h2⟩
     ·refine zs b53 rfl ?_
      iterate 3 refine zs b53 rfl ?_
      exact zt b53 rfl (AO.done (M24 true (Sh.some_eq h2).symm _ (Wk.tr rfl)))
     ·exact zg tb b53 rfl (zg tb b53 rfl (ao_q (v := (i64 (Sh.len c20.code))) (go1 rfl rfl b53) rfl (aq_lens sl43 rfl) (zg tb b53 rfl (zf b53 rfl (AO.done (M24 (decide (2000 < (Sh.len c20.code))) (Sh.some_eq h2).symm _ (Wk.tr rfl)))))))
  ·intro b17 h1
   exact AW.exit (M13 () (Sh.some_eq h1).symm _ (Wk.d0 _ rfl))
theorem impl_Instr_nexts_ok {p0 : RInstr} {p1 : Int} {r : (List Int)} (h0 : impl_Instr_nexts p0 p1 = some r) : ACalls Try.prog 41 [(.agg (eRInstr p0)), (i64 p1)] [] (fun v st => v = (ls eI r) ∧ st = []) := by
 unfold impl_Instr_nexts at h0
 refine ai Try.func41 rfl rfl rfl rfl (sr rfl fun K1 hK1 => ao_box (m := 0) (st' := [⟨0, 73, 6, [(eRInstr p0)]⟩]) go0 rfl rfl rfl rfl rfl (zq tb rfl (dn hK1 rfl (AW.seq fun K2 hK2 => zr tb rfl rfl (AW.block (zr tb rfl rfl ?_))))))
 refine ci h0 rfl ?_ ?_ <;> clear h0
 ·intro b5 h0
  refine sr rfl fun K6 hK6 => zm tb 2 rfl ?_
  refine ao_bs (m := 1) (st' := [⟨0, 73, 6, [(eRInstr p0)]⟩, (ro 0 3 1 eI [p0.num])]) (l := [p0.num]) (enc := eI) go0 ei27 (by decide) rfl rfl rfl rfl rfl rfl ?_
  refine zq tb rfl (dn hK6 rfl ?_)
  replace h0 := Sh.some_eq h0
  subst r
  exact AW.ret (Exists.intro ⟨29, envL [(4, (ls eI [p0.num]))], []⟩ (And.intro (by refine Wk.trans (Wk.frz (L := [(4, (ls eI [p0.num]))]) (st' := [⟨0, 73, 6, [(eRInstr p0)]⟩, ⟨1, 3, 1, []⟩]) (id := 1) rfl (show 0 ≤ 1 by decide) (pure_map fun _ => rfl) ⟨(.frz rfl), trivial⟩ rfl) ?_; refine Wk.trans (Wk.permk (L := [(4, (ls eI [p0.num]))]) (st' := []) (st1 := []) [] rfl .nil (by decide) rfl rfl .nil ⟨.rfl, trivial⟩) ?_; exact Wk.to (L := [(4, (ls eI [p0.num]))]) ⟨.rfl, trivial⟩) (And.intro rfl rfl)))
 ·intro b5 h0
  refine zr tb rfl rfl ?_
  refine ci h0 rfl ?_ ?_ <;> clear h0
  ·intro b8 h0
   refine sr rfl fun K9 hK9 => zm tb 4 rfl ?_
   refine ao_bs (m := 1) (st' := [⟨0, 73, 6, [(eRInstr p0)]⟩, (ro 0 3 1 eI [Sh.w (p1 + 1), p0.num])]) (l := [Sh.w (p1 + 1), p0.num]) (enc := eI) go0 ei27 (by decide) rfl rfl rfl rfl rfl rfl ?_
   refine zq tb rfl (dn hK9 rfl ?_)
   replace h0 := Sh.some_eq h0
   subst r
   exact AW.ret (Exists.intro ⟨29, envL [(4, (ls eI [Sh.w (p1 + 1), p0.num]))], []⟩ (And.intro (by refine Wk.trans (Wk.frz (L := [(4, (ls eI [Sh.w (p1 + 1), p0.num]))]) (st' := [⟨0, 73, 6, [(eRInstr p0)]⟩, ⟨1, 3, 1, []⟩]) (id := 1) rfl (show 0 ≤ 1 by decide) (pure_map fun _ => rfl) ⟨(.frz rfl), trivial⟩ rfl) ?_; refine Wk.trans (Wk.permk (L := [(4, (ls eI [Sh.w (p1 + 1), p0.num]))]) (st' := []) (st1 := []) [] rfl .nil (by decide) rfl rfl .nil ⟨.rfl, trivial⟩) ?_; exact Wk.to (L := [(4, (ls eI [Sh.w (p1 + 1), p0.num]))]) ⟨.rfl, trivial⟩) (And.intro rfl rfl)))
  ·intro b8 h0
   refine zr tb rfl rfl ?_
   refine ci h0 rfl ?_ ?_ <;> clear h0
   ·intro b11 h0
    refine zr tb rfl rfl ?_
    replace h0 := Sh.some_eq h0
    subst r
    exact AW.ret (xr (Wk.d0 [(4, (ls eI p0.jumps))] rfl))
   ·intro b11 h0
    refine AW.seq fun K13 hK13 => bs h0 fun o15 h1 h0 => ?_
    have M15 : ∀ (t14 : Bool), o15 = t14 → ∀ s, Wk 0 s ⟨29, envL [(1, (i64 p1)), (23, (.bool t14))], []⟩ → K13 s := by
     intro t14 hq s hw
     subst o15
     try dsimp only at h0
     refine hK13 _ (AW.weaken hw ?_)
     refine ci h0 rfl ?_ ?_ <;> clear h0
     ·intro b16 h0
      refine zr tb rfl rfl ?_
      replace h0 := Sh.some_eq h0
      subst r
      exact AW.ret (Exists.intro ⟨29, envL [(4, (.sl (List.map eI [])))], []⟩ (And.intro (Wk.to (L := [(4, (.sl (List.map eI [])))]) ⟨.zc, trivial⟩) (And.intro rfl rfl)))
     ·intro b16 h0
      refine AW.skip (hK2 _ (sr rfl fun K18 hK18 => zm tb 2 rfl ?_))
      refine ao_bs (m := 0) (st' := [(ro 0 3 1 eI [Sh.w (p1 + 1)])]) (l := [Sh.w (p1 + 1)]) (enc := eI) go0 ei27 (by decide) rfl rfl rfl rfl rfl rfl ?_
      refine zq tb rfl (dn hK18 rfl ?_)
      replace h0 := Sh.some_eq h0
      subst r
      exact AW.ret (Exists.intro ⟨29, envL [(4, (ls eI [Sh.w (p1 + 1)]))], []⟩ (And.intro (by refine Wk.trans (Wk.frz (L := [(4, (ls eI [Sh.w (p1 + 1)]))]) (st' := [⟨1, 3, 1, []⟩]) (id := 0) rfl (show 0 ≤ 0 by decide) (pure_map fun _ => rfl) ⟨(.frz rfl), trivial⟩ rfl) ?_; refine Wk.trans (Wk.permk (L := [(4, (ls eI [Sh.w (p1 + 1)]))]) (st' := []) (st1 := []) [] rfl .nil (by decide) rfl rfl .nil ⟨.rfl, trivial⟩) ?_; exact Wk.to (L := [(4, (ls eI [Sh.w (p1 + 1)]))]) ⟨.rfl, trivial⟩) (And.intro rfl rfl)))
    refine zr tb rfl rfl ?_
    refine ci h1 rfl ?_ ?_ <;> clear h1
    ·intro b20 h1
     exact AW.skip (M15 true (Sh.some_eq h1).symm _ (by refine Wk.trans (Wk.permk (L := [(1, (i64 p1)), (23, (.bool (decide (p0.op = 23))))]) (st' := []) (st1 := []) [] rfl .nil (by decide) rfl rfl .nil ⟨.rfl, .rfl, trivial⟩) ?_; exact Wk.to (L := [(1, (i64 p1)), (23, (.bool true))]) ⟨.rfl, (.of (congrArg AV.bool b20)), trivial⟩))
    ·intro b20 h1
     exact AW.regionO rfl (zm tb 2 rfl (AO.done (M15 (decide (p0.op = 24)) (Sh.some_eq h1).symm _ (Wk.d0 _ rfl))))
theorem impl_indicesOf_ok {N : Nat} {p0 : (List Bool)} {r : (List Int)} (h0 : impl_indicesOf N p0 = some r) : ACalls Try.prog 43 [(ls eB p0)] [] (fun v st => v = (ow 0 0 r) ∧ st = [(ro 0 3 1 eI r)]) := by
 unfold impl_indicesOf at h0
 refine ai Try.func43 rfl rfl rfl rfl ?_
 iterate 2 refine zr tb rfl rfl ?_
 refine AW.seq fun K3 hK3 => sr rfl fun K4 hK4 => zq tb rfl (zl tb rfl rfl (zq tb rfl (dn hK4 rfl (bs h0 fun o8 h1 h0 => ?_))))
 have M8 : ∀ (l7 : (List Int)), o8 = l7 → ∀ s, Wk 0 s ⟨20, envL [(3, (ow 0 0 l7))], [(ro 0 3 1 eI l7)]⟩ → K3 s := by
  intro l7 hq s hw
  subst o8
  try dsimp only at h0
  refine hK3 _ (AW.weaken hw (zr tb rfl rfl ?_))
  replace h0 := Sh.some_eq h0
  subst r
  exact AW.ret (xr (Wk.to (L := [(2, (ow 0 0 l7))]) ⟨.rfl, trivial⟩))
 refine AW.block (AW.loopF (σ := Int × (List Int)) (fun n v => impl_indicesOf_L1 p0 n v.1 v.2 = some o8) (fun (t5, l6) => ⟨20, envL [(3, (ow 0 0 l6)), (6, (ls eB p0)), (7, (i64 (Sh.len p0))), (8, (i64 t5))], [(ro 0 3 1 eI l6)]⟩) N (0, []) h1 ((Wk.adopt (t := 3) rfl 3 (size := 1) (by decide)).trans (Wk.to (L := [(3, (.own 0 0 (List.length ([] : List Int)))), (6, (ls eB p0)), (7, (i64 (Sh.len p0))), (8, (i64 0))]) ⟨.rfl, .rfl, .rfl, .rfl, trivial⟩)) (fun _ hv => by rw [impl_indicesOf_L1] at hv; cases hv) ?_)
 rintro n ⟨t5, l6⟩ h1
 try dsimp only at h1 ⊢
 rw [impl_indicesOf_L1] at h1
 refine zr tb rfl rfl (AW.seq fun K11 hK11 => ?_)
 refine ci h1 rfl ?_ ?_ <;> clear h1
 ·intro b12 h1
  refine AW.skip (hK11 _ (AW.seq fun K13 hK13 => bs h1 fun o15 h2 h1 => ?_))
  have M15 : ∀ (l14 : (List Int)), o15 = l14 → ∀ s, Wk 0 s ⟨20, envL [(3, (ow 0 0 l14)), (6, (ls eB p0)), (7, (i64 (Sh.len p0))), (8, (i64 t5))], [(ro 0 3 1 eI l14)]⟩ → K13 s := by
   intro l14 hq s hw
   subst o15
   try dsimp only at h1
   exact hK13 _ (AW.weaken hw (AW.regionO rfl (zm tb 2 rfl (AO.done (xi (Sh.w (t5 + 1), l14) h1 (Wk.tr rfl))))))
  refine AW.block (sr rfl fun K16 hK16 => zq tb rfl (bs h2 fun c17 gc17 h2 => zx ei88 gc17 rfl rfl rfl (zm tb 3 rfl (dn hK16 rfl (zr tb rfl rfl ?_)))))
  refine ci h2 rfl ?_ ?_ <;> clear h2
  ·intro b19 h2
   refine AW.regionO rfl (zm tb 2 rfl ?_)
   refine ao_bs (m := 1) (st' := [(ro 0 3 1 eI l6), (ro 0 3 1 eI [t5])]) (l := [t5]) (enc := eI) go0 ei27 (by decide) rfl rfl rfl rfl rfl rfl ?_
   refine bs h2 fun l20 gl20 h2 => ao_apo (st' := [(ro 1 3 1 eI l20), (ro 0 3 1 eI [t5])]) (l2 := [t5]) go0 ei27 rfl rfl rfl rfl (el_o rfl rfl) (fun _ => rfl) gl20 rfl (zq tb rfl ?_)
   exact AO.done (M15 l20 (Sh.some_eq h2).symm _ (by refine Wk.trans (Wk.rg (L := [(3, (ow 0 0 l20)), (6, (ls eB p0)), (7, (i64 (Sh.len p0))), (8, (i64 t5))]) (st' := [(ro 0 3 1 eI l20), (ro 0 3 1 eI [t5])]) (.pure (pure_map fun _ => rfl) (.pure (pure_map fun _ => rfl) .nil)) ⟨.rfl, .rfl, .rfl, .rfl, trivial⟩) ?_; exact Wk.permk (L := [(3, (ow 0 0 l20)), (6, (ls eB p0)), (7, (i64 (Sh.len p0))), (8, (i64 t5))]) (st' := [(ro 0 3 1 eI l20)]) (st1 := [(ro 0 3 1 eI l20)]) [0] rfl .nil (by decide) rfl rfl (.pure (pure_map fun _ => rfl) .nil) ⟨.rfl, .rfl, .rfl, .rfl, trivial⟩))
  ·intro b19 h2
   exact AW.skip (M15 l6 (Sh.some_eq h2).symm _ (Wk.tr rfl))
 ·intro b12 h1
  exact AW.exit (M8 l6 (Sh.some_eq h1).symm _ (Wk.tr rfl))
end Go.Proofs.Ytobjlimoekffaaa

