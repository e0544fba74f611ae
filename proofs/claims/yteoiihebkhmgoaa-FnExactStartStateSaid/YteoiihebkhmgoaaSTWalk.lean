import Derived.Test.YteoiihebkhmgoaaProg
import Derived.Test.YteoiihebkhmgoaaGHADefsToSTDefs
import Derived.Test.YteoiihebkhmgoaaSTWalkP1
namespace Go.Proofs.Yteoiihebkhmgoaa
open Go Go.Abs RC
attribute [local irreducible] Go.Abs.dops
set_option maxRecDepth 100000
set_option maxHeartbeats 4000000

theorem hb10 : hasBody Try.prog 10 = true := by kernel_rfl
theorem hb11 : hasBody Try.prog 11 = true := by kernel_rfl
theorem hb12 : hasBody Try.prog 12 = true := by kernel_rfl
theorem hb25 : hasBody Try.prog 25 = true := by kernel_rfl
theorem hb26 : hasBody Try.prog 26 = true := by kernel_rfl
theorem hb27 : hasBody Try.prog 27 = true := by kernel_rfl
theorem hb28 : hasBody Try.prog 28 = true := by kernel_rfl
theorem hb29 : hasBody Try.prog 29 = true := by kernel_rfl
theorem hb30 : hasBody Try.prog 30 = true := by kernel_rfl
theorem hb31 : hasBody Try.prog 31 = true := by kernel_rfl
theorem hb32 : hasBody Try.prog 32 = true := by kernel_rfl
theorem hb33 : hasBody Try.prog 33 = true := by kernel_rfl
theorem hb34 : hasBody Try.prog 34 = true := by kernel_rfl
theorem hb4 : hasBody Try.prog 4 = true := by kernel_rfl
theorem hb48 : hasBody Try.prog 48 = true := by kernel_rfl
theorem hb49 : hasBody Try.prog 49 = true := by kernel_rfl
theorem hb5 : hasBody Try.prog 5 = true := by kernel_rfl
theorem hb50 : hasBody Try.prog 50 = true := by kernel_rfl
theorem hb51 : hasBody Try.prog 51 = true := by kernel_rfl
theorem hb6 : hasBody Try.prog 6 = true := by kernel_rfl
theorem hb7 : hasBody Try.prog 7 = true := by kernel_rfl
theorem hb70 : hasBody Try.prog 70 = true := by kernel_rfl
theorem hb71 : hasBody Try.prog 71 = true := by kernel_rfl
theorem hb8 : hasBody Try.prog 8 = true := by kernel_rfl
theorem hb9 : hasBody Try.prog 9 = true := by kernel_rfl
theorem hb90 : hasBody Try.prog 90 = true := by kernel_rfl
theorem hb91 : hasBody Try.prog 91 = true := by kernel_rfl
theorem sl28 : isSliceT Try.prog 28 = true := by kernel_rfl
theorem sl29 : isSliceT Try.prog 29 = true := by kernel_rfl
theorem sl35 : isSliceT Try.prog 35 = true := by kernel_rfl

theorem laws_eqConS_ok {N : Nat} {p0 : (List RCon)} {p1 : (List RCon)} {r : Bool} (h0 : laws_eqConS N p0 p1 = some r) : ACalls Try.prog 70 [(ls eRCon p0), (ls eRCon p1)] [] (fun v st => v = (.bool r) ∧ st = []) := by
 unfold laws_eqConS at h0
 refine ai Try.func70 rfl rfl rfl rfl (zr tb rfl rfl (AW.seq fun K2 hK2 => sr rfl fun K3 hK3 => zq tb rfl (zl tb rfl rfl (zq tb rfl (zl tb rfl rfl (zq tb rfl (dn hK3 rfl ?_)))))))
 refine ci h0 rfl ?_ ?_ <;> clear h0
 ·intro b4 h0
  have b5 : decide ((Sh.len p0) = (Sh.len p1)) = false := by simpa using b4
  refine zr tb rfl rfl ?_
  replace h0 := Sh.some_eq h0
  subst r
  exact AW.ret (xr (Wk.to (L := [(4, (.bool false))]) ⟨.rfl, trivial⟩))
 ·intro b4 h0
  have b7 : decide ((Sh.len p0) = (Sh.len p1)) = true := by simpa using b4
  refine AW.skip (hK2 _ (AW.seq fun K8 hK8 => zr tb rfl rfl ?_))
  obtain ⟨o11, h1, h0⟩ := Sh.cont_some h0
  have M11 : ∀ (_ : Unit), o11 = Sum.inr () → ∀ s, Wk 0 s ⟨27, envL [], []⟩ → K8 s := by
   intro _ hq s hw
   subst o11
   try dsimp only at h0
   refine hK8 _ (AW.weaken hw (zr tb rfl rfl ?_))
   replace h0 := Sh.some_eq h0
   subst r
   exact AW.ret (xr (Wk.to (L := [(4, (.bool true))]) ⟨.rfl, trivial⟩))
  refine AW.block (AW.loopF (σ := Int) (fun n v => laws_eqConS_L1 N p0 p1 n v = some o11) (fun i10 => ⟨27, envL [(0, (ls eRCon p0)), (1, (ls eRCon p1)), (5, (i64 i10))], []⟩) N 0 h1 (Wk.tr rfl) (fun _ hv => by rw [laws_eqConS_L1] at hv; cases hv) ?_)
  rintro n i10 h1
  try dsimp only at h1 ⊢
  rw [laws_eqConS_L1] at h1
  refine AW.seq fun K13 hK13 => sr rfl fun K14 hK14 => zm tb 2 rfl (zl tb rfl rfl (zq tb rfl (dn hK14 rfl ?_)))
  refine ci h1 rfl ?_ ?_ <;> clear h1
  ·intro b15 h1
   refine AW.skip (hK13 _ (AW.seq fun K16 hK16 => AW.block (AW.seq fun K17 hK17 => ?_)))
   refine AW.draw (by kernel_rfl) (by kernel_rfl) (by rfl) ?_
   iterate 2 refine yq tb rfl ?_
   refine bs h1 fun c18 gc18 h1 => yx ei81 gc18 rfl rfl rfl ?_
   iterate 3 refine yq tb rfl ?_
   refine bs h1 fun c19 gc19 h1 => yx ei81 gc19 rfl rfl rfl (yq tb rfl (bs h1 fun q20 gq20 h1 => d_call (v := (.bool q20)) go0 hb90 (laws_eqCon_ok gq20) rfl rfl rfl (yq tb rfl (d_done (hK17 _ ?_)))))
   refine ci h1 rfl ?_ ?_ <;> clear h1
   ·intro b21 h1
    have b22 : q20 = false := by simpa using b21
    refine zr tb rfl rfl ?_
    replace h1 := Sh.some_eq h1
    subst o11
    try dsimp only [id] at h0
    replace h0 := Sh.some_eq h0
    subst r
    exact AW.ret (xr (Wk.to (L := [(4, (.bool false))]) ⟨.rfl, trivial⟩))
   ·intro b21 h1
    have b24 : q20 = true := by simpa using b21
    exact AW.skip (hK16 _ (AW.regionO rfl (zm tb 3 rfl (AO.done (xi (Sh.w (i10 + 1)) h1 (Wk.tr rfl))))))
  ·intro b15 h1
   exact AW.exit (M11 () (Sh.some_eq h1).symm _ (Wk.tr rfl))
theorem laws_eqDecl_ok {N : Nat} {p0 : RDecl} {p1 : RDecl} {r : Bool} (h0 : laws_eqDecl N p0 p1 = some r) : ACalls Try.prog 48 [(.agg (eRDecl p0)), (.agg (eRDecl p1))] [] (fun v st => v = (.bool r) ∧ st = []) := by
 unfold laws_eqDecl at h0
 refine ai Try.func48 rfl rfl rfl rfl (sr rfl fun K1 hK1 => ao_box (m := 0) (st' := [⟨0, 83, 3, [(eRDecl p0)]⟩]) go0 rfl rfl rfl rfl rfl (ao_box (m := 1) (st' := [⟨0, 83, 3, [(eRDecl p0)]⟩, ⟨0, 83, 3, [(eRDecl p1)]⟩]) go0 rfl rfl rfl rfl rfl (zq tb rfl (dn hK1 rfl (AW.seq fun K2 hK2 => zr tb rfl rfl ?_)))))
 refine ci h0 rfl ?_ ?_ <;> clear h0
 ·intro b4 h0
  have b5 : decide (p0.from_ = p1.from_) = false := by simpa using b4
  refine zr tb rfl rfl ?_
  replace h0 := Sh.some_eq h0
  subst r
  exact AW.ret (xr (Wk.d0 [(4, (.bool false))] rfl))
 ·intro b4 h0
  have b7 : decide (p0.from_ = p1.from_) = true := by simpa using b4
  refine AW.skip (hK2 _ (AW.seq fun K8 hK8 => zr tb rfl rfl ?_))
  refine ci h0 rfl ?_ ?_ <;> clear h0
  ·intro b10 h0
   have b11 : decide (p0.to = p1.to) = false := by simpa using b10
   refine zr tb rfl rfl ?_
   replace h0 := Sh.some_eq h0
   subst r
   exact AW.ret (xr (Wk.d0 [(4, (.bool false))] rfl))
  ·intro b10 h0
   have b13 : decide (p0.to = p1.to) = true := by simpa using b10
   refine AW.skip (hK8 _ (AW.seq fun K14 hK14 => sr rfl fun K15 hK15 => zm tb 4 rfl (bs h0 fun q16 gq16 h0 => zc hb70 (laws_eqConS_ok gq16) rfl rfl rfl (zq tb rfl (dn hK15 rfl ?_)))))
   refine ci h0 rfl ?_ ?_ <;> clear h0
   ·intro b17 h0
    have b18 : q16 = false := by simpa using b17
    refine zr tb rfl rfl ?_
    replace h0 := Sh.some_eq h0
    subst r
    exact AW.ret (xr (Wk.d0 [(4, (.bool false))] rfl))
   ·intro b17 h0
    have b20 : q16 = true := by simpa using b17
    refine AW.skip (hK14 _ (zr tb rfl rfl ?_))
    replace h0 := Sh.some_eq h0
    subst r
    exact AW.ret (xr (Wk.d0 [(4, (.bool true))] rfl))
theorem laws_eqDeclS_ok {N : Nat} {p0 : (List RDecl)} {p1 : (List RDecl)} {r : Bool} (h0 : laws_eqDeclS N p0 p1 = some r) : ACalls Try.prog 25 [(ls eRDecl p0), (ls eRDecl p1)] [] (fun v st => v = (.bool r) ∧ st = []) := by
 unfold laws_eqDeclS at h0
 refine ai Try.func25 rfl rfl rfl rfl (zr tb rfl rfl (AW.seq fun K2 hK2 => sr rfl fun K3 hK3 => zq tb rfl (zl tb rfl rfl (zq tb rfl (zl tb rfl rfl (zq tb rfl (dn hK3 rfl ?_)))))))
 refine ci h0 rfl ?_ ?_ <;> clear h0
 ·intro b4 h0
  have b5 : decide ((Sh.len p0) = (Sh.len p1)) = false := by simpa using b4
  refine zr tb rfl rfl ?_
  replace h0 := Sh.some_eq h0
  subst r
  exact AW.ret (xr (Wk.to (L := [(4, (.bool false))]) ⟨.rfl, trivial⟩))
 ·intro b4 h0
  have b7 : decide ((Sh.len p0) = (Sh.len p1)) = true := by simpa using b4
  refine AW.skip (hK2 _ (AW.seq fun K8 hK8 => zr tb rfl rfl ?_))
  obtain ⟨o11, h1, h0⟩ := Sh.cont_some h0
  have M11 : ∀ (_ : Unit), o11 = Sum.inr () → ∀ s, Wk 0 s ⟨27, envL [], []⟩ → K8 s := by
   intro _ hq s hw
   subst o11
   try dsimp only at h0
   refine hK8 _ (AW.weaken hw (zr tb rfl rfl ?_))
   replace h0 := Sh.some_eq h0
   subst r
   exact AW.ret (xr (Wk.to (L := [(4, (.bool true))]) ⟨.rfl, trivial⟩))
  refine AW.block (AW.loopF (σ := Int) (fun n v => laws_eqDeclS_L1 N p0 p1 n v = some o11) (fun i10 => ⟨27, envL [(0, (ls eRDecl p0)), (1, (ls eRDecl p1)), (5, (i64 i10))], []⟩) N 0 h1 (Wk.tr rfl) (fun _ hv => by rw [laws_eqDeclS_L1] at hv; cases hv) ?_)
  rintro n i10 h1
  try dsimp only at h1 ⊢
  rw [laws_eqDeclS_L1] at h1
  refine AW.seq fun K13 hK13 => sr rfl fun K14 hK14 => zm tb 2 rfl (zl tb rfl rfl (zq tb rfl (dn hK14 rfl ?_)))
  refine ci h1 rfl ?_ ?_ <;> clear h1
  ·intro b15 h1
   refine AW.skip (hK13 _ (AW.seq fun K16 hK16 => AW.block (AW.seq fun K17 hK17 => ?_)))
   refine AW.draw (by kernel_rfl) (by kernel_rfl) (by rfl) ?_
   iterate 2 refine yq tb rfl ?_
   refine bs h1 fun c18 gc18 h1 => yx ei34 gc18 rfl rfl rfl ?_
   iterate 3 refine yq tb rfl ?_
   refine bs h1 fun c19 gc19 h1 => yx ei34 gc19 rfl rfl rfl (yq tb rfl (bs h1 fun q20 gq20 h1 => d_call (v := (.bool q20)) go0 hb48 (laws_eqDecl_ok gq20) rfl rfl rfl (yq tb rfl (d_done (hK17 _ ?_)))))
   refine ci h1 rfl ?_ ?_ <;> clear h1
   ·intro b21 h1
    have b22 : q20 = false := by simpa using b21
    refine zr tb rfl rfl ?_
    replace h1 := Sh.some_eq h1
    subst o11
    try dsimp only [id] at h0
    replace h0 := Sh.some_eq h0
    subst r
    exact AW.ret (xr (Wk.to (L := [(4, (.bool false))]) ⟨.rfl, trivial⟩))
   ·intro b21 h1
    have b24 : q20 = true := by simpa using b21
    exact AW.skip (hK16 _ (AW.regionO rfl (zm tb 3 rfl (AO.done (xi (Sh.w (i10 + 1)) h1 (Wk.tr rfl))))))
  ·intro b15 h1
   exact AW.exit (M11 () (Sh.some_eq h1).symm _ (Wk.tr rfl))
theorem laws_eqInstr_ok {N : Nat} {p0 : RInstr} {p1 : RInstr} {r : Bool} (h0 : laws_eqInstr N p0 p1 = some r) : ACalls Try.prog 91 [(.agg (eRInstr p0)), (.agg (eRInstr p1))] [] (fun v st => v = (.bool r) ∧ st = []) := by
 unfold laws_eqInstr at h0
 refine ai Try.func91 rfl rfl rfl rfl (sr rfl fun K1 hK1 => ao_box (m := 0) (st' := [⟨0, 92, 6, [(eRInstr p0)]⟩]) go0 rfl rfl rfl rfl rfl (ao_box (m := 1) (st' := [⟨0, 92, 6, [(eRInstr p0)]⟩, ⟨0, 92, 6, [(eRInstr p1)]⟩]) go0 rfl rfl rfl rfl rfl (zq tb rfl (dn hK1 rfl (AW.seq fun K2 hK2 => zr tb rfl rfl ?_)))))
 refine ci h0 rfl ?_ ?_ <;> clear h0
 ·intro b4 h0
  have b5 : decide (p0.op = p1.op) = false := by simpa using b4
  refine zr tb rfl rfl ?_
  replace h0 := Sh.some_eq h0
  subst r
  exact AW.ret (xr (Wk.d0 [(4, (.bool false))] rfl))
 ·intro b4 h0
  have b7 : decide (p0.op = p1.op) = true := by simpa using b4
  refine AW.skip (hK2 _ (AW.seq fun K8 hK8 => zr tb rfl rfl ?_))
  refine ci h0 rfl ?_ ?_ <;> clear h0
  ·intro b10 h0
   have b11 : decide (p0.dst = p1.dst) = false := by simpa using b10
   refine zr tb rfl rfl ?_
   replace h0 := Sh.some_eq h0
   subst r
   exact AW.ret (xr (Wk.d0 [(4, (.bool false))] rfl))
  ·intro b10 h0
   have b13 : decide (p0.dst = p1.dst) = true := by simpa using b10
   refine AW.skip (hK8 _ (AW.seq fun K14 hK14 => zr tb rfl rfl ?_))
   refine ci h0 rfl ?_ ?_ <;> clear h0
   ·intro b16 h0
    have b17 : decide (p0.num = p1.num) = false := by simpa using b16
    refine zr tb rfl rfl ?_
    replace h0 := Sh.some_eq h0
    subst r
    exact AW.ret (xr (Wk.d0 [(4, (.bool false))] rfl))
   ·intro b16 h0
    have b19 : decide (p0.num = p1.num) = true := by simpa using b16
    refine AW.skip (hK14 _ (AW.seq fun K20 hK20 => zr tb rfl rfl ?_))
    refine ci h0 rfl ?_ ?_ <;> clear h0
    ·intro b22 h0
     have b23 : decide (p0.into = p1.into) = false := by simpa using b22
     refine zr tb rfl rfl ?_
     replace h0 := Sh.some_eq h0
     subst r
     exact AW.ret (xr (Wk.d0 [(4, (.bool false))] rfl))
    ·intro b22 h0
     have b25 : decide (p0.into = p1.into) = true := by simpa using b22
     refine AW.skip (hK20 _ (AW.seq fun K26 hK26 => sr rfl fun K27 hK27 => zm tb 4 rfl (bs h0 fun q28 gq28 h0 => zc hb22 (laws_eqIntS_ok gq28) rfl rfl rfl (zq tb rfl (dn hK27 rfl ?_)))))
     refine ci h0 rfl ?_ ?_ <;> clear h0
     ·intro b29 h0
      have b30 : q28 = false := by simpa using b29
      refine zr tb rfl rfl ?_
      replace h0 := Sh.some_eq h0
      subst r
      exact AW.ret (xr (Wk.d0 [(4, (.bool false))] rfl))
     ·intro b29 h0
      have b32 : q28 = true := by simpa using b29
      refine AW.skip (hK26 _ (AW.seq fun K33 hK33 => sr rfl fun K34 hK34 => zm tb 4 rfl (bs h0 fun q35 gq35 h0 => zc hb22 (laws_eqIntS_ok gq35) rfl rfl rfl (zq tb rfl (dn hK34 rfl ?_)))))
      refine ci h0 rfl ?_ ?_ <;> clear h0
      ·intro b36 h0
       have b37 : q35 = false := by simpa using b36
       refine zr tb rfl rfl ?_
       replace h0 := Sh.some_eq h0
       subst r
       exact AW.ret (xr (Wk.d0 [(4, (.bool false))] rfl))
      ·intro b36 h0
       have b39 : q35 = true := by simpa using b36
       refine AW.skip (hK33 _ (zr tb rfl rfl ?_))
       replace h0 := Sh.some_eq h0
       subst r
       exact AW.ret (xr (Wk.d0 [(4, (.bool true))] rfl))
theorem laws_eqInstrS_ok {N : Nat} {p0 : (List RInstr)} {p1 : (List RInstr)} {r : Bool} (h0 : laws_eqInstrS N p0 p1 = some r) : ACalls Try.prog 71 [(ls eRInstr p0), (ls eRInstr p1)] [] (fun v st => v = (.bool r) ∧ st = []) := by
 unfold laws_eqInstrS at h0
 refine ai Try.func71 rfl rfl rfl rfl (zr tb rfl rfl (AW.seq fun K2 hK2 => sr rfl fun K3 hK3 => zq tb rfl (zl tb rfl rfl (zq tb rfl (zl tb rfl rfl (zq tb rfl (dn hK3 rfl ?_)))))))
 refine ci h0 rfl ?_ ?_ <;> clear h0
 ·intro b4 h0
  have b5 : decide ((Sh.len p0) = (Sh.len p1)) = false := by simpa using b4
  refine zr tb rfl rfl ?_
  replace h0 := Sh.some_eq h0
  subst r
  exact AW.ret (xr (Wk.to (L := [(4, (.bool false))]) ⟨.rfl, trivial⟩))
 ·intro b4 h0
  have b7 : decide ((Sh.len p0) = (Sh.len p1)) = true := by simpa using b4
  refine AW.skip (hK2 _ (AW.seq fun K8 hK8 => zr tb rfl rfl ?_))
  obtain ⟨o11, h1, h0⟩ := Sh.cont_some h0
  have M11 : ∀ (_ : Unit), o11 = Sum.inr () → ∀ s, Wk 0 s ⟨27, envL [], []⟩ → K8 s := by
   intro _ hq s hw
   subst o11
   try dsimp only at h0
   refine hK8 _ (AW.weaken hw (zr tb rfl rfl ?_))
   replace h0 := Sh.some_eq h0
   subst r
   exact AW.ret (xr (Wk.to (L := [(4, (.bool true))]) ⟨.rfl, trivial⟩))
  refine AW.block (AW.loopF (σ := Int) (fun n v => laws_eqInstrS_L1 N p0 p1 n v = some o11) (fun i10 => ⟨27, envL [(0, (ls eRInstr p0)), (1, (ls eRInstr p1)), (5, (i64 i10))], []⟩) N 0 h1 (Wk.tr rfl) (fun _ hv => by rw [laws_eqInstrS_L1] at hv; cases hv) ?_)
  rintro n i10 h1
  try dsimp only at h1 ⊢
  rw [laws_eqInstrS_L1] at h1
  refine AW.seq fun K13 hK13 => sr rfl fun K14 hK14 => zm tb 2 rfl (zl tb rfl rfl (zq tb rfl (dn hK14 rfl ?_)))
  refine ci h1 rfl ?_ ?_ <;> clear h1
  ·intro b15 h1
   refine AW.skip (hK13 _ (AW.seq fun K16 hK16 => AW.block (AW.seq fun K17 hK17 => ?_)))
   refine AW.draw (by kernel_rfl) (by kernel_rfl) (by rfl) ?_
   iterate 2 refine yq tb rfl ?_
   refine bs h1 fun c18 gc18 h1 => yx ei75 gc18 rfl rfl rfl ?_
   iterate 3 refine yq tb rfl ?_
   refine bs h1 fun c19 gc19 h1 => yx ei75 gc19 rfl rfl rfl (yq tb rfl (bs h1 fun q20 gq20 h1 => d_call (v := (.bool q20)) go0 hb91 (laws_eqInstr_ok gq20) rfl rfl rfl (yq tb rfl (d_done (hK17 _ ?_)))))
   refine ci h1 rfl ?_ ?_ <;> clear h1
   ·intro b21 h1
    have b22 : q20 = false := by simpa using b21
    refine zr tb rfl rfl ?_
    replace h1 := Sh.some_eq h1
    subst o11
    try dsimp only [id] at h0
    replace h0 := Sh.some_eq h0
    subst r
    exact AW.ret (xr (Wk.to (L := [(4, (.bool false))]) ⟨.rfl, trivial⟩))
   ·intro b21 h1
    have b24 : q20 = true := by simpa using b21
    exact AW.skip (hK16 _ (AW.regionO rfl (zm tb 3 rfl (AO.done (xi (Sh.w (i10 + 1)) h1 (Wk.tr rfl))))))
  ·intro b15 h1
   exact AW.exit (M11 () (Sh.some_eq h1).symm _ (Wk.tr rfl))
theorem laws_eqProc_ok {N : Nat} {p0 : RProc} {p1 : RProc} {r : Bool} (h0 : laws_eqProc N p0 p1 = some r) : ACalls Try.prog 49 [(.agg (eRProc p0)), (.agg (eRProc p1))] [] (fun v st => v = (.bool r) ∧ st = []) := by
 unfold laws_eqProc at h0
 refine ai Try.func49 rfl rfl rfl rfl (sr rfl fun K1 hK1 => ao_box (m := 0) (st' := [⟨0, 77, 5, [(eRProc p0)]⟩]) go0 rfl rfl rfl rfl rfl (ao_box (m := 1) (st' := [⟨0, 77, 5, [(eRProc p0)]⟩, ⟨0, 77, 5, [(eRProc p1)]⟩]) go0 rfl rfl rfl rfl rfl (zq tb rfl (dn hK1 rfl (AW.seq fun K2 hK2 => sr rfl fun K3 hK3 => zm tb 4 rfl (bs h0 fun q4 gq4 h0 => zc hb22 (laws_eqIntS_ok gq4) rfl rfl rfl (zq tb rfl ?_)))))))
 refine dn hK3 rfl ?_
 refine ci h0 rfl ?_ ?_ <;> clear h0
 ·intro b5 h0
  have b6 : q4 = false := by simpa using b5
  refine zr tb rfl rfl ?_
  replace h0 := Sh.some_eq h0
  subst r
  exact AW.ret (xr (Wk.d0 [(4, (.bool false))] rfl))
 ·intro b5 h0
  have b8 : q4 = true := by simpa using b5
  refine AW.skip (hK2 _ (AW.seq fun K9 hK9 => sr rfl fun K10 hK10 => zm tb 4 rfl (bs h0 fun q11 gq11 h0 => zc hb22 (laws_eqIntS_ok gq11) rfl rfl rfl (zq tb rfl (dn hK10 rfl ?_)))))
  refine ci h0 rfl ?_ ?_ <;> clear h0
  ·intro b12 h0
   have b13 : q11 = false := by simpa using b12
   refine zr tb rfl rfl ?_
   replace h0 := Sh.some_eq h0
   subst r
   exact AW.ret (xr (Wk.d0 [(4, (.bool false))] rfl))
  ·intro b12 h0
   have b15 : q11 = true := by simpa using b12
   refine AW.skip (hK9 _ (AW.seq fun K16 hK16 => zr tb rfl rfl ?_))
   refine ci h0 rfl ?_ ?_ <;> clear h0
   ·intro b18 h0
    have b19 : decide (p0.result = p1.result) = false := by simpa using b18
    refine zr tb rfl rfl ?_
    replace h0 := Sh.some_eq h0
    subst r
    exact AW.ret (xr (Wk.d0 [(4, (.bool false))] rfl))
   ·intro b18 h0
    have b21 : decide (p0.result = p1.result) = true := by simpa using b18
    refine AW.skip (hK16 _ (AW.seq fun K22 hK22 => zr tb rfl rfl ?_))
    refine ci h0 rfl ?_ ?_ <;> clear h0
    ·intro b24 h0
     have b25 : decide (p0.regs = p1.regs) = false := by simpa using b24
     refine zr tb rfl rfl ?_
     replace h0 := Sh.some_eq h0
     subst r
     exact AW.ret (xr (Wk.d0 [(4, (.bool false))] rfl))
    ·intro b24 h0
     have b27 : decide (p0.regs = p1.regs) = true := by simpa using b24
     refine AW.skip (hK22 _ (AW.seq fun K28 hK28 => sr rfl fun K29 hK29 => zm tb 4 rfl (bs h0 fun q30 gq30 h0 => zc hb71 (laws_eqInstrS_ok gq30) rfl rfl rfl (zq tb rfl (dn hK29 rfl ?_)))))
     refine ci h0 rfl ?_ ?_ <;> clear h0
     ·intro b31 h0
      have b32 : q30 = false := by simpa using b31
      refine zr tb rfl rfl ?_
      replace h0 := Sh.some_eq h0
      subst r
      exact AW.ret (xr (Wk.d0 [(4, (.bool false))] rfl))
     ·intro b31 h0
      have b34 : q30 = true := by simpa using b31
      refine AW.skip (hK28 _ (zr tb rfl rfl ?_))
      replace h0 := Sh.some_eq h0
      subst r
      exact AW.ret (xr (Wk.d0 [(4, (.bool true))] rfl))
theorem laws_eqProcS_ok {N : Nat} {p0 : (List RProc)} {p1 : (List RProc)} {r : Bool} (h0 : laws_eqProcS N p0 p1 = some r) : ACalls Try.prog 26 [(ls eRProc p0), (ls eRProc p1)] [] (fun v st => v = (.bool r) ∧ st = []) := by
 unfold laws_eqProcS at h0
 refine ai Try.func26 rfl rfl rfl rfl (zr tb rfl rfl (AW.seq fun K2 hK2 => sr rfl fun K3 hK3 => zq tb rfl (zl tb rfl rfl (zq tb rfl (zl tb rfl rfl (zq tb rfl (dn hK3 rfl ?_)))))))
 refine ci h0 rfl ?_ ?_ <;> clear h0
 ·intro b4 h0
  have b5 : decide ((Sh.len p0) = (Sh.len p1)) = false := by simpa using b4
  refine zr tb rfl rfl ?_
  replace h0 := Sh.some_eq h0
  subst r
  exact AW.ret (xr (Wk.to (L := [(4, (.bool false))]) ⟨.rfl, trivial⟩))
 ·intro b4 h0
  have b7 : decide ((Sh.len p0) = (Sh.len p1)) = true := by simpa using b4
  refine AW.skip (hK2 _ (AW.seq fun K8 hK8 => zr tb rfl rfl ?_))
  obtain ⟨o11, h1, h0⟩ := Sh.cont_some h0
  have M11 : ∀ (_ : Unit), o11 = Sum.inr () → ∀ s, Wk 0 s ⟨27, envL [], []⟩ → K8 s := by
   intro _ hq s hw
   subst o11
   try dsimp only at h0
   refine hK8 _ (AW.weaken hw (zr tb rfl rfl ?_))
   replace h0 := Sh.some_eq h0
   subst r
   exact AW.ret (xr (Wk.to (L := [(4, (.bool true))]) ⟨.rfl, trivial⟩))
  refine AW.block (AW.loopF (σ := Int) (fun n v => laws_eqProcS_L1 N p0 p1 n v = some o11) (fun i10 => ⟨27, envL [(0, (ls eRProc p0)), (1, (ls eRProc p1)), (5, (i64 i10))], []⟩) N 0 h1 (Wk.tr rfl) (fun _ hv => by rw [laws_eqProcS_L1] at hv; cases hv) ?_)
  rintro n i10 h1
  try dsimp only at h1 ⊢
  rw [laws_eqProcS_L1] at h1
  refine AW.seq fun K13 hK13 => sr rfl fun K14 hK14 => zm tb 2 rfl (zl tb rfl rfl (zq tb rfl (dn hK14 rfl ?_)))
  refine ci h1 rfl ?_ ?_ <;> clear h1
  ·intro b15 h1
   refine AW.skip (hK13 _ (AW.seq fun K16 hK16 => AW.block (AW.seq fun K17 hK17 => ?_)))
   refine AW.draw (by kernel_rfl) (by kernel_rfl) (by rfl) ?_
   iterate 2 refine yq tb rfl ?_
   refine bs h1 fun c18 gc18 h1 => yx ei35 gc18 rfl rfl rfl ?_
   iterate 3 refine yq tb rfl ?_
   refine bs h1 fun c19 gc19 h1 => yx ei35 gc19 rfl rfl rfl (yq tb rfl (bs h1 fun q20 gq20 h1 => d_call (v := (.bool q20)) go0 hb49 (laws_eqProc_ok gq20) rfl rfl rfl (yq tb rfl (d_done (hK17 _ ?_)))))
   refine ci h1 rfl ?_ ?_ <;> clear h1
   ·intro b21 h1
    have b22 : q20 = false := by simpa using b21
    refine zr tb rfl rfl ?_
    replace h1 := Sh.some_eq h1
    subst o11
    try dsimp only [id] at h0
    replace h0 := Sh.some_eq h0
    subst r
    exact AW.ret (xr (Wk.to (L := [(4, (.bool false))]) ⟨.rfl, trivial⟩))
   ·intro b21 h1
    have b24 : q20 = true := by simpa using b21
    exact AW.skip (hK16 _ (AW.regionO rfl (zm tb 3 rfl (AO.done (xi (Sh.w (i10 + 1)) h1 (Wk.tr rfl))))))
  ·intro b15 h1
   exact AW.exit (M11 () (Sh.some_eq h1).symm _ (Wk.tr rfl))
theorem laws_eqImage_ok {N : Nat} {p0 : RImage} {p1 : RImage} {r : Bool} (h0 : laws_eqImage N p0 p1 = some r) : ACalls Try.prog 9 [(.agg (eRImage p0)), (.agg (eRImage p1))] [] (fun v st => v = (.bool r) ∧ st = []) := by
 unfold laws_eqImage at h0
 refine ai Try.func9 rfl rfl rfl rfl (sr rfl fun K1 hK1 => ao_box (m := 0) (st' := [⟨0, 37, 2, [(eRImage p0)]⟩]) go0 rfl rfl rfl rfl rfl (ao_box (m := 1) (st' := [⟨0, 37, 2, [(eRImage p0)]⟩, ⟨0, 37, 2, [(eRImage p1)]⟩]) go0 rfl rfl rfl rfl rfl (zq tb rfl (dn hK1 rfl (AW.seq fun K2 hK2 => sr rfl fun K3 hK3 => zm tb 4 rfl (bs h0 fun q4 gq4 h0 => zc hb25 (laws_eqDeclS_ok gq4) rfl rfl rfl (zq tb rfl ?_)))))))
 refine dn hK3 rfl ?_
 refine ci h0 rfl ?_ ?_ <;> clear h0
 ·intro b5 h0
  have b6 : q4 = false := by simpa using b5
  refine zr tb rfl rfl ?_
  replace h0 := Sh.some_eq h0
  subst r
  exact AW.ret (xr (Wk.d0 [(4, (.bool false))] rfl))
 ·intro b5 h0
  have b8 : q4 = true := by simpa using b5
  refine AW.skip (hK2 _ (AW.seq fun K9 hK9 => sr rfl fun K10 hK10 => zm tb 4 rfl (bs h0 fun q11 gq11 h0 => zc hb26 (laws_eqProcS_ok gq11) rfl rfl rfl (zq tb rfl (dn hK10 rfl ?_)))))
  refine ci h0 rfl ?_ ?_ <;> clear h0
  ·intro b12 h0
   have b13 : q11 = false := by simpa using b12
   refine zr tb rfl rfl ?_
   replace h0 := Sh.some_eq h0
   subst r
   exact AW.ret (xr (Wk.d0 [(4, (.bool false))] rfl))
  ·intro b12 h0
   have b15 : q11 = true := by simpa using b12
   refine AW.skip (hK9 _ (zr tb rfl rfl ?_))
   replace h0 := Sh.some_eq h0
   subst r
   exact AW.ret (xr (Wk.d0 [(4, (.bool true))] rfl))
theorem laws_markIntS_ok {N : Nat} {s0 : (List Int)} {p1 : Int} {r : Int × (List Int)} (h0 : laws_markIntS N s0 p1 = some r) : ACalls Try.prog 29 [(ow 0 0 s0), (i64 p1)] [(ro 0 3 1 eI s0)] (fun v st => v = (i64 r.1) ∧ st = [(ro 0 3 1 eI r.2)]) := by
 unfold laws_markIntS at h0
 refine ai Try.func29 rfl rfl rfl rfl (zr tb rfl rfl (AW.seq fun K2 hK2 => zr tb rfl rfl (bs h0 fun o9 h1 h0 => ?_)))
 have M9 : ∀ (k7 : Int) (l8 : (List Int)), o9 = (k7, l8) → ∀ s, Wk 1 s ⟨19, envL [(1, (i64 k7))], [(ro 0 3 1 eI l8)]⟩ → K2 s := by
  intro k7 l8 hq s hw
  subst o9
  try dsimp only at h0
  refine hK2 _ (AW.weaken hw (zr tb rfl rfl ?_))
  replace h0 := Sh.some_eq h0
  subst r
  exact AW.ret (xr (Wk.to (L := [(4, (i64 k7))]) ⟨.rfl, trivial⟩))
 refine AW.block (AW.loopF (σ := Int × Int × (List Int)) (fun n v => laws_markIntS_L1  n v.1 v.2.1 v.2.2 = some o9) (fun (k4, i5, l6) => ⟨19, envL [(0, (ow 0 0 l6)), (1, (i64 k4)), (5, (i64 i5))], [(ro 0 3 1 eI l6)]⟩) N (p1, 0, s0) h1 (Wk.tr rfl) (fun _ hv => by rw [laws_markIntS_L1] at hv; cases hv) ?_)
 rintro n ⟨k4, i5, l6⟩ h1
 try dsimp only at h1 ⊢
 rw [laws_markIntS_L1] at h1
 refine AW.seq fun K11 hK11 => sr rfl fun K12 hK12 => zm tb 2 rfl (zz (i64 (Sh.len l6)) (aq_leno sl27 rfl rfl rfl) rfl (zq tb rfl (dn hK12 rfl ?_)))
 refine ci h1 rfl ?_ ?_ <;> clear h1
 ·intro b13 h1
  refine AW.skip (hK11 _ (AW.seq fun K14 hK14 => AW.block (sr rfl fun K15 hK15 => zm tb 3 rfl (bs h1 fun c16 gc16 h1 => zz (.ptr 0 0 (Int.toNat i5) 0) (aq_ixo ei27 rfl rfl rfl rfl gc16) rfl (ao_stl (st' := [(ro 0 3 1 eI (Sh.put l6 i5 k4))]) (u' := k4) go0 ti3 rfl rfl gc16 rfl rfl rfl (show 0 + 1 ≤ 1 by decide) rfl rfl (dn hK15 rfl (AW.regionO rfl (zm tb 3 rfl (dn hK14 rfl ?_)))))))))
  refine AW.regionO rfl (zm tb 3 rfl ?_)
  exact AO.done (xi (Sh.w (k4 + 1), Sh.w (i5 + 1), Sh.put l6 i5 k4) h1 (Wk.to (L := [(0, (.own 0 0 (List.length (Sh.put l6 i5 k4)))), (1, (i64 (Sh.w (k4 + 1)))), (5, (i64 (Sh.w (i5 + 1))))]) ⟨(.len (by simp only [Sh.put_len])), .rfl, .rfl, trivial⟩))
 ·intro b13 h1
  exact AW.exit (M9 k4 l6 (Sh.some_eq h1).symm _ (Wk.tr rfl))
theorem laws_markConS_ok {N : Nat} {s0 : (List RCon)} {p1 : Int} {r : Int × (List RCon)} (h0 : laws_markConS N s0 p1 = some r) : ACalls Try.prog 50 [(ow 0 0 s0), (i64 p1)] [(ro 0 128 1 (eRConD 3) s0)] (fun v st => v = (i64 r.1) ∧ st = [(ro 0 128 1 (eRConD 3) r.2)]) := by
 unfold laws_markConS at h0
 refine ai Try.func50 rfl rfl rfl rfl (zr tb rfl rfl (AW.seq fun K2 hK2 => zr tb rfl rfl (bs h0 fun o9 h1 h0 => ?_)))
 have M9 : ∀ (k7 : Int) (l8 : (List RCon)), o9 = (k7, l8) → ∀ s, Wk 1 s ⟨20, envL [(1, (i64 k7))], [(ro 0 128 1 (eRConD 3) l8)]⟩ → K2 s := by
  intro k7 l8 hq s hw
  subst o9
  try dsimp only at h0
  refine hK2 _ (AW.weaken hw (zr tb rfl rfl ?_))
  replace h0 := Sh.some_eq h0
  subst r
  exact AW.ret (xr (Wk.to (L := [(4, (i64 k7))]) ⟨.rfl, trivial⟩))
 refine AW.block (AW.loopF (σ := Int × Int × (List RCon)) (fun n v => laws_markConS_L1 N n v.1 v.2.1 v.2.2 = some o9) (fun (k4, i5, l6) => ⟨20, envL [(0, (ow 0 0 l6)), (1, (i64 k4)), (5, (i64 i5))], [(ro 0 128 1 (eRConD 3) l6)]⟩) N (p1, 0, s0) h1 (Wk.tr rfl) (fun _ hv => by rw [laws_markConS_L1] at hv; cases hv) ?_)
 rintro n ⟨k4, i5, l6⟩ h1
 try dsimp only at h1 ⊢
 rw [laws_markConS_L1] at h1
 refine AW.seq fun K11 hK11 => sr rfl fun K12 hK12 => zm tb 2 rfl (zz (i64 (Sh.len l6)) (aq_leno sl81 rfl rfl rfl) rfl (zq tb rfl (dn hK12 rfl ?_)))
 refine ci h1 rfl ?_ ?_ <;> clear h1
 ·intro b13 h1
  refine AW.skip (hK11 _ (AW.seq fun K14 hK14 => AW.block (AW.regionO rfl (zm tb 2 rfl (bs h1 fun c15 gc15 h1 => zz (.ptr 0 0 (Int.toNat i5) 0) (aq_ixo ei81 rfl rfl rfl rfl gc15) rfl (zq tb rfl (AO.weaken (Wk.expel (id := 0) (j := 0) (i := i5) (c := c15) (ys := c15.fields) (encY := eI) (x := [(.dv 3 1 (List.map eI c15.fields))]) (x' := [(ow 1 0 c15.fields)]) (st' := [⟨0, 128, 1, hole l6 (eRConD 3) i5 [(ow 1 0 c15.fields)]⟩, (ro 0 3 1 eI c15.fields)]) rfl gc15 rfl rfl rfl rfl rfl) (zz (ow 1 0 c15.fields) (aq_ldp ti27 rfl rfl (hole_get gc15) rfl) rfl (zq tb rfl (bs h1 fun q16 gq16 h1 => ?_))))))))))
  refine ao_callsL (rowsP := [⟨0, 3, 1, List.map eI c15.fields⟩]) (rows0 := [⟨0, 3, 1, List.map eI c15.fields⟩]) (rows1 := [⟨0, 3, 1, List.map eI q16.2⟩]) (rows2 := []) (rows1' := [⟨0, 3, 1, List.map eI q16.2⟩]) (rows2' := []) (st' := [⟨0, 128, 1, hole l6 (eRConD 3) i5 [(.own 1 0 (List.length c15.fields))]⟩, ⟨0, 3, 1, List.map eI q16.2⟩]) (v' := (i64 q16.1)) [1] go0 hb29 (laws_markIntS_ok gq16) rfl (by decide) rfl rfl (.pure (pure_map fun _ => rfl) .nil) rfl rfl (.pure (pure_map fun _ => rfl) .nil) .nil rfl rfl (fun hln => ?_)
  have ln17 : List.length q16.2 = List.length c15.fields := by simpa only [List.length_map] using hln 0 _ _ rfl rfl rfl
  refine AO.weaken (Wk.take (id := 0) (m := 1) (j := 0) (i := i5) (c := c15) (ys := q16.2) (encY := eI) (x' := [(.dv 3 1 (List.map eI q16.2))]) (st' := [⟨0, 128, 1, hole l6 (eRConD 3) i5 [(.dv 3 1 (List.map eI q16.2))]⟩, ⟨1, 3, 1, []⟩]) rfl gc15 rfl rfl (by first | (simp only [Sh.put_len]; done) | (simp only [Sh.put_len]; omega) | omega) (by decide) (show 1 ≤ 1 by decide) (fun _ => rfl) rfl rfl) ?_
  refine AO.weaken (Wk.filled (id := 0) (i := i5) (u := (RCon.mk q16.2)) (st' := [(ro 0 128 1 (eRConD 3) (Sh.put l6 i5 (RCon.mk q16.2))), ⟨1, 3, 1, []⟩]) rfl rfl rfl) (zq tb rfl (dn hK14 rfl (AW.regionO rfl (zm tb 3 rfl ?_))))
  exact AO.done (xi (q16.1, Sh.w (i5 + 1), Sh.put l6 i5 (RCon.mk q16.2)) h1 (by refine Wk.trans (Wk.permk (L := [(0, (.own 0 0 (List.length l6))), (1, (i64 q16.1)), (5, (i64 (Sh.w (i5 + 1))))]) (st' := [⟨0, 128, 1, List.map (eRConD 3) (Sh.put l6 i5 (RCon.mk q16.2))⟩]) (st1 := [⟨0, 128, 1, List.map (eRConD 3) (Sh.put l6 i5 (RCon.mk q16.2))⟩]) [0] rfl (.deep (pure_mapD fun _ => rfl) .nil) (by decide) rfl rfl (.deep (pure_mapD fun _ => rfl) .nil) ⟨.rfl, .rfl, .rfl, trivial⟩) ?_; exact Wk.to (L := [(0, (.own 0 0 (List.length (Sh.put l6 i5 (RCon.mk q16.2))))), (1, (i64 q16.1)), (5, (i64 (Sh.w (i5 + 1))))]) ⟨(.len (by first | (simp only [Sh.put_len]; done) | (simp only [Sh.put_len]; omega) | omega)), .rfl, .rfl, trivial⟩))
 ·intro b13 h1
  exact AW.exit (M9 k4 l6 (Sh.some_eq h1).symm _ (Wk.tr rfl))
theorem laws_markDeclS_ok {N : Nat} {s0 : (List RDecl)} {p1 : Int} {r : Int × (List RDecl)} (h0 : laws_markDeclS N s0 p1 = some r) : ACalls Try.prog 27 [(ow 0 0 s0), (i64 p1)] [(ro 0 83 3 (eRDeclD 128 3) s0)] (fun v st => v = (i64 r.1) ∧ st = [(ro 0 83 3 (eRDeclD 128 3) r.2)]) := by
 unfold laws_markDeclS at h0
 refine ai Try.func27 rfl rfl rfl rfl (zr tb rfl rfl (AW.seq fun K2 hK2 => zr tb rfl rfl (bs h0 fun o9 h1 h0 => ?_)))
 have M9 : ∀ (k7 : Int) (l8 : (List RDecl)), o9 = (k7, l8) → ∀ s, Wk 1 s ⟨34, envL [(1, (i64 k7))], [(ro 0 83 3 (eRDeclD 128 3) l8)]⟩ → K2 s := by
  intro k7 l8 hq s hw
  subst o9
  try dsimp only at h0
  refine hK2 _ (AW.weaken hw (zr tb rfl rfl ?_))
  replace h0 := Sh.some_eq h0
  subst r
  exact AW.ret (xr (Wk.to (L := [(4, (i64 k7))]) ⟨.rfl, trivial⟩))
 refine AW.block (AW.loopF (σ := Int × Int × (List RDecl)) (fun n v => laws_markDeclS_L1 N n v.1 v.2.1 v.2.2 = some o9) (fun (k4, i5, l6) => ⟨34, envL [(0, (ow 0 0 l6)), (1, (i64 k4)), (5, (i64 i5))], [(ro 0 83 3 (eRDeclD 128 3) l6)]⟩) N (p1, 0, s0) h1 (Wk.tr rfl) (fun _ hv => by rw [laws_markDeclS_L1] at hv; cases hv) ?_)
 rintro n ⟨k4, i5, l6⟩ h1
 try dsimp only at h1 ⊢
 rw [laws_markDeclS_L1] at h1
 refine AW.seq fun K11 hK11 => sr rfl fun K12 hK12 => zm tb 2 rfl (zz (i64 (Sh.len l6)) (aq_leno sl34 rfl rfl rfl) rfl (zq tb rfl (dn hK12 rfl ?_)))
 refine ci h1 rfl ?_ ?_ <;> clear h1
 ·intro b13 h1
  refine AW.skip (hK11 _ (AW.seq fun K14 hK14 => AW.block (sr rfl fun K15 hK15 => zm tb 3 rfl (bs h1 fun c16 gc16 h1 => zz (.ptr 0 0 (Int.toNat i5) 0) (aq_ixo ei34 rfl rfl rfl rfl gc16) rfl (zq tb rfl (ao_stl (st' := [(ro 0 83 3 (eRDeclD 128 3) (Sh.put l6 i5 (RDecl.mk k4 c16.to c16.cons)))]) (u' := (RDecl.mk k4 c16.to c16.cons)) go0 ti3 rfl rfl gc16 rfl rfl rfl (show 0 + 1 ≤ 3 by decide) rfl rfl (dn hK15 rfl (zr tb rfl rfl (sr rfl fun K18 hK18 => ?_)))))))))
  refine zm tb 3 rfl (bs h1 fun c19 gc19 h1 => ?_)
  refine zz (.ptr 0 0 (Int.toNat i5) 0) (aq_ixo ei34 rfl rfl rfl (by simp only [Sh.put_len]) gc19) rfl ?_
  refine zq tb rfl (ao_stl (st' := [(ro 0 83 3 (eRDeclD 128 3) (Sh.put (Sh.put l6 i5 (RDecl.mk k4 c16.to c16.cons)) i5 (RDecl.mk c19.from_ (Sh.w (k4 + 1)) c19.cons)))]) (u' := (RDecl.mk c19.from_ (Sh.w (k4 + 1)) c19.cons)) go0 ti3 rfl rfl gc19 rfl rfl rfl (show 1 + 1 ≤ 3 by decide) rfl rfl (dn hK18 rfl (zr tb rfl rfl (AW.regionO rfl (zm tb 2 rfl (bs h1 fun c21 gc21 h1 => ?_))))))
  refine zz (.ptr 0 0 (Int.toNat i5) 0) (aq_ixo ei34 rfl rfl rfl (by simp only [Sh.put_len]) gc21) rfl ?_
  refine zq tb rfl (AO.weaken (Wk.expel (id := 0) (j := 2) (i := i5) (c := c21) (ys := c21.cons) (encY := (eRConD 3)) (x := [(i64 c21.from_), (i64 c21.to), (.dv 128 1 (List.map (eRConD 3) c21.cons))]) (x' := [(i64 c21.from_), (i64 c21.to), (ow 1 0 c21.cons)]) (st' := [⟨0, 83, 3, hole (Sh.put (Sh.put l6 i5 (RDecl.mk k4 c16.to c16.cons)) i5 (RDecl.mk c19.from_ (Sh.w (k4 + 1)) c19.cons)) (eRDeclD 128 3) i5 [(i64 c21.from_), (i64 c21.to), (ow 1 0 c21.cons)]⟩, (ro 0 128 1 (eRConD 3) c21.cons)]) rfl gc21 rfl rfl rfl rfl rfl) (zz (ow 1 0 c21.cons) (aq_ldp ti81 rfl rfl (hole_get gc21) rfl) rfl (zq tb rfl (bs h1 fun q22 gq22 h1 => ?_))))
  refine ao_callsL (rowsP := [⟨0, 128, 1, List.map (eRConD 3) c21.cons⟩]) (rows0 := [⟨0, 128, 1, List.map (eRConD 3) c21.cons⟩]) (rows1 := [⟨0, 128, 1, List.map (eRConD 3) q22.2⟩]) (rows2 := []) (rows1' := [⟨0, 128, 1, List.map (eRConD 3) q22.2⟩]) (rows2' := []) (st' := [⟨0, 83, 3, hole (Sh.put (Sh.put l6 i5 (RDecl.mk k4 c16.to c16.cons)) i5 (RDecl.mk c19.from_ (Sh.w (k4 + 1)) c19.cons)) (eRDeclD 128 3) i5 [(i64 c21.from_), (i64 c21.to), (.own 1 0 (List.length c21.cons))]⟩, ⟨0, 128, 1, List.map (eRConD 3) q22.2⟩]) (v' := (i64 q22.1)) [1] go0 hb50 (laws_markConS_ok gq22) rfl (by decide) rfl rfl (.deep (pure_mapD fun _ => rfl) .nil) rfl rfl (.deep (pure_mapD fun _ => rfl) .nil) .nil rfl rfl (fun hln => ?_)
  have ln23 : List.length q22.2 = List.length c21.cons := by simpa only [List.length_map] using hln 0 _ _ rfl rfl rfl
  refine AO.weaken (Wk.take (id := 0) (m := 1) (j := 2) (i := i5) (c := c21) (ys := q22.2) (encY := (eRConD 3)) (x' := [(i64 c21.from_), (i64 c21.to), (.dv 128 1 (List.map (eRConD 3) q22.2))]) (st' := [⟨0, 83, 3, hole (Sh.put (Sh.put l6 i5 (RDecl.mk k4 c16.to c16.cons)) i5 (RDecl.mk c19.from_ (Sh.w (k4 + 1)) c19.cons)) (eRDeclD 128 3) i5 [(i64 c21.from_), (i64 c21.to), (.dv 128 1 (List.map (eRConD 3) q22.2))]⟩, ⟨1, 128, 1, []⟩]) rfl gc21 rfl rfl (by first | (simp only [Sh.put_len]; done) | (simp only [Sh.put_len]; omega) | omega) (by decide) (show 1 ≤ 1 by decide) (fun _ => rfl) rfl rfl) ?_
  refine AO.weaken (Wk.filled (id := 0) (i := i5) (u := (RDecl.mk c21.from_ c21.to q22.2)) (st' := [(ro 0 83 3 (eRDeclD 128 3) (Sh.put (Sh.put (Sh.put l6 i5 (RDecl.mk k4 c16.to c16.cons)) i5 (RDecl.mk c19.from_ (Sh.w (k4 + 1)) c19.cons)) i5 (RDecl.mk c21.from_ c21.to q22.2))), ⟨1, 128, 1, []⟩]) rfl rfl rfl) (zq tb rfl (dn hK14 rfl (AW.regionO rfl (zm tb 3 rfl ?_))))
  exact AO.done (xi (q22.1, Sh.w (i5 + 1), Sh.put (Sh.put (Sh.put l6 i5 (RDecl.mk k4 c16.to c16.cons)) i5 (RDecl.mk c19.from_ (Sh.w (k4 + 1)) c19.cons)) i5 (RDecl.mk c21.from_ c21.to q22.2)) h1 (by refine Wk.trans (Wk.permk (L := [(0, (.own 0 0 (List.length l6))), (1, (i64 q22.1)), (5, (i64 (Sh.w (i5 + 1))))]) (st' := [⟨0, 83, 3, List.map (eRDeclD 128 3) (Sh.put (Sh.put (Sh.put l6 i5 (RDecl.mk k4 c16.to c16.cons)) i5 (RDecl.mk c19.from_ (Sh.w (k4 + 1)) c19.cons)) i5 (RDecl.mk c21.from_ c21.to q22.2))⟩]) (st1 := [⟨0, 83, 3, List.map (eRDeclD 128 3) (Sh.put (Sh.put (Sh.put l6 i5 (RDecl.mk k4 c16.to c16.cons)) i5 (RDecl.mk c19.from_ (Sh.w (k4 + 1)) c19.cons)) i5 (RDecl.mk c21.from_ c21.to q22.2))⟩]) [0] rfl (.deep (pure_mapD fun _ => rfl) .nil) (by decide) rfl rfl (.deep (pure_mapD fun _ => rfl) .nil) ⟨.rfl, .rfl, .rfl, trivial⟩) ?_; exact Wk.to (L := [(0, (.own 0 0 (List.length (Sh.put (Sh.put (Sh.put l6 i5 (RDecl.mk k4 c16.to c16.cons)) i5 (RDecl.mk c19.from_ (Sh.w (k4 + 1)) c19.cons)) i5 (RDecl.mk c21.from_ c21.to q22.2))))), (1, (i64 q22.1)), (5, (i64 (Sh.w (i5 + 1))))]) ⟨(.len (by first | (simp only [Sh.put_len]; done) | (simp only [Sh.put_len]; omega) | omega)), .rfl, .rfl, trivial⟩))
 ·intro b13 h1
  exact AW.exit (M9 k4 l6 (Sh.some_eq h1).symm _ (Wk.tr rfl))
theorem laws_markInstrS_ok {N : Nat} {s0 : (List RInstr)} {p1 : Int} {r : Int × (List RInstr)} (h0 : laws_markInstrS N s0 p1 = some r) : ACalls Try.prog 51 [(ow 0 0 s0), (i64 p1)] [(ro 0 92 6 (eRInstrD 3 3) s0)] (fun v st => v = (i64 r.1) ∧ st = [(ro 0 92 6 (eRInstrD 3 3) r.2)]) := by
 unfold laws_markInstrS at h0
 refine ai Try.func51 rfl rfl rfl rfl (zr tb rfl rfl (AW.seq fun K2 hK2 => zr tb rfl rfl (bs h0 fun o9 h1 h0 => ?_)))
 have M9 : ∀ (k7 : Int) (l8 : (List RInstr)), o9 = (k7, l8) → ∀ s, Wk 1 s ⟨55, envL [(1, (i64 k7))], [(ro 0 92 6 (eRInstrD 3 3) l8)]⟩ → K2 s := by
  intro k7 l8 hq s hw
  subst o9
  try dsimp only at h0
  refine hK2 _ (AW.weaken hw (zr tb rfl rfl ?_))
  replace h0 := Sh.some_eq h0
  subst r
  exact AW.ret (xr (Wk.to (L := [(4, (i64 k7))]) ⟨.rfl, trivial⟩))
 refine AW.block (AW.loopF (σ := Int × Int × (List RInstr)) (fun n v => laws_markInstrS_L1 N n v.1 v.2.1 v.2.2 = some o9) (fun (k4, i5, l6) => ⟨55, envL [(0, (ow 0 0 l6)), (1, (i64 k4)), (5, (i64 i5))], [(ro 0 92 6 (eRInstrD 3 3) l6)]⟩) N (p1, 0, s0) h1 (Wk.tr rfl) (fun _ hv => by rw [laws_markInstrS_L1] at hv; cases hv) ?_)
 rintro n ⟨k4, i5, l6⟩ h1
 try dsimp only at h1 ⊢
 rw [laws_markInstrS_L1] at h1
 refine AW.seq fun K11 hK11 => sr rfl fun K12 hK12 => zm tb 2 rfl (zz (i64 (Sh.len l6)) (aq_leno sl75 rfl rfl rfl) rfl (zq tb rfl (dn hK12 rfl ?_)))
 refine ci h1 rfl ?_ ?_ <;> clear h1
 ·intro b13 h1
  refine AW.skip (hK11 _ (AW.seq fun K14 hK14 => AW.block (sr rfl fun K15 hK15 => zm tb 3 rfl (bs h1 fun c16 gc16 h1 => zz (.ptr 0 0 (Int.toNat i5) 0) (aq_ixo ei75 rfl rfl rfl rfl gc16) rfl (zq tb rfl (ao_stl (st' := [(ro 0 92 6 (eRInstrD 3 3) (Sh.put l6 i5 (RInstr.mk k4 c16.dst c16.num c16.into c16.args c16.jumps)))]) (u' := (RInstr.mk k4 c16.dst c16.num c16.into c16.args c16.jumps)) go0 ti3 rfl rfl gc16 rfl rfl rfl (show 0 + 1 ≤ 6 by decide) rfl rfl (dn hK15 rfl (zr tb rfl rfl (sr rfl fun K18 hK18 => ?_)))))))))
  refine zm tb 3 rfl (bs h1 fun c19 gc19 h1 => ?_)
  refine zz (.ptr 0 0 (Int.toNat i5) 0) (aq_ixo ei75 rfl rfl rfl (by simp only [Sh.put_len]) gc19) rfl ?_
  refine zq tb rfl (ao_stl (st' := [(ro 0 92 6 (eRInstrD 3 3) (Sh.put (Sh.put l6 i5 (RInstr.mk k4 c16.dst c16.num c16.into c16.args c16.jumps)) i5 (RInstr.mk c19.op (Sh.w (k4 + 1)) c19.num c19.into c19.args c19.jumps)))]) (u' := (RInstr.mk c19.op (Sh.w (k4 + 1)) c19.num c19.into c19.args c19.jumps)) go0 ti3 rfl rfl gc19 rfl rfl rfl (show 1 + 1 ≤ 6 by decide) rfl rfl (dn hK18 rfl (zr tb rfl rfl (sr rfl fun K21 hK21 => zm tb 3 rfl (bs h1 fun c22 gc22 h1 => ?_)))))
  refine zz (.ptr 0 0 (Int.toNat i5) 0) (aq_ixo ei75 rfl rfl rfl (by simp only [Sh.put_len]) gc22) rfl ?_
  refine zq tb rfl (ao_stl (st' := [(ro 0 92 6 (eRInstrD 3 3) (Sh.put (Sh.put (Sh.put l6 i5 (RInstr.mk k4 c16.dst c16.num c16.into c16.args c16.jumps)) i5 (RInstr.mk c19.op (Sh.w (k4 + 1)) c19.num c19.into c19.args c19.jumps)) i5 (RInstr.mk c22.op c22.dst (Sh.w ((Sh.w (k4 + 1)) + 1)) c22.into c22.args c22.jumps)))]) (u' := (RInstr.mk c22.op c22.dst (Sh.w ((Sh.w (k4 + 1)) + 1)) c22.into c22.args c22.jumps)) go0 ti3 rfl rfl gc22 rfl rfl rfl (show 2 + 1 ≤ 6 by decide) rfl rfl (dn hK21 rfl (zr tb rfl rfl (sr rfl fun K24 hK24 => zm tb 3 rfl (bs h1 fun c25 gc25 h1 => ?_)))))
  refine zz (.ptr 0 0 (Int.toNat i5) 0) (aq_ixo ei75 rfl rfl rfl (by simp only [Sh.put_len]) gc25) rfl ?_
  refine zq tb rfl (ao_stl (st' := [(ro 0 92 6 (eRInstrD 3 3) (Sh.put (Sh.put (Sh.put (Sh.put l6 i5 (RInstr.mk k4 c16.dst c16.num c16.into c16.args c16.jumps)) i5 (RInstr.mk c19.op (Sh.w (k4 + 1)) c19.num c19.into c19.args c19.jumps)) i5 (RInstr.mk c22.op c22.dst (Sh.w ((Sh.w (k4 + 1)) + 1)) c22.into c22.args c22.jumps)) i5 (RInstr.mk c25.op c25.dst c25.num (Sh.w ((Sh.w ((Sh.w (k4 + 1)) + 1)) + 1)) c25.args c25.jumps)))]) (u' := (RInstr.mk c25.op c25.dst c25.num (Sh.w ((Sh.w ((Sh.w (k4 + 1)) + 1)) + 1)) c25.args c25.jumps)) go0 ti3 rfl rfl gc25 rfl rfl rfl (show 3 + 1 ≤ 6 by decide) rfl rfl (dn hK24 rfl (zr tb rfl rfl (sr rfl fun K27 hK27 => zm tb 2 rfl (bs h1 fun c28 gc28 h1 => ?_)))))
  refine zz (.ptr 0 0 (Int.toNat i5) 0) (aq_ixo ei75 rfl rfl rfl (by simp only [Sh.put_len]) gc28) rfl ?_
  refine zq tb rfl (AO.weaken (Wk.expel (id := 0) (j := 4) (i := i5) (c := c28) (ys := c28.args) (encY := eI) (x := [(i64 c28.op), (i64 c28.dst), (i64 c28.num), (i64 c28.into), (.dv 3 1 (List.map eI c28.args)), (.dv 3 1 (List.map eI c28.jumps))]) (x' := [(i64 c28.op), (i64 c28.dst), (i64 c28.num), (i64 c28.into), (ow 1 0 c28.args), (.dv 3 1 (List.map eI c28.jumps))]) (st' := [⟨0, 92, 6, hole (Sh.put (Sh.put (Sh.put (Sh.put l6 i5 (RInstr.mk k4 c16.dst c16.num c16.into c16.args c16.jumps)) i5 (RInstr.mk c19.op (Sh.w (k4 + 1)) c19.num c19.into c19.args c19.jumps)) i5 (RInstr.mk c22.op c22.dst (Sh.w ((Sh.w (k4 + 1)) + 1)) c22.into c22.args c22.jumps)) i5 (RInstr.mk c25.op c25.dst c25.num (Sh.w ((Sh.w ((Sh.w (k4 + 1)) + 1)) + 1)) c25.args c25.jumps)) (eRInstrD 3 3) i5 [(i64 c28.op), (i64 c28.dst), (i64 c28.num), (i64 c28.into), (ow 1 0 c28.args), (.dv 3 1 (List.map eI c28.jumps))]⟩, (ro 0 3 1 eI c28.args)]) rfl gc28 rfl rfl rfl rfl rfl) (zz (ow 1 0 c28.args) (aq_ldp ti27 rfl rfl (hole_get gc28) rfl) rfl (zq tb rfl (bs h1 fun q29 gq29 h1 => ?_))))
  refine ao_callsL (rowsP := [⟨0, 3, 1, List.map eI c28.args⟩]) (rows0 := [⟨0, 3, 1, List.map eI c28.args⟩]) (rows1 := [⟨0, 3, 1, List.map eI q29.2⟩]) (rows2 := []) (rows1' := [⟨0, 3, 1, List.map eI q29.2⟩]) (rows2' := []) (st' := [⟨0, 92, 6, hole (Sh.put (Sh.put (Sh.put (Sh.put l6 i5 (RInstr.mk k4 c16.dst c16.num c16.into c16.args c16.jumps)) i5 (RInstr.mk c19.op (Sh.w (k4 + 1)) c19.num c19.into c19.args c19.jumps)) i5 (RInstr.mk c22.op c22.dst (Sh.w ((Sh.w (k4 + 1)) + 1)) c22.into c22.args c22.jumps)) i5 (RInstr.mk c25.op c25.dst c25.num (Sh.w ((Sh.w ((Sh.w (k4 + 1)) + 1)) + 1)) c25.args c25.jumps)) (eRInstrD 3 3) i5 [(i64 c28.op), (i64 c28.dst), (i64 c28.num), (i64 c28.into), (.own 1 0 (List.length c28.args)), (.dv 3 1 (List.map eI c28.jumps))]⟩, ⟨0, 3, 1, List.map eI q29.2⟩]) (v' := (i64 q29.1)) [1] go0 hb29 (laws_markIntS_ok gq29) rfl (by decide) rfl rfl (.pure (pure_map fun _ => rfl) .nil) rfl rfl (.pure (pure_map fun _ => rfl) .nil) .nil rfl rfl (fun hln => ?_)
  have ln30 : List.length q29.2 = List.length c28.args := by simpa only [List.length_map] using hln 0 _ _ rfl rfl rfl
  refine AO.weaken (Wk.take (id := 0) (m := 1) (j := 4) (i := i5) (c := c28) (ys := q29.2) (encY := eI) (x' := [(i64 c28.op), (i64 c28.dst), (i64 c28.num), (i64 c28.into), (.dv 3 1 (List.map eI q29.2)), (.dv 3 1 (List.map eI c28.jumps))]) (st' := [⟨0, 92, 6, hole (Sh.put (Sh.put (Sh.put (Sh.put l6 i5 (RInstr.mk k4 c16.dst c16.num c16.into c16.args c16.jumps)) i5 (RInstr.mk c19.op (Sh.w (k4 + 1)) c19.num c19.into c19.args c19.jumps)) i5 (RInstr.mk c22.op c22.dst (Sh.w ((Sh.w (k4 + 1)) + 1)) c22.into c22.args c22.jumps)) i5 (RInstr.mk c25.op c25.dst c25.num (Sh.w ((Sh.w ((Sh.w (k4 + 1)) + 1)) + 1)) c25.args c25.jumps)) (eRInstrD 3 3) i5 [(i64 c28.op), (i64 c28.dst), (i64 c28.num), (i64 c28.into), (.dv 3 1 (List.map eI q29.2)), (.dv 3 1 (List.map eI c28.jumps))]⟩, ⟨1, 3, 1, []⟩]) rfl gc28 rfl rfl (by first | (simp only [Sh.put_len]; done) | (simp only [Sh.put_len]; omega) | omega) (by decide) (show 1 ≤ 1 by decide) (fun _ => rfl) rfl rfl) ?_
  refine AO.weaken (Wk.filled (id := 0) (i := i5) (u := (RInstr.mk c28.op c28.dst c28.num c28.into q29.2 c28.jumps)) (st' := [(ro 0 92 6 (eRInstrD 3 3) (Sh.put (Sh.put (Sh.put (Sh.put (Sh.put l6 i5 (RInstr.mk k4 c16.dst c16.num c16.into c16.args c16.jumps)) i5 (RInstr.mk c19.op (Sh.w (k4 + 1)) c19.num c19.into c19.args c19.jumps)) i5 (RInstr.mk c22.op c22.dst (Sh.w ((Sh.w (k4 + 1)) + 1)) c22.into c22.args c22.jumps)) i5 (RInstr.mk c25.op c25.dst c25.num (Sh.w ((Sh.w ((Sh.w (k4 + 1)) + 1)) + 1)) c25.args c25.jumps)) i5 (RInstr.mk c28.op c28.dst c28.num c28.into q29.2 c28.jumps))), ⟨1, 3, 1, []⟩]) rfl rfl rfl) (zq tb rfl (dn hK27 rfl (AW.regionO rfl (zm tb 2 rfl (bs h1 fun c31 gc31 h1 => ?_)))))
  refine zz (.ptr 0 0 (Int.toNat i5) 0) (aq_ixo ei75 rfl rfl rfl (by first | (simp only [Sh.put_len]; done) | (simp only [Sh.put_len]; omega) | omega) gc31) rfl ?_
  refine zq tb rfl (AO.weaken (Wk.expel (id := 0) (j := 5) (i := i5) (c := c31) (ys := c31.jumps) (encY := eI) (x := [(i64 c31.op), (i64 c31.dst), (i64 c31.num), (i64 c31.into), (.dv 3 1 (List.map eI c31.args)), (.dv 3 1 (List.map eI c31.jumps))]) (x' := [(i64 c31.op), (i64 c31.dst), (i64 c31.num), (i64 c31.into), (.dv 3 1 (List.map eI c31.args)), (ow 2 0 c31.jumps)]) (st' := [⟨0, 92, 6, hole (Sh.put (Sh.put (Sh.put (Sh.put (Sh.put l6 i5 (RInstr.mk k4 c16.dst c16.num c16.into c16.args c16.jumps)) i5 (RInstr.mk c19.op (Sh.w (k4 + 1)) c19.num c19.into c19.args c19.jumps)) i5 (RInstr.mk c22.op c22.dst (Sh.w ((Sh.w (k4 + 1)) + 1)) c22.into c22.args c22.jumps)) i5 (RInstr.mk c25.op c25.dst c25.num (Sh.w ((Sh.w ((Sh.w (k4 + 1)) + 1)) + 1)) c25.args c25.jumps)) i5 (RInstr.mk c28.op c28.dst c28.num c28.into q29.2 c28.jumps)) (eRInstrD 3 3) i5 [(i64 c31.op), (i64 c31.dst), (i64 c31.num), (i64 c31.into), (.dv 3 1 (List.map eI c31.args)), (ow 2 0 c31.jumps)]⟩, ⟨1, 3, 1, []⟩, (ro 0 3 1 eI c31.jumps)]) rfl gc31 rfl rfl rfl rfl rfl) (zz (ow 2 0 c31.jumps) (aq_ldp ti27 rfl rfl (hole_get gc31) rfl) rfl (zq tb rfl (bs h1 fun q32 gq32 h1 => ?_))))
  refine ao_callsL (rowsP := [⟨0, 3, 1, List.map eI c31.jumps⟩]) (rows0 := [⟨0, 3, 1, List.map eI c31.jumps⟩]) (rows1 := [⟨0, 3, 1, List.map eI q32.2⟩]) (rows2 := []) (rows1' := [⟨0, 3, 1, List.map eI q32.2⟩]) (rows2' := []) (st' := [⟨0, 92, 6, hole (Sh.put (Sh.put (Sh.put (Sh.put (Sh.put l6 i5 (RInstr.mk k4 c16.dst c16.num c16.into c16.args c16.jumps)) i5 (RInstr.mk c19.op (Sh.w (k4 + 1)) c19.num c19.into c19.args c19.jumps)) i5 (RInstr.mk c22.op c22.dst (Sh.w ((Sh.w (k4 + 1)) + 1)) c22.into c22.args c22.jumps)) i5 (RInstr.mk c25.op c25.dst c25.num (Sh.w ((Sh.w ((Sh.w (k4 + 1)) + 1)) + 1)) c25.args c25.jumps)) i5 (RInstr.mk c28.op c28.dst c28.num c28.into q29.2 c28.jumps)) (eRInstrD 3 3) i5 [(i64 c31.op), (i64 c31.dst), (i64 c31.num), (i64 c31.into), (.dv 3 1 (List.map eI c31.args)), (.own 2 0 (List.length c31.jumps))]⟩, ⟨1, 3, 1, []⟩, ⟨0, 3, 1, List.map eI q32.2⟩]) (v' := (i64 q32.1)) [2] go0 hb29 (laws_markIntS_ok gq32) rfl (by decide) rfl rfl (.pure (pure_map fun _ => rfl) .nil) rfl rfl (.pure (pure_map fun _ => rfl) .nil) .nil rfl rfl (fun hln => ?_)
  have ln33 : List.length q32.2 = List.length c31.jumps := by simpa only [List.length_map] using hln 0 _ _ rfl rfl rfl
  refine AO.weaken (Wk.take (id := 0) (m := 2) (j := 5) (i := i5) (c := c31) (ys := q32.2) (encY := eI) (x' := [(i64 c31.op), (i64 c31.dst), (i64 c31.num), (i64 c31.into), (.dv 3 1 (List.map eI c31.args)), (.dv 3 1 (List.map eI q32.2))]) (st' := [⟨0, 92, 6, hole (Sh.put (Sh.put (Sh.put (Sh.put (Sh.put l6 i5 (RInstr.mk k4 c16.dst c16.num c16.into c16.args c16.jumps)) i5 (RInstr.mk c19.op (Sh.w (k4 + 1)) c19.num c19.into c19.args c19.jumps)) i5 (RInstr.mk c22.op c22.dst (Sh.w ((Sh.w (k4 + 1)) + 1)) c22.into c22.args c22.jumps)) i5 (RInstr.mk c25.op c25.dst c25.num (Sh.w ((Sh.w ((Sh.w (k4 + 1)) + 1)) + 1)) c25.args c25.jumps)) i5 (RInstr.mk c28.op c28.dst c28.num c28.into q29.2 c28.jumps)) (eRInstrD 3 3) i5 [(i64 c31.op), (i64 c31.dst), (i64 c31.num), (i64 c31.into), (.dv 3 1 (List.map eI c31.args)), (.dv 3 1 (List.map eI q32.2))]⟩, ⟨1, 3, 1, []⟩, ⟨1, 3, 1, []⟩]) rfl gc31 rfl rfl (by first | (simp only [Sh.put_len]; done) | (simp only [Sh.put_len]; omega) | omega) (by decide) (show 1 ≤ 2 by decide) (fun _ => rfl) rfl rfl) ?_
  refine AO.weaken (Wk.filled (id := 0) (i := i5) (u := (RInstr.mk c31.op c31.dst c31.num c31.into c31.args q32.2)) (st' := [(ro 0 92 6 (eRInstrD 3 3) (Sh.put (Sh.put (Sh.put (Sh.put (Sh.put (Sh.put l6 i5 (RInstr.mk k4 c16.dst c16.num c16.into c16.args c16.jumps)) i5 (RInstr.mk c19.op (Sh.w (k4 + 1)) c19.num c19.into c19.args c19.jumps)) i5 (RInstr.mk c22.op c22.dst (Sh.w ((Sh.w (k4 + 1)) + 1)) c22.into c22.args c22.jumps)) i5 (RInstr.mk c25.op c25.dst c25.num (Sh.w ((Sh.w ((Sh.w (k4 + 1)) + 1)) + 1)) c25.args c25.jumps)) i5 (RInstr.mk c28.op c28.dst c28.num c28.into q29.2 c28.jumps)) i5 (RInstr.mk c31.op c31.dst c31.num c31.into c31.args q32.2))), ⟨1, 3, 1, []⟩, ⟨1, 3, 1, []⟩]) rfl rfl rfl) (zq tb rfl (dn hK14 rfl (AW.regionO rfl (zm tb 3 rfl ?_))))
  exact AO.done (xi (q32.1, Sh.w (i5 + 1), Sh.put (Sh.put (Sh.put (Sh.put (Sh.put (Sh.put l6 i5 (RInstr.mk k4 c16.dst c16.num c16.into c16.args c16.jumps)) i5 (RInstr.mk c19.op (Sh.w (k4 + 1)) c19.num c19.into c19.args c19.jumps)) i5 (RInstr.mk c22.op c22.dst (Sh.w ((Sh.w (k4 + 1)) + 1)) c22.into c22.args c22.jumps)) i5 (RInstr.mk c25.op c25.dst c25.num (Sh.w ((Sh.w ((Sh.w (k4 + 1)) + 1)) + 1)) c25.args c25.jumps)) i5 (RInstr.mk c28.op c28.dst c28.num c28.into q29.2 c28.jumps)) i5 (RInstr.mk c31.op c31.dst c31.num c31.into c31.args q32.2)) h1 (by refine Wk.trans (Wk.permk (L := [(0, (.own 0 0 (List.length l6))), (1, (i64 q32.1)), (5, (i64 (Sh.w (i5 + 1))))]) (st' := [⟨0, 92, 6, List.map (eRInstrD 3 3) (Sh.put (Sh.put (Sh.put (Sh.put (Sh.put (Sh.put l6 i5 (RInstr.mk k4 c16.dst c16.num c16.into c16.args c16.jumps)) i5 (RInstr.mk c19.op (Sh.w (k4 + 1)) c19.num c19.into c19.args c19.jumps)) i5 (RInstr.mk c22.op c22.dst (Sh.w ((Sh.w (k4 + 1)) + 1)) c22.into c22.args c22.jumps)) i5 (RInstr.mk c25.op c25.dst c25.num (Sh.w ((Sh.w ((Sh.w (k4 + 1)) + 1)) + 1)) c25.args c25.jumps)) i5 (RInstr.mk c28.op c28.dst c28.num c28.into q29.2 c28.jumps)) i5 (RInstr.mk c31.op c31.dst c31.num c31.into c31.args q32.2))⟩]) (st1 := [⟨0, 92, 6, List.map (eRInstrD 3 3) (Sh.put (Sh.put (Sh.put (Sh.put (Sh.put (Sh.put l6 i5 (RInstr.mk k4 c16.dst c16.num c16.into c16.args c16.jumps)) i5 (RInstr.mk c19.op (Sh.w (k4 + 1)) c19.num c19.into c19.args c19.jumps)) i5 (RInstr.mk c22.op c22.dst (Sh.w ((Sh.w (k4 + 1)) + 1)) c22.into c22.args c22.jumps)) i5 (RInstr.mk c25.op c25.dst c25.num (Sh.w ((Sh.w ((Sh.w (k4 + 1)) + 1)) + 1)) c25.args c25.jumps)) i5 (RInstr.mk c28.op c28.dst c28.num c28.into q29.2 c28.jumps)) i5 (RInstr.mk c31.op c31.dst c31.num c31.into c31.args q32.2))⟩]) [0] rfl (.deep (pure_mapD fun _ => rfl) .nil) (by decide) rfl rfl (.deep (pure_mapD fun _ => rfl) .nil) ⟨.rfl, .rfl, .rfl, trivial⟩) ?_; exact Wk.to (L := [(0, (.own 0 0 (List.length (Sh.put (Sh.put (Sh.put (Sh.put (Sh.put (Sh.put l6 i5 (RInstr.mk k4 c16.dst c16.num c16.into c16.args c16.jumps)) i5 (RInstr.mk c19.op (Sh.w (k4 + 1)) c19.num c19.into c19.args c19.jumps)) i5 (RInstr.mk c22.op c22.dst (Sh.w ((Sh.w (k4 + 1)) + 1)) c22.into c22.args c22.jumps)) i5 (RInstr.mk c25.op c25.dst c25.num (Sh.w ((Sh.w ((Sh.w (k4 + 1)) + 1)) + 1)) c25.args c25.jumps)) i5 (RInstr.mk c28.op c28.dst c28.num c28.into q29.2 c28.jumps)) i5 (RInstr.mk c31.op c31.dst c31.num c31.into c31.args q32.2))))), (1, (i64 q32.1)), (5, (i64 (Sh.w (i5 + 1))))]) ⟨(.len (by first | (simp only [Sh.put_len]; done) | (simp only [Sh.put_len]; omega) | omega)), .rfl, .rfl, trivial⟩))
 ·intro b13 h1
  exact AW.exit (M9 k4 l6 (Sh.some_eq h1).symm _ (Wk.tr rfl))
theorem laws_markProcS_ok {N : Nat} {s0 : (List RProc)} {p1 : Int} {r : Int × (List RProc)} (h0 : laws_markProcS N s0 p1 = some r) : ACalls Try.prog 28 [(ow 0 0 s0), (i64 p1)] [(ro 0 77 5 (eRProcD 3 3 92 3 3) s0)] (fun v st => v = (i64 r.1) ∧ st = [(ro 0 77 5 (eRProcD 3 3 92 3 3) r.2)]) := by
 unfold laws_markProcS at h0
 refine ai Try.func28 rfl rfl rfl rfl (zr tb rfl rfl (AW.seq fun K2 hK2 => zr tb rfl rfl (bs h0 fun o9 h1 h0 => ?_)))
 have M9 : ∀ (k7 : Int) (l8 : (List RProc)), o9 = (k7, l8) → ∀ s, Wk 1 s ⟨48, envL [(1, (i64 k7))], [(ro 0 77 5 (eRProcD 3 3 92 3 3) l8)]⟩ → K2 s := by
  intro k7 l8 hq s hw
  subst o9
  try dsimp only at h0
  refine hK2 _ (AW.weaken hw (zr tb rfl rfl ?_))
  replace h0 := Sh.some_eq h0
  subst r
  exact AW.ret (xr (Wk.to (L := [(4, (i64 k7))]) ⟨.rfl, trivial⟩))
 refine AW.block (AW.loopF (σ := Int × Int × (List RProc)) (fun n v => laws_markProcS_L1 N n v.1 v.2.1 v.2.2 = some o9) (fun (k4, i5, l6) => ⟨48, envL [(0, (ow 0 0 l6)), (1, (i64 k4)), (5, (i64 i5))], [(ro 0 77 5 (eRProcD 3 3 92 3 3) l6)]⟩) N (p1, 0, s0) h1 (Wk.tr rfl) (fun _ hv => by rw [laws_markProcS_L1] at hv; cases hv) ?_)
 rintro n ⟨k4, i5, l6⟩ h1
 try dsimp only at h1 ⊢
 rw [laws_markProcS_L1] at h1
 refine AW.seq fun K11 hK11 => sr rfl fun K12 hK12 => zm tb 2 rfl (zz (i64 (Sh.len l6)) (aq_leno sl35 rfl rfl rfl) rfl (zq tb rfl (dn hK12 rfl ?_)))
 refine ci h1 rfl ?_ ?_ <;> clear h1
 ·intro b13 h1
  refine AW.skip (hK11 _ (AW.seq fun K14 hK14 => AW.block (sr rfl fun K15 hK15 => zm tb 2 rfl (bs h1 fun c16 gc16 h1 => zz (.ptr 0 0 (Int.toNat i5) 0) (aq_ixo ei35 rfl rfl rfl rfl gc16) rfl (zq tb rfl (AO.weaken (Wk.expel (id := 0) (j := 0) (i := i5) (c := c16) (ys := c16.params) (encY := eI) (x := [(.dv 3 1 (List.map eI c16.params)), (.dv 3 1 (List.map eI c16.lent)), (i64 c16.result), (i64 c16.regs), (.dv 92 6 (List.map (eRInstrD 3 3) c16.code))]) (x' := [(ow 1 0 c16.params), (.dv 3 1 (List.map eI c16.lent)), (i64 c16.result), (i64 c16.regs), (.dv 92 6 (List.map (eRInstrD 3 3) c16.code))]) (st' := [⟨0, 77, 5, hole l6 (eRProcD 3 3 92 3 3) i5 [(ow 1 0 c16.params), (.dv 3 1 (List.map eI c16.lent)), (i64 c16.result), (i64 c16.regs), (.dv 92 6 (List.map (eRInstrD 3 3) c16.code))]⟩, (ro 0 3 1 eI c16.params)]) rfl gc16 rfl rfl rfl rfl rfl) (zz (ow 1 0 c16.params) (aq_ldp ti27 rfl rfl (hole_get gc16) rfl) rfl (zq tb rfl (bs h1 fun q17 gq17 h1 => ?_)))))))))
  refine ao_callsL (rowsP := [⟨0, 3, 1, List.map eI c16.params⟩]) (rows0 := [⟨0, 3, 1, List.map eI c16.params⟩]) (rows1 := [⟨0, 3, 1, List.map eI q17.2⟩]) (rows2 := []) (rows1' := [⟨0, 3, 1, List.map eI q17.2⟩]) (rows2' := []) (st' := [⟨0, 77, 5, hole l6 (eRProcD 3 3 92 3 3) i5 [(.own 1 0 (List.length c16.params)), (.dv 3 1 (List.map eI c16.lent)), (i64 c16.result), (i64 c16.regs), (.dv 92 6 (List.map (eRInstrD 3 3) c16.code))]⟩, ⟨0, 3, 1, List.map eI q17.2⟩]) (v' := (i64 q17.1)) [1] go0 hb29 (laws_markIntS_ok gq17) rfl (by decide) rfl rfl (.pure (pure_map fun _ => rfl) .nil) rfl rfl (.pure (pure_map fun _ => rfl) .nil) .nil rfl rfl (fun hln => ?_)
  have ln18 : List.length q17.2 = List.length c16.params := by simpa only [List.length_map] using hln 0 _ _ rfl rfl rfl
  refine AO.weaken (Wk.take (id := 0) (m := 1) (j := 0) (i := i5) (c := c16) (ys := q17.2) (encY := eI) (x' := [(.dv 3 1 (List.map eI q17.2)), (.dv 3 1 (List.map eI c16.lent)), (i64 c16.result), (i64 c16.regs), (.dv 92 6 (List.map (eRInstrD 3 3) c16.code))]) (st' := [⟨0, 77, 5, hole l6 (eRProcD 3 3 92 3 3) i5 [(.dv 3 1 (List.map eI q17.2)), (.dv 3 1 (List.map eI c16.lent)), (i64 c16.result), (i64 c16.regs), (.dv 92 6 (List.map (eRInstrD 3 3) c16.code))]⟩, ⟨1, 3, 1, []⟩]) rfl gc16 rfl rfl (by first | (simp only [Sh.put_len]; done) | (simp only [Sh.put_len]; omega) | omega) (by decide) (show 1 ≤ 1 by decide) (fun _ => rfl) rfl rfl) ?_
  refine AO.weaken (Wk.filled (id := 0) (i := i5) (u := (RProc.mk q17.2 c16.lent c16.result c16.regs c16.code)) (st' := [(ro 0 77 5 (eRProcD 3 3 92 3 3) (Sh.put l6 i5 (RProc.mk q17.2 c16.lent c16.result c16.regs c16.code))), ⟨1, 3, 1, []⟩]) rfl rfl rfl) (zq tb rfl (dn hK15 rfl (sr rfl fun K19 hK19 => zm tb 2 rfl (bs h1 fun c20 gc20 h1 => ?_))))
  refine zz (.ptr 0 0 (Int.toNat i5) 0) (aq_ixo ei35 rfl rfl rfl (by first | (simp only [Sh.put_len]; done) | (simp only [Sh.put_len]; omega) | omega) gc20) rfl ?_
  refine zq tb rfl (AO.weaken (Wk.expel (id := 0) (j := 1) (i := i5) (c := c20) (ys := c20.lent) (encY := eI) (x := [(.dv 3 1 (List.map eI c20.params)), (.dv 3 1 (List.map eI c20.lent)), (i64 c20.result), (i64 c20.regs), (.dv 92 6 (List.map (eRInstrD 3 3) c20.code))]) (x' := [(.dv 3 1 (List.map eI c20.params)), (ow 2 0 c20.lent), (i64 c20.result), (i64 c20.regs), (.dv 92 6 (List.map (eRInstrD 3 3) c20.code))]) (st' := [⟨0, 77, 5, hole (Sh.put l6 i5 (RProc.mk q17.2 c16.lent c16.result c16.regs c16.code)) (eRProcD 3 3 92 3 3) i5 [(.dv 3 1 (List.map eI c20.params)), (ow 2 0 c20.lent), (i64 c20.result), (i64 c20.regs), (.dv 92 6 (List.map (eRInstrD 3 3) c20.code))]⟩, ⟨1, 3, 1, []⟩, (ro 0 3 1 eI c20.lent)]) rfl gc20 rfl rfl rfl rfl rfl) (zz (ow 2 0 c20.lent) (aq_ldp ti27 rfl rfl (hole_get gc20) rfl) rfl (zq tb rfl (bs h1 fun q21 gq21 h1 => ?_))))
  refine ao_callsL (rowsP := [⟨0, 3, 1, List.map eI c20.lent⟩]) (rows0 := [⟨0, 3, 1, List.map eI c20.lent⟩]) (rows1 := [⟨0, 3, 1, List.map eI q21.2⟩]) (rows2 := []) (rows1' := [⟨0, 3, 1, List.map eI q21.2⟩]) (rows2' := []) (st' := [⟨0, 77, 5, hole (Sh.put l6 i5 (RProc.mk q17.2 c16.lent c16.result c16.regs c16.code)) (eRProcD 3 3 92 3 3) i5 [(.dv 3 1 (List.map eI c20.params)), (.own 2 0 (List.length c20.lent)), (i64 c20.result), (i64 c20.regs), (.dv 92 6 (List.map (eRInstrD 3 3) c20.code))]⟩, ⟨1, 3, 1, []⟩, ⟨0, 3, 1, List.map eI q21.2⟩]) (v' := (i64 q21.1)) [2] go0 hb29 (laws_markIntS_ok gq21) rfl (by decide) rfl rfl (.pure (pure_map fun _ => rfl) .nil) rfl rfl (.pure (pure_map fun _ => rfl) .nil) .nil rfl rfl (fun hln => ?_)
  have ln22 : List.length q21.2 = List.length c20.lent := by simpa only [List.length_map] using hln 0 _ _ rfl rfl rfl
  refine AO.weaken (Wk.take (id := 0) (m := 2) (j := 1) (i := i5) (c := c20) (ys := q21.2) (encY := eI) (x' := [(.dv 3 1 (List.map eI c20.params)), (.dv 3 1 (List.map eI q21.2)), (i64 c20.result), (i64 c20.regs), (.dv 92 6 (List.map (eRInstrD 3 3) c20.code))]) (st' := [⟨0, 77, 5, hole (Sh.put l6 i5 (RProc.mk q17.2 c16.lent c16.result c16.regs c16.code)) (eRProcD 3 3 92 3 3) i5 [(.dv 3 1 (List.map eI c20.params)), (.dv 3 1 (List.map eI q21.2)), (i64 c20.result), (i64 c20.regs), (.dv 92 6 (List.map (eRInstrD 3 3) c20.code))]⟩, ⟨1, 3, 1, []⟩, ⟨1, 3, 1, []⟩]) rfl gc20 rfl rfl (by first | (simp only [Sh.put_len]; done) | (simp only [Sh.put_len]; omega) | omega) (by decide) (show 1 ≤ 2 by decide) (fun _ => rfl) rfl rfl) ?_
  refine AO.weaken (Wk.filled (id := 0) (i := i5) (u := (RProc.mk c20.params q21.2 c20.result c20.regs c20.code)) (st' := [(ro 0 77 5 (eRProcD 3 3 92 3 3) (Sh.put (Sh.put l6 i5 (RProc.mk q17.2 c16.lent c16.result c16.regs c16.code)) i5 (RProc.mk c20.params q21.2 c20.result c20.regs c20.code))), ⟨1, 3, 1, []⟩, ⟨1, 3, 1, []⟩]) rfl rfl rfl) (zq tb rfl (dn hK19 rfl (sr rfl fun K23 hK23 => zm tb 3 rfl (bs h1 fun c24 gc24 h1 => ?_))))
  refine zz (.ptr 0 0 (Int.toNat i5) 0) (aq_ixo ei35 rfl rfl rfl (by first | (simp only [Sh.put_len]; done) | (simp only [Sh.put_len]; omega) | omega) gc24) rfl ?_
  refine zq tb rfl (ao_stl (st' := [(ro 0 77 5 (eRProcD 3 3 92 3 3) (Sh.put (Sh.put (Sh.put l6 i5 (RProc.mk q17.2 c16.lent c16.result c16.regs c16.code)) i5 (RProc.mk c20.params q21.2 c20.result c20.regs c20.code)) i5 (RProc.mk c24.params c24.lent q21.1 c24.regs c24.code))), ⟨1, 3, 1, []⟩, ⟨1, 3, 1, []⟩]) (u' := (RProc.mk c24.params c24.lent q21.1 c24.regs c24.code)) go0 ti3 rfl rfl gc24 rfl rfl rfl (show 2 + 1 ≤ 5 by decide) rfl rfl (dn hK23 rfl (zr tb rfl rfl (sr rfl fun K26 hK26 => zm tb 3 rfl (bs h1 fun c27 gc27 h1 => ?_)))))
  refine zz (.ptr 0 0 (Int.toNat i5) 0) (aq_ixo ei35 rfl rfl rfl (by first | (simp only [Sh.put_len]; done) | (simp only [Sh.put_len]; omega) | omega) gc27) rfl ?_
  refine zq tb rfl (ao_stl (st' := [(ro 0 77 5 (eRProcD 3 3 92 3 3) (Sh.put (Sh.put (Sh.put (Sh.put l6 i5 (RProc.mk q17.2 c16.lent c16.result c16.regs c16.code)) i5 (RProc.mk c20.params q21.2 c20.result c20.regs c20.code)) i5 (RProc.mk c24.params c24.lent q21.1 c24.regs c24.code)) i5 (RProc.mk c27.params c27.lent c27.result (Sh.w (q21.1 + 1)) c27.code))), ⟨1, 3, 1, []⟩, ⟨1, 3, 1, []⟩]) (u' := (RProc.mk c27.params c27.lent c27.result (Sh.w (q21.1 + 1)) c27.code)) go0 ti3 rfl rfl gc27 rfl rfl rfl (show 3 + 1 ≤ 5 by decide) rfl rfl (dn hK26 rfl (zr tb rfl rfl (AW.regionO rfl (zm tb 2 rfl (bs h1 fun c29 gc29 h1 => ?_))))))
  refine zz (.ptr 0 0 (Int.toNat i5) 0) (aq_ixo ei35 rfl rfl rfl (by first | (simp only [Sh.put_len]; done) | (simp only [Sh.put_len]; omega) | omega) gc29) rfl ?_
  refine zq tb rfl (AO.weaken (Wk.expel (id := 0) (j := 4) (i := i5) (c := c29) (ys := c29.code) (encY := (eRInstrD 3 3)) (x := [(.dv 3 1 (List.map eI c29.params)), (.dv 3 1 (List.map eI c29.lent)), (i64 c29.result), (i64 c29.regs), (.dv 92 6 (List.map (eRInstrD 3 3) c29.code))]) (x' := [(.dv 3 1 (List.map eI c29.params)), (.dv 3 1 (List.map eI c29.lent)), (i64 c29.result), (i64 c29.regs), (ow 3 0 c29.code)]) (st' := [⟨0, 77, 5, hole (Sh.put (Sh.put (Sh.put (Sh.put l6 i5 (RProc.mk q17.2 c16.lent c16.result c16.regs c16.code)) i5 (RProc.mk c20.params q21.2 c20.result c20.regs c20.code)) i5 (RProc.mk c24.params c24.lent q21.1 c24.regs c24.code)) i5 (RProc.mk c27.params c27.lent c27.result (Sh.w (q21.1 + 1)) c27.code)) (eRProcD 3 3 92 3 3) i5 [(.dv 3 1 (List.map eI c29.params)), (.dv 3 1 (List.map eI c29.lent)), (i64 c29.result), (i64 c29.regs), (ow 3 0 c29.code)]⟩, ⟨1, 3, 1, []⟩, ⟨1, 3, 1, []⟩, (ro 0 92 6 (eRInstrD 3 3) c29.code)]) rfl gc29 rfl rfl rfl rfl rfl) (zz (ow 3 0 c29.code) (aq_ldp ti75 rfl rfl (hole_get gc29) rfl) rfl (zq tb rfl (bs h1 fun q30 gq30 h1 => ?_))))
  refine ao_callsL (rowsP := [⟨0, 92, 6, List.map (eRInstrD 3 3) c29.code⟩]) (rows0 := [⟨0, 92, 6, List.map (eRInstrD 3 3) c29.code⟩]) (rows1 := [⟨0, 92, 6, List.map (eRInstrD 3 3) q30.2⟩]) (rows2 := []) (rows1' := [⟨0, 92, 6, List.map (eRInstrD 3 3) q30.2⟩]) (rows2' := []) (st' := [⟨0, 77, 5, hole (Sh.put (Sh.put (Sh.put (Sh.put l6 i5 (RProc.mk q17.2 c16.lent c16.result c16.regs c16.code)) i5 (RProc.mk c20.params q21.2 c20.result c20.regs c20.code)) i5 (RProc.mk c24.params c24.lent q21.1 c24.regs c24.code)) i5 (RProc.mk c27.params c27.lent c27.result (Sh.w (q21.1 + 1)) c27.code)) (eRProcD 3 3 92 3 3) i5 [(.dv 3 1 (List.map eI c29.params)), (.dv 3 1 (List.map eI c29.lent)), (i64 c29.result), (i64 c29.regs), (.own 3 0 (List.length c29.code))]⟩, ⟨1, 3, 1, []⟩, ⟨1, 3, 1, []⟩, ⟨0, 92, 6, List.map (eRInstrD 3 3) q30.2⟩]) (v' := (i64 q30.1)) [3] go0 hb51 (laws_markInstrS_ok gq30) rfl (by decide) rfl rfl (.deep (pure_mapD fun _ => rfl) .nil) rfl rfl (.deep (pure_mapD fun _ => rfl) .nil) .nil rfl rfl (fun hln => ?_)
  have ln31 : List.length q30.2 = List.length c29.code := by simpa only [List.length_map] using hln 0 _ _ rfl rfl rfl
  refine AO.weaken (Wk.take (id := 0) (m := 3) (j := 4) (i := i5) (c := c29) (ys := q30.2) (encY := (eRInstrD 3 3)) (x' := [(.dv 3 1 (List.map eI c29.params)), (.dv 3 1 (List.map eI c29.lent)), (i64 c29.result), (i64 c29.regs), (.dv 92 6 (List.map (eRInstrD 3 3) q30.2))]) (st' := [⟨0, 77, 5, hole (Sh.put (Sh.put (Sh.put (Sh.put l6 i5 (RProc.mk q17.2 c16.lent c16.result c16.regs c16.code)) i5 (RProc.mk c20.params q21.2 c20.result c20.regs c20.code)) i5 (RProc.mk c24.params c24.lent q21.1 c24.regs c24.code)) i5 (RProc.mk c27.params c27.lent c27.result (Sh.w (q21.1 + 1)) c27.code)) (eRProcD 3 3 92 3 3) i5 [(.dv 3 1 (List.map eI c29.params)), (.dv 3 1 (List.map eI c29.lent)), (i64 c29.result), (i64 c29.regs), (.dv 92 6 (List.map (eRInstrD 3 3) q30.2))]⟩, ⟨1, 3, 1, []⟩, ⟨1, 3, 1, []⟩, ⟨1, 92, 6, []⟩]) rfl gc29 rfl rfl (by first | (simp only [Sh.put_len]; done) | (simp only [Sh.put_len]; omega) | omega) (by decide) (show 1 ≤ 3 by decide) (fun _ => rfl) rfl rfl) ?_
  refine AO.weaken (Wk.filled (id := 0) (i := i5) (u := (RProc.mk c29.params c29.lent c29.result c29.regs q30.2)) (st' := [(ro 0 77 5 (eRProcD 3 3 92 3 3) (Sh.put (Sh.put (Sh.put (Sh.put (Sh.put l6 i5 (RProc.mk q17.2 c16.lent c16.result c16.regs c16.code)) i5 (RProc.mk c20.params q21.2 c20.result c20.regs c20.code)) i5 (RProc.mk c24.params c24.lent q21.1 c24.regs c24.code)) i5 (RProc.mk c27.params c27.lent c27.result (Sh.w (q21.1 + 1)) c27.code)) i5 (RProc.mk c29.params c29.lent c29.result c29.regs q30.2))), ⟨1, 3, 1, []⟩, ⟨1, 3, 1, []⟩, ⟨1, 92, 6, []⟩]) rfl rfl rfl) (zq tb rfl (dn hK14 rfl (AW.regionO rfl (zm tb 3 rfl ?_))))
  exact AO.done (xi (q30.1, Sh.w (i5 + 1), Sh.put (Sh.put (Sh.put (Sh.put (Sh.put l6 i5 (RProc.mk q17.2 c16.lent c16.result c16.regs c16.code)) i5 (RProc.mk c20.params q21.2 c20.result c20.regs c20.code)) i5 (RProc.mk c24.params c24.lent q21.1 c24.regs c24.code)) i5 (RProc.mk c27.params c27.lent c27.result (Sh.w (q21.1 + 1)) c27.code)) i5 (RProc.mk c29.params c29.lent c29.result c29.regs q30.2)) h1 (by refine Wk.trans (Wk.permk (L := [(0, (.own 0 0 (List.length l6))), (1, (i64 q30.1)), (5, (i64 (Sh.w (i5 + 1))))]) (st' := [⟨0, 77, 5, List.map (eRProcD 3 3 92 3 3) (Sh.put (Sh.put (Sh.put (Sh.put (Sh.put l6 i5 (RProc.mk q17.2 c16.lent c16.result c16.regs c16.code)) i5 (RProc.mk c20.params q21.2 c20.result c20.regs c20.code)) i5 (RProc.mk c24.params c24.lent q21.1 c24.regs c24.code)) i5 (RProc.mk c27.params c27.lent c27.result (Sh.w (q21.1 + 1)) c27.code)) i5 (RProc.mk c29.params c29.lent c29.result c29.regs q30.2))⟩]) (st1 := [⟨0, 77, 5, List.map (eRProcD 3 3 92 3 3) (Sh.put (Sh.put (Sh.put (Sh.put (Sh.put l6 i5 (RProc.mk q17.2 c16.lent c16.result c16.regs c16.code)) i5 (RProc.mk c20.params q21.2 c20.result c20.regs c20.code)) i5 (RProc.mk c24.params c24.lent q21.1 c24.regs c24.code)) i5 (RProc.mk c27.params c27.lent c27.result (Sh.w (q21.1 + 1)) c27.code)) i5 (RProc.mk c29.params c29.lent c29.result c29.regs q30.2))⟩]) [0] rfl (.deep (pure_mapD fun _ => rfl) .nil) (by decide) rfl rfl (.deep (pure_mapD fun _ => rfl) .nil) ⟨.rfl, .rfl, .rfl, trivial⟩) ?_; exact Wk.to (L := [(0, (.own 0 0 (List.length (Sh.put (Sh.put (Sh.put (Sh.put (Sh.put l6 i5 (RProc.mk q17.2 c16.lent c16.result c16.regs c16.code)) i5 (RProc.mk c20.params q21.2 c20.result c20.regs c20.code)) i5 (RProc.mk c24.params c24.lent q21.1 c24.regs c24.code)) i5 (RProc.mk c27.params c27.lent c27.result (Sh.w (q21.1 + 1)) c27.code)) i5 (RProc.mk c29.params c29.lent c29.result c29.regs q30.2))))), (1, (i64 q30.1)), (5, (i64 (Sh.w (i5 + 1))))]) ⟨(.len (by first | (simp only [Sh.put_len]; done) | (simp only [Sh.put_len]; omega) | omega)), .rfl, .rfl, trivial⟩))
 ·intro b13 h1
  exact AW.exit (M9 k4 l6 (Sh.some_eq h1).symm _ (Wk.tr rfl))
theorem laws_markImage_ok {N : Nat} {s0 : (List RDecl)} {s1 : (List RProc)} {p1 : Int} {r : Int × (List RDecl) × (List RProc)} (h0 : laws_markImage N s0 s1 p1 = some r) : ACalls Try.prog 10 [(.agg [(ow 0 0 s0), (ow 1 0 s1)]), (i64 p1)] [(ro 0 83 3 (eRDeclD 128 3) s0), (ro 0 77 5 (eRProcD 3 3 92 3 3) s1)] (fun v st => v = (i64 r.1) ∧ st = [(ro 0 83 3 (eRDeclD 128 3) r.2.1), (ro 0 77 5 (eRProcD 3 3 92 3 3) r.2.2)]) := by
 unfold laws_markImage at h0
 refine ai Try.func10 rfl rfl rfl rfl (sr rfl fun K1 hK1 => ao_box (m := 2) (st' := [(ro 0 83 3 (eRDeclD 128 3) s0), (ro 0 77 5 (eRProcD 3 3 92 3 3) s1), ⟨0, 37, 2, [[(ow 0 0 s0), (ow 1 0 s1)]]⟩]) go0 rfl rfl rfl rfl rfl (zq tb rfl (dn hK1 rfl (sr rfl fun K2 hK2 => zm tb 3 rfl (bs h0 fun q3 gq3 h0 => ?_)))))
 refine ao_callsL (rowsP := [⟨0, 83, 3, List.map (eRDeclD 128 3) s0⟩]) (rows0 := [⟨0, 83, 3, List.map (eRDeclD 128 3) s0⟩]) (rows1 := [⟨0, 83, 3, List.map (eRDeclD 128 3) q3.2⟩]) (rows2 := []) (rows1' := [⟨0, 83, 3, List.map (eRDeclD 128 3) q3.2⟩]) (rows2' := []) (st' := [⟨0, 83, 3, List.map (eRDeclD 128 3) q3.2⟩, ⟨0, 77, 5, List.map (eRProcD 3 3 92 3 3) s1⟩, ⟨0, 37, 2, [[(.own 0 0 (List.length s0)), (.own 1 0 (List.length s1))]]⟩]) (v' := (i64 q3.1)) [0] go0 hb27 (laws_markDeclS_ok gq3) rfl (by decide) rfl rfl (.deep (pure_mapD fun _ => rfl) .nil) rfl rfl (.deep (pure_mapD fun _ => rfl) .nil) .nil rfl rfl (fun hln => ?_)
 have ln4 : List.length q3.2 = List.length s0 := by simpa only [List.length_map] using hln 0 _ _ rfl rfl rfl
 refine zq tb rfl (dn hK2 rfl (sr rfl fun K5 hK5 => zm tb 3 rfl (bs h0 fun q6 gq6 h0 => ?_)))
 refine ao_callsL (rowsP := [⟨0, 77, 5, List.map (eRProcD 3 3 92 3 3) s1⟩]) (rows0 := [⟨0, 77, 5, List.map (eRProcD 3 3 92 3 3) s1⟩]) (rows1 := [⟨0, 77, 5, List.map (eRProcD 3 3 92 3 3) q6.2⟩]) (rows2 := []) (rows1' := [⟨0, 77, 5, List.map (eRProcD 3 3 92 3 3) q6.2⟩]) (rows2' := []) (st' := [⟨0, 83, 3, List.map (eRDeclD 128 3) q3.2⟩, ⟨0, 77, 5, List.map (eRProcD 3 3 92 3 3) q6.2⟩, ⟨0, 37, 2, [[(.own 0 0 (List.length s0)), (.own 1 0 (List.length s1))]]⟩]) (v' := (i64 q6.1)) [1] go0 hb28 (laws_markProcS_ok gq6) rfl (by decide) rfl rfl (.deep (pure_mapD fun _ => rfl) .nil) rfl rfl (.deep (pure_mapD fun _ => rfl) .nil) .nil rfl rfl (fun hln => ?_)
 have ln7 : List.length q6.2 = List.length s1 := by simpa only [List.length_map] using hln 0 _ _ rfl rfl rfl
 refine zq tb rfl (dn hK5 rfl (zr tb rfl rfl ?_))
 replace h0 := Sh.some_eq h0
 subst r
 exact AW.ret (Exists.intro _ (And.intro (((Wk.steq (st := [⟨0, 83, 3, List.map (eRDeclD 128 3) q3.2⟩, ⟨0, 77, 5, List.map (eRProcD 3 3 92 3 3) q6.2⟩, ⟨0, 37, 2, [[(.own 0 0 (List.length s0)), (.own 1 0 (List.length s1))]]⟩]) (st' := [⟨0, 83, 3, List.map (eRDeclD 128 3) q3.2⟩, ⟨0, 77, 5, List.map (eRProcD 3 3 92 3 3) q6.2⟩, ⟨0, 37, 2, [[(.own 0 0 (List.length q3.2)), (.own 1 0 (List.length q6.2))]]⟩]) (by first | (simp only [Sh.put_len]; done) | simp only [Sh.put_len, ln4, ln7] | simp only [ln4, ln7])).trans (Wk.permk (L := [(4, (i64 q6.1))]) (st' := [⟨0, 83, 3, List.map (eRDeclD 128 3) q3.2⟩, ⟨0, 77, 5, List.map (eRProcD 3 3 92 3 3) q6.2⟩]) (st1 := [⟨0, 83, 3, List.map (eRDeclD 128 3) q3.2⟩, ⟨0, 77, 5, List.map (eRProcD 3 3 92 3 3) q6.2⟩]) [0, 1] rfl (.deep (pure_mapD fun _ => rfl) (.deep (pure_mapD fun _ => rfl) .nil)) (by decide) rfl rfl (.deep (pure_mapD fun _ => rfl) (.deep (pure_mapD fun _ => rfl) .nil)) ⟨.rfl, trivial⟩)).trans (Wk.to (L := [(4, (i64 q6.1))]) ⟨.rfl, trivial⟩)) (And.intro rfl rfl)))
theorem laws_markCellS_ok {N : Nat} {s0 : (List Cell)} {p1 : Int} {r : Int × (List Cell)} (h0 : laws_markCellS N s0 p1 = some r) : ACalls Try.prog 30 [(ow 0 0 s0), (i64 p1)] [(ro 0 97 3 (eCellD 3) s0)] (fun v st => v = (i64 r.1) ∧ st = [(ro 0 97 3 (eCellD 3) r.2)]) := by
 unfold laws_markCellS at h0
 refine ai Try.func30 rfl rfl rfl rfl (zr tb rfl rfl (AW.seq fun K2 hK2 => zr tb rfl rfl (bs h0 fun o9 h1 h0 => ?_)))
 have M9 : ∀ (k7 : Int) (l8 : (List Cell)), o9 = (k7, l8) → ∀ s, Wk 1 s ⟨34, envL [(1, (i64 k7))], [(ro 0 97 3 (eCellD 3) l8)]⟩ → K2 s := by
  intro k7 l8 hq s hw
  subst o9
  try dsimp only at h0
  refine hK2 _ (AW.weaken hw (zr tb rfl rfl ?_))
  replace h0 := Sh.some_eq h0
  subst r
  exact AW.ret (xr (Wk.to (L := [(4, (i64 k7))]) ⟨.rfl, trivial⟩))
 refine AW.block (AW.loopF (σ := Int × Int × (List Cell)) (fun n v => laws_markCellS_L1 N n v.1 v.2.1 v.2.2 = some o9) (fun (k4, i5, l6) => ⟨34, envL [(0, (ow 0 0 l6)), (1, (i64 k4)), (5, (i64 i5))], [(ro 0 97 3 (eCellD 3) l6)]⟩) N (p1, 0, s0) h1 (Wk.tr rfl) (fun _ hv => by rw [laws_markCellS_L1] at hv; cases hv) ?_)
 rintro n ⟨k4, i5, l6⟩ h1
 try dsimp only at h1 ⊢
 rw [laws_markCellS_L1] at h1
 refine AW.seq fun K11 hK11 => sr rfl fun K12 hK12 => zm tb 2 rfl (zz (i64 (Sh.len l6)) (aq_leno sl28 rfl rfl rfl) rfl (zq tb rfl (dn hK12 rfl ?_)))
 refine ci h1 rfl ?_ ?_ <;> clear h1
 ·intro b13 h1
  refine AW.skip (hK11 _ (AW.seq fun K14 hK14 => AW.block (sr rfl fun K15 hK15 => zm tb 3 rfl (bs h1 fun c16 gc16 h1 => zz (.ptr 0 0 (Int.toNat i5) 0) (aq_ixo ei28 rfl rfl rfl rfl gc16) rfl (zq tb rfl (ao_stl (st' := [(ro 0 97 3 (eCellD 3) (Sh.put l6 i5 (Cell.mk k4 c16.tag c16.fields)))]) (u' := (Cell.mk k4 c16.tag c16.fields)) go0 ti3 rfl rfl gc16 rfl rfl rfl (show 0 + 1 ≤ 3 by decide) rfl rfl (dn hK15 rfl (zr tb rfl rfl (sr rfl fun K18 hK18 => ?_)))))))))
  refine zm tb 3 rfl (bs h1 fun c19 gc19 h1 => ?_)
  refine zz (.ptr 0 0 (Int.toNat i5) 0) (aq_ixo ei28 rfl rfl rfl (by simp only [Sh.put_len]) gc19) rfl ?_
  refine zq tb rfl (ao_stl (st' := [(ro 0 97 3 (eCellD 3) (Sh.put (Sh.put l6 i5 (Cell.mk k4 c16.tag c16.fields)) i5 (Cell.mk c19.count (Sh.w (k4 + 1)) c19.fields)))]) (u' := (Cell.mk c19.count (Sh.w (k4 + 1)) c19.fields)) go0 ti3 rfl rfl gc19 rfl rfl rfl (show 1 + 1 ≤ 3 by decide) rfl rfl (dn hK18 rfl (zr tb rfl rfl (AW.regionO rfl (zm tb 2 rfl (bs h1 fun c21 gc21 h1 => ?_))))))
  refine zz (.ptr 0 0 (Int.toNat i5) 0) (aq_ixo ei28 rfl rfl rfl (by simp only [Sh.put_len]) gc21) rfl ?_
  refine zq tb rfl (AO.weaken (Wk.expel (id := 0) (j := 2) (i := i5) (c := c21) (ys := c21.fields) (encY := eI) (x := [(i64 c21.count), (i64 c21.tag), (.dv 3 1 (List.map eI c21.fields))]) (x' := [(i64 c21.count), (i64 c21.tag), (ow 1 0 c21.fields)]) (st' := [⟨0, 97, 3, hole (Sh.put (Sh.put l6 i5 (Cell.mk k4 c16.tag c16.fields)) i5 (Cell.mk c19.count (Sh.w (k4 + 1)) c19.fields)) (eCellD 3) i5 [(i64 c21.count), (i64 c21.tag), (ow 1 0 c21.fields)]⟩, (ro 0 3 1 eI c21.fields)]) rfl gc21 rfl rfl rfl rfl rfl) (zz (ow 1 0 c21.fields) (aq_ldp ti27 rfl rfl (hole_get gc21) rfl) rfl (zq tb rfl (bs h1 fun q22 gq22 h1 => ?_))))
  refine ao_callsL (rowsP := [⟨0, 3, 1, List.map eI c21.fields⟩]) (rows0 := [⟨0, 3, 1, List.map eI c21.fields⟩]) (rows1 := [⟨0, 3, 1, List.map eI q22.2⟩]) (rows2 := []) (rows1' := [⟨0, 3, 1, List.map eI q22.2⟩]) (rows2' := []) (st' := [⟨0, 97, 3, hole (Sh.put (Sh.put l6 i5 (Cell.mk k4 c16.tag c16.fields)) i5 (Cell.mk c19.count (Sh.w (k4 + 1)) c19.fields)) (eCellD 3) i5 [(i64 c21.count), (i64 c21.tag), (.own 1 0 (List.length c21.fields))]⟩, ⟨0, 3, 1, List.map eI q22.2⟩]) (v' := (i64 q22.1)) [1] go0 hb29 (laws_markIntS_ok gq22) rfl (by decide) rfl rfl (.pure (pure_map fun _ => rfl) .nil) rfl rfl (.pure (pure_map fun _ => rfl) .nil) .nil rfl rfl (fun hln => ?_)
  have ln23 : List.length q22.2 = List.length c21.fields := by simpa only [List.length_map] using hln 0 _ _ rfl rfl rfl
  refine AO.weaken (Wk.take (id := 0) (m := 1) (j := 2) (i := i5) (c := c21) (ys := q22.2) (encY := eI) (x' := [(i64 c21.count), (i64 c21.tag), (.dv 3 1 (List.map eI q22.2))]) (st' := [⟨0, 97, 3, hole (Sh.put (Sh.put l6 i5 (Cell.mk k4 c16.tag c16.fields)) i5 (Cell.mk c19.count (Sh.w (k4 + 1)) c19.fields)) (eCellD 3) i5 [(i64 c21.count), (i64 c21.tag), (.dv 3 1 (List.map eI q22.2))]⟩, ⟨1, 3, 1, []⟩]) rfl gc21 rfl rfl (by first | (simp only [Sh.put_len]; done) | (simp only [Sh.put_len]; omega) | omega) (by decide) (show 1 ≤ 1 by decide) (fun _ => rfl) rfl rfl) ?_
  refine AO.weaken (Wk.filled (id := 0) (i := i5) (u := (Cell.mk c21.count c21.tag q22.2)) (st' := [(ro 0 97 3 (eCellD 3) (Sh.put (Sh.put (Sh.put l6 i5 (Cell.mk k4 c16.tag c16.fields)) i5 (Cell.mk c19.count (Sh.w (k4 + 1)) c19.fields)) i5 (Cell.mk c21.count c21.tag q22.2))), ⟨1, 3, 1, []⟩]) rfl rfl rfl) (zq tb rfl (dn hK14 rfl (AW.regionO rfl (zm tb 3 rfl ?_))))
  exact AO.done (xi (q22.1, Sh.w (i5 + 1), Sh.put (Sh.put (Sh.put l6 i5 (Cell.mk k4 c16.tag c16.fields)) i5 (Cell.mk c19.count (Sh.w (k4 + 1)) c19.fields)) i5 (Cell.mk c21.count c21.tag q22.2)) h1 (by refine Wk.trans (Wk.permk (L := [(0, (.own 0 0 (List.length l6))), (1, (i64 q22.1)), (5, (i64 (Sh.w (i5 + 1))))]) (st' := [⟨0, 97, 3, List.map (eCellD 3) (Sh.put (Sh.put (Sh.put l6 i5 (Cell.mk k4 c16.tag c16.fields)) i5 (Cell.mk c19.count (Sh.w (k4 + 1)) c19.fields)) i5 (Cell.mk c21.count c21.tag q22.2))⟩]) (st1 := [⟨0, 97, 3, List.map (eCellD 3) (Sh.put (Sh.put (Sh.put l6 i5 (Cell.mk k4 c16.tag c16.fields)) i5 (Cell.mk c19.count (Sh.w (k4 + 1)) c19.fields)) i5 (Cell.mk c21.count c21.tag q22.2))⟩]) [0] rfl (.deep (pure_mapD fun _ => rfl) .nil) (by decide) rfl rfl (.deep (pure_mapD fun _ => rfl) .nil) ⟨.rfl, .rfl, .rfl, trivial⟩) ?_; exact Wk.to (L := [(0, (.own 0 0 (List.length (Sh.put (Sh.put (Sh.put l6 i5 (Cell.mk k4 c16.tag c16.fields)) i5 (Cell.mk c19.count (Sh.w (k4 + 1)) c19.fields)) i5 (Cell.mk c21.count c21.tag q22.2))))), (1, (i64 q22.1)), (5, (i64 (Sh.w (i5 + 1))))]) ⟨(.len (by first | (simp only [Sh.put_len]; done) | (simp only [Sh.put_len]; omega) | omega)), .rfl, .rfl, trivial⟩))
 ·intro b13 h1
  exact AW.exit (M9 k4 l6 (Sh.some_eq h1).symm _ (Wk.tr rfl))
theorem laws_markFrameS_ok {N : Nat} {s0 : (List RFrame)} {p1 : Int} {r : Int × (List RFrame)} (h0 : laws_markFrameS N s0 p1 = some r) : ACalls Try.prog 31 [(ow 0 0 s0), (i64 p1)] [(ro 0 79 6 (eRFrameD 3 3 3) s0)] (fun v st => v = (i64 r.1) ∧ st = [(ro 0 79 6 (eRFrameD 3 3 3) r.2)]) := by
 unfold laws_markFrameS at h0
 refine ai Try.func31 rfl rfl rfl rfl (zr tb rfl rfl (AW.seq fun K2 hK2 => zr tb rfl rfl (bs h0 fun o9 h1 h0 => ?_)))
 have M9 : ∀ (k7 : Int) (l8 : (List RFrame)), o9 = (k7, l8) → ∀ s, Wk 1 s ⟨55, envL [(1, (i64 k7))], [(ro 0 79 6 (eRFrameD 3 3 3) l8)]⟩ → K2 s := by
  intro k7 l8 hq s hw
  subst o9
  try dsimp only at h0
  refine hK2 _ (AW.weaken hw (zr tb rfl rfl ?_))
  replace h0 := Sh.some_eq h0
  subst r
  exact AW.ret (xr (Wk.to (L := [(4, (i64 k7))]) ⟨.rfl, trivial⟩))
 refine AW.block (AW.loopF (σ := Int × Int × (List RFrame)) (fun n v => laws_markFrameS_L1 N n v.1 v.2.1 v.2.2 = some o9) (fun (k4, i5, l6) => ⟨55, envL [(0, (ow 0 0 l6)), (1, (i64 k4)), (5, (i64 i5))], [(ro 0 79 6 (eRFrameD 3 3 3) l6)]⟩) N (p1, 0, s0) h1 (Wk.tr rfl) (fun _ hv => by rw [laws_markFrameS_L1] at hv; cases hv) ?_)
 rintro n ⟨k4, i5, l6⟩ h1
 try dsimp only at h1 ⊢
 rw [laws_markFrameS_L1] at h1
 refine AW.seq fun K11 hK11 => sr rfl fun K12 hK12 => zm tb 2 rfl (zz (i64 (Sh.len l6)) (aq_leno sl29 rfl rfl rfl) rfl (zq tb rfl (dn hK12 rfl ?_)))
 refine ci h1 rfl ?_ ?_ <;> clear h1
 ·intro b13 h1
  refine AW.skip (hK11 _ (AW.seq fun K14 hK14 => AW.block (sr rfl fun K15 hK15 => zm tb 3 rfl (bs h1 fun c16 gc16 h1 => zz (.ptr 0 0 (Int.toNat i5) 0) (aq_ixo ei29 rfl rfl rfl rfl gc16) rfl (zq tb rfl (ao_stl (st' := [(ro 0 79 6 (eRFrameD 3 3 3) (Sh.put l6 i5 (RFrame.mk k4 c16.at_ c16.dst c16.regs c16.own c16.held)))]) (u' := (RFrame.mk k4 c16.at_ c16.dst c16.regs c16.own c16.held)) go0 ti3 rfl rfl gc16 rfl rfl rfl (show 0 + 1 ≤ 6 by decide) rfl rfl (dn hK15 rfl (zr tb rfl rfl (sr rfl fun K18 hK18 => ?_)))))))))
  refine zm tb 3 rfl (bs h1 fun c19 gc19 h1 => ?_)
  refine zz (.ptr 0 0 (Int.toNat i5) 0) (aq_ixo ei29 rfl rfl rfl (by simp only [Sh.put_len]) gc19) rfl ?_
  refine zq tb rfl (ao_stl (st' := [(ro 0 79 6 (eRFrameD 3 3 3) (Sh.put (Sh.put l6 i5 (RFrame.mk k4 c16.at_ c16.dst c16.regs c16.own c16.held)) i5 (RFrame.mk c19.proc (Sh.w (k4 + 1)) c19.dst c19.regs c19.own c19.held)))]) (u' := (RFrame.mk c19.proc (Sh.w (k4 + 1)) c19.dst c19.regs c19.own c19.held)) go0 ti3 rfl rfl gc19 rfl rfl rfl (show 1 + 1 ≤ 6 by decide) rfl rfl (dn hK18 rfl (zr tb rfl rfl (sr rfl fun K21 hK21 => zm tb 3 rfl (bs h1 fun c22 gc22 h1 => ?_)))))
  refine zz (.ptr 0 0 (Int.toNat i5) 0) (aq_ixo ei29 rfl rfl rfl (by simp only [Sh.put_len]) gc22) rfl ?_
  refine zq tb rfl (ao_stl (st' := [(ro 0 79 6 (eRFrameD 3 3 3) (Sh.put (Sh.put (Sh.put l6 i5 (RFrame.mk k4 c16.at_ c16.dst c16.regs c16.own c16.held)) i5 (RFrame.mk c19.proc (Sh.w (k4 + 1)) c19.dst c19.regs c19.own c19.held)) i5 (RFrame.mk c22.proc c22.at_ (Sh.w ((Sh.w (k4 + 1)) + 1)) c22.regs c22.own c22.held)))]) (u' := (RFrame.mk c22.proc c22.at_ (Sh.w ((Sh.w (k4 + 1)) + 1)) c22.regs c22.own c22.held)) go0 ti3 rfl rfl gc22 rfl rfl rfl (show 2 + 1 ≤ 6 by decide) rfl rfl (dn hK21 rfl (zr tb rfl rfl (sr rfl fun K24 hK24 => zm tb 2 rfl (bs h1 fun c25 gc25 h1 => ?_)))))
  refine zz (.ptr 0 0 (Int.toNat i5) 0) (aq_ixo ei29 rfl rfl rfl (by simp only [Sh.put_len]) gc25) rfl ?_
  refine zq tb rfl (AO.weaken (Wk.expel (id := 0) (j := 3) (i := i5) (c := c25) (ys := c25.regs) (encY := eI) (x := [(i64 c25.proc), (i64 c25.at_), (i64 c25.dst), (.dv 3 1 (List.map eI c25.regs)), (.dv 3 1 (List.map eI c25.own)), (.dv 3 1 (List.map eI c25.held))]) (x' := [(i64 c25.proc), (i64 c25.at_), (i64 c25.dst), (ow 1 0 c25.regs), (.dv 3 1 (List.map eI c25.own)), (.dv 3 1 (List.map eI c25.held))]) (st' := [⟨0, 79, 6, hole (Sh.put (Sh.put (Sh.put l6 i5 (RFrame.mk k4 c16.at_ c16.dst c16.regs c16.own c16.held)) i5 (RFrame.mk c19.proc (Sh.w (k4 + 1)) c19.dst c19.regs c19.own c19.held)) i5 (RFrame.mk c22.proc c22.at_ (Sh.w ((Sh.w (k4 + 1)) + 1)) c22.regs c22.own c22.held)) (eRFrameD 3 3 3) i5 [(i64 c25.proc), (i64 c25.at_), (i64 c25.dst), (ow 1 0 c25.regs), (.dv 3 1 (List.map eI c25.own)), (.dv 3 1 (List.map eI c25.held))]⟩, (ro 0 3 1 eI c25.regs)]) rfl gc25 rfl rfl rfl rfl rfl) (zz (ow 1 0 c25.regs) (aq_ldp ti27 rfl rfl (hole_get gc25) rfl) rfl (zq tb rfl (bs h1 fun q26 gq26 h1 => ?_))))
  refine ao_callsL (rowsP := [⟨0, 3, 1, List.map eI c25.regs⟩]) (rows0 := [⟨0, 3, 1, List.map eI c25.regs⟩]) (rows1 := [⟨0, 3, 1, List.map eI q26.2⟩]) (rows2 := []) (rows1' := [⟨0, 3, 1, List.map eI q26.2⟩]) (rows2' := []) (st' := [⟨0, 79, 6, hole (Sh.put (Sh.put (Sh.put l6 i5 (RFrame.mk k4 c16.at_ c16.dst c16.regs c16.own c16.held)) i5 (RFrame.mk c19.proc (Sh.w (k4 + 1)) c19.dst c19.regs c19.own c19.held)) i5 (RFrame.mk c22.proc c22.at_ (Sh.w ((Sh.w (k4 + 1)) + 1)) c22.regs c22.own c22.held)) (eRFrameD 3 3 3) i5 [(i64 c25.proc), (i64 c25.at_), (i64 c25.dst), (.own 1 0 (List.length c25.regs)), (.dv 3 1 (List.map eI c25.own)), (.dv 3 1 (List.map eI c25.held))]⟩, ⟨0, 3, 1, List.map eI q26.2⟩]) (v' := (i64 q26.1)) [1] go0 hb29 (laws_markIntS_ok gq26) rfl (by decide) rfl rfl (.pure (pure_map fun _ => rfl) .nil) rfl rfl (.pure (pure_map fun _ => rfl) .nil) .nil rfl rfl (fun hln => ?_)
  have ln27 : List.length q26.2 = List.length c25.regs := by simpa only [List.length_map] using hln 0 _ _ rfl rfl rfl
  refine AO.weaken (Wk.take (id := 0) (m := 1) (j := 3) (i := i5) (c := c25) (ys := q26.2) (encY := eI) (x' := [(i64 c25.proc), (i64 c25.at_), (i64 c25.dst), (.dv 3 1 (List.map eI q26.2)), (.dv 3 1 (List.map eI c25.own)), (.dv 3 1 (List.map eI c25.held))]) (st' := [⟨0, 79, 6, hole (Sh.put (Sh.put (Sh.put l6 i5 (RFrame.mk k4 c16.at_ c16.dst c16.regs c16.own c16.held)) i5 (RFrame.mk c19.proc (Sh.w (k4 + 1)) c19.dst c19.regs c19.own c19.held)) i5 (RFrame.mk c22.proc c22.at_ (Sh.w ((Sh.w (k4 + 1)) + 1)) c22.regs c22.own c22.held)) (eRFrameD 3 3 3) i5 [(i64 c25.proc), (i64 c25.at_), (i64 c25.dst), (.dv 3 1 (List.map eI q26.2)), (.dv 3 1 (List.map eI c25.own)), (.dv 3 1 (List.map eI c25.held))]⟩, ⟨1, 3, 1, []⟩]) rfl gc25 rfl rfl (by first | (simp only [Sh.put_len]; done) | (simp only [Sh.put_len]; omega) | omega) (by decide) (show 1 ≤ 1 by decide) (fun _ => rfl) rfl rfl) ?_
  refine AO.weaken (Wk.filled (id := 0) (i := i5) (u := (RFrame.mk c25.proc c25.at_ c25.dst q26.2 c25.own c25.held)) (st' := [(ro 0 79 6 (eRFrameD 3 3 3) (Sh.put (Sh.put (Sh.put (Sh.put l6 i5 (RFrame.mk k4 c16.at_ c16.dst c16.regs c16.own c16.held)) i5 (RFrame.mk c19.proc (Sh.w (k4 + 1)) c19.dst c19.regs c19.own c19.held)) i5 (RFrame.mk c22.proc c22.at_ (Sh.w ((Sh.w (k4 + 1)) + 1)) c22.regs c22.own c22.held)) i5 (RFrame.mk c25.proc c25.at_ c25.dst q26.2 c25.own c25.held))), ⟨1, 3, 1, []⟩]) rfl rfl rfl) (zq tb rfl (dn hK24 rfl (sr rfl fun K28 hK28 => zm tb 2 rfl (bs h1 fun c29 gc29 h1 => ?_))))
  refine zz (.ptr 0 0 (Int.toNat i5) 0) (aq_ixo ei29 rfl rfl rfl (by first | (simp only [Sh.put_len]; done) | (simp only [Sh.put_len]; omega) | omega) gc29) rfl ?_
  refine zq tb rfl (AO.weaken (Wk.expel (id := 0) (j := 4) (i := i5) (c := c29) (ys := c29.own) (encY := eI) (x := [(i64 c29.proc), (i64 c29.at_), (i64 c29.dst), (.dv 3 1 (List.map eI c29.regs)), (.dv 3 1 (List.map eI c29.own)), (.dv 3 1 (List.map eI c29.held))]) (x' := [(i64 c29.proc), (i64 c29.at_), (i64 c29.dst), (.dv 3 1 (List.map eI c29.regs)), (ow 2 0 c29.own), (.dv 3 1 (List.map eI c29.held))]) (st' := [⟨0, 79, 6, hole (Sh.put (Sh.put (Sh.put (Sh.put l6 i5 (RFrame.mk k4 c16.at_ c16.dst c16.regs c16.own c16.held)) i5 (RFrame.mk c19.proc (Sh.w (k4 + 1)) c19.dst c19.regs c19.own c19.held)) i5 (RFrame.mk c22.proc c22.at_ (Sh.w ((Sh.w (k4 + 1)) + 1)) c22.regs c22.own c22.held)) i5 (RFrame.mk c25.proc c25.at_ c25.dst q26.2 c25.own c25.held)) (eRFrameD 3 3 3) i5 [(i64 c29.proc), (i64 c29.at_), (i64 c29.dst), (.dv 3 1 (List.map eI c29.regs)), (ow 2 0 c29.own), (.dv 3 1 (List.map eI c29.held))]⟩, ⟨1, 3, 1, []⟩, (ro 0 3 1 eI c29.own)]) rfl gc29 rfl rfl rfl rfl rfl) (zz (ow 2 0 c29.own) (aq_ldp ti27 rfl rfl (hole_get gc29) rfl) rfl (zq tb rfl (bs h1 fun q30 gq30 h1 => ?_))))
  refine ao_callsL (rowsP := [⟨0, 3, 1, List.map eI c29.own⟩]) (rows0 := [⟨0, 3, 1, List.map eI c29.own⟩]) (rows1 := [⟨0, 3, 1, List.map eI q30.2⟩]) (rows2 := []) (rows1' := [⟨0, 3, 1, List.map eI q30.2⟩]) (rows2' := []) (st' := [⟨0, 79, 6, hole (Sh.put (Sh.put (Sh.put (Sh.put l6 i5 (RFrame.mk k4 c16.at_ c16.dst c16.regs c16.own c16.held)) i5 (RFrame.mk c19.proc (Sh.w (k4 + 1)) c19.dst c19.regs c19.own c19.held)) i5 (RFrame.mk c22.proc c22.at_ (Sh.w ((Sh.w (k4 + 1)) + 1)) c22.regs c22.own c22.held)) i5 (RFrame.mk c25.proc c25.at_ c25.dst q26.2 c25.own c25.held)) (eRFrameD 3 3 3) i5 [(i64 c29.proc), (i64 c29.at_), (i64 c29.dst), (.dv 3 1 (List.map eI c29.regs)), (.own 2 0 (List.length c29.own)), (.dv 3 1 (List.map eI c29.held))]⟩, ⟨1, 3, 1, []⟩, ⟨0, 3, 1, List.map eI q30.2⟩]) (v' := (i64 q30.1)) [2] go0 hb29 (laws_markIntS_ok gq30) rfl (by decide) rfl rfl (.pure (pure_map fun _ => rfl) .nil) rfl rfl (.pure (pure_map fun _ => rfl) .nil) .nil rfl rfl (fun hln => ?_)
  have ln31 : List.length q30.2 = List.length c29.own := by simpa only [List.length_map] using hln 0 _ _ rfl rfl rfl
  refine AO.weaken (Wk.take (id := 0) (m := 2) (j := 4) (i := i5) (c := c29) (ys := q30.2) (encY := eI) (x' := [(i64 c29.proc), (i64 c29.at_), (i64 c29.dst), (.dv 3 1 (List.map eI c29.regs)), (.dv 3 1 (List.map eI q30.2)), (.dv 3 1 (List.map eI c29.held))]) (st' := [⟨0, 79, 6, hole (Sh.put (Sh.put (Sh.put (Sh.put l6 i5 (RFrame.mk k4 c16.at_ c16.dst c16.regs c16.own c16.held)) i5 (RFrame.mk c19.proc (Sh.w (k4 + 1)) c19.dst c19.regs c19.own c19.held)) i5 (RFrame.mk c22.proc c22.at_ (Sh.w ((Sh.w (k4 + 1)) + 1)) c22.regs c22.own c22.held)) i5 (RFrame.mk c25.proc c25.at_ c25.dst q26.2 c25.own c25.held)) (eRFrameD 3 3 3) i5 [(i64 c29.proc), (i64 c29.at_), (i64 c29.dst), (.dv 3 1 (List.map eI c29.regs)), (.dv 3 1 (List.map eI q30.2)), (.dv 3 1 (List.map eI c29.held))]⟩, ⟨1, 3, 1, []⟩, ⟨1, 3, 1, []⟩]) rfl gc29 rfl rfl (by first | (simp only [Sh.put_len]; done) | (simp only [Sh.put_len]; omega) | omega) (by decide) (show 1 ≤ 2 by decide) (fun _ => rfl) rfl rfl) ?_
  refine AO.weaken (Wk.filled (id := 0) (i := i5) (u := (RFrame.mk c29.proc c29.at_ c29.dst c29.regs q30.2 c29.held)) (st' := [(ro 0 79 6 (eRFrameD 3 3 3) (Sh.put (Sh.put (Sh.put (Sh.put (Sh.put l6 i5 (RFrame.mk k4 c16.at_ c16.dst c16.regs c16.own c16.held)) i5 (RFrame.mk c19.proc (Sh.w (k4 + 1)) c19.dst c19.regs c19.own c19.held)) i5 (RFrame.mk c22.proc c22.at_ (Sh.w ((Sh.w (k4 + 1)) + 1)) c22.regs c22.own c22.held)) i5 (RFrame.mk c25.proc c25.at_ c25.dst q26.2 c25.own c25.held)) i5 (RFrame.mk c29.proc c29.at_ c29.dst c29.regs q30.2 c29.held))), ⟨1, 3, 1, []⟩, ⟨1, 3, 1, []⟩]) rfl rfl rfl) (zq tb rfl (dn hK28 rfl (AW.regionO rfl (zm tb 2 rfl (bs h1 fun c32 gc32 h1 => ?_)))))
  refine zz (.ptr 0 0 (Int.toNat i5) 0) (aq_ixo ei29 rfl rfl rfl (by first | (simp only [Sh.put_len]; done) | (simp only [Sh.put_len]; omega) | omega) gc32) rfl ?_
  refine zq tb rfl (AO.weaken (Wk.expel (id := 0) (j := 5) (i := i5) (c := c32) (ys := c32.held) (encY := eI) (x := [(i64 c32.proc), (i64 c32.at_), (i64 c32.dst), (.dv 3 1 (List.map eI c32.regs)), (.dv 3 1 (List.map eI c32.own)), (.dv 3 1 (List.map eI c32.held))]) (x' := [(i64 c32.proc), (i64 c32.at_), (i64 c32.dst), (.dv 3 1 (List.map eI c32.regs)), (.dv 3 1 (List.map eI c32.own)), (ow 3 0 c32.held)]) (st' := [⟨0, 79, 6, hole (Sh.put (Sh.put (Sh.put (Sh.put (Sh.put l6 i5 (RFrame.mk k4 c16.at_ c16.dst c16.regs c16.own c16.held)) i5 (RFrame.mk c19.proc (Sh.w (k4 + 1)) c19.dst c19.regs c19.own c19.held)) i5 (RFrame.mk c22.proc c22.at_ (Sh.w ((Sh.w (k4 + 1)) + 1)) c22.regs c22.own c22.held)) i5 (RFrame.mk c25.proc c25.at_ c25.dst q26.2 c25.own c25.held)) i5 (RFrame.mk c29.proc c29.at_ c29.dst c29.regs q30.2 c29.held)) (eRFrameD 3 3 3) i5 [(i64 c32.proc), (i64 c32.at_), (i64 c32.dst), (.dv 3 1 (List.map eI c32.regs)), (.dv 3 1 (List.map eI c32.own)), (ow 3 0 c32.held)]⟩, ⟨1, 3, 1, []⟩, ⟨1, 3, 1, []⟩, (ro 0 3 1 eI c32.held)]) rfl gc32 rfl rfl rfl rfl rfl) (zz (ow 3 0 c32.held) (aq_ldp ti27 rfl rfl (hole_get gc32) rfl) rfl (zq tb rfl (bs h1 fun q33 gq33 h1 => ?_))))
  refine ao_callsL (rowsP := [⟨0, 3, 1, List.map eI c32.held⟩]) (rows0 := [⟨0, 3, 1, List.map eI c32.held⟩]) (rows1 := [⟨0, 3, 1, List.map eI q33.2⟩]) (rows2 := []) (rows1' := [⟨0, 3, 1, List.map eI q33.2⟩]) (rows2' := []) (st' := [⟨0, 79, 6, hole (Sh.put (Sh.put (Sh.put (Sh.put (Sh.put l6 i5 (RFrame.mk k4 c16.at_ c16.dst c16.regs c16.own c16.held)) i5 (RFrame.mk c19.proc (Sh.w (k4 + 1)) c19.dst c19.regs c19.own c19.held)) i5 (RFrame.mk c22.proc c22.at_ (Sh.w ((Sh.w (k4 + 1)) + 1)) c22.regs c22.own c22.held)) i5 (RFrame.mk c25.proc c25.at_ c25.dst q26.2 c25.own c25.held)) i5 (RFrame.mk c29.proc c29.at_ c29.dst c29.regs q30.2 c29.held)) (eRFrameD 3 3 3) i5 [(i64 c32.proc), (i64 c32.at_), (i64 c32.dst), (.dv 3 1 (List.map eI c32.regs)), (.dv 3 1 (List.map eI c32.own)), (.own 3 0 (List.length c32.held))]⟩, ⟨1, 3, 1, []⟩, ⟨1, 3, 1, []⟩, ⟨0, 3, 1, List.map eI q33.2⟩]) (v' := (i64 q33.1)) [3] go0 hb29 (laws_markIntS_ok gq33) rfl (by decide) rfl rfl (.pure (pure_map fun _ => rfl) .nil) rfl rfl (.pure (pure_map fun _ => rfl) .nil) .nil rfl rfl (fun hln => ?_)
  have ln34 : List.length q33.2 = List.length c32.held := by simpa only [List.length_map] using hln 0 _ _ rfl rfl rfl
  refine AO.weaken (Wk.take (id := 0) (m := 3) (j := 5) (i := i5) (c := c32) (ys := q33.2) (encY := eI) (x' := [(i64 c32.proc), (i64 c32.at_), (i64 c32.dst), (.dv 3 1 (List.map eI c32.regs)), (.dv 3 1 (List.map eI c32.own)), (.dv 3 1 (List.map eI q33.2))]) (st' := [⟨0, 79, 6, hole (Sh.put (Sh.put (Sh.put (Sh.put (Sh.put l6 i5 (RFrame.mk k4 c16.at_ c16.dst c16.regs c16.own c16.held)) i5 (RFrame.mk c19.proc (Sh.w (k4 + 1)) c19.dst c19.regs c19.own c19.held)) i5 (RFrame.mk c22.proc c22.at_ (Sh.w ((Sh.w (k4 + 1)) + 1)) c22.regs c22.own c22.held)) i5 (RFrame.mk c25.proc c25.at_ c25.dst q26.2 c25.own c25.held)) i5 (RFrame.mk c29.proc c29.at_ c29.dst c29.regs q30.2 c29.held)) (eRFrameD 3 3 3) i5 [(i64 c32.proc), (i64 c32.at_), (i64 c32.dst), (.dv 3 1 (List.map eI c32.regs)), (.dv 3 1 (List.map eI c32.own)), (.dv 3 1 (List.map eI q33.2))]⟩, ⟨1, 3, 1, []⟩, ⟨1, 3, 1, []⟩, ⟨1, 3, 1, []⟩]) rfl gc32 rfl rfl (by first | (simp only [Sh.put_len]; done) | (simp only [Sh.put_len]; omega) | omega) (by decide) (show 1 ≤ 3 by decide) (fun _ => rfl) rfl rfl) ?_
  refine AO.weaken (Wk.filled (id := 0) (i := i5) (u := (RFrame.mk c32.proc c32.at_ c32.dst c32.regs c32.own q33.2)) (st' := [(ro 0 79 6 (eRFrameD 3 3 3) (Sh.put (Sh.put (Sh.put (Sh.put (Sh.put (Sh.put l6 i5 (RFrame.mk k4 c16.at_ c16.dst c16.regs c16.own c16.held)) i5 (RFrame.mk c19.proc (Sh.w (k4 + 1)) c19.dst c19.regs c19.own c19.held)) i5 (RFrame.mk c22.proc c22.at_ (Sh.w ((Sh.w (k4 + 1)) + 1)) c22.regs c22.own c22.held)) i5 (RFrame.mk c25.proc c25.at_ c25.dst q26.2 c25.own c25.held)) i5 (RFrame.mk c29.proc c29.at_ c29.dst c29.regs q30.2 c29.held)) i5 (RFrame.mk c32.proc c32.at_ c32.dst c32.regs c32.own q33.2))), ⟨1, 3, 1, []⟩, ⟨1, 3, 1, []⟩, ⟨1, 3, 1, []⟩]) rfl rfl rfl) (zq tb rfl (dn hK14 rfl (AW.regionO rfl (zm tb 3 rfl ?_))))
  exact AO.done (xi (q33.1, Sh.w (i5 + 1), Sh.put (Sh.put (Sh.put (Sh.put (Sh.put (Sh.put l6 i5 (RFrame.mk k4 c16.at_ c16.dst c16.regs c16.own c16.held)) i5 (RFrame.mk c19.proc (Sh.w (k4 + 1)) c19.dst c19.regs c19.own c19.held)) i5 (RFrame.mk c22.proc c22.at_ (Sh.w ((Sh.w (k4 + 1)) + 1)) c22.regs c22.own c22.held)) i5 (RFrame.mk c25.proc c25.at_ c25.dst q26.2 c25.own c25.held)) i5 (RFrame.mk c29.proc c29.at_ c29.dst c29.regs q30.2 c29.held)) i5 (RFrame.mk c32.proc c32.at_ c32.dst c32.regs c32.own q33.2)) h1 (by refine Wk.trans (Wk.permk (L := [(0, (.own 0 0 (List.length l6))), (1, (i64 q33.1)), (5, (i64 (Sh.w (i5 + 1))))]) (st' := [⟨0, 79, 6, List.map (eRFrameD 3 3 3) (Sh.put (Sh.put (Sh.put (Sh.put (Sh.put (Sh.put l6 i5 (RFrame.mk k4 c16.at_ c16.dst c16.regs c16.own c16.held)) i5 (RFrame.mk c19.proc (Sh.w (k4 + 1)) c19.dst c19.regs c19.own c19.held)) i5 (RFrame.mk c22.proc c22.at_ (Sh.w ((Sh.w (k4 + 1)) + 1)) c22.regs c22.own c22.held)) i5 (RFrame.mk c25.proc c25.at_ c25.dst q26.2 c25.own c25.held)) i5 (RFrame.mk c29.proc c29.at_ c29.dst c29.regs q30.2 c29.held)) i5 (RFrame.mk c32.proc c32.at_ c32.dst c32.regs c32.own q33.2))⟩]) (st1 := [⟨0, 79, 6, List.map (eRFrameD 3 3 3) (Sh.put (Sh.put (Sh.put (Sh.put (Sh.put (Sh.put l6 i5 (RFrame.mk k4 c16.at_ c16.dst c16.regs c16.own c16.held)) i5 (RFrame.mk c19.proc (Sh.w (k4 + 1)) c19.dst c19.regs c19.own c19.held)) i5 (RFrame.mk c22.proc c22.at_ (Sh.w ((Sh.w (k4 + 1)) + 1)) c22.regs c22.own c22.held)) i5 (RFrame.mk c25.proc c25.at_ c25.dst q26.2 c25.own c25.held)) i5 (RFrame.mk c29.proc c29.at_ c29.dst c29.regs q30.2 c29.held)) i5 (RFrame.mk c32.proc c32.at_ c32.dst c32.regs c32.own q33.2))⟩]) [0] rfl (.deep (pure_mapD fun _ => rfl) .nil) (by decide) rfl rfl (.deep (pure_mapD fun _ => rfl) .nil) ⟨.rfl, .rfl, .rfl, trivial⟩) ?_; exact Wk.to (L := [(0, (.own 0 0 (List.length (Sh.put (Sh.put (Sh.put (Sh.put (Sh.put (Sh.put l6 i5 (RFrame.mk k4 c16.at_ c16.dst c16.regs c16.own c16.held)) i5 (RFrame.mk c19.proc (Sh.w (k4 + 1)) c19.dst c19.regs c19.own c19.held)) i5 (RFrame.mk c22.proc c22.at_ (Sh.w ((Sh.w (k4 + 1)) + 1)) c22.regs c22.own c22.held)) i5 (RFrame.mk c25.proc c25.at_ c25.dst q26.2 c25.own c25.held)) i5 (RFrame.mk c29.proc c29.at_ c29.dst c29.regs q30.2 c29.held)) i5 (RFrame.mk c32.proc c32.at_ c32.dst c32.regs c32.own q33.2))))), (1, (i64 q33.1)), (5, (i64 (Sh.w (i5 + 1))))]) ⟨(.len (by first | (simp only [Sh.put_len]; done) | (simp only [Sh.put_len]; omega) | omega)), .rfl, .rfl, trivial⟩))
 ·intro b13 h1
  exact AW.exit (M9 k4 l6 (Sh.some_eq h1).symm _ (Wk.tr rfl))
theorem laws_markState_ok {N : Nat} {s0 : (List Int)} {s1 : (List Cell)} {s2 : (List RFrame)} {p0_0 : Int} {p0_1 : Int} {p0_2 : Int} {p0_3 : Int} {p1 : Int} {r : Int × (List Int) × (List Cell) × (List RFrame)} (h0 : laws_markState N s0 s1 s2 p0_0 p0_1 p0_2 p0_3 p1 = some r) : ACalls Try.prog 11 [(.agg [(i64 p0_0), (i64 p0_1), (i64 p0_2), (i64 p0_3), (ow 0 0 s0), (ow 1 0 s1), (ow 2 0 s2)]), (i64 p1)] [(ro 0 3 1 eI s0), (ro 0 97 3 (eCellD 3) s1), (ro 0 79 6 (eRFrameD 3 3 3) s2)] (fun v st => v = (i64 r.1) ∧ st = [(ro 0 3 1 eI r.2.1), (ro 0 97 3 (eCellD 3) r.2.2.1), (ro 0 79 6 (eRFrameD 3 3 3) r.2.2.2)]) := by
 unfold laws_markState at h0
 refine ai Try.func11 rfl rfl rfl rfl (sr rfl fun K1 hK1 => ao_box (m := 3) (st' := [(ro 0 3 1 eI s0), (ro 0 97 3 (eCellD 3) s1), (ro 0 79 6 (eRFrameD 3 3 3) s2), ⟨0, 31, 7, [[(i64 p0_0), (i64 p0_1), (i64 p0_2), (i64 p0_3), (ow 0 0 s0), (ow 1 0 s1), (ow 2 0 s2)]]⟩]) go0 rfl rfl rfl rfl rfl (zq tb rfl (dn hK1 rfl (sr rfl fun K2 hK2 => zm tb 3 rfl (bs h0 fun q3 gq3 h0 => ?_)))))
 refine ao_callsL (rowsP := [⟨0, 3, 1, List.map eI s0⟩]) (rows0 := [⟨0, 3, 1, List.map eI s0⟩]) (rows1 := [⟨0, 3, 1, List.map eI q3.2⟩]) (rows2 := []) (rows1' := [⟨0, 3, 1, List.map eI q3.2⟩]) (rows2' := []) (st' := [⟨0, 3, 1, List.map eI q3.2⟩, ⟨0, 97, 3, List.map (eCellD 3) s1⟩, ⟨0, 79, 6, List.map (eRFrameD 3 3 3) s2⟩, ⟨0, 31, 7, [[(i64 p0_0), (i64 p0_1), (i64 p0_2), (i64 p0_3), (.own 0 0 (List.length s0)), (.own 1 0 (List.length s1)), (.own 2 0 (List.length s2))]]⟩]) (v' := (i64 q3.1)) [0] go0 hb29 (laws_markIntS_ok gq3) rfl (by decide) rfl rfl (.pure (pure_map fun _ => rfl) .nil) rfl rfl (.pure (pure_map fun _ => rfl) .nil) .nil rfl rfl (fun hln => ?_)
 have ln4 : List.length q3.2 = List.length s0 := by simpa only [List.length_map] using hln 0 _ _ rfl rfl rfl
 refine zq tb rfl (dn hK2 rfl (sr rfl fun K5 hK5 => zm tb 3 rfl (bs h0 fun q6 gq6 h0 => ?_)))
 refine ao_callsL (rowsP := [⟨0, 97, 3, List.map (eCellD 3) s1⟩]) (rows0 := [⟨0, 97, 3, List.map (eCellD 3) s1⟩]) (rows1 := [⟨0, 97, 3, List.map (eCellD 3) q6.2⟩]) (rows2 := []) (rows1' := [⟨0, 97, 3, List.map (eCellD 3) q6.2⟩]) (rows2' := []) (st' := [⟨0, 3, 1, List.map eI q3.2⟩, ⟨0, 97, 3, List.map (eCellD 3) q6.2⟩, ⟨0, 79, 6, List.map (eRFrameD 3 3 3) s2⟩, ⟨0, 31, 7, [[(i64 p0_0), (i64 p0_1), (i64 p0_2), (i64 p0_3), (.own 0 0 (List.length s0)), (.own 1 0 (List.length s1)), (.own 2 0 (List.length s2))]]⟩]) (v' := (i64 q6.1)) [1] go0 hb30 (laws_markCellS_ok gq6) rfl (by decide) rfl rfl (.deep (pure_mapD fun _ => rfl) .nil) rfl rfl (.deep (pure_mapD fun _ => rfl) .nil) .nil rfl rfl (fun hln => ?_)
 have ln7 : List.length q6.2 = List.length s1 := by simpa only [List.length_map] using hln 0 _ _ rfl rfl rfl
 refine zq tb rfl (dn hK5 rfl (sr rfl fun K8 hK8 => zm tb 3 rfl (bs h0 fun q9 gq9 h0 => ?_)))
 refine ao_callsL (rowsP := [⟨0, 79, 6, List.map (eRFrameD 3 3 3) s2⟩]) (rows0 := [⟨0, 79, 6, List.map (eRFrameD 3 3 3) s2⟩]) (rows1 := [⟨0, 79, 6, List.map (eRFrameD 3 3 3) q9.2⟩]) (rows2 := []) (rows1' := [⟨0, 79, 6, List.map (eRFrameD 3 3 3) q9.2⟩]) (rows2' := []) (st' := [⟨0, 3, 1, List.map eI q3.2⟩, ⟨0, 97, 3, List.map (eCellD 3) q6.2⟩, ⟨0, 79, 6, List.map (eRFrameD 3 3 3) q9.2⟩, ⟨0, 31, 7, [[(i64 p0_0), (i64 p0_1), (i64 p0_2), (i64 p0_3), (.own 0 0 (List.length s0)), (.own 1 0 (List.length s1)), (.own 2 0 (List.length s2))]]⟩]) (v' := (i64 q9.1)) [2] go0 hb31 (laws_markFrameS_ok gq9) rfl (by decide) rfl rfl (.deep (pure_mapD fun _ => rfl) .nil) rfl rfl (.deep (pure_mapD fun _ => rfl) .nil) .nil rfl rfl (fun hln => ?_)
 have ln10 : List.length q9.2 = List.length s2 := by simpa only [List.length_map] using hln 0 _ _ rfl rfl rfl
 refine zq tb rfl (dn hK8 rfl (zr tb rfl rfl ?_))
 replace h0 := Sh.some_eq h0
 subst r
 exact AW.ret (Exists.intro _ (And.intro (((Wk.steq (st := [⟨0, 3, 1, List.map eI q3.2⟩, ⟨0, 97, 3, List.map (eCellD 3) q6.2⟩, ⟨0, 79, 6, List.map (eRFrameD 3 3 3) q9.2⟩, ⟨0, 31, 7, [[(i64 p0_0), (i64 p0_1), (i64 p0_2), (i64 p0_3), (.own 0 0 (List.length s0)), (.own 1 0 (List.length s1)), (.own 2 0 (List.length s2))]]⟩]) (st' := [⟨0, 3, 1, List.map eI q3.2⟩, ⟨0, 97, 3, List.map (eCellD 3) q6.2⟩, ⟨0, 79, 6, List.map (eRFrameD 3 3 3) q9.2⟩, ⟨0, 31, 7, [[(i64 p0_0), (i64 p0_1), (i64 p0_2), (i64 p0_3), (.own 0 0 (List.length q3.2)), (.own 1 0 (List.length q6.2)), (.own 2 0 (List.length q9.2))]]⟩]) (by first | (simp only [Sh.put_len]; done) | simp only [Sh.put_len, ln4, ln7, ln10] | simp only [ln4, ln7, ln10])).trans (Wk.permk (L := [(4, (i64 q9.1))]) (st' := [⟨0, 3, 1, List.map eI q3.2⟩, ⟨0, 97, 3, List.map (eCellD 3) q6.2⟩, ⟨0, 79, 6, List.map (eRFrameD 3 3 3) q9.2⟩]) (st1 := [⟨0, 3, 1, List.map eI q3.2⟩, ⟨0, 97, 3, List.map (eCellD 3) q6.2⟩, ⟨0, 79, 6, List.map (eRFrameD 3 3 3) q9.2⟩]) [0, 1, 2] rfl (.pure (pure_map fun _ => rfl) (.deep (pure_mapD fun _ => rfl) (.deep (pure_mapD fun _ => rfl) .nil))) (by decide) rfl rfl (.pure (pure_map fun _ => rfl) (.deep (pure_mapD fun _ => rfl) (.deep (pure_mapD fun _ => rfl) .nil))) ⟨.rfl, trivial⟩)).trans (Wk.to (L := [(4, (i64 q9.1))]) ⟨.rfl, trivial⟩)) (And.intro rfl rfl)))
theorem laws_heldIntS_ok {N : Nat} {p0 : (List Int)} {p1 : Int} {r : Int} (h0 : laws_heldIntS N p0 p1 = some r) : ACalls Try.prog 32 [(ls eI p0), (i64 p1)] [] (fun v st => v = (i64 r) ∧ st = []) := by
 unfold laws_heldIntS at h0
 refine ai Try.func32 rfl rfl rfl rfl (zr tb rfl rfl (AW.seq fun K2 hK2 => zr tb rfl rfl ?_))
 obtain ⟨o7, h1, h0⟩ := Sh.cont_some h0
 have M7 : ∀ (k6 : Int), o7 = Sum.inr k6 → ∀ s, Wk 0 s ⟨21, envL [(1, (i64 k6))], []⟩ → K2 s := by
  intro k6 hq s hw
  subst o7
  try dsimp only at h0
  refine hK2 _ (AW.weaken hw (zr tb rfl rfl ?_))
  replace h0 := Sh.some_eq h0
  subst r
  exact AW.ret (xr (Wk.to (L := [(4, (i64 k6))]) ⟨.rfl, trivial⟩))
 refine AW.block (AW.loopF (σ := Int × Int) (fun n v => laws_heldIntS_L1 p0 n v.1 v.2 = some o7) (fun (k4, i5) => ⟨21, envL [(0, (ls eI p0)), (1, (i64 k4)), (5, (i64 i5))], []⟩) N (p1, 0) h1 (Wk.tr rfl) (fun _ hv => by rw [laws_heldIntS_L1] at hv; cases hv) ?_)
 rintro n ⟨k4, i5⟩ h1
 try dsimp only at h1 ⊢
 rw [laws_heldIntS_L1] at h1
 refine AW.seq fun K9 hK9 => sr rfl fun K10 hK10 => zm tb 2 rfl (zl tb rfl rfl (zq tb rfl (dn hK10 rfl ?_)))
 refine ci h1 rfl ?_ ?_ <;> clear h1
 ·intro b11 h1
  refine AW.skip (hK9 _ (AW.seq fun K12 hK12 => AW.block (AW.seq fun K13 hK13 => sr rfl fun K14 hK14 => zm tb 2 rfl (bs h1 fun c15 gc15 h1 => zx ei27 gc15 rfl rfl rfl (zm tb 3 rfl (dn hK14 rfl ?_))))))
  refine ci h1 rfl ?_ ?_ <;> clear h1
  ·intro b16 h1
   have b17 : decide (c15 = k4) = false := by simpa using b16
   refine zr tb rfl rfl ?_
   replace h1 := Sh.some_eq h1
   subst o7
   try dsimp only [id] at h0
   replace h0 := Sh.some_eq h0
   subst r
   exact AW.ret (xr (Wk.to (L := [(4, (i64 (-1)))]) ⟨.rfl, trivial⟩))
  ·intro b16 h1
   have b19 : decide (c15 = k4) = true := by simpa using b16
   exact AW.skip (hK13 _ (AW.regionO rfl (zm tb 3 rfl (dn hK12 rfl (AW.regionO rfl (zm tb 3 rfl (AO.done (xi (Sh.w (k4 + 1), Sh.w (i5 + 1)) h1 (Wk.tr rfl)))))))))
 ·intro b11 h1
  exact AW.exit (M7 k4 (Sh.some_eq h1).symm _ (Wk.tr rfl))
theorem laws_heldCellS_ok {N : Nat} {p0 : (List Cell)} {p1 : Int} {r : Int} (h0 : laws_heldCellS N p0 p1 = some r) : ACalls Try.prog 33 [(ls eCell p0), (i64 p1)] [] (fun v st => v = (i64 r) ∧ st = []) := by
 unfold laws_heldCellS at h0
 refine ai Try.func33 rfl rfl rfl rfl (zr tb rfl rfl (AW.seq fun K2 hK2 => zr tb rfl rfl ?_))
 obtain ⟨o7, h1, h0⟩ := Sh.cont_some h0
 have M7 : ∀ (k6 : Int), o7 = Sum.inr k6 → ∀ s, Wk 0 s ⟨40, envL [(1, (i64 k6))], []⟩ → K2 s := by
  intro k6 hq s hw
  subst o7
  try dsimp only at h0
  refine hK2 _ (AW.weaken hw (zr tb rfl rfl ?_))
  replace h0 := Sh.some_eq h0
  subst r
  exact AW.ret (xr (Wk.to (L := [(4, (i64 k6))]) ⟨.rfl, trivial⟩))
 refine AW.block (AW.loopF (σ := Int × Int) (fun n v => laws_heldCellS_L1 N p0 n v.1 v.2 = some o7) (fun (k4, i5) => ⟨40, envL [(0, (ls eCell p0)), (1, (i64 k4)), (5, (i64 i5))], []⟩) N (p1, 0) h1 (Wk.tr rfl) (fun _ hv => by rw [laws_heldCellS_L1] at hv; cases hv) ?_)
 rintro n ⟨k4, i5⟩ h1
 try dsimp only at h1 ⊢
 rw [laws_heldCellS_L1] at h1
 refine AW.seq fun K9 hK9 => sr rfl fun K10 hK10 => zm tb 2 rfl (zl tb rfl rfl (zq tb rfl (dn hK10 rfl ?_)))
 refine ci h1 rfl ?_ ?_ <;> clear h1
 ·intro b11 h1
  refine AW.skip (hK9 _ (AW.seq fun K12 hK12 => AW.block (AW.seq fun K13 hK13 => sr rfl fun K14 hK14 => zm tb 2 rfl (bs h1 fun c15 gc15 h1 => zx ei28 gc15 rfl rfl rfl (zm tb 4 rfl (dn hK14 rfl ?_))))))
  refine ci h1 rfl ?_ ?_ <;> clear h1
  ·intro b16 h1
   have b17 : decide (c15.count = k4) = false := by simpa using b16
   refine zr tb rfl rfl ?_
   replace h1 := Sh.some_eq h1
   subst o7
   try dsimp only [id] at h0
   replace h0 := Sh.some_eq h0
   subst r
   exact AW.ret (xr (Wk.to (L := [(4, (i64 (-1)))]) ⟨.rfl, trivial⟩))
  ·intro b16 h1
   have b19 : decide (c15.count = k4) = true := by simpa using b16
   refine AW.skip (hK13 _ (zr tb rfl rfl (AW.seq fun K21 hK21 => sr rfl fun K22 hK22 => zm tb 2 rfl (zx ei28 gc15 rfl rfl rfl (zm tb 4 rfl (dn hK22 rfl ?_))))))
   refine ci h1 rfl ?_ ?_ <;> clear h1
   ·intro b23 h1
    have b24 : decide (c15.tag = (Sh.w (k4 + 1))) = false := by simpa using b23
    refine zr tb rfl rfl ?_
    replace h1 := Sh.some_eq h1
    subst o7
    try dsimp only [id] at h0
    replace h0 := Sh.some_eq h0
    subst r
    exact AW.ret (xr (Wk.to (L := [(4, (i64 (-1)))]) ⟨.rfl, trivial⟩))
   ·intro b23 h1
    have b26 : decide (c15.tag = (Sh.w (k4 + 1))) = true := by simpa using b23
    refine AW.skip (hK21 _ (zr tb rfl rfl (sr rfl fun K28 hK28 => zm tb 2 rfl (zx ei28 gc15 rfl rfl rfl (zm tb 3 rfl (bs h1 fun q29 gq29 h1 => zc hb32 (laws_heldIntS_ok gq29) rfl rfl rfl (zq tb rfl (dn hK28 rfl (zr tb rfl rfl ?_)))))))))
    refine ci h1 rfl ?_ ?_ <;> clear h1
    ·intro b31 h1
     refine zr tb rfl rfl ?_
     replace h1 := Sh.some_eq h1
     subst o7
     try dsimp only [id] at h0
     replace h0 := Sh.some_eq h0
     subst r
     exact AW.ret (xr (Wk.to (L := [(4, (i64 (-1)))]) ⟨.rfl, trivial⟩))
    ·intro b31 h1
     exact AW.skip (hK12 _ (AW.regionO rfl (zm tb 3 rfl (AO.done (xi (q29, Sh.w (i5 + 1)) h1 (Wk.tr rfl))))))
 ·intro b11 h1
  exact AW.exit (M7 k4 (Sh.some_eq h1).symm _ (Wk.tr rfl))
theorem laws_heldFrameS_ok {N : Nat} {p0 : (List RFrame)} {p1 : Int} {r : Int} (h0 : laws_heldFrameS N p0 p1 = some r) : ACalls Try.prog 34 [(ls eRFrame p0), (i64 p1)] [] (fun v st => v = (i64 r) ∧ st = []) := by
 unfold laws_heldFrameS at h0
 refine ai Try.func34 rfl rfl rfl rfl (zr tb rfl rfl (AW.seq fun K2 hK2 => zr tb rfl rfl ?_))
 obtain ⟨o7, h1, h0⟩ := Sh.cont_some h0
 have M7 : ∀ (k6 : Int), o7 = Sum.inr k6 → ∀ s, Wk 0 s ⟨67, envL [(1, (i64 k6))], []⟩ → K2 s := by
  intro k6 hq s hw
  subst o7
  try dsimp only at h0
  refine hK2 _ (AW.weaken hw (zr tb rfl rfl ?_))
  replace h0 := Sh.some_eq h0
  subst r
  exact AW.ret (xr (Wk.to (L := [(4, (i64 k6))]) ⟨.rfl, trivial⟩))
 refine AW.block (AW.loopF (σ := Int × Int) (fun n v => laws_heldFrameS_L1 N p0 n v.1 v.2 = some o7) (fun (k4, i5) => ⟨67, envL [(0, (ls eRFrame p0)), (1, (i64 k4)), (5, (i64 i5))], []⟩) N (p1, 0) h1 (Wk.tr rfl) (fun _ hv => by rw [laws_heldFrameS_L1] at hv; cases hv) ?_)
 rintro n ⟨k4, i5⟩ h1
 try dsimp only at h1 ⊢
 rw [laws_heldFrameS_L1] at h1
 refine AW.seq fun K9 hK9 => sr rfl fun K10 hK10 => zm tb 2 rfl (zl tb rfl rfl (zq tb rfl (dn hK10 rfl ?_)))
 refine ci h1 rfl ?_ ?_ <;> clear h1
 ·intro b11 h1
  refine AW.skip (hK9 _ (AW.seq fun K12 hK12 => AW.block (AW.seq fun K13 hK13 => sr rfl fun K14 hK14 => zm tb 2 rfl (bs h1 fun c15 gc15 h1 => zx ei29 gc15 rfl rfl rfl (zm tb 4 rfl (dn hK14 rfl ?_))))))
  refine ci h1 rfl ?_ ?_ <;> clear h1
  ·intro b16 h1
   have b17 : decide (c15.proc = k4) = false := by simpa using b16
   refine zr tb rfl rfl ?_
   replace h1 := Sh.some_eq h1
   subst o7
   try dsimp only [id] at h0
   replace h0 := Sh.some_eq h0
   subst r
   exact AW.ret (xr (Wk.to (L := [(4, (i64 (-1)))]) ⟨.rfl, trivial⟩))
  ·intro b16 h1
   have b19 : decide (c15.proc = k4) = true := by simpa using b16
   refine AW.skip (hK13 _ (zr tb rfl rfl (AW.seq fun K21 hK21 => sr rfl fun K22 hK22 => zm tb 2 rfl (zx ei29 gc15 rfl rfl rfl (zm tb 4 rfl (dn hK22 rfl ?_))))))
   refine ci h1 rfl ?_ ?_ <;> clear h1
   ·intro b23 h1
    have b24 : decide (c15.at_ = (Sh.w (k4 + 1))) = false := by simpa using b23
    refine zr tb rfl rfl ?_
    replace h1 := Sh.some_eq h1
    subst o7
    try dsimp only [id] at h0
    replace h0 := Sh.some_eq h0
    subst r
    exact AW.ret (xr (Wk.to (L := [(4, (i64 (-1)))]) ⟨.rfl, trivial⟩))
   ·intro b23 h1
    have b26 : decide (c15.at_ = (Sh.w (k4 + 1))) = true := by simpa using b23
    refine AW.skip (hK21 _ (zr tb rfl rfl (AW.seq fun K28 hK28 => sr rfl fun K29 hK29 => zm tb 2 rfl (zx ei29 gc15 rfl rfl rfl (zm tb 4 rfl (dn hK29 rfl ?_))))))
    refine ci h1 rfl ?_ ?_ <;> clear h1
    ·intro b30 h1
     have b31 : decide (c15.dst = (Sh.w ((Sh.w (k4 + 1)) + 1))) = false := by simpa using b30
     refine zr tb rfl rfl ?_
     replace h1 := Sh.some_eq h1
     subst o7
     try dsimp only [id] at h0
     replace h0 := Sh.some_eq h0
     subst r
     exact AW.ret (xr (Wk.to (L := [(4, (i64 (-1)))]) ⟨.rfl, trivial⟩))
    ·intro b30 h1
     have b33 : decide (c15.dst = (Sh.w ((Sh.w (k4 + 1)) + 1))) = true := by simpa using b30
     refine AW.skip (hK28 _ (zr tb rfl rfl (sr rfl fun K35 hK35 => zm tb 2 rfl (zx ei29 gc15 rfl rfl rfl (zm tb 3 rfl (bs h1 fun q36 gq36 h1 => zc hb32 (laws_heldIntS_ok gq36) rfl rfl rfl (zq tb rfl (dn hK35 rfl (AW.seq fun K37 hK37 => zr tb rfl rfl ?_)))))))))
     refine ci h1 rfl ?_ ?_ <;> clear h1
     ·intro b39 h1
      refine zr tb rfl rfl ?_
      replace h1 := Sh.some_eq h1
      subst o7
      try dsimp only [id] at h0
      replace h0 := Sh.some_eq h0
      subst r
      exact AW.ret (xr (Wk.to (L := [(4, (i64 (-1)))]) ⟨.rfl, trivial⟩))
     ·intro b39 h1
      refine AW.skip (hK37 _ (sr rfl fun K41 hK41 => zm tb 2 rfl (zx ei29 gc15 rfl rfl rfl (zm tb 3 rfl (bs h1 fun q42 gq42 h1 => zc hb32 (laws_heldIntS_ok gq42) rfl rfl rfl (zq tb rfl (dn hK41 rfl (AW.seq fun K43 hK43 => zr tb rfl rfl ?_))))))))
      refine ci h1 rfl ?_ ?_ <;> clear h1
      ·intro b45 h1
       refine zr tb rfl rfl ?_
       replace h1 := Sh.some_eq h1
       subst o7
       try dsimp only [id] at h0
       replace h0 := Sh.some_eq h0
       subst r
       exact AW.ret (xr (Wk.to (L := [(4, (i64 (-1)))]) ⟨.rfl, trivial⟩))
      ·intro b45 h1
       refine AW.skip (hK43 _ (sr rfl fun K47 hK47 => zm tb 2 rfl (zx ei29 gc15 rfl rfl rfl (zm tb 3 rfl (bs h1 fun q48 gq48 h1 => zc hb32 (laws_heldIntS_ok gq48) rfl rfl rfl (zq tb rfl (dn hK47 rfl (zr tb rfl rfl ?_))))))))
       refine ci h1 rfl ?_ ?_ <;> clear h1
       ·intro b50 h1
        refine zr tb rfl rfl ?_
        replace h1 := Sh.some_eq h1
        subst o7
        try dsimp only [id] at h0
        replace h0 := Sh.some_eq h0
        subst r
        exact AW.ret (xr (Wk.to (L := [(4, (i64 (-1)))]) ⟨.rfl, trivial⟩))
       ·intro b50 h1
        exact AW.skip (hK12 _ (AW.regionO rfl (zm tb 3 rfl (AO.done (xi (q48, Sh.w (i5 + 1)) h1 (Wk.tr rfl))))))
 ·intro b11 h1
  exact AW.exit (M7 k4 (Sh.some_eq h1).symm _ (Wk.tr rfl))
theorem laws_heldState_ok {N : Nat} {p0 : RState} {p1 : Int} {r : Int} (h0 : laws_heldState N p0 p1 = some r) : ACalls Try.prog 12 [(.agg (eRState p0)), (i64 p1)] [] (fun v st => v = (i64 r) ∧ st = []) := by
 unfold laws_heldState at h0
 refine ai Try.func12 rfl rfl rfl rfl (sr rfl fun K1 hK1 => ao_box (m := 0) (st' := [⟨0, 31, 7, [(eRState p0)]⟩]) go0 rfl rfl rfl rfl rfl (zq tb rfl (dn hK1 rfl (sr rfl fun K2 hK2 => zm tb 3 rfl (bs h0 fun q3 gq3 h0 => zc hb32 (laws_heldIntS_ok gq3) rfl rfl rfl (zq tb rfl (dn hK2 rfl (AW.seq fun K4 hK4 => ?_))))))))
 refine zr tb rfl rfl ?_
 refine ci h0 rfl ?_ ?_ <;> clear h0
 ·intro b6 h0
  refine zr tb rfl rfl ?_
  replace h0 := Sh.some_eq h0
  subst r
  exact AW.ret (xr (Wk.d0 [(4, (i64 (-1)))] rfl))
 ·intro b6 h0
  refine AW.skip (hK4 _ (sr rfl fun K8 hK8 => zm tb 3 rfl (bs h0 fun q9 gq9 h0 => zc hb33 (laws_heldCellS_ok gq9) rfl rfl rfl (zq tb rfl (dn hK8 rfl (AW.seq fun K10 hK10 => zr tb rfl rfl ?_))))))
  refine ci h0 rfl ?_ ?_ <;> clear h0
  ·intro b12 h0
   refine zr tb rfl rfl ?_
   replace h0 := Sh.some_eq h0
   subst r
   exact AW.ret (xr (Wk.d0 [(4, (i64 (-1)))] rfl))
  ·intro b12 h0
   refine AW.skip (hK10 _ (sr rfl fun K14 hK14 => zm tb 3 rfl (bs h0 fun q15 gq15 h0 => zc hb34 (laws_heldFrameS_ok gq15) rfl rfl rfl (zq tb rfl (dn hK14 rfl (AW.seq fun K16 hK16 => zr tb rfl rfl ?_))))))
   refine ci h0 rfl ?_ ?_ <;> clear h0
   ·intro b18 h0
    refine zr tb rfl rfl ?_
    replace h0 := Sh.some_eq h0
    subst r
    exact AW.ret (xr (Wk.d0 [(4, (i64 (-1)))] rfl))
   ·intro b18 h0
    refine AW.skip (hK16 _ (zr tb rfl rfl ?_))
    replace h0 := Sh.some_eq h0
    subst r
    exact AW.ret (xr (Wk.d0 [(4, (i64 q15))] rfl))
theorem impl_newFrame_2_ok {p0 : RImage} {p1 : Int} {p2 : Int} {r : RFrame} (h0 : impl_newFrame p0 p1 p2 = some r) : ACalls Try.prog 45 [(.agg (eRImage p0)), (i64 p1), (i64 p2)] [] (fun v st => v = (.agg (eRFrame r)) ∧ st = []) := by
 unfold impl_newFrame at h0
 refine ACalls.flat rfl (ai Try.func45 rfl rfl rfl rfl (sr rfl fun K1 hK1 => ao_box (m := 0) (st' := [⟨0, 37, 2, [(eRImage p0)]⟩]) go0 rfl rfl rfl rfl rfl (ao_alloc (m := 1) (st' := [⟨0, 37, 2, [(eRImage p0)]⟩, ⟨0, 79, 6, [[(i64 0), (i64 0), (i64 0), .zc, .zc, .zc]]⟩]) go0 zi79 rfl rfl (dn hK1 rfl (sr rfl fun K2 hK2 => zm tb 3 rfl (bs h0 fun c3 gc3 h0 => zx ei35 gc3 rfl rfl rfl (zm tb 3 rfl (dn hK2 rfl ?_))))))))
 refine AW.seq fun K4 hK4 => ?_
 refine AW.drawX (by kernel_rfl) ?_
 refine bs h0 fun l5 gl5 h0 => AX.one fun A6 hA6 => ?_
 have A6_0123456789 : A6 0 #[true, true, true, true, true, true, true, true, true, true] ⟨23, envL [(6, (.ptr 0 0 0 0))], [⟨0, 79, 6, [[(i64 p1), (i64 0), (i64 p2), (ls eI l5), (ls eI l5), (ls eI l5)]]⟩]⟩ := (hA6 _ _ _).2 (by
  refine AX.done rfl (by kernel_rfl) ?_
  refine hK4 _ ?_
  replace h0 := Sh.some_eq h0
  subst r
  exact AW.ret (Exists.intro _ (And.intro (Wk.refl _ _) (aq_ldpa (x := .tmp 6) (off := 0) (cs := [(i64 p1), (i64 0), (i64 p2), (ls eI l5), (ls eI l5), (ls eI l5)]) (vs := [(i64 p1), (i64 0), (i64 p2), (ls eI l5), (ls eI l5), (ls eI l5)]) ti79 rfl rfl rfl (show 0 + 6 ≤ 6 by decide) rfl _ rfl))))
 have A6_012345678 : A6 1 #[true, true, true, true, true, true, true, true, true, false] ⟨23, envL [(6, (.ptr 0 0 0 0)), (22, (.agg [(i64 p1), (i64 0), (i64 p2), (ow 1 0 l5), (ow 2 0 l5), (ow 3 0 l5)]))], [⟨0, 79, 6, [[(i64 0), (i64 0), (i64 0), .zc, .zc, .zc]]⟩, (ro 0 3 1 eI l5), (ro 0 3 1 eI l5), (ro 0 3 1 eI l5)]⟩ := (hA6 _ _ _).2 (by
  refine AX.all [9] rfl (by kernel_rfl) (by decide) ⟨?_, trivial⟩
  ·refine AXs.of (i := 9) rfl rfl (by rfl) ?_
   refine AO.weaken (Wk.frz (L := [(6, (.ptr 0 0 0 0)), (22, (.agg [(i64 p1), (i64 0), (i64 p2), (ls eI l5), (ow 2 0 l5), (ow 3 0 l5)]))]) (st' := [⟨0, 79, 6, [[(i64 0), (i64 0), (i64 0), .zc, .zc, .zc]]⟩, ⟨1, 3, 1, []⟩, (ro 0 3 1 eI l5), (ro 0 3 1 eI l5)]) (id := 1) rfl (show 0 ≤ 1 by decide) (pure_map fun _ => rfl) ⟨.rfl, (.agg ⟨.rfl, .rfl, .rfl, (.frz1 rfl), .rfl, .rfl, trivial⟩), trivial⟩ rfl) (AO.weaken (Wk.frz (L := [(6, (.ptr 0 0 0 0)), (22, (.agg [(i64 p1), (i64 0), (i64 p2), (ls eI l5), (ls eI l5), (ow 3 0 l5)]))]) (st' := [⟨0, 79, 6, [[(i64 0), (i64 0), (i64 0), .zc, .zc, .zc]]⟩, ⟨1, 3, 1, []⟩, ⟨1, 3, 1, []⟩, (ro 0 3 1 eI l5)]) (id := 2) rfl (show 0 ≤ 2 by decide) (pure_map fun _ => rfl) ⟨.rfl, (.agg ⟨.rfl, .rfl, .rfl, .rfl, (.frz1 rfl), .rfl, trivial⟩), trivial⟩ rfl) (AO.weaken (Wk.frz (L := [(6, (.ptr 0 0 0 0)), (22, (.agg [(i64 p1), (i64 0), (i64 p2), (ls eI l5), (ls eI l5), (ls eI l5)]))]) (st' := [⟨0, 79, 6, [[(i64 0), (i64 0), (i64 0), .zc, .zc, .zc]]⟩, ⟨1, 3, 1, []⟩, ⟨1, 3, 1, []⟩, ⟨1, 3, 1, []⟩]) (id := 3) rfl (show 0 ≤ 3 by decide) (pure_map fun _ => rfl) ⟨.rfl, (.agg ⟨.rfl, .rfl, .rfl, .rfl, .rfl, (.frz1 rfl), trivial⟩), trivial⟩ rfl) (ao_str (st' := [⟨0, 79, 6, [[(i64 p1), (i64 0), (i64 p2), (ls eI l5), (ls eI l5), (ls eI l5)]]⟩, ⟨1, 3, 1, []⟩, ⟨1, 3, 1, []⟩, ⟨1, 3, 1, []⟩]) go0 ti79 rfl rfl rfl rfl rfl rfl (show 0 + 6 ≤ 6 by decide) rfl (AO.done ⟨rfl, ?_⟩))))
   exact AX.weaken (by refine Wk.trans (Wk.permk (L := [(6, (.ptr 0 0 0 0))]) (st' := [⟨0, 79, 6, [[(i64 p1), (i64 0), (i64 p2), (ls eI l5), (ls eI l5), (ls eI l5)]]⟩]) (st1 := [⟨0, 79, 6, [[(i64 p1), (i64 0), (i64 p2), (ls eI l5), (ls eI l5), (ls eI l5)]]⟩]) [0] rfl .nil (by decide) rfl rfl (.raw rfl rfl .nil) ⟨.rfl, trivial⟩) ?_; exact Wk.to (L := [(6, (.ptr 0 0 0 0))]) ⟨.rfl, trivial⟩) (AX.lst (by kernel_rfl) ((hA6 _ _ _).1 A6_0123456789)) rfl)
 have A6_01234567 : A6 2 #[true, true, true, true, true, true, true, true, false, false] ⟨23, envL [(6, (.ptr 0 0 0 0)), (14, (i64 p1)), (15, (i64 p2)), (17, (ow 1 0 l5)), (19, (ow 2 0 l5)), (21, (ow 3 0 l5))], [⟨0, 79, 6, [[(i64 0), (i64 0), (i64 0), .zc, .zc, .zc]]⟩, (ro 0 3 1 eI l5), (ro 0 3 1 eI l5), (ro 0 3 1 eI l5)]⟩ := (hA6 _ _ _).2 (by
  refine AX.all [8] rfl (by kernel_rfl) (by decide) ⟨?_, trivial⟩
  ·refine AXs.of (i := 8) rfl rfl (by rfl) ?_
   refine zz (.agg [(i64 p1), (i64 0), (i64 p2), (ow 1 0 l5), (ow 2 0 l5), (ow 3 0 l5)]) (aq_bd ai79 bi79 zi79 rfl rfl) rfl (AO.done ⟨rfl, ?_⟩)
   exact AX.weaken (Wk.to (L := [(6, (.ptr 0 0 0 0)), (22, (.agg [(i64 p1), (i64 0), (i64 p2), (ow 1 0 l5), (ow 2 0 l5), (ow 3 0 l5)]))]) ⟨.rfl, .rfl, trivial⟩) (AX.lst (by kernel_rfl) ((hA6 _ _ _).1 A6_012345678)) rfl)
 have A6_0123456 : A6 3 #[true, true, true, true, true, true, true, false, false, false] ⟨23, envL [(6, (.ptr 0 0 0 0)), (14, (i64 p1)), (15, (i64 p2)), (17, (ow 1 0 l5)), (19, (ow 2 0 l5)), (20, (i64 c3.regs))], [⟨0, 79, 6, [[(i64 0), (i64 0), (i64 0), .zc, .zc, .zc]]⟩, (ro 0 3 1 eI l5), (ro 0 3 1 eI l5)]⟩ := (hA6 _ _ _).2 (by
  refine AX.all [7] rfl (by kernel_rfl) (by decide) ⟨?_, trivial⟩
  ·refine AXs.of (i := 7) rfl rfl (by rfl) ?_
   refine ao_make (m := 3) (st' := [⟨0, 79, 6, [[(i64 0), (i64 0), (i64 0), .zc, .zc, .zc]]⟩, (ro 0 3 1 eI l5), (ro 0 3 1 eI l5), (ro 0 3 1 eI l5)]) (enc := eI) (u := 0) go0 ei27 rfl rfl rfl gl5 rfl rfl (AO.done ⟨rfl, ?_⟩)
   exact AX.weaken (Wk.to (L := [(6, (.ptr 0 0 0 0)), (14, (i64 p1)), (15, (i64 p2)), (17, (ow 1 0 l5)), (19, (ow 2 0 l5)), (21, (ow 3 0 l5))]) ⟨.rfl, .rfl, .rfl, .rfl, .rfl, .rfl, trivial⟩) (AX.lst (by kernel_rfl) ((hA6 _ _ _).1 A6_01234567)) rfl)
 have A6_0123467 : A6 3 #[true, true, true, true, true, false, true, true, false, false] ⟨23, envL [(6, (.ptr 0 0 0 0)), (14, (i64 p1)), (15, (i64 p2)), (17, (ow 1 0 l5)), (18, (i64 c3.regs)), (21, (ow 2 0 l5))], [⟨0, 79, 6, [[(i64 0), (i64 0), (i64 0), .zc, .zc, .zc]]⟩, (ro 0 3 1 eI l5), (ro 0 3 1 eI l5)]⟩ := (hA6 _ _ _).2 (by
  refine AX.all [5] rfl (by kernel_rfl) (by decide) ⟨?_, trivial⟩
  ·refine AXs.of (i := 5) rfl rfl (by rfl) ?_
   refine ao_make (m := 3) (st' := [⟨0, 79, 6, [[(i64 0), (i64 0), (i64 0), .zc, .zc, .zc]]⟩, (ro 0 3 1 eI l5), (ro 0 3 1 eI l5), (ro 0 3 1 eI l5)]) (enc := eI) (u := 0) go0 ei27 rfl rfl rfl gl5 rfl rfl (AO.done ⟨rfl, ?_⟩)
   exact AX.weaken (by refine Wk.trans (Wk.permk (L := [(6, (.ptr 0 0 0 0)), (14, (i64 p1)), (15, (i64 p2)), (17, (ow 1 0 l5)), (19, (ow 2 0 l5)), (21, (ow 3 0 l5))]) (st' := [⟨0, 79, 6, [[(i64 0), (i64 0), (i64 0), .zc, .zc, .zc]]⟩, (ro 0 3 1 eI l5), (ro 0 3 1 eI l5), (ro 0 3 1 eI l5)]) (st1 := [⟨0, 79, 6, [[(i64 0), (i64 0), (i64 0), .zc, .zc, .zc]]⟩, (ro 0 3 1 eI l5), (ro 0 3 1 eI l5), (ro 0 3 1 eI l5)]) [0, 1, 3, 2] rfl .nil (by decide) rfl rfl (.raw rfl rfl (.pure (pure_map fun _ => rfl) (.pure (pure_map fun _ => rfl) (.pure (pure_map fun _ => rfl) .nil)))) ⟨.rfl, .rfl, .rfl, .rfl, .rfl, .rfl, trivial⟩) ?_; exact Wk.to (L := [(6, (.ptr 0 0 0 0)), (14, (i64 p1)), (15, (i64 p2)), (17, (ow 1 0 l5)), (19, (ow 2 0 l5)), (21, (ow 3 0 l5))]) ⟨.rfl, .rfl, .rfl, .rfl, .rfl, .rfl, trivial⟩) (AX.lst (by kernel_rfl) ((hA6 _ _ _).1 A6_01234567)) rfl)
 have A6_012346 : A6 4 #[true, true, true, true, true, false, true, false, false, false] ⟨23, envL [(6, (.ptr 0 0 0 0)), (14, (i64 p1)), (15, (i64 p2)), (17, (ow 1 0 l5)), (18, (i64 c3.regs)), (20, (i64 c3.regs))], [⟨0, 79, 6, [[(i64 0), (i64 0), (i64 0), .zc, .zc, .zc]]⟩, (ro 0 3 1 eI l5)]⟩ := (hA6 _ _ _).2 (by
  refine AX.all [5, 7] rfl (by kernel_rfl) (by decide) ⟨?_, ?_, trivial⟩
  ·refine AXs.of (i := 5) rfl rfl (by rfl) ?_
   refine ao_make (m := 2) (st' := [⟨0, 79, 6, [[(i64 0), (i64 0), (i64 0), .zc, .zc, .zc]]⟩, (ro 0 3 1 eI l5), (ro 0 3 1 eI l5)]) (enc := eI) (u := 0) go0 ei27 rfl rfl rfl gl5 rfl rfl (AO.done ⟨rfl, ?_⟩)
   exact AX.weaken (Wk.to (L := [(6, (.ptr 0 0 0 0)), (14, (i64 p1)), (15, (i64 p2)), (17, (ow 1 0 l5)), (19, (ow 2 0 l5)), (20, (i64 c3.regs))]) ⟨.rfl, .rfl, .rfl, .rfl, .rfl, .rfl, trivial⟩) (AX.lst (by kernel_rfl) ((hA6 _ _ _).1 A6_0123456)) rfl
  ·refine AXs.of (i := 7) rfl rfl (by rfl) ?_
   refine ao_make (m := 2) (st' := [⟨0, 79, 6, [[(i64 0), (i64 0), (i64 0), .zc, .zc, .zc]]⟩, (ro 0 3 1 eI l5), (ro 0 3 1 eI l5)]) (enc := eI) (u := 0) go0 ei27 rfl rfl rfl gl5 rfl rfl (AO.done ⟨rfl, ?_⟩)
   exact AX.weaken (Wk.to (L := [(6, (.ptr 0 0 0 0)), (14, (i64 p1)), (15, (i64 p2)), (17, (ow 1 0 l5)), (18, (i64 c3.regs)), (21, (ow 2 0 l5))]) ⟨.rfl, .rfl, .rfl, .rfl, .rfl, .rfl, trivial⟩) (AX.lst (by kernel_rfl) ((hA6 _ _ _).1 A6_0123467)) rfl)
 have A6_0124567 : A6 3 #[true, true, true, false, true, true, true, true, false, false] ⟨23, envL [(6, (.ptr 0 0 0 0)), (14, (i64 p1)), (15, (i64 p2)), (16, (i64 c3.regs)), (19, (ow 1 0 l5)), (21, (ow 2 0 l5))], [⟨0, 79, 6, [[(i64 0), (i64 0), (i64 0), .zc, .zc, .zc]]⟩, (ro 0 3 1 eI l5), (ro 0 3 1 eI l5)]⟩ := (hA6 _ _ _).2 (by
  refine AX.all [3] rfl (by kernel_rfl) (by decide) ⟨?_, trivial⟩
  ·refine AXs.of (i := 3) rfl rfl (by rfl) ?_
   refine ao_make (m := 3) (st' := [⟨0, 79, 6, [[(i64 0), (i64 0), (i64 0), .zc, .zc, .zc]]⟩, (ro 0 3 1 eI l5), (ro 0 3 1 eI l5), (ro 0 3 1 eI l5)]) (enc := eI) (u := 0) go0 ei27 rfl rfl rfl gl5 rfl rfl (AO.done ⟨rfl, ?_⟩)
   exact AX.weaken (by refine Wk.trans (Wk.permk (L := [(6, (.ptr 0 0 0 0)), (14, (i64 p1)), (15, (i64 p2)), (17, (ow 1 0 l5)), (19, (ow 2 0 l5)), (21, (ow 3 0 l5))]) (st' := [⟨0, 79, 6, [[(i64 0), (i64 0), (i64 0), .zc, .zc, .zc]]⟩, (ro 0 3 1 eI l5), (ro 0 3 1 eI l5), (ro 0 3 1 eI l5)]) (st1 := [⟨0, 79, 6, [[(i64 0), (i64 0), (i64 0), .zc, .zc, .zc]]⟩, (ro 0 3 1 eI l5), (ro 0 3 1 eI l5), (ro 0 3 1 eI l5)]) [0, 3, 1, 2] rfl .nil (by decide) rfl rfl (.raw rfl rfl (.pure (pure_map fun _ => rfl) (.pure (pure_map fun _ => rfl) (.pure (pure_map fun _ => rfl) .nil)))) ⟨.rfl, .rfl, .rfl, .rfl, .rfl, .rfl, trivial⟩) ?_; exact Wk.to (L := [(6, (.ptr 0 0 0 0)), (14, (i64 p1)), (15, (i64 p2)), (17, (ow 1 0 l5)), (19, (ow 2 0 l5)), (21, (ow 3 0 l5))]) ⟨.rfl, .rfl, .rfl, .rfl, .rfl, .rfl, trivial⟩) (AX.lst (by kernel_rfl) ((hA6 _ _ _).1 A6_01234567)) rfl)
 have A6_012456 : A6 4 #[true, true, true, false, true, true, true, false, false, false] ⟨23, envL [(6, (.ptr 0 0 0 0)), (14, (i64 p1)), (15, (i64 p2)), (16, (i64 c3.regs)), (19, (ow 1 0 l5)), (20, (i64 c3.regs))], [⟨0, 79, 6, [[(i64 0), (i64 0), (i64 0), .zc, .zc, .zc]]⟩, (ro 0 3 1 eI l5)]⟩ := (hA6 _ _ _).2 (by
  refine AX.all [3, 7] rfl (by kernel_rfl) (by decide) ⟨?_, ?_, trivial⟩
  ·refine AXs.of (i := 3) rfl rfl (by rfl) ?_
   refine ao_make (m := 2) (st' := [⟨0, 79, 6, [[(i64 0), (i64 0), (i64 0), .zc, .zc, .zc]]⟩, (ro 0 3 1 eI l5), (ro 0 3 1 eI l5)]) (enc := eI) (u := 0) go0 ei27 rfl rfl rfl gl5 rfl rfl (AO.done ⟨rfl, ?_⟩)
   exact AX.weaken (by refine Wk.trans (Wk.permk (L := [(6, (.ptr 0 0 0 0)), (14, (i64 p1)), (15, (i64 p2)), (17, (ow 1 0 l5)), (19, (ow 2 0 l5)), (20, (i64 c3.regs))]) (st' := [⟨0, 79, 6, [[(i64 0), (i64 0), (i64 0), .zc, .zc, .zc]]⟩, (ro 0 3 1 eI l5), (ro 0 3 1 eI l5)]) (st1 := [⟨0, 79, 6, [[(i64 0), (i64 0), (i64 0), .zc, .zc, .zc]]⟩, (ro 0 3 1 eI l5), (ro 0 3 1 eI l5)]) [0, 2, 1] rfl .nil (by decide) rfl rfl (.raw rfl rfl (.pure (pure_map fun _ => rfl) (.pure (pure_map fun _ => rfl) .nil))) ⟨.rfl, .rfl, .rfl, .rfl, .rfl, .rfl, trivial⟩) ?_; exact Wk.to (L := [(6, (.ptr 0 0 0 0)), (14, (i64 p1)), (15, (i64 p2)), (17, (ow 1 0 l5)), (19, (ow 2 0 l5)), (20, (i64 c3.regs))]) ⟨.rfl, .rfl, .rfl, .rfl, .rfl, .rfl, trivial⟩) (AX.lst (by kernel_rfl) ((hA6 _ _ _).1 A6_0123456)) rfl
  ·refine AXs.of (i := 7) rfl rfl (by rfl) ?_
   refine ao_make (m := 2) (st' := [⟨0, 79, 6, [[(i64 0), (i64 0), (i64 0), .zc, .zc, .zc]]⟩, (ro 0 3 1 eI l5), (ro 0 3 1 eI l5)]) (enc := eI) (u := 0) go0 ei27 rfl rfl rfl gl5 rfl rfl (AO.done ⟨rfl, ?_⟩)
   exact AX.weaken (Wk.to (L := [(6, (.ptr 0 0 0 0)), (14, (i64 p1)), (15, (i64 p2)), (16, (i64 c3.regs)), (19, (ow 1 0 l5)), (21, (ow 2 0 l5))]) ⟨.rfl, .rfl, .rfl, .rfl, .rfl, .rfl, trivial⟩) (AX.lst (by kernel_rfl) ((hA6 _ _ _).1 A6_0124567)) rfl)
 have A6_012467 : A6 4 #[true, true, true, false, true, false, true, true, false, false] ⟨23, envL [(6, (.ptr 0 0 0 0)), (14, (i64 p1)), (15, (i64 p2)), (16, (i64 c3.regs)), (18, (i64 c3.regs)), (21, (ow 1 0 l5))], [⟨0, 79, 6, [[(i64 0), (i64 0), (i64 0), .zc, .zc, .zc]]⟩, (ro 0 3 1 eI l5)]⟩ := (hA6 _ _ _).2 (by
  refine AX.all [3, 5] rfl (by kernel_rfl) (by decide) ⟨?_, ?_, trivial⟩
  ·refine AXs.of (i := 3) rfl rfl (by rfl) ?_
   refine ao_make (m := 2) (st' := [⟨0, 79, 6, [[(i64 0), (i64 0), (i64 0), .zc, .zc, .zc]]⟩, (ro 0 3 1 eI l5), (ro 0 3 1 eI l5)]) (enc := eI) (u := 0) go0 ei27 rfl rfl rfl gl5 rfl rfl (AO.done ⟨rfl, ?_⟩)
   exact AX.weaken (by refine Wk.trans (Wk.permk (L := [(6, (.ptr 0 0 0 0)), (14, (i64 p1)), (15, (i64 p2)), (17, (ow 1 0 l5)), (18, (i64 c3.regs)), (21, (ow 2 0 l5))]) (st' := [⟨0, 79, 6, [[(i64 0), (i64 0), (i64 0), .zc, .zc, .zc]]⟩, (ro 0 3 1 eI l5), (ro 0 3 1 eI l5)]) (st1 := [⟨0, 79, 6, [[(i64 0), (i64 0), (i64 0), .zc, .zc, .zc]]⟩, (ro 0 3 1 eI l5), (ro 0 3 1 eI l5)]) [0, 2, 1] rfl .nil (by decide) rfl rfl (.raw rfl rfl (.pure (pure_map fun _ => rfl) (.pure (pure_map fun _ => rfl) .nil))) ⟨.rfl, .rfl, .rfl, .rfl, .rfl, .rfl, trivial⟩) ?_; exact Wk.to (L := [(6, (.ptr 0 0 0 0)), (14, (i64 p1)), (15, (i64 p2)), (17, (ow 1 0 l5)), (18, (i64 c3.regs)), (21, (ow 2 0 l5))]) ⟨.rfl, .rfl, .rfl, .rfl, .rfl, .rfl, trivial⟩) (AX.lst (by kernel_rfl) ((hA6 _ _ _).1 A6_0123467)) rfl
  ·refine AXs.of (i := 5) rfl rfl (by rfl) ?_
   refine ao_make (m := 2) (st' := [⟨0, 79, 6, [[(i64 0), (i64 0), (i64 0), .zc, .zc, .zc]]⟩, (ro 0 3 1 eI l5), (ro 0 3 1 eI l5)]) (enc := eI) (u := 0) go0 ei27 rfl rfl rfl gl5 rfl rfl (AO.done ⟨rfl, ?_⟩)
   exact AX.weaken (by refine Wk.trans (Wk.permk (L := [(6, (.ptr 0 0 0 0)), (14, (i64 p1)), (15, (i64 p2)), (16, (i64 c3.regs)), (19, (ow 1 0 l5)), (21, (ow 2 0 l5))]) (st' := [⟨0, 79, 6, [[(i64 0), (i64 0), (i64 0), .zc, .zc, .zc]]⟩, (ro 0 3 1 eI l5), (ro 0 3 1 eI l5)]) (st1 := [⟨0, 79, 6, [[(i64 0), (i64 0), (i64 0), .zc, .zc, .zc]]⟩, (ro 0 3 1 eI l5), (ro 0 3 1 eI l5)]) [0, 2, 1] rfl .nil (by decide) rfl rfl (.raw rfl rfl (.pure (pure_map fun _ => rfl) (.pure (pure_map fun _ => rfl) .nil))) ⟨.rfl, .rfl, .rfl, .rfl, .rfl, .rfl, trivial⟩) ?_; exact Wk.to (L := [(6, (.ptr 0 0 0 0)), (14, (i64 p1)), (15, (i64 p2)), (16, (i64 c3.regs)), (19, (ow 1 0 l5)), (21, (ow 2 0 l5))]) ⟨.rfl, .rfl, .rfl, .rfl, .rfl, .rfl, trivial⟩) (AX.lst (by kernel_rfl) ((hA6 _ _ _).1 A6_0124567)) rfl)
 have A6_01246 : A6 5 #[true, true, true, false, true, false, true, false, false, false] ⟨23, envL [(6, (.ptr 0 0 0 0)), (14, (i64 p1)), (15, (i64 p2)), (16, (i64 c3.regs)), (18, (i64 c3.regs)), (20, (i64 c3.regs))], [⟨0, 79, 6, [[(i64 0), (i64 0), (i64 0), .zc, .zc, .zc]]⟩]⟩ := (hA6 _ _ _).2 (by
  refine AX.all [3, 5, 7] rfl (by kernel_rfl) (by decide) ⟨?_, ?_, ?_, trivial⟩
  ·refine AXs.of (i := 3) rfl rfl (by rfl) ?_
   refine ao_make (m := 1) (st' := [⟨0, 79, 6, [[(i64 0), (i64 0), (i64 0), .zc, .zc, .zc]]⟩, (ro 0 3 1 eI l5)]) (enc := eI) (u := 0) go0 ei27 rfl rfl rfl gl5 rfl rfl (AO.done ⟨rfl, ?_⟩)
   exact AX.weaken (Wk.to (L := [(6, (.ptr 0 0 0 0)), (14, (i64 p1)), (15, (i64 p2)), (17, (ow 1 0 l5)), (18, (i64 c3.regs)), (20, (i64 c3.regs))]) ⟨.rfl, .rfl, .rfl, .rfl, .rfl, .rfl, trivial⟩) (AX.lst (by kernel_rfl) ((hA6 _ _ _).1 A6_012346)) rfl
  ·refine AXs.of (i := 5) rfl rfl (by rfl) ?_
   refine ao_make (m := 1) (st' := [⟨0, 79, 6, [[(i64 0), (i64 0), (i64 0), .zc, .zc, .zc]]⟩, (ro 0 3 1 eI l5)]) (enc := eI) (u := 0) go0 ei27 rfl rfl rfl gl5 rfl rfl (AO.done ⟨rfl, ?_⟩)
   exact AX.weaken (Wk.to (L := [(6, (.ptr 0 0 0 0)), (14, (i64 p1)), (15, (i64 p2)), (16, (i64 c3.regs)), (19, (ow 1 0 l5)), (20, (i64 c3.regs))]) ⟨.rfl, .rfl, .rfl, .rfl, .rfl, .rfl, trivial⟩) (AX.lst (by kernel_rfl) ((hA6 _ _ _).1 A6_012456)) rfl
  ·refine AXs.of (i := 7) rfl rfl (by rfl) ?_
   refine ao_make (m := 1) (st' := [⟨0, 79, 6, [[(i64 0), (i64 0), (i64 0), .zc, .zc, .zc]]⟩, (ro 0 3 1 eI l5)]) (enc := eI) (u := 0) go0 ei27 rfl rfl rfl gl5 rfl rfl (AO.done ⟨rfl, ?_⟩)
   exact AX.weaken (Wk.to (L := [(6, (.ptr 0 0 0 0)), (14, (i64 p1)), (15, (i64 p2)), (16, (i64 c3.regs)), (18, (i64 c3.regs)), (21, (ow 1 0 l5))]) ⟨.rfl, .rfl, .rfl, .rfl, .rfl, .rfl, trivial⟩) (AX.lst (by kernel_rfl) ((hA6 _ _ _).1 A6_012467)) rfl)
 have A6_0124 : A6 6 #[true, true, true, false, true, false, false, false, false, false] ⟨23, envL [(6, (.ptr 0 0 0 0)), (7, (i64 c3.regs)), (14, (i64 p1)), (15, (i64 p2)), (16, (i64 c3.regs)), (18, (i64 c3.regs))], [⟨0, 79, 6, [[(i64 0), (i64 0), (i64 0), .zc, .zc, .zc]]⟩]⟩ := (hA6 _ _ _).2 (by
  refine AX.hoist 6 (v := (i64 c3.regs)) rfl rfl (by kernel_rfl) (by kernel_rfl) (by kernel_rfl) rfl (hoist_mv rfl) ?_
  exact AX.weaken (Wk.to (L := [(6, (.ptr 0 0 0 0)), (14, (i64 p1)), (15, (i64 p2)), (16, (i64 c3.regs)), (18, (i64 c3.regs)), (20, (i64 c3.regs))]) ⟨.rfl, .rfl, .rfl, .rfl, .rfl, .rfl, trivial⟩) (AX.lst (by kernel_rfl) ((hA6 _ _ _).1 A6_01246)) rfl)
 have A6_012 : A6 7 #[true, true, true, false, false, false, false, false, false, false] ⟨23, envL [(6, (.ptr 0 0 0 0)), (7, (i64 c3.regs)), (14, (i64 p1)), (15, (i64 p2)), (16, (i64 c3.regs))], [⟨0, 79, 6, [[(i64 0), (i64 0), (i64 0), .zc, .zc, .zc]]⟩]⟩ := (hA6 _ _ _).2 (by
  refine AX.hoist 4 (v := (i64 c3.regs)) rfl rfl (by kernel_rfl) (by kernel_rfl) (by kernel_rfl) rfl (hoist_mv rfl) ?_
  exact AX.weaken (Wk.to (L := [(6, (.ptr 0 0 0 0)), (7, (i64 c3.regs)), (14, (i64 p1)), (15, (i64 p2)), (16, (i64 c3.regs)), (18, (i64 c3.regs))]) ⟨.rfl, .rfl, .rfl, .rfl, .rfl, .rfl, trivial⟩) (AX.lst (by kernel_rfl) ((hA6 _ _ _).1 A6_0124)) rfl)
 have A6_01 : A6 8 #[true, true, false, false, false, false, false, false, false, false] ⟨23, envL [(6, (.ptr 0 0 0 0)), (7, (i64 c3.regs)), (14, (i64 p1)), (15, (i64 p2))], [⟨0, 79, 6, [[(i64 0), (i64 0), (i64 0), .zc, .zc, .zc]]⟩]⟩ := (hA6 _ _ _).2 (by
  refine AX.hoist 2 (v := (i64 c3.regs)) rfl rfl (by kernel_rfl) (by kernel_rfl) (by kernel_rfl) rfl (hoist_mv rfl) ?_
  exact AX.weaken (Wk.to (L := [(6, (.ptr 0 0 0 0)), (7, (i64 c3.regs)), (14, (i64 p1)), (15, (i64 p2)), (16, (i64 c3.regs))]) ⟨.rfl, .rfl, .rfl, .rfl, .rfl, trivial⟩) (AX.lst (by kernel_rfl) ((hA6 _ _ _).1 A6_012)) rfl)
 have A6_0 : A6 9 #[true, false, false, false, false, false, false, false, false, false] ⟨23, envL [(2, (i64 p2)), (6, (.ptr 0 0 0 0)), (7, (i64 c3.regs)), (14, (i64 p1))], [⟨0, 79, 6, [[(i64 0), (i64 0), (i64 0), .zc, .zc, .zc]]⟩]⟩ := (hA6 _ _ _).2 (by
  refine AX.hoist 1 (v := (i64 p2)) rfl rfl (by kernel_rfl) (by kernel_rfl) (by kernel_rfl) rfl (hoist_mv rfl) ?_
  exact AX.weaken (Wk.to (L := [(6, (.ptr 0 0 0 0)), (7, (i64 c3.regs)), (14, (i64 p1)), (15, (i64 p2))]) ⟨.rfl, .rfl, .rfl, .rfl, trivial⟩) (AX.lst (by kernel_rfl) ((hA6 _ _ _).1 A6_01)) rfl)
 have A6_e : A6 10 #[false, false, false, false, false, false, false, false, false, false] ⟨23, envL [(1, (i64 p1)), (2, (i64 p2)), (6, (.ptr 0 0 0 0)), (7, (i64 c3.regs))], [⟨0, 79, 6, [[(i64 0), (i64 0), (i64 0), .zc, .zc, .zc]]⟩]⟩ := (hA6 _ _ _).2 (by
  refine AX.hoist 0 (v := (i64 p1)) rfl rfl (by kernel_rfl) (by kernel_rfl) (by kernel_rfl) rfl (hoist_mv rfl) ?_
  exact AX.weaken (Wk.to (L := [(2, (i64 p2)), (6, (.ptr 0 0 0 0)), (7, (i64 c3.regs)), (14, (i64 p1))]) ⟨.rfl, .rfl, .rfl, .rfl, trivial⟩) (AX.lst (by kernel_rfl) ((hA6 _ _ _).1 A6_0)) rfl)
 refine (hA6 _ _ _).2 ?_
 exact AX.weaken (by refine Wk.trans (Wk.permk (L := [(1, (i64 p1)), (2, (i64 p2)), (6, (.ptr 0 0 0 0)), (7, (i64 c3.regs))]) (st' := [⟨0, 79, 6, [[(i64 0), (i64 0), (i64 0), .zc, .zc, .zc]]⟩]) (st1 := [⟨0, 79, 6, [[(i64 0), (i64 0), (i64 0), .zc, .zc, .zc]]⟩]) [1] rfl .nil (by decide) rfl rfl (.raw rfl rfl .nil) ⟨.rfl, .rfl, .rfl, .rfl, trivial⟩) ?_; exact Wk.to (L := [(1, (i64 p1)), (2, (i64 p2)), (6, (.ptr 0 0 0 0)), (7, (i64 c3.regs))]) ⟨.rfl, .rfl, .rfl, .rfl, trivial⟩) (AX.lst (by kernel_rfl) ((hA6 _ _ _).1 A6_e)) rfl
theorem impl_startState_2_ok {p0 : RImage} {p1 : Int} {r : RState} (h0 : impl_startState p0 p1 = some r) : ACalls Try.prog 21 [(.agg (eRImage p0)), (i64 p1)] [] (fun v st => v = (.agg (eRState r)) ∧ st = []) := by
 unfold impl_startState at h0
 refine ACalls.flat rfl (ai Try.func21 rfl rfl rfl rfl (sr rfl fun K1 hK1 => ao_box (m := 0) (st' := [⟨0, 37, 2, [(eRImage p0)]⟩]) go0 rfl rfl rfl rfl rfl (ao_alloc (m := 1) (st' := [⟨0, 37, 2, [(eRImage p0)]⟩, ⟨0, 31, 7, [[(i64 0), (i64 0), (i64 0), (i64 0), .zc, .zc, .zc]]⟩]) go0 zi31 rfl rfl (dn hK1 rfl (sr rfl fun K2 hK2 => zm tb 2 rfl (bs h0 fun q3 gq3 h0 => zc (v' := (.agg (eRFrame q3))) hb45 (impl_newFrame_2_ok gq3) rfl rfl rfl ?_))))))
 refine ao_bs (m := 2) (st' := [⟨0, 37, 2, [(eRImage p0)]⟩, ⟨0, 31, 7, [[(i64 0), (i64 0), (i64 0), (i64 0), .zc, .zc, .zc]]⟩, (ro 0 79 6 eRFrame [q3])]) (l := [q3]) (enc := eRFrame) go0 ei29 (by decide) rfl rfl rfl rfl rfl rfl ?_
 refine zz (.agg [(i64 3), (i64 0), (i64 0), (i64 p1), .zc, .zc, (ow 2 0 [q3])]) (aq_bd ai31 bi31 zi31 rfl rfl) rfl (AO.weaken (Wk.frz (L := [(4, (.ptr 1 0 0 0)), (9, (.agg [(i64 3), (i64 0), (i64 0), (i64 p1), .zc, .zc, (ls eRFrame [q3])]))]) (st' := [⟨0, 37, 2, [(eRImage p0)]⟩, ⟨0, 31, 7, [[(i64 0), (i64 0), (i64 0), (i64 0), .zc, .zc, .zc]]⟩, ⟨1, 79, 6, []⟩]) (id := 2) rfl (show 0 ≤ 2 by decide) (pure_map fun _ => rfl) ⟨.rfl, (.agg ⟨.rfl, .rfl, .rfl, .rfl, .rfl, .rfl, (.frz1 rfl), trivial⟩), trivial⟩ rfl) (ao_str (st' := [⟨0, 37, 2, [(eRImage p0)]⟩, ⟨0, 31, 7, [[(i64 3), (i64 0), (i64 0), (i64 p1), .zc, .zc, (ls eRFrame [q3])]]⟩, ⟨1, 79, 6, []⟩]) go0 ti31 rfl rfl rfl rfl rfl rfl (show 0 + 7 ≤ 7 by decide) rfl (dn hK2 rfl ?_)))
 replace h0 := Sh.some_eq h0
 subst r
 exact AW.ret (Exists.intro _ (And.intro ((((Wk.cellLe (id := 1) (cs := [(i64 3), (i64 0), (i64 0), (i64 p1), .zc, .zc, (ls eRFrame [q3])]) (cs' := [(i64 3), (i64 0), (i64 0), (i64 p1), (.sl (List.map eI [])), .zc, (ls eRFrame [q3])]) (st' := [⟨0, 37, 2, [(eRImage p0)]⟩, ⟨0, 31, 7, [[(i64 3), (i64 0), (i64 0), (i64 p1), (.sl (List.map eI [])), .zc, (ls eRFrame [q3])]]⟩, ⟨1, 79, 6, []⟩]) rfl ⟨le.rfl, le.rfl, le.rfl, le.rfl, le.zc, le.rfl, le.rfl, trivial⟩ rfl rfl).trans (Wk.cellLe (id := 1) (cs := [(i64 3), (i64 0), (i64 0), (i64 p1), (.sl (List.map eI [])), .zc, (ls eRFrame [q3])]) (cs' := [(i64 3), (i64 0), (i64 0), (i64 p1), (.sl (List.map eI [])), (.sl (List.map eCell [])), (ls eRFrame [q3])]) (st' := [⟨0, 37, 2, [(eRImage p0)]⟩, ⟨0, 31, 7, [[(i64 3), (i64 0), (i64 0), (i64 p1), (.sl (List.map eI [])), (.sl (List.map eCell [])), (ls eRFrame [q3])]]⟩, ⟨1, 79, 6, []⟩]) rfl ⟨le.rfl, le.rfl, le.rfl, le.rfl, le.rfl, le.zc, le.rfl, trivial⟩ rfl rfl)).trans (Wk.permk (L := [(4, (.ptr 0 0 0 0))]) (st' := [⟨0, 31, 7, [[(i64 3), (i64 0), (i64 0), (i64 p1), (.sl (List.map eI [])), (.sl (List.map eCell [])), (ls eRFrame [q3])]]⟩]) (st1 := [⟨0, 31, 7, [[(i64 3), (i64 0), (i64 0), (i64 p1), (.sl (List.map eI [])), (.sl (List.map eCell [])), (ls eRFrame [q3])]]⟩]) [1] rfl .nil (by decide) rfl rfl (.raw rfl rfl .nil) ⟨.rfl, trivial⟩)).trans (Wk.to (L := [(4, (.ptr 0 0 0 0))]) ⟨.rfl, trivial⟩)) (aq_ldpa (x := .tmp 4) (off := 0) (cs := [(i64 3), (i64 0), (i64 0), (i64 p1), (.sl (List.map eI [])), (.sl (List.map eCell [])), (ls eRFrame [q3])]) (vs := [(i64 3), (i64 0), (i64 0), (i64 p1), (.sl (List.map eI [])), (.sl (List.map eCell [])), (ls eRFrame [q3])]) ti31 rfl rfl rfl (show 0 + 7 ≤ 7 by decide) rfl _ rfl)))
theorem impl_StartState_2_ok {N : Nat} {p0 : RImage} {p1 : Int} {r : RState × Bool} (h0 : impl_StartState N p0 p1 = some r) : ACalls Try.prog 7 [(.agg (eRImage p0)), (i64 p1)] [] (fun v st => v = (.tup [(.agg (eRState r.1)), (.bool r.2)]) ∧ st = []) := by
 unfold impl_StartState at h0
 refine ACalls.flat rfl (ai Try.func7 rfl rfl rfl rfl (sr rfl fun K1 hK1 => ao_box (m := 0) (st' := [⟨0, 37, 2, [(eRImage p0)]⟩]) go0 rfl rfl rfl rfl rfl (ao_alloc (m := 1) (st' := [⟨0, 37, 2, [(eRImage p0)]⟩, ⟨0, 31, 7, [[(i64 0), (i64 0), (i64 0), (i64 0), .zc, .zc, .zc]]⟩]) go0 zi31 rfl rfl (zq tb rfl (dn hK1 rfl (AW.seq fun K2 hK2 => AW.seq fun K3 hK3 => bs h0 fun o5 h1 h0 => ?_))))))
 have M5 : ∀ (t4 : Bool), o5 = t4 → ∀ s, Wk 0 s ⟨21, envL [(1, (i64 p1)), (2, (.ptr 0 0 0 0)), (4, (.ptr 1 0 0 0)), (16, (.bool t4))], [⟨0, 37, 2, [(eRImage p0)]⟩, ⟨0, 31, 7, [[(i64 0), (i64 0), (i64 0), (i64 0), .zc, .zc, .zc]]⟩]⟩ → K3 s := by
  intro t4 hq s hw
  subst o5
  try dsimp only at h0
  refine hK3 _ (AW.weaken hw ?_)
  refine ci h0 rfl ?_ ?_ <;> clear h0
  ·intro b6 h0
   refine sr rfl fun K7 hK7 => zz (.agg [(i64 0), (i64 0), (i64 0), (i64 0), .zc, .zc, .zc]) (aq_bd ai31 bi31 zi31 rfl rfl) rfl (ao_str (st' := [⟨0, 37, 2, [(eRImage p0)]⟩, ⟨0, 31, 7, [[(i64 0), (i64 0), (i64 0), (i64 0), .zc, .zc, .zc]]⟩]) go0 ti31 rfl rfl rfl rfl rfl rfl (show 0 + 7 ≤ 7 by decide) rfl (zq tb rfl (dn hK7 rfl ?_)))
   replace h0 := Sh.some_eq h0
   subst r
   exact AW.ret (Exists.intro _ (And.intro (((((Wk.cellLe (id := 1) (cs := [(i64 0), (i64 0), (i64 0), (i64 0), .zc, .zc, .zc]) (cs' := [(i64 0), (i64 0), (i64 0), (i64 0), (.sl (List.map eI [])), .zc, .zc]) (st' := [⟨0, 37, 2, [(eRImage p0)]⟩, ⟨0, 31, 7, [[(i64 0), (i64 0), (i64 0), (i64 0), (.sl (List.map eI [])), .zc, .zc]]⟩]) rfl ⟨le.rfl, le.rfl, le.rfl, le.rfl, le.zc, le.rfl, le.rfl, trivial⟩ rfl rfl).trans (Wk.cellLe (id := 1) (cs := [(i64 0), (i64 0), (i64 0), (i64 0), (.sl (List.map eI [])), .zc, .zc]) (cs' := [(i64 0), (i64 0), (i64 0), (i64 0), (.sl (List.map eI [])), (.sl (List.map eCell [])), .zc]) (st' := [⟨0, 37, 2, [(eRImage p0)]⟩, ⟨0, 31, 7, [[(i64 0), (i64 0), (i64 0), (i64 0), (.sl (List.map eI [])), (.sl (List.map eCell [])), .zc]]⟩]) rfl ⟨le.rfl, le.rfl, le.rfl, le.rfl, le.rfl, le.zc, le.rfl, trivial⟩ rfl rfl)).trans (Wk.cellLe (id := 1) (cs := [(i64 0), (i64 0), (i64 0), (i64 0), (.sl (List.map eI [])), (.sl (List.map eCell [])), .zc]) (cs' := [(i64 0), (i64 0), (i64 0), (i64 0), (.sl (List.map eI [])), (.sl (List.map eCell [])), (.sl (List.map eRFrame []))]) (st' := [⟨0, 37, 2, [(eRImage p0)]⟩, ⟨0, 31, 7, [[(i64 0), (i64 0), (i64 0), (i64 0), (.sl (List.map eI [])), (.sl (List.map eCell [])), (.sl (List.map eRFrame []))]]⟩]) rfl ⟨le.rfl, le.rfl, le.rfl, le.rfl, le.rfl, le.rfl, le.zc, trivial⟩ rfl rfl)).trans (Wk.permk (L := [(4, (.ptr 0 0 0 0)), (5, (.bool false))]) (st' := [⟨0, 31, 7, [[(i64 0), (i64 0), (i64 0), (i64 0), (.sl (List.map eI [])), (.sl (List.map eCell [])), (.sl (List.map eRFrame []))]]⟩]) (st1 := [⟨0, 31, 7, [[(i64 0), (i64 0), (i64 0), (i64 0), (.sl (List.map eI [])), (.sl (List.map eCell [])), (.sl (List.map eRFrame []))]]⟩]) [1] rfl .nil (by decide) rfl rfl (.raw rfl rfl .nil) ⟨.rfl, .rfl, trivial⟩)).trans (Wk.to (L := [(4, (.ptr 0 0 0 0)), (5, (.bool false))]) ⟨.rfl, .rfl, trivial⟩)) (aq_ldpa (x := .tmp 4) (off := 0) (cs := [(i64 0), (i64 0), (i64 0), (i64 0), (.sl (List.map eI [])), (.sl (List.map eCell [])), (.sl (List.map eRFrame []))]) (vs := [(i64 0), (i64 0), (i64 0), (i64 0), (.sl (List.map eI [])), (.sl (List.map eCell [])), (.sl (List.map eRFrame []))]) ti31 rfl rfl rfl (show 0 + 7 ≤ 7 by decide) rfl _ rfl)))
  ·intro b6 h0
   refine AW.skip (hK2 _ (sr rfl fun K8 hK8 => zm tb 2 rfl (bs h0 fun q9 gq9 h0 => zc (v' := (.agg (eRState q9))) hb21 (impl_startState_2_ok gq9) rfl rfl rfl (ao_str (st' := [⟨0, 37, 2, [(eRImage p0)]⟩, ⟨0, 31, 7, [(eRState q9)]⟩]) go0 ti31 rfl rfl rfl rfl rfl rfl (show 0 + 7 ≤ 7 by decide) rfl (zq tb rfl (dn hK8 rfl ?_))))))
   replace h0 := Sh.some_eq h0
   subst r
   exact AW.ret (Exists.intro _ (And.intro ((Wk.permk (L := [(4, (.ptr 0 0 0 0)), (5, (.bool true))]) (st' := [⟨0, 31, 7, [(eRState q9)]⟩]) (st1 := [⟨0, 31, 7, [(eRState q9)]⟩]) [1] rfl .nil (by decide) rfl rfl (.raw rfl rfl .nil) ⟨.rfl, .rfl, trivial⟩).trans (Wk.to (L := [(4, (.ptr 0 0 0 0)), (5, (.bool true))]) ⟨.rfl, .rfl, trivial⟩)) (aq_ldpa (x := .tmp 4) (off := 0) (cs := (eRState q9)) (vs := (eRState q9)) ti31 rfl rfl rfl (show 0 + 7 ≤ 7 by decide) rfl _ rfl)))
 refine AW.regionO rfl (zq tb rfl (bs h1 fun q10 gq10 h1 => zc hb20 (impl_ValidImage_ok gq10) rfl rfl rfl (zm tb 2 rfl ?_)))
 rcases Sh.ite_some h1 with ⟨b11, h1⟩ | ⟨b11, h1⟩
 ·exact zs b11 rfl (zs b11 rfl (zt b11 rfl (zq tb rfl (zs rfl rfl (zs rfl rfl (zt rfl rfl (AO.done (M5 true (Sh.some_eq h1).symm _ (Wk.tr rfl)))))))))
 ·refine zg tb b11 rfl (zg tb b11 rfl (zf b11 rfl (zq tb rfl ?_)))
  rcases Sh.ite_some h1 with ⟨b12, h1⟩ | ⟨b12, h1⟩
  ·exact zs b12 rfl (zs b12 rfl (zt b12 rfl (AO.done (M5 true (Sh.some_eq h1).symm _ (Wk.tr rfl)))))
  ·exact zg tb b12 rfl (zg tb b12 rfl (zf b12 rfl (AO.done (M5 (decide (40 < p1)) (Sh.some_eq h1).symm _ (Wk.tr rfl)))))
theorem laws_FnExactStartState_ok {N : Nat} {p0 : RImage} {p1 : Int} {r : Bool} (h0 : laws_FnExactStartState N p0 p1 = some r) : ACalls Try.prog 3 [(.agg (eRImage p0)), (i64 p1)] [] (fun v st => v = (.bool r) ∧ st = []) := by
 unfold laws_FnExactStartState at h0
 refine ai Try.func3 rfl rfl rfl rfl (sr rfl fun K1 hK1 => ao_box (m := 0) (st' := [⟨0, 25, 2, [(eRImage p0)]⟩]) go0 rfl rfl rfl rfl rfl (zq tb rfl (dn hK1 rfl (zr tb rfl rfl (sr rfl fun K3 hK3 => zm tb 2 rfl (bs h0 fun q4 gq4 h0 => zc hb4 (laws_szImage_ok gq4) rfl rfl rfl (zq tb rfl (dn hK3 rfl ?_))))))))
 refine AW.seq fun K5 hK5 => zr tb rfl rfl ?_
 refine ci h0 rfl ?_ ?_ <;> clear h0
 ·intro b7 h0
  refine zr tb rfl rfl ?_
  replace h0 := Sh.some_eq h0
  subst r
  exact AW.ret (xr (Wk.d0 [(4, (.bool true))] rfl))
 ·intro b7 h0
  refine AW.skip (hK5 _ (sr rfl fun K9 hK9 => zq tb rfl (bs h0 fun q10 gq10 h0 => zc (v' := (.agg (eRImage q10))) hb6 (laws_toImage_ok gq10) rfl rfl rfl (zq tb rfl (bs h0 fun q11 gq11 h0 => zc (v' := (.tup [(.agg (eRState q11.1)), (.bool q11.2)])) hb5 (spec_StartState_ok gq11) rfl rfl rfl (zm tb 3 rfl (ao_alloc (m := 1) (st' := [⟨0, 25, 2, [(eRImage p0)]⟩, ⟨0, 31, 7, [[(i64 0), (i64 0), (i64 0), (i64 0), .zc, .zc, .zc]]⟩]) go0 zi31 rfl rfl (ao_str (st' := [⟨0, 25, 2, [(eRImage p0)]⟩, ⟨0, 31, 7, [(eRState q11.1)]⟩]) go0 ti31 rfl rfl rfl rfl rfl rfl (show 0 + 7 ≤ 7 by decide) rfl (zq tb rfl ?_)))))))))
  refine dn hK9 rfl (sr rfl fun K12 hK12 => zq tb rfl (bs h0 fun q13 gq13 h0 => ao_call (v' := (.agg [(ow 2 0 q13.decls), (ow 3 0 q13.procs)])) (st' := [⟨0, 25, 2, [(eRImage p0)]⟩, ⟨0, 31, 7, [(eRState q11.1)]⟩, (ro 0 83 3 (eRDeclD 128 3) q13.decls), (ro 0 77 5 (eRProcD 3 3 92 3 3) q13.procs)]) go0 hb6 (laws_toImage_2_ok gq13) rfl rfl ⟨(pure_mapD fun _ => rfl), ⟨(pure_mapD fun _ => rfl), trivial⟩⟩ rfl rfl (ao_alloc (m := 4) (st' := [⟨0, 25, 2, [(eRImage p0)]⟩, ⟨0, 31, 7, [(eRState q11.1)]⟩, (ro 0 83 3 (eRDeclD 128 3) q13.decls), (ro 0 77 5 (eRProcD 3 3 92 3 3) q13.procs), ⟨0, 37, 2, [[.zc, .zc]]⟩]) go0 zi37 rfl rfl (ao_str (st' := [⟨0, 25, 2, [(eRImage p0)]⟩, ⟨0, 31, 7, [(eRState q11.1)]⟩, (ro 0 83 3 (eRDeclD 128 3) q13.decls), (ro 0 77 5 (eRProcD 3 3 92 3 3) q13.procs), ⟨0, 37, 2, [[(ow 2 0 q13.decls), (ow 3 0 q13.procs)]]⟩]) go0 ti37 rfl rfl rfl rfl rfl rfl (show 0 + 2 ≤ 2 by decide) rfl (dn hK12 rfl (sr rfl fun K14 hK14 => zm tb 2 rfl (bs h0 fun q15 gq15 h0 => ao_callb (v' := (.tup [(.agg [(i64 q15.1.status), (i64 q15.1.value), (i64 q15.1.calls), (i64 q15.1.most), (ow 5 0 q15.1.out), (ow 6 0 q15.1.heap), (ow 7 0 q15.1.frames)]), (.bool q15.2)])) (st' := [⟨0, 25, 2, [(eRImage p0)]⟩, ⟨0, 31, 7, [(eRState q11.1)]⟩, (ro 0 83 3 (eRDeclD 128 3) q13.decls), (ro 0 77 5 (eRProcD 3 3 92 3 3) q13.procs), ⟨0, 37, 2, [[(ow 2 0 q13.decls), (ow 3 0 q13.procs)]]⟩, (ro 0 3 1 eI q15.1.out), (ro 0 97 3 (eCellD 3) q15.1.heap), (ro 0 79 6 (eRFrameD 3 3 3) q15.1.frames)]) go0 hb7 (impl_StartState_ok gq15) rfl (.agg (.ownD rfl rfl (fun _ => rfl) (fun x => eRDeclD_und x) (.ownD rfl rfl (fun _ => rfl) (fun x => eRProcD_und x) .nil)) (.val rfl .nil)) rfl (srow (fun _ => rfl) (srowD (fun _ => rfl) (srowD (fun _ => rfl) trivial))) rfl rfl ?_)))))))
  refine zm tb 3 rfl (ao_alloc (m := 8) (st' := [⟨0, 25, 2, [(eRImage p0)]⟩, ⟨0, 31, 7, [(eRState q11.1)]⟩, (ro 0 83 3 (eRDeclD 128 3) q13.decls), (ro 0 77 5 (eRProcD 3 3 92 3 3) q13.procs), ⟨0, 37, 2, [[(ow 2 0 q13.decls), (ow 3 0 q13.procs)]]⟩, (ro 0 3 1 eI q15.1.out), (ro 0 97 3 (eCellD 3) q15.1.heap), (ro 0 79 6 (eRFrameD 3 3 3) q15.1.frames), ⟨0, 31, 7, [[(i64 0), (i64 0), (i64 0), (i64 0), .zc, .zc, .zc]]⟩]) go0 zi31 rfl rfl (ao_str (st' := [⟨0, 25, 2, [(eRImage p0)]⟩, ⟨0, 31, 7, [(eRState q11.1)]⟩, (ro 0 83 3 (eRDeclD 128 3) q13.decls), (ro 0 77 5 (eRProcD 3 3 92 3 3) q13.procs), ⟨0, 37, 2, [[(ow 2 0 q13.decls), (ow 3 0 q13.procs)]]⟩, (ro 0 3 1 eI q15.1.out), (ro 0 97 3 (eCellD 3) q15.1.heap), (ro 0 79 6 (eRFrameD 3 3 3) q15.1.frames), ⟨0, 31, 7, [[(i64 q15.1.status), (i64 q15.1.value), (i64 q15.1.calls), (i64 q15.1.most), (ow 5 0 q15.1.out), (ow 6 0 q15.1.heap), (ow 7 0 q15.1.frames)]]⟩]) go0 ti31 rfl rfl rfl rfl rfl rfl (show 0 + 7 ≤ 7 by decide) rfl (zq tb rfl (dn hK14 rfl (AW.seq fun K16 hK16 => AW.seq fun K17 hK17 => bs h0 fun o19 h1 h0 => ?_)))))
  have M19 : ∀ (t18 : Bool), o19 = t18 → ∀ s, Wk 0 s ⟨101, envL [(1, (i64 p1)), (2, (.ptr 0 0 0 0)), (6, (.ptr 1 0 0 0)), (7, (.bool q11.2)), (8, (.ptr 4 0 0 0)), (9, (.ptr 8 0 0 0)), (10, (.bool q15.2)), (44, (.bool t18))], [⟨0, 25, 2, [(eRImage p0)]⟩, ⟨0, 31, 7, [(eRState q11.1)]⟩, (ro 0 83 3 (eRDeclD 128 3) q13.decls), (ro 0 77 5 (eRProcD 3 3 92 3 3) q13.procs), ⟨0, 37, 2, [[(ow 2 0 q13.decls), (ow 3 0 q13.procs)]]⟩, (ro 0 3 1 eI q15.1.out), (ro 0 97 3 (eCellD 3) q15.1.heap), (ro 0 79 6 (eRFrameD 3 3 3) q15.1.frames), ⟨0, 31, 7, [[(i64 q15.1.status), (i64 q15.1.value), (i64 q15.1.calls), (i64 q15.1.most), (ow 5 0 q15.1.out), (ow 6 0 q15.1.heap), (ow 7 0 q15.1.frames)]]⟩]⟩ → K17 s := by
   intro t18 hq s hw
   subst o19
   try dsimp only at h0
   refine hK17 _ (AW.weaken hw ?_)
   refine ci h0 rfl ?_ ?_ <;> clear h0
   ·intro b20 h0
    refine zr tb rfl rfl ?_
    replace h0 := Sh.some_eq h0
    subst r
    exact AW.ret (xr (Wk.d0 [(4, (.bool false))] rfl))
   ·intro b20 h0
    refine AW.skip (hK16 _ (AW.seq fun K22 hK22 => AW.seq fun K23 hK23 => ?_))
    refine AW.draw (by kernel_rfl) (by kernel_rfl) (by rfl) ?_
    iterate 2 refine yq tb rfl ?_
    refine bs h0 fun q24 gq24 h0 => d_call (v := (.agg (eRImage q24))) go0 hb6 (laws_toImage_ok gq24) rfl rfl rfl (bs h0 fun q25 gq25 h0 => d_callb (v' := (.bool q25)) go0 hb9 (laws_eqImage_ok gq25) rfl (.agg (.ownD rfl rfl (fun _ => rfl) (fun x => eRDeclD_und x) (.ownD rfl rfl (fun _ => rfl) (fun x => eRProcD_und x) .nil)) (.val rfl .nil)) rfl rfl (yq tb rfl (d_done (hK23 _ ?_))))
    refine ci h0 rfl ?_ ?_ <;> clear h0
    ·intro b26 h0
     have b27 : q25 = false := by simpa using b26
     refine zr tb rfl rfl ?_
     replace h0 := Sh.some_eq h0
     subst r
     exact AW.ret (xr (Wk.d0 [(4, (.bool false))] rfl))
    ·intro b26 h0
     have b29 : q25 = true := by simpa using b26
     refine AW.skip (hK22 _ (zr tb rfl rfl (sr rfl fun K31 hK31 => zm tb 2 rfl (bs h0 fun q32 gq32 h0 => ?_))))
     refine ao_callsL (rowsP := [⟨0, 83, 3, List.map (eRDeclD 128 3) q13.decls⟩, ⟨0, 77, 5, List.map (eRProcD 3 3 92 3 3) q13.procs⟩]) (rows0 := [⟨0, 83, 3, List.map (eRDeclD 128 3) q13.decls⟩, ⟨0, 77, 5, List.map (eRProcD 3 3 92 3 3) q13.procs⟩]) (rows1 := [⟨0, 83, 3, List.map (eRDeclD 128 3) q32.2.1⟩, ⟨0, 77, 5, List.map (eRProcD 3 3 92 3 3) q32.2.2⟩]) (rows2 := []) (rows1' := [⟨0, 83, 3, List.map (eRDeclD 128 3) q32.2.1⟩, ⟨0, 77, 5, List.map (eRProcD 3 3 92 3 3) q32.2.2⟩]) (rows2' := []) (st' := [⟨0, 25, 2, [(eRImage p0)]⟩, ⟨0, 31, 7, [(eRState q11.1)]⟩, ⟨0, 83, 3, List.map (eRDeclD 128 3) q32.2.1⟩, ⟨0, 77, 5, List.map (eRProcD 3 3 92 3 3) q32.2.2⟩, ⟨0, 37, 2, [[(.own 2 0 (List.length q13.decls)), (.own 3 0 (List.length q13.procs))]]⟩, ⟨0, 3, 1, List.map eI q15.1.out⟩, ⟨0, 97, 3, List.map (eCellD 3) q15.1.heap⟩, ⟨0, 79, 6, List.map (eRFrameD 3 3 3) q15.1.frames⟩, ⟨0, 31, 7, [[(i64 q15.1.status), (i64 q15.1.value), (i64 q15.1.calls), (i64 q15.1.most), (.own 5 0 (List.length q15.1.out)), (.own 6 0 (List.length q15.1.heap)), (.own 7 0 (List.length q15.1.frames))]]⟩]) (v' := (i64 q32.1)) [2, 3] go0 hb10 (laws_markImage_ok gq32) rfl (by decide) rfl rfl (.deep (pure_mapD fun _ => rfl) (.deep (pure_mapD fun _ => rfl) .nil)) rfl rfl (.deep (pure_mapD fun _ => rfl) (.deep (pure_mapD fun _ => rfl) .nil)) .nil rfl rfl (fun hln => ?_)
     have ln33 : List.length q32.2.1 = List.length q13.decls := by simpa only [List.length_map] using hln 0 _ _ rfl rfl rfl
     have ln34 : List.length q32.2.2 = List.length q13.procs := by simpa only [List.length_map] using hln 1 _ _ rfl rfl rfl
     refine zq tb rfl (dn hK31 rfl (AW.seq fun K35 hK35 => AW.seq fun K36 hK36 => bs h0 fun o38 h1 h0 => ?_))
     have M38 : ∀ (t37 : Bool), o38 = t37 → ∀ s, Wk 0 s ⟨101, envL [(1, (i64 p1)), (2, (.ptr 0 0 0 0)), (6, (.ptr 1 0 0 0)), (7, (.bool q11.2)), (9, (.ptr 5 0 0 0)), (65, (.bool t37))], [⟨0, 25, 2, [(eRImage p0)]⟩, ⟨0, 31, 7, [(eRState q11.1)]⟩, (ro 0 3 1 eI q15.1.out), (ro 0 97 3 (eCellD 3) q15.1.heap), (ro 0 79 6 (eRFrameD 3 3 3) q15.1.frames), ⟨0, 31, 7, [[(i64 q15.1.status), (i64 q15.1.value), (i64 q15.1.calls), (i64 q15.1.most), (ow 2 0 q15.1.out), (ow 3 0 q15.1.heap), (ow 4 0 q15.1.frames)]]⟩]⟩ → K36 s := by
      intro t37 hq s hw
      subst o38
      try dsimp only at h0
      refine hK36 _ (AW.weaken hw ?_)
      refine ci h0 rfl ?_ ?_ <;> clear h0
      ·intro b39 h0
       refine zr tb rfl rfl ?_
       replace h0 := Sh.some_eq h0
       subst r
       exact AW.ret (xr (Wk.d0 [(4, (.bool false))] rfl))
      ·intro b39 h0
       refine AW.skip (hK35 _ (zr tb rfl rfl (sr rfl fun K42 hK42 => zm tb 2 rfl (bs h0 fun q43 gq43 h0 => ?_))))
       refine ao_callsL (rowsP := [⟨0, 3, 1, List.map eI q15.1.out⟩, ⟨0, 97, 3, List.map (eCellD 3) q15.1.heap⟩, ⟨0, 79, 6, List.map (eRFrameD 3 3 3) q15.1.frames⟩]) (rows0 := [⟨0, 3, 1, List.map eI q15.1.out⟩, ⟨0, 97, 3, List.map (eCellD 3) q15.1.heap⟩, ⟨0, 79, 6, List.map (eRFrameD 3 3 3) q15.1.frames⟩]) (rows1 := [⟨0, 3, 1, List.map eI q43.2.1⟩, ⟨0, 97, 3, List.map (eCellD 3) q43.2.2.1⟩, ⟨0, 79, 6, List.map (eRFrameD 3 3 3) q43.2.2.2⟩]) (rows2 := []) (rows1' := [⟨0, 3, 1, List.map eI q43.2.1⟩, ⟨0, 97, 3, List.map (eCellD 3) q43.2.2.1⟩, ⟨0, 79, 6, List.map (eRFrameD 3 3 3) q43.2.2.2⟩]) (rows2' := []) (st' := [⟨0, 25, 2, [(eRImage p0)]⟩, ⟨0, 31, 7, [(eRState q11.1)]⟩, ⟨0, 3, 1, List.map eI q43.2.1⟩, ⟨0, 97, 3, List.map (eCellD 3) q43.2.2.1⟩, ⟨0, 79, 6, List.map (eRFrameD 3 3 3) q43.2.2.2⟩, ⟨0, 31, 7, [[(i64 q15.1.status), (i64 q15.1.value), (i64 q15.1.calls), (i64 q15.1.most), (.own 2 0 (List.length q15.1.out)), (.own 3 0 (List.length q15.1.heap)), (.own 4 0 (List.length q15.1.frames))]]⟩]) (v' := (i64 q43.1)) [2, 3, 4] go0 hb11 (laws_markState_ok gq43) rfl (by decide) rfl rfl (.pure (pure_map fun _ => rfl) (.deep (pure_mapD fun _ => rfl) (.deep (pure_mapD fun _ => rfl) .nil))) rfl rfl (.pure (pure_map fun _ => rfl) (.deep (pure_mapD fun _ => rfl) (.deep (pure_mapD fun _ => rfl) .nil))) .nil rfl rfl (fun hln => ?_)
       have ln44 : List.length q43.2.1 = List.length q15.1.out := by simpa only [List.length_map] using hln 0 _ _ rfl rfl rfl
       have ln45 : List.length q43.2.2.1 = List.length q15.1.heap := by simpa only [List.length_map] using hln 1 _ _ rfl rfl rfl
       have ln46 : List.length q43.2.2.2 = List.length q15.1.frames := by simpa only [List.length_map] using hln 2 _ _ rfl rfl rfl
       refine zq tb rfl (dn hK42 rfl (zr tb rfl rfl (sr rfl fun K48 hK48 => zm tb 2 rfl (bs h0 fun q49 gq49 h0 => ?_))))
       refine ao_callb (v' := (i64 q49)) (st' := [⟨0, 25, 2, [(eRImage p0)]⟩, ⟨0, 31, 7, [(eRState q11.1)]⟩, ⟨0, 3, 1, List.map eI q43.2.1⟩, ⟨0, 97, 3, List.map (eCellD 3) q43.2.2.1⟩, ⟨0, 79, 6, List.map (eRFrameD 3 3 3) q43.2.2.2⟩, ⟨0, 31, 7, [[(i64 q15.1.status), (i64 q15.1.value), (i64 q15.1.calls), (i64 q15.1.most), (.own 2 0 (List.length q15.1.out)), (.own 3 0 (List.length q15.1.heap)), (.own 4 0 (List.length q15.1.frames))]]⟩]) go0 hb12 (laws_heldState_ok gq49) rfl (.agg (.val rfl (.val rfl (.val rfl (.val rfl (.own rfl (by first | (simp only [Sh.put_len]; done) | (simp only [Sh.put_len]; omega) | omega) (fun _ => rfl) (.ownD rfl (by first | (simp only [Sh.put_len]; done) | (simp only [Sh.put_len]; omega) | omega) (fun _ => rfl) (fun x => eCellD_und x) (.ownD rfl (by first | (simp only [Sh.put_len]; done) | (simp only [Sh.put_len]; omega) | omega) (fun _ => rfl) (fun x => eRFrameD_und x) .nil))))))) (.val rfl .nil)) rfl trivial rfl rfl ?_
       refine zq tb rfl (dn hK48 rfl (AW.seq fun K50 hK50 => zr tb rfl rfl ?_))
       refine ci h0 rfl ?_ ?_ <;> clear h0
       ·intro b52 h0
        refine zr tb rfl rfl ?_
        replace h0 := Sh.some_eq h0
        subst r
        exact AW.ret (Exists.intro _ (And.intro (((Wk.steq (st := [⟨0, 25, 2, [(eRImage p0)]⟩, ⟨0, 31, 7, [(eRState q11.1)]⟩, ⟨0, 3, 1, List.map eI q43.2.1⟩, ⟨0, 97, 3, List.map (eCellD 3) q43.2.2.1⟩, ⟨0, 79, 6, List.map (eRFrameD 3 3 3) q43.2.2.2⟩, ⟨0, 31, 7, [[(i64 q15.1.status), (i64 q15.1.value), (i64 q15.1.calls), (i64 q15.1.most), (.own 2 0 (List.length q15.1.out)), (.own 3 0 (List.length q15.1.heap)), (.own 4 0 (List.length q15.1.frames))]]⟩]) (st' := [⟨0, 25, 2, [(eRImage p0)]⟩, ⟨0, 31, 7, [(eRState q11.1)]⟩, ⟨0, 3, 1, List.map eI q43.2.1⟩, ⟨0, 97, 3, List.map (eCellD 3) q43.2.2.1⟩, ⟨0, 79, 6, List.map (eRFrameD 3 3 3) q43.2.2.2⟩, ⟨0, 31, 7, [[(i64 q15.1.status), (i64 q15.1.value), (i64 q15.1.calls), (i64 q15.1.most), (.own 2 0 (List.length q43.2.1)), (.own 3 0 (List.length q43.2.2.1)), (.own 4 0 (List.length q43.2.2.2))]]⟩]) (by first | (simp only [Sh.put_len]; done) | simp only [Sh.put_len, ln33, ln34, ln44, ln45, ln46] | simp only [ln33, ln34, ln44, ln45, ln46])).trans (Wk.permk (L := [(4, (.bool false))]) (st' := []) (st1 := []) [] rfl .nil (by decide) rfl rfl .nil ⟨.rfl, trivial⟩)).trans (Wk.to (L := [(4, (.bool false))]) ⟨.rfl, trivial⟩)) (And.intro rfl rfl)))
       ·intro b52 h0
        refine AW.skip (hK50 _ (AW.seq fun K54 hK54 => zr tb rfl rfl ?_))
        refine ci h0 rfl ?_ ?_ <;> clear h0
        ·intro b56 h0
         have b57 : decide (q49 = q43.1) = false := by simpa using b56
         refine zr tb rfl rfl ?_
         replace h0 := Sh.some_eq h0
         subst r
         exact AW.ret (Exists.intro _ (And.intro (((Wk.steq (st := [⟨0, 25, 2, [(eRImage p0)]⟩, ⟨0, 31, 7, [(eRState q11.1)]⟩, ⟨0, 3, 1, List.map eI q43.2.1⟩, ⟨0, 97, 3, List.map (eCellD 3) q43.2.2.1⟩, ⟨0, 79, 6, List.map (eRFrameD 3 3 3) q43.2.2.2⟩, ⟨0, 31, 7, [[(i64 q15.1.status), (i64 q15.1.value), (i64 q15.1.calls), (i64 q15.1.most), (.own 2 0 (List.length q15.1.out)), (.own 3 0 (List.length q15.1.heap)), (.own 4 0 (List.length q15.1.frames))]]⟩]) (st' := [⟨0, 25, 2, [(eRImage p0)]⟩, ⟨0, 31, 7, [(eRState q11.1)]⟩, ⟨0, 3, 1, List.map eI q43.2.1⟩, ⟨0, 97, 3, List.map (eCellD 3) q43.2.2.1⟩, ⟨0, 79, 6, List.map (eRFrameD 3 3 3) q43.2.2.2⟩, ⟨0, 31, 7, [[(i64 q15.1.status), (i64 q15.1.value), (i64 q15.1.calls), (i64 q15.1.most), (.own 2 0 (List.length q43.2.1)), (.own 3 0 (List.length q43.2.2.1)), (.own 4 0 (List.length q43.2.2.2))]]⟩]) (by first | (simp only [Sh.put_len]; done) | simp only [Sh.put_len, ln33, ln34, ln44, ln45, ln46] | simp only [ln33, ln34, ln44, ln45, ln46])).trans (Wk.permk (L := [(4, (.bool false))]) (st' := []) (st1 := []) [] rfl .nil (by decide) rfl rfl .nil ⟨.rfl, trivial⟩)).trans (Wk.to (L := [(4, (.bool false))]) ⟨.rfl, trivial⟩)) (And.intro rfl rfl)))
        ·intro b56 h0
         have b59 : decide (q49 = q43.1) = true := by simpa using b56
         refine AW.skip (hK54 _ (sr rfl fun K60 hK60 => zq tb rfl (bs h0 fun q61 gq61 h0 => zc (v' := (.agg (eRImage q61))) hb6 (laws_toImage_ok gq61) rfl rfl rfl (zq tb rfl (bs h0 fun q62 gq62 h0 => zc (v' := (.tup [(.agg (eRState q62.1)), (.bool q62.2)])) hb7 (impl_StartState_2_ok gq62) rfl rfl rfl (zm tb 3 rfl (ao_alloc (m := 6) (st' := [⟨0, 25, 2, [(eRImage p0)]⟩, ⟨0, 31, 7, [(eRState q11.1)]⟩, (ro 0 3 1 eI q43.2.1), (ro 0 97 3 (eCellD 3) q43.2.2.1), (ro 0 79 6 (eRFrameD 3 3 3) q43.2.2.2), ⟨0, 31, 7, [[(i64 q15.1.status), (i64 q15.1.value), (i64 q15.1.calls), (i64 q15.1.most), (ow 2 0 q15.1.out), (ow 3 0 q15.1.heap), (ow 4 0 q15.1.frames)]]⟩, ⟨0, 31, 7, [[(i64 0), (i64 0), (i64 0), (i64 0), .zc, .zc, .zc]]⟩]) go0 zi31 rfl rfl (ao_str (st' := [⟨0, 25, 2, [(eRImage p0)]⟩, ⟨0, 31, 7, [(eRState q11.1)]⟩, (ro 0 3 1 eI q43.2.1), (ro 0 97 3 (eCellD 3) q43.2.2.1), (ro 0 79 6 (eRFrameD 3 3 3) q43.2.2.2), ⟨0, 31, 7, [[(i64 q15.1.status), (i64 q15.1.value), (i64 q15.1.calls), (i64 q15.1.most), (ow 2 0 q15.1.out), (ow 3 0 q15.1.heap), (ow 4 0 q15.1.frames)]]⟩, ⟨0, 31, 7, [(eRState q62.1)]⟩]) go0 ti31 rfl rfl rfl rfl rfl rfl (show 0 + 7 ≤ 7 by decide) rfl (zq tb rfl ?_)))))))))
         refine dn hK60 rfl (AW.seq fun K63 hK63 => AW.seq fun K64 hK64 => bs h0 fun o66 h1 h0 => ?_)
         have M66 : ∀ (t65 : Bool), o66 = t65 → ∀ s, Wk 0 s ⟨101, envL [(9, (.ptr 3 0 0 0)), (12, (i64 q43.1)), (92, (.bool t65))], [(ro 0 3 1 eI q43.2.1), (ro 0 97 3 (eCellD 3) q43.2.2.1), (ro 0 79 6 (eRFrameD 3 3 3) q43.2.2.2), ⟨0, 31, 7, [[(i64 q15.1.status), (i64 q15.1.value), (i64 q15.1.calls), (i64 q15.1.most), (ow 0 0 q43.2.1), (ow 1 0 q43.2.2.1), (ow 2 0 q43.2.2.2)]]⟩]⟩ → K64 s := by
          intro t65 hq s hw
          subst o66
          try dsimp only at h0
          refine hK64 _ (AW.weaken hw ?_)
          refine ci h0 rfl ?_ ?_ <;> clear h0
          ·intro b67 h0
           refine zr tb rfl rfl ?_
           replace h0 := Sh.some_eq h0
           subst r
           exact AW.ret (xr (Wk.d0 [(4, (.bool false))] rfl))
          ·intro b67 h0
           refine AW.skip (hK63 _ (zr tb rfl rfl (sr rfl fun K70 hK70 => zm tb 2 rfl (bs h0 fun q71 gq71 h0 => ao_callb (v' := (i64 q71)) (st' := [(ro 0 3 1 eI q43.2.1), (ro 0 97 3 (eCellD 3) q43.2.2.1), (ro 0 79 6 (eRFrameD 3 3 3) q43.2.2.2), ⟨0, 31, 7, [[(i64 q15.1.status), (i64 q15.1.value), (i64 q15.1.calls), (i64 q15.1.most), (ow 0 0 q43.2.1), (ow 1 0 q43.2.2.1), (ow 2 0 q43.2.2.2)]]⟩]) go0 hb12 (laws_heldState_ok gq71) rfl (.agg (.val rfl (.val rfl (.val rfl (.val rfl (.own rfl rfl (fun _ => rfl) (.ownD rfl rfl (fun _ => rfl) (fun x => eCellD_und x) (.ownD rfl rfl (fun _ => rfl) (fun x => eRFrameD_und x) .nil))))))) (.val rfl .nil)) rfl trivial rfl rfl (zq tb rfl (dn hK70 rfl (AW.seq fun K72 hK72 => zr tb rfl rfl ?_)))))))
           refine ci h0 rfl ?_ ?_ <;> clear h0
           ·intro b74 h0
            refine zr tb rfl rfl ?_
            replace h0 := Sh.some_eq h0
            subst r
            exact AW.ret (xr (Wk.d0 [(4, (.bool false))] rfl))
           ·intro b74 h0
            refine AW.skip (hK72 _ (AW.seq fun K76 hK76 => zr tb rfl rfl ?_))
            refine ci h0 rfl ?_ ?_ <;> clear h0
            ·intro b78 h0
             have b79 : decide (q71 = q43.1) = false := by simpa using b78
             refine zr tb rfl rfl ?_
             replace h0 := Sh.some_eq h0
             subst r
             exact AW.ret (xr (Wk.d0 [(4, (.bool false))] rfl))
            ·intro b78 h0
             have b81 : decide (q71 = q43.1) = true := by simpa using b78
             refine AW.skip (hK76 _ (zr tb rfl rfl ?_))
             replace h0 := Sh.some_eq h0
             subst r
             exact AW.ret (xr (Wk.d0 [(4, (.bool true))] rfl))
         refine AW.regionO rfl (zm tb 2 rfl (bs h1 fun q83 gq83 h1 => zc hb8 (laws_eqState_ok gq83) rfl rfl rfl (zm tb 2 rfl ?_)))
         rcases Sh.ite_some h1 with ⟨b84, h1⟩ | ⟨b84, h1⟩
         ·refine zs b84 rfl (zs b84 rfl (zs b84 rfl (zt b84 rfl ?_)))
          exact AO.done (M66 true (Sh.some_eq h1).symm _ (by refine Wk.trans (Wk.steq (st := [⟨0, 25, 2, [(eRImage p0)]⟩, ⟨0, 31, 7, [(eRState q11.1)]⟩, ⟨0, 3, 1, List.map eI q43.2.1⟩, ⟨0, 97, 3, List.map (eCellD 3) q43.2.2.1⟩, ⟨0, 79, 6, List.map (eRFrameD 3 3 3) q43.2.2.2⟩, ⟨0, 31, 7, [[(i64 q15.1.status), (i64 q15.1.value), (i64 q15.1.calls), (i64 q15.1.most), (.own 2 0 (List.length q15.1.out)), (.own 3 0 (List.length q15.1.heap)), (.own 4 0 (List.length q15.1.frames))]]⟩, ⟨0, 31, 7, [(eRState q62.1)]⟩]) (st' := [⟨0, 25, 2, [(eRImage p0)]⟩, ⟨0, 31, 7, [(eRState q11.1)]⟩, ⟨0, 3, 1, List.map eI q43.2.1⟩, ⟨0, 97, 3, List.map (eCellD 3) q43.2.2.1⟩, ⟨0, 79, 6, List.map (eRFrameD 3 3 3) q43.2.2.2⟩, ⟨0, 31, 7, [[(i64 q15.1.status), (i64 q15.1.value), (i64 q15.1.calls), (i64 q15.1.most), (.own 2 0 (List.length q43.2.1)), (.own 3 0 (List.length q43.2.2.1)), (.own 4 0 (List.length q43.2.2.2))]]⟩, ⟨0, 31, 7, [(eRState q62.1)]⟩]) (by first | (simp only [Sh.put_len]; done) | simp only [Sh.put_len, ln33, ln34, ln44, ln45, ln46] | simp only [ln33, ln34, ln44, ln45, ln46])) ?_; exact Wk.permk (L := [(9, (.ptr 3 0 0 0)), (12, (i64 q43.1)), (92, (.bool true))]) (st' := [⟨0, 3, 1, List.map eI q43.2.1⟩, ⟨0, 97, 3, List.map (eCellD 3) q43.2.2.1⟩, ⟨0, 79, 6, List.map (eRFrameD 3 3 3) q43.2.2.2⟩, ⟨0, 31, 7, [[(i64 q15.1.status), (i64 q15.1.value), (i64 q15.1.calls), (i64 q15.1.most), (.own 0 0 (List.length q43.2.1)), (.own 1 0 (List.length q43.2.2.1)), (.own 2 0 (List.length q43.2.2.2))]]⟩]) (st1 := [⟨0, 3, 1, List.map eI q43.2.1⟩, ⟨0, 97, 3, List.map (eCellD 3) q43.2.2.1⟩, ⟨0, 79, 6, List.map (eRFrameD 3 3 3) q43.2.2.2⟩, ⟨0, 31, 7, [[(i64 q15.1.status), (i64 q15.1.value), (i64 q15.1.calls), (i64 q15.1.most), (.own 2 0 (List.length q43.2.1)), (.own 3 0 (List.length q43.2.2.1)), (.own 4 0 (List.length q43.2.2.2))]]⟩]) [2, 3, 4, 5] rfl .nil (by decide) rfl rfl (.pure (pure_map fun _ => rfl) (.deep (pure_mapD fun _ => rfl) (.deep (pure_mapD fun _ => rfl) (.raw rfl rfl .nil)))) ⟨.rfl, .rfl, .rfl, trivial⟩))
         ·refine zg tb b84 rfl (zg tb b84 rfl (zg tb b84 rfl (zf b84 rfl ?_)))
          exact AO.done (M66 (q62.2 != q11.2) (Sh.some_eq h1).symm _ (by refine Wk.trans (Wk.steq (st := [⟨0, 25, 2, [(eRImage p0)]⟩, ⟨0, 31, 7, [(eRState q11.1)]⟩, ⟨0, 3, 1, List.map eI q43.2.1⟩, ⟨0, 97, 3, List.map (eCellD 3) q43.2.2.1⟩, ⟨0, 79, 6, List.map (eRFrameD 3 3 3) q43.2.2.2⟩, ⟨0, 31, 7, [[(i64 q15.1.status), (i64 q15.1.value), (i64 q15.1.calls), (i64 q15.1.most), (.own 2 0 (List.length q15.1.out)), (.own 3 0 (List.length q15.1.heap)), (.own 4 0 (List.length q15.1.frames))]]⟩, ⟨0, 31, 7, [(eRState q62.1)]⟩]) (st' := [⟨0, 25, 2, [(eRImage p0)]⟩, ⟨0, 31, 7, [(eRState q11.1)]⟩, ⟨0, 3, 1, List.map eI q43.2.1⟩, ⟨0, 97, 3, List.map (eCellD 3) q43.2.2.1⟩, ⟨0, 79, 6, List.map (eRFrameD 3 3 3) q43.2.2.2⟩, ⟨0, 31, 7, [[(i64 q15.1.status), (i64 q15.1.value), (i64 q15.1.calls), (i64 q15.1.most), (.own 2 0 (List.length q43.2.1)), (.own 3 0 (List.length q43.2.2.1)), (.own 4 0 (List.length q43.2.2.2))]]⟩, ⟨0, 31, 7, [(eRState q62.1)]⟩]) (by first | (simp only [Sh.put_len]; done) | simp only [Sh.put_len, ln33, ln34, ln44, ln45, ln46] | simp only [ln33, ln34, ln44, ln45, ln46])) ?_; exact Wk.permk (L := [(9, (.ptr 3 0 0 0)), (12, (i64 q43.1)), (92, (.bool (q62.2 != q11.2)))]) (st' := [⟨0, 3, 1, List.map eI q43.2.1⟩, ⟨0, 97, 3, List.map (eCellD 3) q43.2.2.1⟩, ⟨0, 79, 6, List.map (eRFrameD 3 3 3) q43.2.2.2⟩, ⟨0, 31, 7, [[(i64 q15.1.status), (i64 q15.1.value), (i64 q15.1.calls), (i64 q15.1.most), (.own 0 0 (List.length q43.2.1)), (.own 1 0 (List.length q43.2.2.1)), (.own 2 0 (List.length q43.2.2.2))]]⟩]) (st1 := [⟨0, 3, 1, List.map eI q43.2.1⟩, ⟨0, 97, 3, List.map (eCellD 3) q43.2.2.1⟩, ⟨0, 79, 6, List.map (eRFrameD 3 3 3) q43.2.2.2⟩, ⟨0, 31, 7, [[(i64 q15.1.status), (i64 q15.1.value), (i64 q15.1.calls), (i64 q15.1.most), (.own 2 0 (List.length q43.2.1)), (.own 3 0 (List.length q43.2.2.1)), (.own 4 0 (List.length q43.2.2.2))]]⟩]) [2, 3, 4, 5] rfl .nil (by decide) rfl rfl (.pure (pure_map fun _ => rfl) (.deep (pure_mapD fun _ => rfl) (.deep (pure_mapD fun _ => rfl) (.raw rfl rfl .nil)))) ⟨.rfl, .rfl, .rfl, trivial⟩))
     refine AW.regionO rfl (zm tb 3 rfl ?_)
     rcases Sh.ite_some h1 with ⟨b85, h1⟩ | ⟨b85, h1⟩
     ·refine zs b85 rfl ?_
      iterate 3 refine zs b85 rfl ?_
      refine zt b85 rfl (zq tb rfl ?_)
      iterate 3 refine zs rfl rfl ?_
      refine zt rfl rfl ?_
      exact AO.done (M38 true (Sh.some_eq h1).symm _ (by refine Wk.trans (Wk.steq (st := [⟨0, 25, 2, [(eRImage p0)]⟩, ⟨0, 31, 7, [(eRState q11.1)]⟩, ⟨0, 83, 3, List.map (eRDeclD 128 3) q32.2.1⟩, ⟨0, 77, 5, List.map (eRProcD 3 3 92 3 3) q32.2.2⟩, ⟨0, 37, 2, [[(.own 2 0 (List.length q13.decls)), (.own 3 0 (List.length q13.procs))]]⟩, ⟨0, 3, 1, List.map eI q15.1.out⟩, ⟨0, 97, 3, List.map (eCellD 3) q15.1.heap⟩, ⟨0, 79, 6, List.map (eRFrameD 3 3 3) q15.1.frames⟩, ⟨0, 31, 7, [[(i64 q15.1.status), (i64 q15.1.value), (i64 q15.1.calls), (i64 q15.1.most), (.own 5 0 (List.length q15.1.out)), (.own 6 0 (List.length q15.1.heap)), (.own 7 0 (List.length q15.1.frames))]]⟩]) (st' := [⟨0, 25, 2, [(eRImage p0)]⟩, ⟨0, 31, 7, [(eRState q11.1)]⟩, ⟨0, 83, 3, List.map (eRDeclD 128 3) q32.2.1⟩, ⟨0, 77, 5, List.map (eRProcD 3 3 92 3 3) q32.2.2⟩, ⟨0, 37, 2, [[(.own 2 0 (List.length q32.2.1)), (.own 3 0 (List.length q32.2.2))]]⟩, ⟨0, 3, 1, List.map eI q15.1.out⟩, ⟨0, 97, 3, List.map (eCellD 3) q15.1.heap⟩, ⟨0, 79, 6, List.map (eRFrameD 3 3 3) q15.1.frames⟩, ⟨0, 31, 7, [[(i64 q15.1.status), (i64 q15.1.value), (i64 q15.1.calls), (i64 q15.1.most), (.own 5 0 (List.length q15.1.out)), (.own 6 0 (List.length q15.1.heap)), (.own 7 0 (List.length q15.1.frames))]]⟩]) (by first | (simp only [Sh.put_len]; done) | simp only [Sh.put_len, ln33, ln34] | simp only [ln33, ln34])) ?_; exact Wk.permk (L := [(1, (i64 p1)), (2, (.ptr 0 0 0 0)), (6, (.ptr 1 0 0 0)), (7, (.bool q11.2)), (9, (.ptr 5 0 0 0)), (65, (.bool true))]) (st' := [⟨0, 25, 2, [(eRImage p0)]⟩, ⟨0, 31, 7, [(eRState q11.1)]⟩, ⟨0, 3, 1, List.map eI q15.1.out⟩, ⟨0, 97, 3, List.map (eCellD 3) q15.1.heap⟩, ⟨0, 79, 6, List.map (eRFrameD 3 3 3) q15.1.frames⟩, ⟨0, 31, 7, [[(i64 q15.1.status), (i64 q15.1.value), (i64 q15.1.calls), (i64 q15.1.most), (.own 2 0 (List.length q15.1.out)), (.own 3 0 (List.length q15.1.heap)), (.own 4 0 (List.length q15.1.frames))]]⟩]) (st1 := [⟨0, 25, 2, [(eRImage p0)]⟩, ⟨0, 31, 7, [(eRState q11.1)]⟩, ⟨0, 3, 1, List.map eI q15.1.out⟩, ⟨0, 97, 3, List.map (eCellD 3) q15.1.heap⟩, ⟨0, 79, 6, List.map (eRFrameD 3 3 3) q15.1.frames⟩, ⟨0, 31, 7, [[(i64 q15.1.status), (i64 q15.1.value), (i64 q15.1.calls), (i64 q15.1.most), (.own 5 0 (List.length q15.1.out)), (.own 6 0 (List.length q15.1.heap)), (.own 7 0 (List.length q15.1.frames))]]⟩]) [0, 1, 5, 6, 7, 8] rfl .nil (by decide) rfl rfl (.raw rfl rfl (.raw rfl rfl (.pure (pure_map fun _ => rfl) (.deep (pure_mapD fun _ => rfl) (.deep (pure_mapD fun _ => rfl) (.raw rfl rfl .nil)))))) ⟨.rfl, .rfl, .rfl, .rfl, .rfl, .rfl, trivial⟩))
     ·refine zg tb b85 rfl (zg tb b85 rfl (bs h1 fun q86 gq86 h1 => ao_callb (v' := (.bool q86)) (st' := [⟨0, 25, 2, [(eRImage p0)]⟩, ⟨0, 31, 7, [(eRState q11.1)]⟩, (ro 0 83 3 (eRDeclD 128 3) q32.2.1), (ro 0 77 5 (eRProcD 3 3 92 3 3) q32.2.2), ⟨0, 37, 2, [[(ow 2 0 q13.decls), (ow 3 0 q13.procs)]]⟩, (ro 0 3 1 eI q15.1.out), (ro 0 97 3 (eCellD 3) q15.1.heap), (ro 0 79 6 (eRFrameD 3 3 3) q15.1.frames), ⟨0, 31, 7, [[(i64 q15.1.status), (i64 q15.1.value), (i64 q15.1.calls), (i64 q15.1.most), (ow 5 0 q15.1.out), (ow 6 0 q15.1.heap), (ow 7 0 q15.1.frames)]]⟩]) (go1 rfl rfl b85) hb8 (laws_eqState_ok gq86) rfl (.agg (.val rfl (.val rfl (.val rfl (.val rfl (.own rfl rfl (fun _ => rfl) (.ownD rfl rfl (fun _ => rfl) (fun x => eCellD_und x) (.ownD rfl rfl (fun _ => rfl) (fun x => eRFrameD_und x) .nil))))))) (.val rfl .nil)) rfl trivial rfl rfl (zg tb b85 rfl (zf b85 rfl (zq tb rfl ?_)))))
      rcases Sh.ite_some h1 with ⟨b87, h1⟩ | ⟨b87, h1⟩
      ·refine zs b87 rfl (zs b87 rfl (zs b87 rfl (zt b87 rfl ?_)))
       exact AO.done (M38 true (Sh.some_eq h1).symm _ (by refine Wk.trans (Wk.steq (st := [⟨0, 25, 2, [(eRImage p0)]⟩, ⟨0, 31, 7, [(eRState q11.1)]⟩, ⟨0, 83, 3, List.map (eRDeclD 128 3) q32.2.1⟩, ⟨0, 77, 5, List.map (eRProcD 3 3 92 3 3) q32.2.2⟩, ⟨0, 37, 2, [[(.own 2 0 (List.length q13.decls)), (.own 3 0 (List.length q13.procs))]]⟩, ⟨0, 3, 1, List.map eI q15.1.out⟩, ⟨0, 97, 3, List.map (eCellD 3) q15.1.heap⟩, ⟨0, 79, 6, List.map (eRFrameD 3 3 3) q15.1.frames⟩, ⟨0, 31, 7, [[(i64 q15.1.status), (i64 q15.1.value), (i64 q15.1.calls), (i64 q15.1.most), (.own 5 0 (List.length q15.1.out)), (.own 6 0 (List.length q15.1.heap)), (.own 7 0 (List.length q15.1.frames))]]⟩]) (st' := [⟨0, 25, 2, [(eRImage p0)]⟩, ⟨0, 31, 7, [(eRState q11.1)]⟩, ⟨0, 83, 3, List.map (eRDeclD 128 3) q32.2.1⟩, ⟨0, 77, 5, List.map (eRProcD 3 3 92 3 3) q32.2.2⟩, ⟨0, 37, 2, [[(.own 2 0 (List.length q32.2.1)), (.own 3 0 (List.length q32.2.2))]]⟩, ⟨0, 3, 1, List.map eI q15.1.out⟩, ⟨0, 97, 3, List.map (eCellD 3) q15.1.heap⟩, ⟨0, 79, 6, List.map (eRFrameD 3 3 3) q15.1.frames⟩, ⟨0, 31, 7, [[(i64 q15.1.status), (i64 q15.1.value), (i64 q15.1.calls), (i64 q15.1.most), (.own 5 0 (List.length q15.1.out)), (.own 6 0 (List.length q15.1.heap)), (.own 7 0 (List.length q15.1.frames))]]⟩]) (by first | (simp only [Sh.put_len]; done) | simp only [Sh.put_len, ln33, ln34] | simp only [ln33, ln34])) ?_; exact Wk.permk (L := [(1, (i64 p1)), (2, (.ptr 0 0 0 0)), (6, (.ptr 1 0 0 0)), (7, (.bool q11.2)), (9, (.ptr 5 0 0 0)), (65, (.bool true))]) (st' := [⟨0, 25, 2, [(eRImage p0)]⟩, ⟨0, 31, 7, [(eRState q11.1)]⟩, ⟨0, 3, 1, List.map eI q15.1.out⟩, ⟨0, 97, 3, List.map (eCellD 3) q15.1.heap⟩, ⟨0, 79, 6, List.map (eRFrameD 3 3 3) q15.1.frames⟩, ⟨0, 31, 7, [[(i64 q15.1.status), (i64 q15.1.value), (i64 q15.1.calls), (i64 q15.1.most), (.own 2 0 (List.length q15.1.out)), (.own 3 0 (List.length q15.1.heap)), (.own 4 0 (List.length q15.1.frames))]]⟩]) (st1 := [⟨0, 25, 2, [(eRImage p0)]⟩, ⟨0, 31, 7, [(eRState q11.1)]⟩, ⟨0, 3, 1, List.map eI q15.1.out⟩, ⟨0, 97, 3, List.map (eCellD 3) q15.1.heap⟩, ⟨0, 79, 6, List.map (eRFrameD 3 3 3) q15.1.frames⟩, ⟨0, 31, 7, [[(i64 q15.1.status), (i64 q15.1.value), (i64 q15.1.calls), (i64 q15.1.most), (.own 5 0 (List.length q15.1.out)), (.own 6 0 (List.length q15.1.heap)), (.own 7 0 (List.length q15.1.frames))]]⟩]) [0, 1, 5, 6, 7, 8] rfl .nil (by decide) rfl rfl (.raw rfl rfl (.raw rfl rfl (.pure (pure_map fun _ => rfl) (.deep (pure_mapD fun _ => rfl) (.deep (pure_mapD fun _ => rfl) (.raw rfl rfl .nil)))))) ⟨.rfl, .rfl, .rfl, .rfl, .rfl, .rfl, trivial⟩))
      ·refine zg tb b87 rfl (zg tb b87 rfl (zg tb b87 rfl (zf b87 rfl ?_)))
       exact AO.done (M38 (q15.2 != q11.2) (Sh.some_eq h1).symm _ (by refine Wk.trans (Wk.steq (st := [⟨0, 25, 2, [(eRImage p0)]⟩, ⟨0, 31, 7, [(eRState q11.1)]⟩, ⟨0, 83, 3, List.map (eRDeclD 128 3) q32.2.1⟩, ⟨0, 77, 5, List.map (eRProcD 3 3 92 3 3) q32.2.2⟩, ⟨0, 37, 2, [[(.own 2 0 (List.length q13.decls)), (.own 3 0 (List.length q13.procs))]]⟩, ⟨0, 3, 1, List.map eI q15.1.out⟩, ⟨0, 97, 3, List.map (eCellD 3) q15.1.heap⟩, ⟨0, 79, 6, List.map (eRFrameD 3 3 3) q15.1.frames⟩, ⟨0, 31, 7, [[(i64 q15.1.status), (i64 q15.1.value), (i64 q15.1.calls), (i64 q15.1.most), (.own 5 0 (List.length q15.1.out)), (.own 6 0 (List.length q15.1.heap)), (.own 7 0 (List.length q15.1.frames))]]⟩]) (st' := [⟨0, 25, 2, [(eRImage p0)]⟩, ⟨0, 31, 7, [(eRState q11.1)]⟩, ⟨0, 83, 3, List.map (eRDeclD 128 3) q32.2.1⟩, ⟨0, 77, 5, List.map (eRProcD 3 3 92 3 3) q32.2.2⟩, ⟨0, 37, 2, [[(.own 2 0 (List.length q32.2.1)), (.own 3 0 (List.length q32.2.2))]]⟩, ⟨0, 3, 1, List.map eI q15.1.out⟩, ⟨0, 97, 3, List.map (eCellD 3) q15.1.heap⟩, ⟨0, 79, 6, List.map (eRFrameD 3 3 3) q15.1.frames⟩, ⟨0, 31, 7, [[(i64 q15.1.status), (i64 q15.1.value), (i64 q15.1.calls), (i64 q15.1.most), (.own 5 0 (List.length q15.1.out)), (.own 6 0 (List.length q15.1.heap)), (.own 7 0 (List.length q15.1.frames))]]⟩]) (by first | (simp only [Sh.put_len]; done) | simp only [Sh.put_len, ln33, ln34] | simp only [ln33, ln34])) ?_; exact Wk.permk (L := [(1, (i64 p1)), (2, (.ptr 0 0 0 0)), (6, (.ptr 1 0 0 0)), (7, (.bool q11.2)), (9, (.ptr 5 0 0 0)), (65, (.bool (q15.2 != q11.2)))]) (st' := [⟨0, 25, 2, [(eRImage p0)]⟩, ⟨0, 31, 7, [(eRState q11.1)]⟩, ⟨0, 3, 1, List.map eI q15.1.out⟩, ⟨0, 97, 3, List.map (eCellD 3) q15.1.heap⟩, ⟨0, 79, 6, List.map (eRFrameD 3 3 3) q15.1.frames⟩, ⟨0, 31, 7, [[(i64 q15.1.status), (i64 q15.1.value), (i64 q15.1.calls), (i64 q15.1.most), (.own 2 0 (List.length q15.1.out)), (.own 3 0 (List.length q15.1.heap)), (.own 4 0 (List.length q15.1.frames))]]⟩]) (st1 := [⟨0, 25, 2, [(eRImage p0)]⟩, ⟨0, 31, 7, [(eRState q11.1)]⟩, ⟨0, 3, 1, List.map eI q15.1.out⟩, ⟨0, 97, 3, List.map (eCellD 3) q15.1.heap⟩, ⟨0, 79, 6, List.map (eRFrameD 3 3 3) q15.1.frames⟩, ⟨0, 31, 7, [[(i64 q15.1.status), (i64 q15.1.value), (i64 q15.1.calls), (i64 q15.1.most), (.own 5 0 (List.length q15.1.out)), (.own 6 0 (List.length q15.1.heap)), (.own 7 0 (List.length q15.1.frames))]]⟩]) [0, 1, 5, 6, 7, 8] rfl .nil (by decide) rfl rfl (.raw rfl rfl (.raw rfl rfl (.pure (pure_map fun _ => rfl) (.deep (pure_mapD fun _ => rfl) (.deep (pure_mapD fun _ => rfl) (.raw rfl rfl .nil)))))) ⟨.rfl, .rfl, .rfl, .rfl, .rfl, .rfl, trivial⟩))
  refine AW.regionO rfl (zm tb 2 rfl (bs h1 fun q88 gq88 h1 => ao_callb (v' := (.bool q88)) (st' := [⟨0, 25, 2, [(eRImage p0)]⟩, ⟨0, 31, 7, [(eRState q11.1)]⟩, (ro 0 83 3 (eRDeclD 128 3) q13.decls), (ro 0 77 5 (eRProcD 3 3 92 3 3) q13.procs), ⟨0, 37, 2, [[(ow 2 0 q13.decls), (ow 3 0 q13.procs)]]⟩, (ro 0 3 1 eI q15.1.out), (ro 0 97 3 (eCellD 3) q15.1.heap), (ro 0 79 6 (eRFrameD 3 3 3) q15.1.frames), ⟨0, 31, 7, [[(i64 q15.1.status), (i64 q15.1.value), (i64 q15.1.calls), (i64 q15.1.most), (ow 5 0 q15.1.out), (ow 6 0 q15.1.heap), (ow 7 0 q15.1.frames)]]⟩]) go0 hb8 (laws_eqState_ok gq88) rfl (.agg (.val rfl (.val rfl (.val rfl (.val rfl (.own rfl rfl (fun _ => rfl) (.ownD rfl rfl (fun _ => rfl) (fun x => eCellD_und x) (.ownD rfl rfl (fun _ => rfl) (fun x => eRFrameD_und x) .nil))))))) (.val rfl .nil)) rfl trivial rfl rfl (zm tb 2 rfl ?_)))
  rcases Sh.ite_some h1 with ⟨b89, h1⟩ | ⟨b89, h1⟩
  ·exact zs b89 rfl (zs b89 rfl (zs b89 rfl (zt b89 rfl (AO.done (M19 true (Sh.some_eq h1).symm _ (Wk.tr rfl))))))
  ·exact zg tb b89 rfl (zg tb b89 rfl (zg tb b89 rfl (zf b89 rfl (AO.done (M19 (q15.2 != q11.2) (Sh.some_eq h1).symm _ (Wk.tr rfl))))))
end Go.Proofs.Yteoiihebkhmgoaa

