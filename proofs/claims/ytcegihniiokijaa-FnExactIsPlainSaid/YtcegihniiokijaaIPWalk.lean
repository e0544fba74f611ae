import Derived.Test.YtcegihniiokijaaProg
import Derived.Test.YtcegihniiokijaaIPDefs
import Derived.Test.YtcegihniiokijaaIPWalkP2
namespace Go.Proofs.Ytcegihniiokijaa
open Go Go.Abs RC
attribute [local irreducible] Go.Abs.dops
set_option maxRecDepth 100000
set_option maxHeartbeats 4000000

theorem hb111 : hasBody Try.prog 111 = true := by kernel_rfl
theorem hb112 : hasBody Try.prog 112 = true := by kernel_rfl
theorem hb13 : hasBody Try.prog 13 = true := by kernel_rfl
theorem hb133 : hasBody Try.prog 133 = true := by kernel_rfl
theorem hb14 : hasBody Try.prog 14 = true := by kernel_rfl
theorem hb143 : hasBody Try.prog 143 = true := by kernel_rfl
theorem hb15 : hasBody Try.prog 15 = true := by kernel_rfl
theorem hb16 : hasBody Try.prog 16 = true := by kernel_rfl
theorem hb17 : hasBody Try.prog 17 = true := by kernel_rfl
theorem hb22 : hasBody Try.prog 22 = true := by kernel_rfl
theorem hb32 : hasBody Try.prog 32 = true := by kernel_rfl
theorem hb33 : hasBody Try.prog 33 = true := by kernel_rfl
theorem hb34 : hasBody Try.prog 34 = true := by kernel_rfl
theorem hb35 : hasBody Try.prog 35 = true := by kernel_rfl
theorem hb41 : hasBody Try.prog 41 = true := by kernel_rfl
theorem hb56 : hasBody Try.prog 56 = true := by kernel_rfl
theorem hb57 : hasBody Try.prog 57 = true := by kernel_rfl
theorem hb59 : hasBody Try.prog 59 = true := by kernel_rfl
theorem hb60 : hasBody Try.prog 60 = true := by kernel_rfl
theorem hb62 : hasBody Try.prog 62 = true := by kernel_rfl
theorem hb63 : hasBody Try.prog 63 = true := by kernel_rfl
theorem hb82 : hasBody Try.prog 82 = true := by kernel_rfl
theorem hb83 : hasBody Try.prog 83 = true := by kernel_rfl
theorem hb84 : hasBody Try.prog 84 = true := by kernel_rfl
theorem ti4 : tinfo Try.prog 4 = some (false, 1) := by kernel_rfl
theorem zi4 : zinfo Try.prog 4 = some [.bool false] := by kernel_rfl

theorem impl_signatures_blockType_B_ok {N : Nat} {rec_impl_signatures_blockType : RSignatures → (List Int) → Block → Option (Int)} (hrec_impl_signatures_blockType : ∀ {p0 : RSignatures} {p1 : (List Int)} {p2 : Block} {r : Int}, rec_impl_signatures_blockType p0 p1 p2 = some r → ACalls Try.prog 58 [(.agg (eRSignatures p0)), (ls eI p1), (.agg [(ls eStep p2.steps), (i64 p2.result)])] [] (fun v st => v = (i64 r) ∧ st = [])) {p0 : RSignatures} {p1 : (List Int)} {p2 : Block} {r : Int} (h0 : impl_signatures_blockType_B N rec_impl_signatures_blockType p0 p1 p2 = some r) : ACalls Try.prog 58 [(.agg (eRSignatures p0)), (ls eI p1), (.agg [(ls eStep p2.steps), (i64 p2.result)])] [] (fun v st => v = (i64 r) ∧ st = []) := by
 unfold impl_signatures_blockType_B at h0
 refine ai Try.func58 rfl rfl rfl rfl (sr rfl fun K1 hK1 => ao_box (m := 0) (st' := [⟨0, 102, 2, [(eRSignatures p0)]⟩]) go0 rfl rfl rfl rfl rfl (ao_box (m := 1) (st' := [⟨0, 102, 2, [(eRSignatures p0)]⟩, ⟨0, 66, 2, [[(ls eStep p2.steps), (i64 p2.result)]]⟩]) go0 rfl rfl rfl rfl rfl (zq tb rfl (dn hK1 rfl (sr rfl fun K2 hK2 => zq tb rfl (bs h0 fun q3 gq3 h0 => ao_call (v' := (ow 2 0 q3)) (st' := [⟨0, 102, 2, [(eRSignatures p0)]⟩, ⟨0, 66, 2, [[(ls eStep p2.steps), (i64 p2.result)]]⟩, (ro 0 3 1 eI q3)]) go0 hb41 (slices_Clone_int_int_ok gq3) rfl rfl ⟨(pure_map' fun _ => rfl), trivial⟩ rfl rfl (zq tb rfl (dn hK2 rfl ?_))))))))
 refine AW.seq fun K4 hK4 => sr rfl fun K5 hK5 => zm tb 2 rfl (zl tb rfl rfl (zq tb rfl (dn hK5 rfl ?_)))
 obtain ⟨o9, h1, h0⟩ := Sh.cont_some h0
 have M9 : ∀ (l8 : (List Int)), o9 = Sum.inr l8 → ∀ s, Wk 0 s ⟨54, envL [(5, (.ptr 0 0 0 0)), (7, (ow 1 0 l8))], [⟨0, 66, 2, [[(ls eStep p2.steps), (i64 p2.result)]]⟩, (ro 0 3 1 eI l8)]⟩ → K4 s := by
  intro l8 hq s hw
  subst o9
  try dsimp only at h0
  refine hK4 _ (AW.weaken hw (AW.seq fun K10 hK10 => AW.seq fun K11 hK11 => bs h0 fun o13 h1 h0 => ?_))
  have M13 : ∀ (t12 : Bool), o13 = t12 → ∀ s, Wk 0 s ⟨54, envL [(5, (.ptr 0 0 0 0)), (7, (ow 1 0 l8)), (48, (.bool t12))], [⟨0, 66, 2, [[(ls eStep p2.steps), (i64 p2.result)]]⟩, (ro 0 3 1 eI l8)]⟩ → K11 s := by
   intro t12 hq s hw
   subst o13
   try dsimp only at h0
   refine hK11 _ (AW.weaken hw ?_)
   refine ci h0 rfl ?_ ?_ <;> clear h0
   ·intro b14 h0
    refine zr tb rfl rfl ?_
    replace h0 := Sh.some_eq h0
    subst r
    exact AW.ret (xr (Wk.d0 [(6, (i64 (-1)))] rfl))
   ·intro b14 h0
    refine AW.skip (hK10 _ (sr rfl fun K16 hK16 => zm tb 3 rfl (bs h0 fun c17 gc17 h0 => zz (.ptr 1 0 (Int.toNat p2.result) 0) (aq_ixo ei22 rfl rfl rfl rfl gc17) rfl (zz (i64 c17) (aq_ldp ti3 rfl rfl (map_get gc17) rfl) rfl (zq tb rfl (dn hK16 rfl ?_))))))
    replace h0 := Sh.some_eq h0
    subst r
    exact AW.ret (xr (Wk.d0 [(6, (i64 c17))] rfl))
  refine AW.regionO rfl (zm tb 4 rfl ?_)
  rcases Sh.ite_some h1 with ⟨b18, h1⟩ | ⟨b18, h1⟩
  ·refine zs b18 rfl ?_
   iterate 4 refine zs b18 rfl ?_
   exact zt b18 rfl (AO.done (M13 true (Sh.some_eq h1).symm _ (Wk.tr rfl)))
  ·exact zg tb b18 rfl (zg tb b18 rfl (zg tb b18 rfl (ao_q (v := (i64 (Sh.len l8))) (go1 rfl rfl b18) rfl (aq_leno sl22 rfl rfl rfl) (zg tb b18 rfl (zf b18 rfl (AO.done (M13 (decide ((Sh.len l8) ≤ p2.result)) (Sh.some_eq h1).symm _ (Wk.tr rfl))))))))
 refine AW.block (AW.loopF (σ := Int × (List Int)) (fun n v => impl_signatures_blockType_B_L1 N p0 p2 rec_impl_signatures_blockType n v.1 v.2 = some o9) (fun (t6, l7) => ⟨54, envL [(3, (.ptr 0 0 0 0)), (5, (.ptr 1 0 0 0)), (7, (ow 2 0 l7)), (15, (ls eStep p2.steps)), (16, (i64 (Sh.len p2.steps))), (17, (i64 t6))], [⟨0, 102, 2, [(eRSignatures p0)]⟩, ⟨0, 66, 2, [[(ls eStep p2.steps), (i64 p2.result)]]⟩, (ro 0 3 1 eI l7)]⟩) N (0, q3) h1 (Wk.tr rfl) (fun _ hv => by rw [impl_signatures_blockType_B_L1] at hv; cases hv) ?_)
 rintro n ⟨t6, l7⟩ h1
 try dsimp only at h1 ⊢
 rw [impl_signatures_blockType_B_L1] at h1
 refine zr tb rfl rfl (AW.seq fun K20 hK20 => ?_)
 refine ci h1 rfl ?_ ?_ <;> clear h1
 ·intro b21 h1
  refine AW.skip (hK20 _ (AW.seq fun K22 hK22 => ?_))
  obtain ⟨o24, h2, h1⟩ := Sh.cont_some h1
  have M24 : ∀ (l23 : (List Int)), o24 = Sum.inr l23 → ∀ s, Wk 0 s ⟨54, envL [(3, (.ptr 0 0 0 0)), (5, (.ptr 1 0 0 0)), (7, (ow 2 0 l23)), (15, (ls eStep p2.steps)), (16, (i64 (Sh.len p2.steps))), (17, (i64 t6))], [⟨0, 102, 2, [(eRSignatures p0)]⟩, ⟨0, 66, 2, [[(ls eStep p2.steps), (i64 p2.result)]]⟩, (ro 0 3 1 eI l23)]⟩ → K22 s := by
   intro l23 hq s hw
   subst o24
   try dsimp only at h1
   exact hK22 _ (AW.weaken hw (AW.regionO rfl (zm tb 2 rfl (AO.done (xi (Sh.w (t6 + 1), l23) h1 (Wk.tr rfl))))))
  refine AW.block (sr rfl fun K25 hK25 => bs h2 fun c26 gc26 h2 => zz (.iptr [(i64 c26.op), (i64 c26.num), (i64 c26.into), (ls eI c26.args), (ls eBlock c26.kids)] 0) (aq_ixsE ei64 rfl rfl gc26 (eStep_eq _) rfl) rfl (zq tb rfl (ao_alloc (m := 3) (st' := [⟨0, 102, 2, [(eRSignatures p0)]⟩, ⟨0, 66, 2, [[(ls eStep p2.steps), (i64 p2.result)]]⟩, (ro 0 3 1 eI l7), ⟨0, 110, 5, [[(i64 0), (i64 0), (i64 0), .zc, .zc]]⟩]) go0 zi110 rfl rfl (ao_str (st' := [⟨0, 102, 2, [(eRSignatures p0)]⟩, ⟨0, 66, 2, [[(ls eStep p2.steps), (i64 p2.result)]]⟩, (ro 0 3 1 eI l7), ⟨0, 110, 5, [[(i64 c26.op), (i64 c26.num), (i64 c26.into), (ls eI c26.args), (ls eBlock c26.kids)]]⟩]) go0 ti110 rfl rfl rfl rfl rfl rfl (show 0 + 5 ≤ 5 by decide) rfl (dn hK25 rfl (sr rfl fun K27 hK27 => zm tb 3 rfl (bs h2 fun q28 gq28 h2 => ao_callb (v' := (.tup [(i64 q28.1), (.bool q28.2)])) (st' := [⟨0, 102, 2, [(eRSignatures p0)]⟩, ⟨0, 66, 2, [[(ls eStep p2.steps), (i64 p2.result)]]⟩, (ro 0 3 1 eI l7), ⟨0, 110, 5, [[(i64 c26.op), (i64 c26.num), (i64 c26.into), (ls eI c26.args), (ls eBlock c26.kids)]]⟩]) go0 hb82 (impl_signatures_stepType_ok hrec_impl_signatures_blockType gq28) rfl (.val rfl (.own rfl rfl (fun _ => rfl) (.val rfl .nil))) rfl trivial rfl rfl ?_)))))))
  refine zm tb 5 rfl (dn hK27 rfl (AW.seq fun K29 hK29 => zr tb rfl rfl ?_))
  refine ci h2 rfl ?_ ?_ <;> clear h2
  ·intro b31 h2
   have b32 : q28.2 = false := by simpa using b31
   refine zr tb rfl rfl ?_
   replace h2 := Sh.some_eq h2
   subst o24
   try dsimp only [id] at h1
   replace h1 := Sh.some_eq h1
   subst o9
   try dsimp only [id] at h0
   replace h0 := Sh.some_eq h0
   subst r
   exact AW.ret (xr (Wk.d0 [(6, (i64 (-1)))] rfl))
  ·intro b31 h2
   have b34 : q28.2 = true := by simpa using b31
   refine AW.skip (hK29 _ (sr rfl fun K35 hK35 => zm tb 2 rfl (bs h2 fun q36 gq36 h2 => zc hb61 (impl_isCounting_ok gq36) rfl rfl rfl (zq tb rfl (dn hK35 rfl ?_)))))
   refine ci h2 rfl ?_ ?_ <;> clear h2
   ·intro b37 h2
    have b38 : q36 = false := by simpa using b37
    refine AW.regionO rfl (zm tb 2 rfl ?_)
    refine ao_bs (m := 4) (st' := [⟨0, 102, 2, [(eRSignatures p0)]⟩, ⟨0, 66, 2, [[(ls eStep p2.steps), (i64 p2.result)]]⟩, (ro 0 3 1 eI l7), ⟨0, 110, 5, [[(i64 c26.op), (i64 c26.num), (i64 c26.into), (ls eI c26.args), (ls eBlock c26.kids)]]⟩, (ro 0 3 1 eI [q28.1])]) (l := [q28.1]) (enc := eI) go0 ei22 (by decide) rfl rfl rfl rfl rfl rfl ?_
    refine bs h2 fun l39 gl39 h2 => ao_apo (st' := [⟨0, 102, 2, [(eRSignatures p0)]⟩, ⟨0, 66, 2, [[(ls eStep p2.steps), (i64 p2.result)]]⟩, (ro 1 3 1 eI l39), ⟨0, 110, 5, [[(i64 c26.op), (i64 c26.num), (i64 c26.into), (ls eI c26.args), (ls eBlock c26.kids)]]⟩, (ro 0 3 1 eI [q28.1])]) (l2 := [q28.1]) go0 ei22 rfl rfl rfl rfl (el_o rfl rfl) (fun _ => rfl) gl39 rfl (zq tb rfl ?_)
    exact AO.done (M24 l39 (Sh.some_eq h2).symm _ (by refine Wk.trans (Wk.rg (L := [(3, (.ptr 0 0 0 0)), (5, (.ptr 1 0 0 0)), (7, (ow 2 0 l39)), (15, (ls eStep p2.steps)), (16, (i64 (Sh.len p2.steps))), (17, (i64 t6))]) (st' := [⟨0, 102, 2, [(eRSignatures p0)]⟩, ⟨0, 66, 2, [[(ls eStep p2.steps), (i64 p2.result)]]⟩, (ro 0 3 1 eI l39), ⟨0, 110, 5, [[(i64 c26.op), (i64 c26.num), (i64 c26.into), (ls eI c26.args), (ls eBlock c26.kids)]]⟩, (ro 0 3 1 eI [q28.1])]) (.raw rfl rfl (.raw rfl rfl (.pure (pure_map fun _ => rfl) (.raw rfl rfl (.pure (pure_map fun _ => rfl) .nil))))) ⟨.rfl, .rfl, .rfl, .rfl, .rfl, .rfl, trivial⟩) ?_; exact Wk.permk (L := [(3, (.ptr 0 0 0 0)), (5, (.ptr 1 0 0 0)), (7, (ow 2 0 l39)), (15, (ls eStep p2.steps)), (16, (i64 (Sh.len p2.steps))), (17, (i64 t6))]) (st' := [⟨0, 102, 2, [(eRSignatures p0)]⟩, ⟨0, 66, 2, [[(ls eStep p2.steps), (i64 p2.result)]]⟩, (ro 0 3 1 eI l39)]) (st1 := [⟨0, 102, 2, [(eRSignatures p0)]⟩, ⟨0, 66, 2, [[(ls eStep p2.steps), (i64 p2.result)]]⟩, (ro 0 3 1 eI l39)]) [0, 1, 2] rfl .nil (by decide) rfl rfl (.raw rfl rfl (.raw rfl rfl (.pure (pure_map fun _ => rfl) .nil))) ⟨.rfl, .rfl, .rfl, .rfl, .rfl, .rfl, trivial⟩))
   ·intro b37 h2
    have b40 : q36 = true := by simpa using b37
    exact AW.skip (M24 l7 (Sh.some_eq h2).symm _ (Wk.permk (L := [(3, (.ptr 0 0 0 0)), (5, (.ptr 1 0 0 0)), (7, (ow 2 0 l7)), (15, (ls eStep p2.steps)), (16, (i64 (Sh.len p2.steps))), (17, (i64 t6))]) (st' := [⟨0, 102, 2, [(eRSignatures p0)]⟩, ⟨0, 66, 2, [[(ls eStep p2.steps), (i64 p2.result)]]⟩, (ro 0 3 1 eI l7)]) (st1 := [⟨0, 102, 2, [(eRSignatures p0)]⟩, ⟨0, 66, 2, [[(ls eStep p2.steps), (i64 p2.result)]]⟩, (ro 0 3 1 eI l7)]) [0, 1, 2] rfl .nil (by decide) rfl rfl (.raw rfl rfl (.raw rfl rfl (.pure (pure_map fun _ => rfl) .nil))) ⟨.rfl, .rfl, .rfl, .rfl, .rfl, .rfl, trivial⟩))
 ·intro b21 h1
  exact AW.exit (M9 l7 (Sh.some_eq h1).symm _ (Wk.permk (L := [(5, (.ptr 0 0 0 0)), (7, (ow 1 0 l7))]) (st' := [⟨0, 66, 2, [[(ls eStep p2.steps), (i64 p2.result)]]⟩, (ro 0 3 1 eI l7)]) (st1 := [⟨0, 66, 2, [[(ls eStep p2.steps), (i64 p2.result)]]⟩, (ro 0 3 1 eI l7)]) [1, 2] rfl .nil (by decide) rfl rfl (.raw rfl rfl (.pure (pure_map fun _ => rfl) .nil)) ⟨.rfl, .rfl, trivial⟩))

theorem impl_signatures_blockType_F_ok {N : Nat} : ∀ (n : Nat), ∀ {p0 : RSignatures} {p1 : (List Int)} {p2 : Block} {r : Int}, impl_signatures_blockType_F N n p0 p1 p2 = some r → ACalls Try.prog 58 [(.agg (eRSignatures p0)), (ls eI p1), (.agg [(ls eStep p2.steps), (i64 p2.result)])] [] (fun v st => v = (i64 r) ∧ st = []) := by
 intro n
 induction n with
 | zero => intro p0 p1 p2 r h0; cases h0
 | succ n ih =>
  intro p0 p1 p2 r h0
  rw [impl_signatures_blockType_F] at h0
  exact impl_signatures_blockType_B_ok (fun h => ih h) h0
theorem impl_signatures_blockType_ok {N : Nat} : ∀ {p0 : RSignatures} {p1 : (List Int)} {p2 : Block} {r : Int}, impl_signatures_blockType N p0 p1 p2 = some r → ACalls Try.prog 58 [(.agg (eRSignatures p0)), (ls eI p1), (.agg [(ls eStep p2.steps), (i64 p2.result)])] [] (fun v st => v = (i64 r) ∧ st = []) := by
 intro p0 p1 p2 r h0
 exact impl_signatures_blockType_F_ok N h0
theorem impl_ValidNormal_ok {N : Nat} {p0 : RNormal} {r : Bool} (h0 : impl_ValidNormal N p0 = some r) : ACalls Try.prog 32 [(.agg [(ls eRDecl p0.decls), (ls eRRoutine p0.routines)])] [] (fun v st => v = (.bool r) ∧ st = []) := by
 unfold impl_ValidNormal at h0
 refine ai Try.func32 rfl rfl rfl rfl (sr rfl fun K1 hK1 => ao_box (m := 0) (st' := [⟨0, 42, 2, [[(ls eRDecl p0.decls), (ls eRRoutine p0.routines)]]⟩]) go0 rfl rfl rfl rfl rfl (zq tb rfl (dn hK1 rfl (sr rfl fun K2 hK2 => zq tb rfl (bs h0 fun q3 gq3 h0 => zc (v' := (.tup [(.agg (eRSignatures q3.1)), (.bool q3.2)])) hb56 (impl_normalSigs_ok gq3) rfl rfl rfl (zm tb 3 rfl (ao_alloc (m := 1) (st' := [⟨0, 42, 2, [[(ls eRDecl p0.decls), (ls eRRoutine p0.routines)]]⟩, ⟨0, 102, 2, [[.zc, .zc]]⟩]) go0 zi102 rfl rfl (ao_str (st' := [⟨0, 42, 2, [[(ls eRDecl p0.decls), (ls eRRoutine p0.routines)]]⟩, ⟨0, 102, 2, [(eRSignatures q3.1)]⟩]) go0 ti102 rfl rfl rfl rfl rfl rfl (show 0 + 2 ≤ 2 by decide) rfl ?_))))))))
 refine zq tb rfl (dn hK2 rfl (AW.seq fun K4 hK4 => zr tb rfl rfl ?_))
 refine ci h0 rfl ?_ ?_ <;> clear h0
 ·intro b6 h0
  have b7 : q3.2 = false := by simpa using b6
  refine zr tb rfl rfl ?_
  replace h0 := Sh.some_eq h0
  subst r
  exact AW.ret (xr (Wk.d0 [(2, (.bool false))] rfl))
 ·intro b6 h0
  have b9 : q3.2 = true := by simpa using b6
  refine AW.skip (hK4 _ (AW.seq fun K10 hK10 => sr rfl fun K11 hK11 => zm tb 2 rfl (zl tb rfl rfl (zq tb rfl (dn hK11 rfl ?_)))))
  obtain ⟨o13, h1, h0⟩ := Sh.cont_some h0
  have M13 : ∀ (_ : Unit), o13 = Sum.inr () → ∀ s, Wk 0 s ⟨37, envL [], []⟩ → K10 s := by
   intro _ hq s hw
   subst o13
   try dsimp only at h0
   refine hK10 _ (AW.weaken hw (zr tb rfl rfl ?_))
   replace h0 := Sh.some_eq h0
   subst r
   exact AW.ret (xr (Wk.to (L := [(2, (.bool true))]) ⟨.rfl, trivial⟩))
  refine AW.block (AW.loopF (σ := Int) (fun n v => impl_ValidNormal_L1 N p0 q3 n v = some o13) (fun t12 => ⟨37, envL [(3, (.ptr 0 0 0 0)), (15, (ls eRRoutine p0.routines)), (16, (i64 (Sh.len p0.routines))), (17, (i64 t12))], [⟨0, 102, 2, [(eRSignatures q3.1)]⟩]⟩) N 0 h1 (Wk.permk (L := [(3, (.ptr 0 0 0 0)), (15, (ls eRRoutine p0.routines)), (16, (i64 (Sh.len p0.routines))), (17, (i64 0))]) (st' := [⟨0, 102, 2, [(eRSignatures q3.1)]⟩]) (st1 := [⟨0, 102, 2, [(eRSignatures q3.1)]⟩]) [1] rfl .nil (by decide) rfl rfl (.raw rfl rfl .nil) ⟨.rfl, .rfl, .rfl, .rfl, trivial⟩) (fun _ hv => by rw [impl_ValidNormal_L1] at hv; cases hv) ?_)
  rintro n t12 h1
  try dsimp only at h1 ⊢
  rw [impl_ValidNormal_L1] at h1
  refine zr tb rfl rfl (AW.seq fun K16 hK16 => ?_)
  refine ci h1 rfl ?_ ?_ <;> clear h1
  ·intro b17 h1
   refine AW.skip (hK16 _ (AW.seq fun K18 hK18 => AW.block (sr rfl fun K19 hK19 => bs h1 fun c20 gc20 h1 => zx ei40 gc20 rfl rfl rfl (zq tb rfl (ao_alloc (m := 1) (st' := [⟨0, 102, 2, [(eRSignatures q3.1)]⟩, ⟨0, 68, 5, [[.zc, .zc, (i64 0), .zc, (i64 0)]]⟩]) go0 zi68 rfl rfl (ao_str (st' := [⟨0, 102, 2, [(eRSignatures q3.1)]⟩, ⟨0, 68, 5, [[(ls eI c20.params), (ls eI c20.lent), (i64 c20.result), (ls eStep c20.body.steps), (i64 c20.body.result)]]⟩]) go0 ti68 rfl rfl rfl rfl rfl rfl (show 0 + 5 ≤ 5 by decide) rfl (dn hK19 rfl (AW.seq fun K21 hK21 => bs h1 fun o23 h2 h1 => ?_))))))))
   have M23 : ∀ (t22 : Bool), o23 = t22 → ∀ s, Wk 0 s ⟨37, envL [(3, (.ptr 0 0 0 0)), (15, (ls eRRoutine p0.routines)), (16, (i64 (Sh.len p0.routines))), (17, (i64 t12)), (35, (.bool t22))], [⟨0, 102, 2, [(eRSignatures q3.1)]⟩]⟩ → K21 s := by
    intro t22 hq s hw
    subst o23
    try dsimp only at h1
    refine hK21 _ (AW.weaken hw ?_)
    refine ci h1 rfl ?_ ?_ <;> clear h1
    ·intro b24 h1
     refine zr tb rfl rfl ?_
     replace h1 := Sh.some_eq h1
     subst o13
     try dsimp only [id] at h0
     replace h0 := Sh.some_eq h0
     subst r
     exact AW.ret (xr (Wk.d0 [(2, (.bool false))] rfl))
    ·intro b24 h1
     exact AW.skip (hK18 _ (AW.regionO rfl (zm tb 2 rfl (AO.done (xi (Sh.w (t12 + 1)) h1 (Wk.tr rfl))))))
   refine AW.draw (by kernel_rfl) (by kernel_rfl) (by rfl) ?_
   iterate 2 refine yq tb rfl ?_
   refine bs h2 fun q26 gq26 h2 => d_call (v := (i64 q26)) go0 hb57 (impl_StepsOf_ok gq26) rfl rfl rfl ?_
   iterate 2 refine yq tb rfl ?_
   rcases Sh.ite_some h2 with ⟨b27, h2⟩ | ⟨b27, h2⟩
   ·refine ys b27 rfl ?_
    iterate 8 refine ys b27 rfl ?_
    refine yt b27 rfl ?_
    exact d_done (M23 true (Sh.some_eq h2).symm _ (Wk.permk (L := [(3, (.ptr 0 0 0 0)), (15, (ls eRRoutine p0.routines)), (16, (i64 (Sh.len p0.routines))), (17, (i64 t12)), (35, (.bool true))]) (st' := [⟨0, 102, 2, [(eRSignatures q3.1)]⟩]) (st1 := [⟨0, 102, 2, [(eRSignatures q3.1)]⟩]) [0] rfl .nil (by decide) rfl rfl (.raw rfl rfl .nil) ⟨.rfl, .rfl, .rfl, .rfl, .rfl, trivial⟩))
   ·refine yg tb b27 rfl ?_
    iterate 4 refine yg tb b27 rfl ?_
    refine bs h2 fun q28 gq28 h2 => d_call (v := (i64 q28)) (go1 rfl rfl b27) hb58 (impl_signatures_blockType_ok gq28) rfl rfl rfl ?_
    iterate 3 refine yg tb b27 rfl ?_
    refine yf b27 rfl ?_
    exact d_done (M23 (!decide (q28 = c20.result)) (Sh.some_eq h2).symm _ (Wk.permk (L := [(3, (.ptr 0 0 0 0)), (15, (ls eRRoutine p0.routines)), (16, (i64 (Sh.len p0.routines))), (17, (i64 t12)), (35, (.bool (!decide (q28 = c20.result))))]) (st' := [⟨0, 102, 2, [(eRSignatures q3.1)]⟩]) (st1 := [⟨0, 102, 2, [(eRSignatures q3.1)]⟩]) [0] rfl .nil (by decide) rfl rfl (.raw rfl rfl .nil) ⟨.rfl, .rfl, .rfl, .rfl, .rfl, trivial⟩))
  ·intro b17 h1
   exact AW.exit (M13 () (Sh.some_eq h1).symm _ (Wk.d0 _ rfl))
theorem impl_isPlainBlock_1_ok {s0_0 : Bool} {p0 : Step} {r : Bool} (h0 : impl_isPlainBlock_1 s0_0 p0 = some r) : ACalls Try.prog 60 [(.agg [(i64 p0.op), (i64 p0.num), (i64 p0.into), (ls eI p0.args), (ls eBlock p0.kids)]), (.ptr 0 0 0 0)] [⟨0, 4, 1, [[(.bool s0_0)]]⟩] (fun v st => v = (.tup []) ∧ st = [⟨0, 4, 1, [[(.bool r)]]⟩]) := by
 unfold impl_isPlainBlock_1 at h0
 refine ai Try.func60 rfl rfl rfl rfl (sr rfl fun K1 hK1 => ao_box (m := 1) (st' := [⟨0, 4, 1, [[(.bool s0_0)]]⟩, ⟨0, 110, 5, [[(i64 p0.op), (i64 p0.num), (i64 p0.into), (ls eI p0.args), (ls eBlock p0.kids)]]⟩]) go0 rfl rfl rfl rfl rfl (dn hK1 rfl (AW.regionO rfl (zm tb 2 rfl ?_))))
 rcases Sh.ite_some h0 with ⟨b2, h0⟩ | ⟨b2, h0⟩
 ·refine zg tb b2 rfl (zg tb b2 rfl (bs h0 fun q3 gq3 h0 => zd b2 hb61 (impl_isCounting_ok gq3) rfl rfl rfl rfl (zg tb b2 rfl (zt b2 rfl (zq tb rfl ?_)))))
  rcases Sh.ite_some h0 with ⟨b4, h0⟩ | ⟨b4, h0⟩
  ·refine zg tb b4 rfl (zg tb b4 rfl (zg tb b4 rfl (zt b4 rfl (ao_str (st' := [⟨0, 4, 1, [[(.bool (decide (p0.into = 0)))]]⟩, ⟨0, 110, 5, [[(i64 p0.op), (i64 p0.num), (i64 p0.into), (ls eI p0.args), (ls eBlock p0.kids)]]⟩]) go0 ti4 rfl rfl rfl rfl rfl rfl (show 0 + 1 ≤ 1 by decide) rfl ?_))))
   replace h0 := Sh.some_eq h0
   subst r
   exact AO.done (xr (Wk.permk (L := []) (st' := [⟨0, 4, 1, [[(.bool (decide (p0.into = 0)))]]⟩]) (st1 := [⟨0, 4, 1, [[(.bool (decide (p0.into = 0)))]]⟩]) [0] rfl (.raw rfl rfl .nil) (by decide) rfl rfl (.raw rfl rfl .nil) trivial))
  ·refine zs b4 rfl (zs b4 rfl (zs b4 rfl (zf b4 rfl (ao_str (st' := [⟨0, 4, 1, [[(.bool false)]]⟩, ⟨0, 110, 5, [[(i64 p0.op), (i64 p0.num), (i64 p0.into), (ls eI p0.args), (ls eBlock p0.kids)]]⟩]) go0 ti4 rfl rfl rfl rfl rfl rfl (show 0 + 1 ≤ 1 by decide) rfl ?_))))
   replace h0 := Sh.some_eq h0
   subst r
   exact AO.done (xr (Wk.permk (L := []) (st' := [⟨0, 4, 1, [[(.bool false)]]⟩]) (st1 := [⟨0, 4, 1, [[(.bool false)]]⟩]) [0] rfl (.raw rfl rfl .nil) (by decide) rfl rfl (.raw rfl rfl .nil) trivial))
 ·refine zs b2 rfl ?_
  iterate 3 refine zs b2 rfl ?_
  refine zf b2 rfl (zq tb rfl ?_)
  iterate 3 refine zs rfl rfl ?_
  refine zf rfl rfl (ao_str (st' := [⟨0, 4, 1, [[(.bool false)]]⟩, ⟨0, 110, 5, [[(i64 p0.op), (i64 p0.num), (i64 p0.into), (ls eI p0.args), (ls eBlock p0.kids)]]⟩]) go0 ti4 rfl rfl rfl rfl rfl rfl (show 0 + 1 ≤ 1 by decide) rfl ?_)
  replace h0 := Sh.some_eq h0
  subst r
  exact AO.done (xr (Wk.permk (L := []) (st' := [⟨0, 4, 1, [[(.bool false)]]⟩]) (st1 := [⟨0, 4, 1, [[(.bool false)]]⟩]) [0] rfl (.raw rfl rfl .nil) (by decide) rfl rfl (.raw rfl rfl .nil) trivial))
theorem impl_visitSteps_B_ok {N : Nat} {rec_impl_visitSteps : Bool → Block → Option (Bool)} (hrec_impl_visitSteps : ∀ {s0_0 : Bool} {p0 : Block} {r : Bool}, rec_impl_visitSteps s0_0 p0 = some r → ACalls Try.prog 59 [(.agg [(ls eStep p0.steps), (i64 p0.result)]), (.fn 60 [(.ptr 0 0 0 0)])] [⟨0, 4, 1, [[(.bool s0_0)]]⟩] (fun v st => v = (.tup []) ∧ st = [⟨0, 4, 1, [[(.bool r)]]⟩])) {s0_0 : Bool} {p0 : Block} {r : Bool} (h0 : impl_visitSteps_B N rec_impl_visitSteps s0_0 p0 = some r) : ACalls Try.prog 59 [(.agg [(ls eStep p0.steps), (i64 p0.result)]), (.fn 60 [(.ptr 0 0 0 0)])] [⟨0, 4, 1, [[(.bool s0_0)]]⟩] (fun v st => v = (.tup []) ∧ st = [⟨0, 4, 1, [[(.bool r)]]⟩]) := by
 unfold impl_visitSteps_B at h0
 refine ai Try.func59 rfl rfl rfl rfl (sr rfl fun K1 hK1 => ao_box (m := 1) (st' := [⟨0, 4, 1, [[(.bool s0_0)]]⟩, ⟨0, 66, 2, [[(ls eStep p0.steps), (i64 p0.result)]]⟩]) go0 rfl rfl rfl rfl rfl (dn hK1 rfl (sr rfl fun K2 hK2 => zm tb 2 rfl (zl tb rfl rfl (zq tb rfl (dn hK2 rfl (AW.fin fun K3 hK3 => bs h0 fun o7 h1 h0 => ?_)))))))
 have M7 : ∀ (f6 : Bool), o7 = f6 → ∀ s, Wk 1 s ⟨30, envL [], [⟨0, 4, 1, [[(.bool f6)]]⟩]⟩ → K3 s := by
  intro f6 hq s hw
  subst o7
  try dsimp only at h0
  refine hK3 _ ?_
  replace h0 := Sh.some_eq h0
  subst r
  exact Exists.intro _ (And.intro (hw.trans (Wk.to (L := []) trivial)) (And.intro rfl rfl))
 refine AW.block (AW.loopF (σ := Int × Bool) (fun n v => impl_visitSteps_B_L1 N p0 rec_impl_visitSteps n v.1 v.2 = some o7) (fun (t4, f5) => ⟨30, envL [(1, (.fn 60 [(.ptr 0 0 0 0)])), (9, (ls eStep p0.steps)), (10, (i64 (Sh.len p0.steps))), (11, (i64 t4))], [⟨0, 4, 1, [[(.bool f5)]]⟩]⟩) N (0, s0_0) h1 (Wk.permk (L := [(1, (.fn 60 [(.ptr 0 0 0 0)])), (9, (ls eStep p0.steps)), (10, (i64 (Sh.len p0.steps))), (11, (i64 0))]) (st' := [⟨0, 4, 1, [[(.bool s0_0)]]⟩]) (st1 := [⟨0, 4, 1, [[(.bool s0_0)]]⟩]) [0] rfl (.raw rfl rfl .nil) (by decide) rfl rfl (.raw rfl rfl .nil) ⟨.rfl, .rfl, .rfl, .rfl, trivial⟩) (fun _ hv => by rw [impl_visitSteps_B_L1] at hv; cases hv) ?_)
 rintro n ⟨t4, f5⟩ h1
 try dsimp only at h1 ⊢
 rw [impl_visitSteps_B_L1] at h1
 refine zr tb rfl rfl (AW.seq fun K9 hK9 => ?_)
 refine ci h1 rfl ?_ ?_ <;> clear h1
 ·intro b10 h1
  refine AW.skip (hK9 _ (AW.seq fun K11 hK11 => AW.block (sr rfl fun K12 hK12 => bs h1 fun c13 gc13 h1 => zz (.iptr [(i64 c13.op), (i64 c13.num), (i64 c13.into), (ls eI c13.args), (ls eBlock c13.kids)] 0) (aq_ixsE ei64 rfl rfl gc13 (eStep_eq _) rfl) rfl (zq tb rfl (ao_alloc (m := 1) (st' := [⟨0, 4, 1, [[(.bool f5)]]⟩, ⟨0, 110, 5, [[(i64 0), (i64 0), (i64 0), .zc, .zc]]⟩]) go0 zi110 rfl rfl (ao_str (st' := [⟨0, 4, 1, [[(.bool f5)]]⟩, ⟨0, 110, 5, [[(i64 c13.op), (i64 c13.num), (i64 c13.into), (ls eI c13.args), (ls eBlock c13.kids)]]⟩]) go0 ti110 rfl rfl rfl rfl rfl rfl (show 0 + 5 ≤ 5 by decide) rfl (dn hK12 rfl (sr rfl fun K14 hK14 => zm tb 2 rfl ?_))))))))
  refine bs h1 fun q15 gq15 h1 => ?_
  refine ao_callst (rowsP := [⟨0, 4, 1, [[(.bool f5)]]⟩]) (rows0 := [⟨0, 4, 1, [[(.bool f5)]]⟩]) (rows1 := [⟨0, 4, 1, [[(.bool q15)]]⟩]) (rows2 := []) (rows1' := [⟨0, 4, 1, [[(.bool q15)]]⟩]) (rows2' := []) (st' := [⟨0, 4, 1, [[(.bool q15)]]⟩, ⟨0, 110, 5, [[(i64 c13.op), (i64 c13.num), (i64 c13.into), (ls eI c13.args), (ls eBlock c13.kids)]]⟩]) (v' := (.tup [])) [0] go0 rfl hb60 (impl_isPlainBlock_1_ok gq15) rfl (by decide) rfl rfl (.raw rfl rfl .nil) rfl rfl (.raw rfl rfl .nil) .nil rfl rfl ?_
  refine dn hK14 rfl (sr rfl fun K16 hK16 => zm tb 2 rfl (zl tb rfl rfl (zq tb rfl (dn hK16 rfl (bs h1 fun o20 h2 h1 => ?_)))))
  have M20 : ∀ (f19 : Bool), o20 = f19 → ∀ s, Wk 1 s ⟨30, envL [(1, (.fn 60 [(.ptr 0 0 0 0)])), (9, (ls eStep p0.steps)), (10, (i64 (Sh.len p0.steps))), (11, (i64 t4))], [⟨0, 4, 1, [[(.bool f19)]]⟩]⟩ → K11 s := by
   intro f19 hq s hw
   subst o20
   try dsimp only at h1
   exact hK11 _ (AW.weaken hw (AW.regionO rfl (zm tb 2 rfl (AO.done (xi (Sh.w (t4 + 1), f19) h1 (Wk.tr rfl))))))
  refine AW.block (AW.loopF (σ := Int × Bool) (fun n v => impl_visitSteps_B_L2 c13 rec_impl_visitSteps n v.1 v.2 = some o20) (fun (t17, f18) => ⟨30, envL [(1, (.fn 60 [(.ptr 0 0 0 0)])), (9, (ls eStep p0.steps)), (10, (i64 (Sh.len p0.steps))), (11, (i64 t4)), (19, (ls eBlock c13.kids)), (20, (i64 (Sh.len c13.kids))), (21, (i64 t17))], [⟨0, 4, 1, [[(.bool f18)]]⟩]⟩) N (0, q15) h2 (Wk.permk (L := [(1, (.fn 60 [(.ptr 0 0 0 0)])), (9, (ls eStep p0.steps)), (10, (i64 (Sh.len p0.steps))), (11, (i64 t4)), (19, (ls eBlock c13.kids)), (20, (i64 (Sh.len c13.kids))), (21, (i64 0))]) (st' := [⟨0, 4, 1, [[(.bool q15)]]⟩]) (st1 := [⟨0, 4, 1, [[(.bool q15)]]⟩]) [0] rfl (.raw rfl rfl .nil) (by decide) rfl rfl (.raw rfl rfl .nil) ⟨.rfl, .rfl, .rfl, .rfl, .rfl, .rfl, .rfl, trivial⟩) (fun _ hv => by rw [impl_visitSteps_B_L2] at hv; cases hv) ?_)
  rintro n ⟨t17, f18⟩ h2
  try dsimp only at h2 ⊢
  rw [impl_visitSteps_B_L2] at h2
  refine zr tb rfl rfl (AW.seq fun K22 hK22 => ?_)
  refine ci h2 rfl ?_ ?_ <;> clear h2
  ·intro b23 h2
   refine AW.skip (hK22 _ (AW.seq fun K24 hK24 => AW.block (sr rfl fun K25 hK25 => bs h2 fun c26 gc26 h2 => zx ei108 gc26 rfl rfl rfl (zq tb rfl (ao_alloc (m := 1) (st' := [⟨0, 4, 1, [[(.bool f18)]]⟩, ⟨0, 66, 2, [[.zc, (i64 0)]]⟩]) go0 zi66 rfl rfl (ao_str (st' := [⟨0, 4, 1, [[(.bool f18)]]⟩, ⟨0, 66, 2, [[(ls eStep c26.steps), (i64 c26.result)]]⟩]) go0 ti66 rfl rfl rfl rfl rfl rfl (show 0 + 2 ≤ 2 by decide) rfl (dn hK25 rfl (AW.regionO rfl (zm tb 2 rfl ?_)))))))))
   refine bs h2 fun q27 gq27 h2 => ?_
   refine ao_calls (rowsP := [⟨0, 4, 1, [[(.bool f18)]]⟩]) (rows0 := [⟨0, 4, 1, [[(.bool f18)]]⟩]) (rows1 := [⟨0, 4, 1, [[(.bool q27)]]⟩]) (rows2 := []) (rows1' := [⟨0, 4, 1, [[(.bool q27)]]⟩]) (rows2' := []) (st' := [⟨0, 4, 1, [[(.bool q27)]]⟩, ⟨0, 66, 2, [[(ls eStep c26.steps), (i64 c26.result)]]⟩]) (v' := (.tup [])) [0] go0 hb59 (hrec_impl_visitSteps gq27) rfl (by decide) rfl rfl (.raw rfl rfl .nil) rfl rfl (.raw rfl rfl .nil) .nil rfl rfl ?_
   refine dn hK24 rfl (AW.regionO rfl (zm tb 2 rfl ?_))
   exact AO.done (xi (Sh.w (t17 + 1), q27) h2 (Wk.permk (L := [(1, (.fn 60 [(.ptr 0 0 0 0)])), (9, (ls eStep p0.steps)), (10, (i64 (Sh.len p0.steps))), (11, (i64 t4)), (19, (ls eBlock c13.kids)), (20, (i64 (Sh.len c13.kids))), (21, (i64 (Sh.w (t17 + 1))))]) (st' := [⟨0, 4, 1, [[(.bool q27)]]⟩]) (st1 := [⟨0, 4, 1, [[(.bool q27)]]⟩]) [0] rfl (.raw rfl rfl .nil) (by decide) rfl rfl (.raw rfl rfl .nil) ⟨.rfl, .rfl, .rfl, .rfl, .rfl, .rfl, .rfl, trivial⟩))
  ·intro b23 h2
   exact AW.exit (M20 f18 (Sh.some_eq h2).symm _ (Wk.tr rfl))
 ·intro b10 h1
  exact AW.exit (M7 f5 (Sh.some_eq h1).symm _ (Wk.tr rfl))

theorem impl_visitSteps_F_ok {N : Nat} : ∀ (n : Nat), ∀ {s0_0 : Bool} {p0 : Block} {r : Bool}, impl_visitSteps_F N n s0_0 p0 = some r → ACalls Try.prog 59 [(.agg [(ls eStep p0.steps), (i64 p0.result)]), (.fn 60 [(.ptr 0 0 0 0)])] [⟨0, 4, 1, [[(.bool s0_0)]]⟩] (fun v st => v = (.tup []) ∧ st = [⟨0, 4, 1, [[(.bool r)]]⟩]) := by
 intro n
 induction n with
 | zero => intro s0_0 p0 r h0; cases h0
 | succ n ih =>
  intro s0_0 p0 r h0
  rw [impl_visitSteps_F] at h0
  exact impl_visitSteps_B_ok (fun h => ih h) h0
theorem impl_visitSteps_ok {N : Nat} : ∀ {s0_0 : Bool} {p0 : Block} {r : Bool}, impl_visitSteps N s0_0 p0 = some r → ACalls Try.prog 59 [(.agg [(ls eStep p0.steps), (i64 p0.result)]), (.fn 60 [(.ptr 0 0 0 0)])] [⟨0, 4, 1, [[(.bool s0_0)]]⟩] (fun v st => v = (.tup []) ∧ st = [⟨0, 4, 1, [[(.bool r)]]⟩]) := by
 intro s0_0 p0 r h0
 exact impl_visitSteps_F_ok N h0
theorem impl_isPlainBlock_ok {N : Nat} {p0 : Block} {r : Bool} (h0 : impl_isPlainBlock N p0 = some r) : ACalls Try.prog 33 [(.agg [(ls eStep p0.steps), (i64 p0.result)])] [] (fun v st => v = (.bool r) ∧ st = []) := by
 unfold impl_isPlainBlock at h0
 refine ai Try.func33 rfl rfl rfl rfl (sr rfl fun K1 hK1 => ao_box (m := 0) (st' := [⟨0, 66, 2, [[(ls eStep p0.steps), (i64 p0.result)]]⟩]) go0 rfl rfl rfl rfl rfl (zq tb rfl (dn hK1 rfl (sr rfl fun K2 hK2 => ao_alloc (m := 1) (st' := [⟨0, 66, 2, [[(ls eStep p0.steps), (i64 p0.result)]]⟩, ⟨0, 4, 1, [[(.bool false)]]⟩]) go0 zi4 rfl rfl (ao_str (st' := [⟨0, 66, 2, [[(ls eStep p0.steps), (i64 p0.result)]]⟩, ⟨0, 4, 1, [[(.bool true)]]⟩]) go0 ti4 rfl rfl rfl rfl rfl rfl (show 0 + 1 ≤ 1 by decide) rfl (dn hK2 rfl (sr rfl fun K3 hK3 => zq tb rfl (zz (.fn 60 [(.ptr 1 0 0 0)]) (aq_fn rfl) rfl ?_))))))))
 refine bs h0 fun q4 gq4 h0 => ?_
 refine ao_calls (rowsP := [⟨0, 4, 1, [[(.bool true)]]⟩]) (rows0 := [⟨0, 4, 1, [[(.bool true)]]⟩]) (rows1 := [⟨0, 4, 1, [[(.bool q4)]]⟩]) (rows2 := []) (rows1' := [⟨0, 4, 1, [[(.bool q4)]]⟩]) (rows2' := []) (st' := [⟨0, 66, 2, [[(ls eStep p0.steps), (i64 p0.result)]]⟩, ⟨0, 4, 1, [[(.bool q4)]]⟩]) (v' := (.tup [])) [1] go0 hb59 (impl_visitSteps_ok gq4) rfl (by decide) rfl rfl (.raw rfl rfl .nil) rfl rfl (.raw rfl rfl .nil) .nil rfl rfl ?_
 refine dn hK3 rfl (zr tb rfl rfl ?_)
 replace h0 := Sh.some_eq h0
 subst r
 exact AW.ret (xr (Wk.d0 [(2, (.bool q4))] rfl))
theorem impl_IsPlain_ok {N : Nat} {p0 : RNormal} {r : Bool} (h0 : impl_IsPlain N p0 = some r) : ACalls Try.prog 16 [(.agg [(ls eRDecl p0.decls), (ls eRRoutine p0.routines)])] [] (fun v st => v = (.bool r) ∧ st = []) := by
 unfold impl_IsPlain at h0
 refine ai Try.func16 rfl rfl rfl rfl (sr rfl fun K1 hK1 => ao_box (m := 0) (st' := [⟨0, 42, 2, [[(ls eRDecl p0.decls), (ls eRRoutine p0.routines)]]⟩]) go0 rfl rfl rfl rfl rfl (zq tb rfl (dn hK1 rfl (AW.seq fun K2 hK2 => sr rfl fun K3 hK3 => zq tb rfl (bs h0 fun q4 gq4 h0 => zc hb32 (impl_ValidNormal_ok gq4) rfl rfl rfl (zq tb rfl (dn hK3 rfl ?_)))))))
 refine ci h0 rfl ?_ ?_ <;> clear h0
 ·intro b5 h0
  have b6 : q4 = false := by simpa using b5
  refine zr tb rfl rfl ?_
  replace h0 := Sh.some_eq h0
  subst r
  exact AW.ret (xr (Wk.d0 [(2, (.bool false))] rfl))
 ·intro b5 h0
  have b8 : q4 = true := by simpa using b5
  refine AW.skip (hK2 _ (AW.seq fun K9 hK9 => sr rfl fun K10 hK10 => zm tb 2 rfl (zl tb rfl rfl (zq tb rfl (dn hK10 rfl ?_)))))
  obtain ⟨o12, h1, h0⟩ := Sh.cont_some h0
  have M12 : ∀ (_ : Unit), o12 = Sum.inr () → ∀ s, Wk 0 s ⟨20, envL [], []⟩ → K9 s := by
   intro _ hq s hw
   subst o12
   try dsimp only at h0
   refine hK9 _ (AW.weaken hw (zr tb rfl rfl ?_))
   replace h0 := Sh.some_eq h0
   subst r
   exact AW.ret (xr (Wk.to (L := [(2, (.bool true))]) ⟨.rfl, trivial⟩))
  refine AW.block (AW.loopF (σ := Int) (fun n v => impl_IsPlain_L1 N p0 n v = some o12) (fun t11 => ⟨20, envL [(9, (ls eRRoutine p0.routines)), (10, (i64 (Sh.len p0.routines))), (11, (i64 t11))], []⟩) N 0 h1 (Wk.d0 _ rfl) (fun _ hv => by rw [impl_IsPlain_L1] at hv; cases hv) ?_)
  rintro n t11 h1
  try dsimp only at h1 ⊢
  rw [impl_IsPlain_L1] at h1
  refine zr tb rfl rfl (AW.seq fun K15 hK15 => ?_)
  refine ci h1 rfl ?_ ?_ <;> clear h1
  ·intro b16 h1
   refine AW.skip (hK15 _ (AW.seq fun K17 hK17 => AW.block (sr rfl fun K18 hK18 => bs h1 fun c19 gc19 h1 => zx ei40 gc19 rfl rfl rfl (zq tb rfl (ao_alloc (m := 0) (st' := [⟨0, 68, 5, [[.zc, .zc, (i64 0), .zc, (i64 0)]]⟩]) go0 zi68 rfl rfl (ao_str (st' := [⟨0, 68, 5, [[(ls eI c19.params), (ls eI c19.lent), (i64 c19.result), (ls eStep c19.body.steps), (i64 c19.body.result)]]⟩]) go0 ti68 rfl rfl rfl rfl rfl rfl (show 0 + 5 ≤ 5 by decide) rfl (dn hK18 rfl (sr rfl fun K20 hK20 => zm tb 2 rfl ?_))))))))
   refine bs h1 fun q21 gq21 h1 => zc hb33 (impl_isPlainBlock_ok gq21) rfl rfl rfl (zq tb rfl (dn hK20 rfl ?_))
   refine ci h1 rfl ?_ ?_ <;> clear h1
   ·intro b22 h1
    have b23 : q21 = false := by simpa using b22
    refine zr tb rfl rfl ?_
    replace h1 := Sh.some_eq h1
    subst o12
    try dsimp only [id] at h0
    replace h0 := Sh.some_eq h0
    subst r
    exact AW.ret (xr (Wk.d0 [(2, (.bool false))] rfl))
   ·intro b22 h1
    have b25 : q21 = true := by simpa using b22
    exact AW.skip (hK17 _ (AW.regionO rfl (zm tb 2 rfl (AO.done (xi (Sh.w (t11 + 1)) h1 (Wk.d0 _ rfl))))))
  ·intro b16 h1
   exact AW.exit (M12 () (Sh.some_eq h1).symm _ (Wk.tr rfl))
theorem laws_eqIntS_ok {N : Nat} {p0 : (List Int)} {p1 : (List Int)} {r : Bool} (h0 : laws_eqIntS N p0 p1 = some r) : ACalls Try.prog 22 [(ls eI p0), (ls eI p1)] [] (fun v st => v = (.bool r) ∧ st = []) := by
 unfold laws_eqIntS at h0
 refine ai Try.func22 rfl rfl rfl rfl (zr tb rfl rfl (AW.seq fun K2 hK2 => sr rfl fun K3 hK3 => zq tb rfl (zl tb rfl rfl (zq tb rfl (zl tb rfl rfl (zq tb rfl (dn hK3 rfl ?_)))))))
 refine ci h0 rfl ?_ ?_ <;> clear h0
 ·intro b4 h0
  have b5 : decide ((Sh.len p0) = (Sh.len p1)) = false := by simpa using b4
  refine zr tb rfl rfl ?_
  replace h0 := Sh.some_eq h0
  subst r
  exact AW.ret (xr (Wk.to (L := [(4, (.bool false))]) ⟨.rfl, trivial⟩))
 ·intro b4 h0
  have b7 : decide ((Sh.len p0) = (Sh.len p1)) = true := by simpa using b4
  refine AW.skip (hK2 _ (AW.seq fun K8 hK8 => zr tb rfl rfl ?_))
  obtain ⟨o11, h1, h0⟩ := Sh.cont_some h0
  have M11 : ∀ (_ : Unit), o11 = Sum.inr () → ∀ s, Wk 0 s ⟨26, envL [], []⟩ → K8 s := by
   intro _ hq s hw
   subst o11
   try dsimp only at h0
   refine hK8 _ (AW.weaken hw (zr tb rfl rfl ?_))
   replace h0 := Sh.some_eq h0
   subst r
   exact AW.ret (xr (Wk.to (L := [(4, (.bool true))]) ⟨.rfl, trivial⟩))
  refine AW.block (AW.loopF (σ := Int) (fun n v => laws_eqIntS_L1 p0 p1 n v = some o11) (fun i10 => ⟨26, envL [(0, (ls eI p0)), (1, (ls eI p1)), (5, (i64 i10))], []⟩) N 0 h1 (Wk.tr rfl) (fun _ hv => by rw [laws_eqIntS_L1] at hv; cases hv) ?_)
  rintro n i10 h1
  try dsimp only at h1 ⊢
  rw [laws_eqIntS_L1] at h1
  refine AW.seq fun K13 hK13 => sr rfl fun K14 hK14 => zm tb 2 rfl (zl tb rfl rfl (zq tb rfl (dn hK14 rfl ?_)))
  refine ci h1 rfl ?_ ?_ <;> clear h1
  ·intro b15 h1
   refine AW.skip (hK13 _ (AW.seq fun K16 hK16 => AW.block (AW.seq fun K17 hK17 => ?_)))
   refine AW.draw (by kernel_rfl) (by kernel_rfl) (by rfl) ?_
   iterate 2 refine yq tb rfl ?_
   refine bs h1 fun c18 gc18 h1 => yx ei22 gc18 rfl rfl rfl ?_
   iterate 3 refine yq tb rfl ?_
   refine bs h1 fun c19 gc19 h1 => yx ei22 gc19 rfl rfl rfl ?_
   iterate 2 refine yq tb rfl ?_
   refine d_done (hK17 _ ?_)
   refine ci h1 rfl ?_ ?_ <;> clear h1
   ·intro b20 h1
    have b21 : decide (c18 = c19) = false := by simpa using b20
    refine zr tb rfl rfl ?_
    replace h1 := Sh.some_eq h1
    subst o11
    try dsimp only [id] at h0
    replace h0 := Sh.some_eq h0
    subst r
    exact AW.ret (xr (Wk.to (L := [(4, (.bool false))]) ⟨.rfl, trivial⟩))
   ·intro b20 h1
    have b23 : decide (c18 = c19) = true := by simpa using b20
    exact AW.skip (hK16 _ (AW.regionO rfl (zm tb 3 rfl (AO.done (xi (Sh.w (i10 + 1)) h1 (Wk.tr rfl))))))
  ·intro b15 h1
   exact AW.exit (M11 () (Sh.some_eq h1).symm _ (Wk.tr rfl))
theorem laws_eqCon_ok {N : Nat} {p0 : RCon} {p1 : RCon} {r : Bool} (h0 : laws_eqCon N p0 p1 = some r) : ACalls Try.prog 111 [(.agg (eRCon p0)), (.agg (eRCon p1))] [] (fun v st => v = (.bool r) ∧ st = []) := by
 unfold laws_eqCon at h0
 refine ai Try.func111 rfl rfl rfl rfl (sr rfl fun K1 hK1 => ao_box (m := 0) (st' := [⟨0, 152, 1, [(eRCon p0)]⟩]) go0 rfl rfl rfl rfl rfl (ao_box (m := 1) (st' := [⟨0, 152, 1, [(eRCon p0)]⟩, ⟨0, 152, 1, [(eRCon p1)]⟩]) go0 rfl rfl rfl rfl rfl (zq tb rfl (dn hK1 rfl (AW.seq fun K2 hK2 => sr rfl fun K3 hK3 => zm tb 4 rfl (bs h0 fun q4 gq4 h0 => zc hb22 (laws_eqIntS_ok gq4) rfl rfl rfl (zq tb rfl ?_)))))))
 refine dn hK3 rfl ?_
 refine ci h0 rfl ?_ ?_ <;> clear h0
 ·intro b5 h0
  have b6 : q4 = false := by simpa using b5
  refine zr tb rfl rfl ?_
  replace h0 := Sh.some_eq h0
  subst r
  exact AW.ret (xr (Wk.d0 [(4, (.bool false))] rfl))
 ·intro b5 h0
  have b8 : q4 = true := by simpa using b5
  refine AW.skip (hK2 _ (zr tb rfl rfl ?_))
  replace h0 := Sh.some_eq h0
  subst r
  exact AW.ret (xr (Wk.d0 [(4, (.bool true))] rfl))
theorem laws_eqConS_ok {N : Nat} {p0 : (List RCon)} {p1 : (List RCon)} {r : Bool} (h0 : laws_eqConS N p0 p1 = some r) : ACalls Try.prog 83 [(ls eRCon p0), (ls eRCon p1)] [] (fun v st => v = (.bool r) ∧ st = []) := by
 unfold laws_eqConS at h0
 refine ai Try.func83 rfl rfl rfl rfl (zr tb rfl rfl (AW.seq fun K2 hK2 => sr rfl fun K3 hK3 => zq tb rfl (zl tb rfl rfl (zq tb rfl (zl tb rfl rfl (zq tb rfl (dn hK3 rfl ?_)))))))
 refine ci h0 rfl ?_ ?_ <;> clear h0
 ·intro b4 h0
  have b5 : decide ((Sh.len p0) = (Sh.len p1)) = false := by simpa using b4
  refine zr tb rfl rfl ?_
  replace h0 := Sh.some_eq h0
  subst r
  exact AW.ret (xr (Wk.to (L := [(4, (.bool false))]) ⟨.rfl, trivial⟩))
 ·intro b4 h0
  have b7 : decide ((Sh.len p0) = (Sh.len p1)) = true := by simpa using b4
  refine AW.skip (hK2 _ (AW.seq fun K8 hK8 => zr tb rfl rfl ?_))
  obtain ⟨o11, h1, h0⟩ := Sh.cont_some h0
  have M11 : ∀ (_ : Unit), o11 = Sum.inr () → ∀ s, Wk 0 s ⟨27, envL [], []⟩ → K8 s := by
   intro _ hq s hw
   subst o11
   try dsimp only at h0
   refine hK8 _ (AW.weaken hw (zr tb rfl rfl ?_))
   replace h0 := Sh.some_eq h0
   subst r
   exact AW.ret (xr (Wk.to (L := [(4, (.bool true))]) ⟨.rfl, trivial⟩))
  refine AW.block (AW.loopF (σ := Int) (fun n v => laws_eqConS_L1 N p0 p1 n v = some o11) (fun i10 => ⟨27, envL [(0, (ls eRCon p0)), (1, (ls eRCon p1)), (5, (i64 i10))], []⟩) N 0 h1 (Wk.tr rfl) (fun _ hv => by rw [laws_eqConS_L1] at hv; cases hv) ?_)
  rintro n i10 h1
  try dsimp only at h1 ⊢
  rw [laws_eqConS_L1] at h1
  refine AW.seq fun K13 hK13 => sr rfl fun K14 hK14 => zm tb 2 rfl (zl tb rfl rfl (zq tb rfl (dn hK14 rfl ?_)))
  refine ci h1 rfl ?_ ?_ <;> clear h1
  ·intro b15 h1
   refine AW.skip (hK13 _ (AW.seq fun K16 hK16 => AW.block (AW.seq fun K17 hK17 => ?_)))
   refine AW.draw (by kernel_rfl) (by kernel_rfl) (by rfl) ?_
   iterate 2 refine yq tb rfl ?_
   refine bs h1 fun c18 gc18 h1 => yx ei95 gc18 rfl rfl rfl ?_
   iterate 3 refine yq tb rfl ?_
   refine bs h1 fun c19 gc19 h1 => yx ei95 gc19 rfl rfl rfl (yq tb rfl (bs h1 fun q20 gq20 h1 => d_call (v := (.bool q20)) go0 hb111 (laws_eqCon_ok gq20) rfl rfl rfl (yq tb rfl (d_done (hK17 _ ?_)))))
   refine ci h1 rfl ?_ ?_ <;> clear h1
   ·intro b21 h1
    have b22 : q20 = false := by simpa using b21
    refine zr tb rfl rfl ?_
    replace h1 := Sh.some_eq h1
    subst o11
    try dsimp only [id] at h0
    replace h0 := Sh.some_eq h0
    subst r
    exact AW.ret (xr (Wk.to (L := [(4, (.bool false))]) ⟨.rfl, trivial⟩))
   ·intro b21 h1
    have b24 : q20 = true := by simpa using b21
    exact AW.skip (hK16 _ (AW.regionO rfl (zm tb 3 rfl (AO.done (xi (Sh.w (i10 + 1)) h1 (Wk.tr rfl))))))
  ·intro b15 h1
   exact AW.exit (M11 () (Sh.some_eq h1).symm _ (Wk.tr rfl))
theorem laws_eqDecl_ok {N : Nat} {p0 : RDecl} {p1 : RDecl} {r : Bool} (h0 : laws_eqDecl N p0 p1 = some r) : ACalls Try.prog 62 [(.agg (eRDecl p0)), (.agg (eRDecl p1))] [] (fun v st => v = (.bool r) ∧ st = []) := by
 unfold laws_eqDecl at h0
 refine ai Try.func62 rfl rfl rfl rfl (sr rfl fun K1 hK1 => ao_box (m := 0) (st' := [⟨0, 97, 3, [(eRDecl p0)]⟩]) go0 rfl rfl rfl rfl rfl (ao_box (m := 1) (st' := [⟨0, 97, 3, [(eRDecl p0)]⟩, ⟨0, 97, 3, [(eRDecl p1)]⟩]) go0 rfl rfl rfl rfl rfl (zq tb rfl (dn hK1 rfl (AW.seq fun K2 hK2 => zr tb rfl rfl ?_)))))
 refine ci h0 rfl ?_ ?_ <;> clear h0
 ·intro b4 h0
  have b5 : decide (p0.from_ = p1.from_) = false := by simpa using b4
  refine zr tb rfl rfl ?_
  replace h0 := Sh.some_eq h0
  subst r
  exact AW.ret (xr (Wk.d0 [(4, (.bool false))] rfl))
 ·intro b4 h0
  have b7 : decide (p0.from_ = p1.from_) = true := by simpa using b4
  refine AW.skip (hK2 _ (AW.seq fun K8 hK8 => zr tb rfl rfl ?_))
  refine ci h0 rfl ?_ ?_ <;> clear h0
  ·intro b10 h0
   have b11 : decide (p0.to = p1.to) = false := by simpa using b10
   refine zr tb rfl rfl ?_
   replace h0 := Sh.some_eq h0
   subst r
   exact AW.ret (xr (Wk.d0 [(4, (.bool false))] rfl))
  ·intro b10 h0
   have b13 : decide (p0.to = p1.to) = true := by simpa using b10
   refine AW.skip (hK8 _ (AW.seq fun K14 hK14 => sr rfl fun K15 hK15 => zm tb 4 rfl (bs h0 fun q16 gq16 h0 => zc hb83 (laws_eqConS_ok gq16) rfl rfl rfl (zq tb rfl (dn hK15 rfl ?_)))))
   refine ci h0 rfl ?_ ?_ <;> clear h0
   ·intro b17 h0
    have b18 : q16 = false := by simpa using b17
    refine zr tb rfl rfl ?_
    replace h0 := Sh.some_eq h0
    subst r
    exact AW.ret (xr (Wk.d0 [(4, (.bool false))] rfl))
   ·intro b17 h0
    have b20 : q16 = true := by simpa using b17
    refine AW.skip (hK14 _ (zr tb rfl rfl ?_))
    replace h0 := Sh.some_eq h0
    subst r
    exact AW.ret (xr (Wk.d0 [(4, (.bool true))] rfl))
theorem laws_eqDeclS_ok {N : Nat} {p0 : (List RDecl)} {p1 : (List RDecl)} {r : Bool} (h0 : laws_eqDeclS N p0 p1 = some r) : ACalls Try.prog 34 [(ls eRDecl p0), (ls eRDecl p1)] [] (fun v st => v = (.bool r) ∧ st = []) := by
 unfold laws_eqDeclS at h0
 refine ai Try.func34 rfl rfl rfl rfl (zr tb rfl rfl (AW.seq fun K2 hK2 => sr rfl fun K3 hK3 => zq tb rfl (zl tb rfl rfl (zq tb rfl (zl tb rfl rfl (zq tb rfl (dn hK3 rfl ?_)))))))
 refine ci h0 rfl ?_ ?_ <;> clear h0
 ·intro b4 h0
  have b5 : decide ((Sh.len p0) = (Sh.len p1)) = false := by simpa using b4
  refine zr tb rfl rfl ?_
  replace h0 := Sh.some_eq h0
  subst r
  exact AW.ret (xr (Wk.to (L := [(4, (.bool false))]) ⟨.rfl, trivial⟩))
 ·intro b4 h0
  have b7 : decide ((Sh.len p0) = (Sh.len p1)) = true := by simpa using b4
  refine AW.skip (hK2 _ (AW.seq fun K8 hK8 => zr tb rfl rfl ?_))
  obtain ⟨o11, h1, h0⟩ := Sh.cont_some h0
  have M11 : ∀ (_ : Unit), o11 = Sum.inr () → ∀ s, Wk 0 s ⟨27, envL [], []⟩ → K8 s := by
   intro _ hq s hw
   subst o11
   try dsimp only at h0
   refine hK8 _ (AW.weaken hw (zr tb rfl rfl ?_))
   replace h0 := Sh.some_eq h0
   subst r
   exact AW.ret (xr (Wk.to (L := [(4, (.bool true))]) ⟨.rfl, trivial⟩))
  refine AW.block (AW.loopF (σ := Int) (fun n v => laws_eqDeclS_L1 N p0 p1 n v = some o11) (fun i10 => ⟨27, envL [(0, (ls eRDecl p0)), (1, (ls eRDecl p1)), (5, (i64 i10))], []⟩) N 0 h1 (Wk.tr rfl) (fun _ hv => by rw [laws_eqDeclS_L1] at hv; cases hv) ?_)
  rintro n i10 h1
  try dsimp only at h1 ⊢
  rw [laws_eqDeclS_L1] at h1
  refine AW.seq fun K13 hK13 => sr rfl fun K14 hK14 => zm tb 2 rfl (zl tb rfl rfl (zq tb rfl (dn hK14 rfl ?_)))
  refine ci h1 rfl ?_ ?_ <;> clear h1
  ·intro b15 h1
   refine AW.skip (hK13 _ (AW.seq fun K16 hK16 => AW.block (AW.seq fun K17 hK17 => ?_)))
   refine AW.draw (by kernel_rfl) (by kernel_rfl) (by rfl) ?_
   iterate 2 refine yq tb rfl ?_
   refine bs h1 fun c18 gc18 h1 => yx ei39 gc18 rfl rfl rfl ?_
   iterate 3 refine yq tb rfl ?_
   refine bs h1 fun c19 gc19 h1 => yx ei39 gc19 rfl rfl rfl (yq tb rfl (bs h1 fun q20 gq20 h1 => d_call (v := (.bool q20)) go0 hb62 (laws_eqDecl_ok gq20) rfl rfl rfl (yq tb rfl (d_done (hK17 _ ?_)))))
   refine ci h1 rfl ?_ ?_ <;> clear h1
   ·intro b21 h1
    have b22 : q20 = false := by simpa using b21
    refine zr tb rfl rfl ?_
    replace h1 := Sh.some_eq h1
    subst o11
    try dsimp only [id] at h0
    replace h0 := Sh.some_eq h0
    subst r
    exact AW.ret (xr (Wk.to (L := [(4, (.bool false))]) ⟨.rfl, trivial⟩))
   ·intro b21 h1
    have b24 : q20 = true := by simpa using b21
    exact AW.skip (hK16 _ (AW.regionO rfl (zm tb 3 rfl (AO.done (xi (Sh.w (i10 + 1)) h1 (Wk.tr rfl))))))
  ·intro b15 h1
   exact AW.exit (M11 () (Sh.some_eq h1).symm _ (Wk.tr rfl))
theorem laws_eqBlockS_ok {N : Nat} {rec_laws_eqBlock : Block → Block → Option (Bool)} (hrec_laws_eqBlock : ∀ {p0 : Block} {p1 : Block} {r : Bool}, rec_laws_eqBlock p0 p1 = some r → ACalls Try.prog 84 [(.agg [(ls eStep p0.steps), (i64 p0.result)]), (.agg [(ls eStep p1.steps), (i64 p1.result)])] [] (fun v st => v = (.bool r) ∧ st = [])) {p0 : (List Block)} {p1 : (List Block)} {r : Bool} (h0 : laws_eqBlockS N rec_laws_eqBlock p0 p1 = some r) : ACalls Try.prog 143 [(ls eBlock p0), (ls eBlock p1)] [] (fun v st => v = (.bool r) ∧ st = []) := by
 unfold laws_eqBlockS at h0
 refine ai Try.func143 rfl rfl rfl rfl (zr tb rfl rfl (AW.seq fun K2 hK2 => sr rfl fun K3 hK3 => zq tb rfl (zl tb rfl rfl (zq tb rfl (zl tb rfl rfl (zq tb rfl (dn hK3 rfl ?_)))))))
 refine ci h0 rfl ?_ ?_ <;> clear h0
 ·intro b4 h0
  have b5 : decide ((Sh.len p0) = (Sh.len p1)) = false := by simpa using b4
  refine zr tb rfl rfl ?_
  replace h0 := Sh.some_eq h0
  subst r
  exact AW.ret (xr (Wk.to (L := [(4, (.bool false))]) ⟨.rfl, trivial⟩))
 ·intro b4 h0
  have b7 : decide ((Sh.len p0) = (Sh.len p1)) = true := by simpa using b4
  refine AW.skip (hK2 _ (AW.seq fun K8 hK8 => zr tb rfl rfl ?_))
  obtain ⟨o11, h1, h0⟩ := Sh.cont_some h0
  have M11 : ∀ (_ : Unit), o11 = Sum.inr () → ∀ s, Wk 0 s ⟨27, envL [], []⟩ → K8 s := by
   intro _ hq s hw
   subst o11
   try dsimp only at h0
   refine hK8 _ (AW.weaken hw (zr tb rfl rfl ?_))
   replace h0 := Sh.some_eq h0
   subst r
   exact AW.ret (xr (Wk.to (L := [(4, (.bool true))]) ⟨.rfl, trivial⟩))
  refine AW.block (AW.loopF (σ := Int) (fun n v => laws_eqBlockS_L1 p0 p1 rec_laws_eqBlock n v = some o11) (fun i10 => ⟨27, envL [(0, (ls eBlock p0)), (1, (ls eBlock p1)), (5, (i64 i10))], []⟩) N 0 h1 (Wk.tr rfl) (fun _ hv => by rw [laws_eqBlockS_L1] at hv; cases hv) ?_)
  rintro n i10 h1
  try dsimp only at h1 ⊢
  rw [laws_eqBlockS_L1] at h1
  refine AW.seq fun K13 hK13 => sr rfl fun K14 hK14 => zm tb 2 rfl (zl tb rfl rfl (zq tb rfl (dn hK14 rfl ?_)))
  refine ci h1 rfl ?_ ?_ <;> clear h1
  ·intro b15 h1
   refine AW.skip (hK13 _ (AW.seq fun K16 hK16 => AW.block (AW.seq fun K17 hK17 => ?_)))
   refine AW.draw (by kernel_rfl) (by kernel_rfl) (by rfl) ?_
   iterate 2 refine yq tb rfl ?_
   refine bs h1 fun c18 gc18 h1 => yx ei108 gc18 rfl rfl rfl ?_
   iterate 3 refine yq tb rfl ?_
   refine bs h1 fun c19 gc19 h1 => yx ei108 gc19 rfl rfl rfl (yq tb rfl (bs h1 fun q20 gq20 h1 => d_call (v := (.bool q20)) go0 hb84 (hrec_laws_eqBlock gq20) rfl rfl rfl (yq tb rfl (d_done (hK17 _ ?_)))))
   refine ci h1 rfl ?_ ?_ <;> clear h1
   ·intro b21 h1
    have b22 : q20 = false := by simpa using b21
    refine zr tb rfl rfl ?_
    replace h1 := Sh.some_eq h1
    subst o11
    try dsimp only [id] at h0
    replace h0 := Sh.some_eq h0
    subst r
    exact AW.ret (xr (Wk.to (L := [(4, (.bool false))]) ⟨.rfl, trivial⟩))
   ·intro b21 h1
    have b24 : q20 = true := by simpa using b21
    exact AW.skip (hK16 _ (AW.regionO rfl (zm tb 3 rfl (AO.done (xi (Sh.w (i10 + 1)) h1 (Wk.tr rfl))))))
  ·intro b15 h1
   exact AW.exit (M11 () (Sh.some_eq h1).symm _ (Wk.tr rfl))
theorem laws_eqStep_ok {N : Nat} {rec_laws_eqBlock : Block → Block → Option (Bool)} (hrec_laws_eqBlock : ∀ {p0 : Block} {p1 : Block} {r : Bool}, rec_laws_eqBlock p0 p1 = some r → ACalls Try.prog 84 [(.agg [(ls eStep p0.steps), (i64 p0.result)]), (.agg [(ls eStep p1.steps), (i64 p1.result)])] [] (fun v st => v = (.bool r) ∧ st = [])) {p0 : Step} {p1 : Step} {r : Bool} (h0 : laws_eqStep N rec_laws_eqBlock p0 p1 = some r) : ACalls Try.prog 133 [(.agg [(i64 p0.op), (i64 p0.num), (i64 p0.into), (ls eI p0.args), (ls eBlock p0.kids)]), (.agg [(i64 p1.op), (i64 p1.num), (i64 p1.into), (ls eI p1.args), (ls eBlock p1.kids)])] [] (fun v st => v = (.bool r) ∧ st = []) := by
 unfold laws_eqStep at h0
 refine ai Try.func133 rfl rfl rfl rfl (sr rfl fun K1 hK1 => ao_box (m := 0) (st' := [⟨0, 110, 5, [[(i64 p0.op), (i64 p0.num), (i64 p0.into), (ls eI p0.args), (ls eBlock p0.kids)]]⟩]) go0 rfl rfl rfl rfl rfl (ao_box (m := 1) (st' := [⟨0, 110, 5, [[(i64 p0.op), (i64 p0.num), (i64 p0.into), (ls eI p0.args), (ls eBlock p0.kids)]]⟩, ⟨0, 110, 5, [[(i64 p1.op), (i64 p1.num), (i64 p1.into), (ls eI p1.args), (ls eBlock p1.kids)]]⟩]) go0 rfl rfl rfl rfl rfl (zq tb rfl (dn hK1 rfl (AW.seq fun K2 hK2 => zr tb rfl rfl ?_)))))
 refine ci h0 rfl ?_ ?_ <;> clear h0
 ·intro b4 h0
  have b5 : decide (p0.op = p1.op) = false := by simpa using b4
  refine zr tb rfl rfl ?_
  replace h0 := Sh.some_eq h0
  subst r
  exact AW.ret (xr (Wk.d0 [(4, (.bool false))] rfl))
 ·intro b4 h0
  have b7 : decide (p0.op = p1.op) = true := by simpa using b4
  refine AW.skip (hK2 _ (AW.seq fun K8 hK8 => zr tb rfl rfl ?_))
  refine ci h0 rfl ?_ ?_ <;> clear h0
  ·intro b10 h0
   have b11 : decide (p0.num = p1.num) = false := by simpa using b10
   refine zr tb rfl rfl ?_
   replace h0 := Sh.some_eq h0
   subst r
   exact AW.ret (xr (Wk.d0 [(4, (.bool false))] rfl))
  ·intro b10 h0
   have b13 : decide (p0.num = p1.num) = true := by simpa using b10
   refine AW.skip (hK8 _ (AW.seq fun K14 hK14 => zr tb rfl rfl ?_))
   refine ci h0 rfl ?_ ?_ <;> clear h0
   ·intro b16 h0
    have b17 : decide (p0.into = p1.into) = false := by simpa using b16
    refine zr tb rfl rfl ?_
    replace h0 := Sh.some_eq h0
    subst r
    exact AW.ret (xr (Wk.d0 [(4, (.bool false))] rfl))
   ·intro b16 h0
    have b19 : decide (p0.into = p1.into) = true := by simpa using b16
    refine AW.skip (hK14 _ (AW.seq fun K20 hK20 => sr rfl fun K21 hK21 => zm tb 4 rfl (bs h0 fun q22 gq22 h0 => zc hb22 (laws_eqIntS_ok gq22) rfl rfl rfl (zq tb rfl (dn hK21 rfl ?_)))))
    refine ci h0 rfl ?_ ?_ <;> clear h0
    ·intro b23 h0
     have b24 : q22 = false := by simpa using b23
     refine zr tb rfl rfl ?_
     replace h0 := Sh.some_eq h0
     subst r
     exact AW.ret (xr (Wk.d0 [(4, (.bool false))] rfl))
    ·intro b23 h0
     have b26 : q22 = true := by simpa using b23
     refine AW.skip (hK20 _ (AW.seq fun K27 hK27 => sr rfl fun K28 hK28 => zm tb 4 rfl (bs h0 fun q29 gq29 h0 => zc hb143 (laws_eqBlockS_ok hrec_laws_eqBlock gq29) rfl rfl rfl (zq tb rfl (dn hK28 rfl ?_)))))
     refine ci h0 rfl ?_ ?_ <;> clear h0
     ·intro b30 h0
      have b31 : q29 = false := by simpa using b30
      refine zr tb rfl rfl ?_
      replace h0 := Sh.some_eq h0
      subst r
      exact AW.ret (xr (Wk.d0 [(4, (.bool false))] rfl))
     ·intro b30 h0
      have b33 : q29 = true := by simpa using b30
      refine AW.skip (hK27 _ (zr tb rfl rfl ?_))
      replace h0 := Sh.some_eq h0
      subst r
      exact AW.ret (xr (Wk.d0 [(4, (.bool true))] rfl))
theorem laws_eqStepS_ok {N : Nat} {rec_laws_eqBlock : Block → Block → Option (Bool)} (hrec_laws_eqBlock : ∀ {p0 : Block} {p1 : Block} {r : Bool}, rec_laws_eqBlock p0 p1 = some r → ACalls Try.prog 84 [(.agg [(ls eStep p0.steps), (i64 p0.result)]), (.agg [(ls eStep p1.steps), (i64 p1.result)])] [] (fun v st => v = (.bool r) ∧ st = [])) {p0 : (List Step)} {p1 : (List Step)} {r : Bool} (h0 : laws_eqStepS N rec_laws_eqBlock p0 p1 = some r) : ACalls Try.prog 112 [(ls eStep p0), (ls eStep p1)] [] (fun v st => v = (.bool r) ∧ st = []) := by
 unfold laws_eqStepS at h0
 refine ai Try.func112 rfl rfl rfl rfl (zr tb rfl rfl (AW.seq fun K2 hK2 => sr rfl fun K3 hK3 => zq tb rfl (zl tb rfl rfl (zq tb rfl (zl tb rfl rfl (zq tb rfl (dn hK3 rfl ?_)))))))
 refine ci h0 rfl ?_ ?_ <;> clear h0
 ·intro b4 h0
  have b5 : decide ((Sh.len p0) = (Sh.len p1)) = false := by simpa using b4
  refine zr tb rfl rfl ?_
  replace h0 := Sh.some_eq h0
  subst r
  exact AW.ret (xr (Wk.to (L := [(4, (.bool false))]) ⟨.rfl, trivial⟩))
 ·intro b4 h0
  have b7 : decide ((Sh.len p0) = (Sh.len p1)) = true := by simpa using b4
  refine AW.skip (hK2 _ (AW.seq fun K8 hK8 => zr tb rfl rfl ?_))
  obtain ⟨o11, h1, h0⟩ := Sh.cont_some h0
  have M11 : ∀ (_ : Unit), o11 = Sum.inr () → ∀ s, Wk 0 s ⟨27, envL [], []⟩ → K8 s := by
   intro _ hq s hw
   subst o11
   try dsimp only at h0
   refine hK8 _ (AW.weaken hw (zr tb rfl rfl ?_))
   replace h0 := Sh.some_eq h0
   subst r
   exact AW.ret (xr (Wk.to (L := [(4, (.bool true))]) ⟨.rfl, trivial⟩))
  refine AW.block (AW.loopF (σ := Int) (fun n v => laws_eqStepS_L1 N p0 p1 rec_laws_eqBlock n v = some o11) (fun i10 => ⟨27, envL [(0, (ls eStep p0)), (1, (ls eStep p1)), (5, (i64 i10))], []⟩) N 0 h1 (Wk.tr rfl) (fun _ hv => by rw [laws_eqStepS_L1] at hv; cases hv) ?_)
  rintro n i10 h1
  try dsimp only at h1 ⊢
  rw [laws_eqStepS_L1] at h1
  refine AW.seq fun K13 hK13 => sr rfl fun K14 hK14 => zm tb 2 rfl (zl tb rfl rfl (zq tb rfl (dn hK14 rfl ?_)))
  refine ci h1 rfl ?_ ?_ <;> clear h1
  ·intro b15 h1
   refine AW.skip (hK13 _ (AW.seq fun K16 hK16 => AW.block (AW.seq fun K17 hK17 => ?_)))
   refine AW.draw (by kernel_rfl) (by kernel_rfl) (by rfl) ?_
   iterate 2 refine yq tb rfl ?_
   refine bs h1 fun c18 gc18 h1 => yz (.iptr [(i64 c18.op), (i64 c18.num), (i64 c18.into), (ls eI c18.args), (ls eBlock c18.kids)] 0) (aq_ixsE ei64 rfl rfl gc18 (eStep_eq _) rfl) rfl ?_
   iterate 3 refine yq tb rfl ?_
   refine bs h1 fun c19 gc19 h1 => yz (.iptr [(i64 c19.op), (i64 c19.num), (i64 c19.into), (ls eI c19.args), (ls eBlock c19.kids)] 0) (aq_ixsE ei64 rfl rfl gc19 (eStep_eq _) rfl) rfl (yq tb rfl (bs h1 fun q20 gq20 h1 => d_call (v := (.bool q20)) go0 hb133 (laws_eqStep_ok hrec_laws_eqBlock gq20) rfl rfl rfl (yq tb rfl (d_done (hK17 _ ?_)))))
   refine ci h1 rfl ?_ ?_ <;> clear h1
   ·intro b21 h1
    have b22 : q20 = false := by simpa using b21
    refine zr tb rfl rfl ?_
    replace h1 := Sh.some_eq h1
    subst o11
    try dsimp only [id] at h0
    replace h0 := Sh.some_eq h0
    subst r
    exact AW.ret (xr (Wk.to (L := [(4, (.bool false))]) ⟨.rfl, trivial⟩))
   ·intro b21 h1
    have b24 : q20 = true := by simpa using b21
    exact AW.skip (hK16 _ (AW.regionO rfl (zm tb 3 rfl (AO.done (xi (Sh.w (i10 + 1)) h1 (Wk.tr rfl))))))
  ·intro b15 h1
   exact AW.exit (M11 () (Sh.some_eq h1).symm _ (Wk.tr rfl))
theorem laws_eqBlock_B_ok {N : Nat} {rec_laws_eqBlock : Block → Block → Option (Bool)} (hrec_laws_eqBlock : ∀ {p0 : Block} {p1 : Block} {r : Bool}, rec_laws_eqBlock p0 p1 = some r → ACalls Try.prog 84 [(.agg [(ls eStep p0.steps), (i64 p0.result)]), (.agg [(ls eStep p1.steps), (i64 p1.result)])] [] (fun v st => v = (.bool r) ∧ st = [])) {p0 : Block} {p1 : Block} {r : Bool} (h0 : laws_eqBlock_B N rec_laws_eqBlock p0 p1 = some r) : ACalls Try.prog 84 [(.agg [(ls eStep p0.steps), (i64 p0.result)]), (.agg [(ls eStep p1.steps), (i64 p1.result)])] [] (fun v st => v = (.bool r) ∧ st = []) := by
 unfold laws_eqBlock_B at h0
 refine ai Try.func84 rfl rfl rfl rfl (sr rfl fun K1 hK1 => ao_box (m := 0) (st' := [⟨0, 66, 2, [[(ls eStep p0.steps), (i64 p0.result)]]⟩]) go0 rfl rfl rfl rfl rfl (ao_box (m := 1) (st' := [⟨0, 66, 2, [[(ls eStep p0.steps), (i64 p0.result)]]⟩, ⟨0, 66, 2, [[(ls eStep p1.steps), (i64 p1.result)]]⟩]) go0 rfl rfl rfl rfl rfl (zq tb rfl (dn hK1 rfl (AW.seq fun K2 hK2 => sr rfl fun K3 hK3 => zm tb 4 rfl (bs h0 fun q4 gq4 h0 => zc hb112 (laws_eqStepS_ok hrec_laws_eqBlock gq4) rfl rfl rfl (zq tb rfl ?_)))))))
 refine dn hK3 rfl ?_
 refine ci h0 rfl ?_ ?_ <;> clear h0
 ·intro b5 h0
  have b6 : q4 = false := by simpa using b5
  refine zr tb rfl rfl ?_
  replace h0 := Sh.some_eq h0
  subst r
  exact AW.ret (xr (Wk.d0 [(4, (.bool false))] rfl))
 ·intro b5 h0
  have b8 : q4 = true := by simpa using b5
  refine AW.skip (hK2 _ (AW.seq fun K9 hK9 => zr tb rfl rfl ?_))
  refine ci h0 rfl ?_ ?_ <;> clear h0
  ·intro b11 h0
   have b12 : decide (p0.result = p1.result) = false := by simpa using b11
   refine zr tb rfl rfl ?_
   replace h0 := Sh.some_eq h0
   subst r
   exact AW.ret (xr (Wk.d0 [(4, (.bool false))] rfl))
  ·intro b11 h0
   have b14 : decide (p0.result = p1.result) = true := by simpa using b11
   refine AW.skip (hK9 _ (zr tb rfl rfl ?_))
   replace h0 := Sh.some_eq h0
   subst r
   exact AW.ret (xr (Wk.d0 [(4, (.bool true))] rfl))

theorem laws_eqBlock_F_ok {N : Nat} : ∀ (n : Nat), ∀ {p0 : Block} {p1 : Block} {r : Bool}, laws_eqBlock_F N n p0 p1 = some r → ACalls Try.prog 84 [(.agg [(ls eStep p0.steps), (i64 p0.result)]), (.agg [(ls eStep p1.steps), (i64 p1.result)])] [] (fun v st => v = (.bool r) ∧ st = []) := by
 intro n
 induction n with
 | zero => intro p0 p1 r h0; cases h0
 | succ n ih =>
  intro p0 p1 r h0
  rw [laws_eqBlock_F] at h0
  exact laws_eqBlock_B_ok (fun h => ih h) h0
theorem laws_eqBlock_ok {N : Nat} : ∀ {p0 : Block} {p1 : Block} {r : Bool}, laws_eqBlock N p0 p1 = some r → ACalls Try.prog 84 [(.agg [(ls eStep p0.steps), (i64 p0.result)]), (.agg [(ls eStep p1.steps), (i64 p1.result)])] [] (fun v st => v = (.bool r) ∧ st = []) := by
 intro p0 p1 r h0
 exact laws_eqBlock_F_ok N h0
theorem laws_eqRoutine_ok {N : Nat} {p0 : RRoutine} {p1 : RRoutine} {r : Bool} (h0 : laws_eqRoutine N p0 p1 = some r) : ACalls Try.prog 63 [(.agg [(ls eI p0.params), (ls eI p0.lent), (i64 p0.result), (ls eStep p0.body.steps), (i64 p0.body.result)]), (.agg [(ls eI p1.params), (ls eI p1.lent), (i64 p1.result), (ls eStep p1.body.steps), (i64 p1.body.result)])] [] (fun v st => v = (.bool r) ∧ st = []) := by
 unfold laws_eqRoutine at h0
 refine ai Try.func63 rfl rfl rfl rfl (sr rfl fun K1 hK1 => ao_box (m := 0) (st' := [⟨0, 68, 5, [[(ls eI p0.params), (ls eI p0.lent), (i64 p0.result), (ls eStep p0.body.steps), (i64 p0.body.result)]]⟩]) go0 rfl rfl rfl rfl rfl (ao_box (m := 1) (st' := [⟨0, 68, 5, [[(ls eI p0.params), (ls eI p0.lent), (i64 p0.result), (ls eStep p0.body.steps), (i64 p0.body.result)]]⟩, ⟨0, 68, 5, [[(ls eI p1.params), (ls eI p1.lent), (i64 p1.result), (ls eStep p1.body.steps), (i64 p1.body.result)]]⟩]) go0 rfl rfl rfl rfl rfl (zq tb rfl (dn hK1 rfl (AW.seq fun K2 hK2 => sr rfl fun K3 hK3 => zm tb 4 rfl (bs h0 fun q4 gq4 h0 => zc hb22 (laws_eqIntS_ok gq4) rfl rfl rfl (zq tb rfl ?_)))))))
 refine dn hK3 rfl ?_
 refine ci h0 rfl ?_ ?_ <;> clear h0
 ·intro b5 h0
  have b6 : q4 = false := by simpa using b5
  refine zr tb rfl rfl ?_
  replace h0 := Sh.some_eq h0
  subst r
  exact AW.ret (xr (Wk.d0 [(4, (.bool false))] rfl))
 ·intro b5 h0
  have b8 : q4 = true := by simpa using b5
  refine AW.skip (hK2 _ (AW.seq fun K9 hK9 => sr rfl fun K10 hK10 => zm tb 4 rfl (bs h0 fun q11 gq11 h0 => zc hb22 (laws_eqIntS_ok gq11) rfl rfl rfl (zq tb rfl (dn hK10 rfl ?_)))))
  refine ci h0 rfl ?_ ?_ <;> clear h0
  ·intro b12 h0
   have b13 : q11 = false := by simpa using b12
   refine zr tb rfl rfl ?_
   replace h0 := Sh.some_eq h0
   subst r
   exact AW.ret (xr (Wk.d0 [(4, (.bool false))] rfl))
  ·intro b12 h0
   have b15 : q11 = true := by simpa using b12
   refine AW.skip (hK9 _ (AW.seq fun K16 hK16 => zr tb rfl rfl ?_))
   refine ci h0 rfl ?_ ?_ <;> clear h0
   ·intro b18 h0
    have b19 : decide (p0.result = p1.result) = false := by simpa using b18
    refine zr tb rfl rfl ?_
    replace h0 := Sh.some_eq h0
    subst r
    exact AW.ret (xr (Wk.d0 [(4, (.bool false))] rfl))
   ·intro b18 h0
    have b21 : decide (p0.result = p1.result) = true := by simpa using b18
    refine AW.skip (hK16 _ (AW.seq fun K22 hK22 => sr rfl fun K23 hK23 => zm tb 4 rfl (bs h0 fun q24 gq24 h0 => zc hb84 (laws_eqBlock_ok gq24) rfl rfl rfl (zq tb rfl (dn hK23 rfl ?_)))))
    refine ci h0 rfl ?_ ?_ <;> clear h0
    ·intro b25 h0
     have b26 : q24 = false := by simpa using b25
     refine zr tb rfl rfl ?_
     replace h0 := Sh.some_eq h0
     subst r
     exact AW.ret (xr (Wk.d0 [(4, (.bool false))] rfl))
    ·intro b25 h0
     have b28 : q24 = true := by simpa using b25
     refine AW.skip (hK22 _ (zr tb rfl rfl ?_))
     replace h0 := Sh.some_eq h0
     subst r
     exact AW.ret (xr (Wk.d0 [(4, (.bool true))] rfl))
theorem laws_eqRoutineS_ok {N : Nat} {p0 : (List RRoutine)} {p1 : (List RRoutine)} {r : Bool} (h0 : laws_eqRoutineS N p0 p1 = some r) : ACalls Try.prog 35 [(ls eRRoutine p0), (ls eRRoutine p1)] [] (fun v st => v = (.bool r) ∧ st = []) := by
 unfold laws_eqRoutineS at h0
 refine ai Try.func35 rfl rfl rfl rfl (zr tb rfl rfl (AW.seq fun K2 hK2 => sr rfl fun K3 hK3 => zq tb rfl (zl tb rfl rfl (zq tb rfl (zl tb rfl rfl (zq tb rfl (dn hK3 rfl ?_)))))))
 refine ci h0 rfl ?_ ?_ <;> clear h0
 ·intro b4 h0
  have b5 : decide ((Sh.len p0) = (Sh.len p1)) = false := by simpa using b4
  refine zr tb rfl rfl ?_
  replace h0 := Sh.some_eq h0
  subst r
  exact AW.ret (xr (Wk.to (L := [(4, (.bool false))]) ⟨.rfl, trivial⟩))
 ·intro b4 h0
  have b7 : decide ((Sh.len p0) = (Sh.len p1)) = true := by simpa using b4
  refine AW.skip (hK2 _ (AW.seq fun K8 hK8 => zr tb rfl rfl ?_))
  obtain ⟨o11, h1, h0⟩ := Sh.cont_some h0
  have M11 : ∀ (_ : Unit), o11 = Sum.inr () → ∀ s, Wk 0 s ⟨27, envL [], []⟩ → K8 s := by
   intro _ hq s hw
   subst o11
   try dsimp only at h0
   refine hK8 _ (AW.weaken hw (zr tb rfl rfl ?_))
   replace h0 := Sh.some_eq h0
   subst r
   exact AW.ret (xr (Wk.to (L := [(4, (.bool true))]) ⟨.rfl, trivial⟩))
  refine AW.block (AW.loopF (σ := Int) (fun n v => laws_eqRoutineS_L1 N p0 p1 n v = some o11) (fun i10 => ⟨27, envL [(0, (ls eRRoutine p0)), (1, (ls eRRoutine p1)), (5, (i64 i10))], []⟩) N 0 h1 (Wk.tr rfl) (fun _ hv => by rw [laws_eqRoutineS_L1] at hv; cases hv) ?_)
  rintro n i10 h1
  try dsimp only at h1 ⊢
  rw [laws_eqRoutineS_L1] at h1
  refine AW.seq fun K13 hK13 => sr rfl fun K14 hK14 => zm tb 2 rfl (zl tb rfl rfl (zq tb rfl (dn hK14 rfl ?_)))
  refine ci h1 rfl ?_ ?_ <;> clear h1
  ·intro b15 h1
   refine AW.skip (hK13 _ (AW.seq fun K16 hK16 => AW.block (AW.seq fun K17 hK17 => ?_)))
   refine AW.draw (by kernel_rfl) (by kernel_rfl) (by rfl) ?_
   iterate 2 refine yq tb rfl ?_
   refine bs h1 fun c18 gc18 h1 => yx ei40 gc18 rfl rfl rfl ?_
   iterate 3 refine yq tb rfl ?_
   refine bs h1 fun c19 gc19 h1 => yx ei40 gc19 rfl rfl rfl (yq tb rfl (bs h1 fun q20 gq20 h1 => d_call (v := (.bool q20)) go0 hb63 (laws_eqRoutine_ok gq20) rfl rfl rfl (yq tb rfl (d_done (hK17 _ ?_)))))
   refine ci h1 rfl ?_ ?_ <;> clear h1
   ·intro b21 h1
    have b22 : q20 = false := by simpa using b21
    refine zr tb rfl rfl ?_
    replace h1 := Sh.some_eq h1
    subst o11
    try dsimp only [id] at h0
    replace h0 := Sh.some_eq h0
    subst r
    exact AW.ret (xr (Wk.to (L := [(4, (.bool false))]) ⟨.rfl, trivial⟩))
   ·intro b21 h1
    have b24 : q20 = true := by simpa using b21
    exact AW.skip (hK16 _ (AW.regionO rfl (zm tb 3 rfl (AO.done (xi (Sh.w (i10 + 1)) h1 (Wk.tr rfl))))))
  ·intro b15 h1
   exact AW.exit (M11 () (Sh.some_eq h1).symm _ (Wk.tr rfl))
theorem laws_eqNormal_ok {N : Nat} {p0 : RNormal} {p1 : RNormal} {r : Bool} (h0 : laws_eqNormal N p0 p1 = some r) : ACalls Try.prog 17 [(.agg [(ls eRDecl p0.decls), (ls eRRoutine p0.routines)]), (.agg [(ls eRDecl p1.decls), (ls eRRoutine p1.routines)])] [] (fun v st => v = (.bool r) ∧ st = []) := by
 unfold laws_eqNormal at h0
 refine ai Try.func17 rfl rfl rfl rfl (sr rfl fun K1 hK1 => ao_box (m := 0) (st' := [⟨0, 42, 2, [[(ls eRDecl p0.decls), (ls eRRoutine p0.routines)]]⟩]) go0 rfl rfl rfl rfl rfl (ao_box (m := 1) (st' := [⟨0, 42, 2, [[(ls eRDecl p0.decls), (ls eRRoutine p0.routines)]]⟩, ⟨0, 42, 2, [[(ls eRDecl p1.decls), (ls eRRoutine p1.routines)]]⟩]) go0 rfl rfl rfl rfl rfl (zq tb rfl (dn hK1 rfl (AW.seq fun K2 hK2 => sr rfl fun K3 hK3 => zm tb 4 rfl (bs h0 fun q4 gq4 h0 => zc hb34 (laws_eqDeclS_ok gq4) rfl rfl rfl (zq tb rfl ?_)))))))
 refine dn hK3 rfl ?_
 refine ci h0 rfl ?_ ?_ <;> clear h0
 ·intro b5 h0
  have b6 : q4 = false := by simpa using b5
  refine zr tb rfl rfl ?_
  replace h0 := Sh.some_eq h0
  subst r
  exact AW.ret (xr (Wk.d0 [(4, (.bool false))] rfl))
 ·intro b5 h0
  have b8 : q4 = true := by simpa using b5
  refine AW.skip (hK2 _ (AW.seq fun K9 hK9 => sr rfl fun K10 hK10 => zm tb 4 rfl (bs h0 fun q11 gq11 h0 => zc hb35 (laws_eqRoutineS_ok gq11) rfl rfl rfl (zq tb rfl (dn hK10 rfl ?_)))))
  refine ci h0 rfl ?_ ?_ <;> clear h0
  ·intro b12 h0
   have b13 : q11 = false := by simpa using b12
   refine zr tb rfl rfl ?_
   replace h0 := Sh.some_eq h0
   subst r
   exact AW.ret (xr (Wk.d0 [(4, (.bool false))] rfl))
  ·intro b12 h0
   have b15 : q11 = true := by simpa using b12
   refine AW.skip (hK9 _ (zr tb rfl rfl ?_))
   replace h0 := Sh.some_eq h0
   subst r
   exact AW.ret (xr (Wk.d0 [(4, (.bool true))] rfl))
theorem laws_FnExactIsPlain_ok {N : Nat} {p0 : RNormal} {r : Bool} (h0 : laws_FnExactIsPlain N p0 = some r) : ACalls Try.prog 5 [(.agg [(ls eRDecl p0.decls), (ls eRRoutine p0.routines)])] [] (fun v st => v = (.bool r) ∧ st = []) := by
 unfold laws_FnExactIsPlain at h0
 refine ai Try.func5 rfl rfl rfl rfl (sr rfl fun K1 hK1 => ao_box (m := 0) (st' := [⟨0, 36, 2, [[(ls eRDecl p0.decls), (ls eRRoutine p0.routines)]]⟩]) go0 rfl rfl rfl rfl rfl (zq tb rfl (dn hK1 rfl (zr tb rfl rfl (sr rfl fun K3 hK3 => zm tb 2 rfl (bs h0 fun q4 gq4 h0 => zc hb13 (laws_szNormal_ok gq4) rfl rfl rfl (zq tb rfl (dn hK3 rfl ?_))))))))
 refine AW.seq fun K5 hK5 => zr tb rfl rfl ?_
 refine ci h0 rfl ?_ ?_ <;> clear h0
 ·intro b7 h0
  refine zr tb rfl rfl ?_
  replace h0 := Sh.some_eq h0
  subst r
  exact AW.ret (xr (Wk.d0 [(2, (.bool true))] rfl))
 ·intro b7 h0
  refine AW.skip (hK5 _ (sr rfl fun K9 hK9 => zq tb rfl (bs h0 fun q10 gq10 h0 => zc (v' := (.agg [(ls eRDecl q10.decls), (ls eRRoutine q10.routines)])) hb15 (laws_toNormal_ok gq10) rfl rfl rfl (bs h0 fun q11 gq11 h0 => zc hb14 (spec_IsPlain_ok gq11) rfl rfl rfl (zq tb rfl (dn hK9 rfl (sr rfl fun K12 hK12 => zq tb rfl (bs h0 fun q13 gq13 h0 => ?_))))))))
  refine zc (v' := (.agg [(ls eRDecl q13.decls), (ls eRRoutine q13.routines)])) hb15 (laws_toNormal_ok gq13) rfl rfl rfl (ao_alloc (m := 1) (st' := [⟨0, 36, 2, [[(ls eRDecl p0.decls), (ls eRRoutine p0.routines)]]⟩, ⟨0, 42, 2, [[.zc, .zc]]⟩]) go0 zi42 rfl rfl (ao_str (st' := [⟨0, 36, 2, [[(ls eRDecl p0.decls), (ls eRRoutine p0.routines)]]⟩, ⟨0, 42, 2, [[(ls eRDecl q13.decls), (ls eRRoutine q13.routines)]]⟩]) go0 ti42 rfl rfl rfl rfl rfl rfl (show 0 + 2 ≤ 2 by decide) rfl (dn hK12 rfl (sr rfl fun K14 hK14 => zq tb rfl (bs h0 fun q15 gq15 h0 => zc hb16 (impl_IsPlain_ok gq15) rfl rfl rfl (zq tb rfl (dn hK14 rfl (AW.seq fun K16 hK16 => zr tb rfl rfl ?_))))))))
  refine ci h0 rfl ?_ ?_ <;> clear h0
  ·intro b18 h0
   refine zr tb rfl rfl ?_
   replace h0 := Sh.some_eq h0
   subst r
   exact AW.ret (xr (Wk.d0 [(2, (.bool false))] rfl))
  ·intro b18 h0
   refine AW.skip (hK16 _ (AW.seq fun K20 hK20 => AW.seq fun K21 hK21 => ?_))
   refine AW.draw (by kernel_rfl) (by kernel_rfl) (by rfl) ?_
   iterate 2 refine yq tb rfl ?_
   refine bs h0 fun q22 gq22 h0 => d_call (v := (.agg [(ls eRDecl q22.decls), (ls eRRoutine q22.routines)])) go0 hb15 (laws_toNormal_ok gq22) rfl rfl rfl (bs h0 fun q23 gq23 h0 => d_call (v := (.bool q23)) go0 hb17 (laws_eqNormal_ok gq23) rfl rfl rfl (yq tb rfl (d_done (hK21 _ ?_))))
   refine ci h0 rfl ?_ ?_ <;> clear h0
   ·intro b24 h0
    have b25 : q23 = false := by simpa using b24
    refine zr tb rfl rfl ?_
    replace h0 := Sh.some_eq h0
    subst r
    exact AW.ret (xr (Wk.d0 [(2, (.bool false))] rfl))
   ·intro b24 h0
    have b27 : q23 = true := by simpa using b24
    refine AW.skip (hK20 _ (zr tb rfl rfl ?_))
    replace h0 := Sh.some_eq h0
    subst r
    exact AW.ret (xr (Wk.d0 [(2, (.bool true))] rfl))
end Go.Proofs.Ytcegihniiokijaa

