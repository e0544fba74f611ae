import Derived.Test.YtcpedchmkhlpnaaProg
import Derived.Test.YtcpedchmkhlpnaaGEncCToUGDefs
import Derived.Test.YtcpedchmkhlpnaaAbsQ
import Derived.Test.YtcpedchmkhlpnaaSXWalk
namespace Go.Proofs.Ytcpedchmkhlpnaa
open Go Go.Abs RC
attribute [local irreducible] Go.Abs.dops
set_option maxRecDepth 100000
set_option maxHeartbeats 4000000

def tb : Tab Try.prog where
 t := [(23, false, 1), (3, false, 1), (40, false, 1), (42, true, 2), (45, false, 1), (47, true, 2), (92, false, 1), (94, true, 5), (96, false, 1), (98, true, 5)]
 f := [(42, 0, 0), (42, 1, 1), (47, 0, 0), (47, 1, 1), (94, 0, 0), (94, 1, 1), (94, 2, 2), (94, 3, 3), (94, 4, 4), (98, 0, 0), (98, 1, 1), (98, 2, 2), (98, 3, 3), (98, 4, 4)]
 v := []
 b := []
 s := [23, 40, 45, 82, 92, 96]
 ht := by kernel_rfl
 hf := by kernel_rfl
 hv := by kernel_rfl
 hb := by kernel_rfl
 hs := by kernel_rfl

theorem ei23 : einfo Try.prog 23 = some ⟨3, 1, 8, [.int .i64 0]⟩ := by kernel_rfl
theorem ei40 : einfo Try.prog 40 = some ⟨94, 5, 72, [.int .i64 0, .int .i64 0, .int .i64 0, .sl [], .sl []]⟩ := by kernel_rfl
theorem ei45 : einfo Try.prog 45 = some ⟨98, 5, 72, [.int .i64 0, .int .i64 0, .int .i64 0, .sl [], .sl []]⟩ := by kernel_rfl
theorem ei82 : einfo Try.prog 82 = some ⟨3, 1, 8, [.int .i64 0]⟩ := by kernel_rfl
theorem ei92 : einfo Try.prog 92 = some ⟨42, 2, 32, [.sl [], .int .i64 0]⟩ := by kernel_rfl
theorem ei96 : einfo Try.prog 96 = some ⟨47, 2, 32, [.sl [], .int .i64 0]⟩ := by kernel_rfl
theorem hb100 : hasBody Try.prog 100 = true := by kernel_rfl
theorem hb101 : hasBody Try.prog 101 = true := by kernel_rfl
theorem hb12 : hasBody Try.prog 12 = true := by kernel_rfl
theorem hb14 : hasBody Try.prog 14 = true := by kernel_rfl
theorem hb17 : hasBody Try.prog 17 = true := by kernel_rfl
theorem hb18 : hasBody Try.prog 18 = true := by kernel_rfl
theorem hb26 : hasBody Try.prog 26 = true := by kernel_rfl
theorem hb28 : hasBody Try.prog 28 = true := by kernel_rfl
theorem hb30 : hasBody Try.prog 30 = true := by kernel_rfl
theorem hb31 : hasBody Try.prog 31 = true := by kernel_rfl
theorem hb32 : hasBody Try.prog 32 = true := by kernel_rfl
theorem hb33 : hasBody Try.prog 33 = true := by kernel_rfl
theorem hb55 : hasBody Try.prog 55 = true := by kernel_rfl
theorem hb56 : hasBody Try.prog 56 = true := by kernel_rfl
theorem hb57 : hasBody Try.prog 57 = true := by kernel_rfl
theorem hb58 : hasBody Try.prog 58 = true := by kernel_rfl
theorem hb59 : hasBody Try.prog 59 = true := by kernel_rfl
theorem hb60 : hasBody Try.prog 60 = true := by kernel_rfl
theorem hb61 : hasBody Try.prog 61 = true := by kernel_rfl
theorem hb62 : hasBody Try.prog 62 = true := by kernel_rfl
theorem hb63 : hasBody Try.prog 63 = true := by kernel_rfl
theorem hb64 : hasBody Try.prog 64 = true := by kernel_rfl
theorem hb65 : hasBody Try.prog 65 = true := by kernel_rfl
theorem hb66 : hasBody Try.prog 66 = true := by kernel_rfl
theorem hb78 : hasBody Try.prog 78 = true := by kernel_rfl
theorem hb79 : hasBody Try.prog 79 = true := by kernel_rfl
theorem hb80 : hasBody Try.prog 80 = true := by kernel_rfl
theorem hb81 : hasBody Try.prog 81 = true := by kernel_rfl
theorem hb82 : hasBody Try.prog 82 = true := by kernel_rfl
theorem hb83 : hasBody Try.prog 83 = true := by kernel_rfl
theorem hb84 : hasBody Try.prog 84 = true := by kernel_rfl
theorem hb85 : hasBody Try.prog 85 = true := by kernel_rfl
theorem hb86 : hasBody Try.prog 86 = true := by kernel_rfl
theorem hb87 : hasBody Try.prog 87 = true := by kernel_rfl
theorem hb88 : hasBody Try.prog 88 = true := by kernel_rfl
theorem hb89 : hasBody Try.prog 89 = true := by kernel_rfl
theorem hb90 : hasBody Try.prog 90 = true := by kernel_rfl
theorem hb91 : hasBody Try.prog 91 = true := by kernel_rfl
theorem hb94 : hasBody Try.prog 94 = true := by kernel_rfl
theorem hb95 : hasBody Try.prog 95 = true := by kernel_rfl
theorem hb96 : hasBody Try.prog 96 = true := by kernel_rfl
theorem hb97 : hasBody Try.prog 97 = true := by kernel_rfl
theorem sl23 : isSliceT Try.prog 23 = true := by kernel_rfl
theorem sl45 : isSliceT Try.prog 45 = true := by kernel_rfl
theorem sl96 : isSliceT Try.prog 96 = true := by kernel_rfl
theorem ti23 : tinfo Try.prog 23 = some (false, 1) := by kernel_rfl
theorem ti3 : tinfo Try.prog 3 = some (false, 1) := by kernel_rfl
theorem ti45 : tinfo Try.prog 45 = some (false, 1) := by kernel_rfl
theorem ti47 : tinfo Try.prog 47 = some (true, 2) := by kernel_rfl
theorem ti96 : tinfo Try.prog 96 = some (false, 1) := by kernel_rfl
theorem ti98 : tinfo Try.prog 98 = some (true, 5) := by kernel_rfl
theorem zi23 : zinfo Try.prog 23 = some [.zc] := by kernel_rfl
theorem zi3 : zinfo Try.prog 3 = some [.int .i64 0] := by kernel_rfl
theorem zi47 : zinfo Try.prog 47 = some [.zc, .int .i64 0] := by kernel_rfl
theorem zi98 : zinfo Try.prog 98 = some [.int .i64 0, .int .i64 0, .int .i64 0, .zc, .zc] := by kernel_rfl

theorem laws_szIntS_ok {p0 : (List Int)} {p1 : Int} {r : Int} (h0 : laws_szIntS p0 p1 = some r) : ACalls Try.prog 66 [(ls eI p0), (i64 p1)] [] (fun v st => v = (i64 r) ∧ st = []) := by
 unfold laws_szIntS at h0
 refine ai Try.func66 rfl rfl rfl rfl ?_
 refine zr tb rfl rfl ?_
 refine sr rfl fun K2 hK2 => ?_
 refine zm tb 2 rfl ?_
 refine zl tb rfl rfl ?_
 refine zm tb 2 rfl ?_
 refine dn hK2 rfl ?_
 refine AW.seq fun K3 hK3 => ?_
 refine zr tb rfl rfl ?_
 refine ci h0 rfl ?_ ?_ <;> clear h0
 ·intro b5 h0
  refine zr tb rfl rfl ?_
  replace h0 := Sh.some_eq h0
  subst r
  exact AW.ret (xr (Wk.to (L := [(4, (i64 (-1)))]) ⟨.rfl, trivial⟩))
 ·intro b5 h0
  refine AW.skip (hK3 _ ?_)
  refine zr tb rfl rfl ?_
  replace h0 := Sh.some_eq h0
  subst r
  exact AW.ret (xr (Wk.to (L := [(4, (i64 (Sh.w (p1 - (Sh.len p0)))))]) ⟨.rfl, trivial⟩))
theorem laws_szBlockS_ok {N : Nat} {rec_laws_szBlock : Block → Int → Option (Int)} (hrec_laws_szBlock : ∀ {p0 : Block} {p1 : Int} {r : Int}, rec_laws_szBlock p0 p1 = some r → ACalls Try.prog 26 [(.agg [(ls eStep p0.steps), (i64 p0.result)]), (i64 p1)] [] (fun v st => v = (i64 r) ∧ st = [])) {p0 : (List Block)} {p1 : Int} {r : Int} (h0 : laws_szBlockS N rec_laws_szBlock p0 p1 = some r) : ACalls Try.prog 94 [(ls eBlock p0), (i64 p1)] [] (fun v st => v = (i64 r) ∧ st = []) := by
 unfold laws_szBlockS at h0
 refine ai Try.func94 rfl rfl rfl rfl ?_
 refine zr tb rfl rfl ?_
 refine sr rfl fun K2 hK2 => ?_
 refine zm tb 2 rfl ?_
 refine zl tb rfl rfl ?_
 refine zm tb 2 rfl ?_
 refine dn hK2 rfl ?_
 refine AW.seq fun K3 hK3 => ?_
 refine zr tb rfl rfl ?_
 refine ci h0 rfl ?_ ?_ <;> clear h0
 ·intro b5 h0
  refine zr tb rfl rfl ?_
  replace h0 := Sh.some_eq h0
  subst r
  exact AW.ret (xr (Wk.to (L := [(4, (i64 (-1)))]) ⟨.rfl, trivial⟩))
 ·intro b5 h0
  refine AW.skip (hK3 _ ?_)
  refine AW.seq fun K7 hK7 => ?_
  refine zr tb rfl rfl ?_
  obtain ⟨o12, h1, h0⟩ := Sh.cont_some h0
  have M12 : ∀ (left11 : Int), o12 = Sum.inr left11 → ∀ s, Wk 0 s ⟨27, envL [(1, (i64 left11))], []⟩ → K7 s := by
   intro left11 hq s hw
   subst o12
   try dsimp only at h0
   refine hK7 _ (AW.weaken hw ?_)
   refine zr tb rfl rfl ?_
   replace h0 := Sh.some_eq h0
   subst r
   exact AW.ret (xr (Wk.to (L := [(4, (i64 left11))]) ⟨.rfl, trivial⟩))
  refine AW.block (AW.loopF (σ := Int × Int) (fun n v => laws_szBlockS_L1 p0 rec_laws_szBlock n v.1 v.2 = some o12) (fun (left9, i10) => ⟨27, envL [(0, (ls eBlock p0)), (1, (i64 left9)), (5, (i64 i10))], []⟩) N (Sh.w (p1 - (Sh.len p0)), 0) h1 (Wk.tr rfl) (fun _ hv => by rw [laws_szBlockS_L1] at hv; cases hv) ?_)
  rintro n ⟨left9, i10⟩ h1
  try dsimp only at h1 ⊢
  rw [laws_szBlockS_L1] at h1
  refine AW.seq fun K14 hK14 => ?_
  refine sr rfl fun K15 hK15 => ?_
  refine zm tb 2 rfl ?_
  refine zl tb rfl rfl ?_
  refine zq tb rfl ?_
  refine dn hK15 rfl ?_
  refine ci h1 rfl ?_ ?_ <;> clear h1
  ·intro b16 h1
   refine AW.skip (hK14 _ ?_)
   refine AW.seq fun K17 hK17 => ?_
   refine AW.block ?_
   refine sr rfl fun K18 hK18 => ?_
   refine zm tb 2 rfl ?_
   obtain ⟨c19, gc19, h1⟩ := Sh.bind_some h1
   refine zx ei92 gc19 rfl rfl rfl ?_
   refine zm tb 2 rfl ?_
   obtain ⟨q20, gq20, h1⟩ := Sh.bind_some h1
   refine zc hb26 (hrec_laws_szBlock gq20) rfl rfl rfl ?_
   refine zq tb rfl ?_
   refine dn hK18 rfl ?_
   refine zr tb rfl rfl ?_
   refine ci h1 rfl ?_ ?_ <;> clear h1
   ·intro b22 h1
    refine zr tb rfl rfl ?_
    replace h1 := Sh.some_eq h1
    subst o12
    try dsimp only [id] at h0
    replace h0 := Sh.some_eq h0
    subst r
    exact AW.ret (xr (Wk.to (L := [(4, (i64 (-1)))]) ⟨.rfl, trivial⟩))
   ·intro b22 h1
    refine AW.skip (hK17 _ ?_)
    refine AW.regionO (by rfl) ?_
    refine zm tb 3 rfl ?_
    exact AO.done (xi (q20, Sh.w (i10 + 1)) h1 (Wk.tr rfl))
  ·intro b16 h1
   exact AW.exit (M12 left9 (Sh.some_eq h1).symm _ (Wk.tr rfl))
theorem laws_szStep_ok {N : Nat} {rec_laws_szBlock : Block → Int → Option (Int)} (hrec_laws_szBlock : ∀ {p0 : Block} {p1 : Int} {r : Int}, rec_laws_szBlock p0 p1 = some r → ACalls Try.prog 26 [(.agg [(ls eStep p0.steps), (i64 p0.result)]), (i64 p1)] [] (fun v st => v = (i64 r) ∧ st = [])) {p0 : Step} {p1 : Int} {r : Int} (h0 : laws_szStep N rec_laws_szBlock p0 p1 = some r) : ACalls Try.prog 78 [(.agg [(i64 p0.op), (i64 p0.num), (i64 p0.into), (ls eI p0.args), (ls eBlock p0.kids)]), (i64 p1)] [] (fun v st => v = (i64 r) ∧ st = []) := by
 unfold laws_szStep at h0
 refine ai Try.func78 rfl rfl rfl rfl ?_
 refine sr rfl fun K1 hK1 => ?_
 refine ao_box (m := 0) (st' := [⟨0, 94, 5, [[(i64 p0.op), (i64 p0.num), (i64 p0.into), (ls eI p0.args), (ls eBlock p0.kids)]]⟩]) go0 rfl rfl rfl rfl rfl ?_
 refine zq tb rfl ?_
 refine dn hK1 rfl ?_
 refine sr rfl fun K2 hK2 => ?_
 refine zm tb 3 rfl ?_
 obtain ⟨q3, gq3, h0⟩ := Sh.bind_some h0
 refine zc hb66 (laws_szIntS_ok gq3) rfl rfl rfl ?_
 refine zq tb rfl ?_
 refine dn hK2 rfl ?_
 refine AW.seq fun K4 hK4 => ?_
 refine zr tb rfl rfl ?_
 refine ci h0 rfl ?_ ?_ <;> clear h0
 ·intro b6 h0
  refine zr tb rfl rfl ?_
  replace h0 := Sh.some_eq h0
  subst r
  exact AW.ret (xr (Wk.d0 [(4, (i64 (-1)))] rfl))
 ·intro b6 h0
  refine AW.skip (hK4 _ ?_)
  refine sr rfl fun K8 hK8 => ?_
  refine zm tb 3 rfl ?_
  obtain ⟨q9, gq9, h0⟩ := Sh.bind_some h0
  refine zc hb94 (laws_szBlockS_ok hrec_laws_szBlock gq9) rfl rfl rfl ?_
  refine zq tb rfl ?_
  refine dn hK8 rfl ?_
  refine AW.seq fun K10 hK10 => ?_
  refine zr tb rfl rfl ?_
  refine ci h0 rfl ?_ ?_ <;> clear h0
  ·intro b12 h0
   refine zr tb rfl rfl ?_
   replace h0 := Sh.some_eq h0
   subst r
   exact AW.ret (xr (Wk.d0 [(4, (i64 (-1)))] rfl))
  ·intro b12 h0
   refine AW.skip (hK10 _ ?_)
   refine zr tb rfl rfl ?_
   replace h0 := Sh.some_eq h0
   subst r
   exact AW.ret (xr (Wk.d0 [(4, (i64 q9))] rfl))
theorem laws_szStepS_ok {N : Nat} {rec_laws_szBlock : Block → Int → Option (Int)} (hrec_laws_szBlock : ∀ {p0 : Block} {p1 : Int} {r : Int}, rec_laws_szBlock p0 p1 = some r → ACalls Try.prog 26 [(.agg [(ls eStep p0.steps), (i64 p0.result)]), (i64 p1)] [] (fun v st => v = (i64 r) ∧ st = [])) {p0 : (List Step)} {p1 : Int} {r : Int} (h0 : laws_szStepS N rec_laws_szBlock p0 p1 = some r) : ACalls Try.prog 55 [(ls eStep p0), (i64 p1)] [] (fun v st => v = (i64 r) ∧ st = []) := by
 unfold laws_szStepS at h0
 refine ai Try.func55 rfl rfl rfl rfl ?_
 refine zr tb rfl rfl ?_
 refine sr rfl fun K2 hK2 => ?_
 refine zm tb 2 rfl ?_
 refine zl tb rfl rfl ?_
 refine zm tb 2 rfl ?_
 refine dn hK2 rfl ?_
 refine AW.seq fun K3 hK3 => ?_
 refine zr tb rfl rfl ?_
 refine ci h0 rfl ?_ ?_ <;> clear h0
 ·intro b5 h0
  refine zr tb rfl rfl ?_
  replace h0 := Sh.some_eq h0
  subst r
  exact AW.ret (xr (Wk.to (L := [(4, (i64 (-1)))]) ⟨.rfl, trivial⟩))
 ·intro b5 h0
  refine AW.skip (hK3 _ ?_)
  refine AW.seq fun K7 hK7 => ?_
  refine zr tb rfl rfl ?_
  obtain ⟨o12, h1, h0⟩ := Sh.cont_some h0
  have M12 : ∀ (left11 : Int), o12 = Sum.inr left11 → ∀ s, Wk 0 s ⟨27, envL [(1, (i64 left11))], []⟩ → K7 s := by
   intro left11 hq s hw
   subst o12
   try dsimp only at h0
   refine hK7 _ (AW.weaken hw ?_)
   refine zr tb rfl rfl ?_
   replace h0 := Sh.some_eq h0
   subst r
   exact AW.ret (xr (Wk.to (L := [(4, (i64 left11))]) ⟨.rfl, trivial⟩))
  refine AW.block (AW.loopF (σ := Int × Int) (fun n v => laws_szStepS_L1 N p0 rec_laws_szBlock n v.1 v.2 = some o12) (fun (left9, i10) => ⟨27, envL [(0, (ls eStep p0)), (1, (i64 left9)), (5, (i64 i10))], []⟩) N (Sh.w (p1 - (Sh.len p0)), 0) h1 (Wk.tr rfl) (fun _ hv => by rw [laws_szStepS_L1] at hv; cases hv) ?_)
  rintro n ⟨left9, i10⟩ h1
  try dsimp only at h1 ⊢
  rw [laws_szStepS_L1] at h1
  refine AW.seq fun K14 hK14 => ?_
  refine sr rfl fun K15 hK15 => ?_
  refine zm tb 2 rfl ?_
  refine zl tb rfl rfl ?_
  refine zq tb rfl ?_
  refine dn hK15 rfl ?_
  refine ci h1 rfl ?_ ?_ <;> clear h1
  ·intro b16 h1
   refine AW.skip (hK14 _ ?_)
   refine AW.seq fun K17 hK17 => ?_
   refine AW.block ?_
   refine sr rfl fun K18 hK18 => ?_
   refine zm tb 2 rfl ?_
   obtain ⟨c19, gc19, h1⟩ := Sh.bind_some h1
   refine zz (.iptr [(i64 c19.op), (i64 c19.num), (i64 c19.into), (ls eI c19.args), (ls eBlock c19.kids)] 0) (aq_ixsE ei40 rfl rfl gc19 (eStep_eq _) rfl) rfl ?_
   refine zm tb 2 rfl ?_
   obtain ⟨q20, gq20, h1⟩ := Sh.bind_some h1
   refine zc hb78 (laws_szStep_ok hrec_laws_szBlock gq20) rfl rfl rfl ?_
   refine zq tb rfl ?_
   refine dn hK18 rfl ?_
   refine zr tb rfl rfl ?_
   refine ci h1 rfl ?_ ?_ <;> clear h1
   ·intro b22 h1
    refine zr tb rfl rfl ?_
    replace h1 := Sh.some_eq h1
    subst o12
    try dsimp only [id] at h0
    replace h0 := Sh.some_eq h0
    subst r
    exact AW.ret (xr (Wk.to (L := [(4, (i64 (-1)))]) ⟨.rfl, trivial⟩))
   ·intro b22 h1
    refine AW.skip (hK17 _ ?_)
    refine AW.regionO (by rfl) ?_
    refine zm tb 3 rfl ?_
    exact AO.done (xi (q20, Sh.w (i10 + 1)) h1 (Wk.tr rfl))
  ·intro b16 h1
   exact AW.exit (M12 left9 (Sh.some_eq h1).symm _ (Wk.tr rfl))
theorem laws_szBlock_B_ok {N : Nat} {rec_laws_szBlock : Block → Int → Option (Int)} (hrec_laws_szBlock : ∀ {p0 : Block} {p1 : Int} {r : Int}, rec_laws_szBlock p0 p1 = some r → ACalls Try.prog 26 [(.agg [(ls eStep p0.steps), (i64 p0.result)]), (i64 p1)] [] (fun v st => v = (i64 r) ∧ st = [])) {p0 : Block} {p1 : Int} {r : Int} (h0 : laws_szBlock_B N rec_laws_szBlock p0 p1 = some r) : ACalls Try.prog 26 [(.agg [(ls eStep p0.steps), (i64 p0.result)]), (i64 p1)] [] (fun v st => v = (i64 r) ∧ st = []) := by
 unfold laws_szBlock_B at h0
 refine ai Try.func26 rfl rfl rfl rfl ?_
 refine sr rfl fun K1 hK1 => ?_
 refine ao_box (m := 0) (st' := [⟨0, 42, 2, [[(ls eStep p0.steps), (i64 p0.result)]]⟩]) go0 rfl rfl rfl rfl rfl ?_
 refine zq tb rfl ?_
 refine dn hK1 rfl ?_
 refine sr rfl fun K2 hK2 => ?_
 refine zm tb 3 rfl ?_
 obtain ⟨q3, gq3, h0⟩ := Sh.bind_some h0
 refine zc hb55 (laws_szStepS_ok hrec_laws_szBlock gq3) rfl rfl rfl ?_
 refine zq tb rfl ?_
 refine dn hK2 rfl ?_
 refine AW.seq fun K4 hK4 => ?_
 refine zr tb rfl rfl ?_
 refine ci h0 rfl ?_ ?_ <;> clear h0
 ·intro b6 h0
  refine zr tb rfl rfl ?_
  replace h0 := Sh.some_eq h0
  subst r
  exact AW.ret (xr (Wk.d0 [(4, (i64 (-1)))] rfl))
 ·intro b6 h0
  refine AW.skip (hK4 _ ?_)
  refine zr tb rfl rfl ?_
  replace h0 := Sh.some_eq h0
  subst r
  exact AW.ret (xr (Wk.d0 [(4, (i64 q3))] rfl))

theorem laws_szBlock_F_ok {N : Nat} : ∀ (n : Nat), ∀ {p0 : Block} {p1 : Int} {r : Int}, laws_szBlock_F N n p0 p1 = some r → ACalls Try.prog 26 [(.agg [(ls eStep p0.steps), (i64 p0.result)]), (i64 p1)] [] (fun v st => v = (i64 r) ∧ st = []) := by
 intro n
 induction n with
 | zero => intro p0 p1 r h0; cases h0
 | succ n ih =>
  intro p0 p1 r h0
  rw [laws_szBlock_F] at h0
  exact laws_szBlock_B_ok (fun h => ih h) h0
theorem laws_szBlock_ok {N : Nat} : ∀ {p0 : Block} {p1 : Int} {r : Int}, laws_szBlock N p0 p1 = some r → ACalls Try.prog 26 [(.agg [(ls eStep p0.steps), (i64 p0.result)]), (i64 p1)] [] (fun v st => v = (i64 r) ∧ st = []) := by
 intro p0 p1 r h0
 exact laws_szBlock_F_ok N h0
theorem laws_toIntS_ok {N : Nat} {p0 : (List Int)} {r : (List Int)} (h0 : laws_toIntS N p0 = some r) : ACalls Try.prog 12 [(ls eI p0)] [] (fun v st => v = (ow 0 0 r) ∧ st = [(ro 0 3 1 eI r)]) := by
 unfold laws_toIntS at h0
 refine ai Try.func12 rfl rfl rfl rfl ?_
 refine zr tb rfl rfl ?_
 refine sr rfl fun K2 hK2 => ?_
 refine zq tb rfl ?_
 refine zl tb rfl rfl ?_
 obtain ⟨l3, gl3, h0⟩ := Sh.bind_some h0
 refine ao_make (m := 0) (st' := [(ro 0 3 1 eI l3)]) (enc := eI) (u := 0) go0 ei23 rfl rfl rfl gl3 rfl rfl ?_
 refine zq tb rfl ?_
 refine dn hK2 rfl ?_
 refine AW.seq fun K4 hK4 => ?_
 refine zr tb rfl rfl ?_
 obtain ⟨o9, h1, h0⟩ := Sh.bind_some h0
 have M9 : ∀ (l8 : (List Int)), o9 = l8 → ∀ s, Wk 0 s ⟨22, envL [(3, (ow 0 0 l8))], [(ro 0 3 1 eI l8)]⟩ → K4 s := by
  intro l8 hq s hw
  subst o9
  try dsimp only at h0
  refine hK4 _ (AW.weaken hw ?_)
  refine zr tb rfl rfl ?_
  replace h0 := Sh.some_eq h0
  subst r
  exact AW.ret (xr (Wk.to (L := [(2, (ow 0 0 l8))]) ⟨.rfl, trivial⟩))
 refine AW.block (AW.loopF (σ := Int × (List Int)) (fun n v => laws_toIntS_L1 p0 n v.1 v.2 = some o9) (fun (i6, l7) => ⟨22, envL [(0, (ls eI p0)), (3, (ow 0 0 l7)), (4, (i64 i6))], [(ro 0 3 1 eI l7)]⟩) N (0, l3) h1 (Wk.tr rfl) (fun _ hv => by rw [laws_toIntS_L1] at hv; cases hv) ?_)
 rintro n ⟨i6, l7⟩ h1
 try dsimp only at h1 ⊢
 rw [laws_toIntS_L1] at h1
 refine AW.seq fun K11 hK11 => ?_
 refine sr rfl fun K12 hK12 => ?_
 refine zm tb 2 rfl ?_
 refine zl tb rfl rfl ?_
 refine zq tb rfl ?_
 refine dn hK12 rfl ?_
 refine ci h1 rfl ?_ ?_ <;> clear h1
 ·intro b13 h1
  refine AW.skip (hK11 _ ?_)
  refine AW.seq fun K14 hK14 => ?_
  refine AW.block ?_
  refine AW.regionO (by rfl) ?_
  refine zm tb 4 rfl ?_
  obtain ⟨c15, gc15, h1⟩ := Sh.bind_some h1
  refine zx ei23 gc15 rfl rfl rfl ?_
  refine zq tb rfl ?_
  obtain ⟨c16, gc16, h1⟩ := Sh.bind_some h1
  refine zz (.ptr 0 0 (Int.toNat i6) 0) (aq_ixo ei23 rfl rfl rfl rfl gc16) rfl ?_
  refine ao_stl (st' := [(ro 0 3 1 eI (Sh.put l7 i6 c15))]) (u' := c15) go0 ti3 rfl rfl gc16 rfl rfl rfl (show 0 + 1 ≤ 1 by decide) rfl rfl ?_
  refine dn hK14 rfl ?_
  refine AW.regionO (by rfl) ?_
  refine zm tb 3 rfl ?_
  exact AO.done (xi (Sh.w (i6 + 1), Sh.put l7 i6 c15) h1 (Wk.to (L := [(0, (.sl (List.map eI p0))), (3, (.own 0 0 (List.length (Sh.put l7 i6 c15)))), (4, (i64 (Sh.w (i6 + 1))))]) ⟨.rfl, (.len (by simp only [Sh.put_len])), .rfl, trivial⟩))
 ·intro b13 h1
  exact AW.exit (M9 l7 (Sh.some_eq h1).symm _ (Wk.tr rfl))
theorem laws_toBlockS_ok {N : Nat} {rec_laws_toBlock : Block → Option (Block)} (hrec_laws_toBlock : ∀ {p0 : Block} {r : Block}, rec_laws_toBlock p0 = some r → ACalls Try.prog 28 [(.agg [(ls eStep p0.steps), (i64 p0.result)])] [] (fun v st => v = (.agg [(ls eStep r.steps), (i64 r.result)]) ∧ st = [])) {p0 : (List Block)} {r : (List Block)} (h0 : laws_toBlockS N rec_laws_toBlock p0 = some r) : ACalls Try.prog 96 [(ls eBlock p0)] [] (fun v st => v = (ow 0 0 r) ∧ st = [(ro 0 47 2 eBlock r)]) := by
 unfold laws_toBlockS at h0
 refine ai Try.func96 rfl rfl rfl rfl ?_
 refine zr tb rfl rfl ?_
 refine sr rfl fun K2 hK2 => ?_
 refine zq tb rfl ?_
 refine zl tb rfl rfl ?_
 obtain ⟨l3, gl3, h0⟩ := Sh.bind_some h0
 refine ao_make (m := 0) (st' := [(ro 0 47 2 eBlock l3)]) (enc := eBlock) (u := (Block.mk [] 0)) go0 ei96 rfl rfl rfl gl3 rfl rfl ?_
 refine zq tb rfl ?_
 refine dn hK2 rfl ?_
 refine AW.seq fun K4 hK4 => ?_
 refine zr tb rfl rfl ?_
 obtain ⟨o9, h1, h0⟩ := Sh.bind_some h0
 have M9 : ∀ (l8 : (List Block)), o9 = l8 → ∀ s, Wk 0 s ⟨23, envL [(3, (ow 0 0 l8))], [(ro 0 47 2 eBlock l8)]⟩ → K4 s := by
  intro l8 hq s hw
  subst o9
  try dsimp only at h0
  refine hK4 _ (AW.weaken hw ?_)
  refine zr tb rfl rfl ?_
  replace h0 := Sh.some_eq h0
  subst r
  exact AW.ret (xr (Wk.to (L := [(2, (ow 0 0 l8))]) ⟨.rfl, trivial⟩))
 refine AW.block (AW.loopF (σ := Int × (List Block)) (fun n v => laws_toBlockS_L1 p0 rec_laws_toBlock n v.1 v.2 = some o9) (fun (i6, l7) => ⟨23, envL [(0, (ls eBlock p0)), (3, (ow 0 0 l7)), (4, (i64 i6))], [(ro 0 47 2 eBlock l7)]⟩) N (0, l3) h1 (Wk.tr rfl) (fun _ hv => by rw [laws_toBlockS_L1] at hv; cases hv) ?_)
 rintro n ⟨i6, l7⟩ h1
 try dsimp only at h1 ⊢
 rw [laws_toBlockS_L1] at h1
 refine AW.seq fun K11 hK11 => ?_
 refine sr rfl fun K12 hK12 => ?_
 refine zm tb 2 rfl ?_
 refine zl tb rfl rfl ?_
 refine zq tb rfl ?_
 refine dn hK12 rfl ?_
 refine ci h1 rfl ?_ ?_ <;> clear h1
 ·intro b13 h1
  refine AW.skip (hK11 _ ?_)
  refine AW.seq fun K14 hK14 => ?_
  refine AW.block ?_
  refine AW.regionO (by rfl) ?_
  refine zm tb 4 rfl ?_
  obtain ⟨c15, gc15, h1⟩ := Sh.bind_some h1
  refine zx ei92 gc15 rfl rfl rfl ?_
  refine zq tb rfl ?_
  obtain ⟨q16, gq16, h1⟩ := Sh.bind_some h1
  refine zc (v' := (.agg [(ls eStep q16.steps), (i64 q16.result)])) hb28 (hrec_laws_toBlock gq16) rfl rfl rfl ?_
  obtain ⟨c17, gc17, h1⟩ := Sh.bind_some h1
  refine zz (.ptr 0 0 (Int.toNat i6) 0) (aq_ixo ei96 rfl rfl rfl rfl gc17) rfl ?_
  refine ao_stl (st' := [(ro 0 47 2 eBlock (Sh.put l7 i6 q16))]) (u' := q16) go0 ti47 rfl rfl gc17 rfl rfl rfl (show 0 + 2 ≤ 2 by decide) rfl rfl ?_
  refine dn hK14 rfl ?_
  refine AW.regionO (by rfl) ?_
  refine zm tb 3 rfl ?_
  exact AO.done (xi (Sh.w (i6 + 1), Sh.put l7 i6 q16) h1 (Wk.to (L := [(0, (.sl (List.map eBlock p0))), (3, (.own 0 0 (List.length (Sh.put l7 i6 q16)))), (4, (i64 (Sh.w (i6 + 1))))]) ⟨.rfl, (.len (by simp only [Sh.put_len])), .rfl, trivial⟩))
 ·intro b13 h1
  exact AW.exit (M9 l7 (Sh.some_eq h1).symm _ (Wk.tr rfl))
theorem laws_toStep_ok {N : Nat} {rec_laws_toBlock : Block → Option (Block)} (hrec_laws_toBlock : ∀ {p0 : Block} {r : Block}, rec_laws_toBlock p0 = some r → ACalls Try.prog 28 [(.agg [(ls eStep p0.steps), (i64 p0.result)])] [] (fun v st => v = (.agg [(ls eStep r.steps), (i64 r.result)]) ∧ st = [])) {p0 : Step} {r : Step} (h0 : laws_toStep N rec_laws_toBlock p0 = some r) : ACalls Try.prog 82 [(.agg [(i64 p0.op), (i64 p0.num), (i64 p0.into), (ls eI p0.args), (ls eBlock p0.kids)])] [] (fun v st => v = (.agg [(i64 r.op), (i64 r.num), (i64 r.into), (ls eI r.args), (ls eBlock r.kids)]) ∧ st = []) := by
 unfold laws_toStep at h0
 refine ACalls.flat rfl ?_
 refine ai Try.func82 rfl rfl rfl rfl ?_
 refine sr rfl fun K1 hK1 => ?_
 refine ao_box (m := 0) (st' := [⟨0, 94, 5, [[(i64 p0.op), (i64 p0.num), (i64 p0.into), (ls eI p0.args), (ls eBlock p0.kids)]]⟩]) go0 rfl rfl rfl rfl rfl ?_
 refine ao_alloc (m := 1) (st' := [⟨0, 94, 5, [[(i64 p0.op), (i64 p0.num), (i64 p0.into), (ls eI p0.args), (ls eBlock p0.kids)]]⟩, ⟨0, 98, 5, [[(i64 0), (i64 0), (i64 0), .zc, .zc]]⟩]) go0 zi98 rfl rfl ?_
 refine dn hK1 rfl ?_
 refine sr rfl fun K2 hK2 => ?_
 refine ao_alloc (m := 2) (st' := [⟨0, 94, 5, [[(i64 p0.op), (i64 p0.num), (i64 p0.into), (ls eI p0.args), (ls eBlock p0.kids)]]⟩, ⟨0, 98, 5, [[(i64 0), (i64 0), (i64 0), .zc, .zc]]⟩, ⟨0, 98, 5, [[(i64 0), (i64 0), (i64 0), .zc, .zc]]⟩]) go0 zi98 rfl rfl ?_
 refine dn hK2 rfl ?_
 refine sr rfl fun K3 hK3 => ?_
 refine zm tb 3 rfl ?_
 refine ao_str (st' := [⟨0, 94, 5, [[(i64 p0.op), (i64 p0.num), (i64 p0.into), (ls eI p0.args), (ls eBlock p0.kids)]]⟩, ⟨0, 98, 5, [[(i64 0), (i64 0), (i64 0), .zc, .zc]]⟩, ⟨0, 98, 5, [[(i64 p0.op), (i64 0), (i64 0), .zc, .zc]]⟩]) go0 ti3 rfl rfl rfl rfl rfl rfl (show 0 + 1 ≤ 5 by decide) rfl ?_
 refine dn hK3 rfl ?_
 refine sr rfl fun K4 hK4 => ?_
 refine zm tb 3 rfl ?_
 refine ao_str (st' := [⟨0, 94, 5, [[(i64 p0.op), (i64 p0.num), (i64 p0.into), (ls eI p0.args), (ls eBlock p0.kids)]]⟩, ⟨0, 98, 5, [[(i64 0), (i64 0), (i64 0), .zc, .zc]]⟩, ⟨0, 98, 5, [[(i64 p0.op), (i64 p0.num), (i64 0), .zc, .zc]]⟩]) go0 ti3 rfl rfl rfl rfl rfl rfl (show 1 + 1 ≤ 5 by decide) rfl ?_
 refine dn hK4 rfl ?_
 refine sr rfl fun K5 hK5 => ?_
 refine zm tb 3 rfl ?_
 refine ao_str (st' := [⟨0, 94, 5, [[(i64 p0.op), (i64 p0.num), (i64 p0.into), (ls eI p0.args), (ls eBlock p0.kids)]]⟩, ⟨0, 98, 5, [[(i64 0), (i64 0), (i64 0), .zc, .zc]]⟩, ⟨0, 98, 5, [[(i64 p0.op), (i64 p0.num), (i64 p0.into), .zc, .zc]]⟩]) go0 ti3 rfl rfl rfl rfl rfl rfl (show 2 + 1 ≤ 5 by decide) rfl ?_
 refine dn hK5 rfl ?_
 refine sr rfl fun K6 hK6 => ?_
 refine zm tb 2 rfl ?_
 obtain ⟨q7, gq7, h0⟩ := Sh.bind_some h0
 refine ao_call (v' := (ow 3 0 q7)) (st' := [⟨0, 94, 5, [[(i64 p0.op), (i64 p0.num), (i64 p0.into), (ls eI p0.args), (ls eBlock p0.kids)]]⟩, ⟨0, 98, 5, [[(i64 0), (i64 0), (i64 0), .zc, .zc]]⟩, ⟨0, 98, 5, [[(i64 p0.op), (i64 p0.num), (i64 p0.into), .zc, .zc]]⟩, (ro 0 3 1 eI q7)]) go0 hb12 (laws_toIntS_ok gq7) rfl rfl ⟨(pure_map' fun _ => rfl), trivial⟩ rfl rfl ?_
 refine zq tb rfl ?_
 refine AO.weaken (Wk.frz (L := [(1, (.ptr 0 0 0 0)), (2, (.ptr 1 0 0 0)), (3, (.ptr 2 0 0 0)), (15, (ls eI q7)), (16, (.ptr 2 0 0 3))]) (st' := [⟨0, 94, 5, [[(i64 p0.op), (i64 p0.num), (i64 p0.into), (ls eI p0.args), (ls eBlock p0.kids)]]⟩, ⟨0, 98, 5, [[(i64 0), (i64 0), (i64 0), .zc, .zc]]⟩, ⟨0, 98, 5, [[(i64 p0.op), (i64 p0.num), (i64 p0.into), .zc, .zc]]⟩, ⟨1, 3, 1, []⟩]) (id := 3) rfl (show 0 ≤ 3 by decide) (pure_map fun _ => rfl) ⟨.rfl, .rfl, .rfl, (.frz rfl), .rfl, trivial⟩ rfl) ?_
 refine ao_str (st' := [⟨0, 94, 5, [[(i64 p0.op), (i64 p0.num), (i64 p0.into), (ls eI p0.args), (ls eBlock p0.kids)]]⟩, ⟨0, 98, 5, [[(i64 0), (i64 0), (i64 0), .zc, .zc]]⟩, ⟨0, 98, 5, [[(i64 p0.op), (i64 p0.num), (i64 p0.into), (ls eI q7), .zc]]⟩, ⟨1, 3, 1, []⟩]) go0 ti23 rfl rfl rfl rfl rfl rfl (show 3 + 1 ≤ 5 by decide) rfl ?_
 refine dn hK6 rfl ?_
 refine sr rfl fun K8 hK8 => ?_
 refine zm tb 2 rfl ?_
 obtain ⟨q9, gq9, h0⟩ := Sh.bind_some h0
 refine ao_call (v' := (ow 4 0 q9)) (st' := [⟨0, 94, 5, [[(i64 p0.op), (i64 p0.num), (i64 p0.into), (ls eI p0.args), (ls eBlock p0.kids)]]⟩, ⟨0, 98, 5, [[(i64 0), (i64 0), (i64 0), .zc, .zc]]⟩, ⟨0, 98, 5, [[(i64 p0.op), (i64 p0.num), (i64 p0.into), (ls eI q7), .zc]]⟩, ⟨1, 3, 1, []⟩, (ro 0 47 2 eBlock q9)]) go0 hb96 (laws_toBlockS_ok hrec_laws_toBlock gq9) rfl rfl ⟨(pure_map' fun _ => rfl), trivial⟩ rfl rfl ?_
 refine zq tb rfl ?_
 refine AO.weaken (Wk.frz (L := [(2, (.ptr 1 0 0 0)), (3, (.ptr 2 0 0 0)), (19, (ls eBlock q9)), (20, (.ptr 2 0 0 4))]) (st' := [⟨0, 94, 5, [[(i64 p0.op), (i64 p0.num), (i64 p0.into), (ls eI p0.args), (ls eBlock p0.kids)]]⟩, ⟨0, 98, 5, [[(i64 0), (i64 0), (i64 0), .zc, .zc]]⟩, ⟨0, 98, 5, [[(i64 p0.op), (i64 p0.num), (i64 p0.into), (ls eI q7), .zc]]⟩, ⟨1, 3, 1, []⟩, ⟨1, 47, 2, []⟩]) (id := 4) rfl (show 0 ≤ 4 by decide) (pure_map fun _ => rfl) ⟨.rfl, .rfl, (.frz rfl), .rfl, trivial⟩ rfl) ?_
 refine ao_str (st' := [⟨0, 94, 5, [[(i64 p0.op), (i64 p0.num), (i64 p0.into), (ls eI p0.args), (ls eBlock p0.kids)]]⟩, ⟨0, 98, 5, [[(i64 0), (i64 0), (i64 0), .zc, .zc]]⟩, ⟨0, 98, 5, [[(i64 p0.op), (i64 p0.num), (i64 p0.into), (ls eI q7), (ls eBlock q9)]]⟩, ⟨1, 3, 1, []⟩, ⟨1, 47, 2, []⟩]) go0 ti96 rfl rfl rfl rfl rfl rfl (show 4 + 1 ≤ 5 by decide) rfl ?_
 refine dn hK8 rfl ?_
 refine sr rfl fun K10 hK10 => ?_
 refine zq tb rfl ?_
 refine ao_str (st' := [⟨0, 94, 5, [[(i64 p0.op), (i64 p0.num), (i64 p0.into), (ls eI p0.args), (ls eBlock p0.kids)]]⟩, ⟨0, 98, 5, [[(i64 p0.op), (i64 p0.num), (i64 p0.into), (ls eI q7), (ls eBlock q9)]]⟩, ⟨0, 98, 5, [[(i64 p0.op), (i64 p0.num), (i64 p0.into), (ls eI q7), (ls eBlock q9)]]⟩, ⟨1, 3, 1, []⟩, ⟨1, 47, 2, []⟩]) go0 ti98 rfl rfl rfl rfl rfl rfl (show 0 + 5 ≤ 5 by decide) rfl ?_
 refine dn hK10 rfl ?_
 replace h0 := Sh.some_eq h0
 subst r
 exact AW.ret (Exists.intro _ (And.intro (Wk.refl _ _) (aq_ldpa (x := .tmp 2) (off := 0) (cs := [(i64 p0.op), (i64 p0.num), (i64 p0.into), (ls eI q7), (ls eBlock q9)]) (vs := [(i64 p0.op), (i64 p0.num), (i64 p0.into), (ls eI q7), (ls eBlock q9)]) ti98 rfl rfl rfl (show 0 + 5 ≤ 5 by decide) rfl _ rfl)))
theorem laws_toStepS_ok {N : Nat} {rec_laws_toBlock : Block → Option (Block)} (hrec_laws_toBlock : ∀ {p0 : Block} {r : Block}, rec_laws_toBlock p0 = some r → ACalls Try.prog 28 [(.agg [(ls eStep p0.steps), (i64 p0.result)])] [] (fun v st => v = (.agg [(ls eStep r.steps), (i64 r.result)]) ∧ st = [])) {p0 : (List Step)} {r : (List Step)} (h0 : laws_toStepS N rec_laws_toBlock p0 = some r) : ACalls Try.prog 59 [(ls eStep p0)] [] (fun v st => v = (ow 0 0 r) ∧ st = [(ro 0 98 5 eStep r)]) := by
 unfold laws_toStepS at h0
 refine ai Try.func59 rfl rfl rfl rfl ?_
 refine zr tb rfl rfl ?_
 refine sr rfl fun K2 hK2 => ?_
 refine zq tb rfl ?_
 refine zl tb rfl rfl ?_
 obtain ⟨l3, gl3, h0⟩ := Sh.bind_some h0
 refine ao_make (m := 0) (st' := [(ro 0 98 5 eStep l3)]) (enc := eStep) (u := (Step.mk 0 0 0 [] [])) go0 ei45 rfl rfl (eStep_eq _) gl3 rfl rfl ?_
 refine zq tb rfl ?_
 refine dn hK2 rfl ?_
 refine AW.seq fun K4 hK4 => ?_
 refine zr tb rfl rfl ?_
 obtain ⟨o9, h1, h0⟩ := Sh.bind_some h0
 have M9 : ∀ (l8 : (List Step)), o9 = l8 → ∀ s, Wk 0 s ⟨23, envL [(3, (ow 0 0 l8))], [(ro 0 98 5 eStep l8)]⟩ → K4 s := by
  intro l8 hq s hw
  subst o9
  try dsimp only at h0
  refine hK4 _ (AW.weaken hw ?_)
  refine zr tb rfl rfl ?_
  replace h0 := Sh.some_eq h0
  subst r
  exact AW.ret (xr (Wk.to (L := [(2, (ow 0 0 l8))]) ⟨.rfl, trivial⟩))
 refine AW.block (AW.loopF (σ := Int × (List Step)) (fun n v => laws_toStepS_L1 N p0 rec_laws_toBlock n v.1 v.2 = some o9) (fun (i6, l7) => ⟨23, envL [(0, (ls eStep p0)), (3, (ow 0 0 l7)), (4, (i64 i6))], [(ro 0 98 5 eStep l7)]⟩) N (0, l3) h1 (Wk.tr rfl) (fun _ hv => by rw [laws_toStepS_L1] at hv; cases hv) ?_)
 rintro n ⟨i6, l7⟩ h1
 try dsimp only at h1 ⊢
 rw [laws_toStepS_L1] at h1
 refine AW.seq fun K11 hK11 => ?_
 refine sr rfl fun K12 hK12 => ?_
 refine zm tb 2 rfl ?_
 refine zl tb rfl rfl ?_
 refine zq tb rfl ?_
 refine dn hK12 rfl ?_
 refine ci h1 rfl ?_ ?_ <;> clear h1
 ·intro b13 h1
  refine AW.skip (hK11 _ ?_)
  refine AW.seq fun K14 hK14 => ?_
  refine AW.block ?_
  refine AW.regionO (by rfl) ?_
  refine zm tb 4 rfl ?_
  obtain ⟨c15, gc15, h1⟩ := Sh.bind_some h1
  refine zz (.iptr [(i64 c15.op), (i64 c15.num), (i64 c15.into), (ls eI c15.args), (ls eBlock c15.kids)] 0) (aq_ixsE ei40 rfl rfl gc15 (eStep_eq _) rfl) rfl ?_
  refine zq tb rfl ?_
  obtain ⟨q16, gq16, h1⟩ := Sh.bind_some h1
  refine zc (v' := (.agg [(i64 q16.op), (i64 q16.num), (i64 q16.into), (ls eI q16.args), (ls eBlock q16.kids)])) hb82 (laws_toStep_ok hrec_laws_toBlock gq16) rfl rfl rfl ?_
  obtain ⟨c17, gc17, h1⟩ := Sh.bind_some h1
  refine zz (.ptr 0 0 (Int.toNat i6) 0) (aq_ixo ei45 rfl rfl rfl rfl gc17) rfl ?_
  refine ao_stl (st' := [(ro 0 98 5 eStep (Sh.put l7 i6 q16))]) (u' := q16) go0 ti98 rfl rfl gc17 rfl rfl rfl (show 0 + 5 ≤ 5 by decide) (by rw [eStep_eq, eStep_eq]; rfl) rfl ?_
  refine dn hK14 rfl ?_
  refine AW.regionO (by rfl) ?_
  refine zm tb 3 rfl ?_
  exact AO.done (xi (Sh.w (i6 + 1), Sh.put l7 i6 q16) h1 (Wk.to (L := [(0, (.sl (List.map eStep p0))), (3, (.own 0 0 (List.length (Sh.put l7 i6 q16)))), (4, (i64 (Sh.w (i6 + 1))))]) ⟨.rfl, (.len (by simp only [Sh.put_len])), .rfl, trivial⟩))
 ·intro b13 h1
  exact AW.exit (M9 l7 (Sh.some_eq h1).symm _ (Wk.tr rfl))
theorem laws_toBlock_B_ok {N : Nat} {rec_laws_toBlock : Block → Option (Block)} (hrec_laws_toBlock : ∀ {p0 : Block} {r : Block}, rec_laws_toBlock p0 = some r → ACalls Try.prog 28 [(.agg [(ls eStep p0.steps), (i64 p0.result)])] [] (fun v st => v = (.agg [(ls eStep r.steps), (i64 r.result)]) ∧ st = [])) {p0 : Block} {r : Block} (h0 : laws_toBlock_B N rec_laws_toBlock p0 = some r) : ACalls Try.prog 28 [(.agg [(ls eStep p0.steps), (i64 p0.result)])] [] (fun v st => v = (.agg [(ls eStep r.steps), (i64 r.result)]) ∧ st = []) := by
 unfold laws_toBlock_B at h0
 refine ACalls.flat rfl ?_
 refine ai Try.func28 rfl rfl rfl rfl ?_
 refine sr rfl fun K1 hK1 => ?_
 refine ao_box (m := 0) (st' := [⟨0, 42, 2, [[(ls eStep p0.steps), (i64 p0.result)]]⟩]) go0 rfl rfl rfl rfl rfl ?_
 refine ao_alloc (m := 1) (st' := [⟨0, 42, 2, [[(ls eStep p0.steps), (i64 p0.result)]]⟩, ⟨0, 47, 2, [[.zc, (i64 0)]]⟩]) go0 zi47 rfl rfl ?_
 refine dn hK1 rfl ?_
 refine sr rfl fun K2 hK2 => ?_
 refine ao_alloc (m := 2) (st' := [⟨0, 42, 2, [[(ls eStep p0.steps), (i64 p0.result)]]⟩, ⟨0, 47, 2, [[.zc, (i64 0)]]⟩, ⟨0, 47, 2, [[.zc, (i64 0)]]⟩]) go0 zi47 rfl rfl ?_
 refine dn hK2 rfl ?_
 refine sr rfl fun K3 hK3 => ?_
 refine zm tb 2 rfl ?_
 obtain ⟨q4, gq4, h0⟩ := Sh.bind_some h0
 refine ao_call (v' := (ow 3 0 q4)) (st' := [⟨0, 42, 2, [[(ls eStep p0.steps), (i64 p0.result)]]⟩, ⟨0, 47, 2, [[.zc, (i64 0)]]⟩, ⟨0, 47, 2, [[.zc, (i64 0)]]⟩, (ro 0 98 5 eStep q4)]) go0 hb59 (laws_toStepS_ok hrec_laws_toBlock gq4) rfl rfl ⟨(pure_map' eStep_pure), trivial⟩ rfl rfl ?_
 refine zq tb rfl ?_
 refine AO.weaken (Wk.frz (L := [(1, (.ptr 0 0 0 0)), (2, (.ptr 1 0 0 0)), (3, (.ptr 2 0 0 0)), (6, (ls eStep q4)), (7, (.ptr 2 0 0 0))]) (st' := [⟨0, 42, 2, [[(ls eStep p0.steps), (i64 p0.result)]]⟩, ⟨0, 47, 2, [[.zc, (i64 0)]]⟩, ⟨0, 47, 2, [[.zc, (i64 0)]]⟩, ⟨1, 98, 5, []⟩]) (id := 3) rfl (show 0 ≤ 3 by decide) (pure_map eStep_pure) ⟨.rfl, .rfl, .rfl, (.frz rfl), .rfl, trivial⟩ rfl) ?_
 refine ao_str (st' := [⟨0, 42, 2, [[(ls eStep p0.steps), (i64 p0.result)]]⟩, ⟨0, 47, 2, [[.zc, (i64 0)]]⟩, ⟨0, 47, 2, [[(ls eStep q4), (i64 0)]]⟩, ⟨1, 98, 5, []⟩]) go0 ti45 rfl rfl rfl rfl rfl rfl (show 0 + 1 ≤ 2 by decide) rfl ?_
 refine dn hK3 rfl ?_
 refine sr rfl fun K5 hK5 => ?_
 refine zm tb 3 rfl ?_
 refine ao_str (st' := [⟨0, 42, 2, [[(ls eStep p0.steps), (i64 p0.result)]]⟩, ⟨0, 47, 2, [[.zc, (i64 0)]]⟩, ⟨0, 47, 2, [[(ls eStep q4), (i64 p0.result)]]⟩, ⟨1, 98, 5, []⟩]) go0 ti3 rfl rfl rfl rfl rfl rfl (show 1 + 1 ≤ 2 by decide) rfl ?_
 refine dn hK5 rfl ?_
 refine sr rfl fun K6 hK6 => ?_
 refine zq tb rfl ?_
 refine ao_str (st' := [⟨0, 42, 2, [[(ls eStep p0.steps), (i64 p0.result)]]⟩, ⟨0, 47, 2, [[(ls eStep q4), (i64 p0.result)]]⟩, ⟨0, 47, 2, [[(ls eStep q4), (i64 p0.result)]]⟩, ⟨1, 98, 5, []⟩]) go0 ti47 rfl rfl rfl rfl rfl rfl (show 0 + 2 ≤ 2 by decide) rfl ?_
 refine dn hK6 rfl ?_
 replace h0 := Sh.some_eq h0
 subst r
 exact AW.ret (Exists.intro _ (And.intro (Wk.refl _ _) (aq_ldpa (x := .tmp 2) (off := 0) (cs := [(ls eStep q4), (i64 p0.result)]) (vs := [(ls eStep q4), (i64 p0.result)]) ti47 rfl rfl rfl (show 0 + 2 ≤ 2 by decide) rfl _ rfl)))

theorem laws_toBlock_F_ok {N : Nat} : ∀ (n : Nat), ∀ {p0 : Block} {r : Block}, laws_toBlock_F N n p0 = some r → ACalls Try.prog 28 [(.agg [(ls eStep p0.steps), (i64 p0.result)])] [] (fun v st => v = (.agg [(ls eStep r.steps), (i64 r.result)]) ∧ st = []) := by
 intro n
 induction n with
 | zero => intro p0 r h0; cases h0
 | succ n ih =>
  intro p0 r h0
  rw [laws_toBlock_F] at h0
  exact laws_toBlock_B_ok (fun h => ih h) h0
theorem laws_toBlock_ok {N : Nat} : ∀ {p0 : Block} {r : Block}, laws_toBlock N p0 = some r → ACalls Try.prog 28 [(.agg [(ls eStep p0.steps), (i64 p0.result)])] [] (fun v st => v = (.agg [(ls eStep r.steps), (i64 r.result)]) ∧ st = []) := by
 intro p0 r h0
 exact laws_toBlock_F_ok N h0
theorem spec_stepsLeft_B_ok {N : Nat} {rec_spec_stepsLeft : Block → Int → Option (Int)} (hrec_spec_stepsLeft : ∀ {p0 : Block} {p1 : Int} {r : Int}, rec_spec_stepsLeft p0 p1 = some r → ACalls Try.prog 79 [(.agg [(ls eStep p0.steps), (i64 p0.result)]), (i64 p1)] [] (fun v st => v = (i64 r) ∧ st = [])) {p0 : Block} {p1 : Int} {r : Int} (h0 : spec_stepsLeft_B N rec_spec_stepsLeft p0 p1 = some r) : ACalls Try.prog 79 [(.agg [(ls eStep p0.steps), (i64 p0.result)]), (i64 p1)] [] (fun v st => v = (i64 r) ∧ st = []) := by
 unfold spec_stepsLeft_B at h0
 refine ai Try.func79 rfl rfl rfl rfl ?_
 refine sr rfl fun K1 hK1 => ?_
 refine ao_box (m := 0) (st' := [⟨0, 47, 2, [[(ls eStep p0.steps), (i64 p0.result)]]⟩]) go0 rfl rfl rfl rfl rfl ?_
 refine zq tb rfl ?_
 refine dn hK1 rfl ?_
 refine AW.seq fun K2 hK2 => ?_
 refine zr tb rfl rfl ?_
 obtain ⟨o7, h1, h0⟩ := Sh.cont_some h0
 have M7 : ∀ (left6 : Int), o7 = Sum.inr left6 → ∀ s, Wk 0 s ⟨43, envL [(1, (i64 left6))], []⟩ → K2 s := by
  intro left6 hq s hw
  subst o7
  try dsimp only at h0
  refine hK2 _ (AW.weaken hw ?_)
  refine zr tb rfl rfl ?_
  replace h0 := Sh.some_eq h0
  subst r
  exact AW.ret (xr (Wk.to (L := [(4, (i64 left6))]) ⟨.rfl, trivial⟩))
 refine AW.block (AW.loopF (σ := Int × Int) (fun n v => spec_stepsLeft_B_L1 N p0 rec_spec_stepsLeft n v.1 v.2 = some o7) (fun (left4, i5) => ⟨43, envL [(1, (i64 left4)), (2, (.ptr 0 0 0 0)), (5, (i64 i5))], [⟨0, 47, 2, [[(ls eStep p0.steps), (i64 p0.result)]]⟩]⟩) N (p1, 0) h1 (Wk.tr rfl) (fun _ hv => by rw [spec_stepsLeft_B_L1] at hv; cases hv) ?_)
 rintro n ⟨left4, i5⟩ h1
 try dsimp only at h1 ⊢
 rw [spec_stepsLeft_B_L1] at h1
 refine AW.seq fun K9 hK9 => ?_
 refine sr rfl fun K10 hK10 => ?_
 refine zm tb 3 rfl ?_
 refine zl tb rfl rfl ?_
 refine zq tb rfl ?_
 refine dn hK10 rfl ?_
 refine ci h1 rfl ?_ ?_ <;> clear h1
 ·intro b11 h1
  refine AW.skip (hK9 _ ?_)
  refine AW.seq fun K12 hK12 => ?_
  refine AW.block ?_
  refine AW.seq fun K13 hK13 => ?_
  refine zr tb rfl rfl ?_
  refine ci h1 rfl ?_ ?_ <;> clear h1
  ·intro b15 h1
   refine zr tb rfl rfl ?_
   replace h1 := Sh.some_eq h1
   subst o7
   try dsimp only [id] at h0
   replace h0 := Sh.some_eq h0
   subst r
   exact AW.ret (xr (Wk.d0 [(4, (i64 (-1)))] rfl))
  ·intro b15 h1
   refine AW.skip (hK13 _ ?_)
   iterate 2 refine zr tb rfl rfl ?_
   obtain ⟨o22, h2, h1⟩ := Sh.cont_some h1
   have M22 : ∀ (left21 : Int), o22 = Sum.inr left21 → ∀ s, Wk 0 s ⟨43, envL [(1, (i64 left21)), (2, (.ptr 0 0 0 0)), (5, (i64 i5))], [⟨0, 47, 2, [[(ls eStep p0.steps), (i64 p0.result)]]⟩]⟩ → K12 s := by
    intro left21 hq s hw
    subst o22
    try dsimp only at h1
    refine hK12 _ (AW.weaken hw ?_)
    refine AW.regionO (by rfl) ?_
    refine zm tb 3 rfl ?_
    exact AO.done (xi (left21, Sh.w (i5 + 1)) h1 (Wk.tr rfl))
   refine AW.block (AW.loopF (σ := Int × Int) (fun n v => spec_stepsLeft_B_L2 i5 p0 rec_spec_stepsLeft n v.1 v.2 = some o22) (fun (left19, k20) => ⟨43, envL [(1, (i64 left19)), (2, (.ptr 0 0 0 0)), (5, (i64 i5)), (6, (i64 k20))], [⟨0, 47, 2, [[(ls eStep p0.steps), (i64 p0.result)]]⟩]⟩) N (Sh.w (left4 - 1), 0) h2 (Wk.tr rfl) (fun _ hv => by rw [spec_stepsLeft_B_L2] at hv; cases hv) ?_)
   rintro n ⟨left19, k20⟩ h2
   try dsimp only at h2 ⊢
   rw [spec_stepsLeft_B_L2] at h2
   refine AW.seq fun K23 hK23 => ?_
   refine sr rfl fun K24 hK24 => ?_
   refine zm tb 4 rfl ?_
   obtain ⟨c25, gc25, h2⟩ := Sh.bind_some h2
   refine zz (.iptr [(i64 c25.op), (i64 c25.num), (i64 c25.into), (ls eI c25.args), (ls eBlock c25.kids)] 0) (aq_ixsE ei45 rfl rfl gc25 (eStep_eq _) rfl) rfl ?_
   refine zm tb 2 rfl ?_
   refine zl tb rfl rfl ?_
   refine zq tb rfl ?_
   refine dn hK24 rfl ?_
   refine ci h2 rfl ?_ ?_ <;> clear h2
   ·intro b26 h2
    refine AW.skip (hK23 _ ?_)
    refine AW.seq fun K27 hK27 => ?_
    refine AW.block ?_
    refine sr rfl fun K28 hK28 => ?_
    refine zm tb 3 rfl ?_
    refine zz (.iptr [(i64 c25.op), (i64 c25.num), (i64 c25.into), (ls eI c25.args), (ls eBlock c25.kids)] 0) (aq_ixsE ei45 rfl rfl gc25 (eStep_eq _) rfl) rfl ?_
    refine zm tb 3 rfl ?_
    obtain ⟨c29, gc29, h2⟩ := Sh.bind_some h2
    refine zx ei96 gc29 rfl rfl rfl ?_
    refine zm tb 2 rfl ?_
    obtain ⟨q30, gq30, h2⟩ := Sh.bind_some h2
    refine zc hb79 (hrec_spec_stepsLeft gq30) rfl rfl rfl ?_
    refine zq tb rfl ?_
    refine dn hK28 rfl ?_
    refine zr tb rfl rfl ?_
    refine ci h2 rfl ?_ ?_ <;> clear h2
    ·intro b32 h2
     refine zr tb rfl rfl ?_
     replace h2 := Sh.some_eq h2
     subst o22
     try dsimp only [id] at h1
     replace h1 := Sh.some_eq h1
     subst o7
     try dsimp only [id] at h0
     replace h0 := Sh.some_eq h0
     subst r
     exact AW.ret (xr (Wk.d0 [(4, (i64 (-1)))] rfl))
    ·intro b32 h2
     refine AW.skip (hK27 _ ?_)
     refine AW.regionO (by rfl) ?_
     refine zm tb 3 rfl ?_
     exact AO.done (xi (q30, Sh.w (k20 + 1)) h2 (Wk.tr rfl))
   ·intro b26 h2
    exact AW.exit (M22 left19 (Sh.some_eq h2).symm _ (Wk.tr rfl))
 ·intro b11 h1
  exact AW.exit (M7 left4 (Sh.some_eq h1).symm _ (Wk.d0 _ rfl))

theorem spec_stepsLeft_F_ok {N : Nat} : ∀ (n : Nat), ∀ {p0 : Block} {p1 : Int} {r : Int}, spec_stepsLeft_F N n p0 p1 = some r → ACalls Try.prog 79 [(.agg [(ls eStep p0.steps), (i64 p0.result)]), (i64 p1)] [] (fun v st => v = (i64 r) ∧ st = []) := by
 intro n
 induction n with
 | zero => intro p0 p1 r h0; cases h0
 | succ n ih =>
  intro p0 p1 r h0
  rw [spec_stepsLeft_F] at h0
  exact spec_stepsLeft_B_ok (fun h => ih h) h0
theorem spec_stepsLeft_ok {N : Nat} : ∀ {p0 : Block} {p1 : Int} {r : Int}, spec_stepsLeft N p0 p1 = some r → ACalls Try.prog 79 [(.agg [(ls eStep p0.steps), (i64 p0.result)]), (i64 p1)] [] (fun v st => v = (i64 r) ∧ st = []) := by
 intro p0 p1 r h0
 exact spec_stepsLeft_F_ok N h0
theorem spec_stepsOf_ok {N : Nat} {p0 : Block} {r : Int} (h0 : spec_stepsOf N p0 = some r) : ACalls Try.prog 56 [(.agg [(ls eStep p0.steps), (i64 p0.result)])] [] (fun v st => v = (i64 r) ∧ st = []) := by
 unfold spec_stepsOf at h0
 refine ai Try.func56 rfl rfl rfl rfl ?_
 refine sr rfl fun K1 hK1 => ?_
 refine ao_box (m := 0) (st' := [⟨0, 47, 2, [[(ls eStep p0.steps), (i64 p0.result)]]⟩]) go0 rfl rfl rfl rfl rfl ?_
 refine zq tb rfl ?_
 refine dn hK1 rfl ?_
 refine sr rfl fun K2 hK2 => ?_
 refine zq tb rfl ?_
 obtain ⟨q3, gq3, h0⟩ := Sh.bind_some h0
 refine zc hb79 (spec_stepsLeft_ok gq3) rfl rfl rfl ?_
 refine zq tb rfl ?_
 refine dn hK2 rfl ?_
 refine AW.seq fun K4 hK4 => ?_
 refine zr tb rfl rfl ?_
 refine ci h0 rfl ?_ ?_ <;> clear h0
 ·intro b6 h0
  refine zr tb rfl rfl ?_
  replace h0 := Sh.some_eq h0
  subst r
  exact AW.ret (xr (Wk.d0 [(2, (i64 (-1)))] rfl))
 ·intro b6 h0
  refine AW.skip (hK4 _ ?_)
  refine zr tb rfl rfl ?_
  replace h0 := Sh.some_eq h0
  subst r
  exact AW.ret (xr (Wk.d0 [(2, (i64 (Sh.w (600 - q3))))] rfl))
theorem spec_inRange_ok {p0 : Int} {p1 : Int} {p2 : Int} {r : Bool} (h0 : spec_inRange p0 p1 p2 = some r) : ACalls Try.prog 57 [(i64 p0), (i64 p1), (i64 p2)] [] (fun v st => v = (.bool r) ∧ st = []) := by
 unfold spec_inRange at h0
 refine ai Try.func57 rfl rfl rfl rfl ?_
 refine zr tb rfl rfl ?_
 refine AW.seq fun K2 hK2 => ?_
 obtain ⟨o4, h1, h0⟩ := Sh.bind_some h0
 have M4 : ∀ (t3 : Bool), o4 = t3 → ∀ s, Wk 0 s ⟨15, envL [(6, (.bool t3))], []⟩ → K2 s := by
  intro t3 hq s hw
  subst o4
  try dsimp only at h0
  refine hK2 _ (AW.weaken hw ?_)
  replace h0 := Sh.some_eq h0
  subst r
  exact AW.ret (xr (Wk.to (L := [(6, (.bool t3))]) ⟨.rfl, trivial⟩))
 refine AW.regionO (by rfl) ?_
 refine zm tb 4 rfl ?_
 rcases Sh.ite_some h1 with ⟨b5, h1⟩ | ⟨b5, h1⟩
 ·refine zg tb b5 rfl ?_
  iterate 2 refine zg tb b5 rfl ?_
  refine zt b5 rfl ?_
  refine zq tb rfl ?_
  exact AO.done (M4 (decide (p0 ≤ p2)) (Sh.some_eq h1).symm _ (Wk.tr rfl))
 ·refine zs b5 rfl ?_
  iterate 2 refine zs b5 rfl ?_
  refine zf b5 rfl ?_
  refine zq tb rfl ?_
  exact AO.done (M4 false (Sh.some_eq h1).symm _ (Wk.tr rfl))
theorem spec_isCounting_ok {p0 : Int} {r : Bool} (h0 : spec_isCounting p0 = some r) : ACalls Try.prog 95 [(i64 p0)] [] (fun v st => v = (.bool r) ∧ st = []) := by
 unfold spec_isCounting at h0
 refine ai Try.func95 rfl rfl rfl rfl ?_
 refine zr tb rfl rfl ?_
 refine sr rfl fun K2 hK2 => ?_
 refine zq tb rfl ?_
 obtain ⟨q3, gq3, h0⟩ := Sh.bind_some h0
 refine zc hb57 (spec_inRange_ok gq3) rfl rfl rfl ?_
 refine zq tb rfl ?_
 refine dn hK2 rfl ?_
 replace h0 := Sh.some_eq h0
 subst r
 exact AW.ret (xr (Wk.to (L := [(2, (.bool q3))]) ⟨.rfl, trivial⟩))
theorem spec_insert_ok {N : Nat} {p0 : (List Int)} {p1 : Int} {r : (List Int)} (h0 : spec_insert N p0 p1 = some r) : ACalls Try.prog 81 [(ls eI p0), (i64 p1)] [] (fun v st => v = (ow 0 0 r) ∧ st = [(ro 0 3 1 eI r)]) := by
 unfold spec_insert at h0
 refine ai Try.func81 rfl rfl rfl rfl ?_
 refine zr tb rfl rfl ?_
 refine sr rfl fun K2 hK2 => ?_
 refine ao_bs (m := 0) (st' := [(ro 0 3 1 eI ([] : List Int))]) (l := ([] : List Int)) (enc := eI) go0 ei23 (by decide) rfl rfl rfl rfl rfl rfl ?_
 refine zq tb rfl ?_
 refine dn hK2 rfl ?_
 refine zr tb rfl rfl ?_
 refine AW.seq fun K4 hK4 => ?_
 refine zr tb rfl rfl ?_
 obtain ⟨o11, h1, h0⟩ := Sh.bind_some h0
 have M11 : ∀ (done9 : Bool) (l10 : (List Int)), o11 = (done9, l10) → ∀ s, Wk 0 s ⟨49, envL [(1, (i64 p1)), (5, (ow 0 0 l10)), (6, (.bool done9))], [(ro 0 3 1 eI l10)]⟩ → K4 s := by
  intro done9 l10 hq s hw
  subst o11
  try dsimp only at h0
  refine hK4 _ (AW.weaken hw ?_)
  refine AW.seq fun K12 hK12 => ?_
  obtain ⟨o14, h1, h0⟩ := Sh.bind_some h0
  have M14 : ∀ (l13 : (List Int)), o14 = l13 → ∀ s, Wk 0 s ⟨49, envL [(5, (ow 0 0 l13))], [(ro 0 3 1 eI l13)]⟩ → K12 s := by
   intro l13 hq s hw
   subst o14
   try dsimp only at h0
   refine hK12 _ (AW.weaken hw ?_)
   refine zr tb rfl rfl ?_
   replace h0 := Sh.some_eq h0
   subst r
   exact AW.ret (xr (Wk.to (L := [(4, (ow 0 0 l13))]) ⟨.rfl, trivial⟩))
  refine zr tb rfl rfl ?_
  refine ci h1 rfl ?_ ?_ <;> clear h1
  ·intro b17 h1
   have b18 : done9 = false := by simpa using b17
   refine AW.regionO (by rfl) ?_
   refine zm tb 2 rfl ?_
   refine ao_bs (m := 1) (st' := [(ro 0 3 1 eI l10), (ro 0 3 1 eI [p1])]) (l := [p1]) (enc := eI) go0 ei23 (by decide) rfl rfl rfl rfl rfl rfl ?_
   obtain ⟨l19, gl19, h1⟩ := Sh.bind_some h1
   refine ao_apo (st' := [(ro 1 3 1 eI l19), (ro 0 3 1 eI [p1])]) (l2 := [p1]) go0 ei23 rfl rfl rfl rfl (el_o rfl rfl) (fun _ => rfl) gl19 rfl ?_
   refine zq tb rfl ?_
   exact AO.done (M14 l19 (Sh.some_eq h1).symm _ (by refine Wk.trans (Wk.rg (L := [(5, (ow 0 0 l19))]) (st' := [(ro 0 3 1 eI l19), (ro 0 3 1 eI [p1])]) (.pure (pure_map fun _ => rfl) (.pure (pure_map fun _ => rfl) .nil)) ⟨.rfl, trivial⟩) ?_; exact Wk.permk (L := [(5, (ow 0 0 l19))]) (st' := [(ro 0 3 1 eI l19)]) (st1 := [(ro 0 3 1 eI l19)]) [0] rfl .nil (by decide) rfl rfl (.pure (pure_map fun _ => rfl) .nil) ⟨.rfl, trivial⟩))
  ·intro b17 h1
   have b20 : done9 = true := by simpa using b17
   exact AW.skip (M14 l10 (Sh.some_eq h1).symm _ (Wk.tr rfl))
 refine AW.block (AW.loopF (σ := Bool × Int × (List Int)) (fun n v => spec_insert_L1 p0 p1 n v.1 v.2.1 v.2.2 = some o11) (fun (done6, i7, l8) => ⟨49, envL [(0, (ls eI p0)), (1, (i64 p1)), (5, (ow 0 0 l8)), (6, (.bool done6)), (7, (i64 i7))], [(ro 0 3 1 eI l8)]⟩) N (false, 0, []) h1 (Wk.tr rfl) (fun _ hv => by rw [spec_insert_L1] at hv; cases hv) ?_)
 rintro n ⟨done6, i7, l8⟩ h1
 try dsimp only at h1 ⊢
 rw [spec_insert_L1] at h1
 refine AW.seq fun K21 hK21 => ?_
 refine sr rfl fun K22 hK22 => ?_
 refine zm tb 2 rfl ?_
 refine zl tb rfl rfl ?_
 refine zq tb rfl ?_
 refine dn hK22 rfl ?_
 refine ci h1 rfl ?_ ?_ <;> clear h1
 ·intro b23 h1
  refine AW.skip (hK21 _ ?_)
  refine AW.seq fun K24 hK24 => ?_
  refine AW.block ?_
  refine AW.seq fun K25 hK25 => ?_
  obtain ⟨o28, h2, h1⟩ := Sh.bind_some h1
  have M28 : ∀ (done26 : Bool) (l27 : (List Int)), o28 = (done26, l27) → ∀ s, Wk 0 s ⟨49, envL [(0, (ls eI p0)), (1, (i64 p1)), (5, (ow 0 0 l27)), (6, (.bool done26)), (7, (i64 i7))], [(ro 0 3 1 eI l27)]⟩ → K25 s := by
   intro done26 l27 hq s hw
   subst o28
   try dsimp only at h1
   refine hK25 _ (AW.weaken hw ?_)
   refine AW.regionO (by rfl) ?_
   refine zm tb 3 rfl ?_
   obtain ⟨c29, gc29, h1⟩ := Sh.bind_some h1
   refine zx ei23 gc29 rfl rfl rfl ?_
   refine zq tb rfl ?_
   refine ao_bs (m := 1) (st' := [(ro 0 3 1 eI l27), (ro 0 3 1 eI [c29])]) (l := [c29]) (enc := eI) go0 ei23 (by decide) rfl rfl rfl rfl rfl rfl ?_
   obtain ⟨l30, gl30, h1⟩ := Sh.bind_some h1
   refine ao_apo (st' := [(ro 1 3 1 eI l30), (ro 0 3 1 eI [c29])]) (l2 := [c29]) go0 ei23 rfl rfl rfl rfl (el_o rfl rfl) (fun _ => rfl) gl30 rfl ?_
   refine zq tb rfl ?_
   refine dn hK24 rfl ?_
   refine AW.regionO (by rfl) ?_
   refine zm tb 3 rfl ?_
   exact AO.done (xi (done26, Sh.w (i7 + 1), l30) h1 (by refine Wk.trans (Wk.rg (L := [(0, (ls eI p0)), (1, (i64 p1)), (5, (ow 0 0 l30)), (6, (.bool done26)), (7, (i64 (Sh.w (i7 + 1))))]) (st' := [(ro 0 3 1 eI l30), (ro 0 3 1 eI [c29])]) (.pure (pure_map fun _ => rfl) (.pure (pure_map fun _ => rfl) .nil)) ⟨.rfl, .rfl, .rfl, .rfl, .rfl, trivial⟩) ?_; exact Wk.permk (L := [(0, (ls eI p0)), (1, (i64 p1)), (5, (ow 0 0 l30)), (6, (.bool done26)), (7, (i64 (Sh.w (i7 + 1))))]) (st' := [(ro 0 3 1 eI l30)]) (st1 := [(ro 0 3 1 eI l30)]) [0] rfl .nil (by decide) rfl rfl (.pure (pure_map fun _ => rfl) .nil) ⟨.rfl, .rfl, .rfl, .rfl, .rfl, trivial⟩))
  refine AW.seq fun K31 hK31 => ?_
  obtain ⟨o33, h3, h2⟩ := Sh.bind_some h2
  have M33 : ∀ (t32 : Bool), o33 = t32 → ∀ s, Wk 0 s ⟨49, envL [(0, (ls eI p0)), (1, (i64 p1)), (5, (ow 0 0 l8)), (6, (.bool done6)), (7, (i64 i7)), (24, (.bool t32))], [(ro 0 3 1 eI l8)]⟩ → K31 s := by
   intro t32 hq s hw
   subst o33
   try dsimp only at h2
   refine hK31 _ (AW.weaken hw ?_)
   refine ci h2 rfl ?_ ?_ <;> clear h2
   ·intro b34 h2
    refine AW.seq fun K35 hK35 => ?_
    obtain ⟨o37, h3, h2⟩ := Sh.bind_some h2
    have M37 : ∀ (l36 : (List Int)), o37 = l36 → ∀ s, Wk 0 s ⟨49, envL [(0, (ls eI p0)), (1, (i64 p1)), (5, (ow 0 0 l36)), (7, (i64 i7))], [(ro 0 3 1 eI l36)]⟩ → K35 s := by
     intro l36 hq s hw
     subst o37
     try dsimp only at h2
     refine hK35 _ (AW.weaken hw ?_)
     refine AW.regionO (by rfl) ?_
     refine zq tb rfl ?_
     exact AO.done (M28 true l36 (Sh.some_eq h2).symm _ (Wk.tr rfl))
    refine sr rfl fun K38 hK38 => ?_
    refine zm tb 2 rfl ?_
    obtain ⟨c39, gc39, h3⟩ := Sh.bind_some h3
    refine zx ei23 gc39 rfl rfl rfl ?_
    refine zm tb 3 rfl ?_
    refine dn hK38 rfl ?_
    refine ci h3 rfl ?_ ?_ <;> clear h3
    ·intro b40 h3
     refine AW.regionO (by rfl) ?_
     refine zm tb 2 rfl ?_
     refine ao_bs (m := 1) (st' := [(ro 0 3 1 eI l8), (ro 0 3 1 eI [p1])]) (l := [p1]) (enc := eI) go0 ei23 (by decide) rfl rfl rfl rfl rfl rfl ?_
     obtain ⟨l41, gl41, h3⟩ := Sh.bind_some h3
     refine ao_apo (st' := [(ro 1 3 1 eI l41), (ro 0 3 1 eI [p1])]) (l2 := [p1]) go0 ei23 rfl rfl rfl rfl (el_o rfl rfl) (fun _ => rfl) gl41 rfl ?_
     refine zq tb rfl ?_
     exact AO.done (M37 l41 (Sh.some_eq h3).symm _ (by refine Wk.trans (Wk.rg (L := [(0, (ls eI p0)), (1, (i64 p1)), (5, (ow 0 0 l41)), (7, (i64 i7))]) (st' := [(ro 0 3 1 eI l41), (ro 0 3 1 eI [p1])]) (.pure (pure_map fun _ => rfl) (.pure (pure_map fun _ => rfl) .nil)) ⟨.rfl, .rfl, .rfl, .rfl, trivial⟩) ?_; exact Wk.permk (L := [(0, (ls eI p0)), (1, (i64 p1)), (5, (ow 0 0 l41)), (7, (i64 i7))]) (st' := [(ro 0 3 1 eI l41)]) (st1 := [(ro 0 3 1 eI l41)]) [0] rfl .nil (by decide) rfl rfl (.pure (pure_map fun _ => rfl) .nil) ⟨.rfl, .rfl, .rfl, .rfl, trivial⟩))
    ·intro b40 h3
     exact AW.skip (M37 l8 (Sh.some_eq h3).symm _ (Wk.tr rfl))
   ·intro b34 h2
    exact AW.skip (M28 done6 l8 (Sh.some_eq h2).symm _ (Wk.tr rfl))
  refine AW.regionO (by rfl) ?_
  refine zm tb 3 rfl ?_
  rcases Sh.ite_some h3 with ⟨b42, h3⟩ | ⟨b42, h3⟩
  ·refine zg tb b42 rfl ?_
   refine zg tb b42 rfl ?_
   obtain ⟨c43, gc43, h3⟩ := Sh.bind_some h3
   refine ao_q (v := (.iptr (eI c43) 0)) (go1 rfl rfl b42) rfl (aq_ixs ei23 rfl rfl gc43 rfl) ?_
   iterate 3 refine zg tb b42 rfl ?_
   refine zt b42 rfl ?_
   exact AO.done (M33 (decide (p1 ≤ c43)) (Sh.some_eq h3).symm _ (Wk.tr rfl))
  ·refine zs b42 rfl ?_
   iterate 5 refine zs b42 rfl ?_
   refine zf b42 rfl ?_
   exact AO.done (M33 false (Sh.some_eq h3).symm _ (Wk.tr rfl))
 ·intro b23 h1
  exact AW.exit (M11 done6 l8 (Sh.some_eq h1).symm _ (Wk.tr rfl))
theorem spec_addStepUses_ok {N : Nat} {rec_spec_addUses : Block → Int → Int → (List Int) → Option ((List Int))} (hrec_spec_addUses : ∀ {p0 : Block} {p1 : Int} {p2 : Int} {p3 : (List Int)} {r : (List Int)}, rec_spec_addUses p0 p1 p2 p3 = some r → ACalls Try.prog 58 [(.agg [(ls eStep p0.steps), (i64 p0.result)]), (i64 p1), (i64 p2), (ls eI p3)] [] (fun v st => v = (ls eI r) ∧ st = [])) {p0 : Step} {p1 : Int} {p2 : (List Int)} {r : (List Int)} (h0 : spec_addStepUses N rec_spec_addUses p0 p1 p2 = some r) : ACalls Try.prog 80 [(.agg [(i64 p0.op), (i64 p0.num), (i64 p0.into), (ls eI p0.args), (ls eBlock p0.kids)]), (i64 p1), (ls eI p2)] [] (fun v st => v = (ls eI r) ∧ st = []) := by
 unfold spec_addStepUses at h0
 refine ai Try.func80 rfl rfl rfl rfl ?_
 refine sr rfl fun K1 hK1 => ?_
 refine ao_box (m := 0) (st' := [⟨0, 98, 5, [[(i64 p0.op), (i64 p0.num), (i64 p0.into), (ls eI p0.args), (ls eBlock p0.kids)]]⟩]) go0 rfl rfl rfl rfl rfl ?_
 refine zq tb rfl ?_
 refine dn hK1 rfl ?_
 refine AW.seq fun K2 hK2 => ?_
 refine sr rfl fun K3 hK3 => ?_
 refine zm tb 2 rfl ?_
 obtain ⟨q4, gq4, h0⟩ := Sh.bind_some h0
 refine zc hb95 (spec_isCounting_ok gq4) rfl rfl rfl ?_
 refine dn hK3 rfl ?_
 refine ci h0 rfl ?_ ?_ <;> clear h0
 ·intro b5 h0
  refine zr tb rfl rfl ?_
  replace h0 := Sh.some_eq h0
  subst r
  exact AW.ret (xr (Wk.d0 [(6, (ls eI p2))] rfl))
 ·intro b5 h0
  refine AW.skip (hK2 _ ?_)
  refine AW.seq fun K7 hK7 => ?_
  refine zr tb rfl rfl ?_
  obtain ⟨o12, h1, h0⟩ := Sh.bind_some h0
  have M12 : ∀ (list11 : (List Int)), o12 = list11 → ∀ s, Wk 0 s ⟨58, envL [(1, (i64 p1)), (2, (ls eI list11)), (3, (.ptr 0 0 0 0))], [⟨0, 98, 5, [[(i64 p0.op), (i64 p0.num), (i64 p0.into), (ls eI p0.args), (ls eBlock p0.kids)]]⟩]⟩ → K7 s := by
   intro list11 hq s hw
   subst o12
   try dsimp only at h0
   refine hK7 _ (AW.weaken hw ?_)
   refine AW.seq fun K13 hK13 => ?_
   refine zr tb rfl rfl ?_
   obtain ⟨o18, h1, h0⟩ := Sh.bind_some h0
   have M18 : ∀ (list17 : (List Int)), o18 = list17 → ∀ s, Wk 0 s ⟨58, envL [(2, (ls eI list17))], []⟩ → K13 s := by
    intro list17 hq s hw
    subst o18
    try dsimp only at h0
    refine hK13 _ (AW.weaken hw ?_)
    refine zr tb rfl rfl ?_
    replace h0 := Sh.some_eq h0
    subst r
    exact AW.ret (xr (Wk.to (L := [(6, (ls eI list17))]) ⟨.rfl, trivial⟩))
   refine AW.block (AW.loopF (σ := (List Int) × Int) (fun n v => spec_addStepUses_L2 p0 p1 rec_spec_addUses n v.1 v.2 = some o18) (fun (list15, i16) => ⟨58, envL [(1, (i64 p1)), (2, (ls eI list15)), (3, (.ptr 0 0 0 0)), (8, (i64 i16))], [⟨0, 98, 5, [[(i64 p0.op), (i64 p0.num), (i64 p0.into), (ls eI p0.args), (ls eBlock p0.kids)]]⟩]⟩) N (list11, 0) h1 (Wk.tr rfl) (fun _ hv => by rw [spec_addStepUses_L2] at hv; cases hv) ?_)
   rintro n ⟨list15, i16⟩ h1
   try dsimp only at h1 ⊢
   rw [spec_addStepUses_L2] at h1
   refine AW.seq fun K20 hK20 => ?_
   refine sr rfl fun K21 hK21 => ?_
   refine zm tb 3 rfl ?_
   refine zl tb rfl rfl ?_
   refine zq tb rfl ?_
   refine dn hK21 rfl ?_
   refine ci h1 rfl ?_ ?_ <;> clear h1
   ·intro b22 h1
    refine AW.skip (hK20 _ ?_)
    refine AW.seq fun K23 hK23 => ?_
    refine AW.block ?_
    refine AW.regionO (by rfl) ?_
    refine zm tb 3 rfl ?_
    obtain ⟨c24, gc24, h1⟩ := Sh.bind_some h1
    refine zx ei96 gc24 rfl rfl rfl ?_
    refine zm tb 3 rfl ?_
    obtain ⟨q25, gq25, h1⟩ := Sh.bind_some h1
    refine zc hb58 (hrec_spec_addUses gq25) rfl rfl rfl ?_
    refine zq tb rfl ?_
    refine dn hK23 rfl ?_
    refine AW.regionO (by rfl) ?_
    refine zm tb 3 rfl ?_
    exact AO.done (xi (q25, Sh.w (i16 + 1)) h1 (Wk.tr rfl))
   ·intro b22 h1
    exact AW.exit (M18 list15 (Sh.some_eq h1).symm _ (Wk.d0 _ rfl))
  refine AW.block (AW.loopF (σ := (List Int) × Int) (fun n v => spec_addStepUses_L1 N p0 p1 n v.1 v.2 = some o12) (fun (list9, i10) => ⟨58, envL [(1, (i64 p1)), (2, (ls eI list9)), (3, (.ptr 0 0 0 0)), (7, (i64 i10))], [⟨0, 98, 5, [[(i64 p0.op), (i64 p0.num), (i64 p0.into), (ls eI p0.args), (ls eBlock p0.kids)]]⟩]⟩) N (p2, 0) h1 (Wk.tr rfl) (fun _ hv => by rw [spec_addStepUses_L1] at hv; cases hv) ?_)
  rintro n ⟨list9, i10⟩ h1
  try dsimp only at h1 ⊢
  rw [spec_addStepUses_L1] at h1
  refine AW.seq fun K26 hK26 => ?_
  refine sr rfl fun K27 hK27 => ?_
  refine zm tb 3 rfl ?_
  refine zl tb rfl rfl ?_
  refine zq tb rfl ?_
  refine dn hK27 rfl ?_
  refine ci h1 rfl ?_ ?_ <;> clear h1
  ·intro b28 h1
   refine AW.skip (hK26 _ ?_)
   refine AW.seq fun K29 hK29 => ?_
   obtain ⟨o31, h2, h1⟩ := Sh.bind_some h1
   have M31 : ∀ (list30 : (List Int)), o31 = list30 → ∀ s, Wk 0 s ⟨58, envL [(1, (i64 p1)), (2, (ls eI list30)), (3, (.ptr 0 0 0 0)), (7, (i64 i10))], [⟨0, 98, 5, [[(i64 p0.op), (i64 p0.num), (i64 p0.into), (ls eI p0.args), (ls eBlock p0.kids)]]⟩]⟩ → K29 s := by
    intro list30 hq s hw
    subst o31
    try dsimp only at h1
    refine hK29 _ (AW.weaken hw ?_)
    refine AW.regionO (by rfl) ?_
    refine zm tb 3 rfl ?_
    exact AO.done (xi (list30, Sh.w (i10 + 1)) h1 (Wk.tr rfl))
   refine AW.block ?_
   refine AW.seq fun K32 hK32 => ?_
   obtain ⟨o34, h3, h2⟩ := Sh.bind_some h2
   have M34 : ∀ (t33 : Bool), o34 = t33 → ∀ s, Wk 0 s ⟨58, envL [(1, (i64 p1)), (2, (ls eI list9)), (3, (.ptr 0 0 0 0)), (7, (i64 i10)), (34, (.bool t33))], [⟨0, 98, 5, [[(i64 p0.op), (i64 p0.num), (i64 p0.into), (ls eI p0.args), (ls eBlock p0.kids)]]⟩]⟩ → K32 s := by
    intro t33 hq s hw
    subst o34
    try dsimp only at h2
    refine hK32 _ (AW.weaken hw ?_)
    refine ci h2 rfl ?_ ?_ <;> clear h2
    ·intro b35 h2
     refine AW.regionO (by rfl) ?_
     refine zm tb 4 rfl ?_
     obtain ⟨c36, gc36, h2⟩ := Sh.bind_some h2
     refine zx ei23 gc36 rfl rfl rfl ?_
     refine zq tb rfl ?_
     obtain ⟨q37, gq37, h2⟩ := Sh.bind_some h2
     refine ao_call (v' := (ow 1 0 q37)) (st' := [⟨0, 98, 5, [[(i64 p0.op), (i64 p0.num), (i64 p0.into), (ls eI p0.args), (ls eBlock p0.kids)]]⟩, (ro 0 3 1 eI q37)]) go0 hb81 (spec_insert_ok gq37) rfl rfl ⟨(pure_map' fun _ => rfl), trivial⟩ rfl rfl ?_
     refine zq tb rfl ?_
     exact AO.done (M31 q37 (Sh.some_eq h2).symm _ (by refine Wk.trans (Wk.frz (L := [(1, (i64 p1)), (2, (ls eI q37)), (3, (.ptr 0 0 0 0)), (7, (i64 i10))]) (st' := [⟨0, 98, 5, [[(i64 p0.op), (i64 p0.num), (i64 p0.into), (ls eI p0.args), (ls eBlock p0.kids)]]⟩, ⟨1, 3, 1, []⟩]) (id := 1) rfl (show 0 ≤ 1 by decide) (pure_map fun _ => rfl) ⟨.rfl, (.frz rfl), .rfl, .rfl, trivial⟩ rfl) ?_; exact Wk.permk (L := [(1, (i64 p1)), (2, (ls eI q37)), (3, (.ptr 0 0 0 0)), (7, (i64 i10))]) (st' := [⟨0, 98, 5, [[(i64 p0.op), (i64 p0.num), (i64 p0.into), (ls eI p0.args), (ls eBlock p0.kids)]]⟩]) (st1 := [⟨0, 98, 5, [[(i64 p0.op), (i64 p0.num), (i64 p0.into), (ls eI p0.args), (ls eBlock p0.kids)]]⟩]) [0] rfl .nil (by decide) rfl rfl (.raw rfl rfl .nil) ⟨.rfl, .rfl, .rfl, .rfl, trivial⟩))
    ·intro b35 h2
     exact AW.skip (M31 list9 (Sh.some_eq h2).symm _ (Wk.tr rfl))
   refine AW.regionO (by rfl) ?_
   refine zm tb 3 rfl ?_
   obtain ⟨c38, gc38, h3⟩ := Sh.bind_some h3
   refine zx ei23 gc38 rfl rfl rfl ?_
   refine zm tb 3 rfl ?_
   rcases Sh.ite_some h3 with ⟨b39, h3⟩ | ⟨b39, h3⟩
   ·refine zg tb b39 rfl ?_
    iterate 2 refine zg tb b39 rfl ?_
    refine ao_q (v := (.iptr (eI c38) 0)) (go1 rfl rfl b39) rfl (aq_ixs ei23 rfl rfl gc38 rfl) ?_
    iterate 3 refine zg tb b39 rfl ?_
    refine zt b39 rfl ?_
    exact AO.done (M34 (decide (c38 < p1)) (Sh.some_eq h3).symm _ (Wk.tr rfl))
   ·refine zs b39 rfl ?_
    iterate 6 refine zs b39 rfl ?_
    refine zf b39 rfl ?_
    exact AO.done (M34 false (Sh.some_eq h3).symm _ (Wk.tr rfl))
  ·intro b28 h1
   exact AW.exit (M12 list9 (Sh.some_eq h1).symm _ (Wk.tr rfl))
theorem spec_addUses_B_ok {N : Nat} {rec_spec_addUses : Block → Int → Int → (List Int) → Option ((List Int))} (hrec_spec_addUses : ∀ {p0 : Block} {p1 : Int} {p2 : Int} {p3 : (List Int)} {r : (List Int)}, rec_spec_addUses p0 p1 p2 p3 = some r → ACalls Try.prog 58 [(.agg [(ls eStep p0.steps), (i64 p0.result)]), (i64 p1), (i64 p2), (ls eI p3)] [] (fun v st => v = (ls eI r) ∧ st = [])) {p0 : Block} {p1 : Int} {p2 : Int} {p3 : (List Int)} {r : (List Int)} (h0 : spec_addUses_B N rec_spec_addUses p0 p1 p2 p3 = some r) : ACalls Try.prog 58 [(.agg [(ls eStep p0.steps), (i64 p0.result)]), (i64 p1), (i64 p2), (ls eI p3)] [] (fun v st => v = (ls eI r) ∧ st = []) := by
 unfold spec_addUses_B at h0
 refine ai Try.func58 rfl rfl rfl rfl ?_
 refine sr rfl fun K1 hK1 => ?_
 refine ao_box (m := 0) (st' := [⟨0, 47, 2, [[(ls eStep p0.steps), (i64 p0.result)]]⟩]) go0 rfl rfl rfl rfl rfl ?_
 refine zq tb rfl ?_
 refine dn hK1 rfl ?_
 refine AW.seq fun K2 hK2 => ?_
 refine zr tb rfl rfl ?_
 obtain ⟨o7, h1, h0⟩ := Sh.bind_some h0
 have M7 : ∀ (list6 : (List Int)), o7 = list6 → ∀ s, Wk 0 s ⟨40, envL [(1, (i64 p1)), (3, (ls eI list6)), (4, (.ptr 0 0 0 0))], [⟨0, 47, 2, [[(ls eStep p0.steps), (i64 p0.result)]]⟩]⟩ → K2 s := by
  intro list6 hq s hw
  subst o7
  try dsimp only at h0
  refine hK2 _ (AW.weaken hw ?_)
  refine AW.seq fun K8 hK8 => ?_
  obtain ⟨o10, h1, h0⟩ := Sh.bind_some h0
  have M10 : ∀ (list9 : (List Int)), o10 = list9 → ∀ s, Wk 0 s ⟨40, envL [(3, (ls eI list9))], []⟩ → K8 s := by
   intro list9 hq s hw
   subst o10
   try dsimp only at h0
   refine hK8 _ (AW.weaken hw ?_)
   refine zr tb rfl rfl ?_
   replace h0 := Sh.some_eq h0
   subst r
   exact AW.ret (xr (Wk.to (L := [(8, (ls eI list9))]) ⟨.rfl, trivial⟩))
  refine AW.seq fun K12 hK12 => ?_
  obtain ⟨o14, h2, h1⟩ := Sh.bind_some h1
  have M14 : ∀ (t13 : Bool), o14 = t13 → ∀ s, Wk 0 s ⟨40, envL [(3, (ls eI list6)), (4, (.ptr 0 0 0 0)), (34, (.bool t13))], [⟨0, 47, 2, [[(ls eStep p0.steps), (i64 p0.result)]]⟩]⟩ → K12 s := by
   intro t13 hq s hw
   subst o14
   try dsimp only at h1
   refine hK12 _ (AW.weaken hw ?_)
   refine ci h1 rfl ?_ ?_ <;> clear h1
   ·intro b15 h1
    refine AW.regionO (by rfl) ?_
    refine zm tb 3 rfl ?_
    obtain ⟨q16, gq16, h1⟩ := Sh.bind_some h1
    refine ao_call (v' := (ow 1 0 q16)) (st' := [⟨0, 47, 2, [[(ls eStep p0.steps), (i64 p0.result)]]⟩, (ro 0 3 1 eI q16)]) go0 hb81 (spec_insert_ok gq16) rfl rfl ⟨(pure_map' fun _ => rfl), trivial⟩ rfl rfl ?_
    refine zq tb rfl ?_
    exact AO.done (M10 q16 (Sh.some_eq h1).symm _ (by refine Wk.trans (Wk.frz (L := [(3, (ls eI q16))]) (st' := [⟨0, 47, 2, [[(ls eStep p0.steps), (i64 p0.result)]]⟩, ⟨1, 3, 1, []⟩]) (id := 1) rfl (show 0 ≤ 1 by decide) (pure_map fun _ => rfl) ⟨(.frz rfl), trivial⟩ rfl) ?_; exact Wk.d0 _ rfl))
   ·intro b15 h1
    exact AW.skip (M10 list6 (Sh.some_eq h1).symm _ (Wk.d0 _ rfl))
  refine AW.regionO (by rfl) ?_
  refine zm tb 4 rfl ?_
  rcases Sh.ite_some h2 with ⟨b17, h2⟩ | ⟨b17, h2⟩
  ·refine zg tb b17 rfl ?_
   iterate 3 refine zg tb b17 rfl ?_
   refine zt b17 rfl ?_
   exact AO.done (M14 (decide (p0.result < p1)) (Sh.some_eq h2).symm _ (Wk.tr rfl))
  ·refine zs b17 rfl ?_
   iterate 3 refine zs b17 rfl ?_
   refine zf b17 rfl ?_
   exact AO.done (M14 false (Sh.some_eq h2).symm _ (Wk.tr rfl))
 refine AW.block (AW.loopF (σ := (List Int) × Int) (fun n v => spec_addUses_B_L1 N p0 p1 rec_spec_addUses n v.1 v.2 = some o7) (fun (list4, i5) => ⟨40, envL [(1, (i64 p1)), (3, (ls eI list4)), (4, (.ptr 0 0 0 0)), (9, (i64 i5))], [⟨0, 47, 2, [[(ls eStep p0.steps), (i64 p0.result)]]⟩]⟩) N (p3, p2) h1 (Wk.tr rfl) (fun _ hv => by rw [spec_addUses_B_L1] at hv; cases hv) ?_)
 rintro n ⟨list4, i5⟩ h1
 try dsimp only at h1 ⊢
 rw [spec_addUses_B_L1] at h1
 refine AW.seq fun K18 hK18 => ?_
 refine sr rfl fun K19 hK19 => ?_
 refine zm tb 3 rfl ?_
 refine zl tb rfl rfl ?_
 refine zq tb rfl ?_
 refine dn hK19 rfl ?_
 refine ci h1 rfl ?_ ?_ <;> clear h1
 ·intro b20 h1
  refine AW.skip (hK18 _ ?_)
  refine AW.seq fun K21 hK21 => ?_
  refine AW.block ?_
  refine AW.regionO (by rfl) ?_
  refine zm tb 3 rfl ?_
  obtain ⟨c22, gc22, h1⟩ := Sh.bind_some h1
  refine zz (.iptr [(i64 c22.op), (i64 c22.num), (i64 c22.into), (ls eI c22.args), (ls eBlock c22.kids)] 0) (aq_ixsE ei45 rfl rfl gc22 (eStep_eq _) rfl) rfl ?_
  refine zm tb 3 rfl ?_
  obtain ⟨q23, gq23, h1⟩ := Sh.bind_some h1
  refine zc hb80 (spec_addStepUses_ok hrec_spec_addUses gq23) rfl rfl rfl ?_
  refine zq tb rfl ?_
  refine dn hK21 rfl ?_
  refine AW.regionO (by rfl) ?_
  refine zm tb 3 rfl ?_
  exact AO.done (xi (q23, Sh.w (i5 + 1)) h1 (Wk.tr rfl))
 ·intro b20 h1
  exact AW.exit (M7 list4 (Sh.some_eq h1).symm _ (Wk.tr rfl))

theorem spec_addUses_F_ok {N : Nat} : ∀ (n : Nat), ∀ {p0 : Block} {p1 : Int} {p2 : Int} {p3 : (List Int)} {r : (List Int)}, spec_addUses_F N n p0 p1 p2 p3 = some r → ACalls Try.prog 58 [(.agg [(ls eStep p0.steps), (i64 p0.result)]), (i64 p1), (i64 p2), (ls eI p3)] [] (fun v st => v = (ls eI r) ∧ st = []) := by
 intro n
 induction n with
 | zero => intro p0 p1 p2 p3 r h0; cases h0
 | succ n ih =>
  intro p0 p1 p2 p3 r h0
  rw [spec_addUses_F] at h0
  exact spec_addUses_B_ok (fun h => ih h) h0
theorem spec_addUses_ok {N : Nat} : ∀ {p0 : Block} {p1 : Int} {p2 : Int} {p3 : (List Int)} {r : (List Int)}, spec_addUses N p0 p1 p2 p3 = some r → ACalls Try.prog 58 [(.agg [(ls eStep p0.steps), (i64 p0.result)]), (i64 p1), (i64 p2), (ls eI p3)] [] (fun v st => v = (ls eI r) ∧ st = []) := by
 intro p0 p1 p2 p3 r h0
 exact spec_addUses_F_ok N h0
theorem spec_usedIn_ok {N : Nat} {p0 : Block} {p1 : Int} {r : (List Int)} (h0 : spec_usedIn N p0 p1 = some r) : ACalls Try.prog 65 [(.agg [(ls eStep p0.steps), (i64 p0.result)]), (i64 p1)] [] (fun v st => v = (ls eI r) ∧ st = []) := by
 unfold spec_usedIn at h0
 refine ai Try.func65 rfl rfl rfl rfl ?_
 refine sr rfl fun K1 hK1 => ?_
 refine ao_box (m := 0) (st' := [⟨0, 47, 2, [[(ls eStep p0.steps), (i64 p0.result)]]⟩]) go0 rfl rfl rfl rfl rfl ?_
 refine zq tb rfl ?_
 refine dn hK1 rfl ?_
 refine sr rfl fun K2 hK2 => ?_
 refine zm tb 2 rfl ?_
 refine ao_bs (m := 1) (st' := [⟨0, 47, 2, [[(ls eStep p0.steps), (i64 p0.result)]]⟩, (ro 0 3 1 eI ([] : List Int))]) (l := ([] : List Int)) (enc := eI) go0 ei23 (by decide) rfl rfl rfl rfl rfl rfl ?_
 refine AO.weaken (Wk.frz (L := [(5, (.agg [(ls eStep p0.steps), (i64 p0.result)])), (6, (i64 p1)), (7, (.sl (List.map eI [])))]) (st' := [⟨0, 47, 2, [[(ls eStep p0.steps), (i64 p0.result)]]⟩, ⟨1, 3, 1, []⟩]) (id := 1) rfl (show 0 ≤ 1 by decide) (pure_map fun _ => rfl) ⟨.rfl, .rfl, (.frz rfl), trivial⟩ rfl) ?_
 obtain ⟨q3, gq3, h0⟩ := Sh.bind_some h0
 refine zc hb58 (spec_addUses_ok gq3) rfl rfl rfl ?_
 refine zq tb rfl ?_
 refine dn hK2 rfl ?_
 replace h0 := Sh.some_eq h0
 subst r
 exact AW.ret (xr (Wk.d0 [(4, (ls eI q3))] rfl))
theorem spec_UsedIn_ok {N : Nat} {p0 : Block} {p1 : Int} {r : (List Int)} (h0 : spec_UsedIn N p0 p1 = some r) : ACalls Try.prog 32 [(.agg [(ls eStep p0.steps), (i64 p0.result)]), (i64 p1)] [] (fun v st => v = (ls eI r) ∧ st = []) := by
 unfold spec_UsedIn at h0
 refine ai Try.func32 rfl rfl rfl rfl ?_
 refine sr rfl fun K1 hK1 => ?_
 refine ao_box (m := 0) (st' := [⟨0, 47, 2, [[(ls eStep p0.steps), (i64 p0.result)]]⟩]) go0 rfl rfl rfl rfl rfl ?_
 refine zq tb rfl ?_
 refine dn hK1 rfl ?_
 refine AW.seq fun K2 hK2 => ?_
 refine sr rfl fun K3 hK3 => ?_
 refine zq tb rfl ?_
 obtain ⟨q4, gq4, h0⟩ := Sh.bind_some h0
 refine zc hb56 (spec_stepsOf_ok gq4) rfl rfl rfl ?_
 refine zq tb rfl ?_
 refine dn hK3 rfl ?_
 refine ci h0 rfl ?_ ?_ <;> clear h0
 ·intro b5 h0
  refine zr tb rfl rfl ?_
  replace h0 := Sh.some_eq h0
  subst r
  exact AW.ret (Exists.intro ⟨11, envL [(4, (.sl (List.map eI [])))], []⟩ (And.intro (by refine Wk.trans (Wk.permk (L := [(4, .zc)]) (st' := []) (st1 := []) [] rfl .nil (by decide) rfl rfl .nil ⟨.rfl, trivial⟩) ?_; exact Wk.to (L := [(4, (.sl (List.map eI [])))]) ⟨.zc, trivial⟩) (And.intro rfl rfl)))
 ·intro b5 h0
  refine AW.skip (hK2 _ ?_)
  refine sr rfl fun K7 hK7 => ?_
  refine zm tb 2 rfl ?_
  obtain ⟨q8, gq8, h0⟩ := Sh.bind_some h0
  refine zc hb65 (spec_usedIn_ok gq8) rfl rfl rfl ?_
  refine zq tb rfl ?_
  refine dn hK7 rfl ?_
  replace h0 := Sh.some_eq h0
  subst r
  exact AW.ret (xr (Wk.d0 [(4, (ls eI q8))] rfl))
theorem laws_toBlockS_2_ok {N : Nat} {rec_laws_toBlock_2 : Block → Option (Block)} (hrec_laws_toBlock_2 : ∀ {p0 : Block} {r : Block}, rec_laws_toBlock_2 p0 = some r → ACalls Try.prog 28 [(.agg [(ls eStep p0.steps), (i64 p0.result)])] [] (fun v st => v = (.agg [(ow 0 0 r.steps), (i64 r.result)]) ∧ st = [(ro 0 98 5 (eStepD 3 47 98) r.steps)])) {p0 : (List Block)} {r : (List Block)} (h0 : laws_toBlockS_2 N rec_laws_toBlock_2 p0 = some r) : ACalls Try.prog 96 [(ls eBlock p0)] [] (fun v st => v = (ow 0 0 r) ∧ st = [(ro 0 47 2 (eBlockD 3 47 98) r)]) := by
 unfold laws_toBlockS_2 at h0
 refine ai Try.func96 rfl rfl rfl rfl ?_
 refine zr tb rfl rfl ?_
 refine sr rfl fun K2 hK2 => ?_
 refine zq tb rfl ?_
 refine zl tb rfl rfl ?_
 obtain ⟨l3, gl3, h0⟩ := Sh.bind_some h0
 refine ao_maked (m := 0) (st' := [(ro 0 47 2 (eBlockD 3 47 98) l3)]) (enc := (eBlockD 3 47 98)) (u := (Block.mk [] 0)) ei96 rfl rfl ⟨.inr ⟨rfl, _, _, rfl, by decide⟩, ⟨.inl ⟨rfl, rfl⟩, trivial⟩⟩ gl3 rfl rfl ?_
 refine zq tb rfl ?_
 refine dn hK2 rfl ?_
 refine AW.seq fun K4 hK4 => ?_
 refine zr tb rfl rfl ?_
 obtain ⟨o9, h1, h0⟩ := Sh.bind_some h0
 have M9 : ∀ (l8 : (List Block)), o9 = l8 → ∀ s, Wk 0 s ⟨23, envL [(3, (ow 0 0 l8))], [(ro 0 47 2 (eBlockD 3 47 98) l8)]⟩ → K4 s := by
  intro l8 hq s hw
  subst o9
  try dsimp only at h0
  refine hK4 _ (AW.weaken hw ?_)
  refine zr tb rfl rfl ?_
  replace h0 := Sh.some_eq h0
  subst r
  exact AW.ret (xr (Wk.to (L := [(2, (ow 0 0 l8))]) ⟨.rfl, trivial⟩))
 refine AW.block (AW.loopF (σ := Int × (List Block)) (fun n v => laws_toBlockS_2_L1 p0 rec_laws_toBlock_2 n v.1 v.2 = some o9) (fun (i6, l7) => ⟨23, envL [(0, (ls eBlock p0)), (3, (ow 0 0 l7)), (4, (i64 i6))], [(ro 0 47 2 (eBlockD 3 47 98) l7)]⟩) N (0, l3) h1 (Wk.tr rfl) (fun _ hv => by rw [laws_toBlockS_2_L1] at hv; cases hv) ?_)
 rintro n ⟨i6, l7⟩ h1
 try dsimp only at h1 ⊢
 rw [laws_toBlockS_2_L1] at h1
 refine AW.seq fun K11 hK11 => ?_
 refine sr rfl fun K12 hK12 => ?_
 refine zm tb 2 rfl ?_
 refine zl tb rfl rfl ?_
 refine zq tb rfl ?_
 refine dn hK12 rfl ?_
 refine ci h1 rfl ?_ ?_ <;> clear h1
 ·intro b13 h1
  refine AW.skip (hK11 _ ?_)
  refine AW.seq fun K14 hK14 => ?_
  refine AW.block ?_
  refine AW.regionO (by rfl) ?_
  refine zm tb 4 rfl ?_
  obtain ⟨c15, gc15, h1⟩ := Sh.bind_some h1
  refine zx ei92 gc15 rfl rfl rfl ?_
  refine zq tb rfl ?_
  obtain ⟨q16, gq16, h1⟩ := Sh.bind_some h1
  refine ao_call (v' := (.agg [(ow 1 0 q16.steps), (i64 q16.result)])) (st' := [(ro 0 47 2 (eBlockD 3 47 98) l7), (ro 0 98 5 (eStepD 3 47 98) q16.steps)]) go0 hb28 (hrec_laws_toBlock_2 gq16) rfl rfl ⟨(pure_mapD eStepD_pure), trivial⟩ rfl rfl ?_
  obtain ⟨c17, gc17, h1⟩ := Sh.bind_some h1
  refine zz (.ptr 0 0 (Int.toNat i6) 0) (aq_ixo ei96 rfl rfl rfl rfl gc17) rfl ?_
  refine ao_sth (st' := [⟨0, 47, 2, hole l7 (eBlockD 3 47 98) i6 [(ow 1 0 q16.steps), (i64 q16.result)]⟩, (ro 0 98 5 (eStepD 3 47 98) q16.steps)]) go0 ti47 rfl rfl gc17 rfl rfl rfl (show 2 ≤ 2 by decide) rfl rfl ?_
  refine AO.weaken (Wk.take (id := 0) (m := 1) (j := 0) (i := i6) (c := c17) (ys := q16.steps) (encY := (eStepD 3 47 98)) (x' := [(.dv 98 5 (List.map (eStepD 3 47 98) q16.steps)), (i64 q16.result)]) (st' := [⟨0, 47, 2, hole l7 (eBlockD 3 47 98) i6 [(.dv 98 5 (List.map (eStepD 3 47 98) q16.steps)), (i64 q16.result)]⟩, ⟨1, 98, 5, []⟩]) rfl gc17 rfl rfl rfl (by decide) (show 0 ≤ 1 by decide) eStepD_deep rfl rfl) ?_
  refine AO.weaken (Wk.filled (id := 0) (i := i6) (u := q16) (st' := [(ro 0 47 2 (eBlockD 3 47 98) (Sh.put l7 i6 q16)), ⟨1, 98, 5, []⟩]) rfl rfl rfl) ?_
  refine dn hK14 rfl ?_
  refine AW.regionO (by rfl) ?_
  refine zm tb 3 rfl ?_
  exact AO.done (xi (Sh.w (i6 + 1), Sh.put l7 i6 q16) h1 (by refine Wk.trans (Wk.permk (L := [(0, (.sl (List.map eBlock p0))), (3, (.own 0 0 (List.length l7))), (4, (i64 (Sh.w (i6 + 1))))]) (st' := [⟨0, 47, 2, List.map (eBlockD 3 47 98) (Sh.put l7 i6 q16)⟩]) (st1 := [⟨0, 47, 2, List.map (eBlockD 3 47 98) (Sh.put l7 i6 q16)⟩]) [0] rfl .nil (by decide) rfl rfl (.deep (pure_mapD fun _ => rfl) .nil) ⟨.rfl, .rfl, .rfl, trivial⟩) ?_; exact Wk.to (L := [(0, (.sl (List.map eBlock p0))), (3, (.own 0 0 (List.length (Sh.put l7 i6 q16)))), (4, (i64 (Sh.w (i6 + 1))))]) ⟨.rfl, (.len (by simp only [Sh.put_len])), .rfl, trivial⟩))
 ·intro b13 h1
  exact AW.exit (M9 l7 (Sh.some_eq h1).symm _ (Wk.tr rfl))
theorem laws_toStep_2_ok {N : Nat} {rec_laws_toBlock_2 : Block → Option (Block)} (hrec_laws_toBlock_2 : ∀ {p0 : Block} {r : Block}, rec_laws_toBlock_2 p0 = some r → ACalls Try.prog 28 [(.agg [(ls eStep p0.steps), (i64 p0.result)])] [] (fun v st => v = (.agg [(ow 0 0 r.steps), (i64 r.result)]) ∧ st = [(ro 0 98 5 (eStepD 3 47 98) r.steps)])) {p0 : Step} {r : Step} (h0 : laws_toStep_2 N rec_laws_toBlock_2 p0 = some r) : ACalls Try.prog 82 [(.agg [(i64 p0.op), (i64 p0.num), (i64 p0.into), (ls eI p0.args), (ls eBlock p0.kids)])] [] (fun v st => v = (.agg [(i64 r.op), (i64 r.num), (i64 r.into), (ow 0 0 r.args), (ow 1 0 r.kids)]) ∧ st = [(ro 0 3 1 eI r.args), (ro 0 47 2 (eBlockD 3 47 98) r.kids)]) := by
 unfold laws_toStep_2 at h0
 refine ACalls.wk (r0 := (.agg [(i64 r.op), (i64 r.num), (i64 r.into), (ow 0 0 r.args), (ow 1 0 r.kids)])) (st0 := [(ro 0 3 1 eI r.args), (ro 0 47 2 (eBlockD 3 47 98) r.kids), ⟨0, 98, 5, [[(i64 r.op), (i64 r.num), (i64 r.into), (ow 0 0 r.args), (ow 1 0 r.kids)]]⟩]) ?_ (Wk.sel (L := [(0, (.agg [(i64 r.op), (i64 r.num), (i64 r.into), (ow 0 0 r.args), (ow 1 0 r.kids)]))]) (st' := [(ro 0 3 1 eI r.args), (ro 0 47 2 (eBlockD 3 47 98) r.kids)]) [0, 1] rfl (by decide) rfl rfl (.pure (pure_map fun _ => rfl) (.deep (pure_mapD fun _ => rfl) trivial)) ⟨.rfl, trivial⟩)
 refine ai Try.func82 rfl rfl rfl rfl ?_
 refine sr rfl fun K1 hK1 => ?_
 refine ao_box (m := 0) (st' := [⟨0, 94, 5, [[(i64 p0.op), (i64 p0.num), (i64 p0.into), (ls eI p0.args), (ls eBlock p0.kids)]]⟩]) go0 rfl rfl rfl rfl rfl ?_
 refine ao_alloc (m := 1) (st' := [⟨0, 94, 5, [[(i64 p0.op), (i64 p0.num), (i64 p0.into), (ls eI p0.args), (ls eBlock p0.kids)]]⟩, ⟨0, 98, 5, [[(i64 0), (i64 0), (i64 0), .zc, .zc]]⟩]) go0 zi98 rfl rfl ?_
 refine dn hK1 rfl ?_
 refine sr rfl fun K2 hK2 => ?_
 refine ao_alloc (m := 2) (st' := [⟨0, 94, 5, [[(i64 p0.op), (i64 p0.num), (i64 p0.into), (ls eI p0.args), (ls eBlock p0.kids)]]⟩, ⟨0, 98, 5, [[(i64 0), (i64 0), (i64 0), .zc, .zc]]⟩, ⟨0, 98, 5, [[(i64 0), (i64 0), (i64 0), .zc, .zc]]⟩]) go0 zi98 rfl rfl ?_
 refine dn hK2 rfl ?_
 refine sr rfl fun K3 hK3 => ?_
 refine zm tb 3 rfl ?_
 refine ao_str (st' := [⟨0, 94, 5, [[(i64 p0.op), (i64 p0.num), (i64 p0.into), (ls eI p0.args), (ls eBlock p0.kids)]]⟩, ⟨0, 98, 5, [[(i64 0), (i64 0), (i64 0), .zc, .zc]]⟩, ⟨0, 98, 5, [[(i64 p0.op), (i64 0), (i64 0), .zc, .zc]]⟩]) go0 ti3 rfl rfl rfl rfl rfl rfl (show 0 + 1 ≤ 5 by decide) rfl ?_
 refine dn hK3 rfl ?_
 refine sr rfl fun K4 hK4 => ?_
 refine zm tb 3 rfl ?_
 refine ao_str (st' := [⟨0, 94, 5, [[(i64 p0.op), (i64 p0.num), (i64 p0.into), (ls eI p0.args), (ls eBlock p0.kids)]]⟩, ⟨0, 98, 5, [[(i64 0), (i64 0), (i64 0), .zc, .zc]]⟩, ⟨0, 98, 5, [[(i64 p0.op), (i64 p0.num), (i64 0), .zc, .zc]]⟩]) go0 ti3 rfl rfl rfl rfl rfl rfl (show 1 + 1 ≤ 5 by decide) rfl ?_
 refine dn hK4 rfl ?_
 refine sr rfl fun K5 hK5 => ?_
 refine zm tb 3 rfl ?_
 refine ao_str (st' := [⟨0, 94, 5, [[(i64 p0.op), (i64 p0.num), (i64 p0.into), (ls eI p0.args), (ls eBlock p0.kids)]]⟩, ⟨0, 98, 5, [[(i64 0), (i64 0), (i64 0), .zc, .zc]]⟩, ⟨0, 98, 5, [[(i64 p0.op), (i64 p0.num), (i64 p0.into), .zc, .zc]]⟩]) go0 ti3 rfl rfl rfl rfl rfl rfl (show 2 + 1 ≤ 5 by decide) rfl ?_
 refine dn hK5 rfl ?_
 refine sr rfl fun K6 hK6 => ?_
 refine zm tb 2 rfl ?_
 obtain ⟨q7, gq7, h0⟩ := Sh.bind_some h0
 refine ao_call (v' := (ow 3 0 q7)) (st' := [⟨0, 94, 5, [[(i64 p0.op), (i64 p0.num), (i64 p0.into), (ls eI p0.args), (ls eBlock p0.kids)]]⟩, ⟨0, 98, 5, [[(i64 0), (i64 0), (i64 0), .zc, .zc]]⟩, ⟨0, 98, 5, [[(i64 p0.op), (i64 p0.num), (i64 p0.into), .zc, .zc]]⟩, (ro 0 3 1 eI q7)]) go0 hb12 (laws_toIntS_ok gq7) rfl rfl ⟨(pure_map' fun _ => rfl), trivial⟩ rfl rfl ?_
 refine zq tb rfl ?_
 refine ao_str (st' := [⟨0, 94, 5, [[(i64 p0.op), (i64 p0.num), (i64 p0.into), (ls eI p0.args), (ls eBlock p0.kids)]]⟩, ⟨0, 98, 5, [[(i64 0), (i64 0), (i64 0), .zc, .zc]]⟩, ⟨0, 98, 5, [[(i64 p0.op), (i64 p0.num), (i64 p0.into), (ow 3 0 q7), .zc]]⟩, (ro 0 3 1 eI q7)]) go0 ti23 rfl rfl rfl rfl rfl rfl (show 3 + 1 ≤ 5 by decide) rfl ?_
 refine dn hK6 rfl ?_
 refine sr rfl fun K8 hK8 => ?_
 refine zm tb 2 rfl ?_
 obtain ⟨q9, gq9, h0⟩ := Sh.bind_some h0
 refine ao_call (v' := (ow 4 0 q9)) (st' := [⟨0, 94, 5, [[(i64 p0.op), (i64 p0.num), (i64 p0.into), (ls eI p0.args), (ls eBlock p0.kids)]]⟩, ⟨0, 98, 5, [[(i64 0), (i64 0), (i64 0), .zc, .zc]]⟩, ⟨0, 98, 5, [[(i64 p0.op), (i64 p0.num), (i64 p0.into), (ow 3 0 q7), .zc]]⟩, (ro 0 3 1 eI q7), (ro 0 47 2 (eBlockD 3 47 98) q9)]) go0 hb96 (laws_toBlockS_2_ok hrec_laws_toBlock_2 gq9) rfl rfl ⟨(pure_mapD fun _ => rfl), trivial⟩ rfl rfl ?_
 refine zq tb rfl ?_
 refine ao_str (st' := [⟨0, 94, 5, [[(i64 p0.op), (i64 p0.num), (i64 p0.into), (ls eI p0.args), (ls eBlock p0.kids)]]⟩, ⟨0, 98, 5, [[(i64 0), (i64 0), (i64 0), .zc, .zc]]⟩, ⟨0, 98, 5, [[(i64 p0.op), (i64 p0.num), (i64 p0.into), (ow 3 0 q7), (ow 4 0 q9)]]⟩, (ro 0 3 1 eI q7), (ro 0 47 2 (eBlockD 3 47 98) q9)]) go0 ti96 rfl rfl rfl rfl rfl rfl (show 4 + 1 ≤ 5 by decide) rfl ?_
 refine dn hK8 rfl ?_
 refine sr rfl fun K10 hK10 => ?_
 refine zq tb rfl ?_
 refine ao_str (st' := [⟨0, 94, 5, [[(i64 p0.op), (i64 p0.num), (i64 p0.into), (ls eI p0.args), (ls eBlock p0.kids)]]⟩, ⟨0, 98, 5, [[(i64 p0.op), (i64 p0.num), (i64 p0.into), (ow 3 0 q7), (ow 4 0 q9)]]⟩, ⟨0, 98, 5, [[(i64 p0.op), (i64 p0.num), (i64 p0.into), (ow 3 0 q7), (ow 4 0 q9)]]⟩, (ro 0 3 1 eI q7), (ro 0 47 2 (eBlockD 3 47 98) q9)]) go0 ti98 rfl rfl rfl rfl rfl rfl (show 0 + 5 ≤ 5 by decide) rfl ?_
 refine dn hK10 rfl ?_
 replace h0 := Sh.some_eq h0
 subst r
 exact AW.ret (Exists.intro _ (And.intro ((Wk.permk (L := [(2, (.ptr 2 0 0 0))]) (st' := [(ro 0 3 1 eI q7), (ro 0 47 2 (eBlockD 3 47 98) q9), ⟨0, 98, 5, [[(i64 p0.op), (i64 p0.num), (i64 p0.into), (ow 0 0 q7), (ow 1 0 q9)]]⟩]) (st1 := [(ro 0 3 1 eI q7), (ro 0 47 2 (eBlockD 3 47 98) q9), ⟨0, 98, 5, [[(i64 p0.op), (i64 p0.num), (i64 p0.into), (ow 3 0 q7), (ow 4 0 q9)]]⟩]) [3, 4, 1] rfl .nil (by decide) rfl rfl (.pure (pure_map fun _ => rfl) (.deep (pure_mapD fun _ => rfl) (.raw rfl rfl .nil))) ⟨.rfl, trivial⟩).trans (Wk.to (L := [(2, (.ptr 2 0 0 0))]) ⟨.rfl, trivial⟩)) (aq_ldpa (x := .tmp 2) (off := 0) (cs := [(i64 p0.op), (i64 p0.num), (i64 p0.into), (ow 0 0 q7), (ow 1 0 q9)]) (vs := [(i64 p0.op), (i64 p0.num), (i64 p0.into), (ow 0 0 q7), (ow 1 0 q9)]) ti98 rfl rfl rfl (show 0 + 5 ≤ 5 by decide) rfl _ ⟨rfl, rfl⟩)))
theorem laws_toStepS_2_ok {N : Nat} {rec_laws_toBlock_2 : Block → Option (Block)} (hrec_laws_toBlock_2 : ∀ {p0 : Block} {r : Block}, rec_laws_toBlock_2 p0 = some r → ACalls Try.prog 28 [(.agg [(ls eStep p0.steps), (i64 p0.result)])] [] (fun v st => v = (.agg [(ow 0 0 r.steps), (i64 r.result)]) ∧ st = [(ro 0 98 5 (eStepD 3 47 98) r.steps)])) {p0 : (List Step)} {r : (List Step)} (h0 : laws_toStepS_2 N rec_laws_toBlock_2 p0 = some r) : ACalls Try.prog 59 [(ls eStep p0)] [] (fun v st => v = (ow 0 0 r) ∧ st = [(ro 0 98 5 (eStepD 3 47 98) r)]) := by
 unfold laws_toStepS_2 at h0
 refine ai Try.func59 rfl rfl rfl rfl ?_
 refine zr tb rfl rfl ?_
 refine sr rfl fun K2 hK2 => ?_
 refine zq tb rfl ?_
 refine zl tb rfl rfl ?_
 obtain ⟨l3, gl3, h0⟩ := Sh.bind_some h0
 refine ao_maked (m := 0) (st' := [(ro 0 98 5 (eStepD 3 47 98) l3)]) (enc := (eStepD 3 47 98)) (u := (Step.mk 0 0 0 [] [])) ei45 rfl rfl (by rw [eStepD_eq]; exact ⟨.inl ⟨rfl, rfl⟩, ⟨.inl ⟨rfl, rfl⟩, ⟨.inl ⟨rfl, rfl⟩, ⟨.inr ⟨rfl, _, _, rfl, by decide⟩, ⟨.inr ⟨rfl, _, _, rfl, by decide⟩, trivial⟩⟩⟩⟩⟩) gl3 rfl rfl ?_
 refine zq tb rfl ?_
 refine dn hK2 rfl ?_
 refine AW.seq fun K4 hK4 => ?_
 refine zr tb rfl rfl ?_
 obtain ⟨o9, h1, h0⟩ := Sh.bind_some h0
 have M9 : ∀ (l8 : (List Step)), o9 = l8 → ∀ s, Wk 0 s ⟨23, envL [(3, (ow 0 0 l8))], [(ro 0 98 5 (eStepD 3 47 98) l8)]⟩ → K4 s := by
  intro l8 hq s hw
  subst o9
  try dsimp only at h0
  refine hK4 _ (AW.weaken hw ?_)
  refine zr tb rfl rfl ?_
  replace h0 := Sh.some_eq h0
  subst r
  exact AW.ret (xr (Wk.to (L := [(2, (ow 0 0 l8))]) ⟨.rfl, trivial⟩))
 refine AW.block (AW.loopF (σ := Int × (List Step)) (fun n v => laws_toStepS_2_L1 N p0 rec_laws_toBlock_2 n v.1 v.2 = some o9) (fun (i6, l7) => ⟨23, envL [(0, (ls eStep p0)), (3, (ow 0 0 l7)), (4, (i64 i6))], [(ro 0 98 5 (eStepD 3 47 98) l7)]⟩) N (0, l3) h1 (Wk.tr rfl) (fun _ hv => by rw [laws_toStepS_2_L1] at hv; cases hv) ?_)
 rintro n ⟨i6, l7⟩ h1
 try dsimp only at h1 ⊢
 rw [laws_toStepS_2_L1] at h1
 refine AW.seq fun K11 hK11 => ?_
 refine sr rfl fun K12 hK12 => ?_
 refine zm tb 2 rfl ?_
 refine zl tb rfl rfl ?_
 refine zq tb rfl ?_
 refine dn hK12 rfl ?_
 refine ci h1 rfl ?_ ?_ <;> clear h1
 ·intro b13 h1
  refine AW.skip (hK11 _ ?_)
  refine AW.seq fun K14 hK14 => ?_
  refine AW.block ?_
  refine AW.regionO (by rfl) ?_
  refine zm tb 4 rfl ?_
  obtain ⟨c15, gc15, h1⟩ := Sh.bind_some h1
  refine zz (.iptr [(i64 c15.op), (i64 c15.num), (i64 c15.into), (ls eI c15.args), (ls eBlock c15.kids)] 0) (aq_ixsE ei40 rfl rfl gc15 (eStep_eq _) rfl) rfl ?_
  refine zq tb rfl ?_
  obtain ⟨q16, gq16, h1⟩ := Sh.bind_some h1
  refine ao_call (v' := (.agg [(i64 q16.op), (i64 q16.num), (i64 q16.into), (ow 1 0 q16.args), (ow 2 0 q16.kids)])) (st' := [(ro 0 98 5 (eStepD 3 47 98) l7), (ro 0 3 1 eI q16.args), (ro 0 47 2 (eBlockD 3 47 98) q16.kids)]) go0 hb82 (laws_toStep_2_ok hrec_laws_toBlock_2 gq16) rfl rfl ⟨(pure_map' fun _ => rfl), ⟨(pure_mapD fun _ => rfl), trivial⟩⟩ rfl rfl ?_
  obtain ⟨c17, gc17, h1⟩ := Sh.bind_some h1
  refine zz (.ptr 0 0 (Int.toNat i6) 0) (aq_ixo ei45 rfl rfl rfl rfl gc17) rfl ?_
  refine ao_sth (st' := [⟨0, 98, 5, hole l7 (eStepD 3 47 98) i6 [(i64 q16.op), (i64 q16.num), (i64 q16.into), (ow 1 0 q16.args), (ow 2 0 q16.kids)]⟩, (ro 0 3 1 eI q16.args), (ro 0 47 2 (eBlockD 3 47 98) q16.kids)]) go0 ti98 rfl rfl gc17 rfl rfl rfl (show 5 ≤ 5 by decide) (eStepD_len _) rfl ?_
  refine AO.weaken (Wk.take (id := 0) (m := 1) (j := 3) (i := i6) (c := c17) (ys := q16.args) (encY := eI) (x' := [(i64 q16.op), (i64 q16.num), (i64 q16.into), (.dv 3 1 (List.map eI q16.args)), (ow 2 0 q16.kids)]) (st' := [⟨0, 98, 5, hole l7 (eStepD 3 47 98) i6 [(i64 q16.op), (i64 q16.num), (i64 q16.into), (.dv 3 1 (List.map eI q16.args)), (ow 2 0 q16.kids)]⟩, ⟨1, 3, 1, []⟩, (ro 0 47 2 (eBlockD 3 47 98) q16.kids)]) rfl gc17 rfl rfl rfl (by decide) (show 0 ≤ 1 by decide) (fun _ => rfl) rfl rfl) ?_
  refine AO.weaken (Wk.take (id := 0) (m := 2) (j := 4) (i := i6) (c := c17) (ys := q16.kids) (encY := (eBlockD 3 47 98)) (x' := [(i64 q16.op), (i64 q16.num), (i64 q16.into), (.dv 3 1 (List.map eI q16.args)), (.dv 47 2 (List.map (eBlockD 3 47 98) q16.kids))]) (st' := [⟨0, 98, 5, hole l7 (eStepD 3 47 98) i6 [(i64 q16.op), (i64 q16.num), (i64 q16.into), (.dv 3 1 (List.map eI q16.args)), (.dv 47 2 (List.map (eBlockD 3 47 98) q16.kids))]⟩, ⟨1, 3, 1, []⟩, ⟨1, 47, 2, []⟩]) rfl gc17 rfl rfl rfl (by decide) (show 0 ≤ 2 by decide) (fun _ => rfl) rfl rfl) ?_
  refine AO.weaken (Wk.filled (id := 0) (i := i6) (u := q16) (st' := [(ro 0 98 5 (eStepD 3 47 98) (Sh.put l7 i6 q16)), ⟨1, 3, 1, []⟩, ⟨1, 47, 2, []⟩]) rfl (eStepD_eq q16).symm rfl) ?_
  refine dn hK14 rfl ?_
  refine AW.regionO (by rfl) ?_
  refine zm tb 3 rfl ?_
  exact AO.done (xi (Sh.w (i6 + 1), Sh.put l7 i6 q16) h1 (by refine Wk.trans (Wk.permk (L := [(0, (.sl (List.map eStep p0))), (3, (.own 0 0 (List.length l7))), (4, (i64 (Sh.w (i6 + 1))))]) (st' := [⟨0, 98, 5, List.map (eStepD 3 47 98) (Sh.put l7 i6 q16)⟩]) (st1 := [⟨0, 98, 5, List.map (eStepD 3 47 98) (Sh.put l7 i6 q16)⟩]) [0] rfl .nil (by decide) rfl rfl (.deep (pure_mapD eStepD_pure) .nil) ⟨.rfl, .rfl, .rfl, trivial⟩) ?_; exact Wk.to (L := [(0, (.sl (List.map eStep p0))), (3, (.own 0 0 (List.length (Sh.put l7 i6 q16)))), (4, (i64 (Sh.w (i6 + 1))))]) ⟨.rfl, (.len (by simp only [Sh.put_len])), .rfl, trivial⟩))
 ·intro b13 h1
  exact AW.exit (M9 l7 (Sh.some_eq h1).symm _ (Wk.tr rfl))
theorem laws_toBlock_2_B_ok {N : Nat} {rec_laws_toBlock_2 : Block → Option (Block)} (hrec_laws_toBlock_2 : ∀ {p0 : Block} {r : Block}, rec_laws_toBlock_2 p0 = some r → ACalls Try.prog 28 [(.agg [(ls eStep p0.steps), (i64 p0.result)])] [] (fun v st => v = (.agg [(ow 0 0 r.steps), (i64 r.result)]) ∧ st = [(ro 0 98 5 (eStepD 3 47 98) r.steps)])) {p0 : Block} {r : Block} (h0 : laws_toBlock_2_B N rec_laws_toBlock_2 p0 = some r) : ACalls Try.prog 28 [(.agg [(ls eStep p0.steps), (i64 p0.result)])] [] (fun v st => v = (.agg [(ow 0 0 r.steps), (i64 r.result)]) ∧ st = [(ro 0 98 5 (eStepD 3 47 98) r.steps)]) := by
 unfold laws_toBlock_2_B at h0
 refine ACalls.wk (r0 := (.agg [(ow 0 0 r.steps), (i64 r.result)])) (st0 := [(ro 0 98 5 (eStepD 3 47 98) r.steps), ⟨0, 47, 2, [[(ow 0 0 r.steps), (i64 r.result)]]⟩]) ?_ (Wk.sel (L := [(0, (.agg [(ow 0 0 r.steps), (i64 r.result)]))]) (st' := [(ro 0 98 5 (eStepD 3 47 98) r.steps)]) [0] rfl (by decide) rfl rfl (.deep (pure_mapD eStepD_pure) trivial) ⟨.rfl, trivial⟩)
 refine ai Try.func28 rfl rfl rfl rfl ?_
 refine sr rfl fun K1 hK1 => ?_
 refine ao_box (m := 0) (st' := [⟨0, 42, 2, [[(ls eStep p0.steps), (i64 p0.result)]]⟩]) go0 rfl rfl rfl rfl rfl ?_
 refine ao_alloc (m := 1) (st' := [⟨0, 42, 2, [[(ls eStep p0.steps), (i64 p0.result)]]⟩, ⟨0, 47, 2, [[.zc, (i64 0)]]⟩]) go0 zi47 rfl rfl ?_
 refine dn hK1 rfl ?_
 refine sr rfl fun K2 hK2 => ?_
 refine ao_alloc (m := 2) (st' := [⟨0, 42, 2, [[(ls eStep p0.steps), (i64 p0.result)]]⟩, ⟨0, 47, 2, [[.zc, (i64 0)]]⟩, ⟨0, 47, 2, [[.zc, (i64 0)]]⟩]) go0 zi47 rfl rfl ?_
 refine dn hK2 rfl ?_
 refine sr rfl fun K3 hK3 => ?_
 refine zm tb 2 rfl ?_
 obtain ⟨q4, gq4, h0⟩ := Sh.bind_some h0
 refine ao_call (v' := (ow 3 0 q4)) (st' := [⟨0, 42, 2, [[(ls eStep p0.steps), (i64 p0.result)]]⟩, ⟨0, 47, 2, [[.zc, (i64 0)]]⟩, ⟨0, 47, 2, [[.zc, (i64 0)]]⟩, (ro 0 98 5 (eStepD 3 47 98) q4)]) go0 hb59 (laws_toStepS_2_ok hrec_laws_toBlock_2 gq4) rfl rfl ⟨(pure_mapD eStepD_pure), trivial⟩ rfl rfl ?_
 refine zq tb rfl ?_
 refine ao_str (st' := [⟨0, 42, 2, [[(ls eStep p0.steps), (i64 p0.result)]]⟩, ⟨0, 47, 2, [[.zc, (i64 0)]]⟩, ⟨0, 47, 2, [[(ow 3 0 q4), (i64 0)]]⟩, (ro 0 98 5 (eStepD 3 47 98) q4)]) go0 ti45 rfl rfl rfl rfl rfl rfl (show 0 + 1 ≤ 2 by decide) rfl ?_
 refine dn hK3 rfl ?_
 refine sr rfl fun K5 hK5 => ?_
 refine zm tb 3 rfl ?_
 refine ao_str (st' := [⟨0, 42, 2, [[(ls eStep p0.steps), (i64 p0.result)]]⟩, ⟨0, 47, 2, [[.zc, (i64 0)]]⟩, ⟨0, 47, 2, [[(ow 3 0 q4), (i64 p0.result)]]⟩, (ro 0 98 5 (eStepD 3 47 98) q4)]) go0 ti3 rfl rfl rfl rfl rfl rfl (show 1 + 1 ≤ 2 by decide) rfl ?_
 refine dn hK5 rfl ?_
 refine sr rfl fun K6 hK6 => ?_
 refine zq tb rfl ?_
 refine ao_str (st' := [⟨0, 42, 2, [[(ls eStep p0.steps), (i64 p0.result)]]⟩, ⟨0, 47, 2, [[(ow 3 0 q4), (i64 p0.result)]]⟩, ⟨0, 47, 2, [[(ow 3 0 q4), (i64 p0.result)]]⟩, (ro 0 98 5 (eStepD 3 47 98) q4)]) go0 ti47 rfl rfl rfl rfl rfl rfl (show 0 + 2 ≤ 2 by decide) rfl ?_
 refine dn hK6 rfl ?_
 replace h0 := Sh.some_eq h0
 subst r
 exact AW.ret (Exists.intro _ (And.intro ((Wk.permk (L := [(2, (.ptr 1 0 0 0))]) (st' := [(ro 0 98 5 (eStepD 3 47 98) q4), ⟨0, 47, 2, [[(ow 0 0 q4), (i64 p0.result)]]⟩]) (st1 := [(ro 0 98 5 (eStepD 3 47 98) q4), ⟨0, 47, 2, [[(ow 3 0 q4), (i64 p0.result)]]⟩]) [3, 1] rfl .nil (by decide) rfl rfl (.deep (pure_mapD eStepD_pure) (.raw rfl rfl .nil)) ⟨.rfl, trivial⟩).trans (Wk.to (L := [(2, (.ptr 1 0 0 0))]) ⟨.rfl, trivial⟩)) (aq_ldpa (x := .tmp 2) (off := 0) (cs := [(ow 0 0 q4), (i64 p0.result)]) (vs := [(ow 0 0 q4), (i64 p0.result)]) ti47 rfl rfl rfl (show 0 + 2 ≤ 2 by decide) rfl _ ⟨rfl, rfl⟩)))

theorem laws_toBlock_2_F_ok {N : Nat} : ∀ (n : Nat), ∀ {p0 : Block} {r : Block}, laws_toBlock_2_F N n p0 = some r → ACalls Try.prog 28 [(.agg [(ls eStep p0.steps), (i64 p0.result)])] [] (fun v st => v = (.agg [(ow 0 0 r.steps), (i64 r.result)]) ∧ st = [(ro 0 98 5 (eStepD 3 47 98) r.steps)]) := by
 intro n
 induction n with
 | zero => intro p0 r h0; cases h0
 | succ n ih =>
  intro p0 r h0
  rw [laws_toBlock_2_F] at h0
  exact laws_toBlock_2_B_ok (fun h => ih h) h0
theorem laws_toBlock_2_ok {N : Nat} : ∀ {p0 : Block} {r : Block}, laws_toBlock_2 N p0 = some r → ACalls Try.prog 28 [(.agg [(ls eStep p0.steps), (i64 p0.result)])] [] (fun v st => v = (.agg [(ow 0 0 r.steps), (i64 r.result)]) ∧ st = [(ro 0 98 5 (eStepD 3 47 98) r.steps)]) := by
 intro p0 r h0
 exact laws_toBlock_2_F_ok N h0
theorem impl_countSteps_B_ok {N : Nat} {rec_impl_countSteps : Int → Block → Option (Bool × Int)} (hrec_impl_countSteps : ∀ {s0_0 : Int} {p0 : Block} {r : Bool × Int}, rec_impl_countSteps s0_0 p0 = some r → ACalls Try.prog 83 [(.agg [(ls eStep p0.steps), (i64 p0.result)]), (.ptr 0 0 0 0)] [⟨0, 3, 1, [[(i64 s0_0)]]⟩] (fun v st => v = (.bool r.1) ∧ st = [⟨0, 3, 1, [[(i64 r.2)]]⟩])) {s0_0 : Int} {p0 : Block} {r : Bool × Int} (h0 : impl_countSteps_B N rec_impl_countSteps s0_0 p0 = some r) : ACalls Try.prog 83 [(.agg [(ls eStep p0.steps), (i64 p0.result)]), (.ptr 0 0 0 0)] [⟨0, 3, 1, [[(i64 s0_0)]]⟩] (fun v st => v = (.bool r.1) ∧ st = [⟨0, 3, 1, [[(i64 r.2)]]⟩]) := by
 unfold impl_countSteps_B at h0
 refine ai Try.func83 rfl rfl rfl rfl ?_
 refine sr rfl fun K1 hK1 => ?_
 refine ao_box (m := 1) (st' := [⟨0, 3, 1, [[(i64 s0_0)]]⟩, ⟨0, 47, 2, [[(ls eStep p0.steps), (i64 p0.result)]]⟩]) go0 rfl rfl rfl rfl rfl ?_
 refine zq tb rfl ?_
 refine dn hK1 rfl ?_
 refine AW.seq fun K2 hK2 => ?_
 refine sr rfl fun K3 hK3 => ?_
 refine zm tb 2 rfl ?_
 refine zl tb rfl rfl ?_
 refine zq tb rfl ?_
 refine dn hK3 rfl ?_
 obtain ⟨o7, h1, h0⟩ := Sh.cont_some h0
 have M7 : ∀ (f6 : Int), o7 = Sum.inr f6 → ∀ s, Wk 1 s ⟨38, envL [], [⟨0, 3, 1, [[(i64 f6)]]⟩]⟩ → K2 s := by
  intro f6 hq s hw
  subst o7
  try dsimp only at h0
  refine hK2 _ (AW.weaken hw ?_)
  refine zr tb rfl rfl ?_
  replace h0 := Sh.some_eq h0
  subst r
  exact AW.ret (xr (Wk.to (L := [(4, (.bool true))]) ⟨.rfl, trivial⟩))
 refine AW.block (AW.loopF (σ := Int × Int) (fun n v => impl_countSteps_B_L1 N p0 rec_impl_countSteps n v.1 v.2 = some o7) (fun (t4, f5) => ⟨38, envL [(1, (.ptr 0 0 0 0)), (10, (ls eStep p0.steps)), (11, (i64 (Sh.len p0.steps))), (12, (i64 t4))], [⟨0, 3, 1, [[(i64 f5)]]⟩]⟩) N (0, s0_0) h1 (Wk.permk (L := [(1, (.ptr 0 0 0 0)), (10, (ls eStep p0.steps)), (11, (i64 (Sh.len p0.steps))), (12, (i64 0))]) (st' := [⟨0, 3, 1, [[(i64 s0_0)]]⟩]) (st1 := [⟨0, 3, 1, [[(i64 s0_0)]]⟩]) [0] rfl (.raw rfl rfl .nil) (by decide) rfl rfl (.raw rfl rfl .nil) ⟨.rfl, .rfl, .rfl, .rfl, trivial⟩) (fun _ hv => by rw [impl_countSteps_B_L1] at hv; cases hv) ?_)
 rintro n ⟨t4, f5⟩ h1
 try dsimp only at h1 ⊢
 rw [impl_countSteps_B_L1] at h1
 refine zr tb rfl rfl ?_
 refine AW.seq fun K10 hK10 => ?_
 refine ci h1 rfl ?_ ?_ <;> clear h1
 ·intro b11 h1
  refine AW.skip (hK10 _ ?_)
  refine AW.seq fun K12 hK12 => ?_
  refine AW.block ?_
  refine sr rfl fun K13 hK13 => ?_
  obtain ⟨c14, gc14, h1⟩ := Sh.bind_some h1
  refine zz (.iptr [(i64 c14.op), (i64 c14.num), (i64 c14.into), (ls eI c14.args), (ls eBlock c14.kids)] 0) (aq_ixsE ei45 rfl rfl gc14 (eStep_eq _) rfl) rfl ?_
  refine zq tb rfl ?_
  refine ao_alloc (m := 1) (st' := [⟨0, 3, 1, [[(i64 f5)]]⟩, ⟨0, 98, 5, [[(i64 0), (i64 0), (i64 0), .zc, .zc]]⟩]) go0 zi98 rfl rfl ?_
  refine ao_str (st' := [⟨0, 3, 1, [[(i64 f5)]]⟩, ⟨0, 98, 5, [[(i64 c14.op), (i64 c14.num), (i64 c14.into), (ls eI c14.args), (ls eBlock c14.kids)]]⟩]) go0 ti98 rfl rfl rfl rfl rfl rfl (show 0 + 5 ≤ 5 by decide) rfl ?_
  refine dn hK13 rfl ?_
  refine AW.seq fun K15 hK15 => ?_
  refine sr rfl fun K16 hK16 => ?_
  refine zm tb 5 rfl ?_
  refine ao_str (st' := [⟨0, 3, 1, [[(i64 (Sh.w (f5 + 1)))]]⟩, ⟨0, 98, 5, [[(i64 c14.op), (i64 c14.num), (i64 c14.into), (ls eI c14.args), (ls eBlock c14.kids)]]⟩]) go0 ti3 rfl rfl rfl rfl rfl rfl (show 0 + 1 ≤ 1 by decide) rfl ?_
  refine dn hK16 rfl ?_
  refine zr tb rfl rfl ?_
  refine ci h1 rfl ?_ ?_ <;> clear h1
  ·intro b18 h1
   refine zr tb rfl rfl ?_
   replace h1 := Sh.some_eq h1
   subst o7
   try dsimp only [id] at h0
   replace h0 := Sh.some_eq h0
   subst r
   exact AW.ret (xr (Wk.permk (L := [(4, (.bool false))]) (st' := [⟨0, 3, 1, [[(i64 (Sh.w (f5 + 1)))]]⟩]) (st1 := [⟨0, 3, 1, [[(i64 (Sh.w (f5 + 1)))]]⟩]) [0] rfl (.raw rfl rfl .nil) (by decide) rfl rfl (.raw rfl rfl .nil) ⟨.rfl, trivial⟩))
  ·intro b18 h1
   refine AW.skip (hK15 _ ?_)
   refine sr rfl fun K20 hK20 => ?_
   refine zm tb 2 rfl ?_
   refine zl tb rfl rfl ?_
   refine zq tb rfl ?_
   refine dn hK20 rfl ?_
   obtain ⟨o24, h2, h1⟩ := Sh.cont_some h1
   have M24 : ∀ (f23 : Int), o24 = Sum.inr f23 → ∀ s, Wk 1 s ⟨38, envL [(1, (.ptr 0 0 0 0)), (10, (ls eStep p0.steps)), (11, (i64 (Sh.len p0.steps))), (12, (i64 t4))], [⟨0, 3, 1, [[(i64 f23)]]⟩]⟩ → K12 s := by
    intro f23 hq s hw
    subst o24
    try dsimp only at h1
    refine hK12 _ (AW.weaken hw ?_)
    refine AW.regionO (by rfl) ?_
    refine zm tb 2 rfl ?_
    exact AO.done (xi (Sh.w (t4 + 1), f23) h1 (Wk.tr rfl))
   refine AW.block (AW.loopF (σ := Int × Int) (fun n v => impl_countSteps_B_L2 c14 rec_impl_countSteps n v.1 v.2 = some o24) (fun (t21, f22) => ⟨38, envL [(1, (.ptr 0 0 0 0)), (10, (ls eStep p0.steps)), (11, (i64 (Sh.len p0.steps))), (12, (i64 t4)), (26, (ls eBlock c14.kids)), (27, (i64 (Sh.len c14.kids))), (28, (i64 t21))], [⟨0, 3, 1, [[(i64 f22)]]⟩]⟩) N (0, Sh.w (f5 + 1)) h2 (Wk.permk (L := [(1, (.ptr 0 0 0 0)), (10, (ls eStep p0.steps)), (11, (i64 (Sh.len p0.steps))), (12, (i64 t4)), (26, (ls eBlock c14.kids)), (27, (i64 (Sh.len c14.kids))), (28, (i64 0))]) (st' := [⟨0, 3, 1, [[(i64 (Sh.w (f5 + 1)))]]⟩]) (st1 := [⟨0, 3, 1, [[(i64 (Sh.w (f5 + 1)))]]⟩]) [0] rfl (.raw rfl rfl .nil) (by decide) rfl rfl (.raw rfl rfl .nil) ⟨.rfl, .rfl, .rfl, .rfl, .rfl, .rfl, .rfl, trivial⟩) (fun _ hv => by rw [impl_countSteps_B_L2] at hv; cases hv) ?_)
   rintro n ⟨t21, f22⟩ h2
   try dsimp only at h2 ⊢
   rw [impl_countSteps_B_L2] at h2
   refine zr tb rfl rfl ?_
   refine AW.seq fun K26 hK26 => ?_
   refine ci h2 rfl ?_ ?_ <;> clear h2
   ·intro b27 h2
    refine AW.skip (hK26 _ ?_)
    refine AW.seq fun K28 hK28 => ?_
    refine AW.block ?_
    refine sr rfl fun K29 hK29 => ?_
    obtain ⟨c30, gc30, h2⟩ := Sh.bind_some h2
    refine zx ei96 gc30 rfl rfl rfl ?_
    refine zq tb rfl ?_
    refine ao_alloc (m := 1) (st' := [⟨0, 3, 1, [[(i64 f22)]]⟩, ⟨0, 47, 2, [[.zc, (i64 0)]]⟩]) go0 zi47 rfl rfl ?_
    refine ao_str (st' := [⟨0, 3, 1, [[(i64 f22)]]⟩, ⟨0, 47, 2, [[(ls eStep c30.steps), (i64 c30.result)]]⟩]) go0 ti47 rfl rfl rfl rfl rfl rfl (show 0 + 2 ≤ 2 by decide) rfl ?_
    refine dn hK29 rfl ?_
    refine sr rfl fun K31 hK31 => ?_
    refine zm tb 2 rfl ?_
    obtain ⟨q32, gq32, h2⟩ := Sh.bind_some h2
    refine ao_calls (rowsP := [⟨0, 3, 1, [[(i64 f22)]]⟩]) (rows0 := [⟨0, 3, 1, [[(i64 f22)]]⟩]) (rows1 := [⟨0, 3, 1, [[(i64 q32.2)]]⟩]) (rows2 := []) (rows1' := [⟨0, 3, 1, [[(i64 q32.2)]]⟩]) (rows2' := []) (st' := [⟨0, 3, 1, [[(i64 q32.2)]]⟩, ⟨0, 47, 2, [[(ls eStep c30.steps), (i64 c30.result)]]⟩]) (v' := (.bool q32.1)) [0] go0 hb83 (hrec_impl_countSteps gq32) rfl (by decide) rfl rfl (.raw rfl rfl .nil) rfl rfl (.raw rfl rfl .nil) .nil rfl rfl ?_
    refine zq tb rfl ?_
    refine dn hK31 rfl ?_
    refine ci h2 rfl ?_ ?_ <;> clear h2
    ·intro b33 h2
     have b34 : q32.1 = false := by simpa using b33
     refine zr tb rfl rfl ?_
     replace h2 := Sh.some_eq h2
     subst o24
     try dsimp only [id] at h1
     replace h1 := Sh.some_eq h1
     subst o7
     try dsimp only [id] at h0
     replace h0 := Sh.some_eq h0
     subst r
     exact AW.ret (xr (Wk.permk (L := [(4, (.bool false))]) (st' := [⟨0, 3, 1, [[(i64 q32.2)]]⟩]) (st1 := [⟨0, 3, 1, [[(i64 q32.2)]]⟩]) [0] rfl (.raw rfl rfl .nil) (by decide) rfl rfl (.raw rfl rfl .nil) ⟨.rfl, trivial⟩))
    ·intro b33 h2
     have b36 : q32.1 = true := by simpa using b33
     refine AW.skip (hK28 _ ?_)
     refine AW.regionO (by rfl) ?_
     refine zm tb 2 rfl ?_
     exact AO.done (xi (Sh.w (t21 + 1), q32.2) h2 (Wk.permk (L := [(1, (.ptr 0 0 0 0)), (10, (ls eStep p0.steps)), (11, (i64 (Sh.len p0.steps))), (12, (i64 t4)), (26, (ls eBlock c14.kids)), (27, (i64 (Sh.len c14.kids))), (28, (i64 (Sh.w (t21 + 1))))]) (st' := [⟨0, 3, 1, [[(i64 q32.2)]]⟩]) (st1 := [⟨0, 3, 1, [[(i64 q32.2)]]⟩]) [0] rfl (.raw rfl rfl .nil) (by decide) rfl rfl (.raw rfl rfl .nil) ⟨.rfl, .rfl, .rfl, .rfl, .rfl, .rfl, .rfl, trivial⟩))
   ·intro b27 h2
    exact AW.exit (M24 f22 (Sh.some_eq h2).symm _ (Wk.tr rfl))
 ·intro b11 h1
  exact AW.exit (M7 f5 (Sh.some_eq h1).symm _ (Wk.tr rfl))

theorem impl_countSteps_F_ok {N : Nat} : ∀ (n : Nat), ∀ {s0_0 : Int} {p0 : Block} {r : Bool × Int}, impl_countSteps_F N n s0_0 p0 = some r → ACalls Try.prog 83 [(.agg [(ls eStep p0.steps), (i64 p0.result)]), (.ptr 0 0 0 0)] [⟨0, 3, 1, [[(i64 s0_0)]]⟩] (fun v st => v = (.bool r.1) ∧ st = [⟨0, 3, 1, [[(i64 r.2)]]⟩]) := by
 intro n
 induction n with
 | zero => intro s0_0 p0 r h0; cases h0
 | succ n ih =>
  intro s0_0 p0 r h0
  rw [impl_countSteps_F] at h0
  exact impl_countSteps_B_ok (fun h => ih h) h0
theorem impl_countSteps_ok {N : Nat} : ∀ {s0_0 : Int} {p0 : Block} {r : Bool × Int}, impl_countSteps N s0_0 p0 = some r → ACalls Try.prog 83 [(.agg [(ls eStep p0.steps), (i64 p0.result)]), (.ptr 0 0 0 0)] [⟨0, 3, 1, [[(i64 s0_0)]]⟩] (fun v st => v = (.bool r.1) ∧ st = [⟨0, 3, 1, [[(i64 r.2)]]⟩]) := by
 intro s0_0 p0 r h0
 exact impl_countSteps_F_ok N h0
theorem impl_StepsOf_ok {N : Nat} {p0 : Block} {r : Int} (h0 : impl_StepsOf N p0 = some r) : ACalls Try.prog 60 [(.agg [(ls eStep p0.steps), (i64 p0.result)])] [] (fun v st => v = (i64 r) ∧ st = []) := by
 unfold impl_StepsOf at h0
 refine ai Try.func60 rfl rfl rfl rfl ?_
 refine sr rfl fun K1 hK1 => ?_
 refine ao_box (m := 0) (st' := [⟨0, 47, 2, [[(ls eStep p0.steps), (i64 p0.result)]]⟩]) go0 rfl rfl rfl rfl rfl ?_
 refine zq tb rfl ?_
 refine dn hK1 rfl ?_
 refine sr rfl fun K2 hK2 => ?_
 refine ao_alloc (m := 1) (st' := [⟨0, 47, 2, [[(ls eStep p0.steps), (i64 p0.result)]]⟩, ⟨0, 3, 1, [[(i64 0)]]⟩]) go0 zi3 rfl rfl ?_
 refine ao_str (st' := [⟨0, 47, 2, [[(ls eStep p0.steps), (i64 p0.result)]]⟩, ⟨0, 3, 1, [[(i64 0)]]⟩]) go0 ti3 rfl rfl rfl rfl rfl rfl (show 0 + 1 ≤ 1 by decide) rfl ?_
 refine dn hK2 rfl ?_
 refine AW.seq fun K3 hK3 => ?_
 refine sr rfl fun K4 hK4 => ?_
 refine zq tb rfl ?_
 obtain ⟨q5, gq5, h0⟩ := Sh.bind_some h0
 refine ao_calls (rowsP := [⟨0, 3, 1, [[(i64 0)]]⟩]) (rows0 := [⟨0, 3, 1, [[(i64 0)]]⟩]) (rows1 := [⟨0, 3, 1, [[(i64 q5.2)]]⟩]) (rows2 := []) (rows1' := [⟨0, 3, 1, [[(i64 q5.2)]]⟩]) (rows2' := []) (st' := [⟨0, 47, 2, [[(ls eStep p0.steps), (i64 p0.result)]]⟩, ⟨0, 3, 1, [[(i64 q5.2)]]⟩]) (v' := (.bool q5.1)) [1] go0 hb83 (impl_countSteps_ok gq5) rfl (by decide) rfl rfl (.raw rfl rfl .nil) rfl rfl (.raw rfl rfl .nil) .nil rfl rfl ?_
 refine zq tb rfl ?_
 refine dn hK4 rfl ?_
 refine ci h0 rfl ?_ ?_ <;> clear h0
 ·intro b6 h0
  have b7 : q5.1 = false := by simpa using b6
  refine zr tb rfl rfl ?_
  replace h0 := Sh.some_eq h0
  subst r
  exact AW.ret (xr (Wk.d0 [(2, (i64 (-1)))] rfl))
 ·intro b6 h0
  have b9 : q5.1 = true := by simpa using b6
  refine AW.skip (hK3 _ ?_)
  refine zr tb rfl rfl ?_
  replace h0 := Sh.some_eq h0
  subst r
  exact AW.ret (xr (Wk.d0 [(2, (i64 q5.2))] rfl))
theorem impl_isCounting_ok {p0 : Int} {r : Bool} (h0 : impl_isCounting p0 = some r) : ACalls Try.prog 101 [(i64 p0)] [] (fun v st => v = (.bool r) ∧ st = []) := by
 unfold impl_isCounting at h0
 refine ai Try.func101 rfl rfl rfl rfl ?_
 refine zr tb rfl rfl ?_
 refine AW.seq fun K2 hK2 => ?_
 obtain ⟨o4, h1, h0⟩ := Sh.bind_some h0
 have M4 : ∀ (t3 : Bool), o4 = t3 → ∀ s, Wk 0 s ⟨9, envL [(2, (.bool t3))], []⟩ → K2 s := by
  intro t3 hq s hw
  subst o4
  try dsimp only at h0
  refine hK2 _ (AW.weaken hw ?_)
  replace h0 := Sh.some_eq h0
  subst r
  exact AW.ret (xr (Wk.to (L := [(2, (.bool t3))]) ⟨.rfl, trivial⟩))
 refine AW.regionO (by rfl) ?_
 refine zm tb 3 rfl ?_
 rcases Sh.ite_some h1 with ⟨b5, h1⟩ | ⟨b5, h1⟩
 ·refine zg tb b5 rfl ?_
  refine zg tb b5 rfl ?_
  refine zt b5 rfl ?_
  refine zq tb rfl ?_
  exact AO.done (M4 (decide (p0 ≤ 17)) (Sh.some_eq h1).symm _ (Wk.tr rfl))
 ·refine zs b5 rfl ?_
  refine zs b5 rfl ?_
  refine zf b5 rfl ?_
  refine zq tb rfl ?_
  exact AO.done (M4 false (Sh.some_eq h1).symm _ (Wk.tr rfl))
theorem impl_setOf_1_ok {s1 : (List Int)} {p0 : Int} {r : (List Int)} (h0 : impl_setOf_1 s1 p0 = some r) : ACalls Try.prog 85 [(i64 p0), (.ptr 0 0 0 0)] [⟨0, 23, 1, [[(ow 1 0 s1)]]⟩, (ro 0 3 1 eI s1)] (fun v st => v = (.tup []) ∧ st = [⟨0, 23, 1, [[(ow 1 1 r)]]⟩, (ro 1 3 1 eI r)]) := by
 unfold impl_setOf_1 at h0
 refine ai Try.func85 rfl rfl rfl rfl ?_
 refine AW.regionO (by rfl) ?_
 refine zm tb 2 rfl ?_
 refine ao_bs (m := 2) (st' := [⟨0, 23, 1, [[(ow 1 0 s1)]]⟩, (ro 0 3 1 eI s1), (ro 0 3 1 eI [p0])]) (l := [p0]) (enc := eI) go0 ei23 (by decide) rfl rfl rfl rfl rfl rfl ?_
 obtain ⟨l1, gl1, h0⟩ := Sh.bind_some h0
 refine ao_apo (st' := [⟨0, 23, 1, [[(ow 1 0 s1)]]⟩, (ro 1 3 1 eI l1), (ro 0 3 1 eI [p0])]) (l2 := [p0]) go0 ei23 rfl rfl rfl rfl (el_o rfl rfl) (fun _ => rfl) gl1 rfl ?_
 refine ao_str (st' := [⟨0, 23, 1, [[(ow 1 1 l1)]]⟩, (ro 1 3 1 eI l1), (ro 0 3 1 eI [p0])]) go0 ti23 rfl rfl rfl rfl rfl rfl (show 0 + 1 ≤ 1 by decide) rfl ?_
 replace h0 := Sh.some_eq h0
 subst r
 exact AO.done (xr (Wk.permk (L := []) (st' := [⟨0, 23, 1, [[(ow 1 1 l1)]]⟩, (ro 1 3 1 eI l1)]) (st1 := [⟨0, 23, 1, [[(ow 1 1 l1)]]⟩, (ro 1 3 1 eI l1)]) [0, 1] rfl (.raw rfl rfl (.pure (pure_map fun _ => rfl) .nil)) (by decide) rfl rfl (.raw rfl rfl (.pure (pure_map fun _ => rfl) .nil)) trivial))
theorem impl_visitStep_3_ok {N : Nat} {rec_impl_visitUses_3 : (List Int) → Block → Int → Option ((List Int))} (hrec_impl_visitUses_3 : ∀ {s1 : (List Int)} {p0 : Block} {p1 : Int} {r : (List Int)}, rec_impl_visitUses_3 s1 p0 p1 = some r → ACalls Try.prog 84 [(.agg [(ls eStep p0.steps), (i64 p0.result)]), (i64 p1), (.fn 85 [(.ptr 0 0 0 0)])] [⟨0, 23, 1, [[(ow 1 0 s1)]]⟩, (ro 0 3 1 eI s1)] (fun v st => v = (.tup []) ∧ st = [⟨0, 23, 1, [[(ow 2 0 r)]]⟩, ⟨1, 3, 1, []⟩, (ro 0 3 1 eI r)])) {s1 : (List Int)} {p0 : Step} {r : (List Int)} (h0 : impl_visitStep_3 N rec_impl_visitUses_3 s1 p0 = some r) : ACalls Try.prog 97 [(.agg [(i64 p0.op), (i64 p0.num), (i64 p0.into), (ls eI p0.args), (ls eBlock p0.kids)]), (.fn 85 [(.ptr 0 0 0 0)])] [⟨0, 23, 1, [[(ow 1 0 s1)]]⟩, (ro 0 3 1 eI s1)] (fun v st => v = (.tup []) ∧ st = [⟨0, 23, 1, [[(ow 2 0 r)]]⟩, ⟨1, 3, 1, []⟩, (ro 0 3 1 eI r)]) := by
 unfold impl_visitStep_3 at h0
 refine ai Try.func97 rfl rfl rfl rfl ?_
 refine AW.weaken (Wk.move (id := 1) (p := 0) (j := 0) (st' := [⟨0, 23, 1, [[(ow 2 0 s1)]]⟩, ⟨1, 3, 1, []⟩, (ro 0 3 1 eI s1)]) rfl rfl (by decide) rfl rfl) ?_
 refine sr rfl fun K1 hK1 => ?_
 refine ao_box (m := 3) (st' := [⟨0, 23, 1, [[(ow 2 0 s1)]]⟩, ⟨1, 3, 1, []⟩, (ro 0 3 1 eI s1), ⟨0, 98, 5, [[(i64 p0.op), (i64 p0.num), (i64 p0.into), (ls eI p0.args), (ls eBlock p0.kids)]]⟩]) go0 rfl rfl rfl rfl rfl ?_
 refine dn hK1 rfl ?_
 refine AW.seq fun K2 hK2 => ?_
 refine sr rfl fun K3 hK3 => ?_
 refine zm tb 2 rfl ?_
 obtain ⟨q4, gq4, h0⟩ := Sh.bind_some h0
 refine zc hb101 (impl_isCounting_ok gq4) rfl rfl rfl ?_
 refine dn hK3 rfl ?_
 refine ci h0 rfl ?_ ?_ <;> clear h0
 ·intro b5 h0
  replace h0 := Sh.some_eq h0
  subst r
  exact AW.ret (xr (Wk.permK (L := []) (st' := [⟨0, 23, 1, [[(ow 2 0 s1)]]⟩, ⟨1, 3, 1, []⟩, (ro 0 3 1 eI s1)]) (st1 := [⟨0, 23, 1, [[(ow 2 0 s1)]]⟩, ⟨1, 3, 1, []⟩, (ro 0 3 1 eI s1)]) [0, 1, 2] rfl (by decide) rfl rfl (.raw rfl rfl (.pure (by intro x hx; cases hx) (.pure (pure_map fun _ => rfl) .nil))) trivial))
 ·intro b5 h0
  refine AW.skip (hK2 _ ?_)
  refine AW.seq fun K6 hK6 => ?_
  refine sr rfl fun K7 hK7 => ?_
  refine zm tb 2 rfl ?_
  refine zl tb rfl rfl ?_
  refine zq tb rfl ?_
  refine dn hK7 rfl ?_
  obtain ⟨o11, h1, h0⟩ := Sh.bind_some h0
  have M11 : ∀ (l10 : (List Int)), o11 = l10 → ∀ s, Wk 2 s ⟨33, envL [(1, (.fn 85 [(.ptr 0 0 0 0)])), (2, (.ptr 3 0 0 0))], [⟨0, 23, 1, [[(ow 2 0 l10)]]⟩, ⟨1, 3, 1, []⟩, (ro 0 3 1 eI l10), ⟨0, 98, 5, [[(i64 p0.op), (i64 p0.num), (i64 p0.into), (ls eI p0.args), (ls eBlock p0.kids)]]⟩]⟩ → K6 s := by
   intro l10 hq s hw
   subst o11
   try dsimp only at h0
   refine hK6 _ (AW.weaken hw ?_)
   refine sr rfl fun K12 hK12 => ?_
   refine zm tb 2 rfl ?_
   refine zl tb rfl rfl ?_
   refine zq tb rfl ?_
   refine dn hK12 rfl ?_
   refine AW.fin fun K13 hK13 => ?_
   obtain ⟨o17, h1, h0⟩ := Sh.bind_some h0
   have M17 : ∀ (l16 : (List Int)), o17 = l16 → ∀ s, Wk 2 s ⟨33, envL [], [⟨0, 23, 1, [[(ow 2 0 l16)]]⟩, ⟨1, 3, 1, []⟩, (ro 0 3 1 eI l16)]⟩ → K13 s := by
    intro l16 hq s hw
    subst o17
    try dsimp only at h0
    refine hK13 _ ?_
    replace h0 := Sh.some_eq h0
    subst r
    exact Exists.intro _ (And.intro (hw.trans (Wk.to (L := []) trivial)) (And.intro rfl rfl))
   refine AW.block (AW.loopF (σ := Int × (List Int)) (fun n v => impl_visitStep_3_L2 p0 rec_impl_visitUses_3 n v.1 v.2 = some o17) (fun (t14, l15) => ⟨33, envL [(1, (.fn 85 [(.ptr 0 0 0 0)])), (23, (ls eBlock p0.kids)), (24, (i64 (Sh.len p0.kids))), (25, (i64 t14))], [⟨0, 23, 1, [[(ow 2 0 l15)]]⟩, ⟨1, 3, 1, []⟩, (ro 0 3 1 eI l15)]⟩) N (0, l10) h1 (by refine Wk.trans (Wk.permK (L := [(1, (.fn 85 [(.ptr 0 0 0 0)])), (23, (ls eBlock p0.kids)), (24, (i64 (Sh.len p0.kids))), (25, (i64 0))]) (st' := [⟨0, 23, 1, [[(ow 2 0 l10)]]⟩, ⟨1, 3, 1, []⟩, (ro 0 3 1 eI l10)]) (st1 := [⟨0, 23, 1, [[(ow 2 0 l10)]]⟩, ⟨1, 3, 1, []⟩, (ro 0 3 1 eI l10)]) [0, 1, 2] rfl (by decide) rfl rfl (.raw rfl rfl (.pure (by intro x hx; cases hx) (.pure (pure_map fun _ => rfl) .nil))) ⟨.rfl, .rfl, .rfl, .rfl, trivial⟩) ?_; exact Wk.tr rfl) (fun _ hv => by rw [impl_visitStep_3_L2] at hv; cases hv) ?_)
   rintro n ⟨t14, l15⟩ h1
   try dsimp only at h1 ⊢
   rw [impl_visitStep_3_L2] at h1
   refine zr tb rfl rfl ?_
   refine AW.seq fun K19 hK19 => ?_
   refine ci h1 rfl ?_ ?_ <;> clear h1
   ·intro b20 h1
    refine AW.skip (hK19 _ ?_)
    refine AW.seq fun K21 hK21 => ?_
    refine AW.block ?_
    refine sr rfl fun K22 hK22 => ?_
    obtain ⟨c23, gc23, h1⟩ := Sh.bind_some h1
    refine zx ei96 gc23 rfl rfl rfl ?_
    refine zq tb rfl ?_
    refine ao_alloc (m := 3) (st' := [⟨0, 23, 1, [[(ow 2 0 l15)]]⟩, ⟨1, 3, 1, []⟩, (ro 0 3 1 eI l15), ⟨0, 47, 2, [[.zc, (i64 0)]]⟩]) go0 zi47 rfl rfl ?_
    refine ao_str (st' := [⟨0, 23, 1, [[(ow 2 0 l15)]]⟩, ⟨1, 3, 1, []⟩, (ro 0 3 1 eI l15), ⟨0, 47, 2, [[(ls eStep c23.steps), (i64 c23.result)]]⟩]) go0 ti47 rfl rfl rfl rfl rfl rfl (show 0 + 2 ≤ 2 by decide) rfl ?_
    refine dn hK22 rfl ?_
    refine AW.regionO (by rfl) ?_
    refine zm tb 2 rfl ?_
    obtain ⟨q24, gq24, h1⟩ := Sh.bind_some h1
    refine ao_calls (rowsP := [⟨0, 23, 1, [[(ow 2 0 l15)]]⟩, (ro 0 3 1 eI l15)]) (rows0 := [⟨0, 23, 1, [[(ow 1 0 l15)]]⟩, (ro 0 3 1 eI l15)]) (rows1 := [⟨0, 23, 1, [[(ow 2 0 q24)]]⟩, ⟨1, 3, 1, []⟩]) (rows2 := [(ro 0 3 1 eI q24)]) (rows1' := [⟨0, 23, 1, [[(ow 4 0 q24)]]⟩, ⟨1, 3, 1, []⟩]) (rows2' := [(ro 0 3 1 eI q24)]) (st' := [⟨0, 23, 1, [[(ow 4 0 q24)]]⟩, ⟨1, 3, 1, []⟩, ⟨1, 3, 1, []⟩, ⟨0, 47, 2, [[(ls eStep c23.steps), (i64 c23.result)]]⟩, (ro 0 3 1 eI q24)]) (v' := (.tup [])) [0, 2] go0 hb84 (hrec_impl_visitUses_3 gq24) rfl (by decide) rfl rfl (.raw rfl rfl (.pure (pure_map fun _ => rfl) .nil)) rfl rfl (.raw rfl rfl (.pure (by intro x hx; cases hx) .nil)) (.pure (pure_map fun _ => rfl) .nil) rfl rfl ?_
    refine dn hK21 rfl ?_
    refine AW.regionO (by rfl) ?_
    refine zm tb 2 rfl ?_
    exact AO.done (xi (Sh.w (t14 + 1), q24) h1 (by refine Wk.trans (Wk.permK (L := [(1, (.fn 85 [(.ptr 0 0 0 0)])), (23, (ls eBlock p0.kids)), (24, (i64 (Sh.len p0.kids))), (25, (i64 (Sh.w (t14 + 1))))]) (st' := [⟨0, 23, 1, [[(ow 2 0 q24)]]⟩, ⟨1, 3, 1, []⟩, (ro 0 3 1 eI q24)]) (st1 := [⟨0, 23, 1, [[(ow 4 0 q24)]]⟩, ⟨1, 3, 1, []⟩, (ro 0 3 1 eI q24)]) [0, 1, 4] rfl (by decide) rfl rfl (.raw rfl rfl (.pure (by intro x hx; cases hx) (.pure (pure_map fun _ => rfl) .nil))) ⟨.rfl, .rfl, .rfl, .rfl, trivial⟩) ?_; exact Wk.tr rfl))
   ·intro b20 h1
    exact AW.exit (M17 l15 (Sh.some_eq h1).symm _ (Wk.tr rfl))
  refine AW.block (AW.loopF (σ := Int × (List Int)) (fun n v => impl_visitStep_3_L1 p0 n v.1 v.2 = some o11) (fun (t8, l9) => ⟨33, envL [(1, (.fn 85 [(.ptr 0 0 0 0)])), (2, (.ptr 3 0 0 0)), (12, (ls eI p0.args)), (13, (i64 (Sh.len p0.args))), (14, (i64 t8))], [⟨0, 23, 1, [[(ow 2 0 l9)]]⟩, ⟨1, 3, 1, []⟩, (ro 0 3 1 eI l9), ⟨0, 98, 5, [[(i64 p0.op), (i64 p0.num), (i64 p0.into), (ls eI p0.args), (ls eBlock p0.kids)]]⟩]⟩) N (0, s1) h1 (Wk.tr rfl) (fun _ hv => by rw [impl_visitStep_3_L1] at hv; cases hv) ?_)
  rintro n ⟨t8, l9⟩ h1
  try dsimp only at h1 ⊢
  rw [impl_visitStep_3_L1] at h1
  refine zr tb rfl rfl ?_
  refine AW.seq fun K26 hK26 => ?_
  refine ci h1 rfl ?_ ?_ <;> clear h1
  ·intro b27 h1
   refine AW.skip (hK26 _ ?_)
   refine AW.seq fun K28 hK28 => ?_
   refine AW.block ?_
   refine sr rfl fun K29 hK29 => ?_
   obtain ⟨c30, gc30, h1⟩ := Sh.bind_some h1
   refine zx ei23 gc30 rfl rfl rfl ?_
   refine zm tb 2 rfl ?_
   refine dn hK29 rfl ?_
   refine AW.regionO (by rfl) ?_
   refine zm tb 2 rfl ?_
   obtain ⟨q31, gq31, h1⟩ := Sh.bind_some h1
   refine ao_callst (rowsP := [⟨0, 23, 1, [[(ow 2 0 l9)]]⟩, (ro 0 3 1 eI l9)]) (rows0 := [⟨0, 23, 1, [[(ow 1 0 l9)]]⟩, (ro 0 3 1 eI l9)]) (rows1 := [⟨0, 23, 1, [[(ow 1 1 q31)]]⟩, (ro 1 3 1 eI q31)]) (rows2 := []) (rows1' := [⟨0, 23, 1, [[(ow 2 1 q31)]]⟩, (ro 1 3 1 eI q31)]) (rows2' := []) (st' := [⟨0, 23, 1, [[(ow 2 1 q31)]]⟩, ⟨1, 3, 1, []⟩, (ro 1 3 1 eI q31), ⟨0, 98, 5, [[(i64 p0.op), (i64 p0.num), (i64 p0.into), (ls eI p0.args), (ls eBlock p0.kids)]]⟩]) (v' := (.tup [])) [0, 2] go0 rfl hb85 (impl_setOf_1_ok gq31) rfl (by decide) rfl rfl (.raw rfl rfl (.pure (pure_map fun _ => rfl) .nil)) rfl rfl (.raw rfl rfl (.pure (pure_map fun _ => rfl) .nil)) .nil rfl rfl ?_
   refine dn hK28 rfl ?_
   refine AW.regionO (by rfl) ?_
   refine zm tb 2 rfl ?_
   exact AO.done (xi (Sh.w (t8 + 1), q31) h1 (by refine Wk.trans (Wk.rk (L := [(1, (.fn 85 [(.ptr 0 0 0 0)])), (2, (.ptr 3 0 0 0)), (12, (ls eI p0.args)), (13, (i64 (Sh.len p0.args))), (14, (i64 (Sh.w (t8 + 1))))]) (st' := [⟨0, 23, 1, [[(ow 2 0 q31)]]⟩, ⟨1, 3, 1, []⟩, (ro 0 3 1 eI q31), ⟨0, 98, 5, [[(i64 p0.op), (i64 p0.num), (i64 p0.into), (ls eI p0.args), (ls eBlock p0.kids)]]⟩]) (.raw rfl rfl rfl (.pure rfl (by intro x hx; cases hx) (.pure rfl (pure_map fun _ => rfl) (.raw rfl rfl rfl .nil)))) ⟨.rfl, .rfl, .rfl, .rfl, .rfl, trivial⟩) ?_; exact Wk.tr rfl))
  ·intro b27 h1
   exact AW.exit (M11 l9 (Sh.some_eq h1).symm _ (Wk.tr rfl))
theorem impl_visitUses_3_B_ok {N : Nat} {rec_impl_visitUses_3 : (List Int) → Block → Int → Option ((List Int))} (hrec_impl_visitUses_3 : ∀ {s1 : (List Int)} {p0 : Block} {p1 : Int} {r : (List Int)}, rec_impl_visitUses_3 s1 p0 p1 = some r → ACalls Try.prog 84 [(.agg [(ls eStep p0.steps), (i64 p0.result)]), (i64 p1), (.fn 85 [(.ptr 0 0 0 0)])] [⟨0, 23, 1, [[(ow 1 0 s1)]]⟩, (ro 0 3 1 eI s1)] (fun v st => v = (.tup []) ∧ st = [⟨0, 23, 1, [[(ow 2 0 r)]]⟩, ⟨1, 3, 1, []⟩, (ro 0 3 1 eI r)])) {s1 : (List Int)} {p0 : Block} {p1 : Int} {r : (List Int)} (h0 : impl_visitUses_3_B N rec_impl_visitUses_3 s1 p0 p1 = some r) : ACalls Try.prog 84 [(.agg [(ls eStep p0.steps), (i64 p0.result)]), (i64 p1), (.fn 85 [(.ptr 0 0 0 0)])] [⟨0, 23, 1, [[(ow 1 0 s1)]]⟩, (ro 0 3 1 eI s1)] (fun v st => v = (.tup []) ∧ st = [⟨0, 23, 1, [[(ow 2 0 r)]]⟩, ⟨1, 3, 1, []⟩, (ro 0 3 1 eI r)]) := by
 unfold impl_visitUses_3_B at h0
 refine ai Try.func84 rfl rfl rfl rfl ?_
 refine AW.weaken (Wk.move (id := 1) (p := 0) (j := 0) (st' := [⟨0, 23, 1, [[(ow 2 0 s1)]]⟩, ⟨1, 3, 1, []⟩, (ro 0 3 1 eI s1)]) rfl rfl (by decide) rfl rfl) ?_
 refine sr rfl fun K1 hK1 => ?_
 refine ao_box (m := 3) (st' := [⟨0, 23, 1, [[(ow 2 0 s1)]]⟩, ⟨1, 3, 1, []⟩, (ro 0 3 1 eI s1), ⟨0, 47, 2, [[(ls eStep p0.steps), (i64 p0.result)]]⟩]) go0 rfl rfl rfl rfl rfl ?_
 refine dn hK1 rfl ?_
 refine AW.seq fun K2 hK2 => ?_
 refine sr rfl fun K3 hK3 => ?_
 refine zm tb 3 rfl ?_
 obtain ⟨l4, gl4, h0⟩ := Sh.bind_some h0
 refine ao_sls (i := p1) (j := Sh.len p0.steps) go0 ei45 rfl rfl rfl eStep_len gl4 ?_
 refine zl tb rfl rfl ?_
 refine zq tb rfl ?_
 refine dn hK3 rfl ?_
 obtain ⟨o8, h1, h0⟩ := Sh.bind_some h0
 have M8 : ∀ (l7 : (List Int)), o8 = l7 → ∀ s, Wk 2 s ⟨25, envL [(2, (.fn 85 [(.ptr 0 0 0 0)])), (3, (.ptr 3 0 0 0))], [⟨0, 23, 1, [[(ow 2 0 l7)]]⟩, ⟨1, 3, 1, []⟩, (ro 0 3 1 eI l7), ⟨0, 47, 2, [[(ls eStep p0.steps), (i64 p0.result)]]⟩]⟩ → K2 s := by
  intro l7 hq s hw
  subst o8
  try dsimp only at h0
  refine hK2 _ (AW.weaken hw ?_)
  refine AW.regionO (by rfl) ?_
  refine zm tb 3 rfl ?_
  obtain ⟨q9, gq9, h0⟩ := Sh.bind_some h0
  refine ao_callst (rowsP := [⟨0, 23, 1, [[(ow 2 0 l7)]]⟩, (ro 0 3 1 eI l7)]) (rows0 := [⟨0, 23, 1, [[(ow 1 0 l7)]]⟩, (ro 0 3 1 eI l7)]) (rows1 := [⟨0, 23, 1, [[(ow 1 1 q9)]]⟩, (ro 1 3 1 eI q9)]) (rows2 := []) (rows1' := [⟨0, 23, 1, [[(ow 2 1 q9)]]⟩, (ro 1 3 1 eI q9)]) (rows2' := []) (st' := [⟨0, 23, 1, [[(ow 2 1 q9)]]⟩, ⟨1, 3, 1, []⟩, (ro 1 3 1 eI q9), ⟨0, 47, 2, [[(ls eStep p0.steps), (i64 p0.result)]]⟩]) (v' := (.tup [])) [0, 2] go0 rfl hb85 (impl_setOf_1_ok gq9) rfl (by decide) rfl rfl (.raw rfl rfl (.pure (pure_map fun _ => rfl) .nil)) rfl rfl (.raw rfl rfl (.pure (pure_map fun _ => rfl) .nil)) .nil rfl rfl ?_
  replace h0 := Sh.some_eq h0
  subst r
  exact AO.done (Exists.intro _ (And.intro (((Wk.rk (L := []) (st' := [⟨0, 23, 1, [[(ow 2 0 q9)]]⟩, ⟨1, 3, 1, []⟩, (ro 0 3 1 eI q9), ⟨0, 47, 2, [[(ls eStep p0.steps), (i64 p0.result)]]⟩]) (.raw rfl rfl rfl (.pure rfl (by intro x hx; cases hx) (.pure rfl (pure_map fun _ => rfl) (.raw rfl rfl rfl .nil)))) trivial).trans (Wk.permK (L := []) (st' := [⟨0, 23, 1, [[(ow 2 0 q9)]]⟩, ⟨1, 3, 1, []⟩, (ro 0 3 1 eI q9)]) (st1 := [⟨0, 23, 1, [[(ow 2 0 q9)]]⟩, ⟨1, 3, 1, []⟩, (ro 0 3 1 eI q9)]) [0, 1, 2] rfl (by decide) rfl rfl (.raw rfl rfl (.pure (by intro x hx; cases hx) (.pure (pure_map fun _ => rfl) .nil))) trivial)).trans (Wk.to (L := []) trivial)) (And.intro rfl rfl)))
 refine AW.block (AW.loopF (σ := Int × (List Int)) (fun n v => impl_visitUses_3_B_L1 N l4 rec_impl_visitUses_3 n v.1 v.2 = some o8) (fun (t5, l6) => ⟨25, envL [(2, (.fn 85 [(.ptr 0 0 0 0)])), (3, (.ptr 3 0 0 0)), (11, (ls eStep l4)), (12, (i64 (Sh.len l4))), (13, (i64 t5))], [⟨0, 23, 1, [[(ow 2 0 l6)]]⟩, ⟨1, 3, 1, []⟩, (ro 0 3 1 eI l6), ⟨0, 47, 2, [[(ls eStep p0.steps), (i64 p0.result)]]⟩]⟩) N (0, s1) h1 (Wk.tr rfl) (fun _ hv => by rw [impl_visitUses_3_B_L1] at hv; cases hv) ?_)
 rintro n ⟨t5, l6⟩ h1
 try dsimp only at h1 ⊢
 rw [impl_visitUses_3_B_L1] at h1
 refine zr tb rfl rfl ?_
 refine AW.seq fun K11 hK11 => ?_
 refine ci h1 rfl ?_ ?_ <;> clear h1
 ·intro b12 h1
  refine AW.skip (hK11 _ ?_)
  refine AW.seq fun K13 hK13 => ?_
  refine AW.block ?_
  refine sr rfl fun K14 hK14 => ?_
  obtain ⟨c15, gc15, h1⟩ := Sh.bind_some h1
  refine zz (.iptr [(i64 c15.op), (i64 c15.num), (i64 c15.into), (ls eI c15.args), (ls eBlock c15.kids)] 0) (aq_ixsE ei45 rfl rfl gc15 (eStep_eq _) rfl) rfl ?_
  refine zq tb rfl ?_
  refine ao_alloc (m := 4) (st' := [⟨0, 23, 1, [[(ow 2 0 l6)]]⟩, ⟨1, 3, 1, []⟩, (ro 0 3 1 eI l6), ⟨0, 47, 2, [[(ls eStep p0.steps), (i64 p0.result)]]⟩, ⟨0, 98, 5, [[(i64 0), (i64 0), (i64 0), .zc, .zc]]⟩]) go0 zi98 rfl rfl ?_
  refine ao_str (st' := [⟨0, 23, 1, [[(ow 2 0 l6)]]⟩, ⟨1, 3, 1, []⟩, (ro 0 3 1 eI l6), ⟨0, 47, 2, [[(ls eStep p0.steps), (i64 p0.result)]]⟩, ⟨0, 98, 5, [[(i64 c15.op), (i64 c15.num), (i64 c15.into), (ls eI c15.args), (ls eBlock c15.kids)]]⟩]) go0 ti98 rfl rfl rfl rfl rfl rfl (show 0 + 5 ≤ 5 by decide) rfl ?_
  refine dn hK14 rfl ?_
  refine AW.regionO (by rfl) ?_
  refine zm tb 2 rfl ?_
  obtain ⟨q16, gq16, h1⟩ := Sh.bind_some h1
  refine ao_calls (rowsP := [⟨0, 23, 1, [[(ow 2 0 l6)]]⟩, (ro 0 3 1 eI l6)]) (rows0 := [⟨0, 23, 1, [[(ow 1 0 l6)]]⟩, (ro 0 3 1 eI l6)]) (rows1 := [⟨0, 23, 1, [[(ow 2 0 q16)]]⟩, ⟨1, 3, 1, []⟩]) (rows2 := [(ro 0 3 1 eI q16)]) (rows1' := [⟨0, 23, 1, [[(ow 5 0 q16)]]⟩, ⟨1, 3, 1, []⟩]) (rows2' := [(ro 0 3 1 eI q16)]) (st' := [⟨0, 23, 1, [[(ow 5 0 q16)]]⟩, ⟨1, 3, 1, []⟩, ⟨1, 3, 1, []⟩, ⟨0, 47, 2, [[(ls eStep p0.steps), (i64 p0.result)]]⟩, ⟨0, 98, 5, [[(i64 c15.op), (i64 c15.num), (i64 c15.into), (ls eI c15.args), (ls eBlock c15.kids)]]⟩, (ro 0 3 1 eI q16)]) (v' := (.tup [])) [0, 2] go0 hb97 (impl_visitStep_3_ok hrec_impl_visitUses_3 gq16) rfl (by decide) rfl rfl (.raw rfl rfl (.pure (pure_map fun _ => rfl) .nil)) rfl rfl (.raw rfl rfl (.pure (by intro x hx; cases hx) .nil)) (.pure (pure_map fun _ => rfl) .nil) rfl rfl ?_
  refine dn hK13 rfl ?_
  refine AW.regionO (by rfl) ?_
  refine zm tb 2 rfl ?_
  exact AO.done (xi (Sh.w (t5 + 1), q16) h1 (by refine Wk.trans (Wk.permK (L := [(2, (.fn 85 [(.ptr 0 0 0 0)])), (3, (.ptr 3 0 0 0)), (11, (ls eStep l4)), (12, (i64 (Sh.len l4))), (13, (i64 (Sh.w (t5 + 1))))]) (st' := [⟨0, 23, 1, [[(ow 2 0 q16)]]⟩, ⟨1, 3, 1, []⟩, (ro 0 3 1 eI q16), ⟨0, 47, 2, [[(ls eStep p0.steps), (i64 p0.result)]]⟩]) (st1 := [⟨0, 23, 1, [[(ow 5 0 q16)]]⟩, ⟨1, 3, 1, []⟩, (ro 0 3 1 eI q16), ⟨0, 47, 2, [[(ls eStep p0.steps), (i64 p0.result)]]⟩]) [0, 1, 5, 3] rfl (by decide) rfl rfl (.raw rfl rfl (.pure (by intro x hx; cases hx) (.pure (pure_map fun _ => rfl) (.raw rfl rfl .nil)))) ⟨.rfl, .rfl, .rfl, .rfl, .rfl, trivial⟩) ?_; exact Wk.tr rfl))
 ·intro b12 h1
  exact AW.exit (M8 l6 (Sh.some_eq h1).symm _ (Wk.tr rfl))

theorem impl_visitUses_3_F_ok {N : Nat} : ∀ (n : Nat), ∀ {s1 : (List Int)} {p0 : Block} {p1 : Int} {r : (List Int)}, impl_visitUses_3_F N n s1 p0 p1 = some r → ACalls Try.prog 84 [(.agg [(ls eStep p0.steps), (i64 p0.result)]), (i64 p1), (.fn 85 [(.ptr 0 0 0 0)])] [⟨0, 23, 1, [[(ow 1 0 s1)]]⟩, (ro 0 3 1 eI s1)] (fun v st => v = (.tup []) ∧ st = [⟨0, 23, 1, [[(ow 2 0 r)]]⟩, ⟨1, 3, 1, []⟩, (ro 0 3 1 eI r)]) := by
 intro n
 induction n with
 | zero => intro s1 p0 p1 r h0; cases h0
 | succ n ih =>
  intro s1 p0 p1 r h0
  rw [impl_visitUses_3_F] at h0
  exact impl_visitUses_3_B_ok (fun h => ih h) h0
theorem impl_visitUses_3_ok {N : Nat} : ∀ {s1 : (List Int)} {p0 : Block} {p1 : Int} {r : (List Int)}, impl_visitUses_3 N s1 p0 p1 = some r → ACalls Try.prog 84 [(.agg [(ls eStep p0.steps), (i64 p0.result)]), (i64 p1), (.fn 85 [(.ptr 0 0 0 0)])] [⟨0, 23, 1, [[(ow 1 0 s1)]]⟩, (ro 0 3 1 eI s1)] (fun v st => v = (.tup []) ∧ st = [⟨0, 23, 1, [[(ow 2 0 r)]]⟩, ⟨1, 3, 1, []⟩, (ro 0 3 1 eI r)]) := by
 intro s1 p0 p1 r h0
 exact impl_visitUses_3_F_ok N h0
theorem impl_setOf_ok {N : Nat} {p0 : Block} {p1 : Int} {r : (List Int)} (h0 : impl_setOf N p0 p1 = some r) : ACalls Try.prog 61 [(.agg [(ls eStep p0.steps), (i64 p0.result)]), (i64 p1)] [] (fun v st => v = (ow 0 0 r) ∧ st = [(ro 0 3 1 eI r)]) := by
 unfold impl_setOf at h0
 refine ai Try.func61 rfl rfl rfl rfl ?_
 refine sr rfl fun K1 hK1 => ?_
 refine ao_box (m := 0) (st' := [⟨0, 47, 2, [[(ls eStep p0.steps), (i64 p0.result)]]⟩]) go0 rfl rfl rfl rfl rfl ?_
 refine zq tb rfl ?_
 refine dn hK1 rfl ?_
 refine sr rfl fun K2 hK2 => ?_
 refine ao_alloc (m := 1) (st' := [⟨0, 47, 2, [[(ls eStep p0.steps), (i64 p0.result)]]⟩, ⟨0, 23, 1, [[.zc]]⟩]) go0 zi23 rfl rfl ?_
 refine AO.weaken (Wk.adoptC (id := 1) (st' := [⟨0, 47, 2, [[(ls eStep p0.steps), (i64 p0.result)]]⟩, ⟨0, 23, 1, [[(.own 2 0 (List.length ([] : List Int)))]]⟩, (ro 0 3 1 eI ([] : List Int))]) (j := 0) rfl rfl 3 (size' := 1) (by decide) rfl rfl rfl rfl) ?_
 refine dn hK2 rfl ?_
 refine sr rfl fun K3 hK3 => ?_
 refine zm tb 2 rfl ?_
 refine zz (.fn 85 [(.ptr 1 0 0 0)]) (aq_fn rfl) rfl ?_
 obtain ⟨q4, gq4, h0⟩ := Sh.bind_some h0
 refine ao_calls (rowsP := [⟨0, 23, 1, [[(.own 2 0 (List.length ([] : List Int)))]]⟩, (ro 0 3 1 eI ([] : List Int))]) (rows0 := [⟨0, 23, 1, [[(.own 1 0 (List.length ([] : List Int)))]]⟩, (ro 0 3 1 eI ([] : List Int))]) (rows1 := [⟨0, 23, 1, [[(ow 2 0 q4)]]⟩, ⟨1, 3, 1, []⟩]) (rows2 := [(ro 0 3 1 eI q4)]) (rows1' := [⟨0, 23, 1, [[(ow 3 0 q4)]]⟩, ⟨1, 3, 1, []⟩]) (rows2' := [(ro 0 3 1 eI q4)]) (st' := [⟨0, 47, 2, [[(ls eStep p0.steps), (i64 p0.result)]]⟩, ⟨0, 23, 1, [[(ow 3 0 q4)]]⟩, ⟨1, 3, 1, []⟩, (ro 0 3 1 eI q4)]) (v' := (.tup [])) [1, 2] go0 hb84 (impl_visitUses_3_ok gq4) rfl (by decide) rfl rfl (.raw rfl rfl (.pure (pure_map fun _ => rfl) .nil)) rfl rfl (.raw rfl rfl (.pure (by intro x hx; cases hx) .nil)) (.pure (pure_map fun _ => rfl) .nil) rfl rfl ?_
 refine dn hK3 rfl ?_
 refine sr rfl fun K5 hK5 => ?_
 refine zq tb rfl ?_
 obtain ⟨q6, gq6, h0⟩ := Sh.bind_some h0
 refine ao_callsL (rowsP := [⟨0, 3, 1, List.map eI q4⟩]) (rows0 := [⟨0, 3, 1, List.map eI q4⟩]) (rows1 := [⟨0, 3, 1, List.map eI q6⟩]) (rows2 := []) (rows1' := [⟨0, 3, 1, List.map eI q6⟩]) (rows2' := []) (st' := [⟨0, 47, 2, [[(.sl (List.map eStep p0.steps)), (i64 p0.result)]]⟩, ⟨0, 23, 1, [[(.own 3 0 (List.length q4))]]⟩, ⟨1, 3, 1, []⟩, ⟨0, 3, 1, List.map eI q6⟩]) (v' := (.tup [])) [3] go0 hb86 (slices_Sort_ok gq6) rfl (by decide) rfl rfl (.pure (pure_map fun _ => rfl) .nil) rfl rfl (.pure (pure_map fun _ => rfl) .nil) .nil rfl rfl (fun hln => ?_)
 have ln7 : List.length q6 = List.length q4 := by simpa only [List.length_map] using hln 0 _ _ rfl rfl rfl
 refine dn hK5 rfl ?_
 refine sr rfl fun K8 hK8 => ?_
 refine zq tb rfl ?_
 refine AO.weaken (Wk.to (L := [(12, (.own 3 0 (List.length q6)))]) ⟨(.len (by first | (simp only [Sh.put_len]; done) | (simp only [Sh.put_len]; omega) | omega)), trivial⟩) ?_
 obtain ⟨q9, gq9, h0⟩ := Sh.bind_some h0
 refine ao_calls (rowsP := [(ro 0 3 1 eI q6)]) (rows0 := [(ro 0 3 1 eI q6)]) (rows1 := [(ro 1 3 1 eI q9)]) (rows2 := []) (rows1' := [(ro 1 3 1 eI q9)]) (rows2' := []) (st' := [⟨0, 47, 2, [[(ls eStep p0.steps), (i64 p0.result)]]⟩, ⟨0, 23, 1, [[(ow 3 0 q4)]]⟩, ⟨1, 3, 1, []⟩, (ro 1 3 1 eI q9)]) (v' := (ow 3 1 q9)) [3] go0 hb87 (slices_Compact_ok gq9) rfl (by decide) rfl rfl (.pure (pure_map fun _ => rfl) .nil) rfl rfl (.pure (pure_map fun _ => rfl) .nil) .nil rfl rfl ?_
 refine zq tb rfl ?_
 refine dn hK8 rfl ?_
 replace h0 := Sh.some_eq h0
 subst r
 exact AW.ret (Exists.intro _ (And.intro (((Wk.permk (L := [(4, (ow 0 1 q9))]) (st' := [(ro 1 3 1 eI q9)]) (st1 := [(ro 1 3 1 eI q9)]) [3] rfl .nil (by decide) rfl rfl (.pure (pure_map fun _ => rfl) .nil) ⟨.rfl, trivial⟩).trans (Wk.rg (L := [(4, (ow 0 0 q9))]) (st' := [(ro 0 3 1 eI q9)]) (.pure (pure_map fun _ => rfl) .nil) ⟨.rfl, trivial⟩)).trans (Wk.to (L := [(4, (ow 0 0 q9))]) ⟨.rfl, trivial⟩)) (And.intro rfl rfl)))
theorem impl_varSet_below_1_ok {s0_0 : Int} {p0 : Int} {r : Bool} (h0 : impl_varSet_below_1 s0_0 p0 = some r) : ACalls Try.prog 89 [(i64 p0), (.ptr 0 0 0 0)] [⟨0, 3, 1, [[(i64 s0_0)]]⟩] (fun v st => v = (.bool r) ∧ st = [⟨0, 3, 1, [[(i64 s0_0)]]⟩]) := by
 unfold impl_varSet_below_1 at h0
 refine ai Try.func89 rfl rfl rfl rfl ?_
 refine zr tb rfl rfl ?_
 refine AW.seq fun K2 hK2 => ?_
 obtain ⟨o4, h1, h0⟩ := Sh.bind_some h0
 have M4 : ∀ (t3 : Bool), o4 = t3 → ∀ s, Wk 1 s ⟨11, envL [(3, (.bool t3))], [⟨0, 3, 1, [[(i64 s0_0)]]⟩]⟩ → K2 s := by
  intro t3 hq s hw
  subst o4
  try dsimp only at h0
  refine hK2 _ (AW.weaken hw ?_)
  replace h0 := Sh.some_eq h0
  subst r
  exact AW.ret (xr (Wk.to (L := [(3, (.bool t3))]) ⟨.rfl, trivial⟩))
 refine AW.regionO (by rfl) ?_
 refine zm tb 3 rfl ?_
 rcases Sh.ite_some h1 with ⟨b5, h1⟩ | ⟨b5, h1⟩
 ·refine zg tb b5 rfl ?_
  iterate 2 refine zg tb b5 rfl ?_
  refine zt b5 rfl ?_
  refine zq tb rfl ?_
  exact AO.done (M4 (decide (p0 < s0_0)) (Sh.some_eq h1).symm _ (Wk.tr rfl))
 ·refine zs b5 rfl ?_
  iterate 2 refine zs b5 rfl ?_
  refine zf b5 rfl ?_
  refine zq tb rfl ?_
  exact AO.done (M4 false (Sh.some_eq h1).symm _ (Wk.tr rfl))
theorem impl_varSet_where_ok {N : Nat} {s0_0 : Int} {p0 : (List Int)} {r : (List Int)} (h0 : impl_varSet_where N s0_0 p0 = some r) : ACalls Try.prog 88 [(ls eI p0), (.fn 89 [(.ptr 0 0 0 0)])] [⟨0, 3, 1, [[(i64 s0_0)]]⟩] (fun v st => v = (ow 1 0 r) ∧ st = [⟨0, 3, 1, [[(i64 s0_0)]]⟩, (ro 0 3 1 eI r)]) := by
 unfold impl_varSet_where at h0
 refine ai Try.func88 rfl rfl rfl rfl ?_
 iterate 2 refine zr tb rfl rfl ?_
 refine AW.seq fun K3 hK3 => ?_
 refine sr rfl fun K4 hK4 => ?_
 refine zq tb rfl ?_
 refine zl tb rfl rfl ?_
 refine zq tb rfl ?_
 refine dn hK4 rfl ?_
 obtain ⟨o8, h1, h0⟩ := Sh.bind_some h0
 have M8 : ∀ (l7 : (List Int)), o8 = l7 → ∀ s, Wk 1 s ⟨23, envL [(5, (ow 1 0 l7))], [⟨0, 3, 1, [[(i64 s0_0)]]⟩, (ro 0 3 1 eI l7)]⟩ → K3 s := by
  intro l7 hq s hw
  subst o8
  try dsimp only at h0
  refine hK3 _ (AW.weaken hw ?_)
  refine zr tb rfl rfl ?_
  replace h0 := Sh.some_eq h0
  subst r
  exact AW.ret (xr (Wk.to (L := [(4, (ow 1 0 l7))]) ⟨.rfl, trivial⟩))
 refine AW.block (AW.loopF (σ := Int × (List Int)) (fun n v => impl_varSet_where_L1 s0_0 p0 n v.1 v.2 = some o8) (fun (t5, l6) => ⟨23, envL [(1, (.fn 89 [(.ptr 0 0 0 0)])), (5, (ow 1 0 l6)), (8, (ls eI p0)), (9, (i64 (Sh.len p0))), (10, (i64 t5))], [⟨0, 3, 1, [[(i64 s0_0)]]⟩, (ro 0 3 1 eI l6)]⟩) N (0, []) h1 ((Wk.adopt (t := 5) rfl 3 (size := 1) (by decide)).trans (Wk.to (L := [(1, (.fn 89 [(.ptr 0 0 0 0)])), (5, (.own 1 0 (List.length ([] : List Int)))), (8, (ls eI p0)), (9, (i64 (Sh.len p0))), (10, (i64 0))]) ⟨.rfl, .rfl, .rfl, .rfl, .rfl, trivial⟩)) (fun _ hv => by rw [impl_varSet_where_L1] at hv; cases hv) ?_)
 rintro n ⟨t5, l6⟩ h1
 try dsimp only at h1 ⊢
 rw [impl_varSet_where_L1] at h1
 refine zr tb rfl rfl ?_
 refine AW.seq fun K11 hK11 => ?_
 refine ci h1 rfl ?_ ?_ <;> clear h1
 ·intro b12 h1
  refine AW.skip (hK11 _ ?_)
  refine AW.seq fun K13 hK13 => ?_
  obtain ⟨o15, h2, h1⟩ := Sh.bind_some h1
  have M15 : ∀ (l14 : (List Int)), o15 = l14 → ∀ s, Wk 1 s ⟨23, envL [(1, (.fn 89 [(.ptr 0 0 0 0)])), (5, (ow 1 0 l14)), (8, (ls eI p0)), (9, (i64 (Sh.len p0))), (10, (i64 t5))], [⟨0, 3, 1, [[(i64 s0_0)]]⟩, (ro 0 3 1 eI l14)]⟩ → K13 s := by
   intro l14 hq s hw
   subst o15
   try dsimp only at h1
   refine hK13 _ (AW.weaken hw ?_)
   refine AW.regionO (by rfl) ?_
   refine zm tb 2 rfl ?_
   exact AO.done (xi (Sh.w (t5 + 1), l14) h1 (Wk.tr rfl))
  refine AW.block ?_
  refine sr rfl fun K16 hK16 => ?_
  obtain ⟨c17, gc17, h2⟩ := Sh.bind_some h2
  refine zx ei82 gc17 rfl rfl rfl ?_
  refine zm tb 2 rfl ?_
  refine dn hK16 rfl ?_
  refine sr rfl fun K18 hK18 => ?_
  refine zm tb 2 rfl ?_
  obtain ⟨q19, gq19, h2⟩ := Sh.bind_some h2
  refine ao_callst (rowsP := [⟨0, 3, 1, [[(i64 s0_0)]]⟩]) (rows0 := [⟨0, 3, 1, [[(i64 s0_0)]]⟩]) (rows1 := [⟨0, 3, 1, [[(i64 s0_0)]]⟩]) (rows2 := []) (rows1' := [⟨0, 3, 1, [[(i64 s0_0)]]⟩]) (rows2' := []) (st' := [⟨0, 3, 1, [[(i64 s0_0)]]⟩, (ro 0 3 1 eI l6)]) (v' := (.bool q19)) [0] go0 rfl hb89 (impl_varSet_below_1_ok gq19) rfl (by decide) rfl rfl (.raw rfl rfl .nil) rfl rfl (.raw rfl rfl .nil) .nil rfl rfl ?_
  refine dn hK18 rfl ?_
  refine ci h2 rfl ?_ ?_ <;> clear h2
  ·intro b20 h2
   refine AW.regionO (by rfl) ?_
   refine zm tb 2 rfl ?_
   refine ao_bs (m := 2) (st' := [⟨0, 3, 1, [[(i64 s0_0)]]⟩, (ro 0 3 1 eI l6), (ro 0 3 1 eI [c17])]) (l := [c17]) (enc := eI) go0 ei82 (by decide) rfl rfl rfl rfl rfl rfl ?_
   obtain ⟨l21, gl21, h2⟩ := Sh.bind_some h2
   refine ao_apo (st' := [⟨0, 3, 1, [[(i64 s0_0)]]⟩, (ro 1 3 1 eI l21), (ro 0 3 1 eI [c17])]) (l2 := [c17]) go0 ei82 rfl rfl rfl rfl (el_o rfl rfl) (fun _ => rfl) gl21 rfl ?_
   refine zq tb rfl ?_
   exact AO.done (M15 l21 (Sh.some_eq h2).symm _ (by refine Wk.trans (Wk.rk (L := [(1, (.fn 89 [(.ptr 0 0 0 0)])), (5, (ow 1 0 l21)), (8, (ls eI p0)), (9, (i64 (Sh.len p0))), (10, (i64 t5))]) (st' := [⟨0, 3, 1, [[(i64 s0_0)]]⟩, (ro 0 3 1 eI l21), (ro 0 3 1 eI [c17])]) (.raw rfl rfl rfl (.pure rfl (pure_map fun _ => rfl) (.pure rfl (pure_map fun _ => rfl) .nil))) ⟨.rfl, .rfl, .rfl, .rfl, .rfl, trivial⟩) ?_; exact Wk.permk (L := [(1, (.fn 89 [(.ptr 0 0 0 0)])), (5, (ow 1 0 l21)), (8, (ls eI p0)), (9, (i64 (Sh.len p0))), (10, (i64 t5))]) (st' := [⟨0, 3, 1, [[(i64 s0_0)]]⟩, (ro 0 3 1 eI l21)]) (st1 := [⟨0, 3, 1, [[(i64 s0_0)]]⟩, (ro 0 3 1 eI l21)]) [0, 1] rfl (.raw rfl rfl .nil) (by decide) rfl rfl (.raw rfl rfl (.pure (pure_map fun _ => rfl) .nil)) ⟨.rfl, .rfl, .rfl, .rfl, .rfl, trivial⟩))
  ·intro b20 h2
   exact AW.skip (M15 l6 (Sh.some_eq h2).symm _ (Wk.tr rfl))
 ·intro b12 h1
  exact AW.exit (M8 l6 (Sh.some_eq h1).symm _ (Wk.tr rfl))
theorem impl_varSet_below_ok {N : Nat} {p0 : (List Int)} {p1 : Int} {r : (List Int)} (h0 : impl_varSet_below N p0 p1 = some r) : ACalls Try.prog 62 [(ls eI p0), (i64 p1)] [] (fun v st => v = (ow 0 0 r) ∧ st = [(ro 0 3 1 eI r)]) := by
 unfold impl_varSet_below at h0
 refine ai Try.func62 rfl rfl rfl rfl ?_
 refine sr rfl fun K1 hK1 => ?_
 refine ao_box (m := 0) (st' := [⟨0, 3, 1, [[(i64 p1)]]⟩]) go0 rfl rfl rfl rfl rfl ?_
 refine zq tb rfl ?_
 refine dn hK1 rfl ?_
 refine sr rfl fun K2 hK2 => ?_
 refine zq tb rfl ?_
 refine zz (.fn 89 [(.ptr 0 0 0 0)]) (aq_fn rfl) rfl ?_
 obtain ⟨q3, gq3, h0⟩ := Sh.bind_some h0
 refine ao_calls (rowsP := [⟨0, 3, 1, [[(i64 p1)]]⟩]) (rows0 := [⟨0, 3, 1, [[(i64 p1)]]⟩]) (rows1 := [⟨0, 3, 1, [[(i64 p1)]]⟩]) (rows2 := [(ro 0 3 1 eI q3)]) (rows1' := [⟨0, 3, 1, [[(i64 p1)]]⟩]) (rows2' := [(ro 0 3 1 eI q3)]) (st' := [⟨0, 3, 1, [[(i64 p1)]]⟩, (ro 0 3 1 eI q3)]) (v' := (ow 1 0 q3)) [0] go0 hb88 (impl_varSet_where_ok gq3) rfl (by decide) rfl rfl (.raw rfl rfl .nil) rfl rfl (.raw rfl rfl .nil) (.pure (pure_map fun _ => rfl) .nil) rfl rfl ?_
 refine zq tb rfl ?_
 refine dn hK2 rfl ?_
 replace h0 := Sh.some_eq h0
 subst r
 exact AW.ret (xr (Wk.permk (L := [(4, (ow 0 0 q3))]) (st' := [(ro 0 3 1 eI q3)]) (st1 := [(ro 0 3 1 eI q3)]) [1] rfl .nil (by decide) rfl rfl (.pure (pure_map fun _ => rfl) .nil) ⟨.rfl, trivial⟩))
theorem impl_UsedIn_ok {N : Nat} {p0 : Block} {p1 : Int} {r : (List Int)} (h0 : impl_UsedIn N p0 p1 = some r) : ACalls Try.prog 33 [(.agg [(ls eStep p0.steps), (i64 p0.result)]), (i64 p1)] [] (fun v st => v = (ow 0 0 r) ∧ st = [(ro 0 3 1 eI r)]) := by
 unfold impl_UsedIn at h0
 refine ai Try.func33 rfl rfl rfl rfl ?_
 refine sr rfl fun K1 hK1 => ?_
 refine ao_box (m := 0) (st' := [⟨0, 47, 2, [[(ls eStep p0.steps), (i64 p0.result)]]⟩]) go0 rfl rfl rfl rfl rfl ?_
 refine zq tb rfl ?_
 refine dn hK1 rfl ?_
 refine AW.seq fun K2 hK2 => ?_
 refine sr rfl fun K3 hK3 => ?_
 refine zq tb rfl ?_
 obtain ⟨q4, gq4, h0⟩ := Sh.bind_some h0
 refine zc hb60 (impl_StepsOf_ok gq4) rfl rfl rfl ?_
 refine zq tb rfl ?_
 refine dn hK3 rfl ?_
 refine ci h0 rfl ?_ ?_ <;> clear h0
 ·intro b5 h0
  refine zr tb rfl rfl ?_
  replace h0 := Sh.some_eq h0
  subst r
  exact AW.ret (Exists.intro _ (And.intro ((((Wk.adopt (t := 4) rfl 3 (size := 1) (by decide)).trans (Wk.to (L := [(4, (.own 1 0 (List.length ([] : List Int))))]) ⟨.rfl, trivial⟩)).trans (Wk.permk (L := [(4, (.own 0 0 (List.length ([] : List Int))))]) (st' := [(ro 0 3 1 eI ([] : List Int))]) (st1 := [(ro 0 3 1 eI ([] : List Int))]) [1] rfl .nil (by decide) rfl rfl (.pure (pure_map fun _ => rfl) .nil) ⟨.rfl, trivial⟩)).trans (Wk.to (L := [(4, (.own 0 0 (List.length ([] : List Int))))]) ⟨.rfl, trivial⟩)) (And.intro rfl rfl)))
 ·intro b5 h0
  refine AW.skip (hK2 _ ?_)
  refine sr rfl fun K7 hK7 => ?_
  refine zq tb rfl ?_
  obtain ⟨q8, gq8, h0⟩ := Sh.bind_some h0
  refine ao_call (v' := (ow 1 0 q8)) (st' := [⟨0, 47, 2, [[(ls eStep p0.steps), (i64 p0.result)]]⟩, (ro 0 3 1 eI q8)]) go0 hb61 (impl_setOf_ok gq8) rfl rfl ⟨(pure_map' fun _ => rfl), trivial⟩ rfl rfl ?_
  refine zq tb rfl ?_
  refine AO.weaken (Wk.frz (L := [(9, (ls eI q8)), (10, (i64 p1))]) (st' := [⟨0, 47, 2, [[(ls eStep p0.steps), (i64 p0.result)]]⟩, ⟨1, 3, 1, []⟩]) (id := 1) rfl (show 0 ≤ 1 by decide) (pure_map fun _ => rfl) ⟨(.frz rfl), .rfl, trivial⟩ rfl) ?_
  obtain ⟨q9, gq9, h0⟩ := Sh.bind_some h0
  refine ao_call (v' := (ow 2 0 q9)) (st' := [⟨0, 47, 2, [[(ls eStep p0.steps), (i64 p0.result)]]⟩, ⟨1, 3, 1, []⟩, (ro 0 3 1 eI q9)]) go0 hb62 (impl_varSet_below_ok gq9) rfl rfl ⟨(pure_map' fun _ => rfl), trivial⟩ rfl rfl ?_
  refine zq tb rfl ?_
  refine dn hK7 rfl ?_
  replace h0 := Sh.some_eq h0
  subst r
  exact AW.ret (xr (Wk.permk (L := [(4, (ow 0 0 q9))]) (st' := [(ro 0 3 1 eI q9)]) (st1 := [(ro 0 3 1 eI q9)]) [2] rfl .nil (by decide) rfl rfl (.pure (pure_map fun _ => rfl) .nil) ⟨.rfl, trivial⟩))
theorem laws_eqIntS_ok {N : Nat} {p0 : (List Int)} {p1 : (List Int)} {r : Bool} (h0 : laws_eqIntS N p0 p1 = some r) : ACalls Try.prog 14 [(ls eI p0), (ls eI p1)] [] (fun v st => v = (.bool r) ∧ st = []) := by
 unfold laws_eqIntS at h0
 refine ai Try.func14 rfl rfl rfl rfl ?_
 refine zr tb rfl rfl ?_
 refine AW.seq fun K2 hK2 => ?_
 refine sr rfl fun K3 hK3 => ?_
 refine zq tb rfl ?_
 refine zl tb rfl rfl ?_
 refine zq tb rfl ?_
 refine zl tb rfl rfl ?_
 refine zq tb rfl ?_
 refine dn hK3 rfl ?_
 refine ci h0 rfl ?_ ?_ <;> clear h0
 ·intro b4 h0
  have b5 : decide ((Sh.len p0) = (Sh.len p1)) = false := by simpa using b4
  refine zr tb rfl rfl ?_
  replace h0 := Sh.some_eq h0
  subst r
  exact AW.ret (xr (Wk.to (L := [(4, (.bool false))]) ⟨.rfl, trivial⟩))
 ·intro b4 h0
  have b7 : decide ((Sh.len p0) = (Sh.len p1)) = true := by simpa using b4
  refine AW.skip (hK2 _ ?_)
  refine AW.seq fun K8 hK8 => ?_
  refine zr tb rfl rfl ?_
  obtain ⟨o11, h1, h0⟩ := Sh.cont_some h0
  have M11 : ∀ (_ : Unit), o11 = Sum.inr () → ∀ s, Wk 0 s ⟨26, envL [], []⟩ → K8 s := by
   intro _ hq s hw
   subst o11
   try dsimp only at h0
   refine hK8 _ (AW.weaken hw ?_)
   refine zr tb rfl rfl ?_
   replace h0 := Sh.some_eq h0
   subst r
   exact AW.ret (xr (Wk.to (L := [(4, (.bool true))]) ⟨.rfl, trivial⟩))
  refine AW.block (AW.loopF (σ := Int) (fun n v => laws_eqIntS_L1 p0 p1 n v = some o11) (fun i10 => ⟨26, envL [(0, (ls eI p0)), (1, (ls eI p1)), (5, (i64 i10))], []⟩) N 0 h1 (Wk.tr rfl) (fun _ hv => by rw [laws_eqIntS_L1] at hv; cases hv) ?_)
  rintro n i10 h1
  try dsimp only at h1 ⊢
  rw [laws_eqIntS_L1] at h1
  refine AW.seq fun K13 hK13 => ?_
  refine sr rfl fun K14 hK14 => ?_
  refine zm tb 2 rfl ?_
  refine zl tb rfl rfl ?_
  refine zq tb rfl ?_
  refine dn hK14 rfl ?_
  refine ci h1 rfl ?_ ?_ <;> clear h1
  ·intro b15 h1
   refine AW.skip (hK13 _ ?_)
   refine AW.seq fun K16 hK16 => ?_
   refine AW.block ?_
   refine AW.seq fun K17 hK17 => ?_
   refine AW.draw (by kernel_rfl) (by kernel_rfl) (by rfl) ?_
   iterate 2 refine yq tb rfl ?_
   obtain ⟨c18, gc18, h1⟩ := Sh.bind_some h1
   refine yx ei23 gc18 rfl rfl rfl ?_
   iterate 3 refine yq tb rfl ?_
   obtain ⟨c19, gc19, h1⟩ := Sh.bind_some h1
   refine yx ei23 gc19 rfl rfl rfl ?_
   iterate 2 refine yq tb rfl ?_
   refine d_done (hK17 _ ?_)
   refine ci h1 rfl ?_ ?_ <;> clear h1
   ·intro b20 h1
    have b21 : decide (c18 = c19) = false := by simpa using b20
    refine zr tb rfl rfl ?_
    replace h1 := Sh.some_eq h1
    subst o11
    try dsimp only [id] at h0
    replace h0 := Sh.some_eq h0
    subst r
    exact AW.ret (xr (Wk.to (L := [(4, (.bool false))]) ⟨.rfl, trivial⟩))
   ·intro b20 h1
    have b23 : decide (c18 = c19) = true := by simpa using b20
    refine AW.skip (hK16 _ ?_)
    refine AW.regionO (by rfl) ?_
    refine zm tb 3 rfl ?_
    exact AO.done (xi (Sh.w (i10 + 1)) h1 (Wk.tr rfl))
  ·intro b15 h1
   exact AW.exit (M11 () (Sh.some_eq h1).symm _ (Wk.tr rfl))
theorem laws_eqBlockS_ok {N : Nat} {rec_laws_eqBlock : Block → Block → Option (Bool)} (hrec_laws_eqBlock : ∀ {p0 : Block} {p1 : Block} {r : Bool}, rec_laws_eqBlock p0 p1 = some r → ACalls Try.prog 30 [(.agg [(ls eStep p0.steps), (i64 p0.result)]), (.agg [(ls eStep p1.steps), (i64 p1.result)])] [] (fun v st => v = (.bool r) ∧ st = [])) {p0 : (List Block)} {p1 : (List Block)} {r : Bool} (h0 : laws_eqBlockS N rec_laws_eqBlock p0 p1 = some r) : ACalls Try.prog 100 [(ls eBlock p0), (ls eBlock p1)] [] (fun v st => v = (.bool r) ∧ st = []) := by
 unfold laws_eqBlockS at h0
 refine ai Try.func100 rfl rfl rfl rfl ?_
 refine zr tb rfl rfl ?_
 refine AW.seq fun K2 hK2 => ?_
 refine sr rfl fun K3 hK3 => ?_
 refine zq tb rfl ?_
 refine zl tb rfl rfl ?_
 refine zq tb rfl ?_
 refine zl tb rfl rfl ?_
 refine zq tb rfl ?_
 refine dn hK3 rfl ?_
 refine ci h0 rfl ?_ ?_ <;> clear h0
 ·intro b4 h0
  have b5 : decide ((Sh.len p0) = (Sh.len p1)) = false := by simpa using b4
  refine zr tb rfl rfl ?_
  replace h0 := Sh.some_eq h0
  subst r
  exact AW.ret (xr (Wk.to (L := [(4, (.bool false))]) ⟨.rfl, trivial⟩))
 ·intro b4 h0
  have b7 : decide ((Sh.len p0) = (Sh.len p1)) = true := by simpa using b4
  refine AW.skip (hK2 _ ?_)
  refine AW.seq fun K8 hK8 => ?_
  refine zr tb rfl rfl ?_
  obtain ⟨o11, h1, h0⟩ := Sh.cont_some h0
  have M11 : ∀ (_ : Unit), o11 = Sum.inr () → ∀ s, Wk 0 s ⟨27, envL [], []⟩ → K8 s := by
   intro _ hq s hw
   subst o11
   try dsimp only at h0
   refine hK8 _ (AW.weaken hw ?_)
   refine zr tb rfl rfl ?_
   replace h0 := Sh.some_eq h0
   subst r
   exact AW.ret (xr (Wk.to (L := [(4, (.bool true))]) ⟨.rfl, trivial⟩))
  refine AW.block (AW.loopF (σ := Int) (fun n v => laws_eqBlockS_L1 p0 p1 rec_laws_eqBlock n v = some o11) (fun i10 => ⟨27, envL [(0, (ls eBlock p0)), (1, (ls eBlock p1)), (5, (i64 i10))], []⟩) N 0 h1 (Wk.tr rfl) (fun _ hv => by rw [laws_eqBlockS_L1] at hv; cases hv) ?_)
  rintro n i10 h1
  try dsimp only at h1 ⊢
  rw [laws_eqBlockS_L1] at h1
  refine AW.seq fun K13 hK13 => ?_
  refine sr rfl fun K14 hK14 => ?_
  refine zm tb 2 rfl ?_
  refine zl tb rfl rfl ?_
  refine zq tb rfl ?_
  refine dn hK14 rfl ?_
  refine ci h1 rfl ?_ ?_ <;> clear h1
  ·intro b15 h1
   refine AW.skip (hK13 _ ?_)
   refine AW.seq fun K16 hK16 => ?_
   refine AW.block ?_
   refine AW.seq fun K17 hK17 => ?_
   refine AW.draw (by kernel_rfl) (by kernel_rfl) (by rfl) ?_
   iterate 2 refine yq tb rfl ?_
   obtain ⟨c18, gc18, h1⟩ := Sh.bind_some h1
   refine yx ei96 gc18 rfl rfl rfl ?_
   iterate 3 refine yq tb rfl ?_
   obtain ⟨c19, gc19, h1⟩ := Sh.bind_some h1
   refine yx ei96 gc19 rfl rfl rfl ?_
   refine yq tb rfl ?_
   obtain ⟨q20, gq20, h1⟩ := Sh.bind_some h1
   refine d_call (v := (.bool q20)) go0 hb30 (hrec_laws_eqBlock gq20) rfl rfl rfl ?_
   refine yq tb rfl ?_
   refine d_done (hK17 _ ?_)
   refine ci h1 rfl ?_ ?_ <;> clear h1
   ·intro b21 h1
    have b22 : q20 = false := by simpa using b21
    refine zr tb rfl rfl ?_
    replace h1 := Sh.some_eq h1
    subst o11
    try dsimp only [id] at h0
    replace h0 := Sh.some_eq h0
    subst r
    exact AW.ret (xr (Wk.to (L := [(4, (.bool false))]) ⟨.rfl, trivial⟩))
   ·intro b21 h1
    have b24 : q20 = true := by simpa using b21
    refine AW.skip (hK16 _ ?_)
    refine AW.regionO (by rfl) ?_
    refine zm tb 3 rfl ?_
    exact AO.done (xi (Sh.w (i10 + 1)) h1 (Wk.tr rfl))
  ·intro b15 h1
   exact AW.exit (M11 () (Sh.some_eq h1).symm _ (Wk.tr rfl))
theorem laws_eqStep_ok {N : Nat} {rec_laws_eqBlock : Block → Block → Option (Bool)} (hrec_laws_eqBlock : ∀ {p0 : Block} {p1 : Block} {r : Bool}, rec_laws_eqBlock p0 p1 = some r → ACalls Try.prog 30 [(.agg [(ls eStep p0.steps), (i64 p0.result)]), (.agg [(ls eStep p1.steps), (i64 p1.result)])] [] (fun v st => v = (.bool r) ∧ st = [])) {p0 : Step} {p1 : Step} {r : Bool} (h0 : laws_eqStep N rec_laws_eqBlock p0 p1 = some r) : ACalls Try.prog 90 [(.agg [(i64 p0.op), (i64 p0.num), (i64 p0.into), (ls eI p0.args), (ls eBlock p0.kids)]), (.agg [(i64 p1.op), (i64 p1.num), (i64 p1.into), (ls eI p1.args), (ls eBlock p1.kids)])] [] (fun v st => v = (.bool r) ∧ st = []) := by
 unfold laws_eqStep at h0
 refine ai Try.func90 rfl rfl rfl rfl ?_
 refine sr rfl fun K1 hK1 => ?_
 refine ao_box (m := 0) (st' := [⟨0, 98, 5, [[(i64 p0.op), (i64 p0.num), (i64 p0.into), (ls eI p0.args), (ls eBlock p0.kids)]]⟩]) go0 rfl rfl rfl rfl rfl ?_
 refine ao_box (m := 1) (st' := [⟨0, 98, 5, [[(i64 p0.op), (i64 p0.num), (i64 p0.into), (ls eI p0.args), (ls eBlock p0.kids)]]⟩, ⟨0, 98, 5, [[(i64 p1.op), (i64 p1.num), (i64 p1.into), (ls eI p1.args), (ls eBlock p1.kids)]]⟩]) go0 rfl rfl rfl rfl rfl ?_
 refine zq tb rfl ?_
 refine dn hK1 rfl ?_
 refine AW.seq fun K2 hK2 => ?_
 refine zr tb rfl rfl ?_
 refine ci h0 rfl ?_ ?_ <;> clear h0
 ·intro b4 h0
  have b5 : decide (p0.op = p1.op) = false := by simpa using b4
  refine zr tb rfl rfl ?_
  replace h0 := Sh.some_eq h0
  subst r
  exact AW.ret (xr (Wk.d0 [(4, (.bool false))] rfl))
 ·intro b4 h0
  have b7 : decide (p0.op = p1.op) = true := by simpa using b4
  refine AW.skip (hK2 _ ?_)
  refine AW.seq fun K8 hK8 => ?_
  refine zr tb rfl rfl ?_
  refine ci h0 rfl ?_ ?_ <;> clear h0
  ·intro b10 h0
   have b11 : decide (p0.num = p1.num) = false := by simpa using b10
   refine zr tb rfl rfl ?_
   replace h0 := Sh.some_eq h0
   subst r
   exact AW.ret (xr (Wk.d0 [(4, (.bool false))] rfl))
  ·intro b10 h0
   have b13 : decide (p0.num = p1.num) = true := by simpa using b10
   refine AW.skip (hK8 _ ?_)
   refine AW.seq fun K14 hK14 => ?_
   refine zr tb rfl rfl ?_
   refine ci h0 rfl ?_ ?_ <;> clear h0
   ·intro b16 h0
    have b17 : decide (p0.into = p1.into) = false := by simpa using b16
    refine zr tb rfl rfl ?_
    replace h0 := Sh.some_eq h0
    subst r
    exact AW.ret (xr (Wk.d0 [(4, (.bool false))] rfl))
   ·intro b16 h0
    have b19 : decide (p0.into = p1.into) = true := by simpa using b16
    refine AW.skip (hK14 _ ?_)
    refine AW.seq fun K20 hK20 => ?_
    refine sr rfl fun K21 hK21 => ?_
    refine zm tb 4 rfl ?_
    obtain ⟨q22, gq22, h0⟩ := Sh.bind_some h0
    refine zc hb14 (laws_eqIntS_ok gq22) rfl rfl rfl ?_
    refine zq tb rfl ?_
    refine dn hK21 rfl ?_
    refine ci h0 rfl ?_ ?_ <;> clear h0
    ·intro b23 h0
     have b24 : q22 = false := by simpa using b23
     refine zr tb rfl rfl ?_
     replace h0 := Sh.some_eq h0
     subst r
     exact AW.ret (xr (Wk.d0 [(4, (.bool false))] rfl))
    ·intro b23 h0
     have b26 : q22 = true := by simpa using b23
     refine AW.skip (hK20 _ ?_)
     refine AW.seq fun K27 hK27 => ?_
     refine sr rfl fun K28 hK28 => ?_
     refine zm tb 4 rfl ?_
     obtain ⟨q29, gq29, h0⟩ := Sh.bind_some h0
     refine zc hb100 (laws_eqBlockS_ok hrec_laws_eqBlock gq29) rfl rfl rfl ?_
     refine zq tb rfl ?_
     refine dn hK28 rfl ?_
     refine ci h0 rfl ?_ ?_ <;> clear h0
     ·intro b30 h0
      have b31 : q29 = false := by simpa using b30
      refine zr tb rfl rfl ?_
      replace h0 := Sh.some_eq h0
      subst r
      exact AW.ret (xr (Wk.d0 [(4, (.bool false))] rfl))
     ·intro b30 h0
      have b33 : q29 = true := by simpa using b30
      refine AW.skip (hK27 _ ?_)
      refine zr tb rfl rfl ?_
      replace h0 := Sh.some_eq h0
      subst r
      exact AW.ret (xr (Wk.d0 [(4, (.bool true))] rfl))
theorem laws_eqStepS_ok {N : Nat} {rec_laws_eqBlock : Block → Block → Option (Bool)} (hrec_laws_eqBlock : ∀ {p0 : Block} {p1 : Block} {r : Bool}, rec_laws_eqBlock p0 p1 = some r → ACalls Try.prog 30 [(.agg [(ls eStep p0.steps), (i64 p0.result)]), (.agg [(ls eStep p1.steps), (i64 p1.result)])] [] (fun v st => v = (.bool r) ∧ st = [])) {p0 : (List Step)} {p1 : (List Step)} {r : Bool} (h0 : laws_eqStepS N rec_laws_eqBlock p0 p1 = some r) : ACalls Try.prog 63 [(ls eStep p0), (ls eStep p1)] [] (fun v st => v = (.bool r) ∧ st = []) := by
 unfold laws_eqStepS at h0
 refine ai Try.func63 rfl rfl rfl rfl ?_
 refine zr tb rfl rfl ?_
 refine AW.seq fun K2 hK2 => ?_
 refine sr rfl fun K3 hK3 => ?_
 refine zq tb rfl ?_
 refine zl tb rfl rfl ?_
 refine zq tb rfl ?_
 refine zl tb rfl rfl ?_
 refine zq tb rfl ?_
 refine dn hK3 rfl ?_
 refine ci h0 rfl ?_ ?_ <;> clear h0
 ·intro b4 h0
  have b5 : decide ((Sh.len p0) = (Sh.len p1)) = false := by simpa using b4
  refine zr tb rfl rfl ?_
  replace h0 := Sh.some_eq h0
  subst r
  exact AW.ret (xr (Wk.to (L := [(4, (.bool false))]) ⟨.rfl, trivial⟩))
 ·intro b4 h0
  have b7 : decide ((Sh.len p0) = (Sh.len p1)) = true := by simpa using b4
  refine AW.skip (hK2 _ ?_)
  refine AW.seq fun K8 hK8 => ?_
  refine zr tb rfl rfl ?_
  obtain ⟨o11, h1, h0⟩ := Sh.cont_some h0
  have M11 : ∀ (_ : Unit), o11 = Sum.inr () → ∀ s, Wk 0 s ⟨27, envL [], []⟩ → K8 s := by
   intro _ hq s hw
   subst o11
   try dsimp only at h0
   refine hK8 _ (AW.weaken hw ?_)
   refine zr tb rfl rfl ?_
   replace h0 := Sh.some_eq h0
   subst r
   exact AW.ret (xr (Wk.to (L := [(4, (.bool true))]) ⟨.rfl, trivial⟩))
  refine AW.block (AW.loopF (σ := Int) (fun n v => laws_eqStepS_L1 N p0 p1 rec_laws_eqBlock n v = some o11) (fun i10 => ⟨27, envL [(0, (ls eStep p0)), (1, (ls eStep p1)), (5, (i64 i10))], []⟩) N 0 h1 (Wk.tr rfl) (fun _ hv => by rw [laws_eqStepS_L1] at hv; cases hv) ?_)
  rintro n i10 h1
  try dsimp only at h1 ⊢
  rw [laws_eqStepS_L1] at h1
  refine AW.seq fun K13 hK13 => ?_
  refine sr rfl fun K14 hK14 => ?_
  refine zm tb 2 rfl ?_
  refine zl tb rfl rfl ?_
  refine zq tb rfl ?_
  refine dn hK14 rfl ?_
  refine ci h1 rfl ?_ ?_ <;> clear h1
  ·intro b15 h1
   refine AW.skip (hK13 _ ?_)
   refine AW.seq fun K16 hK16 => ?_
   refine AW.block ?_
   refine AW.seq fun K17 hK17 => ?_
   refine AW.draw (by kernel_rfl) (by kernel_rfl) (by rfl) ?_
   iterate 2 refine yq tb rfl ?_
   obtain ⟨c18, gc18, h1⟩ := Sh.bind_some h1
   refine yz (.iptr [(i64 c18.op), (i64 c18.num), (i64 c18.into), (ls eI c18.args), (ls eBlock c18.kids)] 0) (aq_ixsE ei45 rfl rfl gc18 (eStep_eq _) rfl) rfl ?_
   iterate 3 refine yq tb rfl ?_
   obtain ⟨c19, gc19, h1⟩ := Sh.bind_some h1
   refine yz (.iptr [(i64 c19.op), (i64 c19.num), (i64 c19.into), (ls eI c19.args), (ls eBlock c19.kids)] 0) (aq_ixsE ei45 rfl rfl gc19 (eStep_eq _) rfl) rfl ?_
   refine yq tb rfl ?_
   obtain ⟨q20, gq20, h1⟩ := Sh.bind_some h1
   refine d_call (v := (.bool q20)) go0 hb90 (laws_eqStep_ok hrec_laws_eqBlock gq20) rfl rfl rfl ?_
   refine yq tb rfl ?_
   refine d_done (hK17 _ ?_)
   refine ci h1 rfl ?_ ?_ <;> clear h1
   ·intro b21 h1
    have b22 : q20 = false := by simpa using b21
    refine zr tb rfl rfl ?_
    replace h1 := Sh.some_eq h1
    subst o11
    try dsimp only [id] at h0
    replace h0 := Sh.some_eq h0
    subst r
    exact AW.ret (xr (Wk.to (L := [(4, (.bool false))]) ⟨.rfl, trivial⟩))
   ·intro b21 h1
    have b24 : q20 = true := by simpa using b21
    refine AW.skip (hK16 _ ?_)
    refine AW.regionO (by rfl) ?_
    refine zm tb 3 rfl ?_
    exact AO.done (xi (Sh.w (i10 + 1)) h1 (Wk.tr rfl))
  ·intro b15 h1
   exact AW.exit (M11 () (Sh.some_eq h1).symm _ (Wk.tr rfl))
theorem laws_eqBlock_B_ok {N : Nat} {rec_laws_eqBlock : Block → Block → Option (Bool)} (hrec_laws_eqBlock : ∀ {p0 : Block} {p1 : Block} {r : Bool}, rec_laws_eqBlock p0 p1 = some r → ACalls Try.prog 30 [(.agg [(ls eStep p0.steps), (i64 p0.result)]), (.agg [(ls eStep p1.steps), (i64 p1.result)])] [] (fun v st => v = (.bool r) ∧ st = [])) {p0 : Block} {p1 : Block} {r : Bool} (h0 : laws_eqBlock_B N rec_laws_eqBlock p0 p1 = some r) : ACalls Try.prog 30 [(.agg [(ls eStep p0.steps), (i64 p0.result)]), (.agg [(ls eStep p1.steps), (i64 p1.result)])] [] (fun v st => v = (.bool r) ∧ st = []) := by
 unfold laws_eqBlock_B at h0
 refine ai Try.func30 rfl rfl rfl rfl ?_
 refine sr rfl fun K1 hK1 => ?_
 refine ao_box (m := 0) (st' := [⟨0, 47, 2, [[(ls eStep p0.steps), (i64 p0.result)]]⟩]) go0 rfl rfl rfl rfl rfl ?_
 refine ao_box (m := 1) (st' := [⟨0, 47, 2, [[(ls eStep p0.steps), (i64 p0.result)]]⟩, ⟨0, 47, 2, [[(ls eStep p1.steps), (i64 p1.result)]]⟩]) go0 rfl rfl rfl rfl rfl ?_
 refine zq tb rfl ?_
 refine dn hK1 rfl ?_
 refine AW.seq fun K2 hK2 => ?_
 refine sr rfl fun K3 hK3 => ?_
 refine zm tb 4 rfl ?_
 obtain ⟨q4, gq4, h0⟩ := Sh.bind_some h0
 refine zc hb63 (laws_eqStepS_ok hrec_laws_eqBlock gq4) rfl rfl rfl ?_
 refine zq tb rfl ?_
 refine dn hK3 rfl ?_
 refine ci h0 rfl ?_ ?_ <;> clear h0
 ·intro b5 h0
  have b6 : q4 = false := by simpa using b5
  refine zr tb rfl rfl ?_
  replace h0 := Sh.some_eq h0
  subst r
  exact AW.ret (xr (Wk.d0 [(4, (.bool false))] rfl))
 ·intro b5 h0
  have b8 : q4 = true := by simpa using b5
  refine AW.skip (hK2 _ ?_)
  refine AW.seq fun K9 hK9 => ?_
  refine zr tb rfl rfl ?_
  refine ci h0 rfl ?_ ?_ <;> clear h0
  ·intro b11 h0
   have b12 : decide (p0.result = p1.result) = false := by simpa using b11
   refine zr tb rfl rfl ?_
   replace h0 := Sh.some_eq h0
   subst r
   exact AW.ret (xr (Wk.d0 [(4, (.bool false))] rfl))
  ·intro b11 h0
   have b14 : decide (p0.result = p1.result) = true := by simpa using b11
   refine AW.skip (hK9 _ ?_)
   refine zr tb rfl rfl ?_
   replace h0 := Sh.some_eq h0
   subst r
   exact AW.ret (xr (Wk.d0 [(4, (.bool true))] rfl))

theorem laws_eqBlock_F_ok {N : Nat} : ∀ (n : Nat), ∀ {p0 : Block} {p1 : Block} {r : Bool}, laws_eqBlock_F N n p0 p1 = some r → ACalls Try.prog 30 [(.agg [(ls eStep p0.steps), (i64 p0.result)]), (.agg [(ls eStep p1.steps), (i64 p1.result)])] [] (fun v st => v = (.bool r) ∧ st = []) := by
 intro n
 induction n with
 | zero => intro p0 p1 r h0; cases h0
 | succ n ih =>
  intro p0 p1 r h0
  rw [laws_eqBlock_F] at h0
  exact laws_eqBlock_B_ok (fun h => ih h) h0
theorem laws_eqBlock_ok {N : Nat} : ∀ {p0 : Block} {p1 : Block} {r : Bool}, laws_eqBlock N p0 p1 = some r → ACalls Try.prog 30 [(.agg [(ls eStep p0.steps), (i64 p0.result)]), (.agg [(ls eStep p1.steps), (i64 p1.result)])] [] (fun v st => v = (.bool r) ∧ st = []) := by
 intro p0 p1 r h0
 exact laws_eqBlock_F_ok N h0
theorem laws_markIntS_ok {N : Nat} {s0 : (List Int)} {p1 : Int} {r : Int × (List Int)} (h0 : laws_markIntS N s0 p1 = some r) : ACalls Try.prog 17 [(ow 0 0 s0), (i64 p1)] [(ro 0 3 1 eI s0)] (fun v st => v = (i64 r.1) ∧ st = [(ro 0 3 1 eI r.2)]) := by
 unfold laws_markIntS at h0
 refine ai Try.func17 rfl rfl rfl rfl ?_
 refine zr tb rfl rfl ?_
 refine AW.seq fun K2 hK2 => ?_
 refine zr tb rfl rfl ?_
 obtain ⟨o9, h1, h0⟩ := Sh.bind_some h0
 have M9 : ∀ (k7 : Int) (l8 : (List Int)), o9 = (k7, l8) → ∀ s, Wk 1 s ⟨19, envL [(1, (i64 k7))], [(ro 0 3 1 eI l8)]⟩ → K2 s := by
  intro k7 l8 hq s hw
  subst o9
  try dsimp only at h0
  refine hK2 _ (AW.weaken hw ?_)
  refine zr tb rfl rfl ?_
  replace h0 := Sh.some_eq h0
  subst r
  exact AW.ret (xr (Wk.to (L := [(4, (i64 k7))]) ⟨.rfl, trivial⟩))
 refine AW.block (AW.loopF (σ := Int × Int × (List Int)) (fun n v => laws_markIntS_L1  n v.1 v.2.1 v.2.2 = some o9) (fun (k4, i5, l6) => ⟨19, envL [(0, (ow 0 0 l6)), (1, (i64 k4)), (5, (i64 i5))], [(ro 0 3 1 eI l6)]⟩) N (p1, 0, s0) h1 (Wk.tr rfl) (fun _ hv => by rw [laws_markIntS_L1] at hv; cases hv) ?_)
 rintro n ⟨k4, i5, l6⟩ h1
 try dsimp only at h1 ⊢
 rw [laws_markIntS_L1] at h1
 refine AW.seq fun K11 hK11 => ?_
 refine sr rfl fun K12 hK12 => ?_
 refine zm tb 2 rfl ?_
 refine zz (i64 (Sh.len l6)) (aq_leno sl23 rfl rfl rfl) rfl ?_
 refine zq tb rfl ?_
 refine dn hK12 rfl ?_
 refine ci h1 rfl ?_ ?_ <;> clear h1
 ·intro b13 h1
  refine AW.skip (hK11 _ ?_)
  refine AW.seq fun K14 hK14 => ?_
  refine AW.block ?_
  refine sr rfl fun K15 hK15 => ?_
  refine zm tb 3 rfl ?_
  obtain ⟨c16, gc16, h1⟩ := Sh.bind_some h1
  refine zz (.ptr 0 0 (Int.toNat i5) 0) (aq_ixo ei23 rfl rfl rfl rfl gc16) rfl ?_
  refine ao_stl (st' := [(ro 0 3 1 eI (Sh.put l6 i5 k4))]) (u' := k4) go0 ti3 rfl rfl gc16 rfl rfl rfl (show 0 + 1 ≤ 1 by decide) rfl rfl ?_
  refine dn hK15 rfl ?_
  refine AW.regionO (by rfl) ?_
  refine zm tb 3 rfl ?_
  refine dn hK14 rfl ?_
  refine AW.regionO (by rfl) ?_
  refine zm tb 3 rfl ?_
  exact AO.done (xi (Sh.w (k4 + 1), Sh.w (i5 + 1), Sh.put l6 i5 k4) h1 (Wk.to (L := [(0, (.own 0 0 (List.length (Sh.put l6 i5 k4)))), (1, (i64 (Sh.w (k4 + 1)))), (5, (i64 (Sh.w (i5 + 1))))]) ⟨(.len (by simp only [Sh.put_len])), .rfl, .rfl, trivial⟩))
 ·intro b13 h1
  exact AW.exit (M9 k4 l6 (Sh.some_eq h1).symm _ (Wk.tr rfl))
theorem laws_markBlockS_ok {N : Nat} {rec_laws_markStepS : (List Step) → Int → Option (Int × (List Step))} (hrec_laws_markStepS : ∀ {s0 : (List Step)} {p1 : Int} {r : Int × (List Step)}, rec_laws_markStepS s0 p1 = some r → ACalls Try.prog 64 [(ow 0 0 s0), (i64 p1)] [(ro 0 98 5 (eStepD 3 47 98) s0)] (fun v st => v = (i64 r.1) ∧ st = [(ro 0 98 5 (eStepD 3 47 98) r.2)])) {s0 : (List Block)} {p1 : Int} {r : Int × (List Block)} (h0 : laws_markBlockS N rec_laws_markStepS s0 p1 = some r) : ACalls Try.prog 91 [(ow 0 0 s0), (i64 p1)] [(ro 0 47 2 (eBlockD 3 47 98) s0)] (fun v st => v = (i64 r.1) ∧ st = [(ro 0 47 2 (eBlockD 3 47 98) r.2)]) := by
 unfold laws_markBlockS at h0
 refine ai Try.func91 rfl rfl rfl rfl ?_
 refine zr tb rfl rfl ?_
 refine AW.seq fun K2 hK2 => ?_
 refine zr tb rfl rfl ?_
 obtain ⟨o9, h1, h0⟩ := Sh.bind_some h0
 have M9 : ∀ (k7 : Int) (l8 : (List Block)), o9 = (k7, l8) → ∀ s, Wk 1 s ⟨27, envL [(1, (i64 k7))], [(ro 0 47 2 (eBlockD 3 47 98) l8)]⟩ → K2 s := by
  intro k7 l8 hq s hw
  subst o9
  try dsimp only at h0
  refine hK2 _ (AW.weaken hw ?_)
  refine zr tb rfl rfl ?_
  replace h0 := Sh.some_eq h0
  subst r
  exact AW.ret (xr (Wk.to (L := [(4, (i64 k7))]) ⟨.rfl, trivial⟩))
 refine AW.block (AW.loopF (σ := Int × Int × (List Block)) (fun n v => laws_markBlockS_L1 rec_laws_markStepS n v.1 v.2.1 v.2.2 = some o9) (fun (k4, i5, l6) => ⟨27, envL [(0, (ow 0 0 l6)), (1, (i64 k4)), (5, (i64 i5))], [(ro 0 47 2 (eBlockD 3 47 98) l6)]⟩) N (p1, 0, s0) h1 (Wk.tr rfl) (fun _ hv => by rw [laws_markBlockS_L1] at hv; cases hv) ?_)
 rintro n ⟨k4, i5, l6⟩ h1
 try dsimp only at h1 ⊢
 rw [laws_markBlockS_L1] at h1
 refine AW.seq fun K11 hK11 => ?_
 refine sr rfl fun K12 hK12 => ?_
 refine zm tb 2 rfl ?_
 refine zz (i64 (Sh.len l6)) (aq_leno sl96 rfl rfl rfl) rfl ?_
 refine zq tb rfl ?_
 refine dn hK12 rfl ?_
 refine ci h1 rfl ?_ ?_ <;> clear h1
 ·intro b13 h1
  refine AW.skip (hK11 _ ?_)
  refine AW.seq fun K14 hK14 => ?_
  refine AW.block ?_
  refine sr rfl fun K15 hK15 => ?_
  refine zm tb 2 rfl ?_
  obtain ⟨c16, gc16, h1⟩ := Sh.bind_some h1
  refine zz (.ptr 0 0 (Int.toNat i5) 0) (aq_ixo ei96 rfl rfl rfl rfl gc16) rfl ?_
  refine zq tb rfl ?_
  refine AO.weaken (Wk.expel (id := 0) (j := 0) (i := i5) (c := c16) (ys := c16.steps) (encY := (eStepD 3 47 98)) (x := [(.dv 98 5 (List.map (eStepD 3 47 98) c16.steps)), (i64 c16.result)]) (x' := [(ow 1 0 c16.steps), (i64 c16.result)]) (st' := [⟨0, 47, 2, hole l6 (eBlockD 3 47 98) i5 [(ow 1 0 c16.steps), (i64 c16.result)]⟩, (ro 0 98 5 (eStepD 3 47 98) c16.steps)]) rfl gc16 rfl rfl rfl rfl rfl) ?_
  refine zz (ow 1 0 c16.steps) (aq_ldp ti45 rfl rfl (hole_get gc16) rfl) rfl ?_
  refine zq tb rfl ?_
  obtain ⟨q17, gq17, h1⟩ := Sh.bind_some h1
  refine ao_callsL (rowsP := [⟨0, 98, 5, List.map (eStepD 3 47 98) c16.steps⟩]) (rows0 := [⟨0, 98, 5, List.map (eStepD 3 47 98) c16.steps⟩]) (rows1 := [⟨0, 98, 5, List.map (eStepD 3 47 98) q17.2⟩]) (rows2 := []) (rows1' := [⟨0, 98, 5, List.map (eStepD 3 47 98) q17.2⟩]) (rows2' := []) (st' := [⟨0, 47, 2, hole l6 (eBlockD 3 47 98) i5 [(.own 1 0 (List.length c16.steps)), (i64 c16.result)]⟩, ⟨0, 98, 5, List.map (eStepD 3 47 98) q17.2⟩]) (v' := (i64 q17.1)) [1] go0 hb64 (hrec_laws_markStepS gq17) rfl (by decide) rfl rfl (.deep (pure_mapD eStepD_pure) .nil) rfl rfl (.deep (pure_mapD eStepD_pure) .nil) .nil rfl rfl (fun hln => ?_)
  have ln18 : List.length q17.2 = List.length c16.steps := by simpa only [List.length_map] using hln 0 _ _ rfl rfl rfl
  refine AO.weaken (Wk.take (id := 0) (m := 1) (j := 0) (i := i5) (c := c16) (ys := q17.2) (encY := (eStepD 3 47 98)) (x' := [(.dv 98 5 (List.map (eStepD 3 47 98) q17.2)), (i64 c16.result)]) (st' := [⟨0, 47, 2, hole l6 (eBlockD 3 47 98) i5 [(.dv 98 5 (List.map (eStepD 3 47 98) q17.2)), (i64 c16.result)]⟩, ⟨1, 98, 5, []⟩]) rfl gc16 rfl rfl (by first | (simp only [Sh.put_len]; done) | (simp only [Sh.put_len]; omega) | omega) (by decide) (show 1 ≤ 1 by decide) eStepD_deep rfl rfl) ?_
  refine AO.weaken (Wk.filled (id := 0) (i := i5) (u := (Block.mk q17.2 c16.result)) (st' := [(ro 0 47 2 (eBlockD 3 47 98) (Sh.put l6 i5 (Block.mk q17.2 c16.result))), ⟨1, 98, 5, []⟩]) rfl rfl rfl) ?_
  refine zq tb rfl ?_
  refine dn hK15 rfl ?_
  refine sr rfl fun K19 hK19 => ?_
  refine zm tb 3 rfl ?_
  obtain ⟨c20, gc20, h1⟩ := Sh.bind_some h1
  refine zz (.ptr 0 0 (Int.toNat i5) 0) (aq_ixo ei96 rfl rfl rfl (by first | (simp only [Sh.put_len]; done) | (simp only [Sh.put_len]; omega) | omega) gc20) rfl ?_
  refine zq tb rfl ?_
  refine ao_stl (st' := [(ro 0 47 2 (eBlockD 3 47 98) (Sh.put (Sh.put l6 i5 (Block.mk q17.2 c16.result)) i5 (Block.mk c20.steps q17.1))), ⟨1, 98, 5, []⟩]) (u' := (Block.mk c20.steps q17.1)) go0 ti3 rfl rfl gc20 rfl rfl rfl (show 1 + 1 ≤ 2 by decide) rfl rfl ?_
  refine dn hK19 rfl ?_
  refine AW.regionO (by rfl) ?_
  refine zm tb 3 rfl ?_
  refine dn hK14 rfl ?_
  refine AW.regionO (by rfl) ?_
  refine zm tb 3 rfl ?_
  exact AO.done (xi (Sh.w (q17.1 + 1), Sh.w (i5 + 1), Sh.put (Sh.put l6 i5 (Block.mk q17.2 c16.result)) i5 (Block.mk c20.steps q17.1)) h1 (by refine Wk.trans (Wk.permk (L := [(0, (.own 0 0 (List.length l6))), (1, (i64 (Sh.w (q17.1 + 1)))), (5, (i64 (Sh.w (i5 + 1))))]) (st' := [⟨0, 47, 2, List.map (eBlockD 3 47 98) (Sh.put (Sh.put l6 i5 (Block.mk q17.2 c16.result)) i5 (Block.mk c20.steps q17.1))⟩]) (st1 := [⟨0, 47, 2, List.map (eBlockD 3 47 98) (Sh.put (Sh.put l6 i5 (Block.mk q17.2 c16.result)) i5 (Block.mk c20.steps q17.1))⟩]) [0] rfl (.deep (pure_mapD fun _ => rfl) .nil) (by decide) rfl rfl (.deep (pure_mapD fun _ => rfl) .nil) ⟨.rfl, .rfl, .rfl, trivial⟩) ?_; exact Wk.to (L := [(0, (.own 0 0 (List.length (Sh.put (Sh.put l6 i5 (Block.mk q17.2 c16.result)) i5 (Block.mk c20.steps q17.1))))), (1, (i64 (Sh.w (q17.1 + 1)))), (5, (i64 (Sh.w (i5 + 1))))]) ⟨(.len (by first | (simp only [Sh.put_len]; done) | (simp only [Sh.put_len]; omega) | omega)), .rfl, .rfl, trivial⟩))
 ·intro b13 h1
  exact AW.exit (M9 k4 l6 (Sh.some_eq h1).symm _ (Wk.tr rfl))
theorem laws_markStepS_B_ok {N : Nat} {rec_laws_markStepS : (List Step) → Int → Option (Int × (List Step))} (hrec_laws_markStepS : ∀ {s0 : (List Step)} {p1 : Int} {r : Int × (List Step)}, rec_laws_markStepS s0 p1 = some r → ACalls Try.prog 64 [(ow 0 0 s0), (i64 p1)] [(ro 0 98 5 (eStepD 3 47 98) s0)] (fun v st => v = (i64 r.1) ∧ st = [(ro 0 98 5 (eStepD 3 47 98) r.2)])) {s0 : (List Step)} {p1 : Int} {r : Int × (List Step)} (h0 : laws_markStepS_B N rec_laws_markStepS s0 p1 = some r) : ACalls Try.prog 64 [(ow 0 0 s0), (i64 p1)] [(ro 0 98 5 (eStepD 3 47 98) s0)] (fun v st => v = (i64 r.1) ∧ st = [(ro 0 98 5 (eStepD 3 47 98) r.2)]) := by
 unfold laws_markStepS_B at h0
 refine ai Try.func64 rfl rfl rfl rfl ?_
 refine zr tb rfl rfl ?_
 refine AW.seq fun K2 hK2 => ?_
 refine zr tb rfl rfl ?_
 obtain ⟨o9, h1, h0⟩ := Sh.bind_some h0
 have M9 : ∀ (k7 : Int) (l8 : (List Step)), o9 = (k7, l8) → ∀ s, Wk 1 s ⟨48, envL [(1, (i64 k7))], [(ro 0 98 5 (eStepD 3 47 98) l8)]⟩ → K2 s := by
  intro k7 l8 hq s hw
  subst o9
  try dsimp only at h0
  refine hK2 _ (AW.weaken hw ?_)
  refine zr tb rfl rfl ?_
  replace h0 := Sh.some_eq h0
  subst r
  exact AW.ret (xr (Wk.to (L := [(4, (i64 k7))]) ⟨.rfl, trivial⟩))
 refine AW.block (AW.loopF (σ := Int × Int × (List Step)) (fun n v => laws_markStepS_B_L1 N rec_laws_markStepS n v.1 v.2.1 v.2.2 = some o9) (fun (k4, i5, l6) => ⟨48, envL [(0, (ow 0 0 l6)), (1, (i64 k4)), (5, (i64 i5))], [(ro 0 98 5 (eStepD 3 47 98) l6)]⟩) N (p1, 0, s0) h1 (Wk.tr rfl) (fun _ hv => by rw [laws_markStepS_B_L1] at hv; cases hv) ?_)
 rintro n ⟨k4, i5, l6⟩ h1
 try dsimp only at h1 ⊢
 rw [laws_markStepS_B_L1] at h1
 refine AW.seq fun K11 hK11 => ?_
 refine sr rfl fun K12 hK12 => ?_
 refine zm tb 2 rfl ?_
 refine zz (i64 (Sh.len l6)) (aq_leno sl45 rfl rfl rfl) rfl ?_
 refine zq tb rfl ?_
 refine dn hK12 rfl ?_
 refine ci h1 rfl ?_ ?_ <;> clear h1
 ·intro b13 h1
  refine AW.skip (hK11 _ ?_)
  refine AW.seq fun K14 hK14 => ?_
  refine AW.block ?_
  refine sr rfl fun K15 hK15 => ?_
  refine zm tb 3 rfl ?_
  obtain ⟨c16, gc16, h1⟩ := Sh.bind_some h1
  refine zz (.ptr 0 0 (Int.toNat i5) 0) (aq_ixo ei45 rfl rfl rfl rfl gc16) rfl ?_
  refine zq tb rfl ?_
  refine ao_stl (st' := [(ro 0 98 5 (eStepD 3 47 98) (Sh.put l6 i5 (Step.mk k4 c16.num c16.into c16.args c16.kids)))]) (u' := (Step.mk k4 c16.num c16.into c16.args c16.kids)) go0 ti3 rfl rfl gc16 rfl rfl rfl (show 0 + 1 ≤ 5 by decide) (by rw [eStepD_eq, eStepD_eq]; rfl) rfl ?_
  refine dn hK15 rfl ?_
  refine zr tb rfl rfl ?_
  refine sr rfl fun K18 hK18 => ?_
  refine zm tb 3 rfl ?_
  obtain ⟨c19, gc19, h1⟩ := Sh.bind_some h1
  refine zz (.ptr 0 0 (Int.toNat i5) 0) (aq_ixo ei45 rfl rfl rfl (by simp only [Sh.put_len]) gc19) rfl ?_
  refine zq tb rfl ?_
  refine ao_stl (st' := [(ro 0 98 5 (eStepD 3 47 98) (Sh.put (Sh.put l6 i5 (Step.mk k4 c16.num c16.into c16.args c16.kids)) i5 (Step.mk c19.op (Sh.w (k4 + 1)) c19.into c19.args c19.kids)))]) (u' := (Step.mk c19.op (Sh.w (k4 + 1)) c19.into c19.args c19.kids)) go0 ti3 rfl rfl gc19 rfl rfl rfl (show 1 + 1 ≤ 5 by decide) (by rw [eStepD_eq, eStepD_eq]; rfl) rfl ?_
  refine dn hK18 rfl ?_
  refine zr tb rfl rfl ?_
  refine sr rfl fun K21 hK21 => ?_
  refine zm tb 3 rfl ?_
  obtain ⟨c22, gc22, h1⟩ := Sh.bind_some h1
  refine zz (.ptr 0 0 (Int.toNat i5) 0) (aq_ixo ei45 rfl rfl rfl (by simp only [Sh.put_len]) gc22) rfl ?_
  refine zq tb rfl ?_
  refine ao_stl (st' := [(ro 0 98 5 (eStepD 3 47 98) (Sh.put (Sh.put (Sh.put l6 i5 (Step.mk k4 c16.num c16.into c16.args c16.kids)) i5 (Step.mk c19.op (Sh.w (k4 + 1)) c19.into c19.args c19.kids)) i5 (Step.mk c22.op c22.num (Sh.w ((Sh.w (k4 + 1)) + 1)) c22.args c22.kids)))]) (u' := (Step.mk c22.op c22.num (Sh.w ((Sh.w (k4 + 1)) + 1)) c22.args c22.kids)) go0 ti3 rfl rfl gc22 rfl rfl rfl (show 2 + 1 ≤ 5 by decide) (by rw [eStepD_eq, eStepD_eq]; rfl) rfl ?_
  refine dn hK21 rfl ?_
  refine zr tb rfl rfl ?_
  refine sr rfl fun K24 hK24 => ?_
  refine zm tb 2 rfl ?_
  obtain ⟨c25, gc25, h1⟩ := Sh.bind_some h1
  refine zz (.ptr 0 0 (Int.toNat i5) 0) (aq_ixo ei45 rfl rfl rfl (by simp only [Sh.put_len]) gc25) rfl ?_
  refine zq tb rfl ?_
  refine AO.weaken (Wk.expel (id := 0) (j := 3) (i := i5) (c := c25) (ys := c25.args) (encY := eI) (x := [(i64 c25.op), (i64 c25.num), (i64 c25.into), (.dv 3 1 (List.map eI c25.args)), (.dv 47 2 (List.map (eBlockD 3 47 98) c25.kids))]) (x' := [(i64 c25.op), (i64 c25.num), (i64 c25.into), (ow 1 0 c25.args), (.dv 47 2 (List.map (eBlockD 3 47 98) c25.kids))]) (st' := [⟨0, 98, 5, hole (Sh.put (Sh.put (Sh.put l6 i5 (Step.mk k4 c16.num c16.into c16.args c16.kids)) i5 (Step.mk c19.op (Sh.w (k4 + 1)) c19.into c19.args c19.kids)) i5 (Step.mk c22.op c22.num (Sh.w ((Sh.w (k4 + 1)) + 1)) c22.args c22.kids)) (eStepD 3 47 98) i5 [(i64 c25.op), (i64 c25.num), (i64 c25.into), (ow 1 0 c25.args), (.dv 47 2 (List.map (eBlockD 3 47 98) c25.kids))]⟩, (ro 0 3 1 eI c25.args)]) rfl gc25 (eStepD_eq _) rfl rfl rfl rfl) ?_
  refine zz (ow 1 0 c25.args) (aq_ldp ti23 rfl rfl (hole_get gc25) rfl) rfl ?_
  refine zq tb rfl ?_
  obtain ⟨q26, gq26, h1⟩ := Sh.bind_some h1
  refine ao_callsL (rowsP := [⟨0, 3, 1, List.map eI c25.args⟩]) (rows0 := [⟨0, 3, 1, List.map eI c25.args⟩]) (rows1 := [⟨0, 3, 1, List.map eI q26.2⟩]) (rows2 := []) (rows1' := [⟨0, 3, 1, List.map eI q26.2⟩]) (rows2' := []) (st' := [⟨0, 98, 5, hole (Sh.put (Sh.put (Sh.put l6 i5 (Step.mk k4 c16.num c16.into c16.args c16.kids)) i5 (Step.mk c19.op (Sh.w (k4 + 1)) c19.into c19.args c19.kids)) i5 (Step.mk c22.op c22.num (Sh.w ((Sh.w (k4 + 1)) + 1)) c22.args c22.kids)) (eStepD 3 47 98) i5 [(i64 c25.op), (i64 c25.num), (i64 c25.into), (.own 1 0 (List.length c25.args)), (.dv 47 2 (List.map (eBlockD 3 47 98) c25.kids))]⟩, ⟨0, 3, 1, List.map eI q26.2⟩]) (v' := (i64 q26.1)) [1] go0 hb17 (laws_markIntS_ok gq26) rfl (by decide) rfl rfl (.pure (pure_map fun _ => rfl) .nil) rfl rfl (.pure (pure_map fun _ => rfl) .nil) .nil rfl rfl (fun hln => ?_)
  have ln27 : List.length q26.2 = List.length c25.args := by simpa only [List.length_map] using hln 0 _ _ rfl rfl rfl
  refine AO.weaken (Wk.take (id := 0) (m := 1) (j := 3) (i := i5) (c := c25) (ys := q26.2) (encY := eI) (x' := [(i64 c25.op), (i64 c25.num), (i64 c25.into), (.dv 3 1 (List.map eI q26.2)), (.dv 47 2 (List.map (eBlockD 3 47 98) c25.kids))]) (st' := [⟨0, 98, 5, hole (Sh.put (Sh.put (Sh.put l6 i5 (Step.mk k4 c16.num c16.into c16.args c16.kids)) i5 (Step.mk c19.op (Sh.w (k4 + 1)) c19.into c19.args c19.kids)) i5 (Step.mk c22.op c22.num (Sh.w ((Sh.w (k4 + 1)) + 1)) c22.args c22.kids)) (eStepD 3 47 98) i5 [(i64 c25.op), (i64 c25.num), (i64 c25.into), (.dv 3 1 (List.map eI q26.2)), (.dv 47 2 (List.map (eBlockD 3 47 98) c25.kids))]⟩, ⟨1, 3, 1, []⟩]) rfl gc25 rfl rfl (by first | (simp only [Sh.put_len]; done) | (simp only [Sh.put_len]; omega) | omega) (by decide) (show 1 ≤ 1 by decide) (fun _ => rfl) rfl rfl) ?_
  refine AO.weaken (Wk.filled (id := 0) (i := i5) (u := (Step.mk c25.op c25.num c25.into q26.2 c25.kids)) (st' := [(ro 0 98 5 (eStepD 3 47 98) (Sh.put (Sh.put (Sh.put (Sh.put l6 i5 (Step.mk k4 c16.num c16.into c16.args c16.kids)) i5 (Step.mk c19.op (Sh.w (k4 + 1)) c19.into c19.args c19.kids)) i5 (Step.mk c22.op c22.num (Sh.w ((Sh.w (k4 + 1)) + 1)) c22.args c22.kids)) i5 (Step.mk c25.op c25.num c25.into q26.2 c25.kids))), ⟨1, 3, 1, []⟩]) rfl (eStepD_eq (Step.mk c25.op c25.num c25.into q26.2 c25.kids)).symm rfl) ?_
  refine zq tb rfl ?_
  refine dn hK24 rfl ?_
  refine AW.regionO (by rfl) ?_
  refine zm tb 2 rfl ?_
  obtain ⟨c28, gc28, h1⟩ := Sh.bind_some h1
  refine zz (.ptr 0 0 (Int.toNat i5) 0) (aq_ixo ei45 rfl rfl rfl (by first | (simp only [Sh.put_len]; done) | (simp only [Sh.put_len]; omega) | omega) gc28) rfl ?_
  refine zq tb rfl ?_
  refine AO.weaken (Wk.expel (id := 0) (j := 4) (i := i5) (c := c28) (ys := c28.kids) (encY := (eBlockD 3 47 98)) (x := [(i64 c28.op), (i64 c28.num), (i64 c28.into), (.dv 3 1 (List.map eI c28.args)), (.dv 47 2 (List.map (eBlockD 3 47 98) c28.kids))]) (x' := [(i64 c28.op), (i64 c28.num), (i64 c28.into), (.dv 3 1 (List.map eI c28.args)), (ow 2 0 c28.kids)]) (st' := [⟨0, 98, 5, hole (Sh.put (Sh.put (Sh.put (Sh.put l6 i5 (Step.mk k4 c16.num c16.into c16.args c16.kids)) i5 (Step.mk c19.op (Sh.w (k4 + 1)) c19.into c19.args c19.kids)) i5 (Step.mk c22.op c22.num (Sh.w ((Sh.w (k4 + 1)) + 1)) c22.args c22.kids)) i5 (Step.mk c25.op c25.num c25.into q26.2 c25.kids)) (eStepD 3 47 98) i5 [(i64 c28.op), (i64 c28.num), (i64 c28.into), (.dv 3 1 (List.map eI c28.args)), (ow 2 0 c28.kids)]⟩, ⟨1, 3, 1, []⟩, (ro 0 47 2 (eBlockD 3 47 98) c28.kids)]) rfl gc28 (eStepD_eq _) rfl rfl rfl rfl) ?_
  refine zz (ow 2 0 c28.kids) (aq_ldp ti96 rfl rfl (hole_get gc28) rfl) rfl ?_
  refine zq tb rfl ?_
  obtain ⟨q29, gq29, h1⟩ := Sh.bind_some h1
  refine ao_callsL (rowsP := [⟨0, 47, 2, List.map (eBlockD 3 47 98) c28.kids⟩]) (rows0 := [⟨0, 47, 2, List.map (eBlockD 3 47 98) c28.kids⟩]) (rows1 := [⟨0, 47, 2, List.map (eBlockD 3 47 98) q29.2⟩]) (rows2 := []) (rows1' := [⟨0, 47, 2, List.map (eBlockD 3 47 98) q29.2⟩]) (rows2' := []) (st' := [⟨0, 98, 5, hole (Sh.put (Sh.put (Sh.put (Sh.put l6 i5 (Step.mk k4 c16.num c16.into c16.args c16.kids)) i5 (Step.mk c19.op (Sh.w (k4 + 1)) c19.into c19.args c19.kids)) i5 (Step.mk c22.op c22.num (Sh.w ((Sh.w (k4 + 1)) + 1)) c22.args c22.kids)) i5 (Step.mk c25.op c25.num c25.into q26.2 c25.kids)) (eStepD 3 47 98) i5 [(i64 c28.op), (i64 c28.num), (i64 c28.into), (.dv 3 1 (List.map eI c28.args)), (.own 2 0 (List.length c28.kids))]⟩, ⟨1, 3, 1, []⟩, ⟨0, 47, 2, List.map (eBlockD 3 47 98) q29.2⟩]) (v' := (i64 q29.1)) [2] go0 hb91 (laws_markBlockS_ok hrec_laws_markStepS gq29) rfl (by decide) rfl rfl (.deep (pure_mapD fun _ => rfl) .nil) rfl rfl (.deep (pure_mapD fun _ => rfl) .nil) .nil rfl rfl (fun hln => ?_)
  have ln30 : List.length q29.2 = List.length c28.kids := by simpa only [List.length_map] using hln 0 _ _ rfl rfl rfl
  refine AO.weaken (Wk.take (id := 0) (m := 2) (j := 4) (i := i5) (c := c28) (ys := q29.2) (encY := (eBlockD 3 47 98)) (x' := [(i64 c28.op), (i64 c28.num), (i64 c28.into), (.dv 3 1 (List.map eI c28.args)), (.dv 47 2 (List.map (eBlockD 3 47 98) q29.2))]) (st' := [⟨0, 98, 5, hole (Sh.put (Sh.put (Sh.put (Sh.put l6 i5 (Step.mk k4 c16.num c16.into c16.args c16.kids)) i5 (Step.mk c19.op (Sh.w (k4 + 1)) c19.into c19.args c19.kids)) i5 (Step.mk c22.op c22.num (Sh.w ((Sh.w (k4 + 1)) + 1)) c22.args c22.kids)) i5 (Step.mk c25.op c25.num c25.into q26.2 c25.kids)) (eStepD 3 47 98) i5 [(i64 c28.op), (i64 c28.num), (i64 c28.into), (.dv 3 1 (List.map eI c28.args)), (.dv 47 2 (List.map (eBlockD 3 47 98) q29.2))]⟩, ⟨1, 3, 1, []⟩, ⟨1, 47, 2, []⟩]) rfl gc28 rfl rfl (by first | (simp only [Sh.put_len]; done) | (simp only [Sh.put_len]; omega) | omega) (by decide) (show 1 ≤ 2 by decide) (fun _ => rfl) rfl rfl) ?_
  refine AO.weaken (Wk.filled (id := 0) (i := i5) (u := (Step.mk c28.op c28.num c28.into c28.args q29.2)) (st' := [(ro 0 98 5 (eStepD 3 47 98) (Sh.put (Sh.put (Sh.put (Sh.put (Sh.put l6 i5 (Step.mk k4 c16.num c16.into c16.args c16.kids)) i5 (Step.mk c19.op (Sh.w (k4 + 1)) c19.into c19.args c19.kids)) i5 (Step.mk c22.op c22.num (Sh.w ((Sh.w (k4 + 1)) + 1)) c22.args c22.kids)) i5 (Step.mk c25.op c25.num c25.into q26.2 c25.kids)) i5 (Step.mk c28.op c28.num c28.into c28.args q29.2))), ⟨1, 3, 1, []⟩, ⟨1, 47, 2, []⟩]) rfl (eStepD_eq (Step.mk c28.op c28.num c28.into c28.args q29.2)).symm rfl) ?_
  refine zq tb rfl ?_
  refine dn hK14 rfl ?_
  refine AW.regionO (by rfl) ?_
  refine zm tb 3 rfl ?_
  exact AO.done (xi (q29.1, Sh.w (i5 + 1), Sh.put (Sh.put (Sh.put (Sh.put (Sh.put l6 i5 (Step.mk k4 c16.num c16.into c16.args c16.kids)) i5 (Step.mk c19.op (Sh.w (k4 + 1)) c19.into c19.args c19.kids)) i5 (Step.mk c22.op c22.num (Sh.w ((Sh.w (k4 + 1)) + 1)) c22.args c22.kids)) i5 (Step.mk c25.op c25.num c25.into q26.2 c25.kids)) i5 (Step.mk c28.op c28.num c28.into c28.args q29.2)) h1 (by refine Wk.trans (Wk.permk (L := [(0, (.own 0 0 (List.length l6))), (1, (i64 q29.1)), (5, (i64 (Sh.w (i5 + 1))))]) (st' := [⟨0, 98, 5, List.map (eStepD 3 47 98) (Sh.put (Sh.put (Sh.put (Sh.put (Sh.put l6 i5 (Step.mk k4 c16.num c16.into c16.args c16.kids)) i5 (Step.mk c19.op (Sh.w (k4 + 1)) c19.into c19.args c19.kids)) i5 (Step.mk c22.op c22.num (Sh.w ((Sh.w (k4 + 1)) + 1)) c22.args c22.kids)) i5 (Step.mk c25.op c25.num c25.into q26.2 c25.kids)) i5 (Step.mk c28.op c28.num c28.into c28.args q29.2))⟩]) (st1 := [⟨0, 98, 5, List.map (eStepD 3 47 98) (Sh.put (Sh.put (Sh.put (Sh.put (Sh.put l6 i5 (Step.mk k4 c16.num c16.into c16.args c16.kids)) i5 (Step.mk c19.op (Sh.w (k4 + 1)) c19.into c19.args c19.kids)) i5 (Step.mk c22.op c22.num (Sh.w ((Sh.w (k4 + 1)) + 1)) c22.args c22.kids)) i5 (Step.mk c25.op c25.num c25.into q26.2 c25.kids)) i5 (Step.mk c28.op c28.num c28.into c28.args q29.2))⟩]) [0] rfl (.deep (pure_mapD eStepD_pure) .nil) (by decide) rfl rfl (.deep (pure_mapD eStepD_pure) .nil) ⟨.rfl, .rfl, .rfl, trivial⟩) ?_; exact Wk.to (L := [(0, (.own 0 0 (List.length (Sh.put (Sh.put (Sh.put (Sh.put (Sh.put l6 i5 (Step.mk k4 c16.num c16.into c16.args c16.kids)) i5 (Step.mk c19.op (Sh.w (k4 + 1)) c19.into c19.args c19.kids)) i5 (Step.mk c22.op c22.num (Sh.w ((Sh.w (k4 + 1)) + 1)) c22.args c22.kids)) i5 (Step.mk c25.op c25.num c25.into q26.2 c25.kids)) i5 (Step.mk c28.op c28.num c28.into c28.args q29.2))))), (1, (i64 q29.1)), (5, (i64 (Sh.w (i5 + 1))))]) ⟨(.len (by first | (simp only [Sh.put_len]; done) | (simp only [Sh.put_len]; omega) | omega)), .rfl, .rfl, trivial⟩))
 ·intro b13 h1
  exact AW.exit (M9 k4 l6 (Sh.some_eq h1).symm _ (Wk.tr rfl))

theorem laws_markStepS_F_ok {N : Nat} : ∀ (n : Nat), ∀ {s0 : (List Step)} {p1 : Int} {r : Int × (List Step)}, laws_markStepS_F N n s0 p1 = some r → ACalls Try.prog 64 [(ow 0 0 s0), (i64 p1)] [(ro 0 98 5 (eStepD 3 47 98) s0)] (fun v st => v = (i64 r.1) ∧ st = [(ro 0 98 5 (eStepD 3 47 98) r.2)]) := by
 intro n
 induction n with
 | zero => intro s0 p1 r h0; cases h0
 | succ n ih =>
  intro s0 p1 r h0
  rw [laws_markStepS_F] at h0
  exact laws_markStepS_B_ok (fun h => ih h) h0
theorem laws_markStepS_ok {N : Nat} : ∀ {s0 : (List Step)} {p1 : Int} {r : Int × (List Step)}, laws_markStepS N s0 p1 = some r → ACalls Try.prog 64 [(ow 0 0 s0), (i64 p1)] [(ro 0 98 5 (eStepD 3 47 98) s0)] (fun v st => v = (i64 r.1) ∧ st = [(ro 0 98 5 (eStepD 3 47 98) r.2)]) := by
 intro s0 p1 r h0
 exact laws_markStepS_F_ok N h0
theorem laws_markBlock_ok {N : Nat} {s0 : (List Step)} {p0_1 : Int} {p1 : Int} {r : Int × (List Step)} (h0 : laws_markBlock N s0 p0_1 p1 = some r) : ACalls Try.prog 31 [(.agg [(ow 0 0 s0), (i64 p0_1)]), (i64 p1)] [(ro 0 98 5 (eStepD 3 47 98) s0)] (fun v st => v = (i64 r.1) ∧ st = [(ro 0 98 5 (eStepD 3 47 98) r.2)]) := by
 unfold laws_markBlock at h0
 refine ai Try.func31 rfl rfl rfl rfl ?_
 refine sr rfl fun K1 hK1 => ?_
 refine ao_box (m := 1) (st' := [(ro 0 98 5 (eStepD 3 47 98) s0), ⟨0, 47, 2, [[(ow 0 0 s0), (i64 p0_1)]]⟩]) go0 rfl rfl rfl rfl rfl ?_
 refine zq tb rfl ?_
 refine dn hK1 rfl ?_
 refine sr rfl fun K2 hK2 => ?_
 refine zm tb 3 rfl ?_
 obtain ⟨q3, gq3, h0⟩ := Sh.bind_some h0
 refine ao_callsL (rowsP := [⟨0, 98, 5, List.map (eStepD 3 47 98) s0⟩]) (rows0 := [⟨0, 98, 5, List.map (eStepD 3 47 98) s0⟩]) (rows1 := [⟨0, 98, 5, List.map (eStepD 3 47 98) q3.2⟩]) (rows2 := []) (rows1' := [⟨0, 98, 5, List.map (eStepD 3 47 98) q3.2⟩]) (rows2' := []) (st' := [⟨0, 98, 5, List.map (eStepD 3 47 98) q3.2⟩, ⟨0, 47, 2, [[(.own 0 0 (List.length s0)), (i64 p0_1)]]⟩]) (v' := (i64 q3.1)) [0] go0 hb64 (laws_markStepS_ok gq3) rfl (by decide) rfl rfl (.deep (pure_mapD eStepD_pure) .nil) rfl rfl (.deep (pure_mapD eStepD_pure) .nil) .nil rfl rfl (fun hln => ?_)
 have ln4 : List.length q3.2 = List.length s0 := by simpa only [List.length_map] using hln 0 _ _ rfl rfl rfl
 refine zq tb rfl ?_
 refine dn hK2 rfl ?_
 refine zr tb rfl rfl ?_
 replace h0 := Sh.some_eq h0
 subst r
 exact AW.ret (Exists.intro _ (And.intro (((Wk.steq (st := [⟨0, 98, 5, List.map (eStepD 3 47 98) q3.2⟩, ⟨0, 47, 2, [[(.own 0 0 (List.length s0)), (i64 p0_1)]]⟩]) (st' := [⟨0, 98, 5, List.map (eStepD 3 47 98) q3.2⟩, ⟨0, 47, 2, [[(.own 0 0 (List.length q3.2)), (i64 p0_1)]]⟩]) (by first | (simp only [Sh.put_len]; done) | simp only [Sh.put_len, ln4] | simp only [ln4])).trans (Wk.permk (L := [(4, (i64 q3.1))]) (st' := [⟨0, 98, 5, List.map (eStepD 3 47 98) q3.2⟩]) (st1 := [⟨0, 98, 5, List.map (eStepD 3 47 98) q3.2⟩]) [0] rfl (.deep (pure_mapD eStepD_pure) .nil) (by decide) rfl rfl (.deep (pure_mapD eStepD_pure) .nil) ⟨.rfl, trivial⟩)).trans (Wk.to (L := [(4, (i64 q3.1))]) ⟨.rfl, trivial⟩)) (And.intro rfl rfl)))
theorem laws_heldIntS_ok {N : Nat} {p0 : (List Int)} {p1 : Int} {r : Int} (h0 : laws_heldIntS N p0 p1 = some r) : ACalls Try.prog 18 [(ls eI p0), (i64 p1)] [] (fun v st => v = (i64 r) ∧ st = []) := by
 unfold laws_heldIntS at h0
 refine ai Try.func18 rfl rfl rfl rfl ?_
 refine zr tb rfl rfl ?_
 refine AW.seq fun K2 hK2 => ?_
 refine zr tb rfl rfl ?_
 obtain ⟨o7, h1, h0⟩ := Sh.cont_some h0
 have M7 : ∀ (k6 : Int), o7 = Sum.inr k6 → ∀ s, Wk 0 s ⟨21, envL [(1, (i64 k6))], []⟩ → K2 s := by
  intro k6 hq s hw
  subst o7
  try dsimp only at h0
  refine hK2 _ (AW.weaken hw ?_)
  refine zr tb rfl rfl ?_
  replace h0 := Sh.some_eq h0
  subst r
  exact AW.ret (xr (Wk.to (L := [(4, (i64 k6))]) ⟨.rfl, trivial⟩))
 refine AW.block (AW.loopF (σ := Int × Int) (fun n v => laws_heldIntS_L1 p0 n v.1 v.2 = some o7) (fun (k4, i5) => ⟨21, envL [(0, (ls eI p0)), (1, (i64 k4)), (5, (i64 i5))], []⟩) N (p1, 0) h1 (Wk.tr rfl) (fun _ hv => by rw [laws_heldIntS_L1] at hv; cases hv) ?_)
 rintro n ⟨k4, i5⟩ h1
 try dsimp only at h1 ⊢
 rw [laws_heldIntS_L1] at h1
 refine AW.seq fun K9 hK9 => ?_
 refine sr rfl fun K10 hK10 => ?_
 refine zm tb 2 rfl ?_
 refine zl tb rfl rfl ?_
 refine zq tb rfl ?_
 refine dn hK10 rfl ?_
 refine ci h1 rfl ?_ ?_ <;> clear h1
 ·intro b11 h1
  refine AW.skip (hK9 _ ?_)
  refine AW.seq fun K12 hK12 => ?_
  refine AW.block ?_
  refine AW.seq fun K13 hK13 => ?_
  refine sr rfl fun K14 hK14 => ?_
  refine zm tb 2 rfl ?_
  obtain ⟨c15, gc15, h1⟩ := Sh.bind_some h1
  refine zx ei23 gc15 rfl rfl rfl ?_
  refine zm tb 3 rfl ?_
  refine dn hK14 rfl ?_
  refine ci h1 rfl ?_ ?_ <;> clear h1
  ·intro b16 h1
   have b17 : decide (c15 = k4) = false := by simpa using b16
   refine zr tb rfl rfl ?_
   replace h1 := Sh.some_eq h1
   subst o7
   try dsimp only [id] at h0
   replace h0 := Sh.some_eq h0
   subst r
   exact AW.ret (xr (Wk.to (L := [(4, (i64 (-1)))]) ⟨.rfl, trivial⟩))
  ·intro b16 h1
   have b19 : decide (c15 = k4) = true := by simpa using b16
   refine AW.skip (hK13 _ ?_)
   refine AW.regionO (by rfl) ?_
   refine zm tb 3 rfl ?_
   refine dn hK12 rfl ?_
   refine AW.regionO (by rfl) ?_
   refine zm tb 3 rfl ?_
   exact AO.done (xi (Sh.w (k4 + 1), Sh.w (i5 + 1)) h1 (Wk.tr rfl))
 ·intro b11 h1
  exact AW.exit (M7 k4 (Sh.some_eq h1).symm _ (Wk.tr rfl))
theorem laws_FnExactUsedIn_ok {N : Nat} {p0 : Block} {p1 : Int} {r : Bool} (h0 : laws_FnExactUsedIn N p0 p1 = some r) : ACalls Try.prog 8 [(.agg [(ls eStep p0.steps), (i64 p0.result)]), (i64 p1)] [] (fun v st => v = (.bool r) ∧ st = []) := by
 unfold laws_FnExactUsedIn at h0
 refine ai Try.func8 rfl rfl rfl rfl ?_
 refine sr rfl fun K1 hK1 => ?_
 refine ao_box (m := 0) (st' := [⟨0, 42, 2, [[(ls eStep p0.steps), (i64 p0.result)]]⟩]) go0 rfl rfl rfl rfl rfl ?_
 refine zq tb rfl ?_
 refine dn hK1 rfl ?_
 refine zr tb rfl rfl ?_
 refine sr rfl fun K3 hK3 => ?_
 refine zm tb 2 rfl ?_
 obtain ⟨q4, gq4, h0⟩ := Sh.bind_some h0
 refine zc hb26 (laws_szBlock_ok gq4) rfl rfl rfl ?_
 refine zq tb rfl ?_
 refine dn hK3 rfl ?_
 refine AW.seq fun K5 hK5 => ?_
 refine zr tb rfl rfl ?_
 refine ci h0 rfl ?_ ?_ <;> clear h0
 ·intro b7 h0
  refine zr tb rfl rfl ?_
  replace h0 := Sh.some_eq h0
  subst r
  exact AW.ret (xr (Wk.d0 [(4, (.bool true))] rfl))
 ·intro b7 h0
  refine AW.skip (hK5 _ ?_)
  refine sr rfl fun K9 hK9 => ?_
  refine zq tb rfl ?_
  obtain ⟨q10, gq10, h0⟩ := Sh.bind_some h0
  refine zc (v' := (.agg [(ls eStep q10.steps), (i64 q10.result)])) hb28 (laws_toBlock_ok gq10) rfl rfl rfl ?_
  refine zq tb rfl ?_
  obtain ⟨q11, gq11, h0⟩ := Sh.bind_some h0
  refine zc hb32 (spec_UsedIn_ok gq11) rfl rfl rfl ?_
  refine zq tb rfl ?_
  refine dn hK9 rfl ?_
  refine sr rfl fun K12 hK12 => ?_
  refine zq tb rfl ?_
  obtain ⟨q13, gq13, h0⟩ := Sh.bind_some h0
  refine ao_call (v' := (.agg [(ow 1 0 q13.steps), (i64 q13.result)])) (st' := [⟨0, 42, 2, [[(ls eStep p0.steps), (i64 p0.result)]]⟩, (ro 0 98 5 (eStepD 3 47 98) q13.steps)]) go0 hb28 (laws_toBlock_2_ok gq13) rfl rfl ⟨(pure_mapD eStepD_pure), trivial⟩ rfl rfl ?_
  refine ao_alloc (m := 2) (st' := [⟨0, 42, 2, [[(ls eStep p0.steps), (i64 p0.result)]]⟩, (ro 0 98 5 (eStepD 3 47 98) q13.steps), ⟨0, 47, 2, [[.zc, (i64 0)]]⟩]) go0 zi47 rfl rfl ?_
  refine ao_str (st' := [⟨0, 42, 2, [[(ls eStep p0.steps), (i64 p0.result)]]⟩, (ro 0 98 5 (eStepD 3 47 98) q13.steps), ⟨0, 47, 2, [[(ow 1 0 q13.steps), (i64 q13.result)]]⟩]) go0 ti47 rfl rfl rfl rfl rfl rfl (show 0 + 2 ≤ 2 by decide) rfl ?_
  refine dn hK12 rfl ?_
  refine sr rfl fun K14 hK14 => ?_
  refine zm tb 2 rfl ?_
  obtain ⟨q15, gq15, h0⟩ := Sh.bind_some h0
  refine ao_callb (v' := (ow 3 0 q15)) (st' := [⟨0, 42, 2, [[(ls eStep p0.steps), (i64 p0.result)]]⟩, (ro 0 98 5 (eStepD 3 47 98) q13.steps), ⟨0, 47, 2, [[(ow 1 0 q13.steps), (i64 q13.result)]]⟩, (ro 0 3 1 eI q15)]) go0 hb33 (impl_UsedIn_ok gq15) rfl (.agg (.ownD rfl rfl eStepD_pure (fun x => eStepD_und x) (.val rfl .nil)) (.val rfl .nil)) rfl (srow (fun _ => rfl) trivial) rfl rfl ?_
  refine zq tb rfl ?_
  refine dn hK14 rfl ?_
  refine AW.seq fun K16 hK16 => ?_
  refine sr rfl fun K17 hK17 => ?_
  refine zm tb 2 rfl ?_
  obtain ⟨q18, gq18, h0⟩ := Sh.bind_some h0
  refine ao_callb (v' := (.bool q18)) (st' := [⟨0, 42, 2, [[(ls eStep p0.steps), (i64 p0.result)]]⟩, (ro 0 98 5 (eStepD 3 47 98) q13.steps), ⟨0, 47, 2, [[(ow 1 0 q13.steps), (i64 q13.result)]]⟩, (ro 0 3 1 eI q15)]) go0 hb14 (laws_eqIntS_ok gq18) rfl (.own rfl rfl (fun _ => rfl) (.val rfl .nil)) rfl trivial rfl rfl ?_
  refine zq tb rfl ?_
  refine dn hK17 rfl ?_
  refine ci h0 rfl ?_ ?_ <;> clear h0
  ·intro b19 h0
   have b20 : q18 = false := by simpa using b19
   refine zr tb rfl rfl ?_
   replace h0 := Sh.some_eq h0
   subst r
   exact AW.ret (xr (Wk.d0 [(4, (.bool false))] rfl))
  ·intro b19 h0
   have b22 : q18 = true := by simpa using b19
   refine AW.skip (hK16 _ ?_)
   refine AW.seq fun K23 hK23 => ?_
   refine AW.seq fun K24 hK24 => ?_
   refine AW.draw (by kernel_rfl) (by kernel_rfl) (by rfl) ?_
   iterate 2 refine yq tb rfl ?_
   obtain ⟨q25, gq25, h0⟩ := Sh.bind_some h0
   refine d_call (v := (.agg [(ls eStep q25.steps), (i64 q25.result)])) go0 hb28 (laws_toBlock_ok gq25) rfl rfl rfl ?_
   obtain ⟨q26, gq26, h0⟩ := Sh.bind_some h0
   refine d_callb (v' := (.bool q26)) go0 hb30 (laws_eqBlock_ok gq26) rfl (.agg (.ownD rfl rfl eStepD_pure (fun x => eStepD_und x) (.val rfl .nil)) (.val rfl .nil)) rfl rfl ?_
   refine yq tb rfl ?_
   refine d_done (hK24 _ ?_)
   refine ci h0 rfl ?_ ?_ <;> clear h0
   ·intro b27 h0
    have b28 : q26 = false := by simpa using b27
    refine zr tb rfl rfl ?_
    replace h0 := Sh.some_eq h0
    subst r
    exact AW.ret (xr (Wk.d0 [(4, (.bool false))] rfl))
   ·intro b27 h0
    have b30 : q26 = true := by simpa using b27
    refine AW.skip (hK23 _ ?_)
    refine zr tb rfl rfl ?_
    refine sr rfl fun K32 hK32 => ?_
    refine zm tb 2 rfl ?_
    obtain ⟨q33, gq33, h0⟩ := Sh.bind_some h0
    refine ao_callsL (rowsP := [⟨0, 98, 5, List.map (eStepD 3 47 98) q13.steps⟩]) (rows0 := [⟨0, 98, 5, List.map (eStepD 3 47 98) q13.steps⟩]) (rows1 := [⟨0, 98, 5, List.map (eStepD 3 47 98) q33.2⟩]) (rows2 := []) (rows1' := [⟨0, 98, 5, List.map (eStepD 3 47 98) q33.2⟩]) (rows2' := []) (st' := [⟨0, 42, 2, [[(.sl (List.map eStep p0.steps)), (i64 p0.result)]]⟩, ⟨0, 98, 5, List.map (eStepD 3 47 98) q33.2⟩, ⟨0, 47, 2, [[(.own 1 0 (List.length q13.steps)), (i64 q13.result)]]⟩, ⟨0, 3, 1, List.map eI q15⟩]) (v' := (i64 q33.1)) [1] go0 hb31 (laws_markBlock_ok gq33) rfl (by decide) rfl rfl (.deep (pure_mapD eStepD_pure) .nil) rfl rfl (.deep (pure_mapD eStepD_pure) .nil) .nil rfl rfl (fun hln => ?_)
    have ln34 : List.length q33.2 = List.length q13.steps := by simpa only [List.length_map] using hln 0 _ _ rfl rfl rfl
    refine zq tb rfl ?_
    refine dn hK32 rfl ?_
    refine AW.seq fun K35 hK35 => ?_
    refine AW.seq fun K36 hK36 => ?_
    obtain ⟨o38, h1, h0⟩ := Sh.bind_some h0
    have M38 : ∀ (t37 : Bool), o38 = t37 → ∀ s, Wk 0 s ⟨74, envL [(1, (i64 p1)), (2, (.ptr 0 0 0 0)), (6, (ls eI q11)), (8, (ow 1 0 q15)), (46, (.bool t37))], [⟨0, 42, 2, [[(ls eStep p0.steps), (i64 p0.result)]]⟩, (ro 0 3 1 eI q15)]⟩ → K36 s := by
     intro t37 hq s hw
     subst o38
     try dsimp only at h0
     refine hK36 _ (AW.weaken hw ?_)
     refine ci h0 rfl ?_ ?_ <;> clear h0
     ·intro b39 h0
      refine zr tb rfl rfl ?_
      replace h0 := Sh.some_eq h0
      subst r
      exact AW.ret (xr (Wk.d0 [(4, (.bool false))] rfl))
     ·intro b39 h0
      refine AW.skip (hK35 _ ?_)
      refine zr tb rfl rfl ?_
      refine sr rfl fun K42 hK42 => ?_
      refine zm tb 2 rfl ?_
      obtain ⟨q43, gq43, h0⟩ := Sh.bind_some h0
      refine ao_callsL (rowsP := [⟨0, 3, 1, List.map eI q15⟩]) (rows0 := [⟨0, 3, 1, List.map eI q15⟩]) (rows1 := [⟨0, 3, 1, List.map eI q43.2⟩]) (rows2 := []) (rows1' := [⟨0, 3, 1, List.map eI q43.2⟩]) (rows2' := []) (st' := [⟨0, 42, 2, [[(.sl (List.map eStep p0.steps)), (i64 p0.result)]]⟩, ⟨0, 3, 1, List.map eI q43.2⟩]) (v' := (i64 q43.1)) [1] go0 hb17 (laws_markIntS_ok gq43) rfl (by decide) rfl rfl (.pure (pure_map fun _ => rfl) .nil) rfl rfl (.pure (pure_map fun _ => rfl) .nil) .nil rfl rfl (fun hln => ?_)
      have ln44 : List.length q43.2 = List.length q15 := by simpa only [List.length_map] using hln 0 _ _ rfl rfl rfl
      refine zq tb rfl ?_
      refine dn hK42 rfl ?_
      refine zr tb rfl rfl ?_
      refine sr rfl fun K46 hK46 => ?_
      refine zm tb 2 rfl ?_
      obtain ⟨q47, gq47, h0⟩ := Sh.bind_some h0
      refine ao_callb (v' := (i64 q47)) (st' := [⟨0, 42, 2, [[(.sl (List.map eStep p0.steps)), (i64 p0.result)]]⟩, ⟨0, 3, 1, List.map eI q43.2⟩]) go0 hb18 (laws_heldIntS_ok gq47) rfl (.own rfl (by first | (simp only [Sh.put_len]; done) | (simp only [Sh.put_len]; omega) | omega) (fun _ => rfl) (.val rfl .nil)) rfl trivial rfl rfl ?_
      refine zq tb rfl ?_
      refine dn hK46 rfl ?_
      refine AW.seq fun K48 hK48 => ?_
      refine zr tb rfl rfl ?_
      refine ci h0 rfl ?_ ?_ <;> clear h0
      ·intro b50 h0
       refine zr tb rfl rfl ?_
       replace h0 := Sh.some_eq h0
       subst r
       exact AW.ret (xr (Wk.d0 [(4, (.bool false))] rfl))
      ·intro b50 h0
       refine AW.skip (hK48 _ ?_)
       refine AW.seq fun K52 hK52 => ?_
       refine zr tb rfl rfl ?_
       refine ci h0 rfl ?_ ?_ <;> clear h0
       ·intro b54 h0
        have b55 : decide (q47 = q43.1) = false := by simpa using b54
        refine zr tb rfl rfl ?_
        replace h0 := Sh.some_eq h0
        subst r
        exact AW.ret (xr (Wk.d0 [(4, (.bool false))] rfl))
       ·intro b54 h0
        have b57 : decide (q47 = q43.1) = true := by simpa using b54
        refine AW.skip (hK52 _ ?_)
        refine sr rfl fun K58 hK58 => ?_
        refine zq tb rfl ?_
        obtain ⟨q59, gq59, h0⟩ := Sh.bind_some h0
        refine zc (v' := (.agg [(ls eStep q59.steps), (i64 q59.result)])) hb28 (laws_toBlock_ok gq59) rfl rfl rfl ?_
        refine zq tb rfl ?_
        obtain ⟨q60, gq60, h0⟩ := Sh.bind_some h0
        refine ao_call (v' := (ow 2 0 q60)) (st' := [⟨0, 42, 2, [[(ls eStep p0.steps), (i64 p0.result)]]⟩, (ro 0 3 1 eI q43.2), (ro 0 3 1 eI q60)]) go0 hb33 (impl_UsedIn_ok gq60) rfl rfl ⟨(pure_map' fun _ => rfl), trivial⟩ rfl rfl ?_
        refine zq tb rfl ?_
        refine dn hK58 rfl ?_
        refine AW.seq fun K61 hK61 => ?_
        refine sr rfl fun K62 hK62 => ?_
        refine zm tb 2 rfl ?_
        refine AO.weaken (Wk.frz (L := [(8, (ow 1 0 q15)), (10, (i64 q43.1)), (62, (ls eI q60)), (63, (ls eI q11))]) (st' := [⟨0, 42, 2, [[(ls eStep p0.steps), (i64 p0.result)]]⟩, (ro 0 3 1 eI q43.2), ⟨1, 3, 1, []⟩]) (id := 2) rfl (show 0 ≤ 2 by decide) (pure_map fun _ => rfl) ⟨.rfl, .rfl, (.frz rfl), .rfl, trivial⟩ rfl) ?_
        obtain ⟨q63, gq63, h0⟩ := Sh.bind_some h0
        refine zc hb14 (laws_eqIntS_ok gq63) rfl rfl rfl ?_
        refine zq tb rfl ?_
        refine dn hK62 rfl ?_
        refine ci h0 rfl ?_ ?_ <;> clear h0
        ·intro b64 h0
         have b65 : q63 = false := by simpa using b64
         refine zr tb rfl rfl ?_
         replace h0 := Sh.some_eq h0
         subst r
         exact AW.ret (xr (Wk.d0 [(4, (.bool false))] rfl))
        ·intro b64 h0
         have b67 : q63 = true := by simpa using b64
         refine AW.skip (hK61 _ ?_)
         refine zr tb rfl rfl ?_
         refine sr rfl fun K69 hK69 => ?_
         refine zm tb 2 rfl ?_
         refine AO.weaken (Wk.frz (L := [(10, (i64 q43.1)), (66, (.sl (List.map eI q43.2))), (67, (i64 1))]) (st' := [⟨0, 42, 2, [[(.sl (List.map eStep p0.steps)), (i64 p0.result)]]⟩, ⟨1, 3, 1, []⟩, ⟨1, 3, 1, []⟩]) (id := 1) rfl (show 0 ≤ 1 by decide) (pure_map fun _ => rfl) ⟨.rfl, (.frz (by first | (simp only [Sh.put_len]; done) | (simp only [Sh.put_len]; omega) | omega)), .rfl, trivial⟩ rfl) ?_
         obtain ⟨q70, gq70, h0⟩ := Sh.bind_some h0
         refine zc hb18 (laws_heldIntS_ok gq70) rfl rfl rfl ?_
         refine zq tb rfl ?_
         refine dn hK69 rfl ?_
         refine AW.seq fun K71 hK71 => ?_
         refine zr tb rfl rfl ?_
         refine ci h0 rfl ?_ ?_ <;> clear h0
         ·intro b73 h0
          refine zr tb rfl rfl ?_
          replace h0 := Sh.some_eq h0
          subst r
          exact AW.ret (xr (Wk.d0 [(4, (.bool false))] rfl))
         ·intro b73 h0
          refine AW.skip (hK71 _ ?_)
          refine AW.seq fun K75 hK75 => ?_
          refine zr tb rfl rfl ?_
          refine ci h0 rfl ?_ ?_ <;> clear h0
          ·intro b77 h0
           have b78 : decide (q70 = q43.1) = false := by simpa using b77
           refine zr tb rfl rfl ?_
           replace h0 := Sh.some_eq h0
           subst r
           exact AW.ret (xr (Wk.d0 [(4, (.bool false))] rfl))
          ·intro b77 h0
           have b80 : decide (q70 = q43.1) = true := by simpa using b77
           refine AW.skip (hK75 _ ?_)
           refine zr tb rfl rfl ?_
           replace h0 := Sh.some_eq h0
           subst r
           exact AW.ret (xr (Wk.d0 [(4, (.bool true))] rfl))
    refine AW.regionO (by rfl) ?_
    refine zm tb 3 rfl ?_
    rcases Sh.ite_some h1 with ⟨b82, h1⟩ | ⟨b82, h1⟩
    ·refine zs b82 rfl ?_
     iterate 3 refine zs b82 rfl ?_
     refine zt b82 rfl ?_
     exact AO.done (M38 true (Sh.some_eq h1).symm _ (by refine Wk.trans (Wk.steq (st := [⟨0, 42, 2, [[(.sl (List.map eStep p0.steps)), (i64 p0.result)]]⟩, ⟨0, 98, 5, List.map (eStepD 3 47 98) q33.2⟩, ⟨0, 47, 2, [[(.own 1 0 (List.length q13.steps)), (i64 q13.result)]]⟩, ⟨0, 3, 1, List.map eI q15⟩]) (st' := [⟨0, 42, 2, [[(.sl (List.map eStep p0.steps)), (i64 p0.result)]]⟩, ⟨0, 98, 5, List.map (eStepD 3 47 98) q33.2⟩, ⟨0, 47, 2, [[(.own 1 0 (List.length q33.2)), (i64 q13.result)]]⟩, ⟨0, 3, 1, List.map eI q15⟩]) (by first | (simp only [Sh.put_len]; done) | simp only [Sh.put_len, ln34] | simp only [ln34])) ?_; exact Wk.permk (L := [(1, (i64 p1)), (2, (.ptr 0 0 0 0)), (6, (.sl (List.map eI q11))), (8, (.own 1 0 (List.length q15))), (46, (.bool true))]) (st' := [⟨0, 42, 2, [[(.sl (List.map eStep p0.steps)), (i64 p0.result)]]⟩, ⟨0, 3, 1, List.map eI q15⟩]) (st1 := [⟨0, 42, 2, [[(.sl (List.map eStep p0.steps)), (i64 p0.result)]]⟩, ⟨0, 3, 1, List.map eI q15⟩]) [0, 3] rfl .nil (by decide) rfl rfl (.raw rfl rfl (.pure (pure_map fun _ => rfl) .nil)) ⟨.rfl, .rfl, .rfl, .rfl, .rfl, trivial⟩))
    ·refine zg tb b82 rfl ?_
     refine zg tb b82 rfl ?_
     obtain ⟨q83, gq83, h1⟩ := Sh.bind_some h1
     refine ao_callb (v' := (.bool q83)) (st' := [⟨0, 42, 2, [[(ls eStep p0.steps), (i64 p0.result)]]⟩, (ro 0 98 5 (eStepD 3 47 98) q33.2), ⟨0, 47, 2, [[(ow 1 0 q13.steps), (i64 q13.result)]]⟩, (ro 0 3 1 eI q15)]) (go1 rfl rfl b82) hb14 (laws_eqIntS_ok gq83) rfl (.own rfl rfl (fun _ => rfl) (.val rfl .nil)) rfl trivial rfl rfl ?_
     refine zg tb b82 rfl ?_
     refine zf b82 rfl ?_
     exact AO.done (M38 (!q83) (Sh.some_eq h1).symm _ (by refine Wk.trans (Wk.steq (st := [⟨0, 42, 2, [[(.sl (List.map eStep p0.steps)), (i64 p0.result)]]⟩, ⟨0, 98, 5, List.map (eStepD 3 47 98) q33.2⟩, ⟨0, 47, 2, [[(.own 1 0 (List.length q13.steps)), (i64 q13.result)]]⟩, ⟨0, 3, 1, List.map eI q15⟩]) (st' := [⟨0, 42, 2, [[(.sl (List.map eStep p0.steps)), (i64 p0.result)]]⟩, ⟨0, 98, 5, List.map (eStepD 3 47 98) q33.2⟩, ⟨0, 47, 2, [[(.own 1 0 (List.length q33.2)), (i64 q13.result)]]⟩, ⟨0, 3, 1, List.map eI q15⟩]) (by first | (simp only [Sh.put_len]; done) | simp only [Sh.put_len, ln34] | simp only [ln34])) ?_; exact Wk.permk (L := [(1, (i64 p1)), (2, (.ptr 0 0 0 0)), (6, (.sl (List.map eI q11))), (8, (.own 1 0 (List.length q15))), (46, (.bool (!q83)))]) (st' := [⟨0, 42, 2, [[(.sl (List.map eStep p0.steps)), (i64 p0.result)]]⟩, ⟨0, 3, 1, List.map eI q15⟩]) (st1 := [⟨0, 42, 2, [[(.sl (List.map eStep p0.steps)), (i64 p0.result)]]⟩, ⟨0, 3, 1, List.map eI q15⟩]) [0, 3] rfl .nil (by decide) rfl rfl (.raw rfl rfl (.pure (pure_map fun _ => rfl) .nil)) ⟨.rfl, .rfl, .rfl, .rfl, .rfl, trivial⟩))
end Go.Proofs.Ytcpedchmkhlpnaa

