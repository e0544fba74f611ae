import Derived.Test.YtgcghdgbahfcjaaGreatProg
import Derived.Test.YtgcghdgbahfcjaaGreatOCDefs
import Derived.Test.YtgcghdgbahfcjaaGreatOCWalkP0
namespace Go.Proofs.YtgcghdgbahfcjaaGreat
open Go Go.Abs RC
attribute [local irreducible] Go.Abs.dops
set_option maxRecDepth 100000
set_option maxHeartbeats 4000000

theorem ai134 : allInfo Tryz.prog 134 = true := by kernel_rfl
theorem ai148 : allInfo Tryz.prog 148 = true := by kernel_rfl
theorem ai172 : allInfo Tryz.prog 172 = true := by kernel_rfl
theorem bi134 : finfos Tryz.prog 134 = some [(0, 1), (1, 1)] := by kernel_rfl
theorem bi148 : finfos Tryz.prog 148 = some [(0, 1)] := by kernel_rfl
theorem bi172 : finfos Tryz.prog 172 = some [(0, 1), (1, 1), (2, 1)] := by kernel_rfl
theorem ei132 : einfo Tryz.prog 132 = some ⟨172, 3, 56, [.sl [], .sl [], .int .i64 0]⟩ := by kernel_rfl
theorem ei62 : einfo Tryz.prog 62 = some ⟨4, 1, 1, [.bool false]⟩ := by kernel_rfl
theorem hb108 : hasBody Tryz.prog 108 = true := by kernel_rfl
theorem hb120 : hasBody Tryz.prog 120 = true := by kernel_rfl
theorem hb123 : hasBody Tryz.prog 123 = true := by kernel_rfl
theorem hb124 : hasBody Tryz.prog 124 = true := by kernel_rfl
theorem hb125 : hasBody Tryz.prog 125 = true := by kernel_rfl
theorem hb126 : hasBody Tryz.prog 126 = true := by kernel_rfl
theorem hb127 : hasBody Tryz.prog 127 = true := by kernel_rfl
theorem hb129 : hasBody Tryz.prog 129 = true := by kernel_rfl
theorem hb140 : hasBody Tryz.prog 140 = true := by kernel_rfl
theorem hb141 : hasBody Tryz.prog 141 = true := by kernel_rfl
theorem hb142 : hasBody Tryz.prog 142 = true := by kernel_rfl
theorem hb143 : hasBody Tryz.prog 143 = true := by kernel_rfl
theorem hb144 : hasBody Tryz.prog 144 = true := by kernel_rfl
theorem hb145 : hasBody Tryz.prog 145 = true := by kernel_rfl
theorem hb148 : hasBody Tryz.prog 148 = true := by kernel_rfl
theorem hb28 : hasBody Tryz.prog 28 = true := by kernel_rfl
theorem hb29 : hasBody Tryz.prog 29 = true := by kernel_rfl
theorem hb54 : hasBody Tryz.prog 54 = true := by kernel_rfl
theorem hb56 : hasBody Tryz.prog 56 = true := by kernel_rfl
theorem hb57 : hasBody Tryz.prog 57 = true := by kernel_rfl
theorem hb58 : hasBody Tryz.prog 58 = true := by kernel_rfl
theorem hb59 : hasBody Tryz.prog 59 = true := by kernel_rfl
theorem hb60 : hasBody Tryz.prog 60 = true := by kernel_rfl
theorem hb86 : hasBody Tryz.prog 86 = true := by kernel_rfl
theorem hb87 : hasBody Tryz.prog 87 = true := by kernel_rfl
theorem hb88 : hasBody Tryz.prog 88 = true := by kernel_rfl
theorem hb89 : hasBody Tryz.prog 89 = true := by kernel_rfl
theorem hb97 : hasBody Tryz.prog 97 = true := by kernel_rfl
theorem sl132 : isSliceT Tryz.prog 132 = true := by kernel_rfl
theorem sl39 : isSliceT Tryz.prog 39 = true := by kernel_rfl
theorem sl40 : isSliceT Tryz.prog 40 = true := by kernel_rfl
theorem sl96 : isSliceT Tryz.prog 96 = true := by kernel_rfl
theorem ti129 : tinfo Tryz.prog 129 = some (false, 1) := by kernel_rfl
theorem ti132 : tinfo Tryz.prog 132 = some (false, 1) := by kernel_rfl
theorem ti134 : tinfo Tryz.prog 134 = some (true, 2) := by kernel_rfl
theorem ti172 : tinfo Tryz.prog 172 = some (true, 3) := by kernel_rfl
theorem ti4 : tinfo Tryz.prog 4 = some (false, 1) := by kernel_rfl
theorem zi129 : zinfo Tryz.prog 129 = some [.nilf] := by kernel_rfl
theorem zi134 : zinfo Tryz.prog 134 = some [.zc, .zc] := by kernel_rfl
theorem zi172 : zinfo Tryz.prog 172 = some [.zc, .zc, .int .i64 0] := by kernel_rfl

theorem spec_allMarked_ok {N : Nat} {p0 : (List Bool)} {p1 : (List Int)} {r : Bool} (h0 : spec_allMarked N p0 p1 = some r) : ACalls Tryz.prog 120 [(ls eB p0), (ls eI p1)] [] (fun v st => v = (.bool r) ∧ st = []) := by
 unfold spec_allMarked at h0
 refine ai Tryz.func120 rfl rfl rfl rfl (zr tb rfl rfl (AW.seq fun K2 hK2 => zr tb rfl rfl ?_))
 obtain ⟨o5, h1, h0⟩ := Sh.cont_some h0
 have M5 : ∀ (_ : Unit), o5 = Sum.inr () → ∀ s, Wk 0 s ⟨28, envL [], []⟩ → K2 s := by
  intro _ hq s hw
  subst o5
  try dsimp only at h0
  refine hK2 _ (AW.weaken hw (zr tb rfl rfl ?_))
  replace h0 := Sh.some_eq h0
  subst r
  exact AW.ret (xr (Wk.to (L := [(4, (.bool true))]) ⟨.rfl, trivial⟩))
 refine AW.block (AW.loopF (σ := Int) (fun n v => spec_allMarked_L1 p0 p1 n v = some o5) (fun i4 => ⟨28, envL [(0, (ls eB p0)), (1, (ls eI p1)), (5, (i64 i4))], []⟩) N 0 h1 (Wk.tr rfl) (fun _ hv => by rw [spec_allMarked_L1] at hv; cases hv) ?_)
 rintro n i4 h1
 try dsimp only at h1 ⊢
 rw [spec_allMarked_L1] at h1
 refine AW.seq fun K7 hK7 => sr rfl fun K8 hK8 => zm tb 2 rfl (zl tb rfl rfl (zq tb rfl (dn hK8 rfl ?_)))
 refine ci h1 rfl ?_ ?_ <;> clear h1
 ·intro b9 h1
  refine AW.skip (hK7 _ (AW.seq fun K10 hK10 => AW.block (AW.seq fun K11 hK11 => bs h1 fun o13 h2 h1 => ?_)))
  have M13 : ∀ (t12 : Bool), o13 = t12 → ∀ s, Wk 0 s ⟨28, envL [(0, (ls eB p0)), (1, (ls eI p1)), (5, (i64 i4)), (27, (.bool t12))], []⟩ → K11 s := by
   intro t12 hq s hw
   subst o13
   try dsimp only at h1
   refine hK11 _ (AW.weaken hw ?_)
   refine ci h1 rfl ?_ ?_ <;> clear h1
   ·intro b14 h1
    refine zr tb rfl rfl ?_
    replace h1 := Sh.some_eq h1
    subst o5
    try dsimp only [id] at h0
    replace h0 := Sh.some_eq h0
    subst r
    exact AW.ret (xr (Wk.to (L := [(4, (.bool false))]) ⟨.rfl, trivial⟩))
   ·intro b14 h1
    exact AW.skip (hK10 _ (AW.regionO rfl (zm tb 3 rfl (AO.done (xi (Sh.w (i4 + 1)) h1 (Wk.tr rfl))))))
  refine AW.regionO rfl (zm tb 2 rfl (bs h2 fun c16 gc16 h2 => zx ei26 gc16 rfl rfl rfl (zq tb rfl (bs h2 fun q17 gq17 h2 => zc hb90 (spec_isPointer_ok gq17) rfl rfl rfl (zq tb rfl ?_)))))
  rcases Sh.ite_some h2 with ⟨b18, h2⟩ | ⟨b18, h2⟩
  ·exact zg tb b18 rfl (zg tb b18 rfl (zg tb b18 rfl (ao_q (v := (.iptr (eI c16) 0)) (go1 rfl rfl b18) rfl (aq_ixs ei26 rfl rfl gc16 rfl) (zg tb b18 rfl (zg tb b18 rfl (bs h2 fun c19 gc19 h2 => ao_q (v := (.iptr (eB c19) 0)) (go1 rfl rfl b18) rfl (aq_ixs ei62 rfl rfl gc19 rfl) (zg tb b18 rfl (zg tb b18 rfl (zt b18 rfl (AO.done (M13 (!c19) (Sh.some_eq h2).symm _ (Wk.tr rfl))))))))))))
  ·refine zs b18 rfl ?_
   iterate 8 refine zs b18 rfl ?_
   exact zf b18 rfl (AO.done (M13 false (Sh.some_eq h2).symm _ (Wk.tr rfl)))
 ·intro b9 h1
  exact AW.exit (M5 () (Sh.some_eq h1).symm _ (Wk.tr rfl))
theorem spec_isAcyclic_ok {N : Nat} {p0 : (List Cell)} {r : Bool} (h0 : spec_isAcyclic N p0 = some r) : ACalls Tryz.prog 88 [(ls eCell p0)] [] (fun v st => v = (.bool r) ∧ st = []) := by
 unfold spec_isAcyclic at h0
 refine ai Tryz.func88 rfl rfl rfl rfl (zr tb rfl rfl (sr rfl fun K2 hK2 => zq tb rfl (zl tb rfl rfl (bs h0 fun l3 gl3 h0 => ao_make (m := 0) (enc := eB) (u := false) go0 ei62 rfl rfl rfl gl3 rfl rfl (zq tb rfl (dn hK2 rfl (zr tb rfl rfl (AW.seq fun K5 hK5 => zr tb rfl rfl ?_))))))))
 refine bs h0 fun o11 h1 h0 => ?_
 have M11 : ∀ (many10 : Int), o11 = many10 → ∀ s, Wk 0 s ⟨40, envL [(0, (ls eCell p0)), (4, (i64 many10))], []⟩ → K5 s := by
  intro many10 hq s hw
  subst o11
  try dsimp only at h0
  refine hK5 _ (AW.weaken hw (sr rfl fun K12 hK12 => zm tb 2 rfl (zl tb rfl rfl (zm tb 2 rfl (dn hK12 rfl ?_)))))
  replace h0 := Sh.some_eq h0
  subst r
  exact AW.ret (xr (Wk.to (L := [(2, (.bool (decide (many10 = (Sh.len p0)))))]) ⟨.rfl, trivial⟩))
 refine AW.block (AW.loopF (σ := Int × Bool × (List Bool)) (fun n v => spec_isAcyclic_L1 N p0 n v.1 v.2.1 v.2.2 = some o11) (fun (many7, more8, l9) => ⟨40, envL [(0, (ls eCell p0)), (3, (ow 0 0 l9)), (4, (i64 many7)), (5, (.bool more8))], [(ro 0 4 1 eB l9)]⟩) N (0, true, l3) h1 (Wk.tr rfl) (fun _ hv => by rw [spec_isAcyclic_L1] at hv; cases hv) ?_)
 rintro n ⟨many7, more8, l9⟩ h1
 try dsimp only at h1 ⊢
 rw [spec_isAcyclic_L1] at h1
 refine AW.seq fun K13 hK13 => zr tb rfl rfl ?_
 refine ci h1 rfl ?_ ?_ <;> clear h1
 ·intro b15 h1
  refine AW.skip (hK13 _ (AW.block ?_))
  iterate 2 refine zr tb rfl rfl ?_
  refine bs h1 fun o25 h2 h1 => ?_
  have M25 : ∀ (many22 : Int) (more23 : Bool) (l24 : (List Bool)), o25 = (many22, more23, l24) → ∀ s, Wk 0 s ⟨40, envL [(0, (ls eCell p0)), (3, (ow 0 0 l24)), (4, (i64 many22)), (5, (.bool more23))], [(ro 0 4 1 eB l24)]⟩ → (∃ v, spec_isAcyclic_L1 N p0 n v.1 v.2.1 v.2.2 = some o11 ∧ Wk 0 s ((fun (many7, more8, l9) => ⟨40, envL [(0, (ls eCell p0)), (3, (ow 0 0 l9)), (4, (i64 many7)), (5, (.bool more8))], [(ro 0 4 1 eB l9)]⟩) v)) := by
   intro many22 more23 l24 hq s hw
   subst o25
   try dsimp only at h1
   exact Exists.intro (many22, more23, l24) (And.intro h1 (hw.trans (Wk.to (L := [(0, (ls eCell p0)), (3, (ow 0 0 l24)), (4, (i64 many22)), (5, (.bool more23))]) ⟨.rfl, .rfl, .rfl, .rfl, trivial⟩)))
  refine AW.block (AW.loopF (σ := Int × Bool × Int × (List Bool)) (fun n v => spec_isAcyclic_L2 N p0 n v.1 v.2.1 v.2.2.1 v.2.2.2 = some o25) (fun (many18, more19, i20, l21) => ⟨40, envL [(0, (ls eCell p0)), (3, (ow 0 0 l21)), (4, (i64 many18)), (5, (.bool more19)), (6, (i64 i20))], [(ro 0 4 1 eB l21)]⟩) N (many7, false, 0, l9) h2 (Wk.tr rfl) (fun _ hv => by rw [spec_isAcyclic_L2] at hv; cases hv) ?_)
  rintro n ⟨many18, more19, i20, l21⟩ h2
  try dsimp only at h2 ⊢
  rw [spec_isAcyclic_L2] at h2
  refine AW.seq fun K26 hK26 => sr rfl fun K27 hK27 => zm tb 2 rfl (zl tb rfl rfl (zq tb rfl (dn hK27 rfl ?_)))
  refine ci h2 rfl ?_ ?_ <;> clear h2
  ·intro b28 h2
   refine AW.skip (hK26 _ (AW.seq fun K29 hK29 => bs h2 fun o33 h3 h2 => ?_))
   have M33 : ∀ (many30 : Int) (more31 : Bool) (l32 : (List Bool)), o33 = (many30, more31, l32) → ∀ s, Wk 0 s ⟨40, envL [(0, (ls eCell p0)), (3, (ow 0 0 l32)), (4, (i64 many30)), (5, (.bool more31)), (6, (i64 i20))], [(ro 0 4 1 eB l32)]⟩ → K29 s := by
    intro many30 more31 l32 hq s hw
    subst o33
    try dsimp only at h2
    exact hK29 _ (AW.weaken hw (AW.regionO rfl (zm tb 3 rfl (AO.done (xi (many30, more31, Sh.w (i20 + 1), l32) h2 (Wk.tr rfl))))))
   refine AW.block (AW.seq fun K34 hK34 => bs h3 fun o36 h4 h3 => ?_)
   have M36 : ∀ (t35 : Bool), o36 = t35 → ∀ s, Wk 0 s ⟨40, envL [(0, (ls eCell p0)), (3, (ow 0 0 l21)), (4, (i64 many18)), (5, (.bool more19)), (6, (i64 i20)), (30, (.bool t35))], [(ro 0 4 1 eB l21)]⟩ → K34 s := by
    intro t35 hq s hw
    subst o36
    try dsimp only at h3
    refine hK34 _ (AW.weaken hw ?_)
    refine ci h3 rfl ?_ ?_ <;> clear h3
    ·intro b37 h3
     refine sr rfl fun K38 hK38 => zm tb 2 rfl (bs h3 fun c39 gc39 h3 => zz (.ptr 0 0 (Int.toNat i20) 0) (aq_ixo ei62 rfl rfl rfl rfl gc39) rfl (ao_stl (u' := true) go0 ti4 rfl rfl gc39 rfl rfl rfl (show 0 + 1 ≤ 1 by decide) rfl rfl (dn hK38 rfl (zr tb rfl rfl (AW.regionO rfl (zq tb rfl ?_))))))
     exact AO.done (M33 (Sh.w (many18 + 1)) true (Sh.put l21 i20 true) (Sh.some_eq h3).symm _ (Wk.to (L := [(0, (.sl (List.map eCell p0))), (3, (.own 0 0 (List.length (Sh.put l21 i20 true)))), (4, (i64 (Sh.w (many18 + 1)))), (5, (.bool true)), (6, (i64 i20))]) ⟨.rfl, (.len (by simp only [Sh.put_len])), .rfl, .rfl, .rfl, trivial⟩))
    ·intro b37 h3
     exact AW.skip (M33 many18 more19 l21 (Sh.some_eq h3).symm _ (Wk.tr rfl))
   refine AW.regionO rfl (zm tb 2 rfl (bs h4 fun c41 gc41 h4 => zz (.ptr 0 0 (Int.toNat i20) 0) (aq_ixo ei62 rfl rfl rfl rfl gc41) rfl (zz (.bool c41) (aq_ldp ti4 rfl rfl (map_get gc41) rfl) rfl (zm tb 2 rfl ?_))))
   rcases Sh.ite_some h4 with ⟨b42, h4⟩ | ⟨b42, h4⟩
   ·exact zg tb b42 rfl (zg tb b42 rfl (zg tb b42 rfl (bs h4 fun c43 gc43 h4 => ao_q (v := (.iptr (eCell c43) 0)) (go1 rfl rfl b42) rfl (aq_ixs ei39 rfl rfl gc43 rfl) (zg tb b42 rfl (zg tb b42 rfl (bs h4 fun q44 gq44 h4 => ao_callb (v' := (.bool q44)) (go1 rfl rfl b42) hb120 (spec_allMarked_ok gq44) rfl (.own rfl rfl (fun _ => rfl) (.val rfl .nil)) rfl trivial rfl rfl (zt b42 rfl (AO.done (M36 q44 (Sh.some_eq h4).symm _ (Wk.tr rfl))))))))))
   ·refine zs b42 rfl ?_
    iterate 6 refine zs b42 rfl ?_
    exact zf b42 rfl (AO.done (M36 false (Sh.some_eq h4).symm _ (Wk.tr rfl)))
  ·intro b28 h2
   exact AW.exit (M25 many18 more19 l21 (Sh.some_eq h2).symm _ (Wk.tr rfl))
 ·intro b15 h1
  exact AW.exit (M11 many7 (Sh.some_eq h1).symm _ (Wk.d0 _ rfl))
theorem spec_validHeap_ok {N : Nat} {p0 : (List Cell)} {r : Bool} (h0 : spec_validHeap N p0 = some r) : ACalls Tryz.prog 57 [(ls eCell p0)] [] (fun v st => v = (.bool r) ∧ st = []) := by
 unfold spec_validHeap at h0
 refine ai Tryz.func57 rfl rfl rfl rfl (zr tb rfl rfl (AW.seq fun K2 hK2 => AW.seq fun K3 hK3 => bs h0 fun o5 h1 h0 => ?_))
 have M5 : ∀ (t4 : Bool), o5 = t4 → ∀ s, Wk 0 s ⟨60, envL [(0, (ls eCell p0)), (18, (.bool t4))], []⟩ → K3 s := by
  intro t4 hq s hw
  subst o5
  try dsimp only at h0
  refine hK3 _ (AW.weaken hw ?_)
  refine ci h0 rfl ?_ ?_ <;> clear h0
  ·intro b6 h0
   refine zr tb rfl rfl ?_
   replace h0 := Sh.some_eq h0
   subst r
   exact AW.ret (xr (Wk.to (L := [(2, (.bool false))]) ⟨.rfl, trivial⟩))
  ·intro b6 h0
   refine AW.skip (hK2 _ (AW.seq fun K8 hK8 => zr tb rfl rfl ?_))
   obtain ⟨o11, h1, h0⟩ := Sh.cont_some h0
   have M11 : ∀ (_ : Unit), o11 = Sum.inr () → ∀ s, Wk 0 s ⟨60, envL [(0, (ls eCell p0))], []⟩ → K8 s := by
    intro _ hq s hw
    subst o11
    try dsimp only at h0
    refine hK8 _ (AW.weaken hw (sr rfl fun K12 hK12 => zq tb rfl (bs h0 fun q13 gq13 h0 => ao_call (v' := (ow 0 0 q13)) go0 hb87 (spec_refsOf_ok gq13) rfl rfl ⟨(pure_map' fun _ => rfl), trivial⟩ rfl rfl (zq tb rfl (dn hK12 rfl (AW.seq fun K14 hK14 => zr tb rfl rfl ?_))))))
    obtain ⟨o17, h1, h0⟩ := Sh.cont_some h0
    have M17 : ∀ (_ : Unit), o17 = Sum.inr () → ∀ s, Wk 0 s ⟨60, envL [(0, (ls eCell p0))], []⟩ → K14 s := by
     intro _ hq s hw
     subst o17
     try dsimp only at h0
     refine hK14 _ (AW.weaken hw (sr rfl fun K18 hK18 => zq tb rfl (bs h0 fun q19 gq19 h0 => zc hb88 (spec_isAcyclic_ok gq19) rfl rfl rfl (zq tb rfl (dn hK18 rfl ?_)))))
     replace h0 := Sh.some_eq h0
     subst r
     exact AW.ret (xr (Wk.to (L := [(2, (.bool q19))]) ⟨.rfl, trivial⟩))
    refine AW.block (AW.loopF (σ := Int) (fun n v => spec_validHeap_L2 p0 q13 n v = some o17) (fun i16 => ⟨60, envL [(0, (ls eCell p0)), (4, (ow 0 0 q13)), (5, (i64 i16))], [(ro 0 3 1 eI q13)]⟩) N 0 h1 (Wk.tr rfl) (fun _ hv => by rw [spec_validHeap_L2] at hv; cases hv) ?_)
    rintro n i16 h1
    try dsimp only at h1 ⊢
    rw [spec_validHeap_L2] at h1
    refine AW.seq fun K20 hK20 => sr rfl fun K21 hK21 => zm tb 2 rfl (zl tb rfl rfl (zq tb rfl (dn hK21 rfl ?_)))
    refine ci h1 rfl ?_ ?_ <;> clear h1
    ·intro b22 h1
     refine AW.skip (hK20 _ (AW.seq fun K23 hK23 => AW.block (AW.seq fun K24 hK24 => bs h1 fun o26 h2 h1 => ?_)))
     have M26 : ∀ (t25 : Bool), o26 = t25 → ∀ s, Wk 0 s ⟨60, envL [(0, (ls eCell p0)), (4, (ow 0 0 q13)), (5, (i64 i16)), (57, (.bool t25))], [(ro 0 3 1 eI q13)]⟩ → K24 s := by
      intro t25 hq s hw
      subst o26
      try dsimp only at h1
      refine hK24 _ (AW.weaken hw ?_)
      refine ci h1 rfl ?_ ?_ <;> clear h1
      ·intro b27 h1
       refine zr tb rfl rfl ?_
       replace h1 := Sh.some_eq h1
       subst o17
       try dsimp only [id] at h0
       replace h0 := Sh.some_eq h0
       subst r
       exact AW.ret (xr (Wk.d0 [(2, (.bool false))] rfl))
      ·intro b27 h1
       exact AW.skip (hK23 _ (AW.regionO rfl (zm tb 3 rfl (AO.done (xi (Sh.w (i16 + 1)) h1 (Wk.tr rfl))))))
     refine AW.draw (by kernel_rfl) (by kernel_rfl) (by rfl) ?_
     iterate 2 refine yq tb rfl ?_
     refine bs h2 fun c29 gc29 h2 => yx ei39 gc29 rfl rfl rfl ?_
     iterate 4 refine yq tb rfl ?_
     rcases Sh.ite_some h2 with ⟨b30, h2⟩ | ⟨b30, h2⟩
     ·refine yg tb b30 rfl (yg tb b30 rfl (d_q (v := (.iptr (eCell c29) 0)) (go1 rfl rfl b30) rfl (aq_ixs ei39 rfl rfl gc29 rfl) ?_))
      iterate 4 refine yg tb b30 rfl ?_
      exact bs h2 fun c31 gc31 h2 => d_q (v := (.ptr 0 0 (Int.toNat i16) 0)) (go1 rfl rfl b30) rfl (aq_ixo ei26 rfl rfl rfl rfl gc31) (d_q (v := (i64 c31)) (go1 rfl rfl b30) rfl (aq_ldp ti3 rfl rfl (map_get gc31) rfl) (yg tb b30 rfl (yt b30 rfl (d_done (M26 (decide (c29.count < c31)) (Sh.some_eq h2).symm _ (Wk.tr rfl))))))
     ·refine ys b30 rfl ?_
      iterate 9 refine ys b30 rfl ?_
      exact yf b30 rfl (d_done (M26 false (Sh.some_eq h2).symm _ (Wk.tr rfl)))
    ·intro b22 h1
     exact AW.exit (M17 () (Sh.some_eq h1).symm _ (Wk.d0 _ rfl))
   refine AW.block (AW.loopF (σ := Int) (fun n v => spec_validHeap_L1 N p0 n v = some o11) (fun i10 => ⟨60, envL [(0, (ls eCell p0)), (3, (i64 i10))], []⟩) N 0 h1 (Wk.tr rfl) (fun _ hv => by rw [spec_validHeap_L1] at hv; cases hv) ?_)
   rintro n i10 h1
   try dsimp only at h1 ⊢
   rw [spec_validHeap_L1] at h1
   refine AW.seq fun K32 hK32 => sr rfl fun K33 hK33 => zm tb 2 rfl (zl tb rfl rfl (zq tb rfl (dn hK33 rfl ?_)))
   refine ci h1 rfl ?_ ?_ <;> clear h1
   ·intro b34 h1
    refine AW.skip (hK32 _ (AW.seq fun K35 hK35 => AW.block (sr rfl fun K36 hK36 => zm tb 3 rfl (bs h1 fun c37 gc37 h1 => zx ei39 gc37 rfl rfl rfl (zq tb rfl (bs h1 fun q38 gq38 h1 => zc hb86 (spec_validCell_ok gq38) rfl rfl rfl (zq tb rfl (dn hK36 rfl ?_))))))))
    refine ci h1 rfl ?_ ?_ <;> clear h1
    ·intro b39 h1
     have b40 : q38 = false := by simpa using b39
     refine zr tb rfl rfl ?_
     replace h1 := Sh.some_eq h1
     subst o11
     try dsimp only [id] at h0
     replace h0 := Sh.some_eq h0
     subst r
     exact AW.ret (xr (Wk.to (L := [(2, (.bool false))]) ⟨.rfl, trivial⟩))
    ·intro b39 h1
     have b42 : q38 = true := by simpa using b39
     exact AW.skip (hK35 _ (AW.regionO rfl (zm tb 3 rfl (AO.done (xi (Sh.w (i10 + 1)) h1 (Wk.tr rfl))))))
   ·intro b34 h1
    exact AW.exit (M11 () (Sh.some_eq h1).symm _ (Wk.tr rfl))
 refine AW.regionO rfl (zq tb rfl (zl tb rfl rfl (zm tb 2 rfl ?_)))
 rcases Sh.ite_some h1 with ⟨b43, h1⟩ | ⟨b43, h1⟩
 ·refine zg tb b43 rfl (zg tb b43 rfl (ao_q (v := (i64 (Sh.len p0))) (go1 rfl rfl b43) rfl (aq_lens sl39 rfl) (zg tb b43 rfl (bs h1 fun c44 gc44 h1 => ao_q (v := (.iptr (eCell c44) 0)) (go1 rfl rfl b43) rfl (aq_ixs ei39 rfl rfl gc44 rfl) ?_))))
  iterate 3 refine zg tb b43 rfl ?_
  exact zt b43 rfl (AO.done (M5 (decide (c44.count = 0)) (Sh.some_eq h1).symm _ (Wk.tr rfl)))
 ·refine zs b43 rfl ?_
  iterate 7 refine zs b43 rfl ?_
  exact zf b43 rfl (AO.done (M5 false (Sh.some_eq h1).symm _ (Wk.tr rfl)))
theorem spec_validRegs_ok {N : Nat} {p0 : (List Cell)} {p1 : RFrame} {r : Bool} (h0 : spec_validRegs N p0 p1 = some r) : ACalls Tryz.prog 89 [(ls eCell p0), (.agg (eRFrame p1))] [] (fun v st => v = (.bool r) ∧ st = []) := by
 unfold spec_validRegs at h0
 refine ai Tryz.func89 rfl rfl rfl rfl (sr rfl fun K1 hK1 => ao_box (m := 0) go0 rfl rfl rfl rfl rfl (zq tb rfl (dn hK1 rfl (AW.seq fun K2 hK2 => zr tb rfl rfl ?_))))
 obtain ⟨o5, h1, h0⟩ := Sh.cont_some h0
 have M5 : ∀ (_ : Unit), o5 = Sum.inr () → ∀ s, Wk 0 s ⟨50, envL [], []⟩ → K2 s := by
  intro _ hq s hw
  subst o5
  try dsimp only at h0
  refine hK2 _ (AW.weaken hw (zr tb rfl rfl ?_))
  replace h0 := Sh.some_eq h0
  subst r
  exact AW.ret (xr (Wk.to (L := [(4, (.bool true))]) ⟨.rfl, trivial⟩))
 refine AW.block (AW.loopF (σ := Int) (fun n v => spec_validRegs_L1 p0 p1 n v = some o5) (fun r4 => ⟨50, envL [(0, (ls eCell p0)), (3, (.ptr 0 0 0 0)), (5, (i64 r4))], [⟨0, 64, 6, [(eRFrame p1)]⟩]⟩) N 0 h1 (Wk.tr rfl) (fun _ hv => by rw [spec_validRegs_L1] at hv; cases hv) ?_)
 rintro n r4 h1
 try dsimp only at h1 ⊢
 rw [spec_validRegs_L1] at h1
 refine AW.seq fun K7 hK7 => sr rfl fun K8 hK8 => zm tb 3 rfl (zl tb rfl rfl (zq tb rfl (dn hK8 rfl ?_)))
 refine ci h1 rfl ?_ ?_ <;> clear h1
 ·intro b9 h1
  refine AW.skip (hK7 _ (AW.seq fun K10 hK10 => AW.block (sr rfl fun K11 hK11 => zm tb 3 rfl (bs h1 fun c12 gc12 h1 => zx ei26 gc12 rfl rfl rfl (zm tb 2 rfl (dn hK11 rfl (AW.seq fun K13 hK13 => bs h1 fun o15 h2 h1 => ?_)))))))
  have M15 : ∀ (t14 : Bool), o15 = t14 → ∀ s, Wk 0 s ⟨50, envL [(0, (ls eCell p0)), (3, (.ptr 0 0 0 0)), (5, (i64 r4)), (49, (.bool t14))], [⟨0, 64, 6, [(eRFrame p1)]⟩]⟩ → K13 s := by
   intro t14 hq s hw
   subst o15
   try dsimp only at h1
   refine hK13 _ (AW.weaken hw ?_)
   refine ci h1 rfl ?_ ?_ <;> clear h1
   ·intro b16 h1
    refine zr tb rfl rfl ?_
    replace h1 := Sh.some_eq h1
    subst o5
    try dsimp only [id] at h0
    replace h0 := Sh.some_eq h0
    subst r
    exact AW.ret (xr (Wk.d0 [(4, (.bool false))] rfl))
   ·intro b16 h1
    exact AW.skip (hK10 _ (AW.regionO rfl (zm tb 3 rfl (AO.done (xi (Sh.w (r4 + 1)) h1 (Wk.tr rfl))))))
  refine AW.regionO rfl (zq tb rfl (bs h2 fun q18 gq18 h2 => zc hb55 (spec_inRange_ok gq18) rfl rfl rfl (zm tb 2 rfl ?_)))
  rcases Sh.ite_some h2 with ⟨b19, h2⟩ | ⟨b19, h2⟩
  ·refine zg tb b19 rfl (bs h2 fun q20 gq20 h2 => zd b19 hb90 (spec_isPointer_ok gq20) rfl rfl rfl rfl (zg tb b19 rfl (zt b19 rfl (zq tb rfl ?_))))
   rcases Sh.ite_some h2 with ⟨b21, h2⟩ | ⟨b21, h2⟩
   ·refine zs b21 rfl ?_
    iterate 6 refine zs b21 rfl ?_
    refine zt b21 rfl (zq tb rfl ?_)
    iterate 7 refine zs rfl rfl ?_
    iterate 4 refine zn rfl ?_
    exact zs rfl rfl (zt rfl rfl (AO.done (M15 true (Sh.some_eq h2).symm _ (Wk.tr rfl))))
   ·refine zg tb b21 rfl (zg tb b21 rfl (zg tb b21 rfl (bs h2 fun c22 gc22 h2 => ao_q (v := (.iptr (eI c22) 0)) (go1 rfl rfl b21) rfl (aq_ixs ei26 rfl rfl gc22 rfl) (zg tb b21 rfl (bs h2 fun q23 gq23 h2 => zd b21 hb55 (spec_inRange_ok gq23) rfl rfl rfl rfl (zg tb b21 rfl (zf b21 rfl (zq tb rfl ?_))))))))
    rcases Sh.ite_some h2 with ⟨b24, h2⟩ | ⟨b24, h2⟩
    ·refine zs b24 rfl ?_
     iterate 6 refine zs b24 rfl ?_
     iterate 4 refine zn rfl ?_
     exact zs b24 rfl (zt b24 rfl (AO.done (M15 true (Sh.some_eq h2).symm _ (Wk.tr rfl))))
    ·refine zg tb b24 rfl (zg tb b24 rfl (zg tb b24 rfl (ao_q (v := (.iptr (eI c22) 0)) (go1 rfl rfl b24) rfl (aq_ixs ei26 rfl rfl gc22 rfl) ?_)))
     iterate 3 refine zg tb b24 rfl ?_
     rcases Sh.ite_some h2 with ⟨b25, h2⟩ | ⟨b25, h2⟩
     ·exact zg tb b25 rfl (zg tb b25 rfl (bs h2 fun q26 gq26 h2 => zd b25 hb74 (spec_isLive_ok gq26) rfl rfl rfl rfl (zg tb b25 rfl (ao_q (v := (.bool (!q26))) (go1 rfl rfl b24) rfl (aq_pkt rfl b25 rfl) (zf b24 rfl (AO.done (M15 (!q26) (Sh.some_eq h2).symm _ (Wk.tr rfl))))))))
     ·refine zs b25 rfl ?_
      iterate 3 refine zs b25 rfl ?_
      exact ao_q (v := (.bool false)) (go1 rfl rfl b24) rfl (aq_pkf rfl b25 rfl) (zf b24 rfl (AO.done (M15 false (Sh.some_eq h2).symm _ (Wk.tr rfl))))
  ·refine zs b19 rfl (zs b19 rfl (zs b19 rfl (zf b19 rfl (zq tb rfl ?_))))
   iterate 3 refine zg tb rfl rfl ?_
   refine bs h2 fun c27 gc27 h2 => ao_q (v := (.iptr (eI c27) 0)) (go1 rfl rfl rfl) rfl (aq_ixs ei26 rfl rfl gc27 rfl) (zg tb rfl rfl (bs h2 fun q28 gq28 h2 => zd rfl hb55 (spec_inRange_ok gq28) rfl rfl rfl rfl (zg tb rfl rfl (zf rfl rfl (zq tb rfl ?_)))))
   rcases Sh.ite_some h2 with ⟨b29, h2⟩ | ⟨b29, h2⟩
   ·refine zs b29 rfl ?_
    iterate 6 refine zs b29 rfl ?_
    iterate 4 refine zn rfl ?_
    exact zs b29 rfl (zt b29 rfl (AO.done (M15 true (Sh.some_eq h2).symm _ (Wk.tr rfl))))
   ·refine zg tb b29 rfl (zg tb b29 rfl (zg tb b29 rfl (ao_q (v := (.iptr (eI c27) 0)) (go1 rfl rfl b29) rfl (aq_ixs ei26 rfl rfl gc27 rfl) ?_)))
    iterate 3 refine zg tb b29 rfl ?_
    rcases Sh.ite_some h2 with ⟨b30, h2⟩ | ⟨b30, h2⟩
    ·exact zg tb b30 rfl (zg tb b30 rfl (bs h2 fun q31 gq31 h2 => zd b30 hb74 (spec_isLive_ok gq31) rfl rfl rfl rfl (zg tb b30 rfl (ao_q (v := (.bool (!q31))) (go1 rfl rfl b29) rfl (aq_pkt rfl b30 rfl) (zf b29 rfl (AO.done (M15 (!q31) (Sh.some_eq h2).symm _ (Wk.tr rfl))))))))
    ·refine zs b30 rfl ?_
     iterate 3 refine zs b30 rfl ?_
     exact ao_q (v := (.bool false)) (go1 rfl rfl b29) rfl (aq_pkf rfl b30 rfl) (zf b29 rfl (AO.done (M15 false (Sh.some_eq h2).symm _ (Wk.tr rfl))))
 ·intro b9 h1
  exact AW.exit (M5 () (Sh.some_eq h1).symm _ (Wk.d0 _ rfl))
theorem spec_validFrame_ok {N : Nat} {p0 : RImage} {p1 : RState} {p2 : Int} {r : Bool} (h0 : spec_validFrame N p0 p1 p2 = some r) : ACalls Tryz.prog 58 [(.agg (eRImage p0)), (.agg (eRState p1)), (i64 p2)] [] (fun v st => v = (.bool r) ∧ st = []) := by
 unfold spec_validFrame at h0
 refine ai Tryz.func58 rfl rfl rfl rfl (sr rfl fun K1 hK1 => ao_box (m := 0) go0 rfl rfl rfl rfl rfl (ao_box (m := 1) go0 rfl rfl rfl rfl rfl (zq tb rfl (dn hK1 rfl (sr rfl fun K2 hK2 => zm tb 3 rfl (bs h0 fun c3 gc3 h0 => zx ei40 gc3 rfl rfl rfl (zq tb rfl (ao_alloc (m := 2) go0 zi64 rfl rfl ?_))))))))
 refine ao_str go0 ti64 rfl rfl rfl rfl rfl rfl (show 0 + 6 ≤ 6 by decide) rfl (dn hK2 rfl (AW.seq fun K4 hK4 => sr rfl fun K5 hK5 => zm tb 4 rfl (zl tb rfl rfl (zq tb rfl (bs h0 fun q6 gq6 h0 => zc hb55 (spec_inRange_ok gq6) rfl rfl rfl (zq tb rfl (dn hK5 rfl ?_)))))))
 refine ci h0 rfl ?_ ?_ <;> clear h0
 ·intro b7 h0
  have b8 : q6 = false := by simpa using b7
  refine zr tb rfl rfl ?_
  replace h0 := Sh.some_eq h0
  subst r
  exact AW.ret (xr (Wk.d0 [(6, (.bool false))] rfl))
 ·intro b7 h0
  have b10 : q6 = true := by simpa using b7
  refine AW.skip (hK4 _ (sr rfl fun K11 hK11 => zm tb 4 rfl (bs h0 fun c12 gc12 h0 => zx ei35 gc12 rfl rfl rfl (zq tb rfl (ao_alloc (m := 3) go0 zi102 rfl rfl (ao_str go0 ti102 rfl rfl rfl rfl rfl rfl (show 0 + 5 ≤ 5 by decide) rfl (dn hK11 rfl (AW.seq fun K13 hK13 => AW.seq fun K14 hK14 => bs h0 fun o16 h1 h0 => ?_))))))))
  have M16 : ∀ (t15 : Bool), o16 = t15 → ∀ s, Wk 0 s ⟨98, envL [(2, (i64 p2)), (4, (.ptr 0 0 0 0)), (7, (.ptr 1 0 0 0)), (66, (.bool t15))], [⟨0, 42, 7, [(eRState p1)]⟩, ⟨0, 64, 6, [(eRFrame c3)]⟩]⟩ → K14 s := by
   intro t15 hq s hw
   subst o16
   try dsimp only at h0
   refine hK14 _ (AW.weaken hw ?_)
   refine ci h0 rfl ?_ ?_ <;> clear h0
   ·intro b17 h0
    refine zr tb rfl rfl ?_
    replace h0 := Sh.some_eq h0
    subst r
    exact AW.ret (xr (Wk.d0 [(6, (.bool false))] rfl))
   ·intro b17 h0
    refine AW.skip (hK13 _ (AW.seq fun K19 hK19 => zr tb rfl rfl ?_))
    refine ci h0 rfl ?_ ?_ <;> clear h0
    ·intro b21 h0
     refine zr tb rfl rfl ?_
     replace h0 := Sh.some_eq h0
     subst r
     exact AW.ret (xr (Wk.d0 [(6, (.bool (decide (c3.dst = 0))))] rfl))
    ·intro b21 h0
     refine AW.skip (hK19 _ (AW.seq fun K23 hK23 => bs h0 fun o25 h1 h0 => ?_))
     have M25 : ∀ (t24 : Bool), o25 = t24 → ∀ s, Wk 0 s ⟨98, envL [(6, (.bool t24))], []⟩ → K23 s := by
      intro t24 hq s hw
      subst o25
      try dsimp only at h0
      refine hK23 _ (AW.weaken hw ?_)
      replace h0 := Sh.some_eq h0
      subst r
      exact AW.ret (xr (Wk.to (L := [(6, (.bool t24))]) ⟨.rfl, trivial⟩))
     refine AW.draw (by kernel_rfl) (by kernel_rfl) (by rfl) ?_
     iterate 6 refine yq tb rfl ?_
     refine bs h1 fun c26 gc26 h1 => yx ei40 gc26 rfl rfl rfl ?_
     iterate 2 refine yq tb rfl ?_
     refine yl tb rfl rfl (yq tb rfl (bs h1 fun q27 gq27 h1 => d_call (v := (.bool q27)) go0 hb55 (spec_inRange_ok gq27) rfl rfl rfl (yq tb rfl ?_)))
     rcases Sh.ite_some h1 with ⟨b28, h1⟩ | ⟨b28, h1⟩
     ·refine yg tb b28 rfl ?_
      iterate 3 refine yg tb b28 rfl ?_
      refine d_q (v := (.iptr (eRFrame c26) 0)) (go1 rfl rfl b28) rfl (aq_ixs ei40 rfl rfl gc26 rfl) ?_
      iterate 4 refine yg tb b28 rfl ?_
      refine bs h1 fun c29 gc29 h1 => d_q (v := (.iptr (eI c29) 0)) (go1 rfl rfl b28) rfl (aq_ixs ei26 rfl rfl gc29 rfl) ?_
      iterate 2 refine yg tb b28 rfl ?_
      exact yt b28 rfl (yq tb rfl (d_done (M25 (decide (c29 = 0)) (Sh.some_eq h1).symm _ (Wk.d0 _ rfl))))
     ·refine ys b28 rfl ?_
      iterate 11 refine ys b28 rfl ?_
      exact yf b28 rfl (yq tb rfl (d_done (M25 false (Sh.some_eq h1).symm _ (Wk.d0 _ rfl))))
  refine AW.regionO rfl (zm tb 4 rfl (zl tb rfl rfl (zq tb rfl (bs h1 fun q30 gq30 h1 => zc hb55 (spec_inRange_ok gq30) rfl rfl rfl (zm tb 2 rfl ?_)))))
  rcases Sh.ite_some h1 with ⟨b31, h1⟩ | ⟨b31, h1⟩
  ·refine zs b31 rfl ?_
   iterate 5 refine zs b31 rfl ?_
   refine zt b31 rfl (zq tb rfl ?_)
   iterate 6 refine zs rfl rfl ?_
   refine zt rfl rfl (zq tb rfl ?_)
   iterate 6 refine zs rfl rfl ?_
   refine zt rfl rfl (zq tb rfl ?_)
   iterate 5 refine zs rfl rfl ?_
   refine zt rfl rfl ?_
   exact AO.done (M16 true (Sh.some_eq h1).symm _ (Wk.permk (L := [(2, (i64 p2)), (4, (.ptr 0 0 0 0)), (7, (.ptr 1 0 0 0)), (66, (.bool true))]) (st' := [⟨0, 42, 7, [(eRState p1)]⟩, ⟨0, 64, 6, [(eRFrame c3)]⟩]) (st1 := [⟨0, 42, 7, [(eRState p1)]⟩, ⟨0, 64, 6, [(eRFrame c3)]⟩]) [1, 2] rfl .nil (by decide) rfl rfl (.raw rfl rfl (.raw rfl rfl .nil)) ⟨.rfl, .rfl, .rfl, .rfl, trivial⟩))
  ·refine zg tb b31 rfl (zg tb b31 rfl (ao_q (v := (i64 (Sh.len c3.regs))) (go1 rfl rfl b31) rfl (aq_lens sl26 rfl) ?_))
   iterate 3 refine zg tb b31 rfl ?_
   refine zf b31 rfl (zq tb rfl ?_)
   rcases Sh.ite_some h1 with ⟨b32, h1⟩ | ⟨b32, h1⟩
   ·refine zs b32 rfl ?_
    iterate 5 refine zs b32 rfl ?_
    refine zt b32 rfl (zq tb rfl ?_)
    iterate 6 refine zs rfl rfl ?_
    refine zt rfl rfl (zq tb rfl ?_)
    iterate 5 refine zs rfl rfl ?_
    refine zt rfl rfl ?_
    exact AO.done (M16 true (Sh.some_eq h1).symm _ (Wk.permk (L := [(2, (i64 p2)), (4, (.ptr 0 0 0 0)), (7, (.ptr 1 0 0 0)), (66, (.bool true))]) (st' := [⟨0, 42, 7, [(eRState p1)]⟩, ⟨0, 64, 6, [(eRFrame c3)]⟩]) (st1 := [⟨0, 42, 7, [(eRState p1)]⟩, ⟨0, 64, 6, [(eRFrame c3)]⟩]) [1, 2] rfl .nil (by decide) rfl rfl (.raw rfl rfl (.raw rfl rfl .nil)) ⟨.rfl, .rfl, .rfl, .rfl, trivial⟩))
   ·refine zg tb b32 rfl (zg tb b32 rfl (ao_q (v := (i64 (Sh.len c3.own))) (go1 rfl rfl b32) rfl (aq_lens sl26 rfl) ?_))
    iterate 3 refine zg tb b32 rfl ?_
    refine zf b32 rfl (zq tb rfl ?_)
    rcases Sh.ite_some h1 with ⟨b33, h1⟩ | ⟨b33, h1⟩
    ·refine zs b33 rfl ?_
     iterate 5 refine zs b33 rfl ?_
     refine zt b33 rfl (zq tb rfl ?_)
     iterate 5 refine zs rfl rfl ?_
     refine zt rfl rfl ?_
     exact AO.done (M16 true (Sh.some_eq h1).symm _ (Wk.permk (L := [(2, (i64 p2)), (4, (.ptr 0 0 0 0)), (7, (.ptr 1 0 0 0)), (66, (.bool true))]) (st' := [⟨0, 42, 7, [(eRState p1)]⟩, ⟨0, 64, 6, [(eRFrame c3)]⟩]) (st1 := [⟨0, 42, 7, [(eRState p1)]⟩, ⟨0, 64, 6, [(eRFrame c3)]⟩]) [1, 2] rfl .nil (by decide) rfl rfl (.raw rfl rfl (.raw rfl rfl .nil)) ⟨.rfl, .rfl, .rfl, .rfl, trivial⟩))
    ·refine zg tb b33 rfl (zg tb b33 rfl (ao_q (v := (i64 (Sh.len c3.held))) (go1 rfl rfl b33) rfl (aq_lens sl26 rfl) ?_))
     iterate 3 refine zg tb b33 rfl ?_
     refine zf b33 rfl (zq tb rfl ?_)
     rcases Sh.ite_some h1 with ⟨b34, h1⟩ | ⟨b34, h1⟩
     ·refine zs b34 rfl ?_
      iterate 4 refine zs b34 rfl ?_
      refine zt b34 rfl ?_
      exact AO.done (M16 true (Sh.some_eq h1).symm _ (Wk.permk (L := [(2, (i64 p2)), (4, (.ptr 0 0 0 0)), (7, (.ptr 1 0 0 0)), (66, (.bool true))]) (st' := [⟨0, 42, 7, [(eRState p1)]⟩, ⟨0, 64, 6, [(eRFrame c3)]⟩]) (st1 := [⟨0, 42, 7, [(eRState p1)]⟩, ⟨0, 64, 6, [(eRFrame c3)]⟩]) [1, 2] rfl .nil (by decide) rfl rfl (.raw rfl rfl (.raw rfl rfl .nil)) ⟨.rfl, .rfl, .rfl, .rfl, trivial⟩))
     ·refine zg tb b34 rfl (zg tb b34 rfl (zg tb b34 rfl (bs h1 fun q35 gq35 h1 => zd b34 hb89 (spec_validRegs_ok gq35) rfl rfl rfl rfl (zg tb b34 rfl (zf b34 rfl ?_)))))
      exact AO.done (M16 (!q35) (Sh.some_eq h1).symm _ (Wk.permk (L := [(2, (i64 p2)), (4, (.ptr 0 0 0 0)), (7, (.ptr 1 0 0 0)), (66, (.bool (!q35)))]) (st' := [⟨0, 42, 7, [(eRState p1)]⟩, ⟨0, 64, 6, [(eRFrame c3)]⟩]) (st1 := [⟨0, 42, 7, [(eRState p1)]⟩, ⟨0, 64, 6, [(eRFrame c3)]⟩]) [1, 2] rfl .nil (by decide) rfl rfl (.raw rfl rfl (.raw rfl rfl .nil)) ⟨.rfl, .rfl, .rfl, .rfl, trivial⟩))
theorem spec_heldOnce_ok {N : Nat} {p0 : RState} {r : Bool} (h0 : spec_heldOnce N p0 = some r) : ACalls Tryz.prog 59 [(.agg (eRState p0))] [] (fun v st => v = (.bool r) ∧ st = []) := by
 unfold spec_heldOnce at h0
 refine ai Tryz.func59 rfl rfl rfl rfl (sr rfl fun K1 hK1 => ao_box (m := 0) go0 rfl rfl rfl rfl rfl (zq tb rfl (dn hK1 rfl (sr rfl fun K2 hK2 => zm tb 2 rfl (zl tb rfl rfl (bs h0 fun l3 gl3 h0 => ao_make (m := 1) (enc := eI) (u := 0) go0 ei26 rfl rfl rfl gl3 rfl rfl (zq tb rfl (dn hK2 rfl ?_))))))))
 refine AW.seq fun K4 hK4 => zr tb rfl rfl ?_
 obtain ⟨o9, h1, h0⟩ := Sh.cont_some h0
 have M9 : ∀ (l8 : (List Int)), o9 = Sum.inr l8 → ∀ s, Wk 0 s ⟨100, envL [(1, (.ptr 0 0 0 0)), (3, (ow 1 0 l8))], [⟨0, 42, 7, [(eRState p0)]⟩, (ro 0 3 1 eI l8)]⟩ → K4 s := by
  intro l8 hq s hw
  subst o9
  try dsimp only at h0
  refine hK4 _ (AW.weaken hw (AW.seq fun K10 hK10 => zr tb rfl rfl ?_))
  obtain ⟨o13, h1, h0⟩ := Sh.cont_some h0
  have M13 : ∀ (_ : Unit), o13 = Sum.inr () → ∀ s, Wk 0 s ⟨100, envL [], []⟩ → K10 s := by
   intro _ hq s hw
   subst o13
   try dsimp only at h0
   refine hK10 _ (AW.weaken hw (zr tb rfl rfl ?_))
   replace h0 := Sh.some_eq h0
   subst r
   exact AW.ret (xr (Wk.to (L := [(2, (.bool true))]) ⟨.rfl, trivial⟩))
  refine AW.block (AW.loopF (σ := Int) (fun n v => spec_heldOnce_L2 l8 p0 n v = some o13) (fun i12 => ⟨100, envL [(1, (.ptr 0 0 0 0)), (3, (ow 1 0 l8)), (7, (i64 i12))], [⟨0, 42, 7, [(eRState p0)]⟩, (ro 0 3 1 eI l8)]⟩) N 0 h1 (Wk.tr rfl) (fun _ hv => by rw [spec_heldOnce_L2] at hv; cases hv) ?_)
  rintro n i12 h1
  try dsimp only at h1 ⊢
  rw [spec_heldOnce_L2] at h1
  refine AW.seq fun K15 hK15 => sr rfl fun K16 hK16 => zm tb 2 rfl (zz (i64 (Sh.len l8)) (aq_leno sl26 rfl rfl rfl) rfl (zq tb rfl (dn hK16 rfl ?_)))
  refine ci h1 rfl ?_ ?_ <;> clear h1
  ·intro b17 h1
   refine AW.skip (hK15 _ (AW.seq fun K18 hK18 => AW.block (AW.seq fun K19 hK19 => bs h1 fun o21 h2 h1 => ?_)))
   have M21 : ∀ (t20 : Bool), o21 = t20 → ∀ s, Wk 0 s ⟨100, envL [(1, (.ptr 0 0 0 0)), (3, (ow 1 0 l8)), (7, (i64 i12)), (99, (.bool t20))], [⟨0, 42, 7, [(eRState p0)]⟩, (ro 0 3 1 eI l8)]⟩ → K19 s := by
    intro t20 hq s hw
    subst o21
    try dsimp only at h1
    refine hK19 _ (AW.weaken hw ?_)
    refine ci h1 rfl ?_ ?_ <;> clear h1
    ·intro b22 h1
     refine zr tb rfl rfl ?_
     replace h1 := Sh.some_eq h1
     subst o13
     try dsimp only [id] at h0
     replace h0 := Sh.some_eq h0
     subst r
     exact AW.ret (xr (Wk.d0 [(2, (.bool false))] rfl))
    ·intro b22 h1
     exact AW.skip (hK18 _ (AW.regionO rfl (zm tb 3 rfl (AO.done (xi (Sh.w (i12 + 1)) h1 (Wk.tr rfl))))))
   refine AW.regionO rfl (zm tb 3 rfl (bs h2 fun c24 gc24 h2 => zx ei39 gc24 rfl rfl rfl (zm tb 4 rfl ?_)))
   rcases Sh.ite_some h2 with ⟨b25, h2⟩ | ⟨b25, h2⟩
   ·refine zg tb b25 rfl (zg tb b25 rfl (bs h2 fun c26 gc26 h2 => ao_q (v := (.ptr 1 0 (Int.toNat i12) 0)) (go1 rfl rfl b25) rfl (aq_ixo ei26 rfl rfl rfl rfl gc26) (ao_q (v := (i64 c26)) (go1 rfl rfl b25) rfl (aq_ldp ti3 rfl rfl (map_get gc26) rfl) (zg tb b25 rfl (zt b25 rfl (zq tb rfl ?_))))))
    rcases Sh.ite_some h2 with ⟨b27, h2⟩ | ⟨b27, h2⟩
    ·refine zs b27 rfl ?_
     iterate 7 refine zs b27 rfl ?_
     iterate 5 refine zn rfl ?_
     exact zs b27 rfl (zt b27 rfl (AO.done (M21 true (Sh.some_eq h2).symm _ (Wk.tr rfl))))
    ·refine zg tb b27 rfl (zg tb b27 rfl (zg tb b27 rfl (ao_q (v := (.iptr (eCell c24) 0)) (go1 rfl rfl b27) rfl (aq_ixs ei39 rfl rfl gc24 rfl) ?_)))
     iterate 4 refine zg tb b27 rfl ?_
     rcases Sh.ite_some h2 with ⟨b28, h2⟩ | ⟨b28, h2⟩
     ·exact zg tb b28 rfl (zg tb b28 rfl (ao_q (v := (.ptr 1 0 (Int.toNat i12) 0)) (go1 rfl rfl b28) rfl (aq_ixo ei26 rfl rfl rfl rfl gc26) (ao_q (v := (i64 c26)) (go1 rfl rfl b28) rfl (aq_ldp ti3 rfl rfl (map_get gc26) rfl) (zg tb b28 rfl (ao_q (v := (.bool (!decide (c26 = 0)))) (go1 rfl rfl b27) rfl (aq_pkt rfl b28 rfl) (zf b27 rfl (AO.done (M21 (!decide (c26 = 0)) (Sh.some_eq h2).symm _ (Wk.tr rfl)))))))))
     ·refine zs b28 rfl ?_
      iterate 4 refine zs b28 rfl ?_
      exact ao_q (v := (.bool false)) (go1 rfl rfl b27) rfl (aq_pkf rfl b28 rfl) (zf b27 rfl (AO.done (M21 false (Sh.some_eq h2).symm _ (Wk.tr rfl))))
   ·refine zs b25 rfl ?_
    iterate 4 refine zs b25 rfl ?_
    refine zf b25 rfl (zq tb rfl ?_)
    iterate 3 refine zg tb rfl rfl ?_
    refine ao_q (v := (.iptr (eCell c24) 0)) (go1 rfl rfl rfl) rfl (aq_ixs ei39 rfl rfl gc24 rfl) ?_
    iterate 4 refine zg tb rfl rfl ?_
    rcases Sh.ite_some h2 with ⟨b29, h2⟩ | ⟨b29, h2⟩
    ·exact zg tb b29 rfl (zg tb b29 rfl (bs h2 fun c30 gc30 h2 => ao_q (v := (.ptr 1 0 (Int.toNat i12) 0)) (go1 rfl rfl b29) rfl (aq_ixo ei26 rfl rfl rfl rfl gc30) (ao_q (v := (i64 c30)) (go1 rfl rfl b29) rfl (aq_ldp ti3 rfl rfl (map_get gc30) rfl) (zg tb b29 rfl (ao_q (v := (.bool (!decide (c30 = 0)))) (go1 rfl rfl rfl) rfl (aq_pkt rfl b29 rfl) (zf rfl rfl (AO.done (M21 (!decide (c30 = 0)) (Sh.some_eq h2).symm _ (Wk.tr rfl)))))))))
    ·refine zs b29 rfl ?_
     iterate 4 refine zs b29 rfl ?_
     exact ao_q (v := (.bool false)) (go1 rfl rfl rfl) rfl (aq_pkf rfl b29 rfl) (zf rfl rfl (AO.done (M21 false (Sh.some_eq h2).symm _ (Wk.tr rfl))))
  ·intro b17 h1
   exact AW.exit (M13 () (Sh.some_eq h1).symm _ (Wk.d0 _ rfl))
 refine AW.block (AW.loopF (σ := Int × (List Int)) (fun n v => spec_heldOnce_L1 N p0 n v.1 v.2 = some o9) (fun (i6, l7) => ⟨100, envL [(1, (.ptr 0 0 0 0)), (3, (ow 1 0 l7)), (4, (i64 i6))], [⟨0, 42, 7, [(eRState p0)]⟩, (ro 0 3 1 eI l7)]⟩) N (0, l3) h1 (Wk.tr rfl) (fun _ hv => by rw [spec_heldOnce_L1] at hv; cases hv) ?_)
 rintro n ⟨i6, l7⟩ h1
 try dsimp only at h1 ⊢
 rw [spec_heldOnce_L1] at h1
 refine AW.seq fun K31 hK31 => sr rfl fun K32 hK32 => zm tb 3 rfl (zl tb rfl rfl (zq tb rfl (dn hK32 rfl ?_)))
 refine ci h1 rfl ?_ ?_ <;> clear h1
 ·intro b33 h1
  refine AW.skip (hK31 _ (AW.seq fun K34 hK34 => AW.block (zr tb rfl rfl ?_)))
  obtain ⟨o39, h2, h1⟩ := Sh.cont_some h1
  have M39 : ∀ (l38 : (List Int)), o39 = Sum.inr l38 → ∀ s, Wk 0 s ⟨100, envL [(1, (.ptr 0 0 0 0)), (3, (ow 1 0 l38)), (4, (i64 i6))], [⟨0, 42, 7, [(eRState p0)]⟩, (ro 0 3 1 eI l38)]⟩ → K34 s := by
   intro l38 hq s hw
   subst o39
   try dsimp only at h1
   exact hK34 _ (AW.weaken hw (AW.regionO rfl (zm tb 3 rfl (AO.done (xi (Sh.w (i6 + 1), l38) h1 (Wk.tr rfl))))))
  refine AW.block (AW.loopF (σ := Int × (List Int)) (fun n v => spec_heldOnce_L3 i6 p0 n v.1 v.2 = some o39) (fun (r36, l37) => ⟨100, envL [(1, (.ptr 0 0 0 0)), (3, (ow 1 0 l37)), (4, (i64 i6)), (5, (i64 r36))], [⟨0, 42, 7, [(eRState p0)]⟩, (ro 0 3 1 eI l37)]⟩) N (0, l7) h2 (Wk.tr rfl) (fun _ hv => by rw [spec_heldOnce_L3] at hv; cases hv) ?_)
  rintro n ⟨r36, l37⟩ h2
  try dsimp only at h2 ⊢
  rw [spec_heldOnce_L3] at h2
  refine AW.seq fun K40 hK40 => sr rfl fun K41 hK41 => zm tb 4 rfl (bs h2 fun c42 gc42 h2 => zx ei40 gc42 rfl rfl rfl (zm tb 2 rfl (zl tb rfl rfl (zq tb rfl (dn hK41 rfl ?_)))))
  refine ci h2 rfl ?_ ?_ <;> clear h2
  ·intro b43 h2
   refine AW.skip (hK40 _ (AW.seq fun K44 hK44 => ?_))
   obtain ⟨o46, h3, h2⟩ := Sh.cont_some h2
   have M46 : ∀ (l45 : (List Int)), o46 = Sum.inr l45 → ∀ s, Wk 0 s ⟨100, envL [(1, (.ptr 0 0 0 0)), (3, (ow 1 0 l45)), (4, (i64 i6)), (5, (i64 r36))], [⟨0, 42, 7, [(eRState p0)]⟩, (ro 0 3 1 eI l45)]⟩ → K44 s := by
    intro l45 hq s hw
    subst o46
    try dsimp only at h2
    exact hK44 _ (AW.weaken hw (AW.regionO rfl (zm tb 3 rfl (AO.done (xi (Sh.w (r36 + 1), l45) h2 (Wk.tr rfl))))))
   refine AW.block (sr rfl fun K47 hK47 => zm tb 3 rfl (zx ei40 gc42 rfl rfl rfl (zm tb 3 rfl (bs h3 fun c48 gc48 h3 => zx ei26 gc48 rfl rfl rfl (zm tb 2 rfl (dn hK47 rfl (zr tb rfl rfl ?_)))))))
   refine ci h3 rfl ?_ ?_ <;> clear h3
   ·intro b50 h3
    have b51 : decide (c48 = 0) = false := by simpa using b50
    refine AW.seq fun K52 hK52 => AW.seq fun K53 hK53 => bs h3 fun o55 h4 h3 => ?_
    have M55 : ∀ (t54 : Bool), o55 = t54 → ∀ s, Wk 0 s ⟨100, envL [(1, (.ptr 0 0 0 0)), (3, (ow 1 0 l37)), (4, (i64 i6)), (5, (i64 r36)), (6, (i64 c48)), (53, (.bool t54))], [⟨0, 42, 7, [(eRState p0)]⟩, (ro 0 3 1 eI l37)]⟩ → K53 s := by
     intro t54 hq s hw
     subst o55
     try dsimp only at h3
     refine hK53 _ (AW.weaken hw ?_)
     refine ci h3 rfl ?_ ?_ <;> clear h3
     ·intro b56 h3
      refine zr tb rfl rfl ?_
      replace h3 := Sh.some_eq h3
      subst o46
      try dsimp only [id] at h2
      replace h2 := Sh.some_eq h2
      subst o39
      try dsimp only [id] at h1
      replace h1 := Sh.some_eq h1
      subst o9
      try dsimp only [id] at h0
      replace h0 := Sh.some_eq h0
      subst r
      exact AW.ret (xr (Wk.d0 [(2, (.bool false))] rfl))
     ·intro b56 h3
      refine AW.skip (hK52 _ (AW.regionO rfl (zm tb 6 rfl (bs h3 fun c58 gc58 h3 => zz (.ptr 1 0 (Int.toNat (Sh.w (c48 - 1000))) 0) (aq_ixo ei26 rfl rfl rfl rfl gc58) rfl (zz (i64 c58) (aq_ldp ti3 rfl rfl (map_get gc58) rfl) rfl (zq tb rfl (zz (.ptr 1 0 (Int.toNat (Sh.w (c48 - 1000))) 0) (aq_ixo ei26 rfl rfl rfl rfl gc58) rfl (ao_stl (u' := Sh.w (c58 + 1)) go0 ti3 rfl rfl gc58 rfl rfl rfl (show 0 + 1 ≤ 1 by decide) rfl rfl ?_))))))))
      exact AO.done (M46 (Sh.put l37 (Sh.w (c48 - 1000)) (Sh.w (c58 + 1))) (Sh.some_eq h3).symm _ (Wk.to (L := [(1, (.ptr 0 0 0 0)), (3, (.own 1 0 (List.length (Sh.put l37 (Sh.w (c48 - 1000)) (Sh.w (c58 + 1)))))), (4, (i64 i6)), (5, (i64 r36))]) ⟨.rfl, (.len (by simp only [Sh.put_len])), .rfl, .rfl, trivial⟩))
    refine AW.regionO rfl (zq tb rfl (bs h4 fun q59 gq59 h4 => zc hb90 (spec_isPointer_ok gq59) rfl rfl rfl (zm tb 2 rfl ?_)))
    rcases Sh.ite_some h4 with ⟨b60, h4⟩ | ⟨b60, h4⟩
    ·refine zs b60 rfl ?_
     iterate 7 refine zs b60 rfl ?_
     exact zt b60 rfl (AO.done (M55 true (Sh.some_eq h4).symm _ (Wk.tr rfl)))
    ·refine zg tb b60 rfl ?_
     iterate 3 refine zg tb b60 rfl ?_
     exact ao_q (v := (i64 (Sh.len p0.heap))) (go1 rfl rfl b60) rfl (aq_lens sl39 rfl) (zg tb b60 rfl (bs h4 fun q61 gq61 h4 => zd b60 hb55 (spec_inRange_ok gq61) rfl rfl rfl rfl (zg tb b60 rfl (zf b60 rfl (AO.done (M55 (!q61) (Sh.some_eq h4).symm _ (Wk.tr rfl)))))))
   ·intro b50 h3
    have b62 : decide (c48 = 0) = true := by simpa using b50
    exact AW.skip (M46 l37 (Sh.some_eq h3).symm _ (Wk.tr rfl))
  ·intro b43 h2
   exact AW.exit (M39 l37 (Sh.some_eq h2).symm _ (Wk.tr rfl))
 ·intro b33 h1
  exact AW.exit (M9 l7 (Sh.some_eq h1).symm _ (Wk.tr rfl))
theorem spec_ownersOf_ok {N : Nat} {p0 : RState} {r : (List Int)} (h0 : spec_ownersOf N p0 = some r) : ACalls Tryz.prog 29 [(.agg (eRState p0))] [] (fun v st => v = (ow 0 0 r) ∧ st = [(ro 0 3 1 eI r)]) := by
 unfold spec_ownersOf at h0
 refine ai Tryz.func29 rfl rfl rfl rfl (sr rfl fun K1 hK1 => ao_box (m := 0) go0 rfl rfl rfl rfl rfl (zq tb rfl (dn hK1 rfl (sr rfl fun K2 hK2 => zm tb 2 rfl (zl tb rfl rfl (bs h0 fun l3 gl3 h0 => ao_make (m := 1) (enc := eI) (u := 0) go0 ei26 rfl rfl rfl gl3 rfl rfl (zq tb rfl (dn hK2 rfl ?_))))))))
 refine AW.seq fun K4 hK4 => zr tb rfl rfl (bs h0 fun o9 h1 h0 => ?_)
 have M9 : ∀ (l8 : (List Int)), o9 = l8 → ∀ s, Wk 0 s ⟨60, envL [(3, (ow 0 0 l8))], [(ro 0 3 1 eI l8)]⟩ → K4 s := by
  intro l8 hq s hw
  subst o9
  try dsimp only at h0
  refine hK4 _ (AW.weaken hw (zr tb rfl rfl ?_))
  replace h0 := Sh.some_eq h0
  subst r
  exact AW.ret (xr (Wk.to (L := [(2, (ow 0 0 l8))]) ⟨.rfl, trivial⟩))
 refine AW.block (AW.loopF (σ := Int × (List Int)) (fun n v => spec_ownersOf_L1 N p0 n v.1 v.2 = some o9) (fun (i6, l7) => ⟨60, envL [(1, (.ptr 0 0 0 0)), (3, (ow 1 0 l7)), (4, (i64 i6))], [⟨0, 42, 7, [(eRState p0)]⟩, (ro 0 3 1 eI l7)]⟩) N (0, l3) h1 (Wk.tr rfl) (fun _ hv => by rw [spec_ownersOf_L1] at hv; cases hv) ?_)
 rintro n ⟨i6, l7⟩ h1
 try dsimp only at h1 ⊢
 rw [spec_ownersOf_L1] at h1
 refine AW.seq fun K11 hK11 => sr rfl fun K12 hK12 => zm tb 3 rfl (zl tb rfl rfl (zq tb rfl (dn hK12 rfl ?_)))
 refine ci h1 rfl ?_ ?_ <;> clear h1
 ·intro b13 h1
  refine AW.skip (hK11 _ (AW.seq fun K14 hK14 => AW.block (sr rfl fun K15 hK15 => zm tb 3 rfl (bs h1 fun c16 gc16 h1 => zx ei40 gc16 rfl rfl rfl (zq tb rfl (ao_alloc (m := 2) go0 zi64 rfl rfl (ao_str go0 ti64 rfl rfl rfl rfl rfl rfl (show 0 + 6 ≤ 6 by decide) rfl (dn hK15 rfl (zr tb rfl rfl ?_)))))))))
  refine bs h1 fun o21 h2 h1 => ?_
  have M21 : ∀ (l20 : (List Int)), o21 = l20 → ∀ s, Wk 0 s ⟨60, envL [(1, (.ptr 0 0 0 0)), (3, (ow 1 0 l20)), (4, (i64 i6))], [⟨0, 42, 7, [(eRState p0)]⟩, (ro 0 3 1 eI l20)]⟩ → K14 s := by
   intro l20 hq s hw
   subst o21
   try dsimp only at h1
   exact hK14 _ (AW.weaken hw (AW.regionO rfl (zm tb 3 rfl (AO.done (xi (Sh.w (i6 + 1), l20) h1 (Wk.tr rfl))))))
  refine AW.block (AW.loopF (σ := Int × (List Int)) (fun n v => spec_ownersOf_L2 c16 n v.1 v.2 = some o21) (fun (r18, l19) => ⟨60, envL [(1, (.ptr 0 0 0 0)), (3, (ow 1 0 l19)), (4, (i64 i6)), (5, (.ptr 2 0 0 0)), (6, (i64 r18))], [⟨0, 42, 7, [(eRState p0)]⟩, (ro 0 3 1 eI l19), ⟨0, 64, 6, [(eRFrame c16)]⟩]⟩) N (0, l7) h2 (Wk.tr rfl) (fun _ hv => by rw [spec_ownersOf_L2] at hv; cases hv) ?_)
  rintro n ⟨r18, l19⟩ h2
  try dsimp only at h2 ⊢
  rw [spec_ownersOf_L2] at h2
  refine AW.seq fun K22 hK22 => sr rfl fun K23 hK23 => zm tb 3 rfl (zl tb rfl rfl (zq tb rfl (dn hK23 rfl ?_)))
  refine ci h2 rfl ?_ ?_ <;> clear h2
  ·intro b24 h2
   refine AW.skip (hK22 _ (AW.seq fun K25 hK25 => bs h2 fun o27 h3 h2 => ?_))
   have M27 : ∀ (l26 : (List Int)), o27 = l26 → ∀ s, Wk 0 s ⟨60, envL [(1, (.ptr 0 0 0 0)), (3, (ow 1 0 l26)), (4, (i64 i6)), (5, (.ptr 2 0 0 0)), (6, (i64 r18))], [⟨0, 42, 7, [(eRState p0)]⟩, (ro 0 3 1 eI l26), ⟨0, 64, 6, [(eRFrame c16)]⟩]⟩ → K25 s := by
    intro l26 hq s hw
    subst o27
    try dsimp only at h2
    exact hK25 _ (AW.weaken hw (AW.regionO rfl (zm tb 3 rfl (AO.done (xi (Sh.w (r18 + 1), l26) h2 (Wk.tr rfl))))))
   refine AW.block (sr rfl fun K28 hK28 => zm tb 3 rfl (bs h3 fun c29 gc29 h3 => zx ei26 gc29 rfl rfl rfl (zm tb 2 rfl (dn hK28 rfl ?_))))
   refine ci h3 rfl ?_ ?_ <;> clear h3
   ·intro b30 h3
    refine AW.drawTailO 23 (by kernel_rfl) (by kernel_rfl) (by rfl) ?_
    iterate 4 refine yq tb rfl ?_
    refine bs h3 fun c31 gc31 h3 => yx ei26 gc31 rfl rfl rfl ?_
    iterate 6 refine yq tb rfl ?_
    refine yx ei26 gc31 rfl rfl rfl ?_
    iterate 2 refine yq tb rfl ?_
    refine bs h3 fun c32 gc32 h3 => yz (.ptr 1 0 (Int.toNat (Sh.w (c31 - 1000))) 0) (aq_ixo ei26 rfl rfl rfl rfl gc32) rfl (yz (i64 c32) (aq_ldp ti3 rfl rfl (map_get gc32) rfl) rfl ?_)
    iterate 3 refine yq tb rfl ?_
    refine yx ei26 gc29 rfl rfl rfl ?_
    iterate 2 refine yq tb rfl ?_
    refine yz (.ptr 1 0 (Int.toNat (Sh.w (c31 - 1000))) 0) (aq_ixo ei26 rfl rfl rfl rfl gc32) rfl (d_done (ao_stl (u' := Sh.w (c32 + c29)) go0 ti3 rfl rfl gc32 rfl rfl rfl (show 0 + 1 ≤ 1 by decide) rfl rfl ?_))
    exact AO.done (M27 (Sh.put l19 (Sh.w (c31 - 1000)) (Sh.w (c32 + c29))) (Sh.some_eq h3).symm _ (Wk.to (L := [(1, (.ptr 0 0 0 0)), (3, (.own 1 0 (List.length (Sh.put l19 (Sh.w (c31 - 1000)) (Sh.w (c32 + c29)))))), (4, (i64 i6)), (5, (.ptr 2 0 0 0)), (6, (i64 r18))]) ⟨.rfl, (.len (by simp only [Sh.put_len])), .rfl, .rfl, .rfl, trivial⟩))
   ·intro b30 h3
    exact AW.skip (M27 l19 (Sh.some_eq h3).symm _ (Wk.tr rfl))
  ·intro b24 h2
   exact AW.exit (M21 l19 (Sh.some_eq h2).symm _ (Wk.permk (L := [(1, (.ptr 0 0 0 0)), (3, (ow 1 0 l19)), (4, (i64 i6))]) (st' := [⟨0, 42, 7, [(eRState p0)]⟩, (ro 0 3 1 eI l19)]) (st1 := [⟨0, 42, 7, [(eRState p0)]⟩, (ro 0 3 1 eI l19)]) [0, 1] rfl .nil (by decide) rfl rfl (.raw rfl rfl (.pure (pure_map fun _ => rfl) .nil)) ⟨.rfl, .rfl, .rfl, trivial⟩))
 ·intro b13 h1
  exact AW.exit (M9 l7 (Sh.some_eq h1).symm _ (Wk.permk (L := [(3, (ow 0 0 l7))]) (st' := [(ro 0 3 1 eI l7)]) (st1 := [(ro 0 3 1 eI l7)]) [1] rfl .nil (by decide) rfl rfl (.pure (pure_map fun _ => rfl) .nil) ⟨.rfl, trivial⟩))
theorem spec_exactCounts_ok {N : Nat} {p0 : RState} {r : Bool} (h0 : spec_exactCounts N p0 = some r) : ACalls Tryz.prog 60 [(.agg (eRState p0))] [] (fun v st => v = (.bool r) ∧ st = []) := by
 unfold spec_exactCounts at h0
 refine ai Tryz.func60 rfl rfl rfl rfl (sr rfl fun K1 hK1 => ao_box (m := 0) go0 rfl rfl rfl rfl rfl (zq tb rfl (dn hK1 rfl (sr rfl fun K2 hK2 => zm tb 2 rfl (bs h0 fun q3 gq3 h0 => ao_call (v' := (ow 1 0 q3)) go0 hb87 (spec_refsOf_ok gq3) rfl rfl ⟨(pure_map' fun _ => rfl), trivial⟩ rfl rfl (zq tb rfl (dn hK2 rfl (sr rfl fun K4 hK4 => ?_))))))))
 refine zq tb rfl (bs h0 fun q5 gq5 h0 => ao_call (v' := (ow 2 0 q5)) go0 hb29 (spec_ownersOf_ok gq5) rfl rfl ⟨(pure_map' fun _ => rfl), trivial⟩ rfl rfl (zq tb rfl (dn hK4 rfl (AW.seq fun K6 hK6 => zr tb rfl rfl ?_))))
 obtain ⟨o9, h1, h0⟩ := Sh.cont_some h0
 have M9 : ∀ (_ : Unit), o9 = Sum.inr () → ∀ s, Wk 0 s ⟨43, envL [], []⟩ → K6 s := by
  intro _ hq s hw
  subst o9
  try dsimp only at h0
  refine hK6 _ (AW.weaken hw (zr tb rfl rfl ?_))
  replace h0 := Sh.some_eq h0
  subst r
  exact AW.ret (xr (Wk.to (L := [(2, (.bool true))]) ⟨.rfl, trivial⟩))
 refine AW.block (AW.loopF (σ := Int) (fun n v => spec_exactCounts_L1 p0 q3 q5 n v = some o9) (fun i8 => ⟨43, envL [(1, (.ptr 0 0 0 0)), (3, (ow 1 0 q3)), (4, (ow 2 0 q5)), (5, (i64 i8))], [⟨0, 42, 7, [(eRState p0)]⟩, (ro 0 3 1 eI q3), (ro 0 3 1 eI q5)]⟩) N 0 h1 (Wk.tr rfl) (fun _ hv => by rw [spec_exactCounts_L1] at hv; cases hv) ?_)
 rintro n i8 h1
 try dsimp only at h1 ⊢
 rw [spec_exactCounts_L1] at h1
 refine AW.seq fun K11 hK11 => sr rfl fun K12 hK12 => zm tb 3 rfl (zl tb rfl rfl (zq tb rfl (dn hK12 rfl ?_)))
 refine ci h1 rfl ?_ ?_ <;> clear h1
 ·intro b13 h1
  refine AW.skip (hK11 _ (AW.seq fun K14 hK14 => AW.block (AW.seq fun K15 hK15 => bs h1 fun o17 h2 h1 => ?_)))
  have M17 : ∀ (t16 : Bool), o17 = t16 → ∀ s, Wk 0 s ⟨43, envL [(1, (.ptr 0 0 0 0)), (3, (ow 1 0 q3)), (4, (ow 2 0 q5)), (5, (i64 i8)), (42, (.bool t16))], [⟨0, 42, 7, [(eRState p0)]⟩, (ro 0 3 1 eI q3), (ro 0 3 1 eI q5)]⟩ → K15 s := by
   intro t16 hq s hw
   subst o17
   try dsimp only at h1
   refine hK15 _ (AW.weaken hw ?_)
   refine ci h1 rfl ?_ ?_ <;> clear h1
   ·intro b18 h1
    refine zr tb rfl rfl ?_
    replace h1 := Sh.some_eq h1
    subst o9
    try dsimp only [id] at h0
    replace h0 := Sh.some_eq h0
    subst r
    exact AW.ret (xr (Wk.d0 [(2, (.bool false))] rfl))
   ·intro b18 h1
    exact AW.skip (hK14 _ (AW.regionO rfl (zm tb 3 rfl (AO.done (xi (Sh.w (i8 + 1)) h1 (Wk.tr rfl))))))
  refine AW.draw (by kernel_rfl) (by kernel_rfl) (by rfl) ?_
  iterate 3 refine yq tb rfl ?_
  refine bs h2 fun c20 gc20 h2 => yx ei39 gc20 rfl rfl rfl ?_
  iterate 4 refine yq tb rfl ?_
  rcases Sh.ite_some h2 with ⟨b21, h2⟩ | ⟨b21, h2⟩
  ·refine yg tb b21 rfl ?_
   iterate 2 refine yg tb b21 rfl ?_
   refine d_q (v := (.iptr (eCell c20) 0)) (go1 rfl rfl b21) rfl (aq_ixs ei39 rfl rfl gc20 rfl) ?_
   iterate 4 refine yg tb b21 rfl ?_
   refine bs h2 fun c22 gc22 h2 => d_q (v := (.ptr 1 0 (Int.toNat i8) 0)) (go1 rfl rfl b21) rfl (aq_ixo ei26 rfl rfl rfl rfl gc22) (d_q (v := (i64 c22)) (go1 rfl rfl b21) rfl (aq_ldp ti3 rfl rfl (map_get gc22) rfl) ?_)
   iterate 2 refine yg tb b21 rfl ?_
   refine bs h2 fun c23 gc23 h2 => d_q (v := (.ptr 2 0 (Int.toNat i8) 0)) (go1 rfl rfl b21) rfl (aq_ixo ei26 rfl rfl rfl rfl gc23) (d_q (v := (i64 c23)) (go1 rfl rfl b21) rfl (aq_ldp ti3 rfl rfl (map_get gc23) rfl) ?_)
   iterate 2 refine yg tb b21 rfl ?_
   exact yt b21 rfl (d_done (M17 (!decide (c20.count = (Sh.w (c22 + c23)))) (Sh.some_eq h2).symm _ (Wk.tr rfl)))
  ·refine ys b21 rfl ?_
   iterate 15 refine ys b21 rfl ?_
   exact yf b21 rfl (d_done (M17 false (Sh.some_eq h2).symm _ (Wk.tr rfl)))
 ·intro b13 h1
  exact AW.exit (M9 () (Sh.some_eq h1).symm _ (Wk.d0 _ rfl))
theorem spec_validState_ok {N : Nat} {p0 : RImage} {p1 : RState} {r : Bool} (h0 : spec_validState N p0 p1 = some r) : ACalls Tryz.prog 28 [(.agg (eRImage p0)), (.agg (eRState p1))] [] (fun v st => v = (.bool r) ∧ st = []) := by
 unfold spec_validState at h0
 refine ai Tryz.func28 rfl rfl rfl rfl (sr rfl fun K1 hK1 => ao_box (m := 0) go0 rfl rfl rfl rfl rfl (ao_box (m := 1) go0 rfl rfl rfl rfl rfl (zq tb rfl (dn hK1 rfl (AW.seq fun K2 hK2 => AW.seq fun K3 hK3 => bs h0 fun o5 h1 h0 => ?_)))))
 have M5 : ∀ (t4 : Bool), o5 = t4 → ∀ s, Wk 0 s ⟨90, envL [(2, (.ptr 0 0 0 0)), (3, (.ptr 1 0 0 0)), (24, (.bool t4))], [⟨0, 37, 2, [(eRImage p0)]⟩, ⟨0, 42, 7, [(eRState p1)]⟩]⟩ → K3 s := by
  intro t4 hq s hw
  subst o5
  try dsimp only at h0
  refine hK3 _ (AW.weaken hw ?_)
  refine ci h0 rfl ?_ ?_ <;> clear h0
  ·intro b6 h0
   refine zr tb rfl rfl ?_
   replace h0 := Sh.some_eq h0
   subst r
   exact AW.ret (xr (Wk.d0 [(4, (.bool false))] rfl))
  ·intro b6 h0
   refine AW.skip (hK2 _ (AW.seq fun K8 hK8 => AW.seq fun K9 hK9 => bs h0 fun o11 h1 h0 => ?_))
   have M11 : ∀ (t10 : Bool), o11 = t10 → ∀ s, Wk 0 s ⟨90, envL [(2, (.ptr 0 0 0 0)), (3, (.ptr 1 0 0 0)), (52, (.bool t10))], [⟨0, 37, 2, [(eRImage p0)]⟩, ⟨0, 42, 7, [(eRState p1)]⟩]⟩ → K9 s := by
    intro t10 hq s hw
    subst o11
    try dsimp only at h0
    refine hK9 _ (AW.weaken hw ?_)
    refine ci h0 rfl ?_ ?_ <;> clear h0
    ·intro b12 h0
     refine zr tb rfl rfl ?_
     replace h0 := Sh.some_eq h0
     subst r
     exact AW.ret (xr (Wk.d0 [(4, (.bool false))] rfl))
    ·intro b12 h0
     refine AW.skip (hK8 _ (AW.seq fun K14 hK14 => AW.seq fun K15 hK15 => bs h0 fun o17 h1 h0 => ?_))
     have M17 : ∀ (t16 : Bool), o17 = t16 → ∀ s, Wk 0 s ⟨90, envL [(2, (.ptr 0 0 0 0)), (3, (.ptr 1 0 0 0)), (71, (.bool t16))], [⟨0, 37, 2, [(eRImage p0)]⟩, ⟨0, 42, 7, [(eRState p1)]⟩]⟩ → K15 s := by
      intro t16 hq s hw
      subst o17
      try dsimp only at h0
      refine hK15 _ (AW.weaken hw ?_)
      refine ci h0 rfl ?_ ?_ <;> clear h0
      ·intro b18 h0
       refine zr tb rfl rfl ?_
       replace h0 := Sh.some_eq h0
       subst r
       exact AW.ret (xr (Wk.d0 [(4, (.bool false))] rfl))
      ·intro b18 h0
       refine AW.skip (hK14 _ (AW.seq fun K20 hK20 => zr tb rfl rfl ?_))
       obtain ⟨o23, h1, h0⟩ := Sh.cont_some h0
       have M23 : ∀ (_ : Unit), o23 = Sum.inr () → ∀ s, Wk 0 s ⟨90, envL [(3, (.ptr 0 0 0 0))], [⟨0, 42, 7, [(eRState p1)]⟩]⟩ → K20 s := by
        intro _ hq s hw
        subst o23
        try dsimp only at h0
        refine hK20 _ (AW.weaken hw (AW.seq fun K24 hK24 => bs h0 fun o26 h1 h0 => ?_))
        have M26 : ∀ (t25 : Bool), o26 = t25 → ∀ s, Wk 0 s ⟨90, envL [(4, (.bool t25))], []⟩ → K24 s := by
         intro t25 hq s hw
         subst o26
         try dsimp only at h0
         refine hK24 _ (AW.weaken hw ?_)
         replace h0 := Sh.some_eq h0
         subst r
         exact AW.ret (xr (Wk.to (L := [(4, (.bool t25))]) ⟨.rfl, trivial⟩))
        refine AW.regionO rfl (zq tb rfl (bs h1 fun q27 gq27 h1 => zc hb59 (spec_heldOnce_ok gq27) rfl rfl rfl (zq tb rfl ?_)))
        rcases Sh.ite_some h1 with ⟨b28, h1⟩ | ⟨b28, h1⟩
        ·exact zg tb b28 rfl (bs h1 fun q29 gq29 h1 => zd b28 hb60 (spec_exactCounts_ok gq29) rfl rfl rfl rfl (zt b28 rfl (zq tb rfl (AO.done (M26 q29 (Sh.some_eq h1).symm _ (Wk.d0 _ rfl))))))
        ·exact zs b28 rfl (zs b28 rfl (zf b28 rfl (zq tb rfl (AO.done (M26 false (Sh.some_eq h1).symm _ (Wk.d0 _ rfl))))))
       refine AW.block (AW.loopF (σ := Int) (fun n v => spec_validState_L1 N p0 p1 n v = some o23) (fun k22 => ⟨90, envL [(2, (.ptr 0 0 0 0)), (3, (.ptr 1 0 0 0)), (5, (i64 k22))], [⟨0, 37, 2, [(eRImage p0)]⟩, ⟨0, 42, 7, [(eRState p1)]⟩]⟩) N 0 h1 (Wk.tr rfl) (fun _ hv => by rw [spec_validState_L1] at hv; cases hv) ?_)
       rintro n k22 h1
       try dsimp only at h1 ⊢
       rw [spec_validState_L1] at h1
       refine AW.seq fun K30 hK30 => sr rfl fun K31 hK31 => zm tb 3 rfl (zl tb rfl rfl (zq tb rfl (dn hK31 rfl ?_)))
       refine ci h1 rfl ?_ ?_ <;> clear h1
       ·intro b32 h1
        refine AW.skip (hK30 _ (AW.seq fun K33 hK33 => AW.block (sr rfl fun K34 hK34 => zm tb 3 rfl (bs h1 fun q35 gq35 h1 => zc hb58 (spec_validFrame_ok gq35) rfl rfl rfl (zq tb rfl (dn hK34 rfl ?_))))))
        refine ci h1 rfl ?_ ?_ <;> clear h1
        ·intro b36 h1
         have b37 : q35 = false := by simpa using b36
         refine zr tb rfl rfl ?_
         replace h1 := Sh.some_eq h1
         subst o23
         try dsimp only [id] at h0
         replace h0 := Sh.some_eq h0
         subst r
         exact AW.ret (xr (Wk.d0 [(4, (.bool false))] rfl))
        ·intro b36 h1
         have b39 : q35 = true := by simpa using b36
         exact AW.skip (hK33 _ (AW.regionO rfl (zm tb 3 rfl (AO.done (xi (Sh.w (k22 + 1)) h1 (Wk.tr rfl))))))
       ·intro b32 h1
        exact AW.exit (M23 () (Sh.some_eq h1).symm _ (Wk.permk (L := [(3, (.ptr 0 0 0 0))]) (st' := [⟨0, 42, 7, [(eRState p1)]⟩]) (st1 := [⟨0, 42, 7, [(eRState p1)]⟩]) [1] rfl .nil (by decide) rfl rfl (.raw rfl rfl .nil) ⟨.rfl, trivial⟩))
     refine AW.regionO rfl (zm tb 2 rfl (zl tb rfl rfl (zm tb 5 rfl ?_)))
     rcases Sh.ite_some h1 with ⟨b40, h1⟩ | ⟨b40, h1⟩
     ·refine zs b40 rfl ?_
      iterate 3 refine zs b40 rfl ?_
      refine zt b40 rfl (zq tb rfl ?_)
      iterate 4 refine zs rfl rfl ?_
      exact zt rfl rfl (AO.done (M17 true (Sh.some_eq h1).symm _ (Wk.tr rfl)))
     ·refine zg tb b40 rfl (zg tb b40 rfl (bs h1 fun q41 gq41 h1 => zd b40 hb56 (spec_allInRange_ok gq41) rfl rfl rfl rfl (zg tb b40 rfl (zf b40 rfl (zq tb rfl ?_)))))
      rcases Sh.ite_some h1 with ⟨b42, h1⟩ | ⟨b42, h1⟩
      ·refine zs b42 rfl ?_
       iterate 3 refine zs b42 rfl ?_
       exact zt b42 rfl (AO.done (M17 true (Sh.some_eq h1).symm _ (Wk.tr rfl)))
      ·exact zg tb b42 rfl (zg tb b42 rfl (bs h1 fun q43 gq43 h1 => zd b42 hb57 (spec_validHeap_ok gq43) rfl rfl rfl rfl (zg tb b42 rfl (zf b42 rfl (AO.done (M17 (!q43) (Sh.some_eq h1).symm _ (Wk.tr rfl)))))))
   refine AW.regionO rfl (zm tb 2 rfl (bs h1 fun q44 gq44 h1 => zc hb55 (spec_inRange_ok gq44) rfl rfl rfl (zm tb 2 rfl ?_)))
   rcases Sh.ite_some h1 with ⟨b45, h1⟩ | ⟨b45, h1⟩
   ·refine zs b45 rfl ?_
    iterate 3 refine zs b45 rfl ?_
    iterate 3 refine zn rfl ?_
    refine zs b45 rfl (zt b45 rfl (zq tb rfl ?_))
    iterate 4 refine zs rfl rfl ?_
    refine zt rfl rfl (zq tb rfl ?_)
    iterate 6 refine zs rfl rfl ?_
    exact zt rfl rfl (AO.done (M11 true (Sh.some_eq h1).symm _ (Wk.tr rfl)))
   ·refine zg tb b45 rfl ?_
    iterate 3 refine zg tb b45 rfl ?_
    rcases Sh.ite_some h1 with ⟨b46, h1⟩ | ⟨b46, h1⟩
    ·refine zg tb b46 rfl (zg tb b46 rfl (zg tb b46 rfl (ao_q (v := (.bool (!decide (p1.status = 0)))) (go1 rfl rfl b45) rfl (aq_pkt rfl b46 rfl) (zf b45 rfl (zq tb rfl ?_)))))
     rcases Sh.ite_some h1 with ⟨b47, h1⟩ | ⟨b47, h1⟩
     ·refine zs b47 rfl ?_
      iterate 3 refine zs b47 rfl ?_
      refine zt b47 rfl (zq tb rfl ?_)
      iterate 6 refine zs rfl rfl ?_
      exact zt rfl rfl (AO.done (M11 true (Sh.some_eq h1).symm _ (Wk.tr rfl)))
     ·refine zg tb b47 rfl (zg tb b47 rfl (bs h1 fun q48 gq48 h1 => zd b47 hb55 (spec_inRange_ok gq48) rfl rfl rfl rfl (zg tb b47 rfl (zf b47 rfl (zq tb rfl ?_)))))
      rcases Sh.ite_some h1 with ⟨b49, h1⟩ | ⟨b49, h1⟩
      ·refine zs b49 rfl ?_
       iterate 5 refine zs b49 rfl ?_
       exact zt b49 rfl (AO.done (M11 true (Sh.some_eq h1).symm _ (Wk.tr rfl)))
      ·refine zg tb b49 rfl ?_
       iterate 3 refine zg tb b49 rfl ?_
       exact bs h1 fun q50 gq50 h1 => zd b49 hb55 (spec_inRange_ok gq50) rfl rfl rfl rfl (zg tb b49 rfl (zf b49 rfl (AO.done (M11 (!q50) (Sh.some_eq h1).symm _ (Wk.tr rfl)))))
    ·refine zs b46 rfl (zs b46 rfl (zs b46 rfl (ao_q (v := (.bool false)) (go1 rfl rfl b45) rfl (aq_pkf rfl b46 rfl) (zf b45 rfl (zq tb rfl (zg tb rfl rfl (zg tb rfl rfl (bs h1 fun q51 gq51 h1 => zd rfl hb55 (spec_inRange_ok gq51) rfl rfl rfl rfl (zg tb rfl rfl (zf rfl rfl ?_))))))))))
     refine zq tb rfl ?_
     rcases Sh.ite_some h1 with ⟨b52, h1⟩ | ⟨b52, h1⟩
     ·refine zs b52 rfl ?_
      iterate 5 refine zs b52 rfl ?_
      exact zt b52 rfl (AO.done (M11 true (Sh.some_eq h1).symm _ (Wk.tr rfl)))
     ·refine zg tb b52 rfl ?_
      iterate 3 refine zg tb b52 rfl ?_
      exact bs h1 fun q53 gq53 h1 => zd b52 hb55 (spec_inRange_ok gq53) rfl rfl rfl rfl (zg tb b52 rfl (zf b52 rfl (AO.done (M11 (!q53) (Sh.some_eq h1).symm _ (Wk.tr rfl)))))
 refine AW.regionO rfl (zq tb rfl (bs h1 fun q54 gq54 h1 => zc hb54 (spec_validImage_ok gq54) rfl rfl rfl (zm tb 2 rfl ?_)))
 rcases Sh.ite_some h1 with ⟨b55, h1⟩ | ⟨b55, h1⟩
 ·refine zs b55 rfl ?_
  iterate 3 refine zs b55 rfl ?_
  refine zt b55 rfl (zq tb rfl ?_)
  iterate 8 refine zs rfl rfl ?_
  exact zt rfl rfl (AO.done (M5 true (Sh.some_eq h1).symm _ (Wk.tr rfl)))
 ·refine zg tb b55 rfl (zg tb b55 rfl (bs h1 fun q56 gq56 h1 => zd b55 hb55 (spec_inRange_ok gq56) rfl rfl rfl rfl (zg tb b55 rfl (zf b55 rfl (zq tb rfl ?_)))))
  rcases Sh.ite_some h1 with ⟨b57, h1⟩ | ⟨b57, h1⟩
  ·refine zs b57 rfl ?_
   iterate 7 refine zs b57 rfl ?_
   exact zt b57 rfl (AO.done (M5 true (Sh.some_eq h1).symm _ (Wk.tr rfl)))
  ·refine zg tb b57 rfl ?_
   iterate 4 refine zg tb b57 rfl ?_
   exact ao_q (v := (i64 (Sh.len p1.frames))) (go1 rfl rfl b57) rfl (aq_lens sl40 rfl) (zg tb b57 rfl (zg tb b57 rfl (zf b57 rfl (AO.done (M5 ((decide (p1.status = 0)) != (decide ((Sh.len p1.frames) = 0))) (Sh.some_eq h1).symm _ (Wk.tr rfl))))))
theorem spec_OwnedCells_ok {N : Nat} {p0 : RImage} {p1 : RState} {r : (List Int)} (h0 : spec_OwnedCells N p0 p1 = some r) : ACalls Tryz.prog 8 [(.agg (eRImage p0)), (.agg (eRState p1))] [] (fun v st => v = (ow 0 0 r) ∧ st = [(ro 0 3 1 eI r)]) := by
 unfold spec_OwnedCells at h0
 refine ai Tryz.func8 rfl rfl rfl rfl (sr rfl fun K1 hK1 => ao_box (m := 0) go0 rfl rfl rfl rfl rfl (ao_box (m := 1) go0 rfl rfl rfl rfl rfl (zq tb rfl (dn hK1 rfl (AW.seq fun K2 hK2 => sr rfl fun K3 hK3 => zm tb 2 rfl (bs h0 fun q4 gq4 h0 => zc hb28 (spec_validState_ok gq4) rfl rfl rfl (zq tb rfl ?_)))))))
 refine dn hK3 rfl ?_
 refine ci h0 rfl ?_ ?_ <;> clear h0
 ·intro b5 h0
  have b6 : q4 = false := by simpa using b5
  refine zr tb rfl rfl ?_
  replace h0 := Sh.some_eq h0
  subst r
  exact AW.ret (Exists.intro _ (And.intro ((((Wk.adopt (t := 4) rfl 3 (size := 1) (by decide)).trans (Wk.to (L := [(4, (.own 2 0 (List.length ([] : List Int))))]) ⟨.rfl, trivial⟩)).trans (Wk.permk (L := [(4, (.own 0 0 (List.length ([] : List Int))))]) (st' := [(ro 0 3 1 eI ([] : List Int))]) (st1 := [(ro 0 3 1 eI ([] : List Int))]) [2] rfl .nil (by decide) rfl rfl (.pure (pure_map fun _ => rfl) .nil) ⟨.rfl, trivial⟩)).trans (Wk.to (L := [(4, (.own 0 0 (List.length ([] : List Int))))]) ⟨.rfl, trivial⟩)) (And.intro rfl rfl)))
 ·intro b5 h0
  have b8 : q4 = true := by simpa using b5
  refine AW.skip (hK2 _ (sr rfl fun K9 hK9 => zq tb rfl (bs h0 fun q10 gq10 h0 => ao_call (v' := (ow 2 0 q10)) go0 hb29 (spec_ownersOf_ok gq10) rfl rfl ⟨(pure_map' fun _ => rfl), trivial⟩ rfl rfl (zq tb rfl (dn hK9 rfl (sr rfl fun K11 hK11 => ?_))))))
  refine ao_bs (m := 3) (l := ([] : List Int)) (enc := eI) go0 ei26 (by decide) rfl rfl rfl rfl rfl rfl ?_
  refine zq tb rfl (dn hK11 rfl (AW.seq fun K12 hK12 => zr tb rfl rfl (bs h0 fun o17 h1 h0 => ?_)))
  have M17 : ∀ (l16 : (List Int)), o17 = l16 → ∀ s, Wk 0 s ⟨31, envL [(6, (ow 0 0 l16))], [(ro 0 3 1 eI l16)]⟩ → K12 s := by
   intro l16 hq s hw
   subst o17
   try dsimp only at h0
   refine hK12 _ (AW.weaken hw (zr tb rfl rfl ?_))
   replace h0 := Sh.some_eq h0
   subst r
   exact AW.ret (xr (Wk.to (L := [(4, (ow 0 0 l16))]) ⟨.rfl, trivial⟩))
  refine AW.block (AW.loopF (σ := Int × (List Int)) (fun n v => spec_OwnedCells_L1 q10 n v.1 v.2 = some o17) (fun (i14, l15) => ⟨31, envL [(5, (ow 0 0 q10)), (6, (ow 1 0 l15)), (7, (i64 i14))], [(ro 0 3 1 eI q10), (ro 0 3 1 eI l15)]⟩) N (0, []) h1 (Wk.permk (L := [(5, (ow 0 0 q10)), (6, (.own 1 0 (List.length ([] : List Int)))), (7, (i64 0))]) (st' := [(ro 0 3 1 eI q10), (ro 0 3 1 eI ([] : List Int))]) (st1 := [(ro 0 3 1 eI q10), (ro 0 3 1 eI ([] : List Int))]) [2, 3] rfl .nil (by decide) rfl rfl (.pure (pure_map fun _ => rfl) (.pure (pure_map fun _ => rfl) .nil)) ⟨.rfl, .rfl, .rfl, trivial⟩) (fun _ hv => by rw [spec_OwnedCells_L1] at hv; cases hv) ?_)
  rintro n ⟨i14, l15⟩ h1
  try dsimp only at h1 ⊢
  rw [spec_OwnedCells_L1] at h1
  refine AW.seq fun K19 hK19 => sr rfl fun K20 hK20 => zm tb 2 rfl (zz (i64 (Sh.len q10)) (aq_leno sl26 rfl rfl rfl) rfl (zq tb rfl (dn hK20 rfl ?_)))
  refine ci h1 rfl ?_ ?_ <;> clear h1
  ·intro b21 h1
   refine AW.skip (hK19 _ (AW.seq fun K22 hK22 => bs h1 fun o24 h2 h1 => ?_))
   have M24 : ∀ (l23 : (List Int)), o24 = l23 → ∀ s, Wk 0 s ⟨31, envL [(5, (ow 0 0 q10)), (6, (ow 1 0 l23)), (7, (i64 i14))], [(ro 0 3 1 eI q10), (ro 0 3 1 eI l23)]⟩ → K22 s := by
    intro l23 hq s hw
    subst o24
    try dsimp only at h1
    exact hK22 _ (AW.weaken hw (AW.regionO rfl (zm tb 3 rfl (AO.done (xi (Sh.w (i14 + 1), l23) h1 (Wk.tr rfl))))))
   refine AW.block (sr rfl fun K25 hK25 => zm tb 2 rfl (bs h2 fun c26 gc26 h2 => zz (.ptr 0 0 (Int.toNat i14) 0) (aq_ixo ei26 rfl rfl rfl rfl gc26) rfl (zz (i64 c26) (aq_ldp ti3 rfl rfl (map_get gc26) rfl) rfl (zq tb rfl (dn hK25 rfl ?_)))))
   refine ci h2 rfl ?_ ?_ <;> clear h2
   ·intro b27 h2
    refine AW.regionO rfl (zm tb 2 rfl ?_)
    refine ao_bs (m := 2) (l := [i14]) (enc := eI) go0 ei26 (by decide) rfl rfl rfl rfl rfl rfl ?_
    refine bs h2 fun l28 gl28 h2 => ao_apo (l2 := [i14]) go0 ei26 rfl rfl rfl rfl (el_o rfl rfl) (fun _ => rfl) gl28 rfl (zq tb rfl ?_)
    exact AO.done (M24 l28 (Sh.some_eq h2).symm _ (by refine Wk.trans (Wk.rg (L := [(5, (ow 0 0 q10)), (6, (ow 1 0 l28)), (7, (i64 i14))]) (st' := [(ro 0 3 1 eI q10), (ro 0 3 1 eI l28), (ro 0 3 1 eI [i14])]) (.pure (pure_map fun _ => rfl) (.pure (pure_map fun _ => rfl) (.pure (pure_map fun _ => rfl) .nil))) ⟨.rfl, .rfl, .rfl, trivial⟩) ?_; exact Wk.permk (L := [(5, (ow 0 0 q10)), (6, (ow 1 0 l28)), (7, (i64 i14))]) (st' := [(ro 0 3 1 eI q10), (ro 0 3 1 eI l28)]) (st1 := [(ro 0 3 1 eI q10), (ro 0 3 1 eI l28)]) [0, 1] rfl .nil (by decide) rfl rfl (.pure (pure_map fun _ => rfl) (.pure (pure_map fun _ => rfl) .nil)) ⟨.rfl, .rfl, .rfl, trivial⟩))
   ·intro b27 h2
    exact AW.skip (M24 l15 (Sh.some_eq h2).symm _ (Wk.tr rfl))
  ·intro b21 h1
   exact AW.exit (M17 l15 (Sh.some_eq h1).symm _ (Wk.permk (L := [(6, (ow 0 0 l15))]) (st' := [(ro 0 3 1 eI l15)]) (st1 := [(ro 0 3 1 eI l15)]) [1] rfl .nil (by decide) rfl rfl (.pure (pure_map fun _ => rfl) .nil) ⟨.rfl, trivial⟩))
theorem impl_isType_ok {p0 : (List RDecl)} {p1 : Int} {r : Bool} (h0 : impl_isType p0 p1 = some r) : ACalls Tryz.prog 142 [(ls eRDecl p0), (i64 p1)] [] (fun v st => v = (.bool r) ∧ st = []) := by
 unfold impl_isType at h0
 refine ai Tryz.func142 rfl rfl rfl rfl (zr tb rfl rfl (AW.seq fun K2 hK2 => bs h0 fun o4 h1 h0 => ?_))
 have M4 : ∀ (t3 : Bool), o4 = t3 → ∀ s, Wk 0 s ⟨13, envL [(4, (.bool t3))], []⟩ → K2 s := by
  intro t3 hq s hw
  subst o4
  try dsimp only at h0
  refine hK2 _ (AW.weaken hw ?_)
  replace h0 := Sh.some_eq h0
  subst r
  exact AW.ret (xr (Wk.to (L := [(4, (.bool t3))]) ⟨.rfl, trivial⟩))
 refine AW.regionO rfl (zm tb 3 rfl ?_)
 rcases Sh.ite_some h1 with ⟨b5, h1⟩ | ⟨b5, h1⟩
 ·exact zg tb b5 rfl (zg tb b5 rfl (ao_q (v := (i64 (Sh.len p0))) (go1 rfl rfl b5) rfl (aq_lens sl34 rfl) (zg tb b5 rfl (zt b5 rfl (zq tb rfl (AO.done (M4 (decide (p1 ≤ (Sh.len p0))) (Sh.some_eq h1).symm _ (Wk.tr rfl))))))))
 ·refine zs b5 rfl ?_
  iterate 3 refine zs b5 rfl ?_
  exact zf b5 rfl (zq tb rfl (AO.done (M4 false (Sh.some_eq h1).symm _ (Wk.tr rfl))))
theorem impl_allTypes_ok {N : Nat} {p0 : (List RDecl)} {p1 : (List Int)} {r : Bool} (h0 : impl_allTypes N p0 p1 = some r) : ACalls Tryz.prog 141 [(ls eRDecl p0), (ls eI p1)] [] (fun v st => v = (.bool r) ∧ st = []) := by
 unfold impl_allTypes at h0
 refine ai Tryz.func141 rfl rfl rfl rfl (zr tb rfl rfl (AW.seq fun K2 hK2 => sr rfl fun K3 hK3 => zq tb rfl (zl tb rfl rfl (zq tb rfl (dn hK3 rfl ?_)))))
 obtain ⟨o5, h1, h0⟩ := Sh.cont_some h0
 have M5 : ∀ (_ : Unit), o5 = Sum.inr () → ∀ s, Wk 0 s ⟨18, envL [], []⟩ → K2 s := by
  intro _ hq s hw
  subst o5
  try dsimp only at h0
  refine hK2 _ (AW.weaken hw (zr tb rfl rfl ?_))
  replace h0 := Sh.some_eq h0
  subst r
  exact AW.ret (xr (Wk.to (L := [(4, (.bool true))]) ⟨.rfl, trivial⟩))
 refine AW.block (AW.loopF (σ := Int) (fun n v => impl_allTypes_L1 p0 p1 n v = some o5) (fun t4 => ⟨18, envL [(0, (ls eRDecl p0)), (7, (ls eI p1)), (8, (i64 (Sh.len p1))), (9, (i64 t4))], []⟩) N 0 h1 (Wk.tr rfl) (fun _ hv => by rw [impl_allTypes_L1] at hv; cases hv) ?_)
 rintro n t4 h1
 try dsimp only at h1 ⊢
 rw [impl_allTypes_L1] at h1
 refine zr tb rfl rfl (AW.seq fun K8 hK8 => ?_)
 refine ci h1 rfl ?_ ?_ <;> clear h1
 ·intro b9 h1
  refine AW.skip (hK8 _ (AW.seq fun K10 hK10 => AW.block (sr rfl fun K11 hK11 => bs h1 fun c12 gc12 h1 => zx ei26 gc12 rfl rfl rfl (zm tb 2 rfl (dn hK11 rfl (sr rfl fun K13 hK13 => zm tb 2 rfl (bs h1 fun q14 gq14 h1 => zc hb142 (impl_isType_ok gq14) rfl rfl rfl ?_)))))))
  refine zq tb rfl (dn hK13 rfl ?_)
  refine ci h1 rfl ?_ ?_ <;> clear h1
  ·intro b15 h1
   have b16 : q14 = false := by simpa using b15
   refine zr tb rfl rfl ?_
   replace h1 := Sh.some_eq h1
   subst o5
   try dsimp only [id] at h0
   replace h0 := Sh.some_eq h0
   subst r
   exact AW.ret (xr (Wk.to (L := [(4, (.bool false))]) ⟨.rfl, trivial⟩))
  ·intro b15 h1
   have b18 : q14 = true := by simpa using b15
   exact AW.skip (hK10 _ (AW.regionO rfl (zm tb 2 rfl (AO.done (xi (Sh.w (t4 + 1)) h1 (Wk.tr rfl))))))
 ·intro b9 h1
  exact AW.exit (M5 () (Sh.some_eq h1).symm _ (Wk.tr rfl))
theorem impl_ValidTypes_ok {N : Nat} {p0 : (List RDecl)} {r : Bool} (h0 : impl_ValidTypes N p0 = some r) : ACalls Tryz.prog 140 [(ls eRDecl p0)] [] (fun v st => v = (.bool r) ∧ st = []) := by
 unfold impl_ValidTypes at h0
 refine ai Tryz.func140 rfl rfl rfl rfl (zr tb rfl rfl (AW.seq fun K2 hK2 => sr rfl fun K3 hK3 => zq tb rfl (zl tb rfl rfl (zq tb rfl (dn hK3 rfl ?_)))))
 refine ci h0 rfl ?_ ?_ <;> clear h0
 ·intro b4 h0
  refine zr tb rfl rfl ?_
  replace h0 := Sh.some_eq h0
  subst r
  exact AW.ret (xr (Wk.to (L := [(2, (.bool false))]) ⟨.rfl, trivial⟩))
 ·intro b4 h0
  refine AW.skip (hK2 _ (AW.seq fun K6 hK6 => sr rfl fun K7 hK7 => zq tb rfl (zl tb rfl rfl (zq tb rfl (dn hK7 rfl ?_)))))
  obtain ⟨o9, h1, h0⟩ := Sh.cont_some h0
  have M9 : ∀ (_ : Unit), o9 = Sum.inr () → ∀ s, Wk 0 s ⟨106, envL [], []⟩ → K6 s := by
   intro _ hq s hw
   subst o9
   try dsimp only at h0
   refine hK6 _ (AW.weaken hw (zr tb rfl rfl ?_))
   replace h0 := Sh.some_eq h0
   subst r
   exact AW.ret (xr (Wk.to (L := [(2, (.bool true))]) ⟨.rfl, trivial⟩))
  refine AW.block (AW.loopF (σ := Int) (fun n v => impl_ValidTypes_L1 N p0 n v = some o9) (fun t8 => ⟨106, envL [(0, (ls eRDecl p0)), (12, (ls eRDecl p0)), (13, (i64 (Sh.len p0))), (14, (i64 t8))], []⟩) N 0 h1 (Wk.tr rfl) (fun _ hv => by rw [impl_ValidTypes_L1] at hv; cases hv) ?_)
  rintro n t8 h1
  try dsimp only at h1 ⊢
  rw [impl_ValidTypes_L1] at h1
  refine zr tb rfl rfl (AW.seq fun K12 hK12 => ?_)
  refine ci h1 rfl ?_ ?_ <;> clear h1
  ·intro b13 h1
   refine AW.skip (hK12 _ (AW.seq fun K14 hK14 => AW.block (sr rfl fun K15 hK15 => zq tb rfl (bs h1 fun c16 gc16 h1 => zx ei34 gc16 rfl rfl rfl (zq tb rfl (ao_alloc (m := 0) go0 zi98 rfl rfl (zq tb rfl (ao_str go0 ti98 rfl rfl rfl rfl rfl rfl (show 0 + 3 ≤ 3 by decide) rfl (dn hK15 rfl ?_)))))))))
   refine AW.seq fun K17 hK17 => AW.seq fun K18 hK18 => bs h1 fun o20 h2 h1 => ?_
   have M20 : ∀ (t19 : Bool), o20 = t19 → ∀ s, Wk 0 s ⟨106, envL [(0, (ls eRDecl p0)), (3, (i64 t8)), (4, (.ptr 0 0 0 0)), (12, (ls eRDecl p0)), (13, (i64 (Sh.len p0))), (14, (i64 t8)), (52, (.bool t19))], [⟨0, 98, 3, [(eRDecl c16)]⟩]⟩ → K18 s := by
    intro t19 hq s hw
    subst o20
    try dsimp only at h1
    refine hK18 _ (AW.weaken hw ?_)
    refine ci h1 rfl ?_ ?_ <;> clear h1
    ·intro b21 h1
     refine zr tb rfl rfl ?_
     replace h1 := Sh.some_eq h1
     subst o9
     try dsimp only [id] at h0
     replace h0 := Sh.some_eq h0
     subst r
     exact AW.ret (xr (Wk.d0 [(2, (.bool false))] rfl))
    ·intro b21 h1
     refine AW.skip (hK17 _ (AW.seq fun K23 hK23 => sr rfl fun K24 hK24 => zm tb 2 rfl (zl tb rfl rfl (zq tb rfl (dn hK24 rfl ?_)))))
     obtain ⟨o26, h2, h1⟩ := Sh.cont_some h1
     have M26 : ∀ (_ : Unit), o26 = Sum.inr () → ∀ s, Wk 0 s ⟨106, envL [(0, (ls eRDecl p0)), (3, (i64 t8)), (4, (.ptr 0 0 0 0)), (12, (ls eRDecl p0)), (13, (i64 (Sh.len p0))), (14, (i64 t8))], [⟨0, 98, 3, [(eRDecl c16)]⟩]⟩ → K23 s := by
      intro _ hq s hw
      subst o26
      try dsimp only at h1
      refine hK23 _ (AW.weaken hw (sr rfl fun K27 hK27 => zm tb 2 rfl (bs h1 fun l28 gl28 h1 => ao_sls (i := 0) (j := t8) go0 ei34 rfl rfl rfl (fun _ => rfl) gl28 (zl tb rfl rfl (zq tb rfl (dn hK27 rfl ?_))))))
      obtain ⟨o30, h2, h1⟩ := Sh.cont_some h1
      have M30 : ∀ (_ : Unit), o30 = Sum.inr () → ∀ s, Wk 0 s ⟨106, envL [(0, (ls eRDecl p0)), (12, (ls eRDecl p0)), (13, (i64 (Sh.len p0))), (14, (i64 t8))], []⟩ → K14 s := by
       intro _ hq s hw
       subst o30
       try dsimp only at h1
       exact hK14 _ (AW.weaken hw (AW.regionO rfl (zm tb 2 rfl (AO.done (xi (Sh.w (t8 + 1)) h1 (Wk.tr rfl))))))
      refine AW.block (AW.loopF (σ := Int) (fun n v => impl_ValidTypes_L3 c16 l28 n v = some o30) (fun t29 => ⟨106, envL [(0, (ls eRDecl p0)), (4, (.ptr 0 0 0 0)), (12, (ls eRDecl p0)), (13, (i64 (Sh.len p0))), (14, (i64 t8)), (74, (ls eRDecl l28)), (75, (i64 (Sh.len l28))), (76, (i64 t29))], [⟨0, 98, 3, [(eRDecl c16)]⟩]⟩) N 0 h2 (Wk.tr rfl) (fun _ hv => by rw [impl_ValidTypes_L3] at hv; cases hv) ?_)
      rintro n t29 h2
      try dsimp only at h2 ⊢
      rw [impl_ValidTypes_L3] at h2
      refine zr tb rfl rfl (AW.seq fun K32 hK32 => ?_)
      refine ci h2 rfl ?_ ?_ <;> clear h2
      ·intro b33 h2
       refine AW.skip (hK32 _ (AW.seq fun K34 hK34 => AW.block (sr rfl fun K35 hK35 => bs h2 fun c36 gc36 h2 => zx ei34 gc36 rfl rfl rfl (zq tb rfl (ao_alloc (m := 1) go0 zi98 rfl rfl (ao_str go0 ti98 rfl rfl rfl rfl rfl rfl (show 0 + 3 ≤ 3 by decide) rfl (dn hK35 rfl (AW.seq fun K37 hK37 => bs h2 fun o39 h3 h2 => ?_))))))))
       have M39 : ∀ (t38 : Bool), o39 = t38 → ∀ s, Wk 0 s ⟨106, envL [(0, (ls eRDecl p0)), (4, (.ptr 0 0 0 0)), (12, (ls eRDecl p0)), (13, (i64 (Sh.len p0))), (14, (i64 t8)), (74, (ls eRDecl l28)), (75, (i64 (Sh.len l28))), (76, (i64 t29)), (103, (.bool t38))], [⟨0, 98, 3, [(eRDecl c16)]⟩]⟩ → K37 s := by
        intro t38 hq s hw
        subst o39
        try dsimp only at h2
        refine hK37 _ (AW.weaken hw ?_)
        refine ci h2 rfl ?_ ?_ <;> clear h2
        ·intro b40 h2
         refine zr tb rfl rfl ?_
         replace h2 := Sh.some_eq h2
         subst o30
         try dsimp only [id] at h1
         replace h1 := Sh.some_eq h1
         subst o9
         try dsimp only [id] at h0
         replace h0 := Sh.some_eq h0
         subst r
         exact AW.ret (xr (Wk.d0 [(2, (.bool false))] rfl))
        ·intro b40 h2
         exact AW.skip (hK34 _ (AW.regionO rfl (zm tb 2 rfl (AO.done (xi (Sh.w (t29 + 1)) h2 (Wk.tr rfl))))))
       refine AW.regionO rfl (zm tb 2 rfl (zl tb rfl rfl (zm tb 2 rfl ?_)))
       rcases Sh.ite_some h3 with ⟨b42, h3⟩ | ⟨b42, h3⟩
       ·refine zg tb b42 rfl (zg tb b42 rfl (ao_q (v := (i64 (Sh.len c36.cons))) (go1 rfl rfl b42) rfl (aq_lens sl96 rfl) (zg tb b42 rfl (zt b42 rfl (zq tb rfl ?_)))))
        rcases Sh.ite_some h3 with ⟨b43, h3⟩ | ⟨b43, h3⟩
        ·refine zg tb b43 rfl ?_
         iterate 4 refine zg tb b43 rfl ?_
         refine zt b43 rfl (zq tb rfl ?_)
         rcases Sh.ite_some h3 with ⟨b44, h3⟩ | ⟨b44, h3⟩
         ·refine zg tb b44 rfl ?_
          iterate 4 refine zg tb b44 rfl ?_
          refine zt b44 rfl ?_
          exact AO.done (M39 (decide (c36.to = c16.to)) (Sh.some_eq h3).symm _ (Wk.permk (L := [(0, (ls eRDecl p0)), (4, (.ptr 0 0 0 0)), (12, (ls eRDecl p0)), (13, (i64 (Sh.len p0))), (14, (i64 t8)), (74, (ls eRDecl l28)), (75, (i64 (Sh.len l28))), (76, (i64 t29)), (103, (.bool (decide (c36.to = c16.to))))]) (st' := [⟨0, 98, 3, [(eRDecl c16)]⟩]) (st1 := [⟨0, 98, 3, [(eRDecl c16)]⟩]) [0] rfl .nil (by decide) rfl rfl (.raw rfl rfl .nil) ⟨.rfl, .rfl, .rfl, .rfl, .rfl, .rfl, .rfl, .rfl, .rfl, trivial⟩))
         ·refine zs b44 rfl ?_
          iterate 4 refine zs b44 rfl ?_
          refine zf b44 rfl ?_
          exact AO.done (M39 false (Sh.some_eq h3).symm _ (Wk.permk (L := [(0, (ls eRDecl p0)), (4, (.ptr 0 0 0 0)), (12, (ls eRDecl p0)), (13, (i64 (Sh.len p0))), (14, (i64 t8)), (74, (ls eRDecl l28)), (75, (i64 (Sh.len l28))), (76, (i64 t29)), (103, (.bool false))]) (st' := [⟨0, 98, 3, [(eRDecl c16)]⟩]) (st1 := [⟨0, 98, 3, [(eRDecl c16)]⟩]) [0] rfl .nil (by decide) rfl rfl (.raw rfl rfl .nil) ⟨.rfl, .rfl, .rfl, .rfl, .rfl, .rfl, .rfl, .rfl, .rfl, trivial⟩))
        ·refine zs b43 rfl ?_
         iterate 4 refine zs b43 rfl ?_
         refine zf b43 rfl (zq tb rfl ?_)
         iterate 5 refine zs rfl rfl ?_
         refine zf rfl rfl ?_
         exact AO.done (M39 false (Sh.some_eq h3).symm _ (Wk.permk (L := [(0, (ls eRDecl p0)), (4, (.ptr 0 0 0 0)), (12, (ls eRDecl p0)), (13, (i64 (Sh.len p0))), (14, (i64 t8)), (74, (ls eRDecl l28)), (75, (i64 (Sh.len l28))), (76, (i64 t29)), (103, (.bool false))]) (st' := [⟨0, 98, 3, [(eRDecl c16)]⟩]) (st1 := [⟨0, 98, 3, [(eRDecl c16)]⟩]) [0] rfl .nil (by decide) rfl rfl (.raw rfl rfl .nil) ⟨.rfl, .rfl, .rfl, .rfl, .rfl, .rfl, .rfl, .rfl, .rfl, trivial⟩))
       ·refine zs b42 rfl ?_
        iterate 3 refine zs b42 rfl ?_
        refine zf b42 rfl (zq tb rfl ?_)
        iterate 5 refine zs rfl rfl ?_
        refine zf rfl rfl (zq tb rfl ?_)
        iterate 5 refine zs rfl rfl ?_
        refine zf rfl rfl ?_
        exact AO.done (M39 false (Sh.some_eq h3).symm _ (Wk.permk (L := [(0, (ls eRDecl p0)), (4, (.ptr 0 0 0 0)), (12, (ls eRDecl p0)), (13, (i64 (Sh.len p0))), (14, (i64 t8)), (74, (ls eRDecl l28)), (75, (i64 (Sh.len l28))), (76, (i64 t29)), (103, (.bool false))]) (st' := [⟨0, 98, 3, [(eRDecl c16)]⟩]) (st1 := [⟨0, 98, 3, [(eRDecl c16)]⟩]) [0] rfl .nil (by decide) rfl rfl (.raw rfl rfl .nil) ⟨.rfl, .rfl, .rfl, .rfl, .rfl, .rfl, .rfl, .rfl, .rfl, trivial⟩))
      ·intro b33 h2
       exact AW.exit (M30 () (Sh.some_eq h2).symm _ (Wk.d0 _ rfl))
     refine AW.block (AW.loopF (σ := Int) (fun n v => impl_ValidTypes_L2 N c16 p0 n v = some o26) (fun t25 => ⟨106, envL [(0, (ls eRDecl p0)), (3, (i64 t8)), (4, (.ptr 0 0 0 0)), (12, (ls eRDecl p0)), (13, (i64 (Sh.len p0))), (14, (i64 t8)), (54, (ls eRCon c16.cons)), (55, (i64 (Sh.len c16.cons))), (56, (i64 t25))], [⟨0, 98, 3, [(eRDecl c16)]⟩]⟩) N 0 h2 (Wk.tr rfl) (fun _ hv => by rw [impl_ValidTypes_L2] at hv; cases hv) ?_)
     rintro n t25 h2
     try dsimp only at h2 ⊢
     rw [impl_ValidTypes_L2] at h2
     refine zr tb rfl rfl (AW.seq fun K46 hK46 => ?_)
     refine ci h2 rfl ?_ ?_ <;> clear h2
     ·intro b47 h2
      refine AW.skip (hK46 _ (AW.seq fun K48 hK48 => AW.block (sr rfl fun K49 hK49 => bs h2 fun c50 gc50 h2 => zx ei96 gc50 rfl rfl rfl (zq tb rfl (ao_alloc (m := 1) go0 zi148 rfl rfl (ao_str go0 ti148 rfl rfl rfl rfl rfl rfl (show 0 + 1 ≤ 1 by decide) rfl (dn hK49 rfl (AW.seq fun K51 hK51 => bs h2 fun o53 h3 h2 => ?_))))))))
      have M53 : ∀ (t52 : Bool), o53 = t52 → ∀ s, Wk 0 s ⟨106, envL [(0, (ls eRDecl p0)), (3, (i64 t8)), (4, (.ptr 0 0 0 0)), (12, (ls eRDecl p0)), (13, (i64 (Sh.len p0))), (14, (i64 t8)), (54, (ls eRCon c16.cons)), (55, (i64 (Sh.len c16.cons))), (56, (i64 t25)), (70, (.bool t52))], [⟨0, 98, 3, [(eRDecl c16)]⟩]⟩ → K51 s := by
       intro t52 hq s hw
       subst o53
       try dsimp only at h2
       refine hK51 _ (AW.weaken hw ?_)
       refine ci h2 rfl ?_ ?_ <;> clear h2
       ·intro b54 h2
        refine zr tb rfl rfl ?_
        replace h2 := Sh.some_eq h2
        subst o26
        try dsimp only [id] at h1
        replace h1 := Sh.some_eq h1
        subst o9
        try dsimp only [id] at h0
        replace h0 := Sh.some_eq h0
        subst r
        exact AW.ret (xr (Wk.d0 [(2, (.bool false))] rfl))
       ·intro b54 h2
        exact AW.skip (hK48 _ (AW.regionO rfl (zm tb 2 rfl (AO.done (xi (Sh.w (t25 + 1)) h2 (Wk.tr rfl))))))
      refine AW.regionO rfl (zm tb 2 rfl (zl tb rfl rfl (zm tb 2 rfl ?_)))
      rcases Sh.ite_some h3 with ⟨b56, h3⟩ | ⟨b56, h3⟩
      ·refine zs b56 rfl ?_
       iterate 4 refine zs b56 rfl ?_
       refine zt b56 rfl ?_
       exact AO.done (M53 true (Sh.some_eq h3).symm _ (Wk.permk (L := [(0, (ls eRDecl p0)), (3, (i64 t8)), (4, (.ptr 0 0 0 0)), (12, (ls eRDecl p0)), (13, (i64 (Sh.len p0))), (14, (i64 t8)), (54, (ls eRCon c16.cons)), (55, (i64 (Sh.len c16.cons))), (56, (i64 t25)), (70, (.bool true))]) (st' := [⟨0, 98, 3, [(eRDecl c16)]⟩]) (st1 := [⟨0, 98, 3, [(eRDecl c16)]⟩]) [0] rfl .nil (by decide) rfl rfl (.raw rfl rfl .nil) ⟨.rfl, .rfl, .rfl, .rfl, .rfl, .rfl, .rfl, .rfl, .rfl, .rfl, trivial⟩))
      ·refine zg tb b56 rfl (zg tb b56 rfl (zg tb b56 rfl (bs h3 fun q57 gq57 h3 => zd b56 hb141 (impl_allTypes_ok gq57) rfl rfl rfl rfl (zg tb b56 rfl (zf b56 rfl ?_)))))
       exact AO.done (M53 (!q57) (Sh.some_eq h3).symm _ (Wk.permk (L := [(0, (ls eRDecl p0)), (3, (i64 t8)), (4, (.ptr 0 0 0 0)), (12, (ls eRDecl p0)), (13, (i64 (Sh.len p0))), (14, (i64 t8)), (54, (ls eRCon c16.cons)), (55, (i64 (Sh.len c16.cons))), (56, (i64 t25)), (70, (.bool (!q57)))]) (st' := [⟨0, 98, 3, [(eRDecl c16)]⟩]) (st1 := [⟨0, 98, 3, [(eRDecl c16)]⟩]) [0] rfl .nil (by decide) rfl rfl (.raw rfl rfl .nil) ⟨.rfl, .rfl, .rfl, .rfl, .rfl, .rfl, .rfl, .rfl, .rfl, .rfl, trivial⟩))
     ·intro b47 h2
      exact AW.exit (M26 () (Sh.some_eq h2).symm _ (Wk.tr rfl))
   refine AW.regionO rfl (zm tb 3 rfl (bs h2 fun q58 gq58 h2 => zc hb142 (impl_isType_ok gq58) rfl rfl rfl (zm tb 2 rfl ?_)))
   rcases Sh.ite_some h2 with ⟨b59, h2⟩ | ⟨b59, h2⟩
   ·refine zs b59 rfl ?_
    iterate 4 refine zs b59 rfl ?_
    refine zt b59 rfl (zq tb rfl ?_)
    iterate 4 refine zs rfl rfl ?_
    refine zt rfl rfl (zq tb rfl ?_)
    iterate 5 refine zs rfl rfl ?_
    iterate 8 refine zn rfl ?_
    exact zs rfl rfl (zt rfl rfl (AO.done (M20 true (Sh.some_eq h2).symm _ (Wk.tr rfl))))
   ·refine zg tb b59 rfl (zg tb b59 rfl (zg tb b59 rfl (bs h2 fun q60 gq60 h2 => zd b59 hb142 (impl_isType_ok gq60) rfl rfl rfl rfl (zg tb b59 rfl (zf b59 rfl (zq tb rfl ?_))))))
    rcases Sh.ite_some h2 with ⟨b61, h2⟩ | ⟨b61, h2⟩
    ·refine zs b61 rfl ?_
     iterate 3 refine zs b61 rfl ?_
     refine zt b61 rfl (zq tb rfl ?_)
     iterate 5 refine zs rfl rfl ?_
     iterate 8 refine zn rfl ?_
     exact zs rfl rfl (zt rfl rfl (AO.done (M20 true (Sh.some_eq h2).symm _ (Wk.tr rfl))))
    ·refine zg tb b61 rfl (zg tb b61 rfl (ao_q (v := (i64 (Sh.len c16.cons))) (go1 rfl rfl b61) rfl (aq_lens sl96 rfl) (zg tb b61 rfl (zf b61 rfl (zq tb rfl ?_)))))
     rcases Sh.ite_some h2 with ⟨b62, h2⟩ | ⟨b62, h2⟩
     ·refine zs b62 rfl ?_
      iterate 4 refine zs b62 rfl ?_
      iterate 8 refine zn rfl ?_
      exact zs b62 rfl (zt b62 rfl (AO.done (M20 true (Sh.some_eq h2).symm _ (Wk.tr rfl))))
     ·refine zg tb b62 rfl (zg tb b62 rfl (ao_q (v := (i64 (Sh.len c16.cons))) (go1 rfl rfl b62) rfl (aq_lens sl96 rfl) (zg tb b62 rfl (zg tb b62 rfl ?_))))
      rcases Sh.ite_some h2 with ⟨b63, h2⟩ | ⟨b63, h2⟩
      ·refine zg tb b63 rfl ?_
       iterate 3 refine zg tb b63 rfl ?_
       rcases Sh.ite_some h2 with ⟨b64, h2⟩ | ⟨b64, h2⟩
       ·exact zs b64 rfl (zs b64 rfl (zs b64 rfl (ao_q (v := (.bool true)) (go1 rfl rfl b63) rfl (aq_pkt rfl b64 rfl) (ao_q (v := (.bool true)) (go1 rfl rfl b62) rfl (aq_pkt rfl b63 rfl) (zf b62 rfl (AO.done (M20 true (Sh.some_eq h2).symm _ (Wk.tr rfl))))))))
       ·exact zg tb b64 rfl (zg tb b64 rfl (zg tb b64 rfl (ao_q (v := (.bool (!decide (c16.to = 0)))) (go1 rfl rfl b63) rfl (aq_pkf rfl b64 rfl) (ao_q (v := (.bool (!decide (c16.to = 0)))) (go1 rfl rfl b62) rfl (aq_pkt rfl b63 rfl) (zf b62 rfl (AO.done (M20 (!decide (c16.to = 0)) (Sh.some_eq h2).symm _ (Wk.tr rfl))))))))
      ·refine zs b63 rfl ?_
       iterate 3 refine zs b63 rfl ?_
       iterate 3 refine zn rfl ?_
       exact zs b63 rfl (ao_q (v := (.bool false)) (go1 rfl rfl b62) rfl (aq_pkf rfl b63 rfl) (zf b62 rfl (AO.done (M20 false (Sh.some_eq h2).symm _ (Wk.tr rfl)))))
  ·intro b13 h1
   exact AW.exit (M9 () (Sh.some_eq h1).symm _ (Wk.tr rfl))
theorem impl_validSigs_ok {N : Nat} {p0 : (List RDecl)} {p1 : (List RSignature)} {r : Bool} (h0 : impl_validSigs N p0 p1 = some r) : ACalls Tryz.prog 123 [(ls eRDecl p0), (ls eRSignature p1)] [] (fun v st => v = (.bool r) ∧ st = []) := by
 unfold impl_validSigs at h0
 refine ai Tryz.func123 rfl rfl rfl rfl (zr tb rfl rfl (AW.seq fun K2 hK2 => AW.seq fun K3 hK3 => bs h0 fun o5 h1 h0 => ?_))
 have M5 : ∀ (t4 : Bool), o5 = t4 → ∀ s, Wk 0 s ⟨102, envL [(0, (ls eRDecl p0)), (1, (ls eRSignature p1)), (36, (.bool t4))], []⟩ → K3 s := by
  intro t4 hq s hw
  subst o5
  try dsimp only at h0
  refine hK3 _ (AW.weaken hw ?_)
  refine ci h0 rfl ?_ ?_ <;> clear h0
  ·intro b6 h0
   refine zr tb rfl rfl ?_
   replace h0 := Sh.some_eq h0
   subst r
   exact AW.ret (xr (Wk.to (L := [(4, (.bool false))]) ⟨.rfl, trivial⟩))
  ·intro b6 h0
   refine AW.skip (hK2 _ (AW.seq fun K8 hK8 => sr rfl fun K9 hK9 => zq tb rfl (zl tb rfl rfl (zq tb rfl (dn hK9 rfl ?_)))))
   obtain ⟨o11, h1, h0⟩ := Sh.cont_some h0
   have M11 : ∀ (_ : Unit), o11 = Sum.inr () → ∀ s, Wk 0 s ⟨102, envL [], []⟩ → K8 s := by
    intro _ hq s hw
    subst o11
    try dsimp only at h0
    refine hK8 _ (AW.weaken hw (zr tb rfl rfl ?_))
    replace h0 := Sh.some_eq h0
    subst r
    exact AW.ret (xr (Wk.to (L := [(4, (.bool true))]) ⟨.rfl, trivial⟩))
   refine AW.block (AW.loopF (σ := Int) (fun n v => impl_validSigs_L1 N p0 p1 n v = some o11) (fun t10 => ⟨102, envL [(0, (ls eRDecl p0)), (37, (ls eRSignature p1)), (38, (i64 (Sh.len p1))), (39, (i64 t10))], []⟩) N 0 h1 (Wk.tr rfl) (fun _ hv => by rw [impl_validSigs_L1] at hv; cases hv) ?_)
   rintro n t10 h1
   try dsimp only at h1 ⊢
   rw [impl_validSigs_L1] at h1
   refine zr tb rfl rfl (AW.seq fun K14 hK14 => ?_)
   refine ci h1 rfl ?_ ?_ <;> clear h1
   ·intro b15 h1
    refine AW.skip (hK14 _ (AW.seq fun K16 hK16 => AW.block (sr rfl fun K17 hK17 => bs h1 fun c18 gc18 h1 => zx ei132 gc18 rfl rfl rfl (zq tb rfl (ao_alloc (m := 0) go0 zi172 rfl rfl (ao_str go0 ti172 rfl rfl rfl rfl rfl rfl (show 0 + 3 ≤ 3 by decide) rfl (dn hK17 rfl (AW.seq fun K19 hK19 => AW.seq fun K20 hK20 => ?_))))))))
    refine bs h1 fun o22 h2 h1 => ?_
    have M22 : ∀ (t21 : Bool), o22 = t21 → ∀ s, Wk 0 s ⟨102, envL [(0, (ls eRDecl p0)), (6, (.ptr 0 0 0 0)), (37, (ls eRSignature p1)), (38, (i64 (Sh.len p1))), (39, (i64 t10)), (60, (.bool t21))], [⟨0, 172, 3, [[(ls eI c18.params), (ls eI c18.lent), (i64 c18.result)]]⟩]⟩ → K20 s := by
     intro t21 hq s hw
     subst o22
     try dsimp only at h1
     refine hK20 _ (AW.weaken hw ?_)
     refine ci h1 rfl ?_ ?_ <;> clear h1
     ·intro b23 h1
      refine zr tb rfl rfl ?_
      replace h1 := Sh.some_eq h1
      subst o11
      try dsimp only [id] at h0
      replace h0 := Sh.some_eq h0
      subst r
      exact AW.ret (xr (Wk.d0 [(4, (.bool false))] rfl))
     ·intro b23 h1
      refine AW.skip (hK19 _ (sr rfl fun K25 hK25 => zm tb 2 rfl (zl tb rfl rfl (zq tb rfl (dn hK25 rfl ?_)))))
      obtain ⟨o27, h2, h1⟩ := Sh.cont_some h1
      have M27 : ∀ (_ : Unit), o27 = Sum.inr () → ∀ s, Wk 0 s ⟨102, envL [(0, (ls eRDecl p0)), (37, (ls eRSignature p1)), (38, (i64 (Sh.len p1))), (39, (i64 t10))], []⟩ → K16 s := by
       intro _ hq s hw
       subst o27
       try dsimp only at h1
       exact hK16 _ (AW.weaken hw (AW.regionO rfl (zm tb 2 rfl (AO.done (xi (Sh.w (t10 + 1)) h1 (Wk.tr rfl))))))
      refine AW.block (AW.loopF (σ := Int) (fun n v => impl_validSigs_L2 c18 n v = some o27) (fun t26 => ⟨102, envL [(0, (ls eRDecl p0)), (6, (.ptr 0 0 0 0)), (37, (ls eRSignature p1)), (38, (i64 (Sh.len p1))), (39, (i64 t10)), (62, (ls eI c18.lent)), (63, (i64 (Sh.len c18.lent))), (64, (i64 t26))], [⟨0, 172, 3, [[(ls eI c18.params), (ls eI c18.lent), (i64 c18.result)]]⟩]⟩) N 0 h2 (Wk.tr rfl) (fun _ hv => by rw [impl_validSigs_L2] at hv; cases hv) ?_)
      rintro n t26 h2
      try dsimp only at h2 ⊢
      rw [impl_validSigs_L2] at h2
      refine zr tb rfl rfl (AW.seq fun K29 hK29 => ?_)
      refine ci h2 rfl ?_ ?_ <;> clear h2
      ·intro b30 h2
       refine AW.skip (hK29 _ (AW.seq fun K31 hK31 => AW.block (sr rfl fun K32 hK32 => zq tb rfl (bs h2 fun c33 gc33 h2 => zx ei26 gc33 rfl rfl rfl (zm tb 3 rfl (dn hK32 rfl (AW.seq fun K34 hK34 => bs h2 fun o36 h3 h2 => ?_)))))))
       have M36 : ∀ (t35 : Bool), o36 = t35 → ∀ s, Wk 0 s ⟨102, envL [(0, (ls eRDecl p0)), (6, (.ptr 0 0 0 0)), (37, (ls eRSignature p1)), (38, (i64 (Sh.len p1))), (39, (i64 t10)), (62, (ls eI c18.lent)), (63, (i64 (Sh.len c18.lent))), (64, (i64 t26)), (99, (.bool t35))], [⟨0, 172, 3, [[(ls eI c18.params), (ls eI c18.lent), (i64 c18.result)]]⟩]⟩ → K34 s := by
        intro t35 hq s hw
        subst o36
        try dsimp only at h2
        refine hK34 _ (AW.weaken hw ?_)
        refine ci h2 rfl ?_ ?_ <;> clear h2
        ·intro b37 h2
         refine zr tb rfl rfl ?_
         replace h2 := Sh.some_eq h2
         subst o27
         try dsimp only [id] at h1
         replace h1 := Sh.some_eq h1
         subst o11
         try dsimp only [id] at h0
         replace h0 := Sh.some_eq h0
         subst r
         exact AW.ret (xr (Wk.d0 [(4, (.bool false))] rfl))
        ·intro b37 h2
         exact AW.skip (hK31 _ (AW.regionO rfl (zm tb 2 rfl (AO.done (xi (Sh.w (t26 + 1)) h2 (Wk.tr rfl))))))
       refine AW.regionO rfl (zm tb 3 rfl ?_)
       rcases Sh.ite_some h3 with ⟨b39, h3⟩ | ⟨b39, h3⟩
       ·refine zs b39 rfl ?_
        iterate 4 refine zs b39 rfl ?_
        refine zt b39 rfl (zq tb rfl ?_)
        iterate 6 refine zs rfl rfl ?_
        refine zt rfl rfl (zq tb rfl ?_)
        iterate 3 refine zs rfl rfl ?_
        iterate 8 refine zn rfl ?_
        exact zs rfl rfl (zt rfl rfl (AO.done (M36 true (Sh.some_eq h3).symm _ (Wk.tr rfl))))
       ·refine zg tb b39 rfl (zg tb b39 rfl (zg tb b39 rfl (ao_q (v := (i64 (Sh.len c18.params))) (go1 rfl rfl b39) rfl (aq_lens sl26 rfl) (zg tb b39 rfl (zf b39 rfl (zq tb rfl ?_))))))
        rcases Sh.ite_some h3 with ⟨b40, h3⟩ | ⟨b40, h3⟩
        ·refine zs b40 rfl ?_
         iterate 5 refine zs b40 rfl ?_
         refine zt b40 rfl (zq tb rfl ?_)
         iterate 3 refine zs rfl rfl ?_
         iterate 8 refine zn rfl ?_
         exact zs rfl rfl (zt rfl rfl (AO.done (M36 true (Sh.some_eq h3).symm _ (Wk.tr rfl))))
        ·refine zg tb b40 rfl (zg tb b40 rfl (zg tb b40 rfl (bs h3 fun c41 gc41 h3 => ao_q (v := (.iptr (eI c41) 0)) (go1 rfl rfl b40) rfl (aq_ixs ei26 rfl rfl gc41 rfl) (zg tb b40 rfl (zg tb b40 rfl (zf b40 rfl (zq tb rfl ?_)))))))
         rcases Sh.ite_some h3 with ⟨b42, h3⟩ | ⟨b42, h3⟩
         ·refine zs b42 rfl (zs b42 rfl (zs b42 rfl ?_))
          iterate 8 refine zn rfl ?_
          exact zs b42 rfl (zt b42 rfl (AO.done (M36 true (Sh.some_eq h3).symm _ (Wk.tr rfl))))
         ·refine zg tb b42 rfl (zg tb b42 rfl (zg tb b42 rfl ?_))
          rcases Sh.ite_some h3 with ⟨b43, h3⟩ | ⟨b43, h3⟩
          ·refine zg tb b43 rfl ?_
           iterate 4 refine zg tb b43 rfl ?_
           exact bs h3 fun c44 gc44 h3 => ao_q (v := (.iptr (eI c44) 0)) (go1 rfl rfl b43) rfl (aq_ixs ei26 rfl rfl gc44 rfl) (zg tb b43 rfl (zg tb b43 rfl (ao_q (v := (.bool (decide (c33 ≤ c44)))) (go1 rfl rfl b42) rfl (aq_pkt rfl b43 rfl) (zf b42 rfl (AO.done (M36 (decide (c33 ≤ c44)) (Sh.some_eq h3).symm _ (Wk.tr rfl)))))))
          ·refine zs b43 rfl ?_
           iterate 7 refine zs b43 rfl ?_
           exact ao_q (v := (.bool false)) (go1 rfl rfl b42) rfl (aq_pkf rfl b43 rfl) (zf b42 rfl (AO.done (M36 false (Sh.some_eq h3).symm _ (Wk.tr rfl))))
      ·intro b30 h2
       exact AW.exit (M27 () (Sh.some_eq h2).symm _ (Wk.d0 _ rfl))
    refine AW.regionO rfl (zm tb 2 rfl (zl tb rfl rfl (zm tb 2 rfl ?_)))
    rcases Sh.ite_some h2 with ⟨b45, h2⟩ | ⟨b45, h2⟩
    ·refine zs b45 rfl ?_
     iterate 4 refine zs b45 rfl ?_
     refine zt b45 rfl (zq tb rfl ?_)
     iterate 5 refine zs rfl rfl ?_
     exact zt rfl rfl (AO.done (M22 true (Sh.some_eq h2).symm _ (Wk.tr rfl)))
    ·refine zg tb b45 rfl (zg tb b45 rfl (zg tb b45 rfl (bs h2 fun q46 gq46 h2 => zd b45 hb141 (impl_allTypes_ok gq46) rfl rfl rfl rfl (zg tb b45 rfl (zf b45 rfl (zq tb rfl ?_))))))
     rcases Sh.ite_some h2 with ⟨b47, h2⟩ | ⟨b47, h2⟩
     ·refine zs b47 rfl ?_
      iterate 4 refine zs b47 rfl ?_
      exact zt b47 rfl (AO.done (M22 true (Sh.some_eq h2).symm _ (Wk.tr rfl)))
     ·exact zg tb b47 rfl (zg tb b47 rfl (zg tb b47 rfl (bs h2 fun q48 gq48 h2 => zd b47 hb142 (impl_isType_ok gq48) rfl rfl rfl rfl (zg tb b47 rfl (zf b47 rfl (AO.done (M22 (!q48) (Sh.some_eq h2).symm _ (Wk.tr rfl))))))))
   ·intro b15 h1
    exact AW.exit (M11 () (Sh.some_eq h1).symm _ (Wk.tr rfl))
 refine AW.regionO rfl (zq tb rfl (bs h1 fun q49 gq49 h1 => zc hb140 (impl_ValidTypes_ok gq49) rfl rfl rfl (zm tb 2 rfl ?_)))
 rcases Sh.ite_some h1 with ⟨b50, h1⟩ | ⟨b50, h1⟩
 ·refine zs b50 rfl (zs b50 rfl (zs b50 rfl (zt b50 rfl (zq tb rfl ?_))))
  iterate 3 refine zs rfl rfl ?_
  refine zt rfl rfl (zq tb rfl ?_)
  iterate 6 refine zs rfl rfl ?_
  refine zt rfl rfl (zq tb rfl ?_)
  iterate 5 refine zs rfl rfl ?_
  exact zt rfl rfl (AO.done (M5 true (Sh.some_eq h1).symm _ (Wk.tr rfl)))
 ·refine zg tb b50 rfl (ao_q (v := (i64 (Sh.len p1))) (go1 rfl rfl b50) rfl (aq_lens sl132 rfl) (zg tb b50 rfl (zf b50 rfl (zq tb rfl ?_))))
  rcases Sh.ite_some h1 with ⟨b51, h1⟩ | ⟨b51, h1⟩
  ·refine zs b51 rfl (zs b51 rfl (zs b51 rfl (zt b51 rfl (zq tb rfl ?_))))
   iterate 6 refine zs rfl rfl ?_
   refine zt rfl rfl (zq tb rfl ?_)
   iterate 5 refine zs rfl rfl ?_
   exact zt rfl rfl (AO.done (M5 true (Sh.some_eq h1).symm _ (Wk.tr rfl)))
  ·refine zg tb b51 rfl (ao_q (v := (i64 (Sh.len p1))) (go1 rfl rfl b51) rfl (aq_lens sl132 rfl) (zg tb b51 rfl (zf b51 rfl (zq tb rfl ?_))))
   rcases Sh.ite_some h1 with ⟨b52, h1⟩ | ⟨b52, h1⟩
   ·refine zs b52 rfl ?_
    iterate 5 refine zs b52 rfl ?_
    refine zt b52 rfl (zq tb rfl ?_)
    iterate 5 refine zs rfl rfl ?_
    exact zt rfl rfl (AO.done (M5 true (Sh.some_eq h1).symm _ (Wk.tr rfl)))
   ·refine zg tb b52 rfl (bs h1 fun c53 gc53 h1 => ao_q (v := (.iptr (eRSignature c53) 0)) (go1 rfl rfl b52) rfl (aq_ixs ei132 rfl rfl gc53 rfl) (zg tb b52 rfl (zg tb b52 rfl (ao_q (v := (i64 (Sh.len c53.params))) (go1 rfl rfl b52) rfl (aq_lens sl26 rfl) (zg tb b52 rfl (zf b52 rfl (zq tb rfl ?_)))))))
    rcases Sh.ite_some h1 with ⟨b54, h1⟩ | ⟨b54, h1⟩
    ·refine zs b54 rfl ?_
     iterate 4 refine zs b54 rfl ?_
     exact zt b54 rfl (AO.done (M5 true (Sh.some_eq h1).symm _ (Wk.tr rfl)))
    ·refine zg tb b54 rfl (ao_q (v := (.iptr (eRSignature c53) 0)) (go1 rfl rfl b54) rfl (aq_ixs ei132 rfl rfl gc53 rfl) ?_)
     iterate 3 refine zg tb b54 rfl ?_
     exact zf b54 rfl (AO.done (M5 (!decide (c53.result = 0)) (Sh.some_eq h1).symm _ (Wk.tr rfl)))
theorem impl_imageSigs_ok {N : Nat} {p0 : RImage} {r : RSignatures × Bool} (h0 : impl_imageSigs N p0 = some r) : ACalls Tryz.prog 93 [(.agg (eRImage p0))] [] (fun v st => v = (.tup [(.agg (eRSignatures r.1)), (.bool r.2)]) ∧ st = []) := by
 unfold impl_imageSigs at h0
 refine ACalls.flat rfl (ai Tryz.func93 rfl rfl rfl rfl (sr rfl fun K1 hK1 => ao_box (m := 0) go0 rfl rfl rfl rfl rfl (ao_alloc (m := 1) go0 zi134 rfl rfl (zq tb rfl (dn hK1 rfl (AW.seq fun K2 hK2 => sr rfl fun K3 hK3 => zm tb 2 rfl (zl tb rfl rfl (zq tb rfl ?_))))))))
 refine dn hK3 rfl ?_
 refine ci h0 rfl ?_ ?_ <;> clear h0
 ·intro b4 h0
  refine sr rfl fun K5 hK5 => zz (.agg [.zc, .zc]) (aq_bd ai134 bi134 zi134 rfl rfl) rfl (ao_str go0 ti134 rfl rfl rfl rfl rfl rfl (show 0 + 2 ≤ 2 by decide) rfl (zq tb rfl (dn hK5 rfl ?_)))
  replace h0 := Sh.some_eq h0
  subst r
  exact AW.ret (Exists.intro _ (And.intro ((((Wk.cellLe (id := 1) (cs := [.zc, .zc]) (cs' := [(.sl (List.map eRDecl [])), .zc]) (st' := [⟨0, 37, 2, [(eRImage p0)]⟩, ⟨0, 134, 2, [[(.sl (List.map eRDecl [])), .zc]]⟩]) rfl ⟨le.zc, le.rfl, trivial⟩ rfl rfl).trans (Wk.cellLe (id := 1) (cs := [(.sl (List.map eRDecl [])), .zc]) (cs' := [(.sl (List.map eRDecl [])), (.sl (List.map eRSignature []))]) (st' := [⟨0, 37, 2, [(eRImage p0)]⟩, ⟨0, 134, 2, [[(.sl (List.map eRDecl [])), (.sl (List.map eRSignature []))]]⟩]) rfl ⟨le.rfl, le.zc, trivial⟩ rfl rfl)).trans (Wk.permk (L := [(2, (.ptr 0 0 0 0)), (3, (.bool false))]) (st' := [⟨0, 134, 2, [[(.sl (List.map eRDecl [])), (.sl (List.map eRSignature []))]]⟩]) (st1 := [⟨0, 134, 2, [[(.sl (List.map eRDecl [])), (.sl (List.map eRSignature []))]]⟩]) [1] rfl .nil (by decide) rfl rfl (.raw rfl rfl .nil) ⟨.rfl, .rfl, trivial⟩)).trans (Wk.to (L := [(2, (.ptr 0 0 0 0)), (3, (.bool false))]) ⟨.rfl, .rfl, trivial⟩)) (aq_ldpa (x := .tmp 2) (off := 0) (cs := [(.sl (List.map eRDecl [])), (.sl (List.map eRSignature []))]) (vs := [(.sl (List.map eRDecl [])), (.sl (List.map eRSignature []))]) ti134 rfl rfl rfl (show 0 + 2 ≤ 2 by decide) rfl _ rfl)))
 ·intro b4 h0
  refine AW.skip (hK2 _ (sr rfl fun K6 hK6 => zm tb 2 rfl (zz (.agg [(ls eRDecl p0.decls), .zc]) (aq_bd ai134 bi134 zi134 rfl rfl) rfl (ao_alloc (m := 2) go0 zi134 rfl rfl (ao_str go0 ti134 rfl rfl rfl rfl rfl rfl (show 0 + 2 ≤ 2 by decide) rfl (dn hK6 rfl (AW.seq fun K7 hK7 => sr rfl fun K8 hK8 => zm tb 2 rfl (zl tb rfl rfl (zq tb rfl ?_)))))))))
  refine dn hK8 rfl (bs h0 fun o12 h1 h0 => ?_)
  have M12 : ∀ (l11 : (List RSignature)), o12 = l11 → ∀ s, Wk 0 s ⟨41, envL [(1, (.ptr 0 0 0 0)), (2, (.ptr 1 0 0 0)), (4, (.ptr 2 0 0 0))], [⟨0, 37, 2, [(eRImage p0)]⟩, ⟨0, 134, 2, [[.zc, .zc]]⟩, ⟨0, 134, 2, [[(ls eRDecl p0.decls), (ow 3 0 l11)]]⟩, (ro 0 172 3 eRSignature l11)]⟩ → K7 s := by
   intro l11 hq s hw
   subst o12
   try dsimp only at h0
   refine hK7 _ (AW.weaken hw (AW.seq fun K13 hK13 => ?_))
   refine AW.drawTailO 6 (by kernel_rfl) (by kernel_rfl) (by rfl) ?_
   iterate 5 refine yq tb rfl ?_
   refine bs h0 fun q14 gq14 h0 => d_callb (v' := (.bool q14)) go0 hb123 (impl_validSigs_ok gq14) rfl (.val rfl (.own rfl rfl (fun _ => rfl) .nil)) rfl rfl (d_done (AO.weaken (Wk.frz (L := [(2, (.ptr 1 0 0 0)), (35, (.agg [(ls eRDecl p0.decls), (ls eRSignature l11)])), (40, (.bool q14))]) (st' := [⟨0, 37, 2, [(eRImage p0)]⟩, ⟨0, 134, 2, [[.zc, .zc]]⟩, ⟨0, 134, 2, [[(ls eRDecl p0.decls), (ow 3 0 l11)]]⟩, ⟨1, 172, 3, []⟩]) (id := 3) rfl (show 0 ≤ 3 by decide) (pure_map fun _ => rfl) ⟨.rfl, (.agg ⟨.rfl, (.frz1 rfl), trivial⟩), .rfl, trivial⟩ rfl) (ao_str go0 ti134 rfl rfl rfl rfl rfl rfl (show 0 + 2 ≤ 2 by decide) rfl (zq tb rfl (dn hK13 rfl ?_)))))
   replace h0 := Sh.some_eq h0
   subst r
   exact AW.ret (Exists.intro _ (And.intro ((Wk.permk (L := [(2, (.ptr 0 0 0 0)), (3, (.bool q14))]) (st' := [⟨0, 134, 2, [[(ls eRDecl p0.decls), (ls eRSignature l11)]]⟩]) (st1 := [⟨0, 134, 2, [[(ls eRDecl p0.decls), (ls eRSignature l11)]]⟩]) [1] rfl .nil (by decide) rfl rfl (.raw rfl rfl .nil) ⟨.rfl, .rfl, trivial⟩).trans (Wk.to (L := [(2, (.ptr 0 0 0 0)), (3, (.bool q14))]) ⟨.rfl, .rfl, trivial⟩)) (aq_ldpa (x := .tmp 2) (off := 0) (cs := [(ls eRDecl p0.decls), (ls eRSignature l11)]) (vs := [(ls eRDecl p0.decls), (ls eRSignature l11)]) ti134 rfl rfl rfl (show 0 + 2 ≤ 2 by decide) rfl _ rfl)))
  refine AW.block (AW.loopF (σ := Int × (List RSignature)) (fun n v => impl_imageSigs_L1 p0 n v.1 v.2 = some o12) (fun (t9, l10) => ⟨41, envL [(1, (.ptr 0 0 0 0)), (2, (.ptr 1 0 0 0)), (4, (.ptr 2 0 0 0)), (16, (ls eRProc p0.procs)), (17, (i64 (Sh.len p0.procs))), (18, (i64 t9))], [⟨0, 37, 2, [(eRImage p0)]⟩, ⟨0, 134, 2, [[.zc, .zc]]⟩, ⟨0, 134, 2, [[(ls eRDecl p0.decls), (ow 3 0 l10)]]⟩, (ro 0 172 3 eRSignature l10)]⟩) N (0, []) h1 (by refine Wk.trans (Wk.adoptC (id := 2) (st' := [⟨0, 37, 2, [(eRImage p0)]⟩, ⟨0, 134, 2, [[.zc, .zc]]⟩, ⟨0, 134, 2, [[(ls eRDecl p0.decls), (.own 3 0 (List.length ([] : List RSignature)))]]⟩, (ro 0 172 3 eRSignature ([] : List RSignature))]) (j := 1) rfl rfl 172 (size' := 3) (by decide) rfl rfl rfl rfl) ?_; exact Wk.tr rfl) (fun _ hv => by rw [impl_imageSigs_L1] at hv; cases hv) ?_)
  rintro n ⟨t9, l10⟩ h1
  try dsimp only at h1 ⊢
  rw [impl_imageSigs_L1] at h1
  refine zr tb rfl rfl (AW.seq fun K16 hK16 => ?_)
  refine ci h1 rfl ?_ ?_ <;> clear h1
  ·intro b17 h1
   refine AW.skip (hK16 _ (AW.seq fun K18 hK18 => AW.block (sr rfl fun K19 hK19 => bs h1 fun c20 gc20 h1 => zx ei35 gc20 rfl rfl rfl (zq tb rfl (ao_alloc (m := 4) go0 zi102 rfl rfl (ao_str go0 ti102 rfl rfl rfl rfl rfl rfl (show 0 + 5 ≤ 5 by decide) rfl (dn hK19 rfl (AW.regionO rfl (zm tb 8 rfl ?_)))))))))
   refine zz (.agg [(ls eI c20.params), (ls eI c20.lent), (i64 c20.result)]) (aq_bd ai172 bi172 zi172 rfl rfl) rfl ?_
   refine ao_bs (m := 5) (l := [(RSignature.mk c20.params c20.lent c20.result)]) (enc := eRSignature) go0 ei132 (by decide) rfl rfl rfl rfl rfl rfl ?_
   refine bs h1 fun l21 gl21 h1 => ao_apo (l2 := [(RSignature.mk c20.params c20.lent c20.result)]) go0 ei132 rfl rfl rfl rfl (el_o rfl rfl) (fun _ => rfl) gl21 rfl (zq tb rfl (ao_str go0 ti132 rfl rfl rfl rfl rfl rfl (show 1 + 1 ≤ 2 by decide) rfl (dn hK18 rfl (AW.regionO rfl (zm tb 2 rfl ?_)))))
   exact AO.done (xi (Sh.w (t9 + 1), l21) h1 (by refine Wk.trans (Wk.rg (L := [(1, (.ptr 0 0 0 0)), (2, (.ptr 1 0 0 0)), (4, (.ptr 2 0 0 0)), (16, (ls eRProc p0.procs)), (17, (i64 (Sh.len p0.procs))), (18, (i64 (Sh.w (t9 + 1))))]) (st' := [⟨0, 37, 2, [(eRImage p0)]⟩, ⟨0, 134, 2, [[.zc, .zc]]⟩, ⟨0, 134, 2, [[(ls eRDecl p0.decls), (ow 3 0 l21)]]⟩, (ro 0 172 3 eRSignature l21), ⟨0, 102, 5, [(eRProc c20)]⟩, (ro 0 172 3 eRSignature [(RSignature.mk c20.params c20.lent c20.result)])]) (.raw rfl rfl (.raw rfl rfl (.raw rfl rfl (.pure (pure_map fun _ => rfl) (.raw rfl rfl (.pure (pure_map fun _ => rfl) .nil)))))) ⟨.rfl, .rfl, .rfl, .rfl, .rfl, .rfl, trivial⟩) ?_; exact Wk.permk (L := [(1, (.ptr 0 0 0 0)), (2, (.ptr 1 0 0 0)), (4, (.ptr 2 0 0 0)), (16, (ls eRProc p0.procs)), (17, (i64 (Sh.len p0.procs))), (18, (i64 (Sh.w (t9 + 1))))]) (st' := [⟨0, 37, 2, [(eRImage p0)]⟩, ⟨0, 134, 2, [[.zc, .zc]]⟩, ⟨0, 134, 2, [[(ls eRDecl p0.decls), (ow 3 0 l21)]]⟩, (ro 0 172 3 eRSignature l21)]) (st1 := [⟨0, 37, 2, [(eRImage p0)]⟩, ⟨0, 134, 2, [[.zc, .zc]]⟩, ⟨0, 134, 2, [[(ls eRDecl p0.decls), (ow 3 0 l21)]]⟩, (ro 0 172 3 eRSignature l21)]) [0, 1, 2, 3] rfl .nil (by decide) rfl rfl (.raw rfl rfl (.raw rfl rfl (.raw rfl rfl (.pure (pure_map fun _ => rfl) .nil)))) ⟨.rfl, .rfl, .rfl, .rfl, .rfl, .rfl, trivial⟩))
  ·intro b17 h1
   exact AW.exit (M12 l10 (Sh.some_eq h1).symm _ (Wk.tr rfl))
theorem impl_setsRegister_ok {p0 : Int} {r : Bool} (h0 : impl_setsRegister p0 = some r) : ACalls Tryz.prog 108 [(i64 p0)] [] (fun v st => v = (.bool r) ∧ st = []) := by
 unfold impl_setsRegister at h0
 refine ai Tryz.func108 rfl rfl rfl rfl (zr tb rfl rfl (AW.seq fun K2 hK2 => bs h0 fun o4 h1 h0 => ?_))
 have M4 : ∀ (t3 : Bool), o4 = t3 → ∀ s, Wk 0 s ⟨17, envL [(2, (.bool t3))], []⟩ → K2 s := by
  intro t3 hq s hw
  subst o4
  try dsimp only at h0
  refine hK2 _ (AW.weaken hw ?_)
  replace h0 := Sh.some_eq h0
  subst r
  exact AW.ret (xr (Wk.to (L := [(2, (.bool t3))]) ⟨.rfl, trivial⟩))
 refine AW.regionO rfl (zm tb 3 rfl ?_)
 rcases Sh.ite_some h1 with ⟨b5, h1⟩ | ⟨b5, h1⟩
 ·refine zg tb b5 rfl (zg tb b5 rfl (zt b5 rfl (zq tb rfl ?_)))
  rcases Sh.ite_some h1 with ⟨b6, h1⟩ | ⟨b6, h1⟩
  ·exact zs b6 rfl (zs b6 rfl (zt b6 rfl (zq tb rfl (zs rfl rfl (zs rfl rfl (zt rfl rfl (zq tb rfl (AO.done (M4 true (Sh.some_eq h1).symm _ (Wk.tr rfl))))))))))
  ·refine zg tb b6 rfl (zg tb b6 rfl (zf b6 rfl (zq tb rfl ?_)))
   rcases Sh.ite_some h1 with ⟨b7, h1⟩ | ⟨b7, h1⟩
   ·exact zs b7 rfl (zs b7 rfl (zt b7 rfl (zq tb rfl (AO.done (M4 true (Sh.some_eq h1).symm _ (Wk.tr rfl))))))
   ·exact zg tb b7 rfl (zg tb b7 rfl (zf b7 rfl (zq tb rfl (AO.done (M4 (decide (p0 = 19)) (Sh.some_eq h1).symm _ (Wk.tr rfl))))))
 ·refine zs b5 rfl (zs b5 rfl (zf b5 rfl (zq tb rfl (zg tb rfl rfl (zg tb rfl rfl (zf rfl rfl (zq tb rfl ?_)))))))
  rcases Sh.ite_some h1 with ⟨b8, h1⟩ | ⟨b8, h1⟩
  ·exact zs b8 rfl (zs b8 rfl (zt b8 rfl (zq tb rfl (AO.done (M4 true (Sh.some_eq h1).symm _ (Wk.tr rfl))))))
  ·exact zg tb b8 rfl (zg tb b8 rfl (zf b8 rfl (zq tb rfl (AO.done (M4 (decide (p0 = 19)) (Sh.some_eq h1).symm _ (Wk.tr rfl))))))
theorem impl_signatures_instrValid_1_ok {s0_0 : Int} {s1_0 : (List Int)} {s1_1 : (List Int)} {s1_2 : Int} {s1_3 : Int} {s1_4 : (List RInstr)} {p0 : Int} {r : Bool} (h0 : impl_signatures_instrValid_1 s0_0 s1_0 s1_1 s1_2 s1_3 s1_4 p0 = some r) : ACalls Tryz.prog 124 [(i64 p0), (.ptr 0 0 0 0), (.ptr 1 0 0 0)] [⟨0, 3, 1, [[(i64 s0_0)]]⟩, ⟨0, 102, 5, [[(ls eI s1_0), (ls eI s1_1), (i64 s1_2), (i64 s1_3), (ls eRInstr s1_4)]]⟩] (fun v st => v = (.bool r) ∧ st = [⟨0, 3, 1, [[(i64 s0_0)]]⟩, ⟨0, 102, 5, [[(ls eI s1_0), (ls eI s1_1), (i64 s1_2), (i64 s1_3), (ls eRInstr s1_4)]]⟩]) := by
 unfold impl_signatures_instrValid_1 at h0
 refine ai Tryz.func124 rfl rfl rfl rfl (zr tb rfl rfl (AW.seq fun K2 hK2 => bs h0 fun o4 h1 h0 => ?_))
 have M4 : ∀ (t3 : Bool), o4 = t3 → ∀ s, Wk 2 s ⟨15, envL [(4, (.bool t3))], [⟨0, 3, 1, [[(i64 s0_0)]]⟩, ⟨0, 102, 5, [[(ls eI s1_0), (ls eI s1_1), (i64 s1_2), (i64 s1_3), (ls eRInstr s1_4)]]⟩]⟩ → K2 s := by
  intro t3 hq s hw
  subst o4
  try dsimp only at h0
  refine hK2 _ (AW.weaken hw ?_)
  replace h0 := Sh.some_eq h0
  subst r
  exact AW.ret (xr (Wk.to (L := [(4, (.bool t3))]) ⟨.rfl, trivial⟩))
 refine AW.regionO rfl (zm tb 4 rfl ?_)
 rcases Sh.ite_some h1 with ⟨b5, h1⟩ | ⟨b5, h1⟩
 ·exact zg tb b5 rfl (zg tb b5 rfl (zg tb b5 rfl (ao_q (v := (i64 (Sh.len s1_4))) (go1 rfl rfl b5) rfl (aq_lens sl100 rfl) (zg tb b5 rfl (zt b5 rfl (zq tb rfl (AO.done (M4 (decide (p0 < (Sh.len s1_4))) (Sh.some_eq h1).symm _ (Wk.tr rfl)))))))))
 ·refine zs b5 rfl ?_
  iterate 4 refine zs b5 rfl ?_
  exact zf b5 rfl (zq tb rfl (AO.done (M4 false (Sh.some_eq h1).symm _ (Wk.tr rfl))))
theorem impl_signatures_instrValid_2_ok {s1_0 : Int} {s2_0 : (List Int)} {s2_1 : (List Int)} {s2_2 : Int} {s2_3 : Int} {s2_4 : (List RInstr)} {p0 : Int} {r : Bool} (h0 : impl_signatures_instrValid_2 s1_0 s2_0 s2_1 s2_2 s2_3 s2_4 p0 = some r) : ACalls Tryz.prog 125 [(i64 p0), (.ptr 0 0 0 0)] [⟨0, 129, 1, [[(.fn 124 [(.ptr 1 0 0 0), (.ptr 2 0 0 0)])]]⟩, ⟨0, 3, 1, [[(i64 s1_0)]]⟩, ⟨0, 102, 5, [[(ls eI s2_0), (ls eI s2_1), (i64 s2_2), (i64 s2_3), (ls eRInstr s2_4)]]⟩] (fun v st => v = (.bool r) ∧ st = [⟨0, 129, 1, [[(.fn 124 [(.ptr 1 0 0 0), (.ptr 2 0 0 0)])]]⟩, ⟨0, 3, 1, [[(i64 s1_0)]]⟩, ⟨0, 102, 5, [[(ls eI s2_0), (ls eI s2_1), (i64 s2_2), (i64 s2_3), (ls eRInstr s2_4)]]⟩]) := by
 unfold impl_signatures_instrValid_2 at h0
 refine ai Tryz.func125 rfl rfl rfl rfl (zr tb rfl rfl (sr rfl fun K2 hK2 => zm tb 2 rfl (bs h0 fun q3 gq3 h0 => ?_)))
 refine ao_callst (rowsP := [⟨0, 3, 1, [[(i64 s1_0)]]⟩, ⟨0, 102, 5, [[(ls eI s2_0), (ls eI s2_1), (i64 s2_2), (i64 s2_3), (ls eRInstr s2_4)]]⟩]) (rows0 := [⟨0, 3, 1, [[(i64 s1_0)]]⟩, ⟨0, 102, 5, [[(ls eI s2_0), (ls eI s2_1), (i64 s2_2), (i64 s2_3), (ls eRInstr s2_4)]]⟩]) (rows1 := [⟨0, 3, 1, [[(i64 s1_0)]]⟩, ⟨0, 102, 5, [[(ls eI s2_0), (ls eI s2_1), (i64 s2_2), (i64 s2_3), (ls eRInstr s2_4)]]⟩]) (rows2 := []) (rows1' := [⟨0, 3, 1, [[(i64 s1_0)]]⟩, ⟨0, 102, 5, [[(ls eI s2_0), (ls eI s2_1), (i64 s2_2), (i64 s2_3), (ls eRInstr s2_4)]]⟩]) (rows2' := []) (st' := [⟨0, 129, 1, [[(.fn 124 [(.ptr 1 0 0 0), (.ptr 2 0 0 0)])]]⟩, ⟨0, 3, 1, [[(i64 s1_0)]]⟩, ⟨0, 102, 5, [[(ls eI s2_0), (ls eI s2_1), (i64 s2_2), (i64 s2_3), (ls eRInstr s2_4)]]⟩]) (v' := (.bool q3)) [1, 2] go0 rfl hb124 (impl_signatures_instrValid_1_ok gq3) rfl (by decide) rfl rfl (.raw rfl rfl (.raw rfl rfl .nil)) rfl rfl (.raw rfl rfl (.raw rfl rfl .nil)) .nil rfl rfl ?_
 refine zm tb 2 rfl (dn hK2 rfl ?_)
 replace h0 := Sh.some_eq h0
 subst r
 exact AW.ret (xr (Wk.to (L := [(3, (.bool (!q3)))]) ⟨.rfl, trivial⟩))
theorem slices_IndexFunc_int_int_ok {N : Nat} {s1_0 : Int} {s2_0 : (List Int)} {s2_1 : (List Int)} {s2_2 : Int} {s2_3 : Int} {s2_4 : (List RInstr)} {p0 : (List Int)} {r : Int} (h0 : slices_IndexFunc_int_int N s1_0 s2_0 s2_1 s2_2 s2_3 s2_4 p0 = some r) : ACalls Tryz.prog 129 [(ls eI p0), (.fn 125 [(.ptr 0 0 0 0)])] [⟨0, 129, 1, [[(.fn 124 [(.ptr 1 0 0 0), (.ptr 2 0 0 0)])]]⟩, ⟨0, 3, 1, [[(i64 s1_0)]]⟩, ⟨0, 102, 5, [[(ls eI s2_0), (ls eI s2_1), (i64 s2_2), (i64 s2_3), (ls eRInstr s2_4)]]⟩] (fun v st => v = (i64 r) ∧ st = [⟨0, 129, 1, [[(.fn 124 [(.ptr 1 0 0 0), (.ptr 2 0 0 0)])]]⟩, ⟨0, 3, 1, [[(i64 s1_0)]]⟩, ⟨0, 102, 5, [[(ls eI s2_0), (ls eI s2_1), (i64 s2_2), (i64 s2_3), (ls eRInstr s2_4)]]⟩]) := by
 unfold slices_IndexFunc_int_int at h0
 refine ai Tryz.func129 rfl rfl rfl rfl (zr tb rfl rfl (AW.seq fun K2 hK2 => sr rfl fun K3 hK3 => zq tb rfl (zl tb rfl rfl (zq tb rfl (dn hK3 rfl ?_)))))
 obtain ⟨o5, h1, h0⟩ := Sh.cont_some h0
 have M5 : ∀ (_ : Unit), o5 = Sum.inr () → ∀ s, Wk 3 s ⟨19, envL [], [⟨0, 129, 1, [[(.fn 124 [(.ptr 1 0 0 0), (.ptr 2 0 0 0)])]]⟩, ⟨0, 3, 1, [[(i64 s1_0)]]⟩, ⟨0, 102, 5, [[(ls eI s2_0), (ls eI s2_1), (i64 s2_2), (i64 s2_3), (ls eRInstr s2_4)]]⟩]⟩ → K2 s := by
  intro _ hq s hw
  subst o5
  try dsimp only at h0
  refine hK2 _ (AW.weaken hw (zr tb rfl rfl ?_))
  replace h0 := Sh.some_eq h0
  subst r
  exact AW.ret (xr (Wk.to (L := [(4, (i64 (-1)))]) ⟨.rfl, trivial⟩))
 refine AW.block (AW.loopF (σ := Int) (fun n v => slices_IndexFunc_int_int_L1 s1_0 s2_0 s2_1 s2_2 s2_3 s2_4 p0 n v = some o5) (fun t4 => ⟨19, envL [(0, (ls eI p0)), (1, (.fn 125 [(.ptr 0 0 0 0)])), (7, (i64 (Sh.len p0))), (8, (i64 t4))], [⟨0, 129, 1, [[(.fn 124 [(.ptr 1 0 0 0), (.ptr 2 0 0 0)])]]⟩, ⟨0, 3, 1, [[(i64 s1_0)]]⟩, ⟨0, 102, 5, [[(ls eI s2_0), (ls eI s2_1), (i64 s2_2), (i64 s2_3), (ls eRInstr s2_4)]]⟩]⟩) N 0 h1 (Wk.tr rfl) (fun _ hv => by rw [slices_IndexFunc_int_int_L1] at hv; cases hv) ?_)
 rintro n t4 h1
 try dsimp only at h1 ⊢
 rw [slices_IndexFunc_int_int_L1] at h1
 refine zr tb rfl rfl (AW.seq fun K8 hK8 => ?_)
 refine ci h1 rfl ?_ ?_ <;> clear h1
 ·intro b9 h1
  refine AW.skip (hK8 _ (AW.seq fun K10 hK10 => AW.block (zr tb rfl rfl (sr rfl fun K12 hK12 => zm tb 3 rfl (bs h1 fun c13 gc13 h1 => zx ei26 gc13 rfl rfl rfl (zq tb rfl (bs h1 fun q14 gq14 h1 => ?_)))))))
  refine ao_callst (rowsP := [⟨0, 129, 1, [[(.fn 124 [(.ptr 1 0 0 0), (.ptr 2 0 0 0)])]]⟩, ⟨0, 3, 1, [[(i64 s1_0)]]⟩, ⟨0, 102, 5, [[(ls eI s2_0), (ls eI s2_1), (i64 s2_2), (i64 s2_3), (ls eRInstr s2_4)]]⟩]) (rows0 := [⟨0, 129, 1, [[(.fn 124 [(.ptr 1 0 0 0), (.ptr 2 0 0 0)])]]⟩, ⟨0, 3, 1, [[(i64 s1_0)]]⟩, ⟨0, 102, 5, [[(ls eI s2_0), (ls eI s2_1), (i64 s2_2), (i64 s2_3), (ls eRInstr s2_4)]]⟩]) (rows1 := [⟨0, 129, 1, [[(.fn 124 [(.ptr 1 0 0 0), (.ptr 2 0 0 0)])]]⟩, ⟨0, 3, 1, [[(i64 s1_0)]]⟩, ⟨0, 102, 5, [[(ls eI s2_0), (ls eI s2_1), (i64 s2_2), (i64 s2_3), (ls eRInstr s2_4)]]⟩]) (rows2 := []) (rows1' := [⟨0, 129, 1, [[(.fn 124 [(.ptr 1 0 0 0), (.ptr 2 0 0 0)])]]⟩, ⟨0, 3, 1, [[(i64 s1_0)]]⟩, ⟨0, 102, 5, [[(ls eI s2_0), (ls eI s2_1), (i64 s2_2), (i64 s2_3), (ls eRInstr s2_4)]]⟩]) (rows2' := []) (st' := [⟨0, 129, 1, [[(.fn 124 [(.ptr 1 0 0 0), (.ptr 2 0 0 0)])]]⟩, ⟨0, 3, 1, [[(i64 s1_0)]]⟩, ⟨0, 102, 5, [[(ls eI s2_0), (ls eI s2_1), (i64 s2_2), (i64 s2_3), (ls eRInstr s2_4)]]⟩]) (v' := (.bool q14)) [0, 1, 2] go0 rfl hb125 (impl_signatures_instrValid_2_ok gq14) rfl (by decide) rfl rfl (.raw rfl rfl (.raw rfl rfl (.raw rfl rfl .nil))) rfl rfl (.raw rfl rfl (.raw rfl rfl (.raw rfl rfl .nil))) .nil rfl rfl ?_
  refine dn hK12 rfl ?_
  refine ci h1 rfl ?_ ?_ <;> clear h1
  ·intro b15 h1
   refine zr tb rfl rfl ?_
   replace h1 := Sh.some_eq h1
   subst o5
   try dsimp only [id] at h0
   replace h0 := Sh.some_eq h0
   subst r
   exact AW.ret (xr (Wk.to (L := [(4, (i64 t4))]) ⟨.rfl, trivial⟩))
  ·intro b15 h1
   exact AW.skip (hK10 _ (AW.regionO rfl (zm tb 2 rfl (AO.done (xi (Sh.w (t4 + 1)) h1 (Wk.tr rfl))))))
 ·intro b9 h1
  exact AW.exit (M5 () (Sh.some_eq h1).symm _ (Wk.tr rfl))
theorem slices_ContainsFunc_int_int_ok {N : Nat} {s1_0 : Int} {s2_0 : (List Int)} {s2_1 : (List Int)} {s2_2 : Int} {s2_3 : Int} {s2_4 : (List RInstr)} {p0 : (List Int)} {r : Bool} (h0 : slices_ContainsFunc_int_int N s1_0 s2_0 s2_1 s2_2 s2_3 s2_4 p0 = some r) : ACalls Tryz.prog 97 [(ls eI p0), (.fn 125 [(.ptr 0 0 0 0)])] [⟨0, 129, 1, [[(.fn 124 [(.ptr 1 0 0 0), (.ptr 2 0 0 0)])]]⟩, ⟨0, 3, 1, [[(i64 s1_0)]]⟩, ⟨0, 102, 5, [[(ls eI s2_0), (ls eI s2_1), (i64 s2_2), (i64 s2_3), (ls eRInstr s2_4)]]⟩] (fun v st => v = (.bool r) ∧ st = [⟨0, 129, 1, [[(.fn 124 [(.ptr 1 0 0 0), (.ptr 2 0 0 0)])]]⟩, ⟨0, 3, 1, [[(i64 s1_0)]]⟩, ⟨0, 102, 5, [[(ls eI s2_0), (ls eI s2_1), (i64 s2_2), (i64 s2_3), (ls eRInstr s2_4)]]⟩]) := by
 unfold slices_ContainsFunc_int_int at h0
 refine ai Tryz.func97 rfl rfl rfl rfl (zr tb rfl rfl (sr rfl fun K2 hK2 => zm tb 2 rfl (bs h0 fun q3 gq3 h0 => ?_)))
 refine ao_calls (rowsP := [⟨0, 129, 1, [[(.fn 124 [(.ptr 1 0 0 0), (.ptr 2 0 0 0)])]]⟩, ⟨0, 3, 1, [[(i64 s1_0)]]⟩, ⟨0, 102, 5, [[(ls eI s2_0), (ls eI s2_1), (i64 s2_2), (i64 s2_3), (ls eRInstr s2_4)]]⟩]) (rows0 := [⟨0, 129, 1, [[(.fn 124 [(.ptr 1 0 0 0), (.ptr 2 0 0 0)])]]⟩, ⟨0, 3, 1, [[(i64 s1_0)]]⟩, ⟨0, 102, 5, [[(ls eI s2_0), (ls eI s2_1), (i64 s2_2), (i64 s2_3), (ls eRInstr s2_4)]]⟩]) (rows1 := [⟨0, 129, 1, [[(.fn 124 [(.ptr 1 0 0 0), (.ptr 2 0 0 0)])]]⟩, ⟨0, 3, 1, [[(i64 s1_0)]]⟩, ⟨0, 102, 5, [[(ls eI s2_0), (ls eI s2_1), (i64 s2_2), (i64 s2_3), (ls eRInstr s2_4)]]⟩]) (rows2 := []) (rows1' := [⟨0, 129, 1, [[(.fn 124 [(.ptr 1 0 0 0), (.ptr 2 0 0 0)])]]⟩, ⟨0, 3, 1, [[(i64 s1_0)]]⟩, ⟨0, 102, 5, [[(ls eI s2_0), (ls eI s2_1), (i64 s2_2), (i64 s2_3), (ls eRInstr s2_4)]]⟩]) (rows2' := []) (st' := [⟨0, 129, 1, [[(.fn 124 [(.ptr 1 0 0 0), (.ptr 2 0 0 0)])]]⟩, ⟨0, 3, 1, [[(i64 s1_0)]]⟩, ⟨0, 102, 5, [[(ls eI s2_0), (ls eI s2_1), (i64 s2_2), (i64 s2_3), (ls eRInstr s2_4)]]⟩]) (v' := (i64 q3)) [0, 1, 2] go0 hb129 (slices_IndexFunc_int_int_ok gq3) rfl (by decide) rfl rfl (.raw rfl rfl (.raw rfl rfl (.raw rfl rfl .nil))) rfl rfl (.raw rfl rfl (.raw rfl rfl (.raw rfl rfl .nil))) .nil rfl rfl ?_
 refine zm tb 2 rfl (dn hK2 rfl ?_)
 replace h0 := Sh.some_eq h0
 subst r
 exact AW.ret (xr (Wk.to (L := [(4, (.bool (decide (0 ≤ q3))))]) ⟨.rfl, trivial⟩))
theorem impl_conCount_ok {N : Nat} {p0 : (List RDecl)} {r : Int} (h0 : impl_conCount N p0 = some r) : ACalls Tryz.prog 143 [(ls eRDecl p0)] [] (fun v st => v = (i64 r) ∧ st = []) := by
 unfold impl_conCount at h0
 refine ai Tryz.func143 rfl rfl rfl rfl ?_
 iterate 2 refine zr tb rfl rfl ?_
 refine AW.seq fun K3 hK3 => sr rfl fun K4 hK4 => zq tb rfl (zl tb rfl rfl (zq tb rfl (dn hK4 rfl (bs h0 fun o8 h1 h0 => ?_))))
 have M8 : ∀ (n7 : Int), o8 = n7 → ∀ s, Wk 0 s ⟨19, envL [(3, (i64 n7))], []⟩ → K3 s := by
  intro n7 hq s hw
  subst o8
  try dsimp only at h0
  refine hK3 _ (AW.weaken hw (zr tb rfl rfl ?_))
  replace h0 := Sh.some_eq h0
  subst r
  exact AW.ret (xr (Wk.to (L := [(2, (i64 n7))]) ⟨.rfl, trivial⟩))
 refine AW.block (AW.loopF (σ := Int × Int) (fun n v => impl_conCount_L1 p0 n v.1 v.2 = some o8) (fun (n5, t6) => ⟨19, envL [(3, (i64 n5)), (6, (ls eRDecl p0)), (7, (i64 (Sh.len p0))), (8, (i64 t6))], []⟩) N (0, 0) h1 (Wk.tr rfl) (fun _ hv => by rw [impl_conCount_L1] at hv; cases hv) ?_)
 rintro n ⟨n5, t6⟩ h1
 try dsimp only at h1 ⊢
 rw [impl_conCount_L1] at h1
 refine zr tb rfl rfl (AW.seq fun K11 hK11 => ?_)
 refine ci h1 rfl ?_ ?_ <;> clear h1
 ·intro b12 h1
  refine AW.skip (hK11 _ (AW.seq fun K13 hK13 => AW.block (sr rfl fun K14 hK14 => bs h1 fun c15 gc15 h1 => zx ei34 gc15 rfl rfl rfl (zq tb rfl (ao_alloc (m := 0) go0 zi98 rfl rfl (ao_str go0 ti98 rfl rfl rfl rfl rfl rfl (show 0 + 3 ≤ 3 by decide) rfl (dn hK14 rfl (AW.regionO rfl (zm tb 3 rfl ?_)))))))))
  exact zl tb rfl rfl (zm tb 2 rfl (dn hK13 rfl (AW.regionO rfl (zm tb 2 rfl (AO.done (xi (Sh.w (n5 + (Sh.len c15.cons)), Sh.w (t6 + 1)) h1 (Wk.d0 _ rfl)))))))
 ·intro b12 h1
  exact AW.exit (M8 n5 (Sh.some_eq h1).symm _ (Wk.tr rfl))
theorem impl_consOf_ok {N : Nat} {p0 : (List RDecl)} {p1 : Int} {r : (List Int)} (h0 : impl_consOf N p0 p1 = some r) : ACalls Tryz.prog 144 [(ls eRDecl p0), (i64 p1)] [] (fun v st => v = (ow 0 0 r) ∧ st = [(ro 0 3 1 eI r)]) := by
 unfold impl_consOf at h0
 refine ai Tryz.func144 rfl rfl rfl rfl (zr tb rfl rfl (AW.seq fun K2 hK2 => AW.seq fun K3 hK3 => bs h0 fun o5 h1 h0 => ?_))
 have M5 : ∀ (t4 : Bool), o5 = t4 → ∀ s, Wk 0 s ⟨39, envL [(0, (ls eRDecl p0)), (1, (i64 p1)), (15, (.bool t4))], []⟩ → K3 s := by
  intro t4 hq s hw
  subst o5
  try dsimp only at h0
  refine hK3 _ (AW.weaken hw ?_)
  refine ci h0 rfl ?_ ?_ <;> clear h0
  ·intro b6 h0
   refine zr tb rfl rfl ?_
   replace h0 := Sh.some_eq h0
   subst r
   exact AW.ret (Exists.intro _ (And.intro (((Wk.adopt (t := 4) rfl 3 (size := 1) (by decide)).trans (Wk.to (L := [(4, (.own 0 0 (List.length ([] : List Int))))]) ⟨.rfl, trivial⟩)).trans (Wk.to (L := [(4, (.own 0 0 (List.length ([] : List Int))))]) ⟨.rfl, trivial⟩)) (And.intro rfl rfl)))
  ·intro b6 h0
   refine AW.skip (hK2 _ (sr rfl fun K8 hK8 => zm tb 3 rfl (bs h0 fun l9 gl9 h0 => ao_sls (i := 0) (j := Sh.w (p1 - 1)) go0 ei34 rfl rfl rfl (fun _ => rfl) gl9 (bs h0 fun q10 gq10 h0 => zc hb143 (impl_conCount_ok gq10) rfl rfl rfl (zq tb rfl (dn hK8 rfl (zr tb rfl rfl (AW.seq fun K12 hK12 => sr rfl fun K13 hK13 => ?_))))))))
   refine zm tb 3 rfl (bs h0 fun c14 gc14 h0 => zx ei34 gc14 rfl rfl rfl (zm tb 2 rfl (zl tb rfl rfl (zq tb rfl (dn hK13 rfl (bs h0 fun o18 h1 h0 => ?_))))))
   have M18 : ∀ (l17 : (List Int)), o18 = l17 → ∀ s, Wk 0 s ⟨39, envL [(6, (ow 0 0 l17))], [(ro 0 3 1 eI l17)]⟩ → K12 s := by
    intro l17 hq s hw
    subst o18
    try dsimp only at h0
    refine hK12 _ (AW.weaken hw (zr tb rfl rfl ?_))
    replace h0 := Sh.some_eq h0
    subst r
    exact AW.ret (xr (Wk.to (L := [(4, (ow 0 0 l17))]) ⟨.rfl, trivial⟩))
   refine AW.block (AW.loopF (σ := Int × (List Int)) (fun n v => impl_consOf_L1 c14 q10 n v.1 v.2 = some o18) (fun (t15, l16) => ⟨39, envL [(5, (i64 q10)), (6, (ow 0 0 l16)), (27, (i64 (Sh.len c14.cons))), (28, (i64 t15))], [(ro 0 3 1 eI l16)]⟩) N (0, []) h1 ((Wk.adopt (t := 6) rfl 3 (size := 1) (by decide)).trans (Wk.to (L := [(5, (i64 q10)), (6, (.own 0 0 (List.length ([] : List Int)))), (27, (i64 (Sh.len c14.cons))), (28, (i64 0))]) ⟨.rfl, .rfl, .rfl, .rfl, trivial⟩)) (fun _ hv => by rw [impl_consOf_L1] at hv; cases hv) ?_)
   rintro n ⟨t15, l16⟩ h1
   try dsimp only at h1 ⊢
   rw [impl_consOf_L1] at h1
   refine zr tb rfl rfl (AW.seq fun K21 hK21 => ?_)
   refine ci h1 rfl ?_ ?_ <;> clear h1
   ·intro b22 h1
    refine AW.skip (hK21 _ (AW.seq fun K23 hK23 => AW.block (zr tb rfl rfl (AW.regionO rfl (zm tb 4 rfl ?_)))))
    refine ao_bs (m := 1) (l := [Sh.w (q10 + t15)]) (enc := eI) go0 ei26 (by decide) rfl rfl rfl rfl rfl rfl ?_
    refine bs h1 fun l25 gl25 h1 => ao_apo (l2 := [Sh.w (q10 + t15)]) go0 ei26 rfl rfl rfl rfl (el_o rfl rfl) (fun _ => rfl) gl25 rfl (zq tb rfl (dn hK23 rfl (AW.regionO rfl (zm tb 2 rfl ?_))))
    exact AO.done (xi (Sh.w (t15 + 1), l25) h1 (by refine Wk.trans (Wk.rg (L := [(5, (i64 q10)), (6, (ow 0 0 l25)), (27, (i64 (Sh.len c14.cons))), (28, (i64 (Sh.w (t15 + 1))))]) (st' := [(ro 0 3 1 eI l25), (ro 0 3 1 eI [Sh.w (q10 + t15)])]) (.pure (pure_map fun _ => rfl) (.pure (pure_map fun _ => rfl) .nil)) ⟨.rfl, .rfl, .rfl, .rfl, trivial⟩) ?_; exact Wk.permk (L := [(5, (i64 q10)), (6, (ow 0 0 l25)), (27, (i64 (Sh.len c14.cons))), (28, (i64 (Sh.w (t15 + 1))))]) (st' := [(ro 0 3 1 eI l25)]) (st1 := [(ro 0 3 1 eI l25)]) [0] rfl .nil (by decide) rfl rfl (.pure (pure_map fun _ => rfl) .nil) ⟨.rfl, .rfl, .rfl, .rfl, trivial⟩))
   ·intro b22 h1
    exact AW.exit (M18 l16 (Sh.some_eq h1).symm _ (Wk.tr rfl))
 refine AW.regionO rfl (zm tb 3 rfl ?_)
 rcases Sh.ite_some h1 with ⟨b26, h1⟩ | ⟨b26, h1⟩
 ·refine zs b26 rfl ?_
  iterate 3 refine zs b26 rfl ?_
  exact zt b26 rfl (AO.done (M5 true (Sh.some_eq h1).symm _ (Wk.tr rfl)))
 ·exact zg tb b26 rfl (zg tb b26 rfl (ao_q (v := (i64 (Sh.len p0))) (go1 rfl rfl b26) rfl (aq_lens sl34 rfl) (zg tb b26 rfl (zf b26 rfl (AO.done (M5 (decide ((Sh.len p0) < p1)) (Sh.some_eq h1).symm _ (Wk.tr rfl)))))))
theorem impl_signatures_numValid_ok {N : Nat} {s0_0 : Int} {s1_0 : (List Int)} {s1_1 : (List Int)} {s1_2 : Int} {s1_3 : Int} {s1_4 : (List RInstr)} {p0 : RSignatures} {p1 : RInstr} {r : Bool} (h0 : impl_signatures_numValid N s0_0 s1_0 s1_1 s1_2 s1_3 s1_4 p0 p1 = some r) : ACalls Tryz.prog 126 [(.agg (eRSignatures p0)), (.agg (eRInstr p1)), (.fn 124 [(.ptr 0 0 0 0), (.ptr 1 0 0 0)])] [⟨0, 3, 1, [[(i64 s0_0)]]⟩, ⟨0, 102, 5, [[(ls eI s1_0), (ls eI s1_1), (i64 s1_2), (i64 s1_3), (ls eRInstr s1_4)]]⟩] (fun v st => v = (.bool r) ∧ st = [⟨0, 3, 1, [[(i64 s0_0)]]⟩, ⟨0, 102, 5, [[(ls eI s1_0), (ls eI s1_1), (i64 s1_2), (i64 s1_3), (ls eRInstr s1_4)]]⟩]) := by
 unfold impl_signatures_numValid at h0
 refine ai Tryz.func126 rfl rfl rfl rfl (sr rfl fun K1 hK1 => ao_box (m := 2) go0 rfl rfl rfl rfl rfl (ao_box (m := 3) go0 rfl rfl rfl rfl rfl (zq tb rfl (dn hK1 rfl (AW.seq fun K2 hK2 => zr tb rfl rfl (AW.block (zr tb rfl rfl ?_)))))))
 refine ci h0 rfl ?_ ?_ <;> clear h0
 ·intro b5 h0
  refine AW.seq fun K6 hK6 => bs h0 fun o8 h1 h0 => ?_
  have M8 : ∀ (t7 : Bool), o8 = t7 → ∀ s, Wk 2 s ⟨109, envL [(6, (.bool t7))], [⟨0, 3, 1, [[(i64 s0_0)]]⟩, ⟨0, 102, 5, [[(ls eI s1_0), (ls eI s1_1), (i64 s1_2), (i64 s1_3), (ls eRInstr s1_4)]]⟩]⟩ → K6 s := by
   intro t7 hq s hw
   subst o8
   try dsimp only at h0
   refine hK6 _ (AW.weaken hw ?_)
   replace h0 := Sh.some_eq h0
   subst r
   exact AW.ret (xr (Wk.to (L := [(6, (.bool t7))]) ⟨.rfl, trivial⟩))
  refine AW.regionO rfl (zm tb 4 rfl ?_)
  rcases Sh.ite_some h1 with ⟨b9, h1⟩ | ⟨b9, h1⟩
  ·refine zg tb b9 rfl (zg tb b9 rfl (zg tb b9 rfl (zt b9 rfl (zq tb rfl ?_))))
   exact AO.done (M8 (decide (p1.num ≤ 999)) (Sh.some_eq h1).symm _ (Wk.permk (L := [(6, (.bool (decide (p1.num ≤ 999))))]) (st' := [⟨0, 3, 1, [[(i64 s0_0)]]⟩, ⟨0, 102, 5, [[(ls eI s1_0), (ls eI s1_1), (i64 s1_2), (i64 s1_3), (ls eRInstr s1_4)]]⟩]) (st1 := [⟨0, 3, 1, [[(i64 s0_0)]]⟩, ⟨0, 102, 5, [[(ls eI s1_0), (ls eI s1_1), (i64 s1_2), (i64 s1_3), (ls eRInstr s1_4)]]⟩]) [0, 1] rfl (.raw rfl rfl (.raw rfl rfl .nil)) (by decide) rfl rfl (.raw rfl rfl (.raw rfl rfl .nil)) ⟨.rfl, trivial⟩))
  ·refine zs b9 rfl (zs b9 rfl (zs b9 rfl (zf b9 rfl (zq tb rfl ?_))))
   exact AO.done (M8 false (Sh.some_eq h1).symm _ (Wk.permk (L := [(6, (.bool false))]) (st' := [⟨0, 3, 1, [[(i64 s0_0)]]⟩, ⟨0, 102, 5, [[(ls eI s1_0), (ls eI s1_1), (i64 s1_2), (i64 s1_3), (ls eRInstr s1_4)]]⟩]) (st1 := [⟨0, 3, 1, [[(i64 s0_0)]]⟩, ⟨0, 102, 5, [[(ls eI s1_0), (ls eI s1_1), (i64 s1_2), (i64 s1_3), (ls eRInstr s1_4)]]⟩]) [0, 1] rfl (.raw rfl rfl (.raw rfl rfl .nil)) (by decide) rfl rfl (.raw rfl rfl (.raw rfl rfl .nil)) ⟨.rfl, trivial⟩))
 ·intro b5 h0
  refine zr tb rfl rfl ?_
  refine ci h0 rfl ?_ ?_ <;> clear h0
  ·intro b11 h0
   refine AW.seq fun K12 hK12 => bs h0 fun o14 h1 h0 => ?_
   have M14 : ∀ (t13 : Bool), o14 = t13 → ∀ s, Wk 2 s ⟨109, envL [(6, (.bool t13))], [⟨0, 3, 1, [[(i64 s0_0)]]⟩, ⟨0, 102, 5, [[(ls eI s1_0), (ls eI s1_1), (i64 s1_2), (i64 s1_3), (ls eRInstr s1_4)]]⟩]⟩ → K12 s := by
    intro t13 hq s hw
    subst o14
    try dsimp only at h0
    refine hK12 _ (AW.weaken hw ?_)
    replace h0 := Sh.some_eq h0
    subst r
    exact AW.ret (xr (Wk.to (L := [(6, (.bool t13))]) ⟨.rfl, trivial⟩))
   refine AW.draw (by kernel_rfl) (by kernel_rfl) (by rfl) ?_
   iterate 4 refine yq tb rfl ?_
   rcases Sh.ite_some h1 with ⟨b15, h1⟩ | ⟨b15, h1⟩
   ·refine yg tb b15 rfl ?_
    iterate 3 refine yg tb b15 rfl ?_
    refine bs h1 fun q16 gq16 h1 => d_call (v := (i64 q16)) (go1 rfl rfl b15) hb143 (impl_conCount_ok gq16) rfl rfl rfl (yg tb b15 rfl (yt b15 rfl (yq tb rfl ?_)))
    exact d_done (M14 (decide (p1.num < q16)) (Sh.some_eq h1).symm _ (Wk.permk (L := [(6, (.bool (decide (p1.num < q16))))]) (st' := [⟨0, 3, 1, [[(i64 s0_0)]]⟩, ⟨0, 102, 5, [[(ls eI s1_0), (ls eI s1_1), (i64 s1_2), (i64 s1_3), (ls eRInstr s1_4)]]⟩]) (st1 := [⟨0, 3, 1, [[(i64 s0_0)]]⟩, ⟨0, 102, 5, [[(ls eI s1_0), (ls eI s1_1), (i64 s1_2), (i64 s1_3), (ls eRInstr s1_4)]]⟩]) [0, 1] rfl (.raw rfl rfl (.raw rfl rfl .nil)) (by decide) rfl rfl (.raw rfl rfl (.raw rfl rfl .nil)) ⟨.rfl, trivial⟩))
   ·refine ys b15 rfl ?_
    iterate 5 refine ys b15 rfl ?_
    refine yf b15 rfl (yq tb rfl ?_)
    exact d_done (M14 false (Sh.some_eq h1).symm _ (Wk.permk (L := [(6, (.bool false))]) (st' := [⟨0, 3, 1, [[(i64 s0_0)]]⟩, ⟨0, 102, 5, [[(ls eI s1_0), (ls eI s1_1), (i64 s1_2), (i64 s1_3), (ls eRInstr s1_4)]]⟩]) (st1 := [⟨0, 3, 1, [[(i64 s0_0)]]⟩, ⟨0, 102, 5, [[(ls eI s1_0), (ls eI s1_1), (i64 s1_2), (i64 s1_3), (ls eRInstr s1_4)]]⟩]) [0, 1] rfl (.raw rfl rfl (.raw rfl rfl .nil)) (by decide) rfl rfl (.raw rfl rfl (.raw rfl rfl .nil)) ⟨.rfl, trivial⟩))
  ·intro b11 h0
   refine AW.seq fun K17 hK17 => bs h0 fun o19 h1 h0 => ?_
   have M19 : ∀ (t18 : Bool), o19 = t18 → ∀ s, Wk 2 s ⟨109, envL [(2, (.fn 124 [(.ptr 0 0 0 0), (.ptr 1 0 0 0)])), (3, (.ptr 2 0 0 0)), (4, (.ptr 3 0 0 0)), (9, (i64 p1.op)), (33, (.bool t18))], [⟨0, 3, 1, [[(i64 s0_0)]]⟩, ⟨0, 102, 5, [[(ls eI s1_0), (ls eI s1_1), (i64 s1_2), (i64 s1_3), (ls eRInstr s1_4)]]⟩, ⟨0, 134, 2, [(eRSignatures p0)]⟩, ⟨0, 138, 6, [(eRInstr p1)]⟩]⟩ → K17 s := by
    intro t18 hq s hw
    subst o19
    try dsimp only at h0
    refine hK17 _ (AW.weaken hw ?_)
    refine ci h0 rfl ?_ ?_ <;> clear h0
    ·intro b20 h0
     refine AW.seq fun K21 hK21 => bs h0 fun o23 h1 h0 => ?_
     have M23 : ∀ (t22 : Bool), o23 = t22 → ∀ s, Wk 2 s ⟨109, envL [(6, (.bool t22))], [⟨0, 3, 1, [[(i64 s0_0)]]⟩, ⟨0, 102, 5, [[(ls eI s1_0), (ls eI s1_1), (i64 s1_2), (i64 s1_3), (ls eRInstr s1_4)]]⟩]⟩ → K21 s := by
      intro t22 hq s hw
      subst o23
      try dsimp only at h0
      refine hK21 _ (AW.weaken hw ?_)
      replace h0 := Sh.some_eq h0
      subst r
      exact AW.ret (xr (Wk.to (L := [(6, (.bool t22))]) ⟨.rfl, trivial⟩))
     refine AW.regionO rfl (zm tb 4 rfl ?_)
     rcases Sh.ite_some h1 with ⟨b24, h1⟩ | ⟨b24, h1⟩
     ·refine zg tb b24 rfl ?_
      iterate 3 refine zg tb b24 rfl ?_
      refine ao_q (v := (i64 (Sh.len p0.funcs))) (go1 rfl rfl b24) rfl (aq_lens sl132 rfl) (zg tb b24 rfl (zt b24 rfl (zq tb rfl ?_)))
      exact AO.done (M23 (decide (p1.num < (Sh.len p0.funcs))) (Sh.some_eq h1).symm _ (Wk.permk (L := [(6, (.bool (decide (p1.num < (Sh.len p0.funcs)))))]) (st' := [⟨0, 3, 1, [[(i64 s0_0)]]⟩, ⟨0, 102, 5, [[(ls eI s1_0), (ls eI s1_1), (i64 s1_2), (i64 s1_3), (ls eRInstr s1_4)]]⟩]) (st1 := [⟨0, 3, 1, [[(i64 s0_0)]]⟩, ⟨0, 102, 5, [[(ls eI s1_0), (ls eI s1_1), (i64 s1_2), (i64 s1_3), (ls eRInstr s1_4)]]⟩]) [0, 1] rfl (.raw rfl rfl (.raw rfl rfl .nil)) (by decide) rfl rfl (.raw rfl rfl (.raw rfl rfl .nil)) ⟨.rfl, trivial⟩))
     ·refine zs b24 rfl ?_
      iterate 5 refine zs b24 rfl ?_
      refine zf b24 rfl (zq tb rfl ?_)
      exact AO.done (M23 false (Sh.some_eq h1).symm _ (Wk.permk (L := [(6, (.bool false))]) (st' := [⟨0, 3, 1, [[(i64 s0_0)]]⟩, ⟨0, 102, 5, [[(ls eI s1_0), (ls eI s1_1), (i64 s1_2), (i64 s1_3), (ls eRInstr s1_4)]]⟩]) (st1 := [⟨0, 3, 1, [[(i64 s0_0)]]⟩, ⟨0, 102, 5, [[(ls eI s1_0), (ls eI s1_1), (i64 s1_2), (i64 s1_3), (ls eRInstr s1_4)]]⟩]) [0, 1] rfl (.raw rfl rfl (.raw rfl rfl .nil)) (by decide) rfl rfl (.raw rfl rfl (.raw rfl rfl .nil)) ⟨.rfl, trivial⟩))
    ·intro b20 h0
     refine zr tb rfl rfl ?_
     refine ci h0 rfl ?_ ?_ <;> clear h0
     ·intro b26 h0
      refine AW.seq fun K27 hK27 => bs h0 fun o29 h1 h0 => ?_
      have M29 : ∀ (t28 : Bool), o29 = t28 → ∀ s, Wk 2 s ⟨109, envL [(6, (.bool t28))], [⟨0, 3, 1, [[(i64 s0_0)]]⟩, ⟨0, 102, 5, [[(ls eI s1_0), (ls eI s1_1), (i64 s1_2), (i64 s1_3), (ls eRInstr s1_4)]]⟩]⟩ → K27 s := by
       intro t28 hq s hw
       subst o29
       try dsimp only at h0
       refine hK27 _ (AW.weaken hw ?_)
       replace h0 := Sh.some_eq h0
       subst r
       exact AW.ret (xr (Wk.to (L := [(6, (.bool t28))]) ⟨.rfl, trivial⟩))
      refine AW.regionO rfl (zm tb 4 rfl ?_)
      rcases Sh.ite_some h1 with ⟨b30, h1⟩ | ⟨b30, h1⟩
      ·refine zg tb b30 rfl ?_
       iterate 3 refine zg tb b30 rfl ?_
       refine ao_q (v := (i64 (Sh.len p0.funcs))) (go1 rfl rfl b30) rfl (aq_lens sl132 rfl) (zg tb b30 rfl (zt b30 rfl (zq tb rfl ?_)))
       rcases Sh.ite_some h1 with ⟨b31, h1⟩ | ⟨b31, h1⟩
       ·refine zg tb b31 rfl ?_
        iterate 3 refine zg tb b31 rfl ?_
        refine bs h1 fun c32 gc32 h1 => ao_q (v := (.iptr (eRSignature c32) 0)) (go1 rfl rfl b31) rfl (aq_ixs ei132 rfl rfl gc32 rfl) (zg tb b31 rfl (zg tb b31 rfl (ao_q (v := (i64 (Sh.len c32.lent))) (go1 rfl rfl b31) rfl (aq_lens sl26 rfl) (zg tb b31 rfl (zt b31 rfl (zq tb rfl ?_))))))
        exact AO.done (M29 (decide ((Sh.len c32.lent) = 0)) (Sh.some_eq h1).symm _ (Wk.permk (L := [(6, (.bool (decide ((Sh.len c32.lent) = 0))))]) (st' := [⟨0, 3, 1, [[(i64 s0_0)]]⟩, ⟨0, 102, 5, [[(ls eI s1_0), (ls eI s1_1), (i64 s1_2), (i64 s1_3), (ls eRInstr s1_4)]]⟩]) (st1 := [⟨0, 3, 1, [[(i64 s0_0)]]⟩, ⟨0, 102, 5, [[(ls eI s1_0), (ls eI s1_1), (i64 s1_2), (i64 s1_3), (ls eRInstr s1_4)]]⟩]) [0, 1] rfl (.raw rfl rfl (.raw rfl rfl .nil)) (by decide) rfl rfl (.raw rfl rfl (.raw rfl rfl .nil)) ⟨.rfl, trivial⟩))
       ·refine zs b31 rfl ?_
        iterate 8 refine zs b31 rfl ?_
        refine zf b31 rfl (zq tb rfl ?_)
        exact AO.done (M29 false (Sh.some_eq h1).symm _ (Wk.permk (L := [(6, (.bool false))]) (st' := [⟨0, 3, 1, [[(i64 s0_0)]]⟩, ⟨0, 102, 5, [[(ls eI s1_0), (ls eI s1_1), (i64 s1_2), (i64 s1_3), (ls eRInstr s1_4)]]⟩]) (st1 := [⟨0, 3, 1, [[(i64 s0_0)]]⟩, ⟨0, 102, 5, [[(ls eI s1_0), (ls eI s1_1), (i64 s1_2), (i64 s1_3), (ls eRInstr s1_4)]]⟩]) [0, 1] rfl (.raw rfl rfl (.raw rfl rfl .nil)) (by decide) rfl rfl (.raw rfl rfl (.raw rfl rfl .nil)) ⟨.rfl, trivial⟩))
      ·refine zs b30 rfl ?_
       iterate 5 refine zs b30 rfl ?_
       refine zf b30 rfl (zq tb rfl ?_)
       iterate 9 refine zs rfl rfl ?_
       refine zf rfl rfl (zq tb rfl ?_)
       exact AO.done (M29 false (Sh.some_eq h1).symm _ (Wk.permk (L := [(6, (.bool false))]) (st' := [⟨0, 3, 1, [[(i64 s0_0)]]⟩, ⟨0, 102, 5, [[(ls eI s1_0), (ls eI s1_1), (i64 s1_2), (i64 s1_3), (ls eRInstr s1_4)]]⟩]) (st1 := [⟨0, 3, 1, [[(i64 s0_0)]]⟩, ⟨0, 102, 5, [[(ls eI s1_0), (ls eI s1_1), (i64 s1_2), (i64 s1_3), (ls eRInstr s1_4)]]⟩]) [0, 1] rfl (.raw rfl rfl (.raw rfl rfl .nil)) (by decide) rfl rfl (.raw rfl rfl (.raw rfl rfl .nil)) ⟨.rfl, trivial⟩))
     ·intro b26 h0
      refine zr tb rfl rfl ?_
      refine ci h0 rfl ?_ ?_ <;> clear h0
      ·intro b34 h0
       refine AW.seq fun K35 hK35 => bs h0 fun o37 h1 h0 => ?_
       have M37 : ∀ (t36 : Bool), o37 = t36 → ∀ s, Wk 2 s ⟨109, envL [(6, (.bool t36))], [⟨0, 3, 1, [[(i64 s0_0)]]⟩, ⟨0, 102, 5, [[(ls eI s1_0), (ls eI s1_1), (i64 s1_2), (i64 s1_3), (ls eRInstr s1_4)]]⟩]⟩ → K35 s := by
        intro t36 hq s hw
        subst o37
        try dsimp only at h0
        refine hK35 _ (AW.weaken hw ?_)
        replace h0 := Sh.some_eq h0
        subst r
        exact AW.ret (xr (Wk.to (L := [(6, (.bool t36))]) ⟨.rfl, trivial⟩))
       refine AW.regionO rfl (zm tb 4 rfl ?_)
       rcases Sh.ite_some h1 with ⟨b38, h1⟩ | ⟨b38, h1⟩
       ·refine zg tb b38 rfl (zg tb b38 rfl (zg tb b38 rfl (zt b38 rfl (zq tb rfl ?_))))
        exact AO.done (M37 (decide (p1.num < 3)) (Sh.some_eq h1).symm _ (Wk.permk (L := [(6, (.bool (decide (p1.num < 3))))]) (st' := [⟨0, 3, 1, [[(i64 s0_0)]]⟩, ⟨0, 102, 5, [[(ls eI s1_0), (ls eI s1_1), (i64 s1_2), (i64 s1_3), (ls eRInstr s1_4)]]⟩]) (st1 := [⟨0, 3, 1, [[(i64 s0_0)]]⟩, ⟨0, 102, 5, [[(ls eI s1_0), (ls eI s1_1), (i64 s1_2), (i64 s1_3), (ls eRInstr s1_4)]]⟩]) [0, 1] rfl (.raw rfl rfl (.raw rfl rfl .nil)) (by decide) rfl rfl (.raw rfl rfl (.raw rfl rfl .nil)) ⟨.rfl, trivial⟩))
       ·refine zs b38 rfl (zs b38 rfl (zs b38 rfl (zf b38 rfl (zq tb rfl ?_))))
        exact AO.done (M37 false (Sh.some_eq h1).symm _ (Wk.permk (L := [(6, (.bool false))]) (st' := [⟨0, 3, 1, [[(i64 s0_0)]]⟩, ⟨0, 102, 5, [[(ls eI s1_0), (ls eI s1_1), (i64 s1_2), (i64 s1_3), (ls eRInstr s1_4)]]⟩]) (st1 := [⟨0, 3, 1, [[(i64 s0_0)]]⟩, ⟨0, 102, 5, [[(ls eI s1_0), (ls eI s1_1), (i64 s1_2), (i64 s1_3), (ls eRInstr s1_4)]]⟩]) [0, 1] rfl (.raw rfl rfl (.raw rfl rfl .nil)) (by decide) rfl rfl (.raw rfl rfl (.raw rfl rfl .nil)) ⟨.rfl, trivial⟩))
      ·intro b34 h0
       refine AW.seq fun K39 hK39 => bs h0 fun o41 h1 h0 => ?_
       have M41 : ∀ (t40 : Bool), o41 = t40 → ∀ s, Wk 2 s ⟨109, envL [(2, (.fn 124 [(.ptr 0 0 0 0), (.ptr 1 0 0 0)])), (3, (.ptr 2 0 0 0)), (4, (.ptr 3 0 0 0)), (9, (i64 p1.op)), (81, (.bool t40))], [⟨0, 3, 1, [[(i64 s0_0)]]⟩, ⟨0, 102, 5, [[(ls eI s1_0), (ls eI s1_1), (i64 s1_2), (i64 s1_3), (ls eRInstr s1_4)]]⟩, ⟨0, 134, 2, [(eRSignatures p0)]⟩, ⟨0, 138, 6, [(eRInstr p1)]⟩]⟩ → K39 s := by
        intro t40 hq s hw
        subst o41
        try dsimp only at h0
        refine hK39 _ (AW.weaken hw ?_)
        refine ci h0 rfl ?_ ?_ <;> clear h0
        ·intro b42 h0
         refine sr rfl fun K43 hK43 => zm tb 3 rfl (bs h0 fun q44 gq44 h0 => ?_)
         refine ao_callst (rowsP := [⟨0, 3, 1, [[(i64 s0_0)]]⟩, ⟨0, 102, 5, [[(ls eI s1_0), (ls eI s1_1), (i64 s1_2), (i64 s1_3), (ls eRInstr s1_4)]]⟩]) (rows0 := [⟨0, 3, 1, [[(i64 s0_0)]]⟩, ⟨0, 102, 5, [[(ls eI s1_0), (ls eI s1_1), (i64 s1_2), (i64 s1_3), (ls eRInstr s1_4)]]⟩]) (rows1 := [⟨0, 3, 1, [[(i64 s0_0)]]⟩, ⟨0, 102, 5, [[(ls eI s1_0), (ls eI s1_1), (i64 s1_2), (i64 s1_3), (ls eRInstr s1_4)]]⟩]) (rows2 := []) (rows1' := [⟨0, 3, 1, [[(i64 s0_0)]]⟩, ⟨0, 102, 5, [[(ls eI s1_0), (ls eI s1_1), (i64 s1_2), (i64 s1_3), (ls eRInstr s1_4)]]⟩]) (rows2' := []) (st' := [⟨0, 3, 1, [[(i64 s0_0)]]⟩, ⟨0, 102, 5, [[(ls eI s1_0), (ls eI s1_1), (i64 s1_2), (i64 s1_3), (ls eRInstr s1_4)]]⟩, ⟨0, 134, 2, [(eRSignatures p0)]⟩, ⟨0, 138, 6, [(eRInstr p1)]⟩]) (v' := (.bool q44)) [0, 1] go0 rfl hb124 (impl_signatures_instrValid_1_ok gq44) rfl (by decide) rfl rfl (.raw rfl rfl (.raw rfl rfl .nil)) rfl rfl (.raw rfl rfl (.raw rfl rfl .nil)) .nil rfl rfl ?_
         refine zq tb rfl (dn hK43 rfl ?_)
         replace h0 := Sh.some_eq h0
         subst r
         exact AW.ret (xr (Wk.permk (L := [(6, (.bool q44))]) (st' := [⟨0, 3, 1, [[(i64 s0_0)]]⟩, ⟨0, 102, 5, [[(ls eI s1_0), (ls eI s1_1), (i64 s1_2), (i64 s1_3), (ls eRInstr s1_4)]]⟩]) (st1 := [⟨0, 3, 1, [[(i64 s0_0)]]⟩, ⟨0, 102, 5, [[(ls eI s1_0), (ls eI s1_1), (i64 s1_2), (i64 s1_3), (ls eRInstr s1_4)]]⟩]) [0, 1] rfl (.raw rfl rfl (.raw rfl rfl .nil)) (by decide) rfl rfl (.raw rfl rfl (.raw rfl rfl .nil)) ⟨.rfl, trivial⟩))
        ·intro b42 h0
         refine zr tb rfl rfl ?_
         refine ci h0 rfl ?_ ?_ <;> clear h0
         ·intro b46 h0
          refine sr rfl fun K47 hK47 => zm tb 4 rfl (bs h0 fun q48 gq48 h0 => ao_call (v' := (ow 4 0 q48)) go0 hb144 (impl_consOf_ok gq48) rfl rfl ⟨(pure_map' fun _ => rfl), trivial⟩ rfl rfl (zq tb rfl (dn hK47 rfl (AW.seq fun K49 hK49 => bs h0 fun o51 h1 h0 => ?_))))
          have M51 : ∀ (t50 : Bool), o51 = t50 → ∀ s, Wk 2 s ⟨109, envL [(6, (.bool t50))], [⟨0, 3, 1, [[(i64 s0_0)]]⟩, ⟨0, 102, 5, [[(ls eI s1_0), (ls eI s1_1), (i64 s1_2), (i64 s1_3), (ls eRInstr s1_4)]]⟩]⟩ → K49 s := by
           intro t50 hq s hw
           subst o51
           try dsimp only at h0
           refine hK49 _ (AW.weaken hw ?_)
           replace h0 := Sh.some_eq h0
           subst r
           exact AW.ret (xr (Wk.to (L := [(6, (.bool t50))]) ⟨.rfl, trivial⟩))
          refine AW.regionO rfl (zq tb rfl (zz (i64 (Sh.len q48)) (aq_leno sl26 rfl rfl rfl) rfl (zm tb 2 rfl ?_)))
          rcases Sh.ite_some h1 with ⟨b52, h1⟩ | ⟨b52, h1⟩
          ·refine zg tb b52 rfl (zg tb b52 rfl (ao_q (v := (i64 (Sh.len p1.jumps))) (go1 rfl rfl b52) rfl (aq_lens sl26 rfl) (zg tb b52 rfl (ao_q (v := (i64 (Sh.len q48))) (go1 rfl rfl b52) rfl (aq_leno sl26 rfl rfl rfl) (zg tb b52 rfl (zt b52 rfl (zq tb rfl ?_)))))))
           exact AO.done (M51 (decide ((Sh.len p1.jumps) = (Sh.len q48))) (Sh.some_eq h1).symm _ (Wk.permk (L := [(6, (.bool (decide ((Sh.len p1.jumps) = (Sh.len q48)))))]) (st' := [⟨0, 3, 1, [[(i64 s0_0)]]⟩, ⟨0, 102, 5, [[(ls eI s1_0), (ls eI s1_1), (i64 s1_2), (i64 s1_3), (ls eRInstr s1_4)]]⟩]) (st1 := [⟨0, 3, 1, [[(i64 s0_0)]]⟩, ⟨0, 102, 5, [[(ls eI s1_0), (ls eI s1_1), (i64 s1_2), (i64 s1_3), (ls eRInstr s1_4)]]⟩]) [0, 1] rfl (.raw rfl rfl (.raw rfl rfl .nil)) (by decide) rfl rfl (.raw rfl rfl (.raw rfl rfl .nil)) ⟨.rfl, trivial⟩))
          ·refine zs b52 rfl ?_
           iterate 5 refine zs b52 rfl ?_
           refine zf b52 rfl (zq tb rfl ?_)
           exact AO.done (M51 false (Sh.some_eq h1).symm _ (Wk.permk (L := [(6, (.bool false))]) (st' := [⟨0, 3, 1, [[(i64 s0_0)]]⟩, ⟨0, 102, 5, [[(ls eI s1_0), (ls eI s1_1), (i64 s1_2), (i64 s1_3), (ls eRInstr s1_4)]]⟩]) (st1 := [⟨0, 3, 1, [[(i64 s0_0)]]⟩, ⟨0, 102, 5, [[(ls eI s1_0), (ls eI s1_1), (i64 s1_2), (i64 s1_3), (ls eRInstr s1_4)]]⟩]) [0, 1] rfl (.raw rfl rfl (.raw rfl rfl .nil)) (by decide) rfl rfl (.raw rfl rfl (.raw rfl rfl .nil)) ⟨.rfl, trivial⟩))
         ·intro b46 h0
          refine AW.skip (hK2 _ (zr tb rfl rfl ?_))
          replace h0 := Sh.some_eq h0
          subst r
          exact AW.ret (xr (Wk.permk (L := [(6, (.bool (decide (p1.num = 0))))]) (st' := [⟨0, 3, 1, [[(i64 s0_0)]]⟩, ⟨0, 102, 5, [[(ls eI s1_0), (ls eI s1_1), (i64 s1_2), (i64 s1_3), (ls eRInstr s1_4)]]⟩]) (st1 := [⟨0, 3, 1, [[(i64 s0_0)]]⟩, ⟨0, 102, 5, [[(ls eI s1_0), (ls eI s1_1), (i64 s1_2), (i64 s1_3), (ls eRInstr s1_4)]]⟩]) [0, 1] rfl (.raw rfl rfl (.raw rfl rfl .nil)) (by decide) rfl rfl (.raw rfl rfl (.raw rfl rfl .nil)) ⟨.rfl, trivial⟩))
       refine zr tb rfl rfl ?_
       refine ci h1 rfl ?_ ?_ <;> clear h1
       ·intro b55 h1
        exact AW.skip (M41 true (Sh.some_eq h1).symm _ (Wk.to (L := [(2, (.fn 124 [(.ptr 0 0 0 0), (.ptr 1 0 0 0)])), (3, (.ptr 2 0 0 0)), (4, (.ptr 3 0 0 0)), (9, (i64 p1.op)), (81, (.bool true))]) ⟨.rfl, .rfl, .rfl, .rfl, (.of (congrArg AV.bool b55)), trivial⟩))
       ·intro b55 h1
        exact AW.regionO rfl (zm tb 2 rfl (AO.done (M41 (decide (p1.op = 22)) (Sh.some_eq h1).symm _ (Wk.tr rfl))))
   refine zr tb rfl rfl ?_
   refine ci h1 rfl ?_ ?_ <;> clear h1
   ·intro b57 h1
    exact AW.skip (M19 true (Sh.some_eq h1).symm _ (Wk.to (L := [(2, (.fn 124 [(.ptr 0 0 0 0), (.ptr 1 0 0 0)])), (3, (.ptr 2 0 0 0)), (4, (.ptr 3 0 0 0)), (9, (i64 p1.op)), (33, (.bool true))]) ⟨.rfl, .rfl, .rfl, .rfl, (.of (congrArg AV.bool b57)), trivial⟩))
   ·intro b57 h1
    exact AW.regionO rfl (zm tb 2 rfl (AO.done (M19 (decide (p1.op = 24)) (Sh.some_eq h1).symm _ (Wk.tr rfl))))
theorem impl_conAt_ok {N : Nat} {p0 : (List RDecl)} {p1 : Int} {r : Int × RCon} (h0 : impl_conAt N p0 p1 = some r) : ACalls Tryz.prog 148 [(ls eRDecl p0), (i64 p1)] [] (fun v st => v = (.tup [(i64 r.1), (.agg (eRCon r.2))]) ∧ st = []) := by
 unfold impl_conAt at h0
 refine ACalls.flat rfl (ai Tryz.func148 rfl rfl rfl rfl (sr rfl fun K1 hK1 => zq tb rfl (ao_alloc (m := 0) go0 zi148 rfl rfl (dn hK1 rfl (AW.seq fun K2 hK2 => sr rfl fun K3 hK3 => zq tb rfl (zl tb rfl rfl (zq tb rfl (dn hK3 rfl ?_))))))))
 obtain ⟨o6, h1, h0⟩ := Sh.cont_some h0
 have M6 : ∀ (_ : Unit), o6 = Sum.inr () → ∀ s, Wk 0 s ⟨38, envL [(5, (.ptr 0 0 0 0))], [⟨0, 148, 1, [[.zc]]⟩]⟩ → K2 s := by
  intro _ hq s hw
  subst o6
  try dsimp only at h0
  refine hK2 _ (AW.weaken hw (sr rfl fun K7 hK7 => zz (.agg [.zc]) (aq_bd ai148 bi148 zi148 rfl rfl) rfl (zq tb rfl (ao_str go0 ti148 rfl rfl rfl rfl rfl rfl (show 0 + 1 ≤ 1 by decide) rfl (dn hK7 rfl ?_)))))
  replace h0 := Sh.some_eq h0
  subst r
  exact AW.ret (Exists.intro _ (And.intro ((Wk.cellLe (id := 0) (cs := [.zc]) (cs' := [(.sl (List.map eI []))]) (st' := [⟨0, 148, 1, [[(.sl (List.map eI []))]]⟩]) rfl ⟨le.zc, trivial⟩ rfl rfl).trans (Wk.to (L := [(4, (i64 (-1))), (5, (.ptr 0 0 0 0))]) ⟨.rfl, .rfl, trivial⟩)) (aq_ldpa (x := .tmp 5) (off := 0) (cs := [(.sl (List.map eI []))]) (vs := [(.sl (List.map eI []))]) ti148 rfl rfl rfl (show 0 + 1 ≤ 1 by decide) rfl _ rfl)))
 refine AW.block (AW.loopF (σ := Int × Int) (fun n v => impl_conAt_L1 p0 n v.1 v.2 = some o6) (fun (c4, t5) => ⟨38, envL [(1, (i64 c4)), (5, (.ptr 0 0 0 0)), (8, (ls eRDecl p0)), (9, (i64 (Sh.len p0))), (10, (i64 t5))], [⟨0, 148, 1, [[.zc]]⟩]⟩) N (p1, 0) h1 (Wk.tr rfl) (fun _ hv => by rw [impl_conAt_L1] at hv; cases hv) ?_)
 rintro n ⟨c4, t5⟩ h1
 try dsimp only at h1 ⊢
 rw [impl_conAt_L1] at h1
 refine zr tb rfl rfl (AW.seq fun K9 hK9 => ?_)
 refine ci h1 rfl ?_ ?_ <;> clear h1
 ·intro b10 h1
  refine AW.skip (hK9 _ (AW.seq fun K11 hK11 => AW.block (sr rfl fun K12 hK12 => zq tb rfl (bs h1 fun c13 gc13 h1 => zx ei34 gc13 rfl rfl rfl (zq tb rfl (ao_alloc (m := 1) go0 zi98 rfl rfl (zq tb rfl (ao_str go0 ti98 rfl rfl rfl rfl rfl rfl (show 0 + 3 ≤ 3 by decide) rfl (dn hK12 rfl ?_)))))))))
  refine AW.seq fun K14 hK14 => AW.seq fun K15 hK15 => bs h1 fun o17 h2 h1 => ?_
  have M17 : ∀ (t16 : Bool), o17 = t16 → ∀ s, Wk 0 s ⟨38, envL [(1, (i64 c4)), (5, (.ptr 0 0 0 0)), (6, (i64 t5)), (7, (.ptr 1 0 0 0)), (8, (ls eRDecl p0)), (9, (i64 (Sh.len p0))), (10, (i64 t5)), (23, (.bool t16))], [⟨0, 148, 1, [[.zc]]⟩, ⟨0, 98, 3, [(eRDecl c13)]⟩]⟩ → K15 s := by
   intro t16 hq s hw
   subst o17
   try dsimp only at h1
   refine hK15 _ (AW.weaken hw ?_)
   refine ci h1 rfl ?_ ?_ <;> clear h1
   ·intro b18 h1
    refine AW.seq fun K19 hK19 => ?_
    refine AW.drawTailO 8 (by kernel_rfl) (by kernel_rfl) (by rfl) ?_
    iterate 5 refine yq tb rfl ?_
    refine bs h1 fun c20 gc20 h1 => yx ei96 gc20 rfl rfl rfl ?_
    iterate 2 refine yq tb rfl ?_
    refine d_done (ao_str go0 ti148 rfl rfl rfl rfl rfl rfl (show 0 + 1 ≤ 1 by decide) rfl (dn hK19 rfl ?_))
    replace h1 := Sh.some_eq h1
    subst o6
    try dsimp only [id] at h0
    replace h0 := Sh.some_eq h0
    subst r
    exact AW.ret (Exists.intro _ (And.intro ((Wk.permk (L := [(4, (i64 (Sh.w (t5 + 1)))), (5, (.ptr 0 0 0 0))]) (st' := [⟨0, 148, 1, [(eRCon c20)]⟩]) (st1 := [⟨0, 148, 1, [(eRCon c20)]⟩]) [0] rfl .nil (by decide) rfl rfl (.raw rfl rfl .nil) ⟨.rfl, .rfl, trivial⟩).trans (Wk.to (L := [(4, (i64 (Sh.w (t5 + 1)))), (5, (.ptr 0 0 0 0))]) ⟨.rfl, .rfl, trivial⟩)) (aq_ldpa (x := .tmp 5) (off := 0) (cs := (eRCon c20)) (vs := (eRCon c20)) ti148 rfl rfl rfl (show 0 + 1 ≤ 1 by decide) rfl _ rfl)))
   ·intro b18 h1
    refine AW.skip (hK14 _ (AW.regionO rfl (zm tb 3 rfl (zl tb rfl rfl (zm tb 2 rfl (dn hK11 rfl (AW.regionO rfl (zm tb 2 rfl ?_))))))))
    exact AO.done (xi (Sh.w (c4 - (Sh.len c13.cons)), Sh.w (t5 + 1)) h1 (Wk.permk (L := [(1, (i64 (Sh.w (c4 - (Sh.len c13.cons))))), (5, (.ptr 0 0 0 0)), (8, (ls eRDecl p0)), (9, (i64 (Sh.len p0))), (10, (i64 (Sh.w (t5 + 1))))]) (st' := [⟨0, 148, 1, [[.zc]]⟩]) (st1 := [⟨0, 148, 1, [[.zc]]⟩]) [0] rfl .nil (by decide) rfl rfl (.raw rfl rfl .nil) ⟨.rfl, .rfl, .rfl, .rfl, .rfl, trivial⟩))
  refine AW.regionO rfl (zm tb 3 rfl ?_)
  rcases Sh.ite_some h2 with ⟨b21, h2⟩ | ⟨b21, h2⟩
  ·exact zg tb b21 rfl (zg tb b21 rfl (zg tb b21 rfl (ao_q (v := (i64 (Sh.len c13.cons))) (go1 rfl rfl b21) rfl (aq_lens sl96 rfl) (zg tb b21 rfl (zt b21 rfl (AO.done (M17 (decide (c4 < (Sh.len c13.cons))) (Sh.some_eq h2).symm _ (Wk.tr rfl))))))))
  ·refine zs b21 rfl ?_
   iterate 4 refine zs b21 rfl ?_
   exact zf b21 rfl (AO.done (M17 false (Sh.some_eq h2).symm _ (Wk.tr rfl)))
 ·intro b10 h1
  exact AW.exit (M6 () (Sh.some_eq h1).symm _ (Wk.tr rfl))
theorem impl_fieldsOf_ok {N : Nat} {p0 : (List RDecl)} {p1 : Int} {r : (List Int)} (h0 : impl_fieldsOf N p0 p1 = some r) : ACalls Tryz.prog 145 [(ls eRDecl p0), (i64 p1)] [] (fun v st => v = (ls eI r) ∧ st = []) := by
 unfold impl_fieldsOf at h0
 refine ai Tryz.func145 rfl rfl rfl rfl (zr tb rfl rfl (sr rfl fun K2 hK2 => zm tb 2 rfl (bs h0 fun q3 gq3 h0 => zc (v' := (.tup [(i64 q3.1), (.agg (eRCon q3.2))])) hb148 (impl_conAt_ok gq3) rfl rfl rfl (zm tb 3 rfl (ao_alloc (m := 0) go0 zi148 rfl rfl (zq tb rfl (ao_str go0 ti148 rfl rfl rfl rfl rfl rfl (show 0 + 1 ≤ 1 by decide) rfl (dn hK2 rfl (zr tb rfl rfl ?_)))))))))
 replace h0 := Sh.some_eq h0
 subst r
 exact AW.ret (xr (Wk.d0 [(4, (ls eI q3.2.fields))] rfl))
theorem impl_signatures_argsOf_ok {N : Nat} {p0 : RSignatures} {p1 : RInstr} {r : Int × Int} (h0 : impl_signatures_argsOf N p0 p1 = some r) : ACalls Tryz.prog 127 [(.agg (eRSignatures p0)), (.agg (eRInstr p1))] [] (fun v st => v = (.tup [(i64 r.1), (i64 r.2)]) ∧ st = []) := by
 unfold impl_signatures_argsOf at h0
 refine ai Tryz.func127 rfl rfl rfl rfl (sr rfl fun K1 hK1 => ao_box (m := 0) go0 rfl rfl rfl rfl rfl (ao_box (m := 1) go0 rfl rfl rfl rfl rfl (zm tb 2 rfl (dn hK1 rfl (zr tb rfl rfl (AW.seq fun K3 hK3 => ?_))))))
 obtain ⟨o5, h1, h0⟩ := Sh.cont_some h0
 have M5 : ∀ (n4 : Int), o5 = Sum.inr n4 → ∀ s, Wk 0 s ⟨53, envL [(6, (i64 n4))], []⟩ → K3 s := by
  intro n4 hq s hw
  subst o5
  try dsimp only at h0
  refine hK3 _ (AW.weaken hw (zr tb rfl rfl ?_))
  replace h0 := Sh.some_eq h0
  subst r
  exact AW.ret (xr (Wk.to (L := [(4, (i64 n4)), (5, (i64 n4))]) ⟨.rfl, .rfl, trivial⟩))
 refine zr tb rfl rfl (AW.block (AW.seq fun K8 hK8 => bs h1 fun o10 h2 h1 => ?_))
 have M10 : ∀ (t9 : Bool), o10 = t9 → ∀ s, Wk 0 s ⟨53, envL [(2, (.ptr 0 0 0 0)), (3, (.ptr 1 0 0 0)), (6, (i64 1)), (8, (i64 p1.op)), (9, (.bool t9))], [⟨0, 134, 2, [(eRSignatures p0)]⟩, ⟨0, 138, 6, [(eRInstr p1)]⟩]⟩ → K8 s := by
  intro t9 hq s hw
  subst o10
  try dsimp only at h1
  refine hK8 _ (AW.weaken hw ?_)
  refine ci h1 rfl ?_ ?_ <;> clear h1
  ·intro b11 h1
   exact AW.regionO rfl (zq tb rfl (AO.done (M5 0 (Sh.some_eq h1).symm _ (Wk.d0 _ rfl))))
  ·intro b11 h1
   refine AW.seq fun K12 hK12 => bs h1 fun o14 h2 h1 => ?_
   have M14 : ∀ (t13 : Bool), o14 = t13 → ∀ s, Wk 0 s ⟨53, envL [(2, (.ptr 0 0 0 0)), (3, (.ptr 1 0 0 0)), (6, (i64 1)), (8, (i64 p1.op)), (12, (.bool t13))], [⟨0, 134, 2, [(eRSignatures p0)]⟩, ⟨0, 138, 6, [(eRInstr p1)]⟩]⟩ → K12 s := by
    intro t13 hq s hw
    subst o14
    try dsimp only at h1
    refine hK12 _ (AW.weaken hw ?_)
    refine ci h1 rfl ?_ ?_ <;> clear h1
    ·intro b15 h1
     exact AW.regionO rfl (zq tb rfl (AO.done (M5 2 (Sh.some_eq h1).symm _ (Wk.d0 _ rfl))))
    ·intro b15 h1
     refine zr tb rfl rfl ?_
     refine ci h1 rfl ?_ ?_ <;> clear h1
     ·intro b17 h1
      exact AW.regionO rfl (zm tb 4 rfl (bs h1 fun q18 gq18 h1 => zc hb145 (impl_fieldsOf_ok gq18) rfl rfl rfl (zl tb rfl rfl (zq tb rfl (AO.done (M5 (Sh.len q18) (Sh.some_eq h1).symm _ (Wk.d0 _ rfl)))))))
     ·intro b17 h1
      refine AW.seq fun K19 hK19 => bs h1 fun o21 h2 h1 => ?_
      have M21 : ∀ (t20 : Bool), o21 = t20 → ∀ s, Wk 0 s ⟨53, envL [(2, (.ptr 0 0 0 0)), (3, (.ptr 1 0 0 0)), (6, (i64 1)), (8, (i64 p1.op)), (26, (.bool t20))], [⟨0, 134, 2, [(eRSignatures p0)]⟩, ⟨0, 138, 6, [(eRInstr p1)]⟩]⟩ → K19 s := by
       intro t20 hq s hw
       subst o21
       try dsimp only at h1
       refine hK19 _ (AW.weaken hw ?_)
       refine ci h1 rfl ?_ ?_ <;> clear h1
       ·intro b22 h1
        exact AW.regionO rfl (zm tb 4 rfl (bs h1 fun c23 gc23 h1 => zx ei132 gc23 rfl rfl rfl (zm tb 2 rfl (zl tb rfl rfl (zq tb rfl (AO.done (M5 (Sh.len c23.params) (Sh.some_eq h1).symm _ (Wk.d0 _ rfl))))))))
       ·intro b22 h1
        refine zr tb rfl rfl ?_
        refine ci h1 rfl ?_ ?_ <;> clear h1
        ·intro b25 h1
         exact AW.regionO rfl (zm tb 4 rfl (bs h1 fun c26 gc26 h1 => zx ei132 gc26 rfl rfl rfl (zm tb 2 rfl (zl tb rfl rfl (zm tb 2 rfl (AO.done (M5 (Sh.w ((Sh.len c26.params) - 1)) (Sh.some_eq h1).symm _ (Wk.d0 _ rfl))))))))
        ·intro b25 h1
         refine AW.seq fun K27 hK27 => bs h1 fun o29 h2 h1 => ?_
         have M29 : ∀ (t28 : Bool), o29 = t28 → ∀ s, Wk 0 s ⟨53, envL [(6, (i64 1)), (48, (.bool t28))], []⟩ → K27 s := by
          intro t28 hq s hw
          subst o29
          try dsimp only at h1
          refine hK27 _ (AW.weaken hw ?_)
          refine ci h1 rfl ?_ ?_ <;> clear h1
          ·intro b30 h1
           refine zr tb rfl rfl ?_
           replace h1 := Sh.some_eq h1
           subst o5
           try dsimp only [id] at h0
           replace h0 := Sh.some_eq h0
           subst r
           exact AW.ret (xr (Wk.to (L := [(4, (i64 1)), (5, (i64 4))]) ⟨.rfl, .rfl, trivial⟩))
          ·intro b30 h1
           exact AW.skip (M5 1 (Sh.some_eq h1).symm _ (Wk.tr rfl))
         refine zr tb rfl rfl ?_
         refine ci h2 rfl ?_ ?_ <;> clear h2
         ·intro b33 h2
          exact AW.skip (M29 true (Sh.some_eq h2).symm _ (by refine Wk.trans (Wk.permk (L := [(6, (i64 1)), (48, (.bool (decide (p1.op = 16))))]) (st' := []) (st1 := []) [] rfl .nil (by decide) rfl rfl .nil ⟨.rfl, .rfl, trivial⟩) ?_; exact Wk.to (L := [(6, (i64 1)), (48, (.bool true))]) ⟨.rfl, (.of (congrArg AV.bool b33)), trivial⟩))
         ·intro b33 h2
          exact AW.regionO rfl (zm tb 2 rfl (AO.done (M29 (decide (p1.op = 17)) (Sh.some_eq h2).symm _ (Wk.d0 _ rfl))))
      refine zr tb rfl rfl ?_
      refine ci h2 rfl ?_ ?_ <;> clear h2
      ·intro b35 h2
       exact AW.skip (M21 true (Sh.some_eq h2).symm _ (Wk.to (L := [(2, (.ptr 0 0 0 0)), (3, (.ptr 1 0 0 0)), (6, (i64 1)), (8, (i64 p1.op)), (26, (.bool true))]) ⟨.rfl, .rfl, .rfl, .rfl, (.of (congrArg AV.bool b35)), trivial⟩))
      ·intro b35 h2
       exact AW.regionO rfl (zm tb 2 rfl (AO.done (M21 (decide (p1.op = 24)) (Sh.some_eq h2).symm _ (Wk.tr rfl))))
   refine zr tb rfl rfl ?_
   refine ci h2 rfl ?_ ?_ <;> clear h2
   ·intro b37 h2
    exact AW.skip (M14 true (Sh.some_eq h2).symm _ (Wk.to (L := [(2, (.ptr 0 0 0 0)), (3, (.ptr 1 0 0 0)), (6, (i64 1)), (8, (i64 p1.op)), (12, (.bool true))]) ⟨.rfl, .rfl, .rfl, .rfl, (.of (congrArg AV.bool b37)), trivial⟩))
   ·intro b37 h2
    refine zr tb rfl rfl ?_
    refine ci h2 rfl ?_ ?_ <;> clear h2
    ·intro b39 h2
     exact AW.skip (M14 true (Sh.some_eq h2).symm _ (Wk.to (L := [(2, (.ptr 0 0 0 0)), (3, (.ptr 1 0 0 0)), (6, (i64 1)), (8, (i64 p1.op)), (12, (.bool true))]) ⟨.rfl, .rfl, .rfl, .rfl, (.of (congrArg AV.bool b39)), trivial⟩))
    ·intro b39 h2
     refine zr tb rfl rfl ?_
     refine ci h2 rfl ?_ ?_ <;> clear h2
     ·intro b41 h2
      exact AW.skip (M14 true (Sh.some_eq h2).symm _ (Wk.to (L := [(2, (.ptr 0 0 0 0)), (3, (.ptr 1 0 0 0)), (6, (i64 1)), (8, (i64 p1.op)), (12, (.bool true))]) ⟨.rfl, .rfl, .rfl, .rfl, (.of (congrArg AV.bool b41)), trivial⟩))
     ·intro b41 h2
      refine zr tb rfl rfl ?_
      refine ci h2 rfl ?_ ?_ <;> clear h2
      ·intro b43 h2
       exact AW.skip (M14 true (Sh.some_eq h2).symm _ (Wk.to (L := [(2, (.ptr 0 0 0 0)), (3, (.ptr 1 0 0 0)), (6, (i64 1)), (8, (i64 p1.op)), (12, (.bool true))]) ⟨.rfl, .rfl, .rfl, .rfl, (.of (congrArg AV.bool b43)), trivial⟩))
      ·intro b43 h2
       exact AW.regionO rfl (zm tb 2 rfl (AO.done (M14 (decide (p1.op = 11)) (Sh.some_eq h2).symm _ (Wk.tr rfl))))
 refine zr tb rfl rfl ?_
 refine ci h2 rfl ?_ ?_ <;> clear h2
 ·intro b45 h2
  exact AW.skip (M10 true (Sh.some_eq h2).symm _ (Wk.to (L := [(2, (.ptr 0 0 0 0)), (3, (.ptr 1 0 0 0)), (6, (i64 1)), (8, (i64 p1.op)), (9, (.bool true))]) ⟨.rfl, .rfl, .rfl, .rfl, (.of (congrArg AV.bool b45)), trivial⟩))
 ·intro b45 h2
  exact AW.regionO rfl (zm tb 2 rfl (AO.done (M10 (decide (p1.op = 22)) (Sh.some_eq h2).symm _ (Wk.tr rfl))))
theorem impl_signatures_instrValid_ok {N : Nat} {p0 : RSignatures} {p1 : RProc} {p2 : Int} {p3 : RInstr} {r : Bool} (h0 : impl_signatures_instrValid N p0 p1 p2 p3 = some r) : ACalls Tryz.prog 94 [(.agg (eRSignatures p0)), (.agg (eRProc p1)), (i64 p2), (.agg (eRInstr p3))] [] (fun v st => v = (.bool r) ∧ st = []) := by
 unfold impl_signatures_instrValid at h0
 refine ai Tryz.func94 rfl rfl rfl rfl (sr rfl fun K1 hK1 => ao_box (m := 0) go0 rfl rfl rfl rfl rfl (ao_box (m := 1) go0 rfl rfl rfl rfl rfl (ao_box (m := 2) go0 rfl rfl rfl rfl rfl (ao_box (m := 3) go0 rfl rfl rfl rfl rfl (zq tb rfl (dn hK1 rfl (AW.seq fun K2 hK2 => AW.seq fun K3 hK3 => bs h0 fun o5 h1 h0 => ?_)))))))
 have M5 : ∀ (t4 : Bool), o5 = t4 → ∀ s, Wk 0 s ⟨140, envL [(4, (.ptr 0 0 0 0)), (5, (.ptr 1 0 0 0)), (6, (.ptr 2 0 0 0)), (7, (.ptr 3 0 0 0)), (41, (.bool t4))], [⟨0, 134, 2, [(eRSignatures p0)]⟩, ⟨0, 102, 5, [(eRProc p1)]⟩, ⟨0, 3, 1, [[(i64 p2)]]⟩, ⟨0, 138, 6, [(eRInstr p3)]⟩]⟩ → K3 s := by
  intro t4 hq s hw
  subst o5
  try dsimp only at h0
  refine hK3 _ (AW.weaken hw ?_)
  refine ci h0 rfl ?_ ?_ <;> clear h0
  ·intro b6 h0
   refine zr tb rfl rfl ?_
   replace h0 := Sh.some_eq h0
   subst r
   exact AW.ret (xr (Wk.d0 [(8, (.bool false))] rfl))
  ·intro b6 h0
   refine AW.skip (hK2 _ (AW.seq fun K8 hK8 => AW.seq fun K9 hK9 => bs h0 fun o11 h1 h0 => ?_))
   have M11 : ∀ (t10 : Bool), o11 = t10 → ∀ s, Wk 0 s ⟨140, envL [(4, (.ptr 0 0 0 0)), (5, (.ptr 1 0 0 0)), (6, (.ptr 2 0 0 0)), (7, (.ptr 3 0 0 0)), (84, (.bool t10))], [⟨0, 134, 2, [(eRSignatures p0)]⟩, ⟨0, 102, 5, [(eRProc p1)]⟩, ⟨0, 3, 1, [[(i64 p2)]]⟩, ⟨0, 138, 6, [(eRInstr p3)]⟩]⟩ → K9 s := by
    intro t10 hq s hw
    subst o11
    try dsimp only at h0
    refine hK9 _ (AW.weaken hw ?_)
    refine ci h0 rfl ?_ ?_ <;> clear h0
    ·intro b12 h0
     refine zr tb rfl rfl ?_
     replace h0 := Sh.some_eq h0
     subst r
     exact AW.ret (xr (Wk.d0 [(8, (.bool false))] rfl))
    ·intro b12 h0
     refine AW.skip (hK8 _ (AW.seq fun K14 hK14 => sr rfl fun K15 hK15 => zm tb 2 rfl (zl tb rfl rfl (zq tb rfl (dn hK15 rfl ?_)))))
     obtain ⟨o17, h1, h0⟩ := Sh.cont_some h0
     have M17 : ∀ (_ : Unit), o17 = Sum.inr () → ∀ s, Wk 0 s ⟨140, envL [(4, (.ptr 0 0 0 0)), (5, (.ptr 1 0 0 0)), (6, (.ptr 2 0 0 0)), (7, (.ptr 3 0 0 0))], [⟨0, 134, 2, [(eRSignatures p0)]⟩, ⟨0, 102, 5, [(eRProc p1)]⟩, ⟨0, 3, 1, [[(i64 p2)]]⟩, ⟨0, 138, 6, [(eRInstr p3)]⟩]⟩ → K14 s := by
      intro _ hq s hw
      subst o17
      try dsimp only at h0
      refine hK14 _ (AW.weaken hw (sr rfl fun K18 hK18 => zz (.fn 124 [(.ptr 2 0 0 0), (.ptr 1 0 0 0)]) (aq_fn rfl) rfl (ao_alloc (m := 4) go0 zi129 rfl rfl (ao_str go0 ti129 rfl rfl rfl rfl rfl rfl (show 0 + 1 ≤ 1 by decide) rfl (dn hK18 rfl (AW.seq fun K19 hK19 => AW.seq fun K20 hK20 => bs h0 fun o22 h1 h0 => ?_))))))
      have M22 : ∀ (t21 : Bool), o22 = t21 → ∀ s, Wk 0 s ⟨140, envL [(4, (.ptr 0 0 0 0)), (7, (.ptr 3 0 0 0)), (11, (.ptr 4 0 0 0)), (116, (.bool t21))], [⟨0, 134, 2, [(eRSignatures p0)]⟩, ⟨0, 102, 5, [(eRProc p1)]⟩, ⟨0, 3, 1, [[(i64 p2)]]⟩, ⟨0, 138, 6, [(eRInstr p3)]⟩, ⟨0, 129, 1, [[(.fn 124 [(.ptr 2 0 0 0), (.ptr 1 0 0 0)])]]⟩]⟩ → K20 s := by
       intro t21 hq s hw
       subst o22
       try dsimp only at h0
       refine hK20 _ (AW.weaken hw ?_)
       refine ci h0 rfl ?_ ?_ <;> clear h0
       ·intro b23 h0
        refine zr tb rfl rfl ?_
        replace h0 := Sh.some_eq h0
        subst r
        exact AW.ret (xr (Wk.d0 [(8, (.bool false))] rfl))
       ·intro b23 h0
        refine AW.skip (hK19 _ (AW.seq fun K25 hK25 => sr rfl fun K26 hK26 => zm tb 3 rfl (bs h0 fun q27 gq27 h0 => ?_)))
        refine ao_calls (rowsP := [⟨0, 3, 1, [[(i64 p2)]]⟩, ⟨0, 102, 5, [(eRProc p1)]⟩]) (rows0 := [⟨0, 3, 1, [[(i64 p2)]]⟩, ⟨0, 102, 5, [(eRProc p1)]⟩]) (rows1 := [⟨0, 3, 1, [[(i64 p2)]]⟩, ⟨0, 102, 5, [(eRProc p1)]⟩]) (rows2 := []) (rows1' := [⟨0, 3, 1, [[(i64 p2)]]⟩, ⟨0, 102, 5, [(eRProc p1)]⟩]) (rows2' := []) (st' := [⟨0, 134, 2, [(eRSignatures p0)]⟩, ⟨0, 102, 5, [(eRProc p1)]⟩, ⟨0, 3, 1, [[(i64 p2)]]⟩, ⟨0, 138, 6, [(eRInstr p3)]⟩, ⟨0, 129, 1, [[(.fn 124 [(.ptr 2 0 0 0), (.ptr 1 0 0 0)])]]⟩]) (v' := (.bool q27)) [2, 1] go0 hb126 (impl_signatures_numValid_ok gq27) rfl (by decide) rfl rfl (.raw rfl rfl (.raw rfl rfl .nil)) rfl rfl (.raw rfl rfl (.raw rfl rfl .nil)) .nil rfl rfl ?_
        refine zq tb rfl (dn hK26 rfl ?_)
        refine ci h0 rfl ?_ ?_ <;> clear h0
        ·intro b28 h0
         have b29 : q27 = false := by simpa using b28
         refine zr tb rfl rfl ?_
         replace h0 := Sh.some_eq h0
         subst r
         exact AW.ret (xr (Wk.d0 [(8, (.bool false))] rfl))
        ·intro b28 h0
         have b31 : q27 = true := by simpa using b28
         refine AW.skip (hK25 _ (sr rfl fun K32 hK32 => zm tb 2 rfl (bs h0 fun q33 gq33 h0 => zc (v' := (.tup [(i64 q33.1), (i64 q33.2)])) hb127 (impl_signatures_argsOf_ok gq33) rfl rfl rfl (zm tb 5 rfl (dn hK32 rfl (AW.seq fun K34 hK34 => bs h0 fun o36 h1 h0 => ?_))))))
         have M36 : ∀ (t35 : Bool), o36 = t35 → ∀ s, Wk 0 s ⟨140, envL [(8, (.bool t35))], []⟩ → K34 s := by
          intro t35 hq s hw
          subst o36
          try dsimp only at h0
          refine hK34 _ (AW.weaken hw ?_)
          replace h0 := Sh.some_eq h0
          subst r
          exact AW.ret (xr (Wk.to (L := [(8, (.bool t35))]) ⟨.rfl, trivial⟩))
         refine AW.regionO rfl (zm tb 2 rfl (zl tb rfl rfl (zm tb 3 rfl ?_)))
         rcases Sh.ite_some h1 with ⟨b37, h1⟩ | ⟨b37, h1⟩
         ·exact zg tb b37 rfl (zg tb b37 rfl (ao_q (v := (i64 (Sh.len p3.args))) (go1 rfl rfl b37) rfl (aq_lens sl26 rfl) (zg tb b37 rfl (zg tb b37 rfl (zt b37 rfl (zq tb rfl (AO.done (M36 (decide ((Sh.len p3.args) ≤ q33.2)) (Sh.some_eq h1).symm _ (Wk.d0 _ rfl)))))))))
         ·refine zs b37 rfl ?_
          iterate 4 refine zs b37 rfl ?_
          exact zf b37 rfl (zq tb rfl (AO.done (M36 false (Sh.some_eq h1).symm _ (Wk.d0 _ rfl))))
      refine AW.regionO rfl (zm tb 2 rfl (zl tb rfl rfl (zm tb 2 rfl ?_)))
      rcases Sh.ite_some h1 with ⟨b38, h1⟩ | ⟨b38, h1⟩
      ·refine zg tb b38 rfl (zg tb b38 rfl (zg tb b38 rfl (zt b38 rfl (zq tb rfl ?_))))
       rcases Sh.ite_some h1 with ⟨b39, h1⟩ | ⟨b39, h1⟩
       ·refine zs b39 rfl ?_
        iterate 3 refine zs b39 rfl ?_
        exact zt b39 rfl (AO.done (M22 true (Sh.some_eq h1).symm _ (Wk.tr rfl)))
       ·refine zg tb b39 rfl (zg tb b39 rfl (ao_q (v := (.fn 125 [(.ptr 4 0 0 0)])) (go1 rfl rfl b39) rfl (aq_fn rfl) (bs h1 fun q40 gq40 h1 => ?_)))
        refine ao_calls (rowsP := [⟨0, 129, 1, [[(.fn 124 [(.ptr 2 0 0 0), (.ptr 1 0 0 0)])]]⟩, ⟨0, 3, 1, [[(i64 p2)]]⟩, ⟨0, 102, 5, [(eRProc p1)]⟩]) (rows0 := [⟨0, 129, 1, [[(.fn 124 [(.ptr 1 0 0 0), (.ptr 2 0 0 0)])]]⟩, ⟨0, 3, 1, [[(i64 p2)]]⟩, ⟨0, 102, 5, [(eRProc p1)]⟩]) (rows1 := [⟨0, 129, 1, [[(.fn 124 [(.ptr 1 0 0 0), (.ptr 2 0 0 0)])]]⟩, ⟨0, 3, 1, [[(i64 p2)]]⟩, ⟨0, 102, 5, [(eRProc p1)]⟩]) (rows2 := []) (rows1' := [⟨0, 129, 1, [[(.fn 124 [(.ptr 2 0 0 0), (.ptr 1 0 0 0)])]]⟩, ⟨0, 3, 1, [[(i64 p2)]]⟩, ⟨0, 102, 5, [(eRProc p1)]⟩]) (rows2' := []) (st' := [⟨0, 134, 2, [(eRSignatures p0)]⟩, ⟨0, 102, 5, [(eRProc p1)]⟩, ⟨0, 3, 1, [[(i64 p2)]]⟩, ⟨0, 138, 6, [(eRInstr p3)]⟩, ⟨0, 129, 1, [[(.fn 124 [(.ptr 2 0 0 0), (.ptr 1 0 0 0)])]]⟩]) (v' := (.bool q40)) [4, 2, 1] (go1 rfl rfl b39) hb97 (slices_ContainsFunc_int_int_ok gq40) rfl (by decide) rfl rfl (.raw rfl rfl (.raw rfl rfl (.raw rfl rfl .nil))) rfl rfl (.raw rfl rfl (.raw rfl rfl (.raw rfl rfl .nil))) .nil rfl rfl ?_
        exact zf b39 rfl (AO.done (M22 q40 (Sh.some_eq h1).symm _ (Wk.tr rfl)))
      ·refine zs b38 rfl (zs b38 rfl (zs b38 rfl (zf b38 rfl (zq tb rfl (zg tb rfl rfl (zg tb rfl rfl (ao_q (v := (.fn 125 [(.ptr 4 0 0 0)])) (go1 rfl rfl rfl) rfl (aq_fn rfl) (bs h1 fun q41 gq41 h1 => ?_))))))))
       refine ao_calls (rowsP := [⟨0, 129, 1, [[(.fn 124 [(.ptr 2 0 0 0), (.ptr 1 0 0 0)])]]⟩, ⟨0, 3, 1, [[(i64 p2)]]⟩, ⟨0, 102, 5, [(eRProc p1)]⟩]) (rows0 := [⟨0, 129, 1, [[(.fn 124 [(.ptr 1 0 0 0), (.ptr 2 0 0 0)])]]⟩, ⟨0, 3, 1, [[(i64 p2)]]⟩, ⟨0, 102, 5, [(eRProc p1)]⟩]) (rows1 := [⟨0, 129, 1, [[(.fn 124 [(.ptr 1 0 0 0), (.ptr 2 0 0 0)])]]⟩, ⟨0, 3, 1, [[(i64 p2)]]⟩, ⟨0, 102, 5, [(eRProc p1)]⟩]) (rows2 := []) (rows1' := [⟨0, 129, 1, [[(.fn 124 [(.ptr 2 0 0 0), (.ptr 1 0 0 0)])]]⟩, ⟨0, 3, 1, [[(i64 p2)]]⟩, ⟨0, 102, 5, [(eRProc p1)]⟩]) (rows2' := []) (st' := [⟨0, 134, 2, [(eRSignatures p0)]⟩, ⟨0, 102, 5, [(eRProc p1)]⟩, ⟨0, 3, 1, [[(i64 p2)]]⟩, ⟨0, 138, 6, [(eRInstr p3)]⟩, ⟨0, 129, 1, [[(.fn 124 [(.ptr 2 0 0 0), (.ptr 1 0 0 0)])]]⟩]) (v' := (.bool q41)) [4, 2, 1] (go1 rfl rfl rfl) hb97 (slices_ContainsFunc_int_int_ok gq41) rfl (by decide) rfl rfl (.raw rfl rfl (.raw rfl rfl (.raw rfl rfl .nil))) rfl rfl (.raw rfl rfl (.raw rfl rfl (.raw rfl rfl .nil))) .nil rfl rfl ?_
       exact zf rfl rfl (AO.done (M22 q41 (Sh.some_eq h1).symm _ (Wk.tr rfl)))
     refine AW.block (AW.loopF (σ := Int) (fun n v => impl_signatures_instrValid_L1 p1 p3 n v = some o17) (fun t16 => ⟨140, envL [(4, (.ptr 0 0 0 0)), (5, (.ptr 1 0 0 0)), (6, (.ptr 2 0 0 0)), (7, (.ptr 3 0 0 0)), (86, (ls eI p3.args)), (87, (i64 (Sh.len p3.args))), (88, (i64 t16))], [⟨0, 134, 2, [(eRSignatures p0)]⟩, ⟨0, 102, 5, [(eRProc p1)]⟩, ⟨0, 3, 1, [[(i64 p2)]]⟩, ⟨0, 138, 6, [(eRInstr p3)]⟩]⟩) N 0 h1 (Wk.tr rfl) (fun _ hv => by rw [impl_signatures_instrValid_L1] at hv; cases hv) ?_)
     rintro n t16 h1
     try dsimp only at h1 ⊢
     rw [impl_signatures_instrValid_L1] at h1
     refine zr tb rfl rfl (AW.seq fun K43 hK43 => ?_)
     refine ci h1 rfl ?_ ?_ <;> clear h1
     ·intro b44 h1
      refine AW.skip (hK43 _ (AW.seq fun K45 hK45 => AW.block (sr rfl fun K46 hK46 => bs h1 fun c47 gc47 h1 => zx ei26 gc47 rfl rfl rfl (zm tb 2 rfl (dn hK46 rfl (AW.seq fun K48 hK48 => bs h1 fun o50 h2 h1 => ?_))))))
      have M50 : ∀ (t49 : Bool), o50 = t49 → ∀ s, Wk 0 s ⟨140, envL [(4, (.ptr 0 0 0 0)), (5, (.ptr 1 0 0 0)), (6, (.ptr 2 0 0 0)), (7, (.ptr 3 0 0 0)), (86, (ls eI p3.args)), (87, (i64 (Sh.len p3.args))), (88, (i64 t16)), (99, (.bool t49))], [⟨0, 134, 2, [(eRSignatures p0)]⟩, ⟨0, 102, 5, [(eRProc p1)]⟩, ⟨0, 3, 1, [[(i64 p2)]]⟩, ⟨0, 138, 6, [(eRInstr p3)]⟩]⟩ → K48 s := by
       intro t49 hq s hw
       subst o50
       try dsimp only at h1
       refine hK48 _ (AW.weaken hw ?_)
       refine ci h1 rfl ?_ ?_ <;> clear h1
       ·intro b51 h1
        refine zr tb rfl rfl ?_
        replace h1 := Sh.some_eq h1
        subst o17
        try dsimp only [id] at h0
        replace h0 := Sh.some_eq h0
        subst r
        exact AW.ret (xr (Wk.d0 [(8, (.bool false))] rfl))
       ·intro b51 h1
        exact AW.skip (hK45 _ (AW.regionO rfl (zm tb 2 rfl (AO.done (xi (Sh.w (t16 + 1)) h1 (Wk.tr rfl))))))
      refine AW.regionO rfl (zm tb 3 rfl ?_)
      rcases Sh.ite_some h2 with ⟨b53, h2⟩ | ⟨b53, h2⟩
      ·refine zs b53 rfl ?_
       iterate 3 refine zs b53 rfl ?_
       exact zt b53 rfl (AO.done (M50 true (Sh.some_eq h2).symm _ (Wk.tr rfl)))
      ·refine zg tb b53 rfl ?_
       iterate 3 refine zg tb b53 rfl ?_
       exact zf b53 rfl (AO.done (M50 (decide (p1.regs ≤ c47)) (Sh.some_eq h2).symm _ (Wk.tr rfl)))
     ·intro b44 h1
      exact AW.exit (M17 () (Sh.some_eq h1).symm _ (Wk.tr rfl))
   refine AW.regionO rfl (zm tb 4 rfl ?_)
   rcases Sh.ite_some h1 with ⟨b54, h1⟩ | ⟨b54, h1⟩
   ·refine zs b54 rfl ?_
    iterate 4 refine zs b54 rfl ?_
    refine zt b54 rfl (zq tb rfl ?_)
    iterate 4 refine zs rfl rfl ?_
    iterate 4 refine zn rfl ?_
    refine zs rfl rfl (zt rfl rfl (zq tb rfl ?_))
    iterate 3 refine zs rfl rfl ?_
    refine zt rfl rfl (zq tb rfl ?_)
    iterate 5 refine zs rfl rfl ?_
    refine zt rfl rfl (zq tb rfl ?_)
    iterate 4 refine zs rfl rfl ?_
    iterate 3 refine zn rfl ?_
    exact zs rfl rfl (zt rfl rfl (AO.done (M11 true (Sh.some_eq h1).symm _ (Wk.tr rfl))))
   ·refine zg tb b54 rfl ?_
    iterate 4 refine zg tb b54 rfl ?_
    refine zf b54 rfl (zq tb rfl ?_)
    rcases Sh.ite_some h1 with ⟨b55, h1⟩ | ⟨b55, h1⟩
    ·refine zs b55 rfl ?_
     iterate 3 refine zs b55 rfl ?_
     iterate 4 refine zn rfl ?_
     refine zs b55 rfl (zt b55 rfl (zq tb rfl ?_))
     iterate 3 refine zs rfl rfl ?_
     refine zt rfl rfl (zq tb rfl ?_)
     iterate 5 refine zs rfl rfl ?_
     refine zt rfl rfl (zq tb rfl ?_)
     iterate 4 refine zs rfl rfl ?_
     iterate 3 refine zn rfl ?_
     exact zs rfl rfl (zt rfl rfl (AO.done (M11 true (Sh.some_eq h1).symm _ (Wk.tr rfl))))
    ·refine zg tb b55 rfl ?_
     iterate 3 refine zg tb b55 rfl ?_
     rcases Sh.ite_some h1 with ⟨b56, h1⟩ | ⟨b56, h1⟩
     ·refine zg tb b56 rfl (zg tb b56 rfl (bs h1 fun q57 gq57 h1 => zd b56 hb108 (impl_setsRegister_ok gq57) rfl rfl rfl rfl (zg tb b56 rfl (ao_q (v := (.bool (!q57))) (go1 rfl rfl b55) rfl (aq_pkt rfl b56 rfl) (zf b55 rfl (zq tb rfl ?_))))))
      rcases Sh.ite_some h1 with ⟨b58, h1⟩ | ⟨b58, h1⟩
      ·refine zs b58 rfl (zs b58 rfl (zs b58 rfl (zt b58 rfl (zq tb rfl ?_))))
       iterate 5 refine zs rfl rfl ?_
       refine zt rfl rfl (zq tb rfl ?_)
       iterate 4 refine zs rfl rfl ?_
       iterate 3 refine zn rfl ?_
       exact zs rfl rfl (zt rfl rfl (AO.done (M11 true (Sh.some_eq h1).symm _ (Wk.tr rfl))))
      ·refine zg tb b58 rfl (zg tb b58 rfl (zg tb b58 rfl (zf b58 rfl (zq tb rfl ?_))))
       rcases Sh.ite_some h1 with ⟨b59, h1⟩ | ⟨b59, h1⟩
       ·refine zs b59 rfl ?_
        iterate 4 refine zs b59 rfl ?_
        refine zt b59 rfl (zq tb rfl ?_)
        iterate 4 refine zs rfl rfl ?_
        iterate 3 refine zn rfl ?_
        exact zs rfl rfl (zt rfl rfl (AO.done (M11 true (Sh.some_eq h1).symm _ (Wk.tr rfl))))
       ·refine zg tb b59 rfl ?_
        iterate 4 refine zg tb b59 rfl ?_
        refine zf b59 rfl (zq tb rfl ?_)
        rcases Sh.ite_some h1 with ⟨b60, h1⟩ | ⟨b60, h1⟩
        ·refine zs b60 rfl ?_
         iterate 3 refine zs b60 rfl ?_
         iterate 3 refine zn rfl ?_
         exact zs b60 rfl (zt b60 rfl (AO.done (M11 true (Sh.some_eq h1).symm _ (Wk.tr rfl))))
        ·refine zg tb b60 rfl ?_
         iterate 3 refine zg tb b60 rfl ?_
         rcases Sh.ite_some h1 with ⟨b61, h1⟩ | ⟨b61, h1⟩
         ·exact zg tb b61 rfl (zg tb b61 rfl (zg tb b61 rfl (ao_q (v := (.bool (!decide (p3.op = 6)))) (go1 rfl rfl b60) rfl (aq_pkt rfl b61 rfl) (zf b60 rfl (AO.done (M11 (!decide (p3.op = 6)) (Sh.some_eq h1).symm _ (Wk.tr rfl)))))))
         ·exact zs b61 rfl (zs b61 rfl (zs b61 rfl (ao_q (v := (.bool false)) (go1 rfl rfl b60) rfl (aq_pkf rfl b61 rfl) (zf b60 rfl (AO.done (M11 false (Sh.some_eq h1).symm _ (Wk.tr rfl)))))))
     ·refine zs b56 rfl ?_
      iterate 3 refine zs b56 rfl ?_
      refine ao_q (v := (.bool false)) (go1 rfl rfl b55) rfl (aq_pkf rfl b56 rfl) (zf b55 rfl (zq tb rfl ?_))
      iterate 3 refine zg tb rfl rfl ?_
      refine zf rfl rfl (zq tb rfl ?_)
      rcases Sh.ite_some h1 with ⟨b62, h1⟩ | ⟨b62, h1⟩
      ·refine zs b62 rfl ?_
       iterate 4 refine zs b62 rfl ?_
       refine zt b62 rfl (zq tb rfl ?_)
       iterate 4 refine zs rfl rfl ?_
       iterate 3 refine zn rfl ?_
       exact zs rfl rfl (zt rfl rfl (AO.done (M11 true (Sh.some_eq h1).symm _ (Wk.tr rfl))))
      ·refine zg tb b62 rfl ?_
       iterate 4 refine zg tb b62 rfl ?_
       refine zf b62 rfl (zq tb rfl ?_)
       rcases Sh.ite_some h1 with ⟨b63, h1⟩ | ⟨b63, h1⟩
       ·refine zs b63 rfl ?_
        iterate 3 refine zs b63 rfl ?_
        iterate 3 refine zn rfl ?_
        exact zs b63 rfl (zt b63 rfl (AO.done (M11 true (Sh.some_eq h1).symm _ (Wk.tr rfl))))
       ·refine zg tb b63 rfl ?_
        iterate 3 refine zg tb b63 rfl ?_
        rcases Sh.ite_some h1 with ⟨b64, h1⟩ | ⟨b64, h1⟩
        ·exact zg tb b64 rfl (zg tb b64 rfl (zg tb b64 rfl (ao_q (v := (.bool (!decide (p3.op = 6)))) (go1 rfl rfl b63) rfl (aq_pkt rfl b64 rfl) (zf b63 rfl (AO.done (M11 (!decide (p3.op = 6)) (Sh.some_eq h1).symm _ (Wk.tr rfl)))))))
        ·exact zs b64 rfl (zs b64 rfl (zs b64 rfl (ao_q (v := (.bool false)) (go1 rfl rfl b63) rfl (aq_pkf rfl b64 rfl) (zf b63 rfl (AO.done (M11 false (Sh.some_eq h1).symm _ (Wk.tr rfl)))))))
 refine AW.regionO rfl (zm tb 4 rfl ?_)
 rcases Sh.ite_some h1 with ⟨b65, h1⟩ | ⟨b65, h1⟩
 ·refine zs b65 rfl (zs b65 rfl (zs b65 rfl (zt b65 rfl (zq tb rfl ?_))))
  iterate 3 refine zs rfl rfl ?_
  refine zt rfl rfl (zq tb rfl ?_)
  iterate 3 refine zs rfl rfl ?_
  refine zt rfl rfl (zq tb rfl ?_)
  iterate 3 refine zs rfl rfl ?_
  refine zt rfl rfl (zq tb rfl ?_)
  iterate 3 refine zs rfl rfl ?_
  exact zt rfl rfl (AO.done (M5 true (Sh.some_eq h1).symm _ (Wk.tr rfl)))
 ·refine zg tb b65 rfl (zg tb b65 rfl (zg tb b65 rfl (zf b65 rfl (zq tb rfl ?_))))
  rcases Sh.ite_some h1 with ⟨b66, h1⟩ | ⟨b66, h1⟩
  ·refine zs b66 rfl (zs b66 rfl (zs b66 rfl (zt b66 rfl (zq tb rfl ?_))))
   iterate 3 refine zs rfl rfl ?_
   refine zt rfl rfl (zq tb rfl ?_)
   iterate 3 refine zs rfl rfl ?_
   refine zt rfl rfl (zq tb rfl ?_)
   iterate 3 refine zs rfl rfl ?_
   exact zt rfl rfl (AO.done (M5 true (Sh.some_eq h1).symm _ (Wk.tr rfl)))
  ·refine zg tb b66 rfl (zg tb b66 rfl (zg tb b66 rfl (zf b66 rfl (zq tb rfl ?_))))
   rcases Sh.ite_some h1 with ⟨b67, h1⟩ | ⟨b67, h1⟩
   ·refine zs b67 rfl (zs b67 rfl (zs b67 rfl (zt b67 rfl (zq tb rfl ?_))))
    iterate 3 refine zs rfl rfl ?_
    refine zt rfl rfl (zq tb rfl ?_)
    iterate 3 refine zs rfl rfl ?_
    exact zt rfl rfl (AO.done (M5 true (Sh.some_eq h1).symm _ (Wk.tr rfl)))
   ·refine zg tb b67 rfl (zg tb b67 rfl (zg tb b67 rfl (zf b67 rfl (zq tb rfl ?_))))
    rcases Sh.ite_some h1 with ⟨b68, h1⟩ | ⟨b68, h1⟩
    ·refine zs b68 rfl (zs b68 rfl (zs b68 rfl (zt b68 rfl (zq tb rfl ?_))))
     iterate 3 refine zs rfl rfl ?_
     exact zt rfl rfl (AO.done (M5 true (Sh.some_eq h1).symm _ (Wk.tr rfl)))
    ·refine zg tb b68 rfl (zg tb b68 rfl (zg tb b68 rfl (zf b68 rfl (zq tb rfl ?_))))
     rcases Sh.ite_some h1 with ⟨b69, h1⟩ | ⟨b69, h1⟩
     ·exact zs b69 rfl (zs b69 rfl (zs b69 rfl (zt b69 rfl (AO.done (M5 true (Sh.some_eq h1).symm _ (Wk.tr rfl))))))
     ·exact zg tb b69 rfl (zg tb b69 rfl (zg tb b69 rfl (zf b69 rfl (AO.done (M5 (decide (p3.op = 13)) (Sh.some_eq h1).symm _ (Wk.tr rfl))))))
end Go.Proofs.YtgcghdgbahfcjaaGreat

