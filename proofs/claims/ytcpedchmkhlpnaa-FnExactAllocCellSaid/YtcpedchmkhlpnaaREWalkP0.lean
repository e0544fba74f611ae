import Derived.Test.YtcpedchmkhlpnaaProg
import Derived.Test.YtcpedchmkhlpnaaREDefs
import Derived.Test.YtcpedchmkhlpnaaCAWalk
import Derived.Test.YtcpedchmkhlpnaaCDWalk
namespace Go.Proofs.Ytcpedchmkhlpnaa
open Go Go.Abs RC

theorem ai58 : allInfo Try.prog 58 = true := by kernel_rfl
theorem bi58 : finfos Try.prog 58 = some [(0, 1), (1, 1), (2, 1)] := by kernel_rfl
theorem ei22 : einfo Try.prog 22 = some ⟨56, 3, 40, [.int .i64 0, .int .i64 0, .sl []]⟩ := by kernel_rfl
theorem ei60 : einfo Try.prog 60 = some ⟨4, 1, 1, [.bool false]⟩ := by kernel_rfl
theorem fi56_0 : finfo Try.prog 56 0 = some 0 := by kernel_rfl
theorem fi56_1 : finfo Try.prog 56 1 = some 1 := by kernel_rfl
theorem fi56_2 : finfo Try.prog 56 2 = some 2 := by kernel_rfl
theorem fi58_0 : finfo Try.prog 58 0 = some 0 := by kernel_rfl
theorem fi58_1 : finfo Try.prog 58 1 = some 1 := by kernel_rfl
theorem hb12 : hasBody Try.prog 12 = true := by kernel_rfl
theorem hb34 : hasBody Try.prog 34 = true := by kernel_rfl
theorem hb35 : hasBody Try.prog 35 = true := by kernel_rfl
theorem hb37 : hasBody Try.prog 37 = true := by kernel_rfl
theorem hb40 : hasBody Try.prog 40 = true := by kernel_rfl
theorem hb43 : hasBody Try.prog 43 = true := by kernel_rfl
theorem hb44 : hasBody Try.prog 44 = true := by kernel_rfl
theorem hb45 : hasBody Try.prog 45 = true := by kernel_rfl
theorem hb46 : hasBody Try.prog 46 = true := by kernel_rfl
theorem hb48 : hasBody Try.prog 48 = true := by kernel_rfl
theorem hb49 : hasBody Try.prog 49 = true := by kernel_rfl
theorem hb51 : hasBody Try.prog 51 = true := by kernel_rfl
theorem hb57 : hasBody Try.prog 57 = true := by kernel_rfl
theorem hb66 : hasBody Try.prog 66 = true := by kernel_rfl
theorem hb67 : hasBody Try.prog 67 = true := by kernel_rfl
theorem hb68 : hasBody Try.prog 68 = true := by kernel_rfl
theorem hb69 : hasBody Try.prog 69 = true := by kernel_rfl
theorem hb70 : hasBody Try.prog 70 = true := by kernel_rfl
theorem hb71 : hasBody Try.prog 71 = true := by kernel_rfl
theorem hb92 : hasBody Try.prog 92 = true := by kernel_rfl
theorem hb93 : hasBody Try.prog 93 = true := by kernel_rfl
theorem sl22 : isSliceT Try.prog 22 = true := by kernel_rfl
theorem ti3 : tinfo Try.prog 3 = some (false, 1) := by kernel_rfl
theorem ti4 : tinfo Try.prog 4 = some (false, 1) := by kernel_rfl
theorem ti56 : tinfo Try.prog 56 = some (true, 3) := by kernel_rfl

set_option maxRecDepth 100000 in
set_option maxHeartbeats 4000000 in
theorem laws_szIntS_ok {p0 : (List Int)} {p1 : Int} {r : Int} (h0 : laws_szIntS p0 p1 = some r) : ACalls Try.prog 66 [(.sl (List.map eI p0)), (i64 p1)] [] (fun v st => v = (i64 r) ∧ st = []) := by
  unfold laws_szIntS at h0
  refine ACalls.intro Try.func66 rfl (by show 2 ≤ 12; decide) ?_
  show AW _ 0 _ (aret _ 0 Try.f66 _) ⟨12, _, _⟩
  refine AW.weaken (Wk.to (L := [(0, (.sl (List.map eI p0))), (1, (i64 p1))]) ⟨.rfl, .rfl, trivial⟩) ?_
  refine AW.seq fun K1 hK1 => ?_
  refine AW.regionO (by rfl) ?_
  refine ao_q (v := (i64 0)) go0 rfl (aq_as rfl) ?_
  refine AO.done (hK1 _ ?_)
  refine AW.seq fun K2 hK2 => ?_
  refine AW.regionO (by rfl) ?_
  refine ao_q (v := (i64 p1)) go0 rfl (aq_mv rfl) ?_
  refine ao_q (v := (.sl (List.map eI p0))) go0 rfl (aq_mv rfl) ?_
  refine ao_q (v := (i64 (Sh.len p0))) go0 rfl (aq_lens sl23 rfl) ?_
  refine ao_q (v := (i64 (Sh.w (p1 - (Sh.len p0))))) go0 rfl (aq_sub rfl rfl) ?_
  refine ao_q (v := (i64 (Sh.w (p1 - (Sh.len p0))))) go0 rfl (aq_as rfl) ?_
  refine AO.done (hK2 _ ?_)
  refine AW.seq fun K3 hK3 => ?_
  refine AW.seq fun K4 hK4 => ?_
  refine AW.regionO (by rfl) ?_
  refine ao_q (v := (i64 (Sh.w (p1 - (Sh.len p0))))) go0 rfl (aq_mv rfl) ?_
  refine ao_q (v := (.bool (decide ((Sh.w (p1 - (Sh.len p0))) < 0)))) go0 rfl (aq_lt rfl rfl) ?_
  refine AO.done (hK4 _ ?_)
  refine AW.cond' (b := decide ((Sh.w (p1 - (Sh.len p0))) < 0)) rfl (fun b5 => ?_) (fun b5 => ?_)
  · replace h0 := Sh.ite_t b5 h0
    refine AW.seq fun K6 hK6 => ?_
    refine AW.regionO (by rfl) ?_
    refine ao_q (v := (i64 (-1))) go0 rfl (aq_as rfl) ?_
    refine AO.done (hK6 _ ?_)
    replace h0 := Sh.some_eq h0
    subst r
    exact AW.ret (Exists.intro _ (And.intro (Wk.to (L := [(4, (i64 (-1)))]) ⟨.rfl, trivial⟩) (And.intro rfl rfl)))
  · replace h0 := Sh.ite_f b5 h0
    refine AW.skip (hK3 _ ?_)
    refine AW.seq fun K7 hK7 => ?_
    refine AW.regionO (by rfl) ?_
    refine ao_q (v := (i64 (Sh.w (p1 - (Sh.len p0))))) go0 rfl (aq_mv rfl) ?_
    refine ao_q (v := (i64 (Sh.w (p1 - (Sh.len p0))))) go0 rfl (aq_as rfl) ?_
    refine AO.done (hK7 _ ?_)
    replace h0 := Sh.some_eq h0
    subst r
    exact AW.ret (Exists.intro _ (And.intro (Wk.to (L := [(4, (i64 (Sh.w (p1 - (Sh.len p0)))))]) ⟨.rfl, trivial⟩) (And.intro rfl rfl)))

set_option maxRecDepth 100000 in
set_option maxHeartbeats 4000000 in
theorem laws_szCell_ok {p0 : Cell} {p1 : Int} {r : Int} (h0 : laws_szCell p0 p1 = some r) : ACalls Try.prog 34 [(.agg [(i64 p0.count), (i64 p0.tag), (.sl (List.map eI p0.fields))]), (i64 p1)] [] (fun v st => v = (i64 r) ∧ st = []) := by
  unfold laws_szCell at h0
  refine ACalls.intro Try.func34 rfl (by show 2 ≤ 12; decide) ?_
  show AW _ 0 _ (aret _ 0 Try.f34 _) ⟨12, _, _⟩
  refine AW.weaken (Wk.to (L := [(0, (.agg [(i64 p0.count), (i64 p0.tag), (.sl (List.map eI p0.fields))])), (1, (i64 p1))]) ⟨.rfl, .rfl, trivial⟩) ?_
  refine AW.seq fun K1 hK1 => ?_
  refine AW.regionO (by rfl) ?_
  refine ao_box (m := 0) (st' := [⟨0, 56, 3, [[(i64 p0.count), (i64 p0.tag), (.sl (List.map eI p0.fields))]]⟩]) go0 rfl rfl rfl rfl rfl ?_
  refine ao_q (v := (i64 0)) go0 rfl (aq_as rfl) ?_
  refine AO.done (hK1 _ ?_)
  refine AW.seq fun K2 hK2 => ?_
  refine AW.regionO (by rfl) ?_
  refine ao_q (v := (.ptr 0 0 0 2)) go0 rfl (aq_fap fi56_2 rfl rfl (show 0 + 2 ≤ 3 by decide) rfl) ?_
  refine ao_q (v := (.sl (List.map eI p0.fields))) go0 rfl (aq_ldp ti23 rfl rfl rfl rfl) ?_
  refine ao_q (v := (i64 p1)) go0 rfl (aq_mv rfl) ?_
  obtain ⟨q3, gq3, h0⟩ := Sh.bind_some h0
  refine ao_call (v' := (i64 q3)) (st' := [⟨0, 56, 3, [[(i64 p0.count), (i64 p0.tag), (.sl (List.map eI p0.fields))]]⟩]) go0 hb66 (laws_szIntS_ok gq3) rfl rfl trivial rfl rfl ?_
  refine ao_q (v := (i64 q3)) go0 rfl (aq_as rfl) ?_
  refine AO.done (hK2 _ ?_)
  refine AW.seq fun K4 hK4 => ?_
  refine AW.seq fun K5 hK5 => ?_
  refine AW.regionO (by rfl) ?_
  refine ao_q (v := (i64 q3)) go0 rfl (aq_mv rfl) ?_
  refine ao_q (v := (.bool (decide (q3 < 0)))) go0 rfl (aq_lt rfl rfl) ?_
  refine AO.done (hK5 _ ?_)
  refine AW.cond' (b := decide (q3 < 0)) rfl (fun b6 => ?_) (fun b6 => ?_)
  · replace h0 := Sh.ite_t b6 h0
    refine AW.seq fun K7 hK7 => ?_
    refine AW.regionO (by rfl) ?_
    refine ao_q (v := (i64 (-1))) go0 rfl (aq_as rfl) ?_
    refine AO.done (hK7 _ ?_)
    replace h0 := Sh.some_eq h0
    subst r
    exact AW.ret (Exists.intro _ (And.intro ((Wk.permk (L := [(4, (i64 (-1)))]) (st' := []) (st1 := []) [] rfl .nil (by decide) rfl rfl .nil ⟨.rfl, trivial⟩).trans (Wk.to (L := [(4, (i64 (-1)))]) ⟨.rfl, trivial⟩)) (And.intro rfl rfl)))
  · replace h0 := Sh.ite_f b6 h0
    refine AW.skip (hK4 _ ?_)
    refine AW.seq fun K8 hK8 => ?_
    refine AW.regionO (by rfl) ?_
    refine ao_q (v := (i64 q3)) go0 rfl (aq_mv rfl) ?_
    refine ao_q (v := (i64 q3)) go0 rfl (aq_as rfl) ?_
    refine AO.done (hK8 _ ?_)
    replace h0 := Sh.some_eq h0
    subst r
    exact AW.ret (Exists.intro _ (And.intro ((Wk.permk (L := [(4, (i64 q3))]) (st' := []) (st1 := []) [] rfl .nil (by decide) rfl rfl .nil ⟨.rfl, trivial⟩).trans (Wk.to (L := [(4, (i64 q3))]) ⟨.rfl, trivial⟩)) (And.intro rfl rfl)))

set_option maxRecDepth 100000 in
set_option maxHeartbeats 4000000 in
theorem laws_szCellS_ok {N : Nat} {p0 : (List Cell)} {p1 : Int} {r : Int} (h0 : laws_szCellS N p0 p1 = some r) : ACalls Try.prog 9 [(.sl (List.map eCell p0)), (i64 p1)] [] (fun v st => v = (i64 r) ∧ st = []) := by
  unfold laws_szCellS at h0
  refine ACalls.intro Try.func9 rfl (by show 2 ≤ 27; decide) ?_
  show AW _ 0 _ (aret _ 0 Try.f9 _) ⟨27, _, _⟩
  refine AW.weaken (Wk.to (L := [(0, (.sl (List.map eCell p0))), (1, (i64 p1))]) ⟨.rfl, .rfl, trivial⟩) ?_
  refine AW.seq fun K1 hK1 => ?_
  refine AW.regionO (by rfl) ?_
  refine ao_q (v := (i64 0)) go0 rfl (aq_as rfl) ?_
  refine AO.done (hK1 _ ?_)
  refine AW.seq fun K2 hK2 => ?_
  refine AW.regionO (by rfl) ?_
  refine ao_q (v := (i64 p1)) go0 rfl (aq_mv rfl) ?_
  refine ao_q (v := (.sl (List.map eCell p0))) go0 rfl (aq_mv rfl) ?_
  refine ao_q (v := (i64 (Sh.len p0))) go0 rfl (aq_lens sl22 rfl) ?_
  refine ao_q (v := (i64 (Sh.w (p1 - (Sh.len p0))))) go0 rfl (aq_sub rfl rfl) ?_
  refine ao_q (v := (i64 (Sh.w (p1 - (Sh.len p0))))) go0 rfl (aq_as rfl) ?_
  refine AO.done (hK2 _ ?_)
  refine AW.seq fun K3 hK3 => ?_
  refine AW.seq fun K4 hK4 => ?_
  refine AW.regionO (by rfl) ?_
  refine ao_q (v := (i64 (Sh.w (p1 - (Sh.len p0))))) go0 rfl (aq_mv rfl) ?_
  refine ao_q (v := (.bool (decide ((Sh.w (p1 - (Sh.len p0))) < 0)))) go0 rfl (aq_lt rfl rfl) ?_
  refine AO.done (hK4 _ ?_)
  refine AW.cond' (b := decide ((Sh.w (p1 - (Sh.len p0))) < 0)) rfl (fun b5 => ?_) (fun b5 => ?_)
  · replace h0 := Sh.ite_t b5 h0
    refine AW.seq fun K6 hK6 => ?_
    refine AW.regionO (by rfl) ?_
    refine ao_q (v := (i64 (-1))) go0 rfl (aq_as rfl) ?_
    refine AO.done (hK6 _ ?_)
    replace h0 := Sh.some_eq h0
    subst r
    exact AW.ret (Exists.intro _ (And.intro (Wk.to (L := [(4, (i64 (-1)))]) ⟨.rfl, trivial⟩) (And.intro rfl rfl)))
  · replace h0 := Sh.ite_f b5 h0
    refine AW.skip (hK3 _ ?_)
    refine AW.seq fun K7 hK7 => ?_
    refine AW.seq fun K8 hK8 => ?_
    refine AW.regionO (by rfl) ?_
    refine ao_q (v := (i64 0)) go0 rfl (aq_as rfl) ?_
    refine AO.done (hK8 _ ?_)
    obtain ⟨o12, h1, h0⟩ := Sh.cont_some h0
    have M12 : ∀ (left11 : Int), o12 = Sum.inr left11 → ∀ s, Wk 0 s ⟨27, envL [(1, (i64 left11))], []⟩ → K7 s := by
      intro left11 hq s hw
      subst o12
      try dsimp only at h0
      refine hK7 _ (AW.weaken hw ?_)
      refine AW.seq fun K13 hK13 => ?_
      refine AW.regionO (by rfl) ?_
      refine ao_q (v := (i64 left11)) go0 rfl (aq_mv rfl) ?_
      refine ao_q (v := (i64 left11)) go0 rfl (aq_as rfl) ?_
      refine AO.done (hK13 _ ?_)
      replace h0 := Sh.some_eq h0
      subst r
      exact AW.ret (Exists.intro _ (And.intro (Wk.to (L := [(4, (i64 left11))]) ⟨.rfl, trivial⟩) (And.intro rfl rfl)))
    refine AW.block (AW.loopF (σ := Int × Int) (fun n v => laws_szCellS_L1 p0 n v.1 v.2 = some o12) (fun (left9, i10) => ⟨27, envL [(0, (.sl (List.map eCell p0))), (1, (i64 left9)), (5, (i64 i10))], []⟩) N (Sh.w (p1 - (Sh.len p0)), 0) h1 (Wk.to (L := [(0, (.sl (List.map eCell p0))), (1, (i64 (Sh.w (p1 - (Sh.len p0))))), (5, (i64 0))]) ⟨.rfl, .rfl, .rfl, trivial⟩) (fun _ hv => by rw [laws_szCellS_L1] at hv; cases hv) ?_)
    rintro n ⟨left9, i10⟩ h1
    try dsimp only at h1 ⊢
    rw [laws_szCellS_L1] at h1
    refine AW.seq fun K14 hK14 => ?_
    refine AW.seq fun K15 hK15 => ?_
    refine AW.regionO (by rfl) ?_
    refine ao_q (v := (i64 i10)) go0 rfl (aq_mv rfl) ?_
    refine ao_q (v := (.sl (List.map eCell p0))) go0 rfl (aq_mv rfl) ?_
    refine ao_q (v := (i64 (Sh.len p0))) go0 rfl (aq_lens sl22 rfl) ?_
    refine ao_q (v := (.bool (decide (i10 < (Sh.len p0))))) go0 rfl (aq_lt rfl rfl) ?_
    refine AO.done (hK15 _ ?_)
    refine AW.cond' (b := decide (i10 < (Sh.len p0))) rfl (fun b16 => ?_) (fun b16 => ?_)
    · replace h1 := Sh.ite_t b16 h1
      refine AW.skip (hK14 _ ?_)
      refine AW.seq fun K17 hK17 => ?_
      refine AW.block ?_
      refine AW.seq fun K18 hK18 => ?_
      refine AW.regionO (by rfl) ?_
      refine ao_q (v := (.sl (List.map eCell p0))) go0 rfl (aq_mv rfl) ?_
      refine ao_q (v := (i64 i10)) go0 rfl (aq_mv rfl) ?_
      obtain ⟨c19, gc19, h1⟩ := Sh.bind_some h1
      refine ao_q (v := (.iptr (eCell c19) 0)) go0 rfl (aq_ixs ei22 rfl rfl gc19 rfl) ?_
      refine ao_q (v := (.agg [(i64 c19.count), (i64 c19.tag), (.sl (List.map eI c19.fields))])) go0 rfl (aq_ldia ti56 rfl (show 0 + 3 ≤ 3 by decide) rfl) ?_
      refine ao_q (v := (i64 left9)) go0 rfl (aq_mv rfl) ?_
      obtain ⟨q20, gq20, h1⟩ := Sh.bind_some h1
      refine ao_call (v' := (i64 q20)) (st' := []) go0 hb34 (laws_szCell_ok gq20) rfl rfl trivial rfl rfl ?_
      refine ao_q (v := (i64 q20)) go0 rfl (aq_as rfl) ?_
      refine AO.done (hK18 _ ?_)
      refine AW.seq fun K21 hK21 => ?_
      refine AW.regionO (by rfl) ?_
      refine ao_q (v := (i64 q20)) go0 rfl (aq_mv rfl) ?_
      refine ao_q (v := (.bool (decide (q20 < 0)))) go0 rfl (aq_lt rfl rfl) ?_
      refine AO.done (hK21 _ ?_)
      refine AW.cond' (b := decide (q20 < 0)) rfl (fun b22 => ?_) (fun b22 => ?_)
      · replace h1 := Sh.ite_t b22 h1
        refine AW.seq fun K23 hK23 => ?_
        refine AW.regionO (by rfl) ?_
        refine ao_q (v := (i64 (-1))) go0 rfl (aq_as rfl) ?_
        refine AO.done (hK23 _ ?_)
        replace h1 := Sh.some_eq h1
        subst o12
        try dsimp only [id] at h0
        replace h0 := Sh.some_eq h0
        subst r
        exact AW.ret (Exists.intro _ (And.intro (Wk.to (L := [(4, (i64 (-1)))]) ⟨.rfl, trivial⟩) (And.intro rfl rfl)))
      · replace h1 := Sh.ite_f b22 h1
        refine AW.skip (hK17 _ ?_)
        refine AW.regionO (by rfl) ?_
        refine ao_q (v := (i64 i10)) go0 rfl (aq_mv rfl) ?_
        refine ao_q (v := (i64 (Sh.w (i10 + 1)))) go0 rfl (aq_add rfl rfl) ?_
        refine ao_q (v := (i64 (Sh.w (i10 + 1)))) go0 rfl (aq_as rfl) ?_
        exact AO.done (Exists.intro (q20, Sh.w (i10 + 1)) (And.intro h1 (Wk.to (L := [(0, (.sl (List.map eCell p0))), (1, (i64 q20)), (5, (i64 (Sh.w (i10 + 1))))]) ⟨.rfl, .rfl, .rfl, trivial⟩)))
    · replace h1 := Sh.ite_f b16 h1
      exact AW.exit (M12 left9 (Sh.some_eq h1).symm _ (Wk.to (L := [(1, (i64 left9))]) ⟨.rfl, trivial⟩))

set_option maxRecDepth 100000 in
set_option maxHeartbeats 4000000 in
theorem laws_toIntS_ok {N : Nat} {p0 : (List Int)} {r : (List Int)} (h0 : laws_toIntS N p0 = some r) : ACalls Try.prog 12 [(.sl (List.map eI p0))] [] (fun v st => v = (.own 0 0 (List.length r)) ∧ st = [⟨0, 3, 1, List.map eI r⟩]) := by
  unfold laws_toIntS at h0
  refine ACalls.intro Try.func12 rfl (by show 1 ≤ 22; decide) ?_
  show AW _ 0 _ (aret _ 0 Try.f12 _) ⟨22, _, _⟩
  refine AW.weaken (Wk.to (L := [(0, (.sl (List.map eI p0)))]) ⟨.rfl, trivial⟩) ?_
  refine AW.seq fun K1 hK1 => ?_
  refine AW.regionO (by rfl) ?_
  refine ao_q (v := .zc) go0 rfl (aq_as rfl) ?_
  refine AO.done (hK1 _ ?_)
  refine AW.seq fun K2 hK2 => ?_
  refine AW.regionO (by rfl) ?_
  refine ao_q (v := (.sl (List.map eI p0))) go0 rfl (aq_mv rfl) ?_
  refine ao_q (v := (i64 (Sh.len p0))) go0 rfl (aq_lens sl23 rfl) ?_
  obtain ⟨l3, gl3, h0⟩ := Sh.bind_some h0
  refine ao_make (m := 0) (st' := [⟨0, 3, 1, List.map eI l3⟩]) (enc := eI) (u := 0) go0 ei23 rfl rfl rfl gl3 rfl rfl ?_
  refine ao_q (v := (.own 0 0 (List.length l3))) go0 rfl (aq_as rfl) ?_
  refine AO.done (hK2 _ ?_)
  refine AW.seq fun K4 hK4 => ?_
  refine AW.seq fun K5 hK5 => ?_
  refine AW.regionO (by rfl) ?_
  refine ao_q (v := (i64 0)) go0 rfl (aq_as rfl) ?_
  refine AO.done (hK5 _ ?_)
  obtain ⟨o9, h1, h0⟩ := Sh.bind_some h0
  have M9 : ∀ (l8 : (List Int)), o9 = l8 → ∀ s, Wk 0 s ⟨22, envL [(3, (.own 0 0 (List.length l8)))], [⟨0, 3, 1, List.map eI l8⟩]⟩ → K4 s := by
    intro l8 hq s hw
    subst o9
    try dsimp only at h0
    refine hK4 _ (AW.weaken hw ?_)
    refine AW.seq fun K10 hK10 => ?_
    refine AW.regionO (by rfl) ?_
    refine ao_q (v := (.own 0 0 (List.length l8))) go0 rfl (aq_mv rfl) ?_
    refine ao_q (v := (.own 0 0 (List.length l8))) go0 rfl (aq_as rfl) ?_
    refine AO.done (hK10 _ ?_)
    replace h0 := Sh.some_eq h0
    subst r
    exact AW.ret (Exists.intro _ (And.intro (Wk.to (L := [(2, (.own 0 0 (List.length l8)))]) ⟨.rfl, trivial⟩) (And.intro rfl rfl)))
  refine AW.block (AW.loopF (σ := Int × (List Int)) (fun n v => laws_toIntS_L1 p0 n v.1 v.2 = some o9) (fun (i6, l7) => ⟨22, envL [(0, (.sl (List.map eI p0))), (3, (.own 0 0 (List.length l7))), (4, (i64 i6))], [⟨0, 3, 1, List.map eI l7⟩]⟩) N (0, l3) h1 (Wk.to (L := [(0, (.sl (List.map eI p0))), (3, (.own 0 0 (List.length l3))), (4, (i64 0))]) ⟨.rfl, .rfl, .rfl, trivial⟩) (fun _ hv => by rw [laws_toIntS_L1] at hv; cases hv) ?_)
  rintro n ⟨i6, l7⟩ h1
  try dsimp only at h1 ⊢
  rw [laws_toIntS_L1] at h1
  refine AW.seq fun K11 hK11 => ?_
  refine AW.seq fun K12 hK12 => ?_
  refine AW.regionO (by rfl) ?_
  refine ao_q (v := (i64 i6)) go0 rfl (aq_mv rfl) ?_
  refine ao_q (v := (.sl (List.map eI p0))) go0 rfl (aq_mv rfl) ?_
  refine ao_q (v := (i64 (Sh.len p0))) go0 rfl (aq_lens sl23 rfl) ?_
  refine ao_q (v := (.bool (decide (i6 < (Sh.len p0))))) go0 rfl (aq_lt rfl rfl) ?_
  refine AO.done (hK12 _ ?_)
  refine AW.cond' (b := decide (i6 < (Sh.len p0))) rfl (fun b13 => ?_) (fun b13 => ?_)
  · replace h1 := Sh.ite_t b13 h1
    refine AW.skip (hK11 _ ?_)
    refine AW.seq fun K14 hK14 => ?_
    refine AW.block ?_
    refine AW.regionO (by rfl) ?_
    refine ao_q (v := (.own 0 0 (List.length l7))) go0 rfl (aq_mv rfl) ?_
    refine ao_q (v := (i64 i6)) go0 rfl (aq_mv rfl) ?_
    refine ao_q (v := (.sl (List.map eI p0))) go0 rfl (aq_mv rfl) ?_
    refine ao_q (v := (i64 i6)) go0 rfl (aq_mv rfl) ?_
    obtain ⟨c15, gc15, h1⟩ := Sh.bind_some h1
    refine ao_q (v := (.iptr (eI c15) 0)) go0 rfl (aq_ixs ei23 rfl rfl gc15 rfl) ?_
    refine ao_q (v := (i64 c15)) go0 rfl (aq_ldi ti3 rfl rfl) ?_
    obtain ⟨c16, gc16, h1⟩ := Sh.bind_some h1
    refine ao_q (v := (.ptr 0 0 (Int.toNat i6) 0)) go0 rfl (aq_ixo ei23 rfl rfl rfl rfl gc16) ?_
    refine ao_stl (st' := [⟨0, 3, 1, List.map eI (Sh.put l7 i6 c15)⟩]) (u' := c15) go0 ti3 rfl rfl gc16 rfl rfl rfl (show 0 + 1 ≤ 1 by decide) rfl rfl ?_
    refine AO.done (hK14 _ ?_)
    refine AW.regionO (by rfl) ?_
    refine ao_q (v := (i64 i6)) go0 rfl (aq_mv rfl) ?_
    refine ao_q (v := (i64 (Sh.w (i6 + 1)))) go0 rfl (aq_add rfl rfl) ?_
    refine ao_q (v := (i64 (Sh.w (i6 + 1)))) go0 rfl (aq_as rfl) ?_
    exact AO.done (Exists.intro (Sh.w (i6 + 1), Sh.put l7 i6 c15) (And.intro h1 (Wk.to (L := [(0, (.sl (List.map eI p0))), (3, (.own 0 0 (List.length (Sh.put l7 i6 c15)))), (4, (i64 (Sh.w (i6 + 1))))]) ⟨.rfl, (.len (by simp only [Sh.put_len])), .rfl, trivial⟩)))
  · replace h1 := Sh.ite_f b13 h1
    exact AW.exit (M9 l7 (Sh.some_eq h1).symm _ (Wk.to (L := [(3, (.own 0 0 (List.length l7)))]) ⟨.rfl, trivial⟩))

set_option maxRecDepth 100000 in
set_option maxHeartbeats 4000000 in
theorem laws_toCell_ok {N : Nat} {p0 : Cell} {r : Cell} (h0 : laws_toCell N p0 = some r) : ACalls Try.prog 37 [(.agg [(i64 p0.count), (i64 p0.tag), (.sl (List.map eI p0.fields))])] [] (fun v st => v = (.agg [(i64 r.count), (i64 r.tag), (.sl (List.map eI r.fields))]) ∧ st = []) := by
  unfold laws_toCell at h0
  refine ACalls.flat rfl ?_
  refine ACalls.intro Try.func37 rfl (by show 1 ≤ 15; decide) ?_
  show AW _ 0 _ (aret _ 0 Try.f37 _) ⟨15, _, _⟩
  refine AW.weaken (Wk.to (L := [(0, (.agg [(i64 p0.count), (i64 p0.tag), (.sl (List.map eI p0.fields))]))]) ⟨.rfl, trivial⟩) ?_
  refine AW.seq fun K1 hK1 => ?_
  refine AW.regionO (by rfl) ?_
  refine ao_box (m := 0) (st' := [⟨0, 56, 3, [[(i64 p0.count), (i64 p0.tag), (.sl (List.map eI p0.fields))]]⟩]) go0 rfl rfl rfl rfl rfl ?_
  refine ao_alloc (m := 1) (st' := [⟨0, 56, 3, [[(i64 p0.count), (i64 p0.tag), (.sl (List.map eI p0.fields))]]⟩, ⟨0, 58, 3, [[(i64 0), (i64 0), .zc]]⟩]) go0 zi58 rfl rfl ?_
  refine AO.done (hK1 _ ?_)
  refine AW.seq fun K2 hK2 => ?_
  refine AW.regionO (by rfl) ?_
  refine ao_alloc (m := 2) (st' := [⟨0, 56, 3, [[(i64 p0.count), (i64 p0.tag), (.sl (List.map eI p0.fields))]]⟩, ⟨0, 58, 3, [[(i64 0), (i64 0), .zc]]⟩, ⟨0, 58, 3, [[(i64 0), (i64 0), .zc]]⟩]) go0 zi58 rfl rfl ?_
  refine AO.done (hK2 _ ?_)
  refine AW.seq fun K3 hK3 => ?_
  refine AW.regionO (by rfl) ?_
  refine ao_q (v := (.ptr 0 0 0 0)) go0 rfl (aq_fap fi56_0 rfl rfl (show 0 + 0 ≤ 3 by decide) rfl) ?_
  refine ao_q (v := (i64 p0.count)) go0 rfl (aq_ldp ti3 rfl rfl rfl rfl) ?_
  refine ao_q (v := (.ptr 2 0 0 0)) go0 rfl (aq_fap fi58_0 rfl rfl (show 0 + 0 ≤ 3 by decide) rfl) ?_
  refine ao_str (st' := [⟨0, 56, 3, [[(i64 p0.count), (i64 p0.tag), (.sl (List.map eI p0.fields))]]⟩, ⟨0, 58, 3, [[(i64 0), (i64 0), .zc]]⟩, ⟨0, 58, 3, [[(i64 p0.count), (i64 0), .zc]]⟩]) go0 ti3 rfl rfl rfl rfl rfl rfl (show 0 + 1 ≤ 3 by decide) rfl ?_
  refine AO.done (hK3 _ ?_)
  refine AW.seq fun K4 hK4 => ?_
  refine AW.regionO (by rfl) ?_
  refine ao_q (v := (.ptr 0 0 0 1)) go0 rfl (aq_fap fi56_1 rfl rfl (show 0 + 1 ≤ 3 by decide) rfl) ?_
  refine ao_q (v := (i64 p0.tag)) go0 rfl (aq_ldp ti3 rfl rfl rfl rfl) ?_
  refine ao_q (v := (.ptr 2 0 0 1)) go0 rfl (aq_fap fi58_1 rfl rfl (show 0 + 1 ≤ 3 by decide) rfl) ?_
  refine ao_str (st' := [⟨0, 56, 3, [[(i64 p0.count), (i64 p0.tag), (.sl (List.map eI p0.fields))]]⟩, ⟨0, 58, 3, [[(i64 0), (i64 0), .zc]]⟩, ⟨0, 58, 3, [[(i64 p0.count), (i64 p0.tag), .zc]]⟩]) go0 ti3 rfl rfl rfl rfl rfl rfl (show 1 + 1 ≤ 3 by decide) rfl ?_
  refine AO.done (hK4 _ ?_)
  refine AW.seq fun K5 hK5 => ?_
  refine AW.regionO (by rfl) ?_
  refine ao_q (v := (.ptr 0 0 0 2)) go0 rfl (aq_fap fi56_2 rfl rfl (show 0 + 2 ≤ 3 by decide) rfl) ?_
  refine ao_q (v := (.sl (List.map eI p0.fields))) go0 rfl (aq_ldp ti23 rfl rfl rfl rfl) ?_
  obtain ⟨q6, gq6, h0⟩ := Sh.bind_some h0
  refine ao_call (v' := (.own 3 0 (List.length q6))) (st' := [⟨0, 56, 3, [[(i64 p0.count), (i64 p0.tag), (.sl (List.map eI p0.fields))]]⟩, ⟨0, 58, 3, [[(i64 0), (i64 0), .zc]]⟩, ⟨0, 58, 3, [[(i64 p0.count), (i64 p0.tag), .zc]]⟩, ⟨0, 3, 1, List.map eI q6⟩]) go0 hb12 (laws_toIntS_ok gq6) rfl rfl ⟨(pure_map' fun _ => rfl), trivial⟩ rfl rfl ?_
  refine ao_q (v := (.ptr 2 0 0 2)) go0 rfl (aq_fap fi58_2 rfl rfl (show 0 + 2 ≤ 3 by decide) rfl) ?_
  refine AO.weaken (Wk.frz (L := [(2, (.ptr 1 0 0 0)), (3, (.ptr 2 0 0 0)), (12, (.sl (List.map eI q6))), (13, (.ptr 2 0 0 2))]) (st' := [⟨0, 56, 3, [[(i64 p0.count), (i64 p0.tag), (.sl (List.map eI p0.fields))]]⟩, ⟨0, 58, 3, [[(i64 0), (i64 0), .zc]]⟩, ⟨0, 58, 3, [[(i64 p0.count), (i64 p0.tag), .zc]]⟩, ⟨1, 3, 1, []⟩]) (id := 3) rfl (show 0 ≤ 3 by decide) (pure_map fun _ => rfl) ⟨.rfl, .rfl, (.frz rfl), .rfl, trivial⟩ rfl) ?_
  refine ao_str (st' := [⟨0, 56, 3, [[(i64 p0.count), (i64 p0.tag), (.sl (List.map eI p0.fields))]]⟩, ⟨0, 58, 3, [[(i64 0), (i64 0), .zc]]⟩, ⟨0, 58, 3, [[(i64 p0.count), (i64 p0.tag), (.sl (List.map eI q6))]]⟩, ⟨1, 3, 1, []⟩]) go0 ti23 rfl rfl rfl rfl rfl rfl (show 2 + 1 ≤ 3 by decide) rfl ?_
  refine AO.done (hK5 _ ?_)
  refine AW.seq fun K7 hK7 => ?_
  refine AW.regionO (by rfl) ?_
  refine ao_q (v := (.agg [(i64 p0.count), (i64 p0.tag), (.sl (List.map eI q6))])) go0 rfl (aq_ldpa ti58 rfl rfl rfl (show 0 + 3 ≤ 3 by decide) rfl) ?_
  refine ao_str (st' := [⟨0, 56, 3, [[(i64 p0.count), (i64 p0.tag), (.sl (List.map eI p0.fields))]]⟩, ⟨0, 58, 3, [[(i64 p0.count), (i64 p0.tag), (.sl (List.map eI q6))]]⟩, ⟨0, 58, 3, [[(i64 p0.count), (i64 p0.tag), (.sl (List.map eI q6))]]⟩, ⟨1, 3, 1, []⟩]) go0 ti58 rfl rfl rfl rfl rfl rfl (show 0 + 3 ≤ 3 by decide) rfl ?_
  refine AO.done (hK7 _ ?_)
  replace h0 := Sh.some_eq h0
  subst r
  exact AW.ret (Exists.intro _ (And.intro (Wk.refl _ _) (aq_ldpa (x := .tmp 2) (off := 0) (cs := [(i64 p0.count), (i64 p0.tag), (.sl (List.map eI q6))]) (vs := [(i64 p0.count), (i64 p0.tag), (.sl (List.map eI q6))]) ti58 rfl rfl rfl (show 0 + 3 ≤ 3 by decide) rfl _ rfl)))

set_option maxRecDepth 100000 in
set_option maxHeartbeats 4000000 in
theorem laws_toCellS_ok {N : Nat} {p0 : (List Cell)} {r : (List Cell)} (h0 : laws_toCellS N p0 = some r) : ACalls Try.prog 11 [(.sl (List.map eCell p0))] [] (fun v st => v = (.own 0 0 (List.length r)) ∧ st = [⟨0, 58, 3, List.map eCell r⟩]) := by
  unfold laws_toCellS at h0
  refine ACalls.intro Try.func11 rfl (by show 1 ≤ 23; decide) ?_
  show AW _ 0 _ (aret _ 0 Try.f11 _) ⟨23, _, _⟩
  refine AW.weaken (Wk.to (L := [(0, (.sl (List.map eCell p0)))]) ⟨.rfl, trivial⟩) ?_
  refine AW.seq fun K1 hK1 => ?_
  refine AW.regionO (by rfl) ?_
  refine ao_q (v := .zc) go0 rfl (aq_as rfl) ?_
  refine AO.done (hK1 _ ?_)
  refine AW.seq fun K2 hK2 => ?_
  refine AW.regionO (by rfl) ?_
  refine ao_q (v := (.sl (List.map eCell p0))) go0 rfl (aq_mv rfl) ?_
  refine ao_q (v := (i64 (Sh.len p0))) go0 rfl (aq_lens sl22 rfl) ?_
  obtain ⟨l3, gl3, h0⟩ := Sh.bind_some h0
  refine ao_make (m := 0) (st' := [⟨0, 58, 3, List.map eCell l3⟩]) (enc := eCell) (u := (Cell.mk 0 0 [])) go0 ei26 rfl rfl rfl gl3 rfl rfl ?_
  refine ao_q (v := (.own 0 0 (List.length l3))) go0 rfl (aq_as rfl) ?_
  refine AO.done (hK2 _ ?_)
  refine AW.seq fun K4 hK4 => ?_
  refine AW.seq fun K5 hK5 => ?_
  refine AW.regionO (by rfl) ?_
  refine ao_q (v := (i64 0)) go0 rfl (aq_as rfl) ?_
  refine AO.done (hK5 _ ?_)
  obtain ⟨o9, h1, h0⟩ := Sh.bind_some h0
  have M9 : ∀ (l8 : (List Cell)), o9 = l8 → ∀ s, Wk 0 s ⟨23, envL [(3, (.own 0 0 (List.length l8)))], [⟨0, 58, 3, List.map eCell l8⟩]⟩ → K4 s := by
    intro l8 hq s hw
    subst o9
    try dsimp only at h0
    refine hK4 _ (AW.weaken hw ?_)
    refine AW.seq fun K10 hK10 => ?_
    refine AW.regionO (by rfl) ?_
    refine ao_q (v := (.own 0 0 (List.length l8))) go0 rfl (aq_mv rfl) ?_
    refine ao_q (v := (.own 0 0 (List.length l8))) go0 rfl (aq_as rfl) ?_
    refine AO.done (hK10 _ ?_)
    replace h0 := Sh.some_eq h0
    subst r
    exact AW.ret (Exists.intro _ (And.intro (Wk.to (L := [(2, (.own 0 0 (List.length l8)))]) ⟨.rfl, trivial⟩) (And.intro rfl rfl)))
  refine AW.block (AW.loopF (σ := Int × (List Cell)) (fun n v => laws_toCellS_L1 N p0 n v.1 v.2 = some o9) (fun (i6, l7) => ⟨23, envL [(0, (.sl (List.map eCell p0))), (3, (.own 0 0 (List.length l7))), (4, (i64 i6))], [⟨0, 58, 3, List.map eCell l7⟩]⟩) N (0, l3) h1 (Wk.to (L := [(0, (.sl (List.map eCell p0))), (3, (.own 0 0 (List.length l3))), (4, (i64 0))]) ⟨.rfl, .rfl, .rfl, trivial⟩) (fun _ hv => by rw [laws_toCellS_L1] at hv; cases hv) ?_)
  rintro n ⟨i6, l7⟩ h1
  try dsimp only at h1 ⊢
  rw [laws_toCellS_L1] at h1
  refine AW.seq fun K11 hK11 => ?_
  refine AW.seq fun K12 hK12 => ?_
  refine AW.regionO (by rfl) ?_
  refine ao_q (v := (i64 i6)) go0 rfl (aq_mv rfl) ?_
  refine ao_q (v := (.sl (List.map eCell p0))) go0 rfl (aq_mv rfl) ?_
  refine ao_q (v := (i64 (Sh.len p0))) go0 rfl (aq_lens sl22 rfl) ?_
  refine ao_q (v := (.bool (decide (i6 < (Sh.len p0))))) go0 rfl (aq_lt rfl rfl) ?_
  refine AO.done (hK12 _ ?_)
  refine AW.cond' (b := decide (i6 < (Sh.len p0))) rfl (fun b13 => ?_) (fun b13 => ?_)
  · replace h1 := Sh.ite_t b13 h1
    refine AW.skip (hK11 _ ?_)
    refine AW.seq fun K14 hK14 => ?_
    refine AW.block ?_
    refine AW.regionO (by rfl) ?_
    refine ao_q (v := (.own 0 0 (List.length l7))) go0 rfl (aq_mv rfl) ?_
    refine ao_q (v := (i64 i6)) go0 rfl (aq_mv rfl) ?_
    refine ao_q (v := (.sl (List.map eCell p0))) go0 rfl (aq_mv rfl) ?_
    refine ao_q (v := (i64 i6)) go0 rfl (aq_mv rfl) ?_
    obtain ⟨c15, gc15, h1⟩ := Sh.bind_some h1
    refine ao_q (v := (.iptr (eCell c15) 0)) go0 rfl (aq_ixs ei22 rfl rfl gc15 rfl) ?_
    refine ao_q (v := (.agg [(i64 c15.count), (i64 c15.tag), (.sl (List.map eI c15.fields))])) go0 rfl (aq_ldia ti56 rfl (show 0 + 3 ≤ 3 by decide) rfl) ?_
    obtain ⟨q16, gq16, h1⟩ := Sh.bind_some h1
    refine ao_call (v' := (.agg [(i64 q16.count), (i64 q16.tag), (.sl (List.map eI q16.fields))])) (st' := [⟨0, 58, 3, List.map eCell l7⟩]) go0 hb37 (laws_toCell_ok gq16) rfl rfl trivial rfl rfl ?_
    obtain ⟨c17, gc17, h1⟩ := Sh.bind_some h1
    refine ao_q (v := (.ptr 0 0 (Int.toNat i6) 0)) go0 rfl (aq_ixo ei26 rfl rfl rfl rfl gc17) ?_
    refine ao_stl (st' := [⟨0, 58, 3, List.map eCell (Sh.put l7 i6 q16)⟩]) (u' := q16) go0 ti58 rfl rfl gc17 rfl rfl rfl (show 0 + 3 ≤ 3 by decide) rfl rfl ?_
    refine AO.done (hK14 _ ?_)
    refine AW.regionO (by rfl) ?_
    refine ao_q (v := (i64 i6)) go0 rfl (aq_mv rfl) ?_
    refine ao_q (v := (i64 (Sh.w (i6 + 1)))) go0 rfl (aq_add rfl rfl) ?_
    refine ao_q (v := (i64 (Sh.w (i6 + 1)))) go0 rfl (aq_as rfl) ?_
    exact AO.done (Exists.intro (Sh.w (i6 + 1), Sh.put l7 i6 q16) (And.intro h1 (Wk.to (L := [(0, (.sl (List.map eCell p0))), (3, (.own 0 0 (List.length (Sh.put l7 i6 q16)))), (4, (i64 (Sh.w (i6 + 1))))]) ⟨.rfl, (.len (by simp only [Sh.put_len])), .rfl, trivial⟩)))
  · replace h1 := Sh.ite_f b13 h1
    exact AW.exit (M9 l7 (Sh.some_eq h1).symm _ (Wk.to (L := [(3, (.own 0 0 (List.length l7)))]) ⟨.rfl, trivial⟩))

set_option maxRecDepth 100000 in
set_option maxHeartbeats 4000000 in
theorem spec_inRange_ok {p0 : Int} {p1 : Int} {p2 : Int} {r : Bool} (h0 : spec_inRange p0 p1 p2 = some r) : ACalls Try.prog 57 [(i64 p0), (i64 p1), (i64 p2)] [] (fun v st => v = (.bool r) ∧ st = []) := by
  unfold spec_inRange at h0
  refine ACalls.intro Try.func57 rfl (by show 3 ≤ 15; decide) ?_
  show AW _ 0 _ (aret _ 0 Try.f57 _) ⟨15, _, _⟩
  refine AW.weaken (Wk.to (L := [(0, (i64 p0)), (1, (i64 p1)), (2, (i64 p2))]) ⟨.rfl, .rfl, .rfl, trivial⟩) ?_
  refine AW.seq fun K1 hK1 => ?_
  refine AW.regionO (by rfl) ?_
  refine ao_q (v := (.bool false)) go0 rfl (aq_as rfl) ?_
  refine AO.done (hK1 _ ?_)
  refine AW.seq fun K2 hK2 => ?_
  obtain ⟨o4, h1, h0⟩ := Sh.bind_some h0
  have M4 : ∀ (t3 : Bool), o4 = t3 → ∀ s, Wk 0 s ⟨15, envL [(6, (.bool t3))], []⟩ → K2 s := by
    intro t3 hq s hw
    subst o4
    try dsimp only at h0
    refine hK2 _ (AW.weaken hw ?_)
    replace h0 := Sh.some_eq h0
    subst r
    exact AW.ret (Exists.intro _ (And.intro (Wk.to (L := [(6, (.bool t3))]) ⟨.rfl, trivial⟩) (And.intro rfl rfl)))
  refine AW.regionO (by rfl) ?_
  refine ao_q (v := (i64 p1)) go0 rfl (aq_mv rfl) ?_
  refine ao_q (v := (i64 p0)) go0 rfl (aq_mv rfl) ?_
  refine ao_q (v := (.bool (decide (p1 ≤ p0)))) go0 rfl (aq_le rfl rfl) ?_
  refine ao_q (v := (.bool (decide (p1 ≤ p0)))) go0 rfl (aq_mv rfl) ?_
  rcases Sh.ite_some h1 with ⟨b5, h1⟩ | ⟨b5, h1⟩
  · skip
    refine ao_q (v := (i64 p0)) (go1 rfl rfl b5) rfl (aq_mv rfl) ?_
    refine ao_q (v := (i64 p2)) (go1 rfl rfl b5) rfl (aq_mv rfl) ?_
    refine ao_q (v := (.bool (decide (p0 ≤ p2)))) (go1 rfl rfl b5) rfl (aq_le rfl rfl) ?_
    refine ao_q (v := (.bool (decide (p0 ≤ p2)))) go0 rfl (aq_pkt rfl b5 rfl) ?_
    refine ao_q (v := (.bool (decide (p0 ≤ p2)))) go0 rfl (aq_as rfl) ?_
    exact AO.done (M4 (decide (p0 ≤ p2)) (Sh.some_eq h1).symm _ (Wk.to (L := [(6, (.bool (decide (p0 ≤ p2))))]) ⟨.rfl, trivial⟩))
  · skip
    refine ao_skip rfl rfl b5 ?_
    refine ao_skip rfl rfl b5 ?_
    refine ao_skip rfl rfl b5 ?_
    refine ao_q (v := (.bool false)) go0 rfl (aq_pkf rfl b5 rfl) ?_
    refine ao_q (v := (.bool false)) go0 rfl (aq_as rfl) ?_
    exact AO.done (M4 false (Sh.some_eq h1).symm _ (Wk.to (L := [(6, (.bool false))]) ⟨.rfl, trivial⟩))

set_option maxRecDepth 100000 in
set_option maxHeartbeats 4000000 in
theorem spec_allZero_ok {N : Nat} {p0 : (List Int)} {r : Bool} (h0 : spec_allZero N p0 = some r) : ACalls Try.prog 92 [(.sl (List.map eI p0))] [] (fun v st => v = (.bool r) ∧ st = []) := by
  unfold spec_allZero at h0
  refine ACalls.intro Try.func92 rfl (by show 1 ≤ 15; decide) ?_
  show AW _ 0 _ (aret _ 0 Try.f92 _) ⟨15, _, _⟩
  refine AW.weaken (Wk.to (L := [(0, (.sl (List.map eI p0)))]) ⟨.rfl, trivial⟩) ?_
  refine AW.seq fun K1 hK1 => ?_
  refine AW.regionO (by rfl) ?_
  refine ao_q (v := (.bool false)) go0 rfl (aq_as rfl) ?_
  refine AO.done (hK1 _ ?_)
  refine AW.seq fun K2 hK2 => ?_
  refine AW.seq fun K3 hK3 => ?_
  refine AW.regionO (by rfl) ?_
  refine ao_q (v := (i64 0)) go0 rfl (aq_as rfl) ?_
  refine AO.done (hK3 _ ?_)
  obtain ⟨o5, h1, h0⟩ := Sh.cont_some h0
  have M5 : ∀ (_ : Unit), o5 = Sum.inr () → ∀ s, Wk 0 s ⟨15, envL [], []⟩ → K2 s := by
    intro _ hq s hw
    subst o5
    try dsimp only at h0
    refine hK2 _ (AW.weaken hw ?_)
    refine AW.seq fun K6 hK6 => ?_
    refine AW.regionO (by rfl) ?_
    refine ao_q (v := (.bool true)) go0 rfl (aq_as rfl) ?_
    refine AO.done (hK6 _ ?_)
    replace h0 := Sh.some_eq h0
    subst r
    exact AW.ret (Exists.intro _ (And.intro (Wk.to (L := [(2, (.bool true))]) ⟨.rfl, trivial⟩) (And.intro rfl rfl)))
  refine AW.block (AW.loopF (σ := Int) (fun n v => spec_allZero_L1 p0 n v = some o5) (fun i4 => ⟨15, envL [(0, (.sl (List.map eI p0))), (3, (i64 i4))], []⟩) N 0 h1 (Wk.to (L := [(0, (.sl (List.map eI p0))), (3, (i64 0))]) ⟨.rfl, .rfl, trivial⟩) (fun _ hv => by rw [spec_allZero_L1] at hv; cases hv) ?_)
  rintro n i4 h1
  try dsimp only at h1 ⊢
  rw [spec_allZero_L1] at h1
  refine AW.seq fun K7 hK7 => ?_
  refine AW.seq fun K8 hK8 => ?_
  refine AW.regionO (by rfl) ?_
  refine ao_q (v := (i64 i4)) go0 rfl (aq_mv rfl) ?_
  refine ao_q (v := (.sl (List.map eI p0))) go0 rfl (aq_mv rfl) ?_
  refine ao_q (v := (i64 (Sh.len p0))) go0 rfl (aq_lens sl23 rfl) ?_
  refine ao_q (v := (.bool (decide (i4 < (Sh.len p0))))) go0 rfl (aq_lt rfl rfl) ?_
  refine AO.done (hK8 _ ?_)
  refine AW.cond' (b := decide (i4 < (Sh.len p0))) rfl (fun b9 => ?_) (fun b9 => ?_)
  · replace h1 := Sh.ite_t b9 h1
    refine AW.skip (hK7 _ ?_)
    refine AW.seq fun K10 hK10 => ?_
    refine AW.block ?_
    refine AW.seq fun K11 hK11 => ?_
    refine AW.regionO (by rfl) ?_
    refine ao_q (v := (.sl (List.map eI p0))) go0 rfl (aq_mv rfl) ?_
    refine ao_q (v := (i64 i4)) go0 rfl (aq_mv rfl) ?_
    obtain ⟨c12, gc12, h1⟩ := Sh.bind_some h1
    refine ao_q (v := (.iptr (eI c12) 0)) go0 rfl (aq_ixs ei23 rfl rfl gc12 rfl) ?_
    refine ao_q (v := (i64 c12)) go0 rfl (aq_ldi ti3 rfl rfl) ?_
    refine ao_q (v := (.bool (!decide (c12 = 0)))) go0 rfl (aq_ne rfl rfl) ?_
    refine AO.done (hK11 _ ?_)
    refine AW.cond' (b := !decide (c12 = 0)) rfl (fun b13 => ?_) (fun b13 => ?_)
    · replace h1 := Sh.ite_t b13 h1
      have b14 : decide (c12 = 0) = false := by simpa using b13
      refine AW.seq fun K15 hK15 => ?_
      refine AW.regionO (by rfl) ?_
      refine ao_q (v := (.bool false)) go0 rfl (aq_as rfl) ?_
      refine AO.done (hK15 _ ?_)
      replace h1 := Sh.some_eq h1
      subst o5
      try dsimp only [id] at h0
      replace h0 := Sh.some_eq h0
      subst r
      exact AW.ret (Exists.intro _ (And.intro (Wk.to (L := [(2, (.bool false))]) ⟨.rfl, trivial⟩) (And.intro rfl rfl)))
    · replace h1 := Sh.ite_f b13 h1
      have b16 : decide (c12 = 0) = true := by simpa using b13
      refine AW.skip (hK10 _ ?_)
      refine AW.regionO (by rfl) ?_
      refine ao_q (v := (i64 i4)) go0 rfl (aq_mv rfl) ?_
      refine ao_q (v := (i64 (Sh.w (i4 + 1)))) go0 rfl (aq_add rfl rfl) ?_
      refine ao_q (v := (i64 (Sh.w (i4 + 1)))) go0 rfl (aq_as rfl) ?_
      exact AO.done (Exists.intro (Sh.w (i4 + 1)) (And.intro h1 (Wk.to (L := [(0, (.sl (List.map eI p0))), (3, (i64 (Sh.w (i4 + 1))))]) ⟨.rfl, .rfl, trivial⟩)))
  · replace h1 := Sh.ite_f b9 h1
    exact AW.exit (M5 () (Sh.some_eq h1).symm _ (Wk.to (L := []) trivial))

set_option maxRecDepth 100000 in
set_option maxHeartbeats 4000000 in
theorem spec_isPointer_ok {p0 : Int} {r : Bool} (h0 : spec_isPointer p0 = some r) : ACalls Try.prog 45 [(i64 p0)] [] (fun v st => v = (.bool r) ∧ st = []) := by
  unfold spec_isPointer at h0
  refine ACalls.intro Try.func45 rfl (by show 1 ≤ 5; decide) ?_
  show AW _ 0 _ (aret _ 0 Try.f45 _) ⟨5, _, _⟩
  refine AW.weaken (Wk.to (L := [(0, (i64 p0))]) ⟨.rfl, trivial⟩) ?_
  refine AW.seq fun K1 hK1 => ?_
  refine AW.regionO (by rfl) ?_
  refine ao_q (v := (.bool false)) go0 rfl (aq_as rfl) ?_
  refine AO.done (hK1 _ ?_)
  refine AW.seq fun K2 hK2 => ?_
  refine AW.regionO (by rfl) ?_
  refine ao_q (v := (i64 p0)) go0 rfl (aq_mv rfl) ?_
  refine ao_q (v := (.bool (decide (1000 ≤ p0)))) go0 rfl (aq_ge rfl rfl) ?_
  refine ao_q (v := (.bool (decide (1000 ≤ p0)))) go0 rfl (aq_as rfl) ?_
  refine AO.done (hK2 _ ?_)
  replace h0 := Sh.some_eq h0
  subst r
  exact AW.ret (Exists.intro _ (And.intro (Wk.to (L := [(2, (.bool (decide (1000 ≤ p0))))]) ⟨.rfl, trivial⟩) (And.intro rfl rfl)))

set_option maxRecDepth 100000 in
set_option maxHeartbeats 4000000 in
theorem spec_isLive_ok {p0 : (List Cell)} {p1 : Int} {r : Bool} (h0 : spec_isLive p0 p1 = some r) : ACalls Try.prog 70 [(.sl (List.map eCell p0)), (i64 p1)] [] (fun v st => v = (.bool r) ∧ st = []) := by
  unfold spec_isLive at h0
  refine ACalls.intro Try.func70 rfl (by show 2 ≤ 24; decide) ?_
  show AW _ 0 _ (aret _ 0 Try.f70 _) ⟨24, _, _⟩
  refine AW.weaken (Wk.to (L := [(0, (.sl (List.map eCell p0))), (1, (i64 p1))]) ⟨.rfl, .rfl, trivial⟩) ?_
  refine AW.seq fun K1 hK1 => ?_
  refine AW.regionO (by rfl) ?_
  refine ao_q (v := (.bool false)) go0 rfl (aq_as rfl) ?_
  refine AO.done (hK1 _ ?_)
  refine AW.seq fun K2 hK2 => ?_
  obtain ⟨o4, h1, h0⟩ := Sh.bind_some h0
  have M4 : ∀ (t3 : Bool), o4 = t3 → ∀ s, Wk 0 s ⟨24, envL [(4, (.bool t3))], []⟩ → K2 s := by
    intro t3 hq s hw
    subst o4
    try dsimp only at h0
    refine hK2 _ (AW.weaken hw ?_)
    replace h0 := Sh.some_eq h0
    subst r
    exact AW.ret (Exists.intro _ (And.intro (Wk.to (L := [(4, (.bool t3))]) ⟨.rfl, trivial⟩) (And.intro rfl rfl)))
  refine AW.regionO (by rfl) ?_
  refine ao_q (v := (i64 p1)) go0 rfl (aq_mv rfl) ?_
  refine ao_q (v := (i64 (Sh.w (p1 - 1000)))) go0 rfl (aq_sub rfl rfl) ?_
  refine ao_q (v := (.sl (List.map eCell p0))) go0 rfl (aq_mv rfl) ?_
  refine ao_q (v := (i64 (Sh.len p0))) go0 rfl (aq_lens sl26 rfl) ?_
  refine ao_q (v := (i64 (Sh.w ((Sh.len p0) - 1)))) go0 rfl (aq_sub rfl rfl) ?_
  obtain ⟨q5, gq5, h1⟩ := Sh.bind_some h1
  refine ao_call (v' := (.bool q5)) (st' := []) go0 hb57 (spec_inRange_ok gq5) rfl rfl trivial rfl rfl ?_
  refine ao_q (v := (.bool q5)) go0 rfl (aq_mv rfl) ?_
  rcases Sh.ite_some h1 with ⟨b6, h1⟩ | ⟨b6, h1⟩
  · skip
    refine ao_q (v := (i64 p1)) (go1 rfl rfl b6) rfl (aq_mv rfl) ?_
    obtain ⟨q7, gq7, h1⟩ := Sh.bind_some h1
    refine ao_call (v' := (.bool q7)) (st' := []) (go1 rfl rfl b6) hb45 (spec_isPointer_ok gq7) rfl rfl trivial rfl rfl ?_
    refine ao_q (v := (.bool q7)) go0 rfl (aq_pkt rfl b6 rfl) ?_
    refine ao_q (v := (.bool q7)) go0 rfl (aq_mv rfl) ?_
    rcases Sh.ite_some h1 with ⟨b8, h1⟩ | ⟨b8, h1⟩
    · skip
      refine ao_q (v := (.sl (List.map eCell p0))) (go1 rfl rfl b8) rfl (aq_mv rfl) ?_
      refine ao_q (v := (i64 p1)) (go1 rfl rfl b8) rfl (aq_mv rfl) ?_
      refine ao_q (v := (i64 (Sh.w (p1 - 1000)))) (go1 rfl rfl b8) rfl (aq_sub rfl rfl) ?_
      obtain ⟨c9, gc9, h1⟩ := Sh.bind_some h1
      refine ao_q (v := (.iptr (eCell c9) 0)) (go1 rfl rfl b8) rfl (aq_ixs ei26 rfl rfl gc9 rfl) ?_
      refine ao_q (v := (.iptr (eCell c9) 0)) (go1 rfl rfl b8) rfl (aq_fai fi58_0 rfl rfl) ?_
      refine ao_q (v := (i64 c9.count)) (go1 rfl rfl b8) rfl (aq_ldi ti3 rfl rfl) ?_
      refine ao_q (v := (.bool (decide (0 < c9.count)))) (go1 rfl rfl b8) rfl (aq_gt rfl rfl) ?_
      refine ao_q (v := (.bool (decide (0 < c9.count)))) go0 rfl (aq_pkt rfl b8 rfl) ?_
      refine ao_q (v := (.bool (decide (0 < c9.count)))) go0 rfl (aq_as rfl) ?_
      exact AO.done (M4 (decide (0 < c9.count)) (Sh.some_eq h1).symm _ (Wk.to (L := [(4, (.bool (decide (0 < c9.count))))]) ⟨.rfl, trivial⟩))
    · skip
      refine ao_skip rfl rfl b8 ?_
      refine ao_skip rfl rfl b8 ?_
      refine ao_skip rfl rfl b8 ?_
      refine ao_skip rfl rfl b8 ?_
      refine ao_skip rfl rfl b8 ?_
      refine ao_skip rfl rfl b8 ?_
      refine ao_skip rfl rfl b8 ?_
      refine ao_q (v := (.bool false)) go0 rfl (aq_pkf rfl b8 rfl) ?_
      refine ao_q (v := (.bool false)) go0 rfl (aq_as rfl) ?_
      exact AO.done (M4 false (Sh.some_eq h1).symm _ (Wk.to (L := [(4, (.bool false))]) ⟨.rfl, trivial⟩))
  · skip
    refine ao_skip rfl rfl b6 ?_
    refine ao_skip rfl rfl b6 ?_
    refine ao_q (v := (.bool false)) go0 rfl (aq_pkf rfl b6 rfl) ?_
    refine ao_q (v := (.bool false)) go0 rfl (aq_mv rfl) ?_
    refine ao_skip rfl rfl rfl ?_
    refine ao_skip rfl rfl rfl ?_
    refine ao_skip rfl rfl rfl ?_
    refine ao_skip rfl rfl rfl ?_
    refine ao_skip rfl rfl rfl ?_
    refine ao_skip rfl rfl rfl ?_
    refine ao_skip rfl rfl rfl ?_
    refine ao_q (v := (.bool false)) go0 rfl (aq_pkf rfl rfl rfl) ?_
    refine ao_q (v := (.bool false)) go0 rfl (aq_as rfl) ?_
    exact AO.done (M4 false (Sh.some_eq h1).symm _ (Wk.to (L := [(4, (.bool false))]) ⟨.rfl, trivial⟩))

set_option maxRecDepth 100000 in
set_option maxHeartbeats 4000000 in
theorem spec_isWord_ok {p0 : (List Cell)} {p1 : Int} {r : Bool} (h0 : spec_isWord p0 p1 = some r) : ACalls Try.prog 43 [(.sl (List.map eCell p0)), (i64 p1)] [] (fun v st => v = (.bool r) ∧ st = []) := by
  unfold spec_isWord at h0
  refine ACalls.intro Try.func43 rfl (by show 2 ≤ 12; decide) ?_
  show AW _ 0 _ (aret _ 0 Try.f43 _) ⟨12, _, _⟩
  refine AW.weaken (Wk.to (L := [(0, (.sl (List.map eCell p0))), (1, (i64 p1))]) ⟨.rfl, .rfl, trivial⟩) ?_
  refine AW.seq fun K1 hK1 => ?_
  refine AW.regionO (by rfl) ?_
  refine ao_q (v := (.bool false)) go0 rfl (aq_as rfl) ?_
  refine AO.done (hK1 _ ?_)
  refine AW.seq fun K2 hK2 => ?_
  obtain ⟨o4, h1, h0⟩ := Sh.bind_some h0
  have M4 : ∀ (t3 : Bool), o4 = t3 → ∀ s, Wk 0 s ⟨12, envL [(4, (.bool t3))], []⟩ → K2 s := by
    intro t3 hq s hw
    subst o4
    try dsimp only at h0
    refine hK2 _ (AW.weaken hw ?_)
    replace h0 := Sh.some_eq h0
    subst r
    exact AW.ret (Exists.intro _ (And.intro (Wk.to (L := [(4, (.bool t3))]) ⟨.rfl, trivial⟩) (And.intro rfl rfl)))
  refine AW.regionO (by rfl) ?_
  refine ao_q (v := (i64 p1)) go0 rfl (aq_mv rfl) ?_
  obtain ⟨q5, gq5, h1⟩ := Sh.bind_some h1
  refine ao_call (v' := (.bool q5)) (st' := []) go0 hb57 (spec_inRange_ok gq5) rfl rfl trivial rfl rfl ?_
  refine ao_q (v := (.bool q5)) go0 rfl (aq_mv rfl) ?_
  rcases Sh.ite_some h1 with ⟨b6, h1⟩ | ⟨b6, h1⟩
  · skip
    refine ao_skip rfl rfl b6 ?_
    refine ao_skip rfl rfl b6 ?_
    refine ao_skip rfl rfl b6 ?_
    refine ao_q (v := (.bool true)) go0 rfl (aq_pkt rfl b6 rfl) ?_
    refine ao_q (v := (.bool true)) go0 rfl (aq_as rfl) ?_
    exact AO.done (M4 true (Sh.some_eq h1).symm _ (Wk.to (L := [(4, (.bool true))]) ⟨.rfl, trivial⟩))
  · skip
    refine ao_q (v := (.sl (List.map eCell p0))) (go1 rfl rfl b6) rfl (aq_mv rfl) ?_
    refine ao_q (v := (i64 p1)) (go1 rfl rfl b6) rfl (aq_mv rfl) ?_
    obtain ⟨q7, gq7, h1⟩ := Sh.bind_some h1
    refine ao_call (v' := (.bool q7)) (st' := []) (go1 rfl rfl b6) hb70 (spec_isLive_ok gq7) rfl rfl trivial rfl rfl ?_
    refine ao_q (v := (.bool q7)) go0 rfl (aq_pkf rfl b6 rfl) ?_
    refine ao_q (v := (.bool q7)) go0 rfl (aq_as rfl) ?_
    exact AO.done (M4 q7 (Sh.some_eq h1).symm _ (Wk.to (L := [(4, (.bool q7))]) ⟨.rfl, trivial⟩))

set_option maxRecDepth 100000 in
set_option maxHeartbeats 4000000 in
theorem spec_validCell_ok {N : Nat} {p0 : (List Cell)} {p1 : Cell} {r : Bool} (h0 : spec_validCell N p0 p1 = some r) : ACalls Try.prog 67 [(.sl (List.map eCell p0)), (.agg [(i64 p1.count), (i64 p1.tag), (.sl (List.map eI p1.fields))])] [] (fun v st => v = (.bool r) ∧ st = []) := by
  unfold spec_validCell at h0
  refine ACalls.intro Try.func67 rfl (by show 2 ≤ 56; decide) ?_
  show AW _ 0 _ (aret _ 0 Try.f67 _) ⟨56, _, _⟩
  refine AW.weaken (Wk.to (L := [(0, (.sl (List.map eCell p0))), (1, (.agg [(i64 p1.count), (i64 p1.tag), (.sl (List.map eI p1.fields))]))]) ⟨.rfl, .rfl, trivial⟩) ?_
  refine AW.seq fun K1 hK1 => ?_
  refine AW.regionO (by rfl) ?_
  refine ao_box (m := 0) (st' := [⟨0, 58, 3, [[(i64 p1.count), (i64 p1.tag), (.sl (List.map eI p1.fields))]]⟩]) go0 rfl rfl rfl rfl rfl ?_
  refine ao_q (v := (.bool false)) go0 rfl (aq_as rfl) ?_
  refine AO.done (hK1 _ ?_)
  refine AW.seq fun K2 hK2 => ?_
  refine AW.seq fun K3 hK3 => ?_
  obtain ⟨o5, h1, h0⟩ := Sh.bind_some h0
  have M5 : ∀ (t4 : Bool), o5 = t4 → ∀ s, Wk 0 s ⟨56, envL [(0, (.sl (List.map eCell p0))), (3, (.ptr 0 0 0 0)), (15, (.bool t4))], [⟨0, 58, 3, [[(i64 p1.count), (i64 p1.tag), (.sl (List.map eI p1.fields))]]⟩]⟩ → K3 s := by
    intro t4 hq s hw
    subst o5
    try dsimp only at h0
    refine hK3 _ (AW.weaken hw ?_)
    refine AW.cond' (b := t4) rfl (fun b6 => ?_) (fun b6 => ?_)
    · replace h0 := Sh.ite_t b6 h0
      refine AW.seq fun K7 hK7 => ?_
      refine AW.regionO (by rfl) ?_
      refine ao_q (v := (.bool false)) go0 rfl (aq_as rfl) ?_
      refine AO.done (hK7 _ ?_)
      replace h0 := Sh.some_eq h0
      subst r
      exact AW.ret (Exists.intro _ (And.intro ((Wk.permk (L := [(4, (.bool false))]) (st' := []) (st1 := []) [] rfl .nil (by decide) rfl rfl .nil ⟨.rfl, trivial⟩).trans (Wk.to (L := [(4, (.bool false))]) ⟨.rfl, trivial⟩)) (And.intro rfl rfl)))
    · replace h0 := Sh.ite_f b6 h0
      refine AW.skip (hK2 _ ?_)
      refine AW.seq fun K8 hK8 => ?_
      refine AW.seq fun K9 hK9 => ?_
      refine AW.regionO (by rfl) ?_
      refine ao_q (v := (.ptr 0 0 0 0)) go0 rfl (aq_fap fi58_0 rfl rfl (show 0 + 0 ≤ 3 by decide) rfl) ?_
      refine ao_q (v := (i64 p1.count)) go0 rfl (aq_ldp ti3 rfl rfl rfl rfl) ?_
      refine ao_q (v := (.bool (decide (p1.count < 1)))) go0 rfl (aq_lt rfl rfl) ?_
      refine AO.done (hK9 _ ?_)
      refine AW.cond' (b := decide (p1.count < 1)) rfl (fun b10 => ?_) (fun b10 => ?_)
      · replace h0 := Sh.ite_t b10 h0
        refine AW.seq fun K11 hK11 => ?_
        obtain ⟨o13, h1, h0⟩ := Sh.bind_some h0
        have M13 : ∀ (t12 : Bool), o13 = t12 → ∀ s, Wk 0 s ⟨56, envL [(4, (.bool t12))], []⟩ → K11 s := by
          intro t12 hq s hw
          subst o13
          try dsimp only at h0
          refine hK11 _ (AW.weaken hw ?_)
          replace h0 := Sh.some_eq h0
          subst r
          exact AW.ret (Exists.intro _ (And.intro (Wk.to (L := [(4, (.bool t12))]) ⟨.rfl, trivial⟩) (And.intro rfl rfl)))
        refine AW.regionO (by rfl) ?_
        refine ao_q (v := (.ptr 0 0 0 1)) go0 rfl (aq_fap fi58_1 rfl rfl (show 0 + 1 ≤ 3 by decide) rfl) ?_
        refine ao_q (v := (i64 p1.tag)) go0 rfl (aq_ldp ti3 rfl rfl rfl rfl) ?_
        refine ao_q (v := (.bool (decide (p1.tag = 0)))) go0 rfl (aq_eq rfl rfl) ?_
        refine ao_q (v := (.bool (decide (p1.tag = 0)))) go0 rfl (aq_mv rfl) ?_
        rcases Sh.ite_some h1 with ⟨b14, h1⟩ | ⟨b14, h1⟩
        · skip
          refine ao_q (v := (.ptr 0 0 0 2)) (go1 rfl rfl b14) rfl (aq_fap fi58_2 rfl rfl (show 0 + 2 ≤ 3 by decide) rfl) ?_
          refine ao_q (v := (.sl (List.map eI p1.fields))) (go1 rfl rfl b14) rfl (aq_ldp ti23 rfl rfl rfl rfl) ?_
          obtain ⟨q15, gq15, h1⟩ := Sh.bind_some h1
          refine ao_call (v' := (.bool q15)) (st' := [⟨0, 58, 3, [[(i64 p1.count), (i64 p1.tag), (.sl (List.map eI p1.fields))]]⟩]) (go1 rfl rfl b14) hb92 (spec_allZero_ok gq15) rfl rfl trivial rfl rfl ?_
          refine ao_q (v := (.bool q15)) go0 rfl (aq_pkt rfl b14 rfl) ?_
          refine ao_q (v := (.bool q15)) go0 rfl (aq_mv rfl) ?_
          rcases Sh.ite_some h1 with ⟨b16, h1⟩ | ⟨b16, h1⟩
          · skip
            refine ao_q (v := (.ptr 0 0 0 0)) (go1 rfl rfl b16) rfl (aq_fap fi58_0 rfl rfl (show 0 + 0 ≤ 3 by decide) rfl) ?_
            refine ao_q (v := (i64 p1.count)) (go1 rfl rfl b16) rfl (aq_ldp ti3 rfl rfl rfl rfl) ?_
            refine ao_q (v := (.bool (decide (p1.count < 0)))) (go1 rfl rfl b16) rfl (aq_lt rfl rfl) ?_
            refine ao_q (v := (.bool (decide (p1.count < 0)))) (go1 rfl rfl b16) rfl (aq_mv rfl) ?_
            rcases Sh.ite_some h1 with ⟨b17, h1⟩ | ⟨b17, h1⟩
            · skip
              refine ao_skip rfl rfl b17 ?_
              refine ao_skip rfl rfl b17 ?_
              refine ao_skip rfl rfl b17 ?_
              refine ao_skip rfl rfl b17 ?_
              refine ao_q (v := (.bool true)) (go1 rfl rfl b16) rfl (aq_pkt rfl b17 rfl) ?_
              refine ao_q (v := (.bool true)) go0 rfl (aq_pkt rfl b16 rfl) ?_
              refine ao_q (v := (.bool true)) go0 rfl (aq_as rfl) ?_
              exact AO.done (M13 true (Sh.some_eq h1).symm _ (by refine Wk.trans (Wk.permk (L := [(4, (.bool true))]) (st' := []) (st1 := []) [] rfl .nil (by decide) rfl rfl .nil ⟨.rfl, trivial⟩) ?_; exact Wk.to (L := [(4, (.bool true))]) ⟨.rfl, trivial⟩))
            · skip
              refine ao_q (v := (.ptr 0 0 0 2)) (go1 rfl rfl b17) rfl (aq_fap fi58_2 rfl rfl (show 0 + 2 ≤ 3 by decide) rfl) ?_
              refine ao_q (v := (.sl (List.map eI p1.fields))) (go1 rfl rfl b17) rfl (aq_ldp ti23 rfl rfl rfl rfl) ?_
              refine ao_q (v := (i64 (Sh.len p1.fields))) (go1 rfl rfl b17) rfl (aq_lens sl23 rfl) ?_
              refine ao_q (v := (.bool (decide ((Sh.len p1.fields) = 0)))) (go1 rfl rfl b17) rfl (aq_eq rfl rfl) ?_
              refine ao_q (v := (.bool (decide ((Sh.len p1.fields) = 0)))) (go1 rfl rfl b16) rfl (aq_pkf rfl b17 rfl) ?_
              refine ao_q (v := (.bool (decide ((Sh.len p1.fields) = 0)))) go0 rfl (aq_pkt rfl b16 rfl) ?_
              refine ao_q (v := (.bool (decide ((Sh.len p1.fields) = 0)))) go0 rfl (aq_as rfl) ?_
              exact AO.done (M13 (decide ((Sh.len p1.fields) = 0)) (Sh.some_eq h1).symm _ (by refine Wk.trans (Wk.permk (L := [(4, (.bool (decide ((Sh.len p1.fields) = 0))))]) (st' := []) (st1 := []) [] rfl .nil (by decide) rfl rfl .nil ⟨.rfl, trivial⟩) ?_; exact Wk.to (L := [(4, (.bool (decide ((Sh.len p1.fields) = 0))))]) ⟨.rfl, trivial⟩))
          · skip
            refine ao_skip rfl rfl b16 ?_
            refine ao_skip rfl rfl b16 ?_
            refine ao_skip rfl rfl b16 ?_
            refine ao_skip rfl rfl b16 ?_
            refine ao_none rfl rfl ?_
            refine ao_none rfl rfl ?_
            refine ao_none rfl rfl ?_
            refine ao_none rfl rfl ?_
            refine ao_skip rfl rfl b16 ?_
            refine ao_q (v := (.bool false)) go0 rfl (aq_pkf rfl b16 rfl) ?_
            refine ao_q (v := (.bool false)) go0 rfl (aq_as rfl) ?_
            exact AO.done (M13 false (Sh.some_eq h1).symm _ (by refine Wk.trans (Wk.permk (L := [(4, (.bool false))]) (st' := []) (st1 := []) [] rfl .nil (by decide) rfl rfl .nil ⟨.rfl, trivial⟩) ?_; exact Wk.to (L := [(4, (.bool false))]) ⟨.rfl, trivial⟩))
        · skip
          refine ao_skip rfl rfl b14 ?_
          refine ao_skip rfl rfl b14 ?_
          refine ao_skip rfl rfl b14 ?_
          refine ao_q (v := (.bool false)) go0 rfl (aq_pkf rfl b14 rfl) ?_
          refine ao_q (v := (.bool false)) go0 rfl (aq_mv rfl) ?_
          refine ao_skip rfl rfl rfl ?_
          refine ao_skip rfl rfl rfl ?_
          refine ao_skip rfl rfl rfl ?_
          refine ao_skip rfl rfl rfl ?_
          refine ao_none rfl rfl ?_
          refine ao_none rfl rfl ?_
          refine ao_none rfl rfl ?_
          refine ao_none rfl rfl ?_
          refine ao_skip rfl rfl rfl ?_
          refine ao_q (v := (.bool false)) go0 rfl (aq_pkf rfl rfl rfl) ?_
          refine ao_q (v := (.bool false)) go0 rfl (aq_as rfl) ?_
          exact AO.done (M13 false (Sh.some_eq h1).symm _ (by refine Wk.trans (Wk.permk (L := [(4, (.bool false))]) (st' := []) (st1 := []) [] rfl .nil (by decide) rfl rfl .nil ⟨.rfl, trivial⟩) ?_; exact Wk.to (L := [(4, (.bool false))]) ⟨.rfl, trivial⟩))
      · replace h0 := Sh.ite_f b10 h0
        refine AW.skip (hK8 _ ?_)
        refine AW.seq fun K18 hK18 => ?_
        refine AW.seq fun K19 hK19 => ?_
        refine AW.regionO (by rfl) ?_
        refine ao_q (v := (i64 0)) go0 rfl (aq_as rfl) ?_
        refine AO.done (hK19 _ ?_)
        obtain ⟨o21, h1, h0⟩ := Sh.cont_some h0
        have M21 : ∀ (_ : Unit), o21 = Sum.inr () → ∀ s, Wk 0 s ⟨56, envL [(3, (.ptr 0 0 0 0))], [⟨0, 58, 3, [[(i64 p1.count), (i64 p1.tag), (.sl (List.map eI p1.fields))]]⟩]⟩ → K18 s := by
          intro _ hq s hw
          subst o21
          try dsimp only at h0
          refine hK18 _ (AW.weaken hw ?_)
          refine AW.seq fun K22 hK22 => ?_
          refine AW.regionO (by rfl) ?_
          refine ao_q (v := (.ptr 0 0 0 1)) go0 rfl (aq_fap fi58_1 rfl rfl (show 0 + 1 ≤ 3 by decide) rfl) ?_
          refine ao_q (v := (i64 p1.tag)) go0 rfl (aq_ldp ti3 rfl rfl rfl rfl) ?_
          obtain ⟨q23, gq23, h0⟩ := Sh.bind_some h0
          refine ao_call (v' := (.bool q23)) (st' := [⟨0, 58, 3, [[(i64 p1.count), (i64 p1.tag), (.sl (List.map eI p1.fields))]]⟩]) go0 hb57 (spec_inRange_ok gq23) rfl rfl trivial rfl rfl ?_
          refine ao_q (v := (.bool q23)) go0 rfl (aq_as rfl) ?_
          refine AO.done (hK22 _ ?_)
          replace h0 := Sh.some_eq h0
          subst r
          exact AW.ret (Exists.intro _ (And.intro ((Wk.permk (L := [(4, (.bool q23))]) (st' := []) (st1 := []) [] rfl .nil (by decide) rfl rfl .nil ⟨.rfl, trivial⟩).trans (Wk.to (L := [(4, (.bool q23))]) ⟨.rfl, trivial⟩)) (And.intro rfl rfl)))
        refine AW.block (AW.loopF (σ := Int) (fun n v => spec_validCell_L1 p0 p1 n v = some o21) (fun i20 => ⟨56, envL [(0, (.sl (List.map eCell p0))), (3, (.ptr 0 0 0 0)), (5, (i64 i20))], [⟨0, 58, 3, [[(i64 p1.count), (i64 p1.tag), (.sl (List.map eI p1.fields))]]⟩]⟩) N 0 h1 (Wk.to (L := [(0, (.sl (List.map eCell p0))), (3, (.ptr 0 0 0 0)), (5, (i64 0))]) ⟨.rfl, .rfl, .rfl, trivial⟩) (fun _ hv => by rw [spec_validCell_L1] at hv; cases hv) ?_)
        rintro n i20 h1
        try dsimp only at h1 ⊢
        rw [spec_validCell_L1] at h1
        refine AW.seq fun K24 hK24 => ?_
        refine AW.seq fun K25 hK25 => ?_
        refine AW.regionO (by rfl) ?_
        refine ao_q (v := (i64 i20)) go0 rfl (aq_mv rfl) ?_
        refine ao_q (v := (.ptr 0 0 0 2)) go0 rfl (aq_fap fi58_2 rfl rfl (show 0 + 2 ≤ 3 by decide) rfl) ?_
        refine ao_q (v := (.sl (List.map eI p1.fields))) go0 rfl (aq_ldp ti23 rfl rfl rfl rfl) ?_
        refine ao_q (v := (i64 (Sh.len p1.fields))) go0 rfl (aq_lens sl23 rfl) ?_
        refine ao_q (v := (.bool (decide (i20 < (Sh.len p1.fields))))) go0 rfl (aq_lt rfl rfl) ?_
        refine AO.done (hK25 _ ?_)
        refine AW.cond' (b := decide (i20 < (Sh.len p1.fields))) rfl (fun b26 => ?_) (fun b26 => ?_)
        · replace h1 := Sh.ite_t b26 h1
          refine AW.skip (hK24 _ ?_)
          refine AW.seq fun K27 hK27 => ?_
          refine AW.block ?_
          refine AW.seq fun K28 hK28 => ?_
          refine AW.regionO (by rfl) ?_
          refine ao_q (v := (.sl (List.map eCell p0))) go0 rfl (aq_mv rfl) ?_
          refine ao_q (v := (.ptr 0 0 0 2)) go0 rfl (aq_fap fi58_2 rfl rfl (show 0 + 2 ≤ 3 by decide) rfl) ?_
          refine ao_q (v := (.sl (List.map eI p1.fields))) go0 rfl (aq_ldp ti23 rfl rfl rfl rfl) ?_
          refine ao_q (v := (i64 i20)) go0 rfl (aq_mv rfl) ?_
          obtain ⟨c29, gc29, h1⟩ := Sh.bind_some h1
          refine ao_q (v := (.iptr (eI c29) 0)) go0 rfl (aq_ixs ei23 rfl rfl gc29 rfl) ?_
          refine ao_q (v := (i64 c29)) go0 rfl (aq_ldi ti3 rfl rfl) ?_
          obtain ⟨q30, gq30, h1⟩ := Sh.bind_some h1
          refine ao_call (v' := (.bool q30)) (st' := [⟨0, 58, 3, [[(i64 p1.count), (i64 p1.tag), (.sl (List.map eI p1.fields))]]⟩]) go0 hb43 (spec_isWord_ok gq30) rfl rfl trivial rfl rfl ?_
          refine ao_q (v := (.bool (!q30))) go0 rfl (aq_not rfl) ?_
          refine AO.done (hK28 _ ?_)
          refine AW.cond' (b := !q30) rfl (fun b31 => ?_) (fun b31 => ?_)
          · replace h1 := Sh.ite_t b31 h1
            have b32 : q30 = false := by simpa using b31
            refine AW.seq fun K33 hK33 => ?_
            refine AW.regionO (by rfl) ?_
            refine ao_q (v := (.bool false)) go0 rfl (aq_as rfl) ?_
            refine AO.done (hK33 _ ?_)
            replace h1 := Sh.some_eq h1
            subst o21
            try dsimp only [id] at h0
            replace h0 := Sh.some_eq h0
            subst r
            exact AW.ret (Exists.intro _ (And.intro ((Wk.permk (L := [(4, (.bool false))]) (st' := []) (st1 := []) [] rfl .nil (by decide) rfl rfl .nil ⟨.rfl, trivial⟩).trans (Wk.to (L := [(4, (.bool false))]) ⟨.rfl, trivial⟩)) (And.intro rfl rfl)))
          · replace h1 := Sh.ite_f b31 h1
            have b34 : q30 = true := by simpa using b31
            refine AW.skip (hK27 _ ?_)
            refine AW.regionO (by rfl) ?_
            refine ao_q (v := (i64 i20)) go0 rfl (aq_mv rfl) ?_
            refine ao_q (v := (i64 (Sh.w (i20 + 1)))) go0 rfl (aq_add rfl rfl) ?_
            refine ao_q (v := (i64 (Sh.w (i20 + 1)))) go0 rfl (aq_as rfl) ?_
            exact AO.done (Exists.intro (Sh.w (i20 + 1)) (And.intro h1 (Wk.to (L := [(0, (.sl (List.map eCell p0))), (3, (.ptr 0 0 0 0)), (5, (i64 (Sh.w (i20 + 1))))]) ⟨.rfl, .rfl, .rfl, trivial⟩)))
        · replace h1 := Sh.ite_f b26 h1
          exact AW.exit (M21 () (Sh.some_eq h1).symm _ (Wk.to (L := [(3, (.ptr 0 0 0 0))]) ⟨.rfl, trivial⟩))
  refine AW.regionO (by rfl) ?_
  refine ao_q (v := (.ptr 0 0 0 2)) go0 rfl (aq_fap fi58_2 rfl rfl (show 0 + 2 ≤ 3 by decide) rfl) ?_
  refine ao_q (v := (.sl (List.map eI p1.fields))) go0 rfl (aq_ldp ti23 rfl rfl rfl rfl) ?_
  refine ao_q (v := (i64 (Sh.len p1.fields))) go0 rfl (aq_lens sl23 rfl) ?_
  refine ao_q (v := (.bool (decide (3 < (Sh.len p1.fields))))) go0 rfl (aq_gt rfl rfl) ?_
  refine ao_q (v := (.bool (decide (3 < (Sh.len p1.fields))))) go0 rfl (aq_mv rfl) ?_
  rcases Sh.ite_some h1 with ⟨b35, h1⟩ | ⟨b35, h1⟩
  · skip
    refine ao_skip rfl rfl b35 ?_
    refine ao_skip rfl rfl b35 ?_
    refine ao_skip rfl rfl b35 ?_
    refine ao_skip rfl rfl b35 ?_
    refine ao_q (v := (.bool true)) go0 rfl (aq_pkt rfl b35 rfl) ?_
    exact AO.done (M5 true (Sh.some_eq h1).symm _ (Wk.to (L := [(0, (.sl (List.map eCell p0))), (3, (.ptr 0 0 0 0)), (15, (.bool true))]) ⟨.rfl, .rfl, .rfl, trivial⟩))
  · skip
    refine ao_q (v := (.ptr 0 0 0 0)) (go1 rfl rfl b35) rfl (aq_fap fi58_0 rfl rfl (show 0 + 0 ≤ 3 by decide) rfl) ?_
    refine ao_q (v := (i64 p1.count)) (go1 rfl rfl b35) rfl (aq_ldp ti3 rfl rfl rfl rfl) ?_
    obtain ⟨q36, gq36, h1⟩ := Sh.bind_some h1
    refine ao_call (v' := (.bool q36)) (st' := [⟨0, 58, 3, [[(i64 p1.count), (i64 p1.tag), (.sl (List.map eI p1.fields))]]⟩]) (go1 rfl rfl b35) hb57 (spec_inRange_ok gq36) rfl rfl trivial rfl rfl ?_
    refine ao_q (v := (.bool (!q36))) (go1 rfl rfl b35) rfl (aq_not rfl) ?_
    refine ao_q (v := (.bool (!q36))) go0 rfl (aq_pkf rfl b35 rfl) ?_
    exact AO.done (M5 (!q36) (Sh.some_eq h1).symm _ (Wk.to (L := [(0, (.sl (List.map eCell p0))), (3, (.ptr 0 0 0 0)), (15, (.bool (!q36)))]) ⟨.rfl, .rfl, .rfl, trivial⟩))

set_option maxRecDepth 100000 in
set_option maxHeartbeats 4000000 in
theorem spec_refsOf_ok {N : Nat} {p0 : (List Cell)} {r : (List Int)} (h0 : spec_refsOf N p0 = some r) : ACalls Try.prog 51 [(.sl (List.map eCell p0))] [] (fun v st => v = (.own 0 0 (List.length r)) ∧ st = [⟨0, 3, 1, List.map eI r⟩]) := by
  unfold spec_refsOf at h0
  refine ACalls.intro Try.func51 rfl (by show 1 ≤ 54; decide) ?_
  show AW _ 0 _ (aret _ 0 Try.f51 _) ⟨54, _, _⟩
  refine AW.weaken (Wk.to (L := [(0, (.sl (List.map eCell p0)))]) ⟨.rfl, trivial⟩) ?_
  refine AW.seq fun K1 hK1 => ?_
  refine AW.regionO (by rfl) ?_
  refine ao_q (v := .zc) go0 rfl (aq_as rfl) ?_
  refine AO.done (hK1 _ ?_)
  refine AW.seq fun K2 hK2 => ?_
  refine AW.regionO (by rfl) ?_
  refine ao_q (v := (.sl (List.map eCell p0))) go0 rfl (aq_mv rfl) ?_
  refine ao_q (v := (i64 (Sh.len p0))) go0 rfl (aq_lens sl26 rfl) ?_
  obtain ⟨l3, gl3, h0⟩ := Sh.bind_some h0
  refine ao_make (m := 0) (st' := [⟨0, 3, 1, List.map eI l3⟩]) (enc := eI) (u := 0) go0 ei23 rfl rfl rfl gl3 rfl rfl ?_
  refine ao_q (v := (.own 0 0 (List.length l3))) go0 rfl (aq_as rfl) ?_
  refine AO.done (hK2 _ ?_)
  refine AW.seq fun K4 hK4 => ?_
  refine AW.seq fun K5 hK5 => ?_
  refine AW.regionO (by rfl) ?_
  refine ao_q (v := (i64 0)) go0 rfl (aq_as rfl) ?_
  refine AO.done (hK5 _ ?_)
  obtain ⟨o9, h1, h0⟩ := Sh.bind_some h0
  have M9 : ∀ (l8 : (List Int)), o9 = l8 → ∀ s, Wk 0 s ⟨54, envL [(3, (.own 0 0 (List.length l8)))], [⟨0, 3, 1, List.map eI l8⟩]⟩ → K4 s := by
    intro l8 hq s hw
    subst o9
    try dsimp only at h0
    refine hK4 _ (AW.weaken hw ?_)
    refine AW.seq fun K10 hK10 => ?_
    refine AW.regionO (by rfl) ?_
    refine ao_q (v := (.own 0 0 (List.length l8))) go0 rfl (aq_mv rfl) ?_
    refine ao_q (v := (.own 0 0 (List.length l8))) go0 rfl (aq_as rfl) ?_
    refine AO.done (hK10 _ ?_)
    replace h0 := Sh.some_eq h0
    subst r
    exact AW.ret (Exists.intro _ (And.intro (Wk.to (L := [(2, (.own 0 0 (List.length l8)))]) ⟨.rfl, trivial⟩) (And.intro rfl rfl)))
  refine AW.block (AW.loopF (σ := Int × (List Int)) (fun n v => spec_refsOf_L1 N p0 n v.1 v.2 = some o9) (fun (i6, l7) => ⟨54, envL [(0, (.sl (List.map eCell p0))), (3, (.own 0 0 (List.length l7))), (4, (i64 i6))], [⟨0, 3, 1, List.map eI l7⟩]⟩) N (0, l3) h1 (Wk.to (L := [(0, (.sl (List.map eCell p0))), (3, (.own 0 0 (List.length l3))), (4, (i64 0))]) ⟨.rfl, .rfl, .rfl, trivial⟩) (fun _ hv => by rw [spec_refsOf_L1] at hv; cases hv) ?_)
  rintro n ⟨i6, l7⟩ h1
  try dsimp only at h1 ⊢
  rw [spec_refsOf_L1] at h1
  refine AW.seq fun K11 hK11 => ?_
  refine AW.seq fun K12 hK12 => ?_
  refine AW.regionO (by rfl) ?_
  refine ao_q (v := (i64 i6)) go0 rfl (aq_mv rfl) ?_
  refine ao_q (v := (.sl (List.map eCell p0))) go0 rfl (aq_mv rfl) ?_
  refine ao_q (v := (i64 (Sh.len p0))) go0 rfl (aq_lens sl26 rfl) ?_
  refine ao_q (v := (.bool (decide (i6 < (Sh.len p0))))) go0 rfl (aq_lt rfl rfl) ?_
  refine AO.done (hK12 _ ?_)
  refine AW.cond' (b := decide (i6 < (Sh.len p0))) rfl (fun b13 => ?_) (fun b13 => ?_)
  · replace h1 := Sh.ite_t b13 h1
    refine AW.skip (hK11 _ ?_)
    refine AW.seq fun K14 hK14 => ?_
    refine AW.block ?_
    refine AW.seq fun K15 hK15 => ?_
    refine AW.regionO (by rfl) ?_
    refine ao_q (v := (i64 0)) go0 rfl (aq_as rfl) ?_
    refine AO.done (hK15 _ ?_)
    obtain ⟨o19, h2, h1⟩ := Sh.bind_some h1
    have M19 : ∀ (l18 : (List Int)), o19 = l18 → ∀ s, Wk 0 s ⟨54, envL [(0, (.sl (List.map eCell p0))), (3, (.own 0 0 (List.length l18))), (4, (i64 i6))], [⟨0, 3, 1, List.map eI l18⟩]⟩ → K14 s := by
      intro l18 hq s hw
      subst o19
      try dsimp only at h1
      refine hK14 _ (AW.weaken hw ?_)
      refine AW.regionO (by rfl) ?_
      refine ao_q (v := (i64 i6)) go0 rfl (aq_mv rfl) ?_
      refine ao_q (v := (i64 (Sh.w (i6 + 1)))) go0 rfl (aq_add rfl rfl) ?_
      refine ao_q (v := (i64 (Sh.w (i6 + 1)))) go0 rfl (aq_as rfl) ?_
      exact AO.done (Exists.intro (Sh.w (i6 + 1), l18) (And.intro h1 (Wk.to (L := [(0, (.sl (List.map eCell p0))), (3, (.own 0 0 (List.length l18))), (4, (i64 (Sh.w (i6 + 1))))]) ⟨.rfl, .rfl, .rfl, trivial⟩)))
    refine AW.block (AW.loopF (σ := Int × (List Int)) (fun n v => spec_refsOf_L2 i6 p0 n v.1 v.2 = some o19) (fun (k16, l17) => ⟨54, envL [(0, (.sl (List.map eCell p0))), (3, (.own 0 0 (List.length l17))), (4, (i64 i6)), (5, (i64 k16))], [⟨0, 3, 1, List.map eI l17⟩]⟩) N (0, l7) h2 (Wk.to (L := [(0, (.sl (List.map eCell p0))), (3, (.own 0 0 (List.length l7))), (4, (i64 i6)), (5, (i64 0))]) ⟨.rfl, .rfl, .rfl, .rfl, trivial⟩) (fun _ hv => by rw [spec_refsOf_L2] at hv; cases hv) ?_)
    rintro n ⟨k16, l17⟩ h2
    try dsimp only at h2 ⊢
    rw [spec_refsOf_L2] at h2
    refine AW.seq fun K20 hK20 => ?_
    refine AW.seq fun K21 hK21 => ?_
    refine AW.regionO (by rfl) ?_
    refine ao_q (v := (i64 k16)) go0 rfl (aq_mv rfl) ?_
    refine ao_q (v := (.sl (List.map eCell p0))) go0 rfl (aq_mv rfl) ?_
    refine ao_q (v := (i64 i6)) go0 rfl (aq_mv rfl) ?_
    obtain ⟨c22, gc22, h2⟩ := Sh.bind_some h2
    refine ao_q (v := (.iptr (eCell c22) 0)) go0 rfl (aq_ixs ei26 rfl rfl gc22 rfl) ?_
    refine ao_q (v := (.iptr (eCell c22) 2)) go0 rfl (aq_fai fi58_2 rfl rfl) ?_
    refine ao_q (v := (.sl (List.map eI c22.fields))) go0 rfl (aq_ldi ti23 rfl rfl) ?_
    refine ao_q (v := (i64 (Sh.len c22.fields))) go0 rfl (aq_lens sl23 rfl) ?_
    refine ao_q (v := (.bool (decide (k16 < (Sh.len c22.fields))))) go0 rfl (aq_lt rfl rfl) ?_
    refine AO.done (hK21 _ ?_)
    refine AW.cond' (b := decide (k16 < (Sh.len c22.fields))) rfl (fun b23 => ?_) (fun b23 => ?_)
    · replace h2 := Sh.ite_t b23 h2
      refine AW.skip (hK20 _ ?_)
      refine AW.seq fun K24 hK24 => ?_
      obtain ⟨o26, h3, h2⟩ := Sh.bind_some h2
      have M26 : ∀ (l25 : (List Int)), o26 = l25 → ∀ s, Wk 0 s ⟨54, envL [(0, (.sl (List.map eCell p0))), (3, (.own 0 0 (List.length l25))), (4, (i64 i6)), (5, (i64 k16))], [⟨0, 3, 1, List.map eI l25⟩]⟩ → K24 s := by
        intro l25 hq s hw
        subst o26
        try dsimp only at h2
        refine hK24 _ (AW.weaken hw ?_)
        refine AW.regionO (by rfl) ?_
        refine ao_q (v := (i64 k16)) go0 rfl (aq_mv rfl) ?_
        refine ao_q (v := (i64 (Sh.w (k16 + 1)))) go0 rfl (aq_add rfl rfl) ?_
        refine ao_q (v := (i64 (Sh.w (k16 + 1)))) go0 rfl (aq_as rfl) ?_
        exact AO.done (Exists.intro (Sh.w (k16 + 1), l25) (And.intro h2 (Wk.to (L := [(0, (.sl (List.map eCell p0))), (3, (.own 0 0 (List.length l25))), (4, (i64 i6)), (5, (i64 (Sh.w (k16 + 1))))]) ⟨.rfl, .rfl, .rfl, .rfl, trivial⟩)))
      refine AW.block ?_
      refine AW.seq fun K27 hK27 => ?_
      refine AW.regionO (by rfl) ?_
      refine ao_q (v := (.sl (List.map eCell p0))) go0 rfl (aq_mv rfl) ?_
      refine ao_q (v := (.sl (List.map eCell p0))) go0 rfl (aq_mv rfl) ?_
      refine ao_q (v := (i64 i6)) go0 rfl (aq_mv rfl) ?_
      refine ao_q (v := (.iptr (eCell c22) 0)) go0 rfl (aq_ixs ei26 rfl rfl gc22 rfl) ?_
      refine ao_q (v := (.iptr (eCell c22) 2)) go0 rfl (aq_fai fi58_2 rfl rfl) ?_
      refine ao_q (v := (.sl (List.map eI c22.fields))) go0 rfl (aq_ldi ti23 rfl rfl) ?_
      refine ao_q (v := (i64 k16)) go0 rfl (aq_mv rfl) ?_
      obtain ⟨c28, gc28, h3⟩ := Sh.bind_some h3
      refine ao_q (v := (.iptr (eI c28) 0)) go0 rfl (aq_ixs ei23 rfl rfl gc28 rfl) ?_
      refine ao_q (v := (i64 c28)) go0 rfl (aq_ldi ti3 rfl rfl) ?_
      obtain ⟨q29, gq29, h3⟩ := Sh.bind_some h3
      refine ao_call (v' := (.bool q29)) (st' := [⟨0, 3, 1, List.map eI l17⟩]) go0 hb70 (spec_isLive_ok gq29) rfl rfl trivial rfl rfl ?_
      refine AO.done (hK27 _ ?_)
      refine AW.cond' (b := q29) rfl (fun b30 => ?_) (fun b30 => ?_)
      · replace h3 := Sh.ite_t b30 h3
        refine AW.seq fun K31 hK31 => ?_
        refine AW.regionO (by rfl) ?_
        refine ao_q (v := (.sl (List.map eCell p0))) go0 rfl (aq_mv rfl) ?_
        refine ao_q (v := (i64 i6)) go0 rfl (aq_mv rfl) ?_
        refine ao_q (v := (.iptr (eCell c22) 0)) go0 rfl (aq_ixs ei26 rfl rfl gc22 rfl) ?_
        refine ao_q (v := (.iptr (eCell c22) 2)) go0 rfl (aq_fai fi58_2 rfl rfl) ?_
        refine ao_q (v := (.sl (List.map eI c22.fields))) go0 rfl (aq_ldi ti23 rfl rfl) ?_
        refine ao_q (v := (i64 k16)) go0 rfl (aq_mv rfl) ?_
        refine ao_q (v := (.iptr (eI c28) 0)) go0 rfl (aq_ixs ei23 rfl rfl gc28 rfl) ?_
        refine ao_q (v := (i64 c28)) go0 rfl (aq_ldi ti3 rfl rfl) ?_
        refine ao_q (v := (i64 (Sh.w (c28 - 1000)))) go0 rfl (aq_sub rfl rfl) ?_
        refine ao_q (v := (i64 (Sh.w (c28 - 1000)))) go0 rfl (aq_as rfl) ?_
        refine AO.done (hK31 _ ?_)
        refine AW.regionO (by rfl) ?_
        refine ao_q (v := (.own 0 0 (List.length l17))) go0 rfl (aq_mv rfl) ?_
        refine ao_q (v := (i64 (Sh.w (c28 - 1000)))) go0 rfl (aq_mv rfl) ?_
        refine ao_q (v := (.own 0 0 (List.length l17))) go0 rfl (aq_mv rfl) ?_
        refine ao_q (v := (i64 (Sh.w (c28 - 1000)))) go0 rfl (aq_mv rfl) ?_
        obtain ⟨c32, gc32, h3⟩ := Sh.bind_some h3
        refine ao_q (v := (.ptr 0 0 (Int.toNat (Sh.w (c28 - 1000))) 0)) go0 rfl (aq_ixo ei23 rfl rfl rfl rfl gc32) ?_
        refine ao_q (v := (i64 c32)) go0 rfl (aq_ldp ti3 rfl rfl (map_get gc32) rfl) ?_
        refine ao_q (v := (i64 (Sh.w (c32 + 1)))) go0 rfl (aq_add rfl rfl) ?_
        refine ao_q (v := (.ptr 0 0 (Int.toNat (Sh.w (c28 - 1000))) 0)) go0 rfl (aq_ixo ei23 rfl rfl rfl rfl gc32) ?_
        refine ao_stl (st' := [⟨0, 3, 1, List.map eI (Sh.put l17 (Sh.w (c28 - 1000)) (Sh.w (c32 + 1)))⟩]) (u' := Sh.w (c32 + 1)) go0 ti3 rfl rfl gc32 rfl rfl rfl (show 0 + 1 ≤ 1 by decide) rfl rfl ?_
        exact AO.done (M26 (Sh.put l17 (Sh.w (c28 - 1000)) (Sh.w (c32 + 1))) (Sh.some_eq h3).symm _ (Wk.to (L := [(0, (.sl (List.map eCell p0))), (3, (.own 0 0 (List.length (Sh.put l17 (Sh.w (c28 - 1000)) (Sh.w (c32 + 1)))))), (4, (i64 i6)), (5, (i64 k16))]) ⟨.rfl, (.len (by simp only [Sh.put_len])), .rfl, .rfl, trivial⟩))
      · replace h3 := Sh.ite_f b30 h3
        exact AW.skip (M26 l17 (Sh.some_eq h3).symm _ (Wk.to (L := [(0, (.sl (List.map eCell p0))), (3, (.own 0 0 (List.length l17))), (4, (i64 i6)), (5, (i64 k16))]) ⟨.rfl, .rfl, .rfl, .rfl, trivial⟩))
    · replace h2 := Sh.ite_f b23 h2
      exact AW.exit (M19 l17 (Sh.some_eq h2).symm _ (Wk.to (L := [(0, (.sl (List.map eCell p0))), (3, (.own 0 0 (List.length l17))), (4, (i64 i6))]) ⟨.rfl, .rfl, .rfl, trivial⟩))
  · replace h1 := Sh.ite_f b13 h1
    exact AW.exit (M9 l7 (Sh.some_eq h1).symm _ (Wk.to (L := [(3, (.own 0 0 (List.length l7)))]) ⟨.rfl, trivial⟩))

set_option maxRecDepth 100000 in
set_option maxHeartbeats 4000000 in
theorem spec_allMarked_ok {N : Nat} {p0 : (List Bool)} {p1 : (List Int)} {r : Bool} (h0 : spec_allMarked N p0 p1 = some r) : ACalls Try.prog 93 [(.sl (List.map eB p0)), (.sl (List.map eI p1))] [] (fun v st => v = (.bool r) ∧ st = []) := by
  unfold spec_allMarked at h0
  refine ACalls.intro Try.func93 rfl (by show 2 ≤ 28; decide) ?_
  show AW _ 0 _ (aret _ 0 Try.f93 _) ⟨28, _, _⟩
  refine AW.weaken (Wk.to (L := [(0, (.sl (List.map eB p0))), (1, (.sl (List.map eI p1)))]) ⟨.rfl, .rfl, trivial⟩) ?_
  refine AW.seq fun K1 hK1 => ?_
  refine AW.regionO (by rfl) ?_
  refine ao_q (v := (.bool false)) go0 rfl (aq_as rfl) ?_
  refine AO.done (hK1 _ ?_)
  refine AW.seq fun K2 hK2 => ?_
  refine AW.seq fun K3 hK3 => ?_
  refine AW.regionO (by rfl) ?_
  refine ao_q (v := (i64 0)) go0 rfl (aq_as rfl) ?_
  refine AO.done (hK3 _ ?_)
  obtain ⟨o5, h1, h0⟩ := Sh.cont_some h0
  have M5 : ∀ (_ : Unit), o5 = Sum.inr () → ∀ s, Wk 0 s ⟨28, envL [], []⟩ → K2 s := by
    intro _ hq s hw
    subst o5
    try dsimp only at h0
    refine hK2 _ (AW.weaken hw ?_)
    refine AW.seq fun K6 hK6 => ?_
    refine AW.regionO (by rfl) ?_
    refine ao_q (v := (.bool true)) go0 rfl (aq_as rfl) ?_
    refine AO.done (hK6 _ ?_)
    replace h0 := Sh.some_eq h0
    subst r
    exact AW.ret (Exists.intro _ (And.intro (Wk.to (L := [(4, (.bool true))]) ⟨.rfl, trivial⟩) (And.intro rfl rfl)))
  refine AW.block (AW.loopF (σ := Int) (fun n v => spec_allMarked_L1 p0 p1 n v = some o5) (fun i4 => ⟨28, envL [(0, (.sl (List.map eB p0))), (1, (.sl (List.map eI p1))), (5, (i64 i4))], []⟩) N 0 h1 (Wk.to (L := [(0, (.sl (List.map eB p0))), (1, (.sl (List.map eI p1))), (5, (i64 0))]) ⟨.rfl, .rfl, .rfl, trivial⟩) (fun _ hv => by rw [spec_allMarked_L1] at hv; cases hv) ?_)
  rintro n i4 h1
  try dsimp only at h1 ⊢
  rw [spec_allMarked_L1] at h1
  refine AW.seq fun K7 hK7 => ?_
  refine AW.seq fun K8 hK8 => ?_
  refine AW.regionO (by rfl) ?_
  refine ao_q (v := (i64 i4)) go0 rfl (aq_mv rfl) ?_
  refine ao_q (v := (.sl (List.map eI p1))) go0 rfl (aq_mv rfl) ?_
  refine ao_q (v := (i64 (Sh.len p1))) go0 rfl (aq_lens sl23 rfl) ?_
  refine ao_q (v := (.bool (decide (i4 < (Sh.len p1))))) go0 rfl (aq_lt rfl rfl) ?_
  refine AO.done (hK8 _ ?_)
  refine AW.cond' (b := decide (i4 < (Sh.len p1))) rfl (fun b9 => ?_) (fun b9 => ?_)
  · replace h1 := Sh.ite_t b9 h1
    refine AW.skip (hK7 _ ?_)
    refine AW.seq fun K10 hK10 => ?_
    refine AW.block ?_
    refine AW.seq fun K11 hK11 => ?_
    obtain ⟨o13, h2, h1⟩ := Sh.bind_some h1
    have M13 : ∀ (t12 : Bool), o13 = t12 → ∀ s, Wk 0 s ⟨28, envL [(0, (.sl (List.map eB p0))), (1, (.sl (List.map eI p1))), (5, (i64 i4)), (27, (.bool t12))], []⟩ → K11 s := by
      intro t12 hq s hw
      subst o13
      try dsimp only at h1
      refine hK11 _ (AW.weaken hw ?_)
      refine AW.cond' (b := t12) rfl (fun b14 => ?_) (fun b14 => ?_)
      · replace h1 := Sh.ite_t b14 h1
        refine AW.seq fun K15 hK15 => ?_
        refine AW.regionO (by rfl) ?_
        refine ao_q (v := (.bool false)) go0 rfl (aq_as rfl) ?_
        refine AO.done (hK15 _ ?_)
        replace h1 := Sh.some_eq h1
        subst o5
        try dsimp only [id] at h0
        replace h0 := Sh.some_eq h0
        subst r
        exact AW.ret (Exists.intro _ (And.intro (Wk.to (L := [(4, (.bool false))]) ⟨.rfl, trivial⟩) (And.intro rfl rfl)))
      · replace h1 := Sh.ite_f b14 h1
        refine AW.skip (hK10 _ ?_)
        refine AW.regionO (by rfl) ?_
        refine ao_q (v := (i64 i4)) go0 rfl (aq_mv rfl) ?_
        refine ao_q (v := (i64 (Sh.w (i4 + 1)))) go0 rfl (aq_add rfl rfl) ?_
        refine ao_q (v := (i64 (Sh.w (i4 + 1)))) go0 rfl (aq_as rfl) ?_
        exact AO.done (Exists.intro (Sh.w (i4 + 1)) (And.intro h1 (Wk.to (L := [(0, (.sl (List.map eB p0))), (1, (.sl (List.map eI p1))), (5, (i64 (Sh.w (i4 + 1))))]) ⟨.rfl, .rfl, .rfl, trivial⟩)))
    refine AW.regionO (by rfl) ?_
    refine ao_q (v := (.sl (List.map eI p1))) go0 rfl (aq_mv rfl) ?_
    refine ao_q (v := (i64 i4)) go0 rfl (aq_mv rfl) ?_
    obtain ⟨c16, gc16, h2⟩ := Sh.bind_some h2
    refine ao_q (v := (.iptr (eI c16) 0)) go0 rfl (aq_ixs ei23 rfl rfl gc16 rfl) ?_
    refine ao_q (v := (i64 c16)) go0 rfl (aq_ldi ti3 rfl rfl) ?_
    obtain ⟨q17, gq17, h2⟩ := Sh.bind_some h2
    refine ao_call (v' := (.bool q17)) (st' := []) go0 hb45 (spec_isPointer_ok gq17) rfl rfl trivial rfl rfl ?_
    refine ao_q (v := (.bool q17)) go0 rfl (aq_mv rfl) ?_
    rcases Sh.ite_some h2 with ⟨b18, h2⟩ | ⟨b18, h2⟩
    · skip
      refine ao_q (v := (.sl (List.map eB p0))) (go1 rfl rfl b18) rfl (aq_mv rfl) ?_
      refine ao_q (v := (.sl (List.map eI p1))) (go1 rfl rfl b18) rfl (aq_mv rfl) ?_
      refine ao_q (v := (i64 i4)) (go1 rfl rfl b18) rfl (aq_mv rfl) ?_
      refine ao_q (v := (.iptr (eI c16) 0)) (go1 rfl rfl b18) rfl (aq_ixs ei23 rfl rfl gc16 rfl) ?_
      refine ao_q (v := (i64 c16)) (go1 rfl rfl b18) rfl (aq_ldi ti3 rfl rfl) ?_
      refine ao_q (v := (i64 (Sh.w (c16 - 1000)))) (go1 rfl rfl b18) rfl (aq_sub rfl rfl) ?_
      obtain ⟨c19, gc19, h2⟩ := Sh.bind_some h2
      refine ao_q (v := (.iptr (eB c19) 0)) (go1 rfl rfl b18) rfl (aq_ixs ei60 rfl rfl gc19 rfl) ?_
      refine ao_q (v := (.bool c19)) (go1 rfl rfl b18) rfl (aq_ldi ti4 rfl rfl) ?_
      refine ao_q (v := (.bool (!c19))) (go1 rfl rfl b18) rfl (aq_not rfl) ?_
      refine ao_q (v := (.bool (!c19))) go0 rfl (aq_pkt rfl b18 rfl) ?_
      exact AO.done (M13 (!c19) (Sh.some_eq h2).symm _ (Wk.to (L := [(0, (.sl (List.map eB p0))), (1, (.sl (List.map eI p1))), (5, (i64 i4)), (27, (.bool (!c19)))]) ⟨.rfl, .rfl, .rfl, .rfl, trivial⟩))
    · skip
      refine ao_skip rfl rfl b18 ?_
      refine ao_skip rfl rfl b18 ?_
      refine ao_skip rfl rfl b18 ?_
      refine ao_skip rfl rfl b18 ?_
      refine ao_skip rfl rfl b18 ?_
      refine ao_skip rfl rfl b18 ?_
      refine ao_skip rfl rfl b18 ?_
      refine ao_skip rfl rfl b18 ?_
      refine ao_skip rfl rfl b18 ?_
      refine ao_q (v := (.bool false)) go0 rfl (aq_pkf rfl b18 rfl) ?_
      exact AO.done (M13 false (Sh.some_eq h2).symm _ (Wk.to (L := [(0, (.sl (List.map eB p0))), (1, (.sl (List.map eI p1))), (5, (i64 i4)), (27, (.bool false))]) ⟨.rfl, .rfl, .rfl, .rfl, trivial⟩))
  · replace h1 := Sh.ite_f b9 h1
    exact AW.exit (M5 () (Sh.some_eq h1).symm _ (Wk.to (L := []) trivial))

set_option maxRecDepth 100000 in
set_option maxHeartbeats 4000000 in
theorem spec_isAcyclic_ok {N : Nat} {p0 : (List Cell)} {r : Bool} (h0 : spec_isAcyclic N p0 = some r) : ACalls Try.prog 68 [(.sl (List.map eCell p0))] [] (fun v st => v = (.bool r) ∧ st = []) := by
  unfold spec_isAcyclic at h0
  refine ACalls.intro Try.func68 rfl (by show 1 ≤ 40; decide) ?_
  show AW _ 0 _ (aret _ 0 Try.f68 _) ⟨40, _, _⟩
  refine AW.weaken (Wk.to (L := [(0, (.sl (List.map eCell p0)))]) ⟨.rfl, trivial⟩) ?_
  refine AW.seq fun K1 hK1 => ?_
  refine AW.regionO (by rfl) ?_
  refine ao_q (v := (.bool false)) go0 rfl (aq_as rfl) ?_
  refine AO.done (hK1 _ ?_)
  refine AW.seq fun K2 hK2 => ?_
  refine AW.regionO (by rfl) ?_
  refine ao_q (v := (.sl (List.map eCell p0))) go0 rfl (aq_mv rfl) ?_
  refine ao_q (v := (i64 (Sh.len p0))) go0 rfl (aq_lens sl26 rfl) ?_
  obtain ⟨l3, gl3, h0⟩ := Sh.bind_some h0
  refine ao_make (m := 0) (st' := [⟨0, 4, 1, List.map eB l3⟩]) (enc := eB) (u := false) go0 ei60 rfl rfl rfl gl3 rfl rfl ?_
  refine ao_q (v := (.own 0 0 (List.length l3))) go0 rfl (aq_as rfl) ?_
  refine AO.done (hK2 _ ?_)
  refine AW.seq fun K4 hK4 => ?_
  refine AW.regionO (by rfl) ?_
  refine ao_q (v := (i64 0)) go0 rfl (aq_as rfl) ?_
  refine AO.done (hK4 _ ?_)
  refine AW.seq fun K5 hK5 => ?_
  refine AW.seq fun K6 hK6 => ?_
  refine AW.regionO (by rfl) ?_
  refine ao_q (v := (.bool true)) go0 rfl (aq_as rfl) ?_
  refine AO.done (hK6 _ ?_)
  obtain ⟨o11, h1, h0⟩ := Sh.bind_some h0
  have M11 : ∀ (many10 : Int), o11 = many10 → ∀ s, Wk 0 s ⟨40, envL [(0, (.sl (List.map eCell p0))), (4, (i64 many10))], []⟩ → K5 s := by
    intro many10 hq s hw
    subst o11
    try dsimp only at h0
    refine hK5 _ (AW.weaken hw ?_)
    refine AW.seq fun K12 hK12 => ?_
    refine AW.regionO (by rfl) ?_
    refine ao_q (v := (i64 many10)) go0 rfl (aq_mv rfl) ?_
    refine ao_q (v := (.sl (List.map eCell p0))) go0 rfl (aq_mv rfl) ?_
    refine ao_q (v := (i64 (Sh.len p0))) go0 rfl (aq_lens sl26 rfl) ?_
    refine ao_q (v := (.bool (decide (many10 = (Sh.len p0))))) go0 rfl (aq_eq rfl rfl) ?_
    refine ao_q (v := (.bool (decide (many10 = (Sh.len p0))))) go0 rfl (aq_as rfl) ?_
    refine AO.done (hK12 _ ?_)
    replace h0 := Sh.some_eq h0
    subst r
    exact AW.ret (Exists.intro _ (And.intro (Wk.to (L := [(2, (.bool (decide (many10 = (Sh.len p0)))))]) ⟨.rfl, trivial⟩) (And.intro rfl rfl)))
  refine AW.block (AW.loopF (σ := Int × Bool × (List Bool)) (fun n v => spec_isAcyclic_L1 N p0 n v.1 v.2.1 v.2.2 = some o11) (fun (many7, more8, l9) => ⟨40, envL [(0, (.sl (List.map eCell p0))), (3, (.own 0 0 (List.length l9))), (4, (i64 many7)), (5, (.bool more8))], [⟨0, 4, 1, List.map eB l9⟩]⟩) N (0, true, l3) h1 (Wk.to (L := [(0, (.sl (List.map eCell p0))), (3, (.own 0 0 (List.length l3))), (4, (i64 0)), (5, (.bool true))]) ⟨.rfl, .rfl, .rfl, .rfl, trivial⟩) (fun _ hv => by rw [spec_isAcyclic_L1] at hv; cases hv) ?_)
  rintro n ⟨many7, more8, l9⟩ h1
  try dsimp only at h1 ⊢
  rw [spec_isAcyclic_L1] at h1
  refine AW.seq fun K13 hK13 => ?_
  refine AW.seq fun K14 hK14 => ?_
  refine AW.regionO (by rfl) ?_
  refine ao_q (v := (.bool more8)) go0 rfl (aq_mv rfl) ?_
  refine AO.done (hK14 _ ?_)
  refine AW.cond' (b := more8) rfl (fun b15 => ?_) (fun b15 => ?_)
  · replace h1 := Sh.ite_t b15 h1
    refine AW.skip (hK13 _ ?_)
    refine AW.block ?_
    refine AW.seq fun K16 hK16 => ?_
    refine AW.regionO (by rfl) ?_
    refine ao_q (v := (.bool false)) go0 rfl (aq_as rfl) ?_
    refine AO.done (hK16 _ ?_)
    refine AW.seq fun K17 hK17 => ?_
    refine AW.regionO (by rfl) ?_
    refine ao_q (v := (i64 0)) go0 rfl (aq_as rfl) ?_
    refine AO.done (hK17 _ ?_)
    obtain ⟨o25, h2, h1⟩ := Sh.bind_some h1
    have M25 : ∀ (many22 : Int) (more23 : Bool) (l24 : (List Bool)), o25 = (many22, more23, l24) → ∀ s, Wk 0 s ⟨40, envL [(0, (.sl (List.map eCell p0))), (3, (.own 0 0 (List.length l24))), (4, (i64 many22)), (5, (.bool more23))], [⟨0, 4, 1, List.map eB l24⟩]⟩ → (∃ v, spec_isAcyclic_L1 N p0 n v.1 v.2.1 v.2.2 = some o11 ∧ Wk 0 s ((fun (many7, more8, l9) => ⟨40, envL [(0, (.sl (List.map eCell p0))), (3, (.own 0 0 (List.length l9))), (4, (i64 many7)), (5, (.bool more8))], [⟨0, 4, 1, List.map eB l9⟩]⟩) v)) := by
      intro many22 more23 l24 hq s hw
      subst o25
      try dsimp only at h1
      exact Exists.intro (many22, more23, l24) (And.intro h1 (hw.trans (Wk.to (L := [(0, (.sl (List.map eCell p0))), (3, (.own 0 0 (List.length l24))), (4, (i64 many22)), (5, (.bool more23))]) ⟨.rfl, .rfl, .rfl, .rfl, trivial⟩)))
    refine AW.block (AW.loopF (σ := Int × Bool × Int × (List Bool)) (fun n v => spec_isAcyclic_L2 N p0 n v.1 v.2.1 v.2.2.1 v.2.2.2 = some o25) (fun (many18, more19, i20, l21) => ⟨40, envL [(0, (.sl (List.map eCell p0))), (3, (.own 0 0 (List.length l21))), (4, (i64 many18)), (5, (.bool more19)), (6, (i64 i20))], [⟨0, 4, 1, List.map eB l21⟩]⟩) N (many7, false, 0, l9) h2 (Wk.to (L := [(0, (.sl (List.map eCell p0))), (3, (.own 0 0 (List.length l9))), (4, (i64 many7)), (5, (.bool false)), (6, (i64 0))]) ⟨.rfl, .rfl, .rfl, .rfl, .rfl, trivial⟩) (fun _ hv => by rw [spec_isAcyclic_L2] at hv; cases hv) ?_)
    rintro n ⟨many18, more19, i20, l21⟩ h2
    try dsimp only at h2 ⊢
    rw [spec_isAcyclic_L2] at h2
    refine AW.seq fun K26 hK26 => ?_
    refine AW.seq fun K27 hK27 => ?_
    refine AW.regionO (by rfl) ?_
    refine ao_q (v := (i64 i20)) go0 rfl (aq_mv rfl) ?_
    refine ao_q (v := (.sl (List.map eCell p0))) go0 rfl (aq_mv rfl) ?_
    refine ao_q (v := (i64 (Sh.len p0))) go0 rfl (aq_lens sl26 rfl) ?_
    refine ao_q (v := (.bool (decide (i20 < (Sh.len p0))))) go0 rfl (aq_lt rfl rfl) ?_
    refine AO.done (hK27 _ ?_)
    refine AW.cond' (b := decide (i20 < (Sh.len p0))) rfl (fun b28 => ?_) (fun b28 => ?_)
    · replace h2 := Sh.ite_t b28 h2
      refine AW.skip (hK26 _ ?_)
      refine AW.seq fun K29 hK29 => ?_
      obtain ⟨o33, h3, h2⟩ := Sh.bind_some h2
      have M33 : ∀ (many30 : Int) (more31 : Bool) (l32 : (List Bool)), o33 = (many30, more31, l32) → ∀ s, Wk 0 s ⟨40, envL [(0, (.sl (List.map eCell p0))), (3, (.own 0 0 (List.length l32))), (4, (i64 many30)), (5, (.bool more31)), (6, (i64 i20))], [⟨0, 4, 1, List.map eB l32⟩]⟩ → K29 s := by
        intro many30 more31 l32 hq s hw
        subst o33
        try dsimp only at h2
        refine hK29 _ (AW.weaken hw ?_)
        refine AW.regionO (by rfl) ?_
        refine ao_q (v := (i64 i20)) go0 rfl (aq_mv rfl) ?_
        refine ao_q (v := (i64 (Sh.w (i20 + 1)))) go0 rfl (aq_add rfl rfl) ?_
        refine ao_q (v := (i64 (Sh.w (i20 + 1)))) go0 rfl (aq_as rfl) ?_
        exact AO.done (Exists.intro (many30, more31, Sh.w (i20 + 1), l32) (And.intro h2 (Wk.to (L := [(0, (.sl (List.map eCell p0))), (3, (.own 0 0 (List.length l32))), (4, (i64 many30)), (5, (.bool more31)), (6, (i64 (Sh.w (i20 + 1))))]) ⟨.rfl, .rfl, .rfl, .rfl, .rfl, trivial⟩)))
      refine AW.block ?_
      refine AW.seq fun K34 hK34 => ?_
      obtain ⟨o36, h4, h3⟩ := Sh.bind_some h3
      have M36 : ∀ (t35 : Bool), o36 = t35 → ∀ s, Wk 0 s ⟨40, envL [(0, (.sl (List.map eCell p0))), (3, (.own 0 0 (List.length l21))), (4, (i64 many18)), (5, (.bool more19)), (6, (i64 i20)), (30, (.bool t35))], [⟨0, 4, 1, List.map eB l21⟩]⟩ → K34 s := by
        intro t35 hq s hw
        subst o36
        try dsimp only at h3
        refine hK34 _ (AW.weaken hw ?_)
        refine AW.cond' (b := t35) rfl (fun b37 => ?_) (fun b37 => ?_)
        · replace h3 := Sh.ite_t b37 h3
          refine AW.seq fun K38 hK38 => ?_
          refine AW.regionO (by rfl) ?_
          refine ao_q (v := (.own 0 0 (List.length l21))) go0 rfl (aq_mv rfl) ?_
          refine ao_q (v := (i64 i20)) go0 rfl (aq_mv rfl) ?_
          obtain ⟨c39, gc39, h3⟩ := Sh.bind_some h3
          refine ao_q (v := (.ptr 0 0 (Int.toNat i20) 0)) go0 rfl (aq_ixo ei60 rfl rfl rfl rfl gc39) ?_
          refine ao_stl (st' := [⟨0, 4, 1, List.map eB (Sh.put l21 i20 true)⟩]) (u' := true) go0 ti4 rfl rfl gc39 rfl rfl rfl (show 0 + 1 ≤ 1 by decide) rfl rfl ?_
          refine AO.done (hK38 _ ?_)
          refine AW.seq fun K40 hK40 => ?_
          refine AW.regionO (by rfl) ?_
          refine ao_q (v := (i64 many18)) go0 rfl (aq_mv rfl) ?_
          refine ao_q (v := (i64 (Sh.w (many18 + 1)))) go0 rfl (aq_add rfl rfl) ?_
          refine ao_q (v := (i64 (Sh.w (many18 + 1)))) go0 rfl (aq_as rfl) ?_
          refine AO.done (hK40 _ ?_)
          refine AW.regionO (by rfl) ?_
          refine ao_q (v := (.bool true)) go0 rfl (aq_as rfl) ?_
          exact AO.done (M33 (Sh.w (many18 + 1)) true (Sh.put l21 i20 true) (Sh.some_eq h3).symm _ (Wk.to (L := [(0, (.sl (List.map eCell p0))), (3, (.own 0 0 (List.length (Sh.put l21 i20 true)))), (4, (i64 (Sh.w (many18 + 1)))), (5, (.bool true)), (6, (i64 i20))]) ⟨.rfl, (.len (by simp only [Sh.put_len])), .rfl, .rfl, .rfl, trivial⟩))
        · replace h3 := Sh.ite_f b37 h3
          exact AW.skip (M33 many18 more19 l21 (Sh.some_eq h3).symm _ (Wk.to (L := [(0, (.sl (List.map eCell p0))), (3, (.own 0 0 (List.length l21))), (4, (i64 many18)), (5, (.bool more19)), (6, (i64 i20))]) ⟨.rfl, .rfl, .rfl, .rfl, .rfl, trivial⟩))
      refine AW.regionO (by rfl) ?_
      refine ao_q (v := (.own 0 0 (List.length l21))) go0 rfl (aq_mv rfl) ?_
      refine ao_q (v := (i64 i20)) go0 rfl (aq_mv rfl) ?_
      obtain ⟨c41, gc41, h4⟩ := Sh.bind_some h4
      refine ao_q (v := (.ptr 0 0 (Int.toNat i20) 0)) go0 rfl (aq_ixo ei60 rfl rfl rfl rfl gc41) ?_
      refine ao_q (v := (.bool c41)) go0 rfl (aq_ldp ti4 rfl rfl (map_get gc41) rfl) ?_
      refine ao_q (v := (.bool (!c41))) go0 rfl (aq_not rfl) ?_
      refine ao_q (v := (.bool (!c41))) go0 rfl (aq_mv rfl) ?_
      rcases Sh.ite_some h4 with ⟨b42, h4⟩ | ⟨b42, h4⟩
      · skip
        refine ao_q (v := (.own 0 0 (List.length l21))) (go1 rfl rfl b42) rfl (aq_mv rfl) ?_
        refine ao_q (v := (.sl (List.map eCell p0))) (go1 rfl rfl b42) rfl (aq_mv rfl) ?_
        refine ao_q (v := (i64 i20)) (go1 rfl rfl b42) rfl (aq_mv rfl) ?_
        obtain ⟨c43, gc43, h4⟩ := Sh.bind_some h4
        refine ao_q (v := (.iptr (eCell c43) 0)) (go1 rfl rfl b42) rfl (aq_ixs ei26 rfl rfl gc43 rfl) ?_
        refine ao_q (v := (.iptr (eCell c43) 2)) (go1 rfl rfl b42) rfl (aq_fai fi58_2 rfl rfl) ?_
        refine ao_q (v := (.sl (List.map eI c43.fields))) (go1 rfl rfl b42) rfl (aq_ldi ti23 rfl rfl) ?_
        obtain ⟨q44, gq44, h4⟩ := Sh.bind_some h4
        refine ao_callb (v' := (.bool q44)) (st' := [⟨0, 4, 1, List.map eB l21⟩]) (go1 rfl rfl b42) hb93 (spec_allMarked_ok gq44) rfl (.own rfl rfl (fun _ => rfl) (.val rfl .nil)) rfl trivial rfl rfl ?_
        refine ao_q (v := (.bool q44)) go0 rfl (aq_pkt rfl b42 rfl) ?_
        exact AO.done (M36 q44 (Sh.some_eq h4).symm _ (Wk.to (L := [(0, (.sl (List.map eCell p0))), (3, (.own 0 0 (List.length l21))), (4, (i64 many18)), (5, (.bool more19)), (6, (i64 i20)), (30, (.bool q44))]) ⟨.rfl, .rfl, .rfl, .rfl, .rfl, .rfl, trivial⟩))
      · skip
        refine ao_skip rfl rfl b42 ?_
        refine ao_skip rfl rfl b42 ?_
        refine ao_skip rfl rfl b42 ?_
        refine ao_skip rfl rfl b42 ?_
        refine ao_skip rfl rfl b42 ?_
        refine ao_skip rfl rfl b42 ?_
        refine ao_skip rfl rfl b42 ?_
        refine ao_q (v := (.bool false)) go0 rfl (aq_pkf rfl b42 rfl) ?_
        exact AO.done (M36 false (Sh.some_eq h4).symm _ (Wk.to (L := [(0, (.sl (List.map eCell p0))), (3, (.own 0 0 (List.length l21))), (4, (i64 many18)), (5, (.bool more19)), (6, (i64 i20)), (30, (.bool false))]) ⟨.rfl, .rfl, .rfl, .rfl, .rfl, .rfl, trivial⟩))
    · replace h2 := Sh.ite_f b28 h2
      exact AW.exit (M25 many18 more19 l21 (Sh.some_eq h2).symm _ (Wk.to (L := [(0, (.sl (List.map eCell p0))), (3, (.own 0 0 (List.length l21))), (4, (i64 many18)), (5, (.bool more19))]) ⟨.rfl, .rfl, .rfl, .rfl, trivial⟩))
  · replace h1 := Sh.ite_f b15 h1
    exact AW.exit (M11 many7 (Sh.some_eq h1).symm _ (by refine Wk.trans (Wk.permk (L := [(0, (.sl (List.map eCell p0))), (4, (i64 many7))]) (st' := []) (st1 := []) [] rfl .nil (by decide) rfl rfl .nil ⟨.rfl, .rfl, trivial⟩) ?_; exact Wk.to (L := [(0, (.sl (List.map eCell p0))), (4, (i64 many7))]) ⟨.rfl, .rfl, trivial⟩))

set_option maxRecDepth 100000 in
set_option maxHeartbeats 4000000 in
theorem spec_validHeap_ok {N : Nat} {p0 : (List Cell)} {r : Bool} (h0 : spec_validHeap N p0 = some r) : ACalls Try.prog 35 [(.sl (List.map eCell p0))] [] (fun v st => v = (.bool r) ∧ st = []) := by
  unfold spec_validHeap at h0
  refine ACalls.intro Try.func35 rfl (by show 1 ≤ 60; decide) ?_
  show AW _ 0 _ (aret _ 0 Try.f35 _) ⟨60, _, _⟩
  refine AW.weaken (Wk.to (L := [(0, (.sl (List.map eCell p0)))]) ⟨.rfl, trivial⟩) ?_
  refine AW.seq fun K1 hK1 => ?_
  refine AW.regionO (by rfl) ?_
  refine ao_q (v := (.bool false)) go0 rfl (aq_as rfl) ?_
  refine AO.done (hK1 _ ?_)
  refine AW.seq fun K2 hK2 => ?_
  refine AW.seq fun K3 hK3 => ?_
  obtain ⟨o5, h1, h0⟩ := Sh.bind_some h0
  have M5 : ∀ (t4 : Bool), o5 = t4 → ∀ s, Wk 0 s ⟨60, envL [(0, (.sl (List.map eCell p0))), (18, (.bool t4))], []⟩ → K3 s := by
    intro t4 hq s hw
    subst o5
    try dsimp only at h0
    refine hK3 _ (AW.weaken hw ?_)
    refine AW.cond' (b := t4) rfl (fun b6 => ?_) (fun b6 => ?_)
    · replace h0 := Sh.ite_t b6 h0
      refine AW.seq fun K7 hK7 => ?_
      refine AW.regionO (by rfl) ?_
      refine ao_q (v := (.bool false)) go0 rfl (aq_as rfl) ?_
      refine AO.done (hK7 _ ?_)
      replace h0 := Sh.some_eq h0
      subst r
      exact AW.ret (Exists.intro _ (And.intro (Wk.to (L := [(2, (.bool false))]) ⟨.rfl, trivial⟩) (And.intro rfl rfl)))
    · replace h0 := Sh.ite_f b6 h0
      refine AW.skip (hK2 _ ?_)
      refine AW.seq fun K8 hK8 => ?_
      refine AW.seq fun K9 hK9 => ?_
      refine AW.regionO (by rfl) ?_
      refine ao_q (v := (i64 0)) go0 rfl (aq_as rfl) ?_
      refine AO.done (hK9 _ ?_)
      obtain ⟨o11, h1, h0⟩ := Sh.cont_some h0
      have M11 : ∀ (_ : Unit), o11 = Sum.inr () → ∀ s, Wk 0 s ⟨60, envL [(0, (.sl (List.map eCell p0)))], []⟩ → K8 s := by
        intro _ hq s hw
        subst o11
        try dsimp only at h0
        refine hK8 _ (AW.weaken hw ?_)
        refine AW.seq fun K12 hK12 => ?_
        refine AW.regionO (by rfl) ?_
        refine ao_q (v := (.sl (List.map eCell p0))) go0 rfl (aq_mv rfl) ?_
        obtain ⟨q13, gq13, h0⟩ := Sh.bind_some h0
        refine ao_call (v' := (.own 0 0 (List.length q13))) (st' := [⟨0, 3, 1, List.map eI q13⟩]) go0 hb51 (spec_refsOf_ok gq13) rfl rfl ⟨(pure_map' fun _ => rfl), trivial⟩ rfl rfl ?_
        refine ao_q (v := (.own 0 0 (List.length q13))) go0 rfl (aq_as rfl) ?_
        refine AO.done (hK12 _ ?_)
        refine AW.seq fun K14 hK14 => ?_
        refine AW.seq fun K15 hK15 => ?_
        refine AW.regionO (by rfl) ?_
        refine ao_q (v := (i64 0)) go0 rfl (aq_as rfl) ?_
        refine AO.done (hK15 _ ?_)
        obtain ⟨o17, h1, h0⟩ := Sh.cont_some h0
        have M17 : ∀ (_ : Unit), o17 = Sum.inr () → ∀ s, Wk 0 s ⟨60, envL [(0, (.sl (List.map eCell p0)))], []⟩ → K14 s := by
          intro _ hq s hw
          subst o17
          try dsimp only at h0
          refine hK14 _ (AW.weaken hw ?_)
          refine AW.seq fun K18 hK18 => ?_
          refine AW.regionO (by rfl) ?_
          refine ao_q (v := (.sl (List.map eCell p0))) go0 rfl (aq_mv rfl) ?_
          obtain ⟨q19, gq19, h0⟩ := Sh.bind_some h0
          refine ao_call (v' := (.bool q19)) (st' := []) go0 hb68 (spec_isAcyclic_ok gq19) rfl rfl trivial rfl rfl ?_
          refine ao_q (v := (.bool q19)) go0 rfl (aq_as rfl) ?_
          refine AO.done (hK18 _ ?_)
          replace h0 := Sh.some_eq h0
          subst r
          exact AW.ret (Exists.intro _ (And.intro (Wk.to (L := [(2, (.bool q19))]) ⟨.rfl, trivial⟩) (And.intro rfl rfl)))
        refine AW.block (AW.loopF (σ := Int) (fun n v => spec_validHeap_L2 p0 q13 n v = some o17) (fun i16 => ⟨60, envL [(0, (.sl (List.map eCell p0))), (4, (.own 0 0 (List.length q13))), (5, (i64 i16))], [⟨0, 3, 1, List.map eI q13⟩]⟩) N 0 h1 (Wk.to (L := [(0, (.sl (List.map eCell p0))), (4, (.own 0 0 (List.length q13))), (5, (i64 0))]) ⟨.rfl, .rfl, .rfl, trivial⟩) (fun _ hv => by rw [spec_validHeap_L2] at hv; cases hv) ?_)
        rintro n i16 h1
        try dsimp only at h1 ⊢
        rw [spec_validHeap_L2] at h1
        refine AW.seq fun K20 hK20 => ?_
        refine AW.seq fun K21 hK21 => ?_
        refine AW.regionO (by rfl) ?_
        refine ao_q (v := (i64 i16)) go0 rfl (aq_mv rfl) ?_
        refine ao_q (v := (.sl (List.map eCell p0))) go0 rfl (aq_mv rfl) ?_
        refine ao_q (v := (i64 (Sh.len p0))) go0 rfl (aq_lens sl26 rfl) ?_
        refine ao_q (v := (.bool (decide (i16 < (Sh.len p0))))) go0 rfl (aq_lt rfl rfl) ?_
        refine AO.done (hK21 _ ?_)
        refine AW.cond' (b := decide (i16 < (Sh.len p0))) rfl (fun b22 => ?_) (fun b22 => ?_)
        · replace h1 := Sh.ite_t b22 h1
          refine AW.skip (hK20 _ ?_)
          refine AW.seq fun K23 hK23 => ?_
          refine AW.block ?_
          refine AW.seq fun K24 hK24 => ?_
          obtain ⟨o26, h2, h1⟩ := Sh.bind_some h1
          have M26 : ∀ (t25 : Bool), o26 = t25 → ∀ s, Wk 0 s ⟨60, envL [(0, (.sl (List.map eCell p0))), (4, (.own 0 0 (List.length q13))), (5, (i64 i16)), (57, (.bool t25))], [⟨0, 3, 1, List.map eI q13⟩]⟩ → K24 s := by
            intro t25 hq s hw
            subst o26
            try dsimp only at h1
            refine hK24 _ (AW.weaken hw ?_)
            refine AW.cond' (b := t25) rfl (fun b27 => ?_) (fun b27 => ?_)
            · replace h1 := Sh.ite_t b27 h1
              refine AW.seq fun K28 hK28 => ?_
              refine AW.regionO (by rfl) ?_
              refine ao_q (v := (.bool false)) go0 rfl (aq_as rfl) ?_
              refine AO.done (hK28 _ ?_)
              replace h1 := Sh.some_eq h1
              subst o17
              try dsimp only [id] at h0
              replace h0 := Sh.some_eq h0
              subst r
              exact AW.ret (Exists.intro _ (And.intro ((Wk.permk (L := [(2, (.bool false))]) (st' := []) (st1 := []) [] rfl .nil (by decide) rfl rfl .nil ⟨.rfl, trivial⟩).trans (Wk.to (L := [(2, (.bool false))]) ⟨.rfl, trivial⟩)) (And.intro rfl rfl)))
            · replace h1 := Sh.ite_f b27 h1
              refine AW.skip (hK23 _ ?_)
              refine AW.regionO (by rfl) ?_
              refine ao_q (v := (i64 i16)) go0 rfl (aq_mv rfl) ?_
              refine ao_q (v := (i64 (Sh.w (i16 + 1)))) go0 rfl (aq_add rfl rfl) ?_
              refine ao_q (v := (i64 (Sh.w (i16 + 1)))) go0 rfl (aq_as rfl) ?_
              exact AO.done (Exists.intro (Sh.w (i16 + 1)) (And.intro h1 (Wk.to (L := [(0, (.sl (List.map eCell p0))), (4, (.own 0 0 (List.length q13))), (5, (i64 (Sh.w (i16 + 1))))]) ⟨.rfl, .rfl, .rfl, trivial⟩)))
          refine AW.draw (by kernel_rfl) (by kernel_rfl) (by rfl) ?_
          refine d_q (v := (.sl (List.map eCell p0))) go0 rfl (aq_mv rfl) ?_
          refine d_q (v := (i64 i16)) go0 rfl (aq_mv rfl) ?_
          obtain ⟨c29, gc29, h2⟩ := Sh.bind_some h2
          refine d_q (v := (.iptr (eCell c29) 0)) go0 rfl (aq_ixs ei26 rfl rfl gc29 rfl) ?_
          refine d_q (v := (.iptr (eCell c29) 0)) go0 rfl (aq_fai fi58_0 rfl rfl) ?_
          refine d_q (v := (i64 c29.count)) go0 rfl (aq_ldi ti3 rfl rfl) ?_
          refine d_q (v := (.bool (decide (0 < c29.count)))) go0 rfl (aq_gt rfl rfl) ?_
          refine d_q (v := (.bool (decide (0 < c29.count)))) go0 rfl (aq_mv rfl) ?_
          rcases Sh.ite_some h2 with ⟨b30, h2⟩ | ⟨b30, h2⟩
          · skip
            refine d_q (v := (.sl (List.map eCell p0))) (go1 rfl rfl b30) rfl (aq_mv rfl) ?_
            refine d_q (v := (i64 i16)) (go1 rfl rfl b30) rfl (aq_mv rfl) ?_
            refine d_q (v := (.iptr (eCell c29) 0)) (go1 rfl rfl b30) rfl (aq_ixs ei26 rfl rfl gc29 rfl) ?_
            refine d_q (v := (.iptr (eCell c29) 0)) (go1 rfl rfl b30) rfl (aq_fai fi58_0 rfl rfl) ?_
            refine d_q (v := (i64 c29.count)) (go1 rfl rfl b30) rfl (aq_ldi ti3 rfl rfl) ?_
            refine d_q (v := (.own 0 0 (List.length q13))) (go1 rfl rfl b30) rfl (aq_mv rfl) ?_
            refine d_q (v := (i64 i16)) (go1 rfl rfl b30) rfl (aq_mv rfl) ?_
            obtain ⟨c31, gc31, h2⟩ := Sh.bind_some h2
            refine d_q (v := (.ptr 0 0 (Int.toNat i16) 0)) (go1 rfl rfl b30) rfl (aq_ixo ei23 rfl rfl rfl rfl gc31) ?_
            refine d_q (v := (i64 c31)) (go1 rfl rfl b30) rfl (aq_ldp ti3 rfl rfl (map_get gc31) rfl) ?_
            refine d_q (v := (.bool (decide (c29.count < c31)))) (go1 rfl rfl b30) rfl (aq_lt rfl rfl) ?_
            refine d_q (v := (.bool (decide (c29.count < c31)))) go0 rfl (aq_pkt rfl b30 rfl) ?_
            exact d_done (M26 (decide (c29.count < c31)) (Sh.some_eq h2).symm _ (Wk.to (L := [(0, (.sl (List.map eCell p0))), (4, (.own 0 0 (List.length q13))), (5, (i64 i16)), (57, (.bool (decide (c29.count < c31))))]) ⟨.rfl, .rfl, .rfl, .rfl, trivial⟩))
          · skip
            refine d_skip rfl rfl b30 ?_
            refine d_skip rfl rfl b30 ?_
            refine d_skip rfl rfl b30 ?_
            refine d_skip rfl rfl b30 ?_
            refine d_skip rfl rfl b30 ?_
            refine d_skip rfl rfl b30 ?_
            refine d_skip rfl rfl b30 ?_
            refine d_skip rfl rfl b30 ?_
            refine d_skip rfl rfl b30 ?_
            refine d_skip rfl rfl b30 ?_
            refine d_q (v := (.bool false)) go0 rfl (aq_pkf rfl b30 rfl) ?_
            exact d_done (M26 false (Sh.some_eq h2).symm _ (Wk.to (L := [(0, (.sl (List.map eCell p0))), (4, (.own 0 0 (List.length q13))), (5, (i64 i16)), (57, (.bool false))]) ⟨.rfl, .rfl, .rfl, .rfl, trivial⟩))
        · replace h1 := Sh.ite_f b22 h1
          exact AW.exit (M17 () (Sh.some_eq h1).symm _ (by refine Wk.trans (Wk.permk (L := [(0, (.sl (List.map eCell p0)))]) (st' := []) (st1 := []) [] rfl .nil (by decide) rfl rfl .nil ⟨.rfl, trivial⟩) ?_; exact Wk.to (L := [(0, (.sl (List.map eCell p0)))]) ⟨.rfl, trivial⟩))
      refine AW.block (AW.loopF (σ := Int) (fun n v => spec_validHeap_L1 N p0 n v = some o11) (fun i10 => ⟨60, envL [(0, (.sl (List.map eCell p0))), (3, (i64 i10))], []⟩) N 0 h1 (Wk.to (L := [(0, (.sl (List.map eCell p0))), (3, (i64 0))]) ⟨.rfl, .rfl, trivial⟩) (fun _ hv => by rw [spec_validHeap_L1] at hv; cases hv) ?_)
      rintro n i10 h1
      try dsimp only at h1 ⊢
      rw [spec_validHeap_L1] at h1
      refine AW.seq fun K32 hK32 => ?_
      refine AW.seq fun K33 hK33 => ?_
      refine AW.regionO (by rfl) ?_
      refine ao_q (v := (i64 i10)) go0 rfl (aq_mv rfl) ?_
      refine ao_q (v := (.sl (List.map eCell p0))) go0 rfl (aq_mv rfl) ?_
      refine ao_q (v := (i64 (Sh.len p0))) go0 rfl (aq_lens sl26 rfl) ?_
      refine ao_q (v := (.bool (decide (i10 < (Sh.len p0))))) go0 rfl (aq_lt rfl rfl) ?_
      refine AO.done (hK33 _ ?_)
      refine AW.cond' (b := decide (i10 < (Sh.len p0))) rfl (fun b34 => ?_) (fun b34 => ?_)
      · replace h1 := Sh.ite_t b34 h1
        refine AW.skip (hK32 _ ?_)
        refine AW.seq fun K35 hK35 => ?_
        refine AW.block ?_
        refine AW.seq fun K36 hK36 => ?_
        refine AW.regionO (by rfl) ?_
        refine ao_q (v := (.sl (List.map eCell p0))) go0 rfl (aq_mv rfl) ?_
        refine ao_q (v := (.sl (List.map eCell p0))) go0 rfl (aq_mv rfl) ?_
        refine ao_q (v := (i64 i10)) go0 rfl (aq_mv rfl) ?_
        obtain ⟨c37, gc37, h1⟩ := Sh.bind_some h1
        refine ao_q (v := (.iptr (eCell c37) 0)) go0 rfl (aq_ixs ei26 rfl rfl gc37 rfl) ?_
        refine ao_q (v := (.agg [(i64 c37.count), (i64 c37.tag), (.sl (List.map eI c37.fields))])) go0 rfl (aq_ldia ti58 rfl (show 0 + 3 ≤ 3 by decide) rfl) ?_
        obtain ⟨q38, gq38, h1⟩ := Sh.bind_some h1
        refine ao_call (v' := (.bool q38)) (st' := []) go0 hb67 (spec_validCell_ok gq38) rfl rfl trivial rfl rfl ?_
        refine ao_q (v := (.bool (!q38))) go0 rfl (aq_not rfl) ?_
        refine AO.done (hK36 _ ?_)
        refine AW.cond' (b := !q38) rfl (fun b39 => ?_) (fun b39 => ?_)
        · replace h1 := Sh.ite_t b39 h1
          have b40 : q38 = false := by simpa using b39
          refine AW.seq fun K41 hK41 => ?_
          refine AW.regionO (by rfl) ?_
          refine ao_q (v := (.bool false)) go0 rfl (aq_as rfl) ?_
          refine AO.done (hK41 _ ?_)
          replace h1 := Sh.some_eq h1
          subst o11
          try dsimp only [id] at h0
          replace h0 := Sh.some_eq h0
          subst r
          exact AW.ret (Exists.intro _ (And.intro (Wk.to (L := [(2, (.bool false))]) ⟨.rfl, trivial⟩) (And.intro rfl rfl)))
        · replace h1 := Sh.ite_f b39 h1
          have b42 : q38 = true := by simpa using b39
          refine AW.skip (hK35 _ ?_)
          refine AW.regionO (by rfl) ?_
          refine ao_q (v := (i64 i10)) go0 rfl (aq_mv rfl) ?_
          refine ao_q (v := (i64 (Sh.w (i10 + 1)))) go0 rfl (aq_add rfl rfl) ?_
          refine ao_q (v := (i64 (Sh.w (i10 + 1)))) go0 rfl (aq_as rfl) ?_
          exact AO.done (Exists.intro (Sh.w (i10 + 1)) (And.intro h1 (Wk.to (L := [(0, (.sl (List.map eCell p0))), (3, (i64 (Sh.w (i10 + 1))))]) ⟨.rfl, .rfl, trivial⟩)))
      · replace h1 := Sh.ite_f b34 h1
        exact AW.exit (M11 () (Sh.some_eq h1).symm _ (Wk.to (L := [(0, (.sl (List.map eCell p0)))]) ⟨.rfl, trivial⟩))
  refine AW.regionO (by rfl) ?_
  refine ao_q (v := (.sl (List.map eCell p0))) go0 rfl (aq_mv rfl) ?_
  refine ao_q (v := (i64 (Sh.len p0))) go0 rfl (aq_lens sl26 rfl) ?_
  refine ao_q (v := (.bool (decide (0 < (Sh.len p0))))) go0 rfl (aq_gt rfl rfl) ?_
  refine ao_q (v := (.bool (decide (0 < (Sh.len p0))))) go0 rfl (aq_mv rfl) ?_
  rcases Sh.ite_some h1 with ⟨b43, h1⟩ | ⟨b43, h1⟩
  · skip
    refine ao_q (v := (.sl (List.map eCell p0))) (go1 rfl rfl b43) rfl (aq_mv rfl) ?_
    refine ao_q (v := (.sl (List.map eCell p0))) (go1 rfl rfl b43) rfl (aq_mv rfl) ?_
    refine ao_q (v := (i64 (Sh.len p0))) (go1 rfl rfl b43) rfl (aq_lens sl26 rfl) ?_
    refine ao_q (v := (i64 (Sh.w ((Sh.len p0) - 1)))) (go1 rfl rfl b43) rfl (aq_sub rfl rfl) ?_
    obtain ⟨c44, gc44, h1⟩ := Sh.bind_some h1
    refine ao_q (v := (.iptr (eCell c44) 0)) (go1 rfl rfl b43) rfl (aq_ixs ei26 rfl rfl gc44 rfl) ?_
    refine ao_q (v := (.iptr (eCell c44) 0)) (go1 rfl rfl b43) rfl (aq_fai fi58_0 rfl rfl) ?_
    refine ao_q (v := (i64 c44.count)) (go1 rfl rfl b43) rfl (aq_ldi ti3 rfl rfl) ?_
    refine ao_q (v := (.bool (decide (c44.count = 0)))) (go1 rfl rfl b43) rfl (aq_eq rfl rfl) ?_
    refine ao_q (v := (.bool (decide (c44.count = 0)))) go0 rfl (aq_pkt rfl b43 rfl) ?_
    exact AO.done (M5 (decide (c44.count = 0)) (Sh.some_eq h1).symm _ (Wk.to (L := [(0, (.sl (List.map eCell p0))), (18, (.bool (decide (c44.count = 0))))]) ⟨.rfl, .rfl, trivial⟩))
  · skip
    refine ao_skip rfl rfl b43 ?_
    refine ao_skip rfl rfl b43 ?_
    refine ao_skip rfl rfl b43 ?_
    refine ao_skip rfl rfl b43 ?_
    refine ao_skip rfl rfl b43 ?_
    refine ao_skip rfl rfl b43 ?_
    refine ao_skip rfl rfl b43 ?_
    refine ao_skip rfl rfl b43 ?_
    refine ao_q (v := (.bool false)) go0 rfl (aq_pkf rfl b43 rfl) ?_
    exact AO.done (M5 false (Sh.some_eq h1).symm _ (Wk.to (L := [(0, (.sl (List.map eCell p0))), (18, (.bool false))]) ⟨.rfl, .rfl, trivial⟩))

set_option maxRecDepth 100000 in
set_option maxHeartbeats 4000000 in
theorem spec_freeIndex_ok {N : Nat} {p0 : (List Cell)} {r : Int} (h0 : spec_freeIndex N p0 = some r) : ACalls Try.prog 48 [(.sl (List.map eCell p0))] [] (fun v st => v = (i64 r) ∧ st = []) := by
  unfold spec_freeIndex at h0
  refine ACalls.intro Try.func48 rfl (by show 1 ≤ 19; decide) ?_
  show AW _ 0 _ (aret _ 0 Try.f48 _) ⟨19, _, _⟩
  refine AW.weaken (Wk.to (L := [(0, (.sl (List.map eCell p0)))]) ⟨.rfl, trivial⟩) ?_
  refine AW.seq fun K1 hK1 => ?_
  refine AW.regionO (by rfl) ?_
  refine ao_q (v := (i64 0)) go0 rfl (aq_as rfl) ?_
  refine AO.done (hK1 _ ?_)
  refine AW.seq fun K2 hK2 => ?_
  refine AW.seq fun K3 hK3 => ?_
  refine AW.regionO (by rfl) ?_
  refine ao_q (v := (i64 0)) go0 rfl (aq_as rfl) ?_
  refine AO.done (hK3 _ ?_)
  obtain ⟨o5, h1, h0⟩ := Sh.cont_some h0
  have M5 : ∀ (_ : Unit), o5 = Sum.inr () → ∀ s, Wk 0 s ⟨19, envL [(0, (.sl (List.map eCell p0)))], []⟩ → K2 s := by
    intro _ hq s hw
    subst o5
    try dsimp only at h0
    refine hK2 _ (AW.weaken hw ?_)
    refine AW.seq fun K6 hK6 => ?_
    refine AW.regionO (by rfl) ?_
    refine ao_q (v := (.sl (List.map eCell p0))) go0 rfl (aq_mv rfl) ?_
    refine ao_q (v := (i64 (Sh.len p0))) go0 rfl (aq_lens sl26 rfl) ?_
    refine ao_q (v := (i64 (Sh.len p0))) go0 rfl (aq_as rfl) ?_
    refine AO.done (hK6 _ ?_)
    replace h0 := Sh.some_eq h0
    subst r
    exact AW.ret (Exists.intro _ (And.intro (Wk.to (L := [(2, (i64 (Sh.len p0)))]) ⟨.rfl, trivial⟩) (And.intro rfl rfl)))
  refine AW.block (AW.loopF (σ := Int) (fun n v => spec_freeIndex_L1 p0 n v = some o5) (fun i4 => ⟨19, envL [(0, (.sl (List.map eCell p0))), (3, (i64 i4))], []⟩) N 0 h1 (Wk.to (L := [(0, (.sl (List.map eCell p0))), (3, (i64 0))]) ⟨.rfl, .rfl, trivial⟩) (fun _ hv => by rw [spec_freeIndex_L1] at hv; cases hv) ?_)
  rintro n i4 h1
  try dsimp only at h1 ⊢
  rw [spec_freeIndex_L1] at h1
  refine AW.seq fun K7 hK7 => ?_
  refine AW.seq fun K8 hK8 => ?_
  refine AW.regionO (by rfl) ?_
  refine ao_q (v := (i64 i4)) go0 rfl (aq_mv rfl) ?_
  refine ao_q (v := (.sl (List.map eCell p0))) go0 rfl (aq_mv rfl) ?_
  refine ao_q (v := (i64 (Sh.len p0))) go0 rfl (aq_lens sl26 rfl) ?_
  refine ao_q (v := (.bool (decide (i4 < (Sh.len p0))))) go0 rfl (aq_lt rfl rfl) ?_
  refine AO.done (hK8 _ ?_)
  refine AW.cond' (b := decide (i4 < (Sh.len p0))) rfl (fun b9 => ?_) (fun b9 => ?_)
  · replace h1 := Sh.ite_t b9 h1
    refine AW.skip (hK7 _ ?_)
    refine AW.seq fun K10 hK10 => ?_
    refine AW.block ?_
    refine AW.seq fun K11 hK11 => ?_
    refine AW.regionO (by rfl) ?_
    refine ao_q (v := (.sl (List.map eCell p0))) go0 rfl (aq_mv rfl) ?_
    refine ao_q (v := (i64 i4)) go0 rfl (aq_mv rfl) ?_
    obtain ⟨c12, gc12, h1⟩ := Sh.bind_some h1
    refine ao_q (v := (.iptr (eCell c12) 0)) go0 rfl (aq_ixs ei26 rfl rfl gc12 rfl) ?_
    refine ao_q (v := (.iptr (eCell c12) 0)) go0 rfl (aq_fai fi58_0 rfl rfl) ?_
    refine ao_q (v := (i64 c12.count)) go0 rfl (aq_ldi ti3 rfl rfl) ?_
    refine ao_q (v := (.bool (decide (c12.count = 0)))) go0 rfl (aq_eq rfl rfl) ?_
    refine AO.done (hK11 _ ?_)
    refine AW.cond' (b := decide (c12.count = 0)) rfl (fun b13 => ?_) (fun b13 => ?_)
    · replace h1 := Sh.ite_t b13 h1
      refine AW.seq fun K14 hK14 => ?_
      refine AW.regionO (by rfl) ?_
      refine ao_q (v := (i64 i4)) go0 rfl (aq_mv rfl) ?_
      refine ao_q (v := (i64 i4)) go0 rfl (aq_as rfl) ?_
      refine AO.done (hK14 _ ?_)
      replace h1 := Sh.some_eq h1
      subst o5
      try dsimp only [id] at h0
      replace h0 := Sh.some_eq h0
      subst r
      exact AW.ret (Exists.intro _ (And.intro (Wk.to (L := [(2, (i64 i4))]) ⟨.rfl, trivial⟩) (And.intro rfl rfl)))
    · replace h1 := Sh.ite_f b13 h1
      refine AW.skip (hK10 _ ?_)
      refine AW.regionO (by rfl) ?_
      refine ao_q (v := (i64 i4)) go0 rfl (aq_mv rfl) ?_
      refine ao_q (v := (i64 (Sh.w (i4 + 1)))) go0 rfl (aq_add rfl rfl) ?_
      refine ao_q (v := (i64 (Sh.w (i4 + 1)))) go0 rfl (aq_as rfl) ?_
      exact AO.done (Exists.intro (Sh.w (i4 + 1)) (And.intro h1 (Wk.to (L := [(0, (.sl (List.map eCell p0))), (3, (i64 (Sh.w (i4 + 1))))]) ⟨.rfl, .rfl, trivial⟩)))
  · replace h1 := Sh.ite_f b9 h1
    exact AW.exit (M5 () (Sh.some_eq h1).symm _ (Wk.to (L := [(0, (.sl (List.map eCell p0)))]) ⟨.rfl, trivial⟩))

set_option maxRecDepth 100000 in
set_option maxHeartbeats 4000000 in
theorem spec_copyInts_ok {p0 : (List Int)} {r : (List Int)} (h0 : spec_copyInts p0 = some r) : ACalls Try.prog 69 [(.sl (List.map eI p0))] [] (fun v st => v = (.own 0 0 (List.length r)) ∧ st = [⟨0, 3, 1, List.map eI r⟩]) := by
  unfold spec_copyInts at h0
  refine ACalls.intro Try.func69 rfl (by show 1 ≤ 6; decide) ?_
  show AW _ 0 _ (aret _ 0 Try.f69 _) ⟨6, _, _⟩
  refine AW.weaken (Wk.to (L := [(0, (.sl (List.map eI p0)))]) ⟨.rfl, trivial⟩) ?_
  refine AW.seq fun K1 hK1 => ?_
  refine AW.regionO (by rfl) ?_
  refine ao_q (v := .zc) go0 rfl (aq_as rfl) ?_
  refine AO.done (hK1 _ ?_)
  refine AW.seq fun K2 hK2 => ?_
  refine AW.regionO (by rfl) ?_
  refine ao_bs (m := 0) (st' := [⟨0, 3, 1, List.map eI ([] : List Int)⟩]) (l := ([] : List Int)) (enc := eI) go0 ei23 (by decide) rfl rfl rfl rfl rfl rfl ?_
  refine ao_q (v := (.sl (List.map eI p0))) go0 rfl (aq_mv rfl) ?_
  obtain ⟨l3, gl3, h0⟩ := Sh.bind_some h0
  refine ao_apo (st' := [⟨1, 3, 1, List.map eI l3⟩]) (l2 := p0) go0 ei23 rfl rfl rfl rfl el_s (fun _ => rfl) gl3 rfl ?_
  refine ao_q (v := (.own 0 1 (List.length l3))) go0 rfl (aq_as rfl) ?_
  refine AO.done (hK2 _ ?_)
  replace h0 := Sh.some_eq h0
  subst r
  exact AW.ret (Exists.intro _ (And.intro ((Wk.rg (L := [(2, (.own 0 0 (List.length l3)))]) (st' := [⟨0, 3, 1, List.map eI l3⟩]) (.pure (pure_map fun _ => rfl) .nil) ⟨.rfl, trivial⟩).trans (Wk.to (L := [(2, (.own 0 0 (List.length l3)))]) ⟨.rfl, trivial⟩)) (And.intro rfl rfl)))

set_option maxRecDepth 100000 in
set_option maxHeartbeats 4000000 in
theorem spec_copyHeap_ok {N : Nat} {p0 : (List Cell)} {r : (List Cell)} (h0 : spec_copyHeap N p0 = some r) : ACalls Try.prog 44 [(.sl (List.map eCell p0))] [] (fun v st => v = (.own 0 0 (List.length r)) ∧ st = [⟨0, 58, 3, List.map eCell r⟩]) := by
  unfold spec_copyHeap at h0
  refine ACalls.intro Try.func44 rfl (by show 1 ≤ 33; decide) ?_
  show AW _ 0 _ (aret _ 0 Try.f44 _) ⟨33, _, _⟩
  refine AW.weaken (Wk.to (L := [(0, (.sl (List.map eCell p0)))]) ⟨.rfl, trivial⟩) ?_
  refine AW.seq fun K1 hK1 => ?_
  refine AW.regionO (by rfl) ?_
  refine ao_q (v := .zc) go0 rfl (aq_as rfl) ?_
  refine AO.done (hK1 _ ?_)
  refine AW.seq fun K2 hK2 => ?_
  refine AW.regionO (by rfl) ?_
  refine ao_bs (m := 0) (st' := [⟨0, 58, 3, List.map eCell ([] : List Cell)⟩]) (l := ([] : List Cell)) (enc := eCell) go0 ei26 (by decide) rfl rfl rfl rfl rfl rfl ?_
  refine ao_q (v := (.own 0 0 (List.length ([] : List Cell)))) go0 rfl (aq_as rfl) ?_
  refine AO.done (hK2 _ ?_)
  refine AW.seq fun K3 hK3 => ?_
  refine AW.seq fun K4 hK4 => ?_
  refine AW.regionO (by rfl) ?_
  refine ao_q (v := (i64 0)) go0 rfl (aq_as rfl) ?_
  refine AO.done (hK4 _ ?_)
  obtain ⟨o8, h1, h0⟩ := Sh.bind_some h0
  have M8 : ∀ (l7 : (List Cell)), o8 = l7 → ∀ s, Wk 0 s ⟨33, envL [(3, (.own 0 0 (List.length l7)))], [⟨0, 58, 3, List.map eCell l7⟩]⟩ → K3 s := by
    intro l7 hq s hw
    subst o8
    try dsimp only at h0
    refine hK3 _ (AW.weaken hw ?_)
    refine AW.seq fun K9 hK9 => ?_
    refine AW.regionO (by rfl) ?_
    refine ao_q (v := (.own 0 0 (List.length l7))) go0 rfl (aq_mv rfl) ?_
    refine ao_q (v := (.own 0 0 (List.length l7))) go0 rfl (aq_as rfl) ?_
    refine AO.done (hK9 _ ?_)
    replace h0 := Sh.some_eq h0
    subst r
    exact AW.ret (Exists.intro _ (And.intro (Wk.to (L := [(2, (.own 0 0 (List.length l7)))]) ⟨.rfl, trivial⟩) (And.intro rfl rfl)))
  refine AW.block (AW.loopF (σ := Int × (List Cell)) (fun n v => spec_copyHeap_L1 p0 n v.1 v.2 = some o8) (fun (i5, l6) => ⟨33, envL [(0, (.sl (List.map eCell p0))), (3, (.own 0 0 (List.length l6))), (4, (i64 i5))], [⟨0, 58, 3, List.map eCell l6⟩]⟩) N (0, []) h1 (Wk.to (L := [(0, (.sl (List.map eCell p0))), (3, (.own 0 0 (List.length ([] : List Cell)))), (4, (i64 0))]) ⟨.rfl, .rfl, .rfl, trivial⟩) (fun _ hv => by rw [spec_copyHeap_L1] at hv; cases hv) ?_)
  rintro n ⟨i5, l6⟩ h1
  try dsimp only at h1 ⊢
  rw [spec_copyHeap_L1] at h1
  refine AW.seq fun K10 hK10 => ?_
  refine AW.seq fun K11 hK11 => ?_
  refine AW.regionO (by rfl) ?_
  refine ao_q (v := (i64 i5)) go0 rfl (aq_mv rfl) ?_
  refine ao_q (v := (.sl (List.map eCell p0))) go0 rfl (aq_mv rfl) ?_
  refine ao_q (v := (i64 (Sh.len p0))) go0 rfl (aq_lens sl26 rfl) ?_
  refine ao_q (v := (.bool (decide (i5 < (Sh.len p0))))) go0 rfl (aq_lt rfl rfl) ?_
  refine AO.done (hK11 _ ?_)
  refine AW.cond' (b := decide (i5 < (Sh.len p0))) rfl (fun b12 => ?_) (fun b12 => ?_)
  · replace h1 := Sh.ite_t b12 h1
    refine AW.skip (hK10 _ ?_)
    refine AW.seq fun K13 hK13 => ?_
    refine AW.block ?_
    refine AW.drawTailO 19 (by kernel_rfl) (by kernel_rfl) (by rfl) ?_
    refine d_q (v := (.own 0 0 (List.length l6))) go0 rfl (aq_mv rfl) ?_
    refine d_q (v := (.sl (List.map eCell p0))) go0 rfl (aq_mv rfl) ?_
    refine d_q (v := (i64 i5)) go0 rfl (aq_mv rfl) ?_
    obtain ⟨c14, gc14, h1⟩ := Sh.bind_some h1
    refine d_q (v := (.iptr (eCell c14) 0)) go0 rfl (aq_ixs ei26 rfl rfl gc14 rfl) ?_
    refine d_q (v := (.iptr (eCell c14) 0)) go0 rfl (aq_fai fi58_0 rfl rfl) ?_
    refine d_q (v := (i64 c14.count)) go0 rfl (aq_ldi ti3 rfl rfl) ?_
    refine d_q (v := (.sl (List.map eCell p0))) go0 rfl (aq_mv rfl) ?_
    refine d_q (v := (i64 i5)) go0 rfl (aq_mv rfl) ?_
    refine d_q (v := (.iptr (eCell c14) 0)) go0 rfl (aq_ixs ei26 rfl rfl gc14 rfl) ?_
    refine d_q (v := (.iptr (eCell c14) 1)) go0 rfl (aq_fai fi58_1 rfl rfl) ?_
    refine d_q (v := (i64 c14.tag)) go0 rfl (aq_ldi ti3 rfl rfl) ?_
    refine d_q (v := (.sl (List.map eCell p0))) go0 rfl (aq_mv rfl) ?_
    refine d_q (v := (i64 i5)) go0 rfl (aq_mv rfl) ?_
    refine d_q (v := (.iptr (eCell c14) 0)) go0 rfl (aq_ixs ei26 rfl rfl gc14 rfl) ?_
    refine d_q (v := (.iptr (eCell c14) 2)) go0 rfl (aq_fai fi58_2 rfl rfl) ?_
    refine d_q (v := (.sl (List.map eI c14.fields))) go0 rfl (aq_ldi ti23 rfl rfl) ?_
    obtain ⟨q15, gq15, h1⟩ := Sh.bind_some h1
    refine d_call (v := (.sl (List.map eI q15))) go0 hb69 (ACalls.wk (spec_copyInts_ok gq15) (by refine Wk.trans (Wk.frz (L := [(0, (.sl (List.map eI q15)))]) (st' := [⟨1, 3, 1, []⟩]) (id := 0) rfl (show 0 ≤ 0 by decide) (pure_map fun _ => rfl) ⟨(.frz rfl), trivial⟩ rfl) ?_; refine Wk.trans (Wk.permk (L := [(0, (.sl (List.map eI q15)))]) (st' := []) (st1 := []) [] rfl .nil (by decide) rfl rfl .nil ⟨.rfl, trivial⟩) ?_; exact Wk.to (L := [(0, (.sl (List.map eI q15)))]) ⟨.rfl, trivial⟩)) rfl rfl rfl ?_
    refine d_q (v := (.agg [(i64 c14.count), (i64 c14.tag), (.sl (List.map eI q15))])) go0 rfl (aq_bd ai58 bi58 zi58 rfl rfl) ?_
    refine d_bs (l := [(Cell.mk c14.count c14.tag q15)]) (enc := eCell) go0 ei26 (by decide) rfl rfl rfl rfl rfl (pure_map fun _ => rfl) ?_
    refine d_done ?_
    obtain ⟨l16, gl16, h1⟩ := Sh.bind_some h1
    refine ao_apo (st' := [⟨1, 58, 3, List.map eCell l16⟩]) (l2 := [(Cell.mk c14.count c14.tag q15)]) go0 ei26 rfl rfl rfl rfl el_s (fun _ => rfl) gl16 rfl ?_
    refine ao_q (v := (.own 0 1 (List.length l16))) go0 rfl (aq_as rfl) ?_
    refine AO.done (hK13 _ ?_)
    refine AW.regionO (by rfl) ?_
    refine ao_q (v := (i64 i5)) go0 rfl (aq_mv rfl) ?_
    refine ao_q (v := (i64 (Sh.w (i5 + 1)))) go0 rfl (aq_add rfl rfl) ?_
    refine ao_q (v := (i64 (Sh.w (i5 + 1)))) go0 rfl (aq_as rfl) ?_
    exact AO.done (Exists.intro (Sh.w (i5 + 1), l16) (And.intro h1 (by refine Wk.trans (Wk.rg (L := [(0, (.sl (List.map eCell p0))), (3, (.own 0 0 (List.length l16))), (4, (i64 (Sh.w (i5 + 1))))]) (st' := [⟨0, 58, 3, List.map eCell l16⟩]) (.pure (pure_map fun _ => rfl) .nil) ⟨.rfl, .rfl, .rfl, trivial⟩) ?_; exact Wk.to (L := [(0, (.sl (List.map eCell p0))), (3, (.own 0 0 (List.length l16))), (4, (i64 (Sh.w (i5 + 1))))]) ⟨.rfl, .rfl, .rfl, trivial⟩)))
  · replace h1 := Sh.ite_f b12 h1
    exact AW.exit (M8 l6 (Sh.some_eq h1).symm _ (Wk.to (L := [(3, (.own 0 0 (List.length l6)))]) ⟨.rfl, trivial⟩))

set_option maxRecDepth 100000 in
set_option maxHeartbeats 4000000 in
theorem spec_place_ok {s0 : (List Cell)} {p1 : Int} {p2 : Int} {p3 : (List Int)} {r : (List Cell)} (h0 : spec_place s0 p1 p2 p3 = some r) : ACalls Try.prog 49 [(.own 0 0 (List.length s0)), (i64 p1), (i64 p2), (.sl (List.map eI p3))] [⟨0, 58, 3, List.map eCell s0⟩] (fun v st => v = (.own 0 1 (List.length r)) ∧ st = [⟨1, 58, 3, List.map eCell r⟩]) := by
  unfold spec_place at h0
  refine ACalls.intro Try.func49 rfl (by show 4 ≤ 27; decide) ?_
  show AW _ 1 _ (aret _ 1 Try.f49 _) ⟨27, _, _⟩
  refine AW.weaken (Wk.to (L := [(0, (.own 0 0 (List.length s0))), (1, (i64 p1)), (2, (i64 p2)), (3, (.sl (List.map eI p3)))]) ⟨.rfl, .rfl, .rfl, .rfl, trivial⟩) ?_
  refine AW.seq fun K1 hK1 => ?_
  refine AW.regionO (by rfl) ?_
  refine ao_q (v := .zc) go0 rfl (aq_as rfl) ?_
  refine AO.done (hK1 _ ?_)
  refine AW.seq fun K2 hK2 => ?_
  refine AW.regionO (by rfl) ?_
  refine ao_q (v := (i64 p2)) go0 rfl (aq_mv rfl) ?_
  refine ao_q (v := (.sl (List.map eI p3))) go0 rfl (aq_mv rfl) ?_
  obtain ⟨q3, gq3, h0⟩ := Sh.bind_some h0
  refine ao_call (v' := (.own 1 0 (List.length q3))) (st' := [⟨0, 58, 3, List.map eCell s0⟩, ⟨0, 3, 1, List.map eI q3⟩]) go0 hb69 (spec_copyInts_ok gq3) rfl rfl ⟨(pure_map' fun _ => rfl), trivial⟩ rfl rfl ?_
  refine ao_q (v := (.agg [(i64 1), (i64 p2), (.own 1 0 (List.length q3))])) go0 rfl (aq_bd ai58 bi58 zi58 rfl rfl) ?_
  refine ao_alloc (m := 2) (st' := [⟨0, 58, 3, List.map eCell s0⟩, ⟨0, 3, 1, List.map eI q3⟩, ⟨0, 58, 3, [[(i64 0), (i64 0), .zc]]⟩]) go0 zi58 rfl rfl ?_
  refine AO.weaken (Wk.frz (L := [(0, (.own 0 0 (List.length s0))), (1, (i64 p1)), (9, (.ptr 2 0 0 0)), (13, (.agg [(i64 1), (i64 p2), (.sl (List.map eI q3))]))]) (st' := [⟨0, 58, 3, List.map eCell s0⟩, ⟨1, 3, 1, []⟩, ⟨0, 58, 3, [[(i64 0), (i64 0), .zc]]⟩]) (id := 1) rfl (show 1 ≤ 1 by decide) (pure_map fun _ => rfl) ⟨.rfl, .rfl, .rfl, (.agg ⟨.rfl, .rfl, (.frz1 rfl), trivial⟩), trivial⟩ rfl) ?_
  refine ao_str (st' := [⟨0, 58, 3, List.map eCell s0⟩, ⟨1, 3, 1, []⟩, ⟨0, 58, 3, [[(i64 1), (i64 p2), (.sl (List.map eI q3))]]⟩]) go0 ti58 rfl rfl rfl rfl rfl rfl (show 0 + 3 ≤ 3 by decide) rfl ?_
  refine AO.done (hK2 _ ?_)
  refine AW.seq fun K4 hK4 => ?_
  refine AW.seq fun K5 hK5 => ?_
  refine AW.regionO (by rfl) ?_
  refine ao_q (v := (i64 p1)) go0 rfl (aq_mv rfl) ?_
  refine ao_q (v := (.own 0 0 (List.length s0))) go0 rfl (aq_mv rfl) ?_
  refine ao_q (v := (i64 (Sh.len s0))) go0 rfl (aq_leno sl26 rfl rfl rfl) ?_
  refine ao_q (v := (.bool (decide (p1 = (Sh.len s0))))) go0 rfl (aq_eq rfl rfl) ?_
  refine AO.done (hK5 _ ?_)
  refine AW.cond' (b := decide (p1 = (Sh.len s0))) rfl (fun b6 => ?_) (fun b6 => ?_)
  · replace h0 := Sh.ite_t b6 h0
    refine AW.seq fun K7 hK7 => ?_
    refine AW.regionO (by rfl) ?_
    refine ao_q (v := (.own 0 0 (List.length s0))) go0 rfl (aq_mv rfl) ?_
    refine ao_q (v := (.agg [(i64 1), (i64 p2), (.sl (List.map eI q3))])) go0 rfl (aq_ldpa ti58 rfl rfl rfl (show 0 + 3 ≤ 3 by decide) rfl) ?_
    refine ao_bs (m := 3) (st' := [⟨0, 58, 3, List.map eCell s0⟩, ⟨1, 3, 1, []⟩, ⟨0, 58, 3, [[(i64 1), (i64 p2), (.sl (List.map eI q3))]]⟩, ⟨0, 58, 3, List.map eCell [(Cell.mk 1 p2 q3)]⟩]) (l := [(Cell.mk 1 p2 q3)]) (enc := eCell) go0 ei26 (by decide) rfl rfl rfl rfl rfl rfl ?_
    obtain ⟨l8, gl8, h0⟩ := Sh.bind_some h0
    refine ao_apo (st' := [⟨1, 58, 3, List.map eCell l8⟩, ⟨1, 3, 1, []⟩, ⟨0, 58, 3, [[(i64 1), (i64 p2), (.sl (List.map eI q3))]]⟩, ⟨0, 58, 3, List.map eCell [(Cell.mk 1 p2 q3)]⟩]) (l2 := [(Cell.mk 1 p2 q3)]) go0 ei26 rfl rfl rfl rfl (el_o rfl rfl) (fun _ => rfl) gl8 rfl ?_
    refine ao_q (v := (.own 0 1 (List.length l8))) go0 rfl (aq_as rfl) ?_
    refine AO.done (hK7 _ ?_)
    replace h0 := Sh.some_eq h0
    subst r
    exact AW.ret (Exists.intro _ (And.intro ((Wk.permk (L := [(8, (.own 0 1 (List.length l8)))]) (st' := [⟨1, 58, 3, List.map eCell l8⟩]) (st1 := [⟨1, 58, 3, List.map eCell l8⟩]) [0] rfl (.pure (pure_map fun _ => rfl) .nil) (by decide) rfl rfl (.pure (pure_map fun _ => rfl) .nil) ⟨.rfl, trivial⟩).trans (Wk.to (L := [(8, (.own 0 1 (List.length l8)))]) ⟨.rfl, trivial⟩)) (And.intro rfl rfl)))
  · replace h0 := Sh.ite_f b6 h0
    refine AW.skip (hK4 _ ?_)
    refine AW.seq fun K9 hK9 => ?_
    refine AW.regionO (by rfl) ?_
    refine ao_q (v := (.own 0 0 (List.length s0))) go0 rfl (aq_mv rfl) ?_
    refine ao_q (v := (i64 p1)) go0 rfl (aq_mv rfl) ?_
    refine ao_q (v := (.agg [(i64 1), (i64 p2), (.sl (List.map eI q3))])) go0 rfl (aq_ldpa ti58 rfl rfl rfl (show 0 + 3 ≤ 3 by decide) rfl) ?_
    obtain ⟨c10, gc10, h0⟩ := Sh.bind_some h0
    refine ao_q (v := (.ptr 0 0 (Int.toNat p1) 0)) go0 rfl (aq_ixo ei26 rfl rfl rfl rfl gc10) ?_
    refine ao_stl (st' := [⟨0, 58, 3, List.map eCell (Sh.put s0 p1 (Cell.mk 1 p2 q3))⟩, ⟨1, 3, 1, []⟩, ⟨0, 58, 3, [[(i64 1), (i64 p2), (.sl (List.map eI q3))]]⟩]) (u' := (Cell.mk 1 p2 q3)) go0 ti58 rfl rfl gc10 rfl rfl rfl (show 0 + 3 ≤ 3 by decide) rfl rfl ?_
    refine AO.done (hK9 _ ?_)
    refine AW.seq fun K11 hK11 => ?_
    refine AW.regionO (by rfl) ?_
    refine ao_q (v := (.own 0 0 (List.length s0))) go0 rfl (aq_mv rfl) ?_
    refine ao_q (v := (.own 0 0 (List.length s0))) go0 rfl (aq_as rfl) ?_
    refine AO.done (hK11 _ ?_)
    replace h0 := Sh.some_eq h0
    subst r
    exact AW.ret (Exists.intro _ (And.intro (((Wk.bump (L := [(8, (.own 0 1 (List.length s0)))]) (st' := [⟨1, 58, 3, List.map eCell (Sh.put s0 p1 (Cell.mk 1 p2 q3))⟩, ⟨1, 3, 1, []⟩, ⟨0, 58, 3, [[(i64 1), (i64 p2), (.sl (List.map eI q3))]]⟩]) (st1 := [⟨0, 58, 3, List.map eCell (Sh.put s0 p1 (Cell.mk 1 p2 q3))⟩, ⟨1, 3, 1, []⟩, ⟨0, 58, 3, [[(i64 1), (i64 p2), (.sl (List.map eI q3))]]⟩]) 0 rfl (.pure (pure_map fun _ => rfl) (.pure (by intro x hx; cases hx) (.raw rfl rfl .nil))) rfl ⟨.rfl, trivial⟩).trans (Wk.permk (L := [(8, (.own 0 1 (List.length s0)))]) (st' := [⟨1, 58, 3, List.map eCell (Sh.put s0 p1 (Cell.mk 1 p2 q3))⟩]) (st1 := [⟨1, 58, 3, List.map eCell (Sh.put s0 p1 (Cell.mk 1 p2 q3))⟩]) [0] rfl (.pure (pure_map fun _ => rfl) .nil) (by decide) rfl rfl (.pure (pure_map fun _ => rfl) .nil) ⟨.rfl, trivial⟩)).trans (Wk.to (L := [(8, (.own 0 1 (List.length (Sh.put s0 p1 (Cell.mk 1 p2 q3)))))]) ⟨(.len (by simp only [Sh.put_len])), trivial⟩)) (And.intro rfl rfl)))

set_option maxRecDepth 100000 in
set_option maxHeartbeats 4000000 in
theorem spec_AllocCell_ok {N : Nat} {p0 : (List Cell)} {p1 : Int} {p2 : (List Int)} {r : (List Cell) × Int} (h0 : spec_AllocCell N p0 p1 p2 = some r) : ACalls Try.prog 22 [(.sl (List.map eCell p0)), (i64 p1), (.sl (List.map eI p2))] [] (fun v st => v = (.tup [(.own 0 0 (List.length r.1)), (i64 r.2)]) ∧ st = [⟨0, 58, 3, List.map eCell r.1⟩]) := by
  unfold spec_AllocCell at h0
  refine ACalls.intro Try.func22 rfl (by show 3 ≤ 41; decide) ?_
  show AW _ 0 _ (aret _ 0 Try.f22 _) ⟨41, _, _⟩
  refine AW.weaken (Wk.to (L := [(0, (.sl (List.map eCell p0))), (1, (i64 p1)), (2, (.sl (List.map eI p2)))]) ⟨.rfl, .rfl, .rfl, trivial⟩) ?_
  refine AW.seq fun K1 hK1 => ?_
  refine AW.regionO (by rfl) ?_
  refine ao_q (v := .zc) go0 rfl (aq_as rfl) ?_
  refine ao_q (v := (i64 0)) go0 rfl (aq_as rfl) ?_
  refine AO.done (hK1 _ ?_)
  refine AW.seq fun K2 hK2 => ?_
  refine AW.seq fun K3 hK3 => ?_
  refine AW.regionO (by rfl) ?_
  refine ao_q (v := (.sl (List.map eCell p0))) go0 rfl (aq_mv rfl) ?_
  obtain ⟨q4, gq4, h0⟩ := Sh.bind_some h0
  refine ao_call (v' := (.bool q4)) (st' := []) go0 hb35 (spec_validHeap_ok gq4) rfl rfl trivial rfl rfl ?_
  refine ao_q (v := (.bool (!q4))) go0 rfl (aq_not rfl) ?_
  refine AO.done (hK3 _ ?_)
  refine AW.cond' (b := !q4) rfl (fun b5 => ?_) (fun b5 => ?_)
  · replace h0 := Sh.ite_t b5 h0
    have b6 : q4 = false := by simpa using b5
    refine AW.seq fun K7 hK7 => ?_
    refine AW.regionO (by rfl) ?_
    refine ao_q (v := .zc) go0 rfl (aq_as rfl) ?_
    refine ao_q (v := (i64 0)) go0 rfl (aq_as rfl) ?_
    refine AO.done (hK7 _ ?_)
    replace h0 := Sh.some_eq h0
    subst r
    exact AW.ret (Exists.intro _ (And.intro (((Wk.adopt (t := 6) rfl 58 (size := 3) (by decide)).trans (Wk.to (L := [(6, (.own 0 0 (List.length ([] : List Cell)))), (7, (i64 0))]) ⟨.rfl, .rfl, trivial⟩)).trans (Wk.to (L := [(6, (.own 0 0 (List.length ([] : List Cell)))), (7, (i64 0))]) ⟨.rfl, .rfl, trivial⟩)) (And.intro rfl rfl)))
  · replace h0 := Sh.ite_f b5 h0
    have b8 : q4 = true := by simpa using b5
    refine AW.skip (hK2 _ ?_)
    refine AW.seq fun K9 hK9 => ?_
    refine AW.regionO (by rfl) ?_
    refine ao_q (v := (.sl (List.map eCell p0))) go0 rfl (aq_mv rfl) ?_
    obtain ⟨q10, gq10, h0⟩ := Sh.bind_some h0
    refine ao_call (v' := (i64 q10)) (st' := []) go0 hb48 (spec_freeIndex_ok gq10) rfl rfl trivial rfl rfl ?_
    refine ao_q (v := (i64 q10)) go0 rfl (aq_as rfl) ?_
    refine AO.done (hK9 _ ?_)
    refine AW.seq fun K11 hK11 => ?_
    refine AW.seq fun K12 hK12 => ?_
    refine AW.regionO (by rfl) ?_
    refine ao_q (v := (i64 0)) go0 rfl (aq_as rfl) ?_
    refine AO.done (hK12 _ ?_)
    obtain ⟨o14, h1, h0⟩ := Sh.cont_some h0
    have M14 : ∀ (_ : Unit), o14 = Sum.inr () → ∀ s, Wk 0 s ⟨41, envL [(0, (.sl (List.map eCell p0))), (1, (i64 p1)), (2, (.sl (List.map eI p2))), (8, (i64 q10))], []⟩ → K11 s := by
      intro _ hq s hw
      subst o14
      try dsimp only at h0
      refine hK11 _ (AW.weaken hw ?_)
      refine AW.seq fun K15 hK15 => ?_
      refine AW.regionO (by rfl) ?_
      refine ao_q (v := (.sl (List.map eCell p0))) go0 rfl (aq_mv rfl) ?_
      obtain ⟨q16, gq16, h0⟩ := Sh.bind_some h0
      refine ao_call (v' := (.own 0 0 (List.length q16))) (st' := [⟨0, 58, 3, List.map eCell q16⟩]) go0 hb44 (spec_copyHeap_ok gq16) rfl rfl ⟨(pure_map' fun _ => rfl), trivial⟩ rfl rfl ?_
      refine ao_q (v := (i64 q10)) go0 rfl (aq_mv rfl) ?_
      refine ao_q (v := (i64 p1)) go0 rfl (aq_mv rfl) ?_
      refine ao_q (v := (.sl (List.map eI p2))) go0 rfl (aq_mv rfl) ?_
      obtain ⟨q17, gq17, h0⟩ := Sh.bind_some h0
      refine ao_calls (rowsP := [⟨0, 58, 3, List.map eCell q16⟩]) (rows0 := [⟨0, 58, 3, List.map eCell q16⟩]) (rows1 := [⟨1, 58, 3, List.map eCell q17⟩]) (rows2 := []) (rows1' := [⟨1, 58, 3, List.map eCell q17⟩]) (rows2' := []) (st' := [⟨1, 58, 3, List.map eCell q17⟩]) (v' := (.own 0 1 (List.length q17))) [0] go0 hb49 (spec_place_ok gq17) rfl (by decide) rfl rfl (.pure (pure_map fun _ => rfl) .nil) rfl rfl (.pure (pure_map fun _ => rfl) .nil) .nil rfl rfl ?_
      refine ao_q (v := (.own 0 1 (List.length q17))) go0 rfl (aq_as rfl) ?_
      refine AO.done (hK15 _ ?_)
      refine AW.seq fun K18 hK18 => ?_
      refine AW.seq fun K19 hK19 => ?_
      refine AW.regionO (by rfl) ?_
      refine ao_q (v := (.own 0 1 (List.length q17))) go0 rfl (aq_mv rfl) ?_
      obtain ⟨q20, gq20, h0⟩ := Sh.bind_some h0
      refine ao_callb (v' := (.bool q20)) (st' := [⟨1, 58, 3, List.map eCell q17⟩]) go0 hb35 (spec_validHeap_ok gq20) rfl (.own rfl rfl (fun _ => rfl) .nil) rfl trivial rfl rfl ?_
      refine ao_q (v := (.bool (!q20))) go0 rfl (aq_not rfl) ?_
      refine AO.done (hK19 _ ?_)
      refine AW.cond' (b := !q20) rfl (fun b21 => ?_) (fun b21 => ?_)
      · replace h0 := Sh.ite_t b21 h0
        have b22 : q20 = false := by simpa using b21
        refine AW.seq fun K23 hK23 => ?_
        refine AW.regionO (by rfl) ?_
        refine ao_q (v := .zc) go0 rfl (aq_as rfl) ?_
        refine ao_q (v := (i64 0)) go0 rfl (aq_as rfl) ?_
        refine AO.done (hK23 _ ?_)
        replace h0 := Sh.some_eq h0
        subst r
        exact AW.ret (Exists.intro _ (And.intro ((((Wk.adopt (t := 6) rfl 58 (size := 3) (by decide)).trans (Wk.to (L := [(6, (.own 1 0 (List.length ([] : List Cell)))), (7, (i64 0))]) ⟨.rfl, .rfl, trivial⟩)).trans (Wk.permk (L := [(6, (.own 0 0 (List.length ([] : List Cell)))), (7, (i64 0))]) (st' := [⟨0, 58, 3, List.map eCell ([] : List Cell)⟩]) (st1 := [⟨0, 58, 3, List.map eCell ([] : List Cell)⟩]) [1] rfl .nil (by decide) rfl rfl (.pure (pure_map fun _ => rfl) .nil) ⟨.rfl, .rfl, trivial⟩)).trans (Wk.to (L := [(6, (.own 0 0 (List.length ([] : List Cell)))), (7, (i64 0))]) ⟨.rfl, .rfl, trivial⟩)) (And.intro rfl rfl)))
      · replace h0 := Sh.ite_f b21 h0
        have b24 : q20 = true := by simpa using b21
        refine AW.skip (hK18 _ ?_)
        refine AW.seq fun K25 hK25 => ?_
        refine AW.regionO (by rfl) ?_
        refine ao_q (v := (.own 0 1 (List.length q17))) go0 rfl (aq_mv rfl) ?_
        refine ao_q (v := (i64 q10)) go0 rfl (aq_mv rfl) ?_
        refine ao_q (v := (i64 (Sh.w (1000 + q10)))) go0 rfl (aq_add rfl rfl) ?_
        refine ao_q (v := (.own 0 1 (List.length q17))) go0 rfl (aq_as rfl) ?_
        refine ao_q (v := (i64 (Sh.w (1000 + q10)))) go0 rfl (aq_as rfl) ?_
        refine AO.done (hK25 _ ?_)
        replace h0 := Sh.some_eq h0
        subst r
        exact AW.ret (Exists.intro _ (And.intro ((Wk.rg (L := [(6, (.own 0 0 (List.length q17))), (7, (i64 (Sh.w (1000 + q10))))]) (st' := [⟨0, 58, 3, List.map eCell q17⟩]) (.pure (pure_map fun _ => rfl) .nil) ⟨.rfl, .rfl, trivial⟩).trans (Wk.to (L := [(6, (.own 0 0 (List.length q17))), (7, (i64 (Sh.w (1000 + q10))))]) ⟨.rfl, .rfl, trivial⟩)) (And.intro rfl rfl)))
    refine AW.block (AW.loopF (σ := Int) (fun n v => spec_AllocCell_L1 p0 p2 n v = some o14) (fun i13 => ⟨41, envL [(0, (.sl (List.map eCell p0))), (1, (i64 p1)), (2, (.sl (List.map eI p2))), (8, (i64 q10)), (9, (i64 i13))], []⟩) N 0 h1 (Wk.to (L := [(0, (.sl (List.map eCell p0))), (1, (i64 p1)), (2, (.sl (List.map eI p2))), (8, (i64 q10)), (9, (i64 0))]) ⟨.rfl, .rfl, .rfl, .rfl, .rfl, trivial⟩) (fun _ hv => by rw [spec_AllocCell_L1] at hv; cases hv) ?_)
    rintro n i13 h1
    try dsimp only at h1 ⊢
    rw [spec_AllocCell_L1] at h1
    refine AW.seq fun K26 hK26 => ?_
    refine AW.seq fun K27 hK27 => ?_
    refine AW.regionO (by rfl) ?_
    refine ao_q (v := (i64 i13)) go0 rfl (aq_mv rfl) ?_
    refine ao_q (v := (.sl (List.map eI p2))) go0 rfl (aq_mv rfl) ?_
    refine ao_q (v := (i64 (Sh.len p2))) go0 rfl (aq_lens sl23 rfl) ?_
    refine ao_q (v := (.bool (decide (i13 < (Sh.len p2))))) go0 rfl (aq_lt rfl rfl) ?_
    refine AO.done (hK27 _ ?_)
    refine AW.cond' (b := decide (i13 < (Sh.len p2))) rfl (fun b28 => ?_) (fun b28 => ?_)
    · replace h1 := Sh.ite_t b28 h1
      refine AW.skip (hK26 _ ?_)
      refine AW.seq fun K29 hK29 => ?_
      refine AW.block ?_
      refine AW.seq fun K30 hK30 => ?_
      refine AW.regionO (by rfl) ?_
      refine ao_q (v := (.sl (List.map eCell p0))) go0 rfl (aq_mv rfl) ?_
      refine ao_q (v := (.sl (List.map eI p2))) go0 rfl (aq_mv rfl) ?_
      refine ao_q (v := (i64 i13)) go0 rfl (aq_mv rfl) ?_
      obtain ⟨c31, gc31, h1⟩ := Sh.bind_some h1
      refine ao_q (v := (.iptr (eI c31) 0)) go0 rfl (aq_ixs ei23 rfl rfl gc31 rfl) ?_
      refine ao_q (v := (i64 c31)) go0 rfl (aq_ldi ti3 rfl rfl) ?_
      obtain ⟨q32, gq32, h1⟩ := Sh.bind_some h1
      refine ao_call (v' := (.bool q32)) (st' := []) go0 hb43 (spec_isWord_ok gq32) rfl rfl trivial rfl rfl ?_
      refine ao_q (v := (.bool (!q32))) go0 rfl (aq_not rfl) ?_
      refine AO.done (hK30 _ ?_)
      refine AW.cond' (b := !q32) rfl (fun b33 => ?_) (fun b33 => ?_)
      · replace h1 := Sh.ite_t b33 h1
        have b34 : q32 = false := by simpa using b33
        refine AW.seq fun K35 hK35 => ?_
        refine AW.regionO (by rfl) ?_
        refine ao_q (v := .zc) go0 rfl (aq_as rfl) ?_
        refine ao_q (v := (i64 0)) go0 rfl (aq_as rfl) ?_
        refine AO.done (hK35 _ ?_)
        replace h1 := Sh.some_eq h1
        subst o14
        try dsimp only [id] at h0
        replace h0 := Sh.some_eq h0
        subst r
        exact AW.ret (Exists.intro _ (And.intro (((Wk.adopt (t := 6) rfl 58 (size := 3) (by decide)).trans (Wk.to (L := [(6, (.own 0 0 (List.length ([] : List Cell)))), (7, (i64 0))]) ⟨.rfl, .rfl, trivial⟩)).trans (Wk.to (L := [(6, (.own 0 0 (List.length ([] : List Cell)))), (7, (i64 0))]) ⟨.rfl, .rfl, trivial⟩)) (And.intro rfl rfl)))
      · replace h1 := Sh.ite_f b33 h1
        have b36 : q32 = true := by simpa using b33
        refine AW.skip (hK29 _ ?_)
        refine AW.regionO (by rfl) ?_
        refine ao_q (v := (i64 i13)) go0 rfl (aq_mv rfl) ?_
        refine ao_q (v := (i64 (Sh.w (i13 + 1)))) go0 rfl (aq_add rfl rfl) ?_
        refine ao_q (v := (i64 (Sh.w (i13 + 1)))) go0 rfl (aq_as rfl) ?_
        exact AO.done (Exists.intro (Sh.w (i13 + 1)) (And.intro h1 (Wk.to (L := [(0, (.sl (List.map eCell p0))), (1, (i64 p1)), (2, (.sl (List.map eI p2))), (8, (i64 q10)), (9, (i64 (Sh.w (i13 + 1))))]) ⟨.rfl, .rfl, .rfl, .rfl, .rfl, trivial⟩)))
    · replace h1 := Sh.ite_f b28 h1
      exact AW.exit (M14 () (Sh.some_eq h1).symm _ (Wk.to (L := [(0, (.sl (List.map eCell p0))), (1, (i64 p1)), (2, (.sl (List.map eI p2))), (8, (i64 q10))]) ⟨.rfl, .rfl, .rfl, .rfl, trivial⟩))

set_option maxRecDepth 100000 in
set_option maxHeartbeats 4000000 in
theorem laws_toCell_2_ok {N : Nat} {p0 : Cell} {r : Cell} (h0 : laws_toCell N p0 = some r) : ACalls Try.prog 37 [(.agg [(i64 p0.count), (i64 p0.tag), (.sl (List.map eI p0.fields))])] [] (fun v st => v = (.agg [(i64 r.count), (i64 r.tag), (.own 0 0 (List.length r.fields))]) ∧ st = [⟨0, 3, 1, List.map eI r.fields⟩]) := by
  unfold laws_toCell at h0
  refine ACalls.wk (r0 := (.agg [(i64 r.count), (i64 r.tag), (.own 0 0 (List.length r.fields))])) (st0 := [⟨0, 3, 1, List.map eI r.fields⟩, ⟨0, 58, 3, [[(i64 r.count), (i64 r.tag), (.own 0 0 (List.length r.fields))]]⟩]) ?_ (Wk.sel (L := [(0, (.agg [(i64 r.count), (i64 r.tag), (.own 0 0 (List.length r.fields))]))]) (st' := [⟨0, 3, 1, List.map eI r.fields⟩]) [0] rfl (by decide) rfl rfl (.pure (pure_map fun _ => rfl) trivial) ⟨.rfl, trivial⟩)
  refine ACalls.intro Try.func37 rfl (by show 1 ≤ 15; decide) ?_
  show AW _ 0 _ (aret _ 0 Try.f37 _) ⟨15, _, _⟩
  refine AW.weaken (Wk.to (L := [(0, (.agg [(i64 p0.count), (i64 p0.tag), (.sl (List.map eI p0.fields))]))]) ⟨.rfl, trivial⟩) ?_
  refine AW.seq fun K1 hK1 => ?_
  refine AW.regionO (by rfl) ?_
  refine ao_box (m := 0) (st' := [⟨0, 56, 3, [[(i64 p0.count), (i64 p0.tag), (.sl (List.map eI p0.fields))]]⟩]) go0 rfl rfl rfl rfl rfl ?_
  refine ao_alloc (m := 1) (st' := [⟨0, 56, 3, [[(i64 p0.count), (i64 p0.tag), (.sl (List.map eI p0.fields))]]⟩, ⟨0, 58, 3, [[(i64 0), (i64 0), .zc]]⟩]) go0 zi58 rfl rfl ?_
  refine AO.done (hK1 _ ?_)
  refine AW.seq fun K2 hK2 => ?_
  refine AW.regionO (by rfl) ?_
  refine ao_alloc (m := 2) (st' := [⟨0, 56, 3, [[(i64 p0.count), (i64 p0.tag), (.sl (List.map eI p0.fields))]]⟩, ⟨0, 58, 3, [[(i64 0), (i64 0), .zc]]⟩, ⟨0, 58, 3, [[(i64 0), (i64 0), .zc]]⟩]) go0 zi58 rfl rfl ?_
  refine AO.done (hK2 _ ?_)
  refine AW.seq fun K3 hK3 => ?_
  refine AW.regionO (by rfl) ?_
  refine ao_q (v := (.ptr 0 0 0 0)) go0 rfl (aq_fap fi56_0 rfl rfl (show 0 + 0 ≤ 3 by decide) rfl) ?_
  refine ao_q (v := (i64 p0.count)) go0 rfl (aq_ldp ti3 rfl rfl rfl rfl) ?_
  refine ao_q (v := (.ptr 2 0 0 0)) go0 rfl (aq_fap fi58_0 rfl rfl (show 0 + 0 ≤ 3 by decide) rfl) ?_
  refine ao_str (st' := [⟨0, 56, 3, [[(i64 p0.count), (i64 p0.tag), (.sl (List.map eI p0.fields))]]⟩, ⟨0, 58, 3, [[(i64 0), (i64 0), .zc]]⟩, ⟨0, 58, 3, [[(i64 p0.count), (i64 0), .zc]]⟩]) go0 ti3 rfl rfl rfl rfl rfl rfl (show 0 + 1 ≤ 3 by decide) rfl ?_
  refine AO.done (hK3 _ ?_)
  refine AW.seq fun K4 hK4 => ?_
  refine AW.regionO (by rfl) ?_
  refine ao_q (v := (.ptr 0 0 0 1)) go0 rfl (aq_fap fi56_1 rfl rfl (show 0 + 1 ≤ 3 by decide) rfl) ?_
  refine ao_q (v := (i64 p0.tag)) go0 rfl (aq_ldp ti3 rfl rfl rfl rfl) ?_
  refine ao_q (v := (.ptr 2 0 0 1)) go0 rfl (aq_fap fi58_1 rfl rfl (show 0 + 1 ≤ 3 by decide) rfl) ?_
  refine ao_str (st' := [⟨0, 56, 3, [[(i64 p0.count), (i64 p0.tag), (.sl (List.map eI p0.fields))]]⟩, ⟨0, 58, 3, [[(i64 0), (i64 0), .zc]]⟩, ⟨0, 58, 3, [[(i64 p0.count), (i64 p0.tag), .zc]]⟩]) go0 ti3 rfl rfl rfl rfl rfl rfl (show 1 + 1 ≤ 3 by decide) rfl ?_
  refine AO.done (hK4 _ ?_)
  refine AW.seq fun K5 hK5 => ?_
  refine AW.regionO (by rfl) ?_
  refine ao_q (v := (.ptr 0 0 0 2)) go0 rfl (aq_fap fi56_2 rfl rfl (show 0 + 2 ≤ 3 by decide) rfl) ?_
  refine ao_q (v := (.sl (List.map eI p0.fields))) go0 rfl (aq_ldp ti23 rfl rfl rfl rfl) ?_
  obtain ⟨q6, gq6, h0⟩ := Sh.bind_some h0
  refine ao_call (v' := (.own 3 0 (List.length q6))) (st' := [⟨0, 56, 3, [[(i64 p0.count), (i64 p0.tag), (.sl (List.map eI p0.fields))]]⟩, ⟨0, 58, 3, [[(i64 0), (i64 0), .zc]]⟩, ⟨0, 58, 3, [[(i64 p0.count), (i64 p0.tag), .zc]]⟩, ⟨0, 3, 1, List.map eI q6⟩]) go0 hb12 (laws_toIntS_ok gq6) rfl rfl ⟨(pure_map' fun _ => rfl), trivial⟩ rfl rfl ?_
  refine ao_q (v := (.ptr 2 0 0 2)) go0 rfl (aq_fap fi58_2 rfl rfl (show 0 + 2 ≤ 3 by decide) rfl) ?_
  refine ao_str (st' := [⟨0, 56, 3, [[(i64 p0.count), (i64 p0.tag), (.sl (List.map eI p0.fields))]]⟩, ⟨0, 58, 3, [[(i64 0), (i64 0), .zc]]⟩, ⟨0, 58, 3, [[(i64 p0.count), (i64 p0.tag), (.own 3 0 (List.length q6))]]⟩, ⟨0, 3, 1, List.map eI q6⟩]) go0 ti23 rfl rfl rfl rfl rfl rfl (show 2 + 1 ≤ 3 by decide) rfl ?_
  refine AO.done (hK5 _ ?_)
  refine AW.seq fun K7 hK7 => ?_
  refine AW.regionO (by rfl) ?_
  refine ao_q (v := (.agg [(i64 p0.count), (i64 p0.tag), (.own 3 0 (List.length q6))])) go0 rfl (aq_ldpa ti58 rfl rfl rfl (show 0 + 3 ≤ 3 by decide) rfl) ?_
  refine ao_str (st' := [⟨0, 56, 3, [[(i64 p0.count), (i64 p0.tag), (.sl (List.map eI p0.fields))]]⟩, ⟨0, 58, 3, [[(i64 p0.count), (i64 p0.tag), (.own 3 0 (List.length q6))]]⟩, ⟨0, 58, 3, [[(i64 p0.count), (i64 p0.tag), (.own 3 0 (List.length q6))]]⟩, ⟨0, 3, 1, List.map eI q6⟩]) go0 ti58 rfl rfl rfl rfl rfl rfl (show 0 + 3 ≤ 3 by decide) rfl ?_
  refine AO.done (hK7 _ ?_)
  replace h0 := Sh.some_eq h0
  subst r
  exact AW.ret (Exists.intro _ (And.intro ((Wk.permk (L := [(2, (.ptr 1 0 0 0))]) (st' := [⟨0, 3, 1, List.map eI q6⟩, ⟨0, 58, 3, [[(i64 p0.count), (i64 p0.tag), (.own 0 0 (List.length q6))]]⟩]) (st1 := [⟨0, 3, 1, List.map eI q6⟩, ⟨0, 58, 3, [[(i64 p0.count), (i64 p0.tag), (.own 3 0 (List.length q6))]]⟩]) [3, 1] rfl .nil (by decide) rfl rfl (.pure (pure_map fun _ => rfl) (.raw rfl rfl .nil)) ⟨.rfl, trivial⟩).trans (Wk.to (L := [(2, (.ptr 1 0 0 0))]) ⟨.rfl, trivial⟩)) (aq_ldpa (x := .tmp 2) (off := 0) (cs := [(i64 p0.count), (i64 p0.tag), (.own 0 0 (List.length q6))]) (vs := [(i64 p0.count), (i64 p0.tag), (.own 0 0 (List.length q6))]) ti58 rfl rfl rfl (show 0 + 3 ≤ 3 by decide) rfl _ ⟨rfl, rfl⟩)))

set_option maxRecDepth 100000 in
set_option maxHeartbeats 4000000 in
theorem laws_toCellS_2_ok {N : Nat} {p0 : (List Cell)} {r : (List Cell)} (h0 : laws_toCellS N p0 = some r) : ACalls Try.prog 11 [(.sl (List.map eCell p0))] [] (fun v st => v = (.own 0 0 (List.length r)) ∧ st = [⟨0, 58, 3, List.map (eCellD 3) r⟩]) := by
  unfold laws_toCellS at h0
  refine ACalls.intro Try.func11 rfl (by show 1 ≤ 23; decide) ?_
  show AW _ 0 _ (aret _ 0 Try.f11 _) ⟨23, _, _⟩
  refine AW.weaken (Wk.to (L := [(0, (.sl (List.map eCell p0)))]) ⟨.rfl, trivial⟩) ?_
  refine AW.seq fun K1 hK1 => ?_
  refine AW.regionO (by rfl) ?_
  refine ao_q (v := .zc) go0 rfl (aq_as rfl) ?_
  refine AO.done (hK1 _ ?_)
  refine AW.seq fun K2 hK2 => ?_
  refine AW.regionO (by rfl) ?_
  refine ao_q (v := (.sl (List.map eCell p0))) go0 rfl (aq_mv rfl) ?_
  refine ao_q (v := (i64 (Sh.len p0))) go0 rfl (aq_lens sl22 rfl) ?_
  obtain ⟨l3, gl3, h0⟩ := Sh.bind_some h0
  refine ao_maked (m := 0) (st' := [⟨0, 58, 3, List.map (eCellD 3) l3⟩]) (enc := (eCellD 3)) (u := (Cell.mk 0 0 [])) ei26 rfl rfl ⟨.inl ⟨rfl, rfl⟩, ⟨.inl ⟨rfl, rfl⟩, ⟨.inr ⟨rfl, _, _, rfl, by decide⟩, trivial⟩⟩⟩ gl3 rfl rfl ?_
  refine ao_q (v := (.own 0 0 (List.length l3))) go0 rfl (aq_as rfl) ?_
  refine AO.done (hK2 _ ?_)
  refine AW.seq fun K4 hK4 => ?_
  refine AW.seq fun K5 hK5 => ?_
  refine AW.regionO (by rfl) ?_
  refine ao_q (v := (i64 0)) go0 rfl (aq_as rfl) ?_
  refine AO.done (hK5 _ ?_)
  obtain ⟨o9, h1, h0⟩ := Sh.bind_some h0
  have M9 : ∀ (l8 : (List Cell)), o9 = l8 → ∀ s, Wk 0 s ⟨23, envL [(3, (.own 0 0 (List.length l8)))], [⟨0, 58, 3, List.map (eCellD 3) l8⟩]⟩ → K4 s := by
    intro l8 hq s hw
    subst o9
    try dsimp only at h0
    refine hK4 _ (AW.weaken hw ?_)
    refine AW.seq fun K10 hK10 => ?_
    refine AW.regionO (by rfl) ?_
    refine ao_q (v := (.own 0 0 (List.length l8))) go0 rfl (aq_mv rfl) ?_
    refine ao_q (v := (.own 0 0 (List.length l8))) go0 rfl (aq_as rfl) ?_
    refine AO.done (hK10 _ ?_)
    replace h0 := Sh.some_eq h0
    subst r
    exact AW.ret (Exists.intro _ (And.intro (Wk.to (L := [(2, (.own 0 0 (List.length l8)))]) ⟨.rfl, trivial⟩) (And.intro rfl rfl)))
  refine AW.block (AW.loopF (σ := Int × (List Cell)) (fun n v => laws_toCellS_L1 N p0 n v.1 v.2 = some o9) (fun (i6, l7) => ⟨23, envL [(0, (.sl (List.map eCell p0))), (3, (.own 0 0 (List.length l7))), (4, (i64 i6))], [⟨0, 58, 3, List.map (eCellD 3) l7⟩]⟩) N (0, l3) h1 (Wk.to (L := [(0, (.sl (List.map eCell p0))), (3, (.own 0 0 (List.length l3))), (4, (i64 0))]) ⟨.rfl, .rfl, .rfl, trivial⟩) (fun _ hv => by rw [laws_toCellS_L1] at hv; cases hv) ?_)
  rintro n ⟨i6, l7⟩ h1
  try dsimp only at h1 ⊢
  rw [laws_toCellS_L1] at h1
  refine AW.seq fun K11 hK11 => ?_
  refine AW.seq fun K12 hK12 => ?_
  refine AW.regionO (by rfl) ?_
  refine ao_q (v := (i64 i6)) go0 rfl (aq_mv rfl) ?_
  refine ao_q (v := (.sl (List.map eCell p0))) go0 rfl (aq_mv rfl) ?_
  refine ao_q (v := (i64 (Sh.len p0))) go0 rfl (aq_lens sl22 rfl) ?_
  refine ao_q (v := (.bool (decide (i6 < (Sh.len p0))))) go0 rfl (aq_lt rfl rfl) ?_
  refine AO.done (hK12 _ ?_)
  refine AW.cond' (b := decide (i6 < (Sh.len p0))) rfl (fun b13 => ?_) (fun b13 => ?_)
  · replace h1 := Sh.ite_t b13 h1
    refine AW.skip (hK11 _ ?_)
    refine AW.seq fun K14 hK14 => ?_
    refine AW.block ?_
    refine AW.regionO (by rfl) ?_
    refine ao_q (v := (.own 0 0 (List.length l7))) go0 rfl (aq_mv rfl) ?_
    refine ao_q (v := (i64 i6)) go0 rfl (aq_mv rfl) ?_
    refine ao_q (v := (.sl (List.map eCell p0))) go0 rfl (aq_mv rfl) ?_
    refine ao_q (v := (i64 i6)) go0 rfl (aq_mv rfl) ?_
    obtain ⟨c15, gc15, h1⟩ := Sh.bind_some h1
    refine ao_q (v := (.iptr (eCell c15) 0)) go0 rfl (aq_ixs ei22 rfl rfl gc15 rfl) ?_
    refine ao_q (v := (.agg [(i64 c15.count), (i64 c15.tag), (.sl (List.map eI c15.fields))])) go0 rfl (aq_ldia ti56 rfl (show 0 + 3 ≤ 3 by decide) rfl) ?_
    obtain ⟨q16, gq16, h1⟩ := Sh.bind_some h1
    refine ao_call (v' := (.agg [(i64 q16.count), (i64 q16.tag), (.own 1 0 (List.length q16.fields))])) (st' := [⟨0, 58, 3, List.map (eCellD 3) l7⟩, ⟨0, 3, 1, List.map eI q16.fields⟩]) go0 hb37 (laws_toCell_2_ok gq16) rfl rfl ⟨(pure_map' fun _ => rfl), trivial⟩ rfl rfl ?_
    obtain ⟨c17, gc17, h1⟩ := Sh.bind_some h1
    refine ao_q (v := (.ptr 0 0 (Int.toNat i6) 0)) go0 rfl (aq_ixo ei26 rfl rfl rfl rfl gc17) ?_
    refine ao_sth (st' := [⟨0, 58, 3, hole l7 (eCellD 3) i6 [(i64 q16.count), (i64 q16.tag), (.own 1 0 (List.length q16.fields))]⟩, ⟨0, 3, 1, List.map eI q16.fields⟩]) go0 ti58 rfl rfl gc17 rfl rfl rfl (show 3 ≤ 3 by decide) rfl rfl ?_
    refine AO.weaken (Wk.take (id := 0) (m := 1) (j := 2) (i := i6) (c := c17) (ys := q16.fields) (encY := eI) (x' := [(i64 q16.count), (i64 q16.tag), (.dv 3 1 (List.map eI q16.fields))]) (st' := [⟨0, 58, 3, hole l7 (eCellD 3) i6 [(i64 q16.count), (i64 q16.tag), (.dv 3 1 (List.map eI q16.fields))]⟩, ⟨1, 3, 1, []⟩]) rfl gc17 rfl rfl rfl (by decide) (show 0 ≤ 1 by decide) (fun _ => rfl) rfl rfl) ?_
    refine AO.weaken (Wk.filled (id := 0) (i := i6) (u := q16) (st' := [⟨0, 58, 3, List.map (eCellD 3) (Sh.put l7 i6 q16)⟩, ⟨1, 3, 1, []⟩]) rfl rfl rfl) ?_
    refine AO.done (hK14 _ ?_)
    refine AW.regionO (by rfl) ?_
    refine ao_q (v := (i64 i6)) go0 rfl (aq_mv rfl) ?_
    refine ao_q (v := (i64 (Sh.w (i6 + 1)))) go0 rfl (aq_add rfl rfl) ?_
    refine ao_q (v := (i64 (Sh.w (i6 + 1)))) go0 rfl (aq_as rfl) ?_
    exact AO.done (Exists.intro (Sh.w (i6 + 1), Sh.put l7 i6 q16) (And.intro h1 (by refine Wk.trans (Wk.permk (L := [(0, (.sl (List.map eCell p0))), (3, (.own 0 0 (List.length l7))), (4, (i64 (Sh.w (i6 + 1))))]) (st' := [⟨0, 58, 3, List.map (eCellD 3) (Sh.put l7 i6 q16)⟩]) (st1 := [⟨0, 58, 3, List.map (eCellD 3) (Sh.put l7 i6 q16)⟩]) [0] rfl .nil (by decide) rfl rfl (.deep (pure_mapD fun _ => rfl) .nil) ⟨.rfl, .rfl, .rfl, trivial⟩) ?_; exact Wk.to (L := [(0, (.sl (List.map eCell p0))), (3, (.own 0 0 (List.length (Sh.put l7 i6 q16)))), (4, (i64 (Sh.w (i6 + 1))))]) ⟨.rfl, (.len (by simp only [Sh.put_len])), .rfl, trivial⟩)))
  · replace h1 := Sh.ite_f b13 h1
    exact AW.exit (M9 l7 (Sh.some_eq h1).symm _ (Wk.to (L := [(3, (.own 0 0 (List.length l7)))]) ⟨.rfl, trivial⟩))

set_option maxRecDepth 100000 in
set_option maxHeartbeats 4000000 in
theorem impl_liveAt_ok {p0 : (List Cell)} {p1 : Int} {r : Int × Bool} (h0 : impl_liveAt p0 p1 = some r) : ACalls Try.prog 40 [(.sl (List.map eCell p0)), (i64 p1)] [] (fun v st => v = (.tup [(i64 r.1), (.bool r.2)]) ∧ st = []) := by
  unfold impl_liveAt at h0
  refine ACalls.intro Try.func40 rfl (by show 2 ≤ 26; decide) ?_
  show AW _ 0 _ (aret _ 0 Try.f40 _) ⟨26, _, _⟩
  refine AW.weaken (Wk.to (L := [(0, (.sl (List.map eCell p0))), (1, (i64 p1))]) ⟨.rfl, .rfl, trivial⟩) ?_
  refine AW.seq fun K1 hK1 => ?_
  refine AW.regionO (by rfl) ?_
  refine ao_q (v := (i64 0)) go0 rfl (aq_as rfl) ?_
  refine ao_q (v := (.bool false)) go0 rfl (aq_as rfl) ?_
  refine AO.done (hK1 _ ?_)
  refine AW.seq fun K2 hK2 => ?_
  refine AW.regionO (by rfl) ?_
  refine ao_q (v := (i64 p1)) go0 rfl (aq_mv rfl) ?_
  refine ao_q (v := (i64 (Sh.w (p1 - 1000)))) go0 rfl (aq_sub rfl rfl) ?_
  refine ao_q (v := (i64 (Sh.w (p1 - 1000)))) go0 rfl (aq_as rfl) ?_
  refine AO.done (hK2 _ ?_)
  refine AW.seq fun K3 hK3 => ?_
  obtain ⟨o5, h1, h0⟩ := Sh.bind_some h0
  have M5 : ∀ (t4 : Bool), o5 = t4 → ∀ s, Wk 0 s ⟨26, envL [(4, (i64 (Sh.w (p1 - 1000)))), (5, (.bool t4))], []⟩ → K3 s := by
    intro t4 hq s hw
    subst o5
    try dsimp only at h0
    refine hK3 _ (AW.weaken hw ?_)
    replace h0 := Sh.some_eq h0
    subst r
    exact AW.ret (Exists.intro _ (And.intro (Wk.to (L := [(4, (i64 (Sh.w (p1 - 1000)))), (5, (.bool t4))]) ⟨.rfl, .rfl, trivial⟩) (And.intro rfl rfl)))
  refine AW.draw (by kernel_rfl) (by kernel_rfl) (by rfl) ?_
  refine d_q (v := (i64 (Sh.w (p1 - 1000)))) go0 rfl (aq_mv rfl) ?_
  refine d_q (v := (i64 p1)) go0 rfl (aq_mv rfl) ?_
  refine d_q (v := (.bool (decide (1000 ≤ p1)))) go0 rfl (aq_ge rfl rfl) ?_
  refine d_q (v := (.bool (decide (1000 ≤ p1)))) go0 rfl (aq_mv rfl) ?_
  rcases Sh.ite_some h1 with ⟨b6, h1⟩ | ⟨b6, h1⟩
  · skip
    refine d_q (v := (i64 (Sh.w (p1 - 1000)))) (go1 rfl rfl b6) rfl (aq_mv rfl) ?_
    refine d_q (v := (.sl (List.map eCell p0))) (go1 rfl rfl b6) rfl (aq_mv rfl) ?_
    refine d_q (v := (i64 (Sh.len p0))) (go1 rfl rfl b6) rfl (aq_lens sl26 rfl) ?_
    refine d_q (v := (.bool (decide ((Sh.w (p1 - 1000)) < (Sh.len p0))))) (go1 rfl rfl b6) rfl (aq_lt rfl rfl) ?_
    refine d_q (v := (.bool (decide ((Sh.w (p1 - 1000)) < (Sh.len p0))))) go0 rfl (aq_pkt rfl b6 rfl) ?_
    refine d_q (v := (.bool (decide ((Sh.w (p1 - 1000)) < (Sh.len p0))))) go0 rfl (aq_mv rfl) ?_
    rcases Sh.ite_some h1 with ⟨b7, h1⟩ | ⟨b7, h1⟩
    · skip
      refine d_q (v := (.sl (List.map eCell p0))) (go1 rfl rfl b7) rfl (aq_mv rfl) ?_
      refine d_q (v := (i64 (Sh.w (p1 - 1000)))) (go1 rfl rfl b7) rfl (aq_mv rfl) ?_
      obtain ⟨c8, gc8, h1⟩ := Sh.bind_some h1
      refine d_q (v := (.iptr (eCell c8) 0)) (go1 rfl rfl b7) rfl (aq_ixs ei26 rfl rfl gc8 rfl) ?_
      refine d_q (v := (.iptr (eCell c8) 0)) (go1 rfl rfl b7) rfl (aq_fai fi58_0 rfl rfl) ?_
      refine d_q (v := (i64 c8.count)) (go1 rfl rfl b7) rfl (aq_ldi ti3 rfl rfl) ?_
      refine d_q (v := (.bool (decide (0 < c8.count)))) (go1 rfl rfl b7) rfl (aq_gt rfl rfl) ?_
      refine d_q (v := (.bool (decide (0 < c8.count)))) go0 rfl (aq_pkt rfl b7 rfl) ?_
      refine d_q (v := (i64 (Sh.w (p1 - 1000)))) go0 rfl (aq_as rfl) ?_
      refine d_q (v := (.bool (decide (0 < c8.count)))) go0 rfl (aq_as rfl) ?_
      exact d_done (M5 (decide (0 < c8.count)) (Sh.some_eq h1).symm _ (Wk.to (L := [(4, (i64 (Sh.w (p1 - 1000)))), (5, (.bool (decide (0 < c8.count))))]) ⟨.rfl, .rfl, trivial⟩))
    · skip
      refine d_skip rfl rfl b7 ?_
      refine d_skip rfl rfl b7 ?_
      refine d_skip rfl rfl b7 ?_
      refine d_skip rfl rfl b7 ?_
      refine d_skip rfl rfl b7 ?_
      refine d_skip rfl rfl b7 ?_
      refine d_q (v := (.bool false)) go0 rfl (aq_pkf rfl b7 rfl) ?_
      refine d_q (v := (i64 (Sh.w (p1 - 1000)))) go0 rfl (aq_as rfl) ?_
      refine d_q (v := (.bool false)) go0 rfl (aq_as rfl) ?_
      exact d_done (M5 false (Sh.some_eq h1).symm _ (Wk.to (L := [(4, (i64 (Sh.w (p1 - 1000)))), (5, (.bool false))]) ⟨.rfl, .rfl, trivial⟩))
  · skip
    refine d_skip rfl rfl b6 ?_
    refine d_skip rfl rfl b6 ?_
    refine d_skip rfl rfl b6 ?_
    refine d_skip rfl rfl b6 ?_
    refine d_q (v := (.bool false)) go0 rfl (aq_pkf rfl b6 rfl) ?_
    refine d_q (v := (.bool false)) go0 rfl (aq_mv rfl) ?_
    refine d_skip rfl rfl rfl ?_
    refine d_skip rfl rfl rfl ?_
    refine d_skip rfl rfl rfl ?_
    refine d_skip rfl rfl rfl ?_
    refine d_skip rfl rfl rfl ?_
    refine d_skip rfl rfl rfl ?_
    refine d_q (v := (.bool false)) go0 rfl (aq_pkf rfl rfl rfl) ?_
    refine d_q (v := (i64 (Sh.w (p1 - 1000)))) go0 rfl (aq_as rfl) ?_
    refine d_q (v := (.bool false)) go0 rfl (aq_as rfl) ?_
    exact d_done (M5 false (Sh.some_eq h1).symm _ (Wk.to (L := [(4, (i64 (Sh.w (p1 - 1000)))), (5, (.bool false))]) ⟨.rfl, .rfl, trivial⟩))

set_option maxRecDepth 100000 in
set_option maxHeartbeats 4000000 in
theorem impl_isInt_ok {p0 : Int} {r : Bool} (h0 : impl_isInt p0 = some r) : ACalls Try.prog 71 [(i64 p0)] [] (fun v st => v = (.bool r) ∧ st = []) := by
  unfold impl_isInt at h0
  refine ACalls.intro Try.func71 rfl (by show 1 ≤ 9; decide) ?_
  show AW _ 0 _ (aret _ 0 Try.f71 _) ⟨9, _, _⟩
  refine AW.weaken (Wk.to (L := [(0, (i64 p0))]) ⟨.rfl, trivial⟩) ?_
  refine AW.seq fun K1 hK1 => ?_
  refine AW.regionO (by rfl) ?_
  refine ao_q (v := (.bool false)) go0 rfl (aq_as rfl) ?_
  refine AO.done (hK1 _ ?_)
  refine AW.seq fun K2 hK2 => ?_
  obtain ⟨o4, h1, h0⟩ := Sh.bind_some h0
  have M4 : ∀ (t3 : Bool), o4 = t3 → ∀ s, Wk 0 s ⟨9, envL [(2, (.bool t3))], []⟩ → K2 s := by
    intro t3 hq s hw
    subst o4
    try dsimp only at h0
    refine hK2 _ (AW.weaken hw ?_)
    replace h0 := Sh.some_eq h0
    subst r
    exact AW.ret (Exists.intro _ (And.intro (Wk.to (L := [(2, (.bool t3))]) ⟨.rfl, trivial⟩) (And.intro rfl rfl)))
  refine AW.regionO (by rfl) ?_
  refine ao_q (v := (i64 p0)) go0 rfl (aq_mv rfl) ?_
  refine ao_q (v := (.bool (decide ((-999) ≤ p0)))) go0 rfl (aq_ge rfl rfl) ?_
  refine ao_q (v := (.bool (decide ((-999) ≤ p0)))) go0 rfl (aq_mv rfl) ?_
  rcases Sh.ite_some h1 with ⟨b5, h1⟩ | ⟨b5, h1⟩
  · skip
    refine ao_q (v := (i64 p0)) (go1 rfl rfl b5) rfl (aq_mv rfl) ?_
    refine ao_q (v := (.bool (decide (p0 ≤ 999)))) (go1 rfl rfl b5) rfl (aq_le rfl rfl) ?_
    refine ao_q (v := (.bool (decide (p0 ≤ 999)))) go0 rfl (aq_pkt rfl b5 rfl) ?_
    refine ao_q (v := (.bool (decide (p0 ≤ 999)))) go0 rfl (aq_as rfl) ?_
    exact AO.done (M4 (decide (p0 ≤ 999)) (Sh.some_eq h1).symm _ (Wk.to (L := [(2, (.bool (decide (p0 ≤ 999))))]) ⟨.rfl, trivial⟩))
  · skip
    refine ao_skip rfl rfl b5 ?_
    refine ao_skip rfl rfl b5 ?_
    refine ao_q (v := (.bool false)) go0 rfl (aq_pkf rfl b5 rfl) ?_
    refine ao_q (v := (.bool false)) go0 rfl (aq_as rfl) ?_
    exact AO.done (M4 false (Sh.some_eq h1).symm _ (Wk.to (L := [(2, (.bool false))]) ⟨.rfl, trivial⟩))

set_option maxRecDepth 100000 in
set_option maxHeartbeats 4000000 in
theorem impl_wordValid_ok {p0 : (List Cell)} {p1 : Int} {r : Bool} (h0 : impl_wordValid p0 p1 = some r) : ACalls Try.prog 46 [(.sl (List.map eCell p0)), (i64 p1)] [] (fun v st => v = (.bool r) ∧ st = []) := by
  unfold impl_wordValid at h0
  refine ACalls.intro Try.func46 rfl (by show 2 ≤ 18; decide) ?_
  show AW _ 0 _ (aret _ 0 Try.f46 _) ⟨18, _, _⟩
  refine AW.weaken (Wk.to (L := [(0, (.sl (List.map eCell p0))), (1, (i64 p1))]) ⟨.rfl, .rfl, trivial⟩) ?_
  refine AW.seq fun K1 hK1 => ?_
  refine AW.regionO (by rfl) ?_
  refine ao_q (v := (.bool false)) go0 rfl (aq_as rfl) ?_
  refine AO.done (hK1 _ ?_)
  refine AW.seq fun K2 hK2 => ?_
  refine AW.regionO (by rfl) ?_
  refine ao_q (v := (.sl (List.map eCell p0))) go0 rfl (aq_mv rfl) ?_
  refine ao_q (v := (i64 p1)) go0 rfl (aq_mv rfl) ?_
  obtain ⟨q3, gq3, h0⟩ := Sh.bind_some h0
  refine ao_call (v' := (.tup [(i64 q3.1), (.bool q3.2)])) (st' := []) go0 hb40 (impl_liveAt_ok gq3) rfl rfl trivial rfl rfl ?_
  refine ao_q (v := (.tup [(i64 q3.1), (.bool q3.2)])) go0 rfl (aq_mv rfl) ?_
  refine ao_q (v := (i64 q3.1)) go0 rfl (aq_ex rfl rfl) ?_
  refine ao_q (v := (.bool q3.2)) go0 rfl (aq_ex rfl rfl) ?_
  refine ao_q (v := (i64 q3.1)) go0 rfl (aq_as rfl) ?_
  refine ao_q (v := (.bool q3.2)) go0 rfl (aq_as rfl) ?_
  refine AO.done (hK2 _ ?_)
  refine AW.seq fun K4 hK4 => ?_
  obtain ⟨o6, h1, h0⟩ := Sh.bind_some h0
  have M6 : ∀ (t5 : Bool), o6 = t5 → ∀ s, Wk 0 s ⟨18, envL [(4, (.bool t5))], []⟩ → K4 s := by
    intro t5 hq s hw
    subst o6
    try dsimp only at h0
    refine hK4 _ (AW.weaken hw ?_)
    replace h0 := Sh.some_eq h0
    subst r
    exact AW.ret (Exists.intro _ (And.intro (Wk.to (L := [(4, (.bool t5))]) ⟨.rfl, trivial⟩) (And.intro rfl rfl)))
  refine AW.regionO (by rfl) ?_
  refine ao_q (v := (.bool q3.2)) go0 rfl (aq_mv rfl) ?_
  refine ao_q (v := (.bool q3.2)) go0 rfl (aq_mv rfl) ?_
  rcases Sh.ite_some h1 with ⟨b7, h1⟩ | ⟨b7, h1⟩
  · skip
    refine ao_skip rfl rfl b7 ?_
    refine ao_skip rfl rfl b7 ?_
    refine ao_q (v := (.bool true)) go0 rfl (aq_pkt rfl b7 rfl) ?_
    refine ao_q (v := (.bool true)) go0 rfl (aq_as rfl) ?_
    exact AO.done (M6 true (Sh.some_eq h1).symm _ (Wk.to (L := [(4, (.bool true))]) ⟨.rfl, trivial⟩))
  · skip
    refine ao_q (v := (i64 p1)) (go1 rfl rfl b7) rfl (aq_mv rfl) ?_
    obtain ⟨q8, gq8, h1⟩ := Sh.bind_some h1
    refine ao_call (v' := (.bool q8)) (st' := []) (go1 rfl rfl b7) hb71 (impl_isInt_ok gq8) rfl rfl trivial rfl rfl ?_
    refine ao_q (v := (.bool q8)) go0 rfl (aq_pkf rfl b7 rfl) ?_
    refine ao_q (v := (.bool q8)) go0 rfl (aq_as rfl) ?_
    exact AO.done (M6 q8 (Sh.some_eq h1).symm _ (Wk.to (L := [(4, (.bool q8))]) ⟨.rfl, trivial⟩))

set_option maxRecDepth 100000 in
set_option maxHeartbeats 4000000 in
theorem impl_cellValid_ok {N : Nat} {p0 : (List Cell)} {p1 : Cell} {r : Bool} (h0 : impl_cellValid N p0 p1 = some r) : ACalls Try.prog 76 [(.sl (List.map eCell p0)), (.agg [(i64 p1.count), (i64 p1.tag), (.sl (List.map eI p1.fields))])] [] (fun v st => v = (.bool r) ∧ st = []) := by
  unfold impl_cellValid at h0
  refine ACalls.intro Try.func76 rfl (by show 2 ≤ 66; decide) ?_
  show AW _ 0 _ (aret _ 0 Try.f76 _) ⟨66, _, _⟩
  refine AW.weaken (Wk.to (L := [(0, (.sl (List.map eCell p0))), (1, (.agg [(i64 p1.count), (i64 p1.tag), (.sl (List.map eI p1.fields))]))]) ⟨.rfl, .rfl, trivial⟩) ?_
  refine AW.seq fun K1 hK1 => ?_
  refine AW.regionO (by rfl) ?_
  refine ao_box (m := 0) (st' := [⟨0, 58, 3, [[(i64 p1.count), (i64 p1.tag), (.sl (List.map eI p1.fields))]]⟩]) go0 rfl rfl rfl rfl rfl ?_
  refine ao_q (v := (.bool false)) go0 rfl (aq_as rfl) ?_
  refine AO.done (hK1 _ ?_)
  refine AW.seq fun K2 hK2 => ?_
  refine AW.seq fun K3 hK3 => ?_
  obtain ⟨o5, h1, h0⟩ := Sh.bind_some h0
  have M5 : ∀ (t4 : Bool), o5 = t4 → ∀ s, Wk 0 s ⟨66, envL [(0, (.sl (List.map eCell p0))), (3, (.ptr 0 0 0 0)), (25, (.bool t4))], [⟨0, 58, 3, [[(i64 p1.count), (i64 p1.tag), (.sl (List.map eI p1.fields))]]⟩]⟩ → K3 s := by
    intro t4 hq s hw
    subst o5
    try dsimp only at h0
    refine hK3 _ (AW.weaken hw ?_)
    refine AW.cond' (b := t4) rfl (fun b6 => ?_) (fun b6 => ?_)
    · replace h0 := Sh.ite_t b6 h0
      refine AW.seq fun K7 hK7 => ?_
      refine AW.regionO (by rfl) ?_
      refine ao_q (v := (.bool false)) go0 rfl (aq_as rfl) ?_
      refine AO.done (hK7 _ ?_)
      replace h0 := Sh.some_eq h0
      subst r
      exact AW.ret (Exists.intro _ (And.intro ((Wk.permk (L := [(4, (.bool false))]) (st' := []) (st1 := []) [] rfl .nil (by decide) rfl rfl .nil ⟨.rfl, trivial⟩).trans (Wk.to (L := [(4, (.bool false))]) ⟨.rfl, trivial⟩)) (And.intro rfl rfl)))
    · replace h0 := Sh.ite_f b6 h0
      refine AW.skip (hK2 _ ?_)
      refine AW.seq fun K8 hK8 => ?_
      refine AW.seq fun K9 hK9 => ?_
      obtain ⟨o11, h1, h0⟩ := Sh.bind_some h0
      have M11 : ∀ (t10 : Bool), o11 = t10 → ∀ s, Wk 0 s ⟨66, envL [(0, (.sl (List.map eCell p0))), (3, (.ptr 0 0 0 0)), (44, (.bool t10))], [⟨0, 58, 3, [[(i64 p1.count), (i64 p1.tag), (.sl (List.map eI p1.fields))]]⟩]⟩ → K9 s := by
        intro t10 hq s hw
        subst o11
        try dsimp only at h0
        refine hK9 _ (AW.weaken hw ?_)
        refine AW.cond' (b := t10) rfl (fun b12 => ?_) (fun b12 => ?_)
        · replace h0 := Sh.ite_t b12 h0
          refine AW.seq fun K13 hK13 => ?_
          refine AW.regionO (by rfl) ?_
          refine ao_q (v := (.bool false)) go0 rfl (aq_as rfl) ?_
          refine AO.done (hK13 _ ?_)
          replace h0 := Sh.some_eq h0
          subst r
          exact AW.ret (Exists.intro _ (And.intro ((Wk.permk (L := [(4, (.bool false))]) (st' := []) (st1 := []) [] rfl .nil (by decide) rfl rfl .nil ⟨.rfl, trivial⟩).trans (Wk.to (L := [(4, (.bool false))]) ⟨.rfl, trivial⟩)) (And.intro rfl rfl)))
        · replace h0 := Sh.ite_f b12 h0
          refine AW.skip (hK8 _ ?_)
          refine AW.seq fun K14 hK14 => ?_
          refine AW.seq fun K15 hK15 => ?_
          refine AW.regionO (by rfl) ?_
          refine ao_q (v := (.ptr 0 0 0 2)) go0 rfl (aq_fap fi58_2 rfl rfl (show 0 + 2 ≤ 3 by decide) rfl) ?_
          refine ao_q (v := (.sl (List.map eI p1.fields))) go0 rfl (aq_ldp ti23 rfl rfl rfl rfl) ?_
          refine ao_q (v := (i64 (Sh.len p1.fields))) go0 rfl (aq_lens sl23 rfl) ?_
          refine ao_q (v := (i64 0)) go0 rfl (aq_mv rfl) ?_
          refine AO.done (hK15 _ ?_)
          obtain ⟨o17, h1, h0⟩ := Sh.cont_some h0
          have M17 : ∀ (_ : Unit), o17 = Sum.inr () → ∀ s, Wk 0 s ⟨66, envL [], []⟩ → K14 s := by
            intro _ hq s hw
            subst o17
            try dsimp only at h0
            refine hK14 _ (AW.weaken hw ?_)
            refine AW.seq fun K18 hK18 => ?_
            refine AW.regionO (by rfl) ?_
            refine ao_q (v := (.bool true)) go0 rfl (aq_as rfl) ?_
            refine AO.done (hK18 _ ?_)
            replace h0 := Sh.some_eq h0
            subst r
            exact AW.ret (Exists.intro _ (And.intro (Wk.to (L := [(4, (.bool true))]) ⟨.rfl, trivial⟩) (And.intro rfl rfl)))
          refine AW.block (AW.loopF (σ := Int) (fun n v => impl_cellValid_L1 p0 p1 n v = some o17) (fun t16 => ⟨66, envL [(0, (.sl (List.map eCell p0))), (3, (.ptr 0 0 0 0)), (46, (.sl (List.map eI p1.fields))), (47, (i64 (Sh.len p1.fields))), (48, (i64 t16))], [⟨0, 58, 3, [[(i64 p1.count), (i64 p1.tag), (.sl (List.map eI p1.fields))]]⟩]⟩) N 0 h1 (Wk.to (L := [(0, (.sl (List.map eCell p0))), (3, (.ptr 0 0 0 0)), (46, (.sl (List.map eI p1.fields))), (47, (i64 (Sh.len p1.fields))), (48, (i64 0))]) ⟨.rfl, .rfl, .rfl, .rfl, .rfl, trivial⟩) (fun _ hv => by rw [impl_cellValid_L1] at hv; cases hv) ?_)
          rintro n t16 h1
          try dsimp only at h1 ⊢
          rw [impl_cellValid_L1] at h1
          refine AW.seq fun K19 hK19 => ?_
          refine AW.regionO (by rfl) ?_
          refine ao_q (v := (.bool (decide (t16 < (Sh.len p1.fields))))) go0 rfl (aq_lt rfl rfl) ?_
          refine AO.done (hK19 _ ?_)
          refine AW.seq fun K20 hK20 => ?_
          refine AW.cond' (b := decide (t16 < (Sh.len p1.fields))) rfl (fun b21 => ?_) (fun b21 => ?_)
          · replace h1 := Sh.ite_t b21 h1
            refine AW.skip (hK20 _ ?_)
            refine AW.seq fun K22 hK22 => ?_
            refine AW.block ?_
            refine AW.seq fun K23 hK23 => ?_
            refine AW.regionO (by rfl) ?_
            obtain ⟨c24, gc24, h1⟩ := Sh.bind_some h1
            refine ao_q (v := (.iptr (eI c24) 0)) go0 rfl (aq_ixs ei23 rfl rfl gc24 rfl) ?_
            refine ao_q (v := (i64 c24)) go0 rfl (aq_ldi ti3 rfl rfl) ?_
            refine ao_q (v := (i64 c24)) go0 rfl (aq_as rfl) ?_
            refine AO.done (hK23 _ ?_)
            refine AW.seq fun K25 hK25 => ?_
            obtain ⟨o27, h2, h1⟩ := Sh.bind_some h1
            have M27 : ∀ (t26 : Bool), o27 = t26 → ∀ s, Wk 0 s ⟨66, envL [(0, (.sl (List.map eCell p0))), (3, (.ptr 0 0 0 0)), (46, (.sl (List.map eI p1.fields))), (47, (i64 (Sh.len p1.fields))), (48, (i64 t16)), (64, (.bool t26))], [⟨0, 58, 3, [[(i64 p1.count), (i64 p1.tag), (.sl (List.map eI p1.fields))]]⟩]⟩ → K25 s := by
              intro t26 hq s hw
              subst o27
              try dsimp only at h1
              refine hK25 _ (AW.weaken hw ?_)
              refine AW.cond' (b := t26) rfl (fun b28 => ?_) (fun b28 => ?_)
              · replace h1 := Sh.ite_t b28 h1
                refine AW.seq fun K29 hK29 => ?_
                refine AW.regionO (by rfl) ?_
                refine ao_q (v := (.bool false)) go0 rfl (aq_as rfl) ?_
                refine AO.done (hK29 _ ?_)
                replace h1 := Sh.some_eq h1
                subst o17
                try dsimp only [id] at h0
                replace h0 := Sh.some_eq h0
                subst r
                exact AW.ret (Exists.intro _ (And.intro ((Wk.permk (L := [(4, (.bool false))]) (st' := []) (st1 := []) [] rfl .nil (by decide) rfl rfl .nil ⟨.rfl, trivial⟩).trans (Wk.to (L := [(4, (.bool false))]) ⟨.rfl, trivial⟩)) (And.intro rfl rfl)))
              · replace h1 := Sh.ite_f b28 h1
                refine AW.skip (hK22 _ ?_)
                refine AW.regionO (by rfl) ?_
                refine ao_q (v := (i64 (Sh.w (t16 + 1)))) go0 rfl (aq_add rfl rfl) ?_
                refine ao_q (v := (i64 (Sh.w (t16 + 1)))) go0 rfl (aq_mv rfl) ?_
                exact AO.done (Exists.intro (Sh.w (t16 + 1)) (And.intro h1 (Wk.to (L := [(0, (.sl (List.map eCell p0))), (3, (.ptr 0 0 0 0)), (46, (.sl (List.map eI p1.fields))), (47, (i64 (Sh.len p1.fields))), (48, (i64 (Sh.w (t16 + 1))))]) ⟨.rfl, .rfl, .rfl, .rfl, .rfl, trivial⟩)))
            refine AW.regionO (by rfl) ?_
            refine ao_q (v := (.sl (List.map eCell p0))) go0 rfl (aq_mv rfl) ?_
            refine ao_q (v := (i64 c24)) go0 rfl (aq_mv rfl) ?_
            obtain ⟨q30, gq30, h2⟩ := Sh.bind_some h2
            refine ao_call (v' := (.bool q30)) (st' := [⟨0, 58, 3, [[(i64 p1.count), (i64 p1.tag), (.sl (List.map eI p1.fields))]]⟩]) go0 hb46 (impl_wordValid_ok gq30) rfl rfl trivial rfl rfl ?_
            refine ao_q (v := (.bool (!q30))) go0 rfl (aq_not rfl) ?_
            refine ao_q (v := (.bool (!q30))) go0 rfl (aq_mv rfl) ?_
            rcases Sh.ite_some h2 with ⟨b31, h2⟩ | ⟨b31, h2⟩
            · skip
              refine ao_skip rfl rfl b31 ?_
              refine ao_skip rfl rfl b31 ?_
              refine ao_skip rfl rfl b31 ?_
              refine ao_skip rfl rfl b31 ?_
              refine ao_none rfl rfl ?_
              refine ao_none rfl rfl ?_
              refine ao_skip rfl rfl b31 ?_
              refine ao_q (v := (.bool true)) go0 rfl (aq_pkt rfl b31 rfl) ?_
              exact AO.done (M27 true (Sh.some_eq h2).symm _ (Wk.to (L := [(0, (.sl (List.map eCell p0))), (3, (.ptr 0 0 0 0)), (46, (.sl (List.map eI p1.fields))), (47, (i64 (Sh.len p1.fields))), (48, (i64 t16)), (64, (.bool true))]) ⟨.rfl, .rfl, .rfl, .rfl, .rfl, .rfl, trivial⟩))
            · skip
              refine ao_q (v := (.ptr 0 0 0 0)) (go1 rfl rfl b31) rfl (aq_fap fi58_0 rfl rfl (show 0 + 0 ≤ 3 by decide) rfl) ?_
              refine ao_q (v := (i64 p1.count)) (go1 rfl rfl b31) rfl (aq_ldp ti3 rfl rfl rfl rfl) ?_
              refine ao_q (v := (.bool (decide (p1.count < 0)))) (go1 rfl rfl b31) rfl (aq_lt rfl rfl) ?_
              refine ao_q (v := (.bool (decide (p1.count < 0)))) (go1 rfl rfl b31) rfl (aq_mv rfl) ?_
              rcases Sh.ite_some h2 with ⟨b32, h2⟩ | ⟨b32, h2⟩
              · skip
                refine ao_q (v := (i64 c24)) (go1 rfl rfl b32) rfl (aq_mv rfl) ?_
                refine ao_q (v := (.bool (!decide (c24 = 0)))) (go1 rfl rfl b32) rfl (aq_ne rfl rfl) ?_
                refine ao_q (v := (.bool (!decide (c24 = 0)))) (go1 rfl rfl b31) rfl (aq_pkt rfl b32 rfl) ?_
                refine ao_q (v := (.bool (!decide (c24 = 0)))) go0 rfl (aq_pkf rfl b31 rfl) ?_
                exact AO.done (M27 (!decide (c24 = 0)) (Sh.some_eq h2).symm _ (Wk.to (L := [(0, (.sl (List.map eCell p0))), (3, (.ptr 0 0 0 0)), (46, (.sl (List.map eI p1.fields))), (47, (i64 (Sh.len p1.fields))), (48, (i64 t16)), (64, (.bool (!decide (c24 = 0))))]) ⟨.rfl, .rfl, .rfl, .rfl, .rfl, .rfl, trivial⟩))
              · skip
                refine ao_skip rfl rfl b32 ?_
                refine ao_skip rfl rfl b32 ?_
                refine ao_q (v := (.bool false)) (go1 rfl rfl b31) rfl (aq_pkf rfl b32 rfl) ?_
                refine ao_q (v := (.bool false)) go0 rfl (aq_pkf rfl b31 rfl) ?_
                exact AO.done (M27 false (Sh.some_eq h2).symm _ (Wk.to (L := [(0, (.sl (List.map eCell p0))), (3, (.ptr 0 0 0 0)), (46, (.sl (List.map eI p1.fields))), (47, (i64 (Sh.len p1.fields))), (48, (i64 t16)), (64, (.bool false))]) ⟨.rfl, .rfl, .rfl, .rfl, .rfl, .rfl, trivial⟩))
          · replace h1 := Sh.ite_f b21 h1
            exact AW.exit (M17 () (Sh.some_eq h1).symm _ (by refine Wk.trans (Wk.permk (L := []) (st' := []) (st1 := []) [] rfl .nil (by decide) rfl rfl .nil trivial) ?_; exact Wk.to (L := []) trivial))
      refine AW.regionO (by rfl) ?_
      refine ao_q (v := (.ptr 0 0 0 0)) go0 rfl (aq_fap fi58_0 rfl rfl (show 0 + 0 ≤ 3 by decide) rfl) ?_
      refine ao_q (v := (i64 p1.count)) go0 rfl (aq_ldp ti3 rfl rfl rfl rfl) ?_
      refine ao_q (v := (.bool (decide (p1.count < 1)))) go0 rfl (aq_lt rfl rfl) ?_
      refine ao_q (v := (.bool (decide (p1.count < 1)))) go0 rfl (aq_mv rfl) ?_
      rcases Sh.ite_some h1 with ⟨b33, h1⟩ | ⟨b33, h1⟩
      · skip
        refine ao_q (v := (.ptr 0 0 0 1)) (go1 rfl rfl b33) rfl (aq_fap fi58_1 rfl rfl (show 0 + 1 ≤ 3 by decide) rfl) ?_
        refine ao_q (v := (i64 p1.tag)) (go1 rfl rfl b33) rfl (aq_ldp ti3 rfl rfl rfl rfl) ?_
        refine ao_q (v := (.bool (!decide (p1.tag = 0)))) (go1 rfl rfl b33) rfl (aq_ne rfl rfl) ?_
        refine ao_q (v := (.bool (!decide (p1.tag = 0)))) go0 rfl (aq_pkt rfl b33 rfl) ?_
        refine ao_q (v := (.bool (!decide (p1.tag = 0)))) go0 rfl (aq_mv rfl) ?_
        rcases Sh.ite_some h1 with ⟨b34, h1⟩ | ⟨b34, h1⟩
        · skip
          refine ao_skip rfl rfl b34 ?_
          refine ao_skip rfl rfl b34 ?_
          refine ao_skip rfl rfl b34 ?_
          refine ao_skip rfl rfl b34 ?_
          refine ao_none rfl rfl ?_
          refine ao_none rfl rfl ?_
          refine ao_none rfl rfl ?_
          refine ao_none rfl rfl ?_
          refine ao_skip rfl rfl b34 ?_
          refine ao_q (v := (.bool true)) go0 rfl (aq_pkt rfl b34 rfl) ?_
          exact AO.done (M11 true (Sh.some_eq h1).symm _ (Wk.to (L := [(0, (.sl (List.map eCell p0))), (3, (.ptr 0 0 0 0)), (44, (.bool true))]) ⟨.rfl, .rfl, .rfl, trivial⟩))
        · skip
          refine ao_q (v := (.ptr 0 0 0 0)) (go1 rfl rfl b34) rfl (aq_fap fi58_0 rfl rfl (show 0 + 0 ≤ 3 by decide) rfl) ?_
          refine ao_q (v := (i64 p1.count)) (go1 rfl rfl b34) rfl (aq_ldp ti3 rfl rfl rfl rfl) ?_
          refine ao_q (v := (.bool (decide (p1.count = 0)))) (go1 rfl rfl b34) rfl (aq_eq rfl rfl) ?_
          refine ao_q (v := (.bool (decide (p1.count = 0)))) (go1 rfl rfl b34) rfl (aq_mv rfl) ?_
          rcases Sh.ite_some h1 with ⟨b35, h1⟩ | ⟨b35, h1⟩
          · skip
            refine ao_q (v := (.ptr 0 0 0 2)) (go1 rfl rfl b35) rfl (aq_fap fi58_2 rfl rfl (show 0 + 2 ≤ 3 by decide) rfl) ?_
            refine ao_q (v := (.sl (List.map eI p1.fields))) (go1 rfl rfl b35) rfl (aq_ldp ti23 rfl rfl rfl rfl) ?_
            refine ao_q (v := (i64 (Sh.len p1.fields))) (go1 rfl rfl b35) rfl (aq_lens sl23 rfl) ?_
            refine ao_q (v := (.bool (decide (0 < (Sh.len p1.fields))))) (go1 rfl rfl b35) rfl (aq_gt rfl rfl) ?_
            refine ao_q (v := (.bool (decide (0 < (Sh.len p1.fields))))) (go1 rfl rfl b34) rfl (aq_pkt rfl b35 rfl) ?_
            refine ao_q (v := (.bool (decide (0 < (Sh.len p1.fields))))) go0 rfl (aq_pkf rfl b34 rfl) ?_
            exact AO.done (M11 (decide (0 < (Sh.len p1.fields))) (Sh.some_eq h1).symm _ (Wk.to (L := [(0, (.sl (List.map eCell p0))), (3, (.ptr 0 0 0 0)), (44, (.bool (decide (0 < (Sh.len p1.fields)))))]) ⟨.rfl, .rfl, .rfl, trivial⟩))
          · skip
            refine ao_skip rfl rfl b35 ?_
            refine ao_skip rfl rfl b35 ?_
            refine ao_skip rfl rfl b35 ?_
            refine ao_skip rfl rfl b35 ?_
            refine ao_q (v := (.bool false)) (go1 rfl rfl b34) rfl (aq_pkf rfl b35 rfl) ?_
            refine ao_q (v := (.bool false)) go0 rfl (aq_pkf rfl b34 rfl) ?_
            exact AO.done (M11 false (Sh.some_eq h1).symm _ (Wk.to (L := [(0, (.sl (List.map eCell p0))), (3, (.ptr 0 0 0 0)), (44, (.bool false))]) ⟨.rfl, .rfl, .rfl, trivial⟩))
      · skip
        refine ao_skip rfl rfl b33 ?_
        refine ao_skip rfl rfl b33 ?_
        refine ao_skip rfl rfl b33 ?_
        refine ao_q (v := (.bool false)) go0 rfl (aq_pkf rfl b33 rfl) ?_
        refine ao_q (v := (.bool false)) go0 rfl (aq_mv rfl) ?_
        refine ao_q (v := (.ptr 0 0 0 0)) (go1 rfl rfl rfl) rfl (aq_fap fi58_0 rfl rfl (show 0 + 0 ≤ 3 by decide) rfl) ?_
        refine ao_q (v := (i64 p1.count)) (go1 rfl rfl rfl) rfl (aq_ldp ti3 rfl rfl rfl rfl) ?_
        refine ao_q (v := (.bool (decide (p1.count = 0)))) (go1 rfl rfl rfl) rfl (aq_eq rfl rfl) ?_
        refine ao_q (v := (.bool (decide (p1.count = 0)))) (go1 rfl rfl rfl) rfl (aq_mv rfl) ?_
        rcases Sh.ite_some h1 with ⟨b36, h1⟩ | ⟨b36, h1⟩
        · skip
          refine ao_q (v := (.ptr 0 0 0 2)) (go1 rfl rfl b36) rfl (aq_fap fi58_2 rfl rfl (show 0 + 2 ≤ 3 by decide) rfl) ?_
          refine ao_q (v := (.sl (List.map eI p1.fields))) (go1 rfl rfl b36) rfl (aq_ldp ti23 rfl rfl rfl rfl) ?_
          refine ao_q (v := (i64 (Sh.len p1.fields))) (go1 rfl rfl b36) rfl (aq_lens sl23 rfl) ?_
          refine ao_q (v := (.bool (decide (0 < (Sh.len p1.fields))))) (go1 rfl rfl b36) rfl (aq_gt rfl rfl) ?_
          refine ao_q (v := (.bool (decide (0 < (Sh.len p1.fields))))) (go1 rfl rfl rfl) rfl (aq_pkt rfl b36 rfl) ?_
          refine ao_q (v := (.bool (decide (0 < (Sh.len p1.fields))))) go0 rfl (aq_pkf rfl rfl rfl) ?_
          exact AO.done (M11 (decide (0 < (Sh.len p1.fields))) (Sh.some_eq h1).symm _ (Wk.to (L := [(0, (.sl (List.map eCell p0))), (3, (.ptr 0 0 0 0)), (44, (.bool (decide (0 < (Sh.len p1.fields)))))]) ⟨.rfl, .rfl, .rfl, trivial⟩))
        · skip
          refine ao_skip rfl rfl b36 ?_
          refine ao_skip rfl rfl b36 ?_
          refine ao_skip rfl rfl b36 ?_
          refine ao_skip rfl rfl b36 ?_
          refine ao_q (v := (.bool false)) (go1 rfl rfl rfl) rfl (aq_pkf rfl b36 rfl) ?_
          refine ao_q (v := (.bool false)) go0 rfl (aq_pkf rfl rfl rfl) ?_
          exact AO.done (M11 false (Sh.some_eq h1).symm _ (Wk.to (L := [(0, (.sl (List.map eCell p0))), (3, (.ptr 0 0 0 0)), (44, (.bool false))]) ⟨.rfl, .rfl, .rfl, trivial⟩))
  refine AW.regionO (by rfl) ?_
  refine ao_q (v := (.ptr 0 0 0 0)) go0 rfl (aq_fap fi58_0 rfl rfl (show 0 + 0 ≤ 3 by decide) rfl) ?_
  refine ao_q (v := (i64 p1.count)) go0 rfl (aq_ldp ti3 rfl rfl rfl rfl) ?_
  refine ao_q (v := (.bool (decide (p1.count < (-1))))) go0 rfl (aq_lt rfl rfl) ?_
  refine ao_q (v := (.bool (decide (p1.count < (-1))))) go0 rfl (aq_mv rfl) ?_
  rcases Sh.ite_some h1 with ⟨b37, h1⟩ | ⟨b37, h1⟩
  · skip
    refine ao_skip rfl rfl b37 ?_
    refine ao_skip rfl rfl b37 ?_
    refine ao_skip rfl rfl b37 ?_
    refine ao_q (v := (.bool true)) go0 rfl (aq_pkt rfl b37 rfl) ?_
    refine ao_q (v := (.bool true)) go0 rfl (aq_mv rfl) ?_
    refine ao_skip rfl rfl rfl ?_
    refine ao_skip rfl rfl rfl ?_
    refine ao_skip rfl rfl rfl ?_
    refine ao_q (v := (.bool true)) go0 rfl (aq_pkt rfl rfl rfl) ?_
    refine ao_q (v := (.bool true)) go0 rfl (aq_mv rfl) ?_
    refine ao_skip rfl rfl rfl ?_
    refine ao_skip rfl rfl rfl ?_
    refine ao_skip rfl rfl rfl ?_
    refine ao_skip rfl rfl rfl ?_
    refine ao_q (v := (.bool true)) go0 rfl (aq_pkt rfl rfl rfl) ?_
    exact AO.done (M5 true (Sh.some_eq h1).symm _ (Wk.to (L := [(0, (.sl (List.map eCell p0))), (3, (.ptr 0 0 0 0)), (25, (.bool true))]) ⟨.rfl, .rfl, .rfl, trivial⟩))
  · skip
    refine ao_q (v := (.ptr 0 0 0 1)) (go1 rfl rfl b37) rfl (aq_fap fi58_1 rfl rfl (show 0 + 1 ≤ 3 by decide) rfl) ?_
    refine ao_q (v := (i64 p1.tag)) (go1 rfl rfl b37) rfl (aq_ldp ti3 rfl rfl rfl rfl) ?_
    refine ao_q (v := (.bool (decide (p1.tag < 0)))) (go1 rfl rfl b37) rfl (aq_lt rfl rfl) ?_
    refine ao_q (v := (.bool (decide (p1.tag < 0)))) go0 rfl (aq_pkf rfl b37 rfl) ?_
    refine ao_q (v := (.bool (decide (p1.tag < 0)))) go0 rfl (aq_mv rfl) ?_
    rcases Sh.ite_some h1 with ⟨b38, h1⟩ | ⟨b38, h1⟩
    · skip
      refine ao_skip rfl rfl b38 ?_
      refine ao_skip rfl rfl b38 ?_
      refine ao_skip rfl rfl b38 ?_
      refine ao_q (v := (.bool true)) go0 rfl (aq_pkt rfl b38 rfl) ?_
      refine ao_q (v := (.bool true)) go0 rfl (aq_mv rfl) ?_
      refine ao_skip rfl rfl rfl ?_
      refine ao_skip rfl rfl rfl ?_
      refine ao_skip rfl rfl rfl ?_
      refine ao_skip rfl rfl rfl ?_
      refine ao_q (v := (.bool true)) go0 rfl (aq_pkt rfl rfl rfl) ?_
      exact AO.done (M5 true (Sh.some_eq h1).symm _ (Wk.to (L := [(0, (.sl (List.map eCell p0))), (3, (.ptr 0 0 0 0)), (25, (.bool true))]) ⟨.rfl, .rfl, .rfl, trivial⟩))
    · skip
      refine ao_q (v := (.ptr 0 0 0 1)) (go1 rfl rfl b38) rfl (aq_fap fi58_1 rfl rfl (show 0 + 1 ≤ 3 by decide) rfl) ?_
      refine ao_q (v := (i64 p1.tag)) (go1 rfl rfl b38) rfl (aq_ldp ti3 rfl rfl rfl rfl) ?_
      refine ao_q (v := (.bool (decide (99 < p1.tag)))) (go1 rfl rfl b38) rfl (aq_gt rfl rfl) ?_
      refine ao_q (v := (.bool (decide (99 < p1.tag)))) go0 rfl (aq_pkf rfl b38 rfl) ?_
      refine ao_q (v := (.bool (decide (99 < p1.tag)))) go0 rfl (aq_mv rfl) ?_
      rcases Sh.ite_some h1 with ⟨b39, h1⟩ | ⟨b39, h1⟩
      · skip
        refine ao_skip rfl rfl b39 ?_
        refine ao_skip rfl rfl b39 ?_
        refine ao_skip rfl rfl b39 ?_
        refine ao_skip rfl rfl b39 ?_
        refine ao_q (v := (.bool true)) go0 rfl (aq_pkt rfl b39 rfl) ?_
        exact AO.done (M5 true (Sh.some_eq h1).symm _ (Wk.to (L := [(0, (.sl (List.map eCell p0))), (3, (.ptr 0 0 0 0)), (25, (.bool true))]) ⟨.rfl, .rfl, .rfl, trivial⟩))
      · skip
        refine ao_q (v := (.ptr 0 0 0 2)) (go1 rfl rfl b39) rfl (aq_fap fi58_2 rfl rfl (show 0 + 2 ≤ 3 by decide) rfl) ?_
        refine ao_q (v := (.sl (List.map eI p1.fields))) (go1 rfl rfl b39) rfl (aq_ldp ti23 rfl rfl rfl rfl) ?_
        refine ao_q (v := (i64 (Sh.len p1.fields))) (go1 rfl rfl b39) rfl (aq_lens sl23 rfl) ?_
        refine ao_q (v := (.bool (decide (3 < (Sh.len p1.fields))))) (go1 rfl rfl b39) rfl (aq_gt rfl rfl) ?_
        refine ao_q (v := (.bool (decide (3 < (Sh.len p1.fields))))) go0 rfl (aq_pkf rfl b39 rfl) ?_
        exact AO.done (M5 (decide (3 < (Sh.len p1.fields))) (Sh.some_eq h1).symm _ (Wk.to (L := [(0, (.sl (List.map eCell p0))), (3, (.ptr 0 0 0 0)), (25, (.bool (decide (3 < (Sh.len p1.fields)))))]) ⟨.rfl, .rfl, .rfl, trivial⟩))

end Go.Proofs.Ytcpedchmkhlpnaa
