import Derived.Test.YtkmgpbngemdmoaaProg
import Derived.Test.YtkmgpbngemdmoaaSADefs
namespace Go.Proofs.Ytkmgpbngemdmoaa
open Go Go.Abs RC

theorem ei104 : einfo Try.prog 104 = some ⟨24, 2, 32, [.sl [], .int .i64 0]⟩ := by kernel_rfl
theorem ei22 : einfo Try.prog 22 = some ⟨106, 5, 72, [.int .i64 0, .int .i64 0, .int .i64 0, .sl [], .sl []]⟩ := by kernel_rfl
theorem ei27 : einfo Try.prog 27 = some ⟨76, 5, 72, [.int .i64 0, .int .i64 0, .int .i64 0, .sl [], .sl []]⟩ := by kernel_rfl
theorem ei34 : einfo Try.prog 34 = some ⟨3, 1, 8, [.int .i64 0]⟩ := by kernel_rfl
theorem ei74 : einfo Try.prog 74 = some ⟨29, 2, 32, [.sl [], .int .i64 0]⟩ := by kernel_rfl
theorem fi106_0 : finfo Try.prog 106 0 = some 0 := by kernel_rfl
theorem fi106_1 : finfo Try.prog 106 1 = some 1 := by kernel_rfl
theorem fi106_2 : finfo Try.prog 106 2 = some 2 := by kernel_rfl
theorem fi106_3 : finfo Try.prog 106 3 = some 3 := by kernel_rfl
theorem fi106_4 : finfo Try.prog 106 4 = some 4 := by kernel_rfl
theorem fi24_0 : finfo Try.prog 24 0 = some 0 := by kernel_rfl
theorem fi24_1 : finfo Try.prog 24 1 = some 1 := by kernel_rfl
theorem fi29_0 : finfo Try.prog 29 0 = some 0 := by kernel_rfl
theorem fi29_1 : finfo Try.prog 29 1 = some 1 := by kernel_rfl
theorem fi76_0 : finfo Try.prog 76 0 = some 0 := by kernel_rfl
theorem fi76_1 : finfo Try.prog 76 1 = some 1 := by kernel_rfl
theorem fi76_2 : finfo Try.prog 76 2 = some 2 := by kernel_rfl
theorem fi76_3 : finfo Try.prog 76 3 = some 3 := by kernel_rfl
theorem fi76_4 : finfo Try.prog 76 4 = some 4 := by kernel_rfl
theorem hb117 : hasBody Try.prog 117 = true := by kernel_rfl
theorem hb118 : hasBody Try.prog 118 = true := by kernel_rfl
theorem hb119 : hasBody Try.prog 119 = true := by kernel_rfl
theorem hb12 : hasBody Try.prog 12 = true := by kernel_rfl
theorem hb120 : hasBody Try.prog 120 = true := by kernel_rfl
theorem hb13 : hasBody Try.prog 13 = true := by kernel_rfl
theorem hb14 : hasBody Try.prog 14 = true := by kernel_rfl
theorem hb15 : hasBody Try.prog 15 = true := by kernel_rfl
theorem hb16 : hasBody Try.prog 16 = true := by kernel_rfl
theorem hb36 : hasBody Try.prog 36 = true := by kernel_rfl
theorem hb42 : hasBody Try.prog 42 = true := by kernel_rfl
theorem hb43 : hasBody Try.prog 43 = true := by kernel_rfl
theorem hb44 : hasBody Try.prog 44 = true := by kernel_rfl
theorem hb45 : hasBody Try.prog 45 = true := by kernel_rfl
theorem hb46 : hasBody Try.prog 46 = true := by kernel_rfl
theorem hb47 : hasBody Try.prog 47 = true := by kernel_rfl
theorem hb48 : hasBody Try.prog 48 = true := by kernel_rfl
theorem hb49 : hasBody Try.prog 49 = true := by kernel_rfl
theorem hb50 : hasBody Try.prog 50 = true := by kernel_rfl
theorem hb51 : hasBody Try.prog 51 = true := by kernel_rfl
theorem hb53 : hasBody Try.prog 53 = true := by kernel_rfl
theorem hb56 : hasBody Try.prog 56 = true := by kernel_rfl
theorem hb68 : hasBody Try.prog 68 = true := by kernel_rfl
theorem hb74 : hasBody Try.prog 74 = true := by kernel_rfl
theorem hb75 : hasBody Try.prog 75 = true := by kernel_rfl
theorem hb76 : hasBody Try.prog 76 = true := by kernel_rfl
theorem hb77 : hasBody Try.prog 77 = true := by kernel_rfl
theorem hb78 : hasBody Try.prog 78 = true := by kernel_rfl
theorem hb79 : hasBody Try.prog 79 = true := by kernel_rfl
theorem hb80 : hasBody Try.prog 80 = true := by kernel_rfl
theorem hb81 : hasBody Try.prog 81 = true := by kernel_rfl
theorem sl104 : isSliceT Try.prog 104 = true := by kernel_rfl
theorem sl22 : isSliceT Try.prog 22 = true := by kernel_rfl
theorem sl27 : isSliceT Try.prog 27 = true := by kernel_rfl
theorem sl34 : isSliceT Try.prog 34 = true := by kernel_rfl
theorem sl74 : isSliceT Try.prog 74 = true := by kernel_rfl
theorem ti104 : tinfo Try.prog 104 = some (false, 1) := by kernel_rfl
theorem ti106 : tinfo Try.prog 106 = some (true, 5) := by kernel_rfl
theorem ti22 : tinfo Try.prog 22 = some (false, 1) := by kernel_rfl
theorem ti24 : tinfo Try.prog 24 = some (true, 2) := by kernel_rfl
theorem ti27 : tinfo Try.prog 27 = some (false, 1) := by kernel_rfl
theorem ti29 : tinfo Try.prog 29 = some (true, 2) := by kernel_rfl
theorem ti3 : tinfo Try.prog 3 = some (false, 1) := by kernel_rfl
theorem ti34 : tinfo Try.prog 34 = some (false, 1) := by kernel_rfl
theorem ti4 : tinfo Try.prog 4 = some (false, 1) := by kernel_rfl
theorem ti74 : tinfo Try.prog 74 = some (false, 1) := by kernel_rfl
theorem ti76 : tinfo Try.prog 76 = some (true, 5) := by kernel_rfl
theorem zi29 : zinfo Try.prog 29 = some [.zc, .int .i64 0] := by kernel_rfl
theorem zi3 : zinfo Try.prog 3 = some [.int .i64 0] := by kernel_rfl
theorem zi4 : zinfo Try.prog 4 = some [.bool false] := by kernel_rfl
theorem zi76 : zinfo Try.prog 76 = some [.int .i64 0, .int .i64 0, .int .i64 0, .zc, .zc] := by kernel_rfl

set_option maxRecDepth 100000 in
set_option maxHeartbeats 4000000 in
theorem laws_szIntS_ok {p0 : (List Int)} {p1 : Int} {r : Int} (h0 : laws_szIntS p0 p1 = some r) : ACalls Try.prog 53 [(.sl (List.map eI p0)), (i64 p1)] [] (fun v st => v = (i64 r) ∧ st = []) := by
  unfold laws_szIntS at h0
  refine ACalls.intro Try.func53 rfl (by show 2 ≤ 12; decide) ?_
  show AW _ 0 _ (aret _ 0 Try.f53 _) ⟨12, _, _⟩
  refine AW.weaken (Wk.to (L := [(0, (.sl (List.map eI p0))), (1, (i64 p1))]) ⟨.rfl, .rfl, trivial⟩) ?_
  refine AW.seq fun K1 hK1 => ?_
  refine AW.regionO (by rfl) ?_
  refine ao_q (v := (i64 0)) go0 rfl (aq_as rfl) ?_
  refine AO.done (hK1 _ ?_)
  refine AW.seq fun K2 hK2 => ?_
  refine AW.regionO (by rfl) ?_
  refine ao_q (v := (i64 p1)) go0 rfl (aq_mv rfl) ?_
  refine ao_q (v := (.sl (List.map eI p0))) go0 rfl (aq_mv rfl) ?_
  refine ao_q (v := (i64 (Sh.len p0))) go0 rfl (aq_lens sl34 rfl) ?_
  refine ao_q (v := (i64 (Sh.w (p1 - (Sh.len p0))))) go0 rfl (aq_sub rfl rfl) ?_
  refine ao_q (v := (i64 (Sh.w (p1 - (Sh.len p0))))) go0 rfl (aq_as rfl) ?_
  refine AO.done (hK2 _ ?_)
  refine AW.seq fun K3 hK3 => ?_
  refine AW.seq fun K4 hK4 => ?_
  refine AW.regionO (by rfl) ?_
  refine ao_q (v := (i64 (Sh.w (p1 - (Sh.len p0))))) go0 rfl (aq_mv rfl) ?_
  refine ao_q (v := (.bool (decide ((Sh.w (p1 - (Sh.len p0))) < 0)))) go0 rfl (aq_lt rfl rfl) ?_
  refine AO.done (hK4 _ ?_)
  refine AW.cond' (b := decide ((Sh.w (p1 - (Sh.len p0))) < 0)) rfl (fun b5 => ?_) (fun b5 => ?_)
  · replace h0 := Sh.ite_t b5 h0
    refine AW.seq fun K6 hK6 => ?_
    refine AW.regionO (by rfl) ?_
    refine ao_q (v := (i64 (-1))) go0 rfl (aq_as rfl) ?_
    refine AO.done (hK6 _ ?_)
    replace h0 := Sh.some_eq h0
    subst r
    exact AW.ret (Exists.intro _ (And.intro (Wk.to (L := [(4, (i64 (-1)))]) ⟨.rfl, trivial⟩) (And.intro rfl rfl)))
  · replace h0 := Sh.ite_f b5 h0
    refine AW.skip (hK3 _ ?_)
    refine AW.seq fun K7 hK7 => ?_
    refine AW.regionO (by rfl) ?_
    refine ao_q (v := (i64 (Sh.w (p1 - (Sh.len p0))))) go0 rfl (aq_mv rfl) ?_
    refine ao_q (v := (i64 (Sh.w (p1 - (Sh.len p0))))) go0 rfl (aq_as rfl) ?_
    refine AO.done (hK7 _ ?_)
    replace h0 := Sh.some_eq h0
    subst r
    exact AW.ret (Exists.intro _ (And.intro (Wk.to (L := [(4, (i64 (Sh.w (p1 - (Sh.len p0)))))]) ⟨.rfl, trivial⟩) (And.intro rfl rfl)))

set_option maxRecDepth 100000 in
set_option maxHeartbeats 4000000 in
theorem laws_szBlockS_ok {N : Nat} {rec_laws_szBlock : Block → Int → Option (Int)} (hrec_laws_szBlock : ∀ {p0 : Block} {p1 : Int} {r : Int}, rec_laws_szBlock p0 p1 = some r → ACalls Try.prog 12 [(.agg [(.sl (List.map eStep p0.steps)), (i64 p0.result)]), (i64 p1)] [] (fun v st => v = (i64 r) ∧ st = [])) {p0 : (List Block)} {p1 : Int} {r : Int} (h0 : laws_szBlockS N rec_laws_szBlock p0 p1 = some r) : ACalls Try.prog 117 [(.sl (List.map eBlock p0)), (i64 p1)] [] (fun v st => v = (i64 r) ∧ st = []) := by
  unfold laws_szBlockS at h0
  refine ACalls.intro Try.func117 rfl (by show 2 ≤ 27; decide) ?_
  show AW _ 0 _ (aret _ 0 Try.f117 _) ⟨27, _, _⟩
  refine AW.weaken (Wk.to (L := [(0, (.sl (List.map eBlock p0))), (1, (i64 p1))]) ⟨.rfl, .rfl, trivial⟩) ?_
  refine AW.seq fun K1 hK1 => ?_
  refine AW.regionO (by rfl) ?_
  refine ao_q (v := (i64 0)) go0 rfl (aq_as rfl) ?_
  refine AO.done (hK1 _ ?_)
  refine AW.seq fun K2 hK2 => ?_
  refine AW.regionO (by rfl) ?_
  refine ao_q (v := (i64 p1)) go0 rfl (aq_mv rfl) ?_
  refine ao_q (v := (.sl (List.map eBlock p0))) go0 rfl (aq_mv rfl) ?_
  refine ao_q (v := (i64 (Sh.len p0))) go0 rfl (aq_lens sl104 rfl) ?_
  refine ao_q (v := (i64 (Sh.w (p1 - (Sh.len p0))))) go0 rfl (aq_sub rfl rfl) ?_
  refine ao_q (v := (i64 (Sh.w (p1 - (Sh.len p0))))) go0 rfl (aq_as rfl) ?_
  refine AO.done (hK2 _ ?_)
  refine AW.seq fun K3 hK3 => ?_
  refine AW.seq fun K4 hK4 => ?_
  refine AW.regionO (by rfl) ?_
  refine ao_q (v := (i64 (Sh.w (p1 - (Sh.len p0))))) go0 rfl (aq_mv rfl) ?_
  refine ao_q (v := (.bool (decide ((Sh.w (p1 - (Sh.len p0))) < 0)))) go0 rfl (aq_lt rfl rfl) ?_
  refine AO.done (hK4 _ ?_)
  refine AW.cond' (b := decide ((Sh.w (p1 - (Sh.len p0))) < 0)) rfl (fun b5 => ?_) (fun b5 => ?_)
  · replace h0 := Sh.ite_t b5 h0
    refine AW.seq fun K6 hK6 => ?_
    refine AW.regionO (by rfl) ?_
    refine ao_q (v := (i64 (-1))) go0 rfl (aq_as rfl) ?_
    refine AO.done (hK6 _ ?_)
    replace h0 := Sh.some_eq h0
    subst r
    exact AW.ret (Exists.intro _ (And.intro (Wk.to (L := [(4, (i64 (-1)))]) ⟨.rfl, trivial⟩) (And.intro rfl rfl)))
  · replace h0 := Sh.ite_f b5 h0
    refine AW.skip (hK3 _ ?_)
    refine AW.seq fun K7 hK7 => ?_
    refine AW.seq fun K8 hK8 => ?_
    refine AW.regionO (by rfl) ?_
    refine ao_q (v := (i64 0)) go0 rfl (aq_as rfl) ?_
    refine AO.done (hK8 _ ?_)
    obtain ⟨o12, h1, h0⟩ := Sh.cont_some h0
    have M12 : ∀ (left11 : Int), o12 = Sum.inr left11 → ∀ s, Wk 0 s ⟨27, envL [(1, (i64 left11))], []⟩ → K7 s := by
      intro left11 hq s hw
      subst o12
      try dsimp only at h0
      refine hK7 _ (AW.weaken hw ?_)
      refine AW.seq fun K13 hK13 => ?_
      refine AW.regionO (by rfl) ?_
      refine ao_q (v := (i64 left11)) go0 rfl (aq_mv rfl) ?_
      refine ao_q (v := (i64 left11)) go0 rfl (aq_as rfl) ?_
      refine AO.done (hK13 _ ?_)
      replace h0 := Sh.some_eq h0
      subst r
      exact AW.ret (Exists.intro _ (And.intro (Wk.to (L := [(4, (i64 left11))]) ⟨.rfl, trivial⟩) (And.intro rfl rfl)))
    refine AW.block (AW.loopF (σ := Int × Int) (fun n v => laws_szBlockS_L1 p0 rec_laws_szBlock n v.1 v.2 = some o12) (fun (left9, i10) => ⟨27, envL [(0, (.sl (List.map eBlock p0))), (1, (i64 left9)), (5, (i64 i10))], []⟩) N (Sh.w (p1 - (Sh.len p0)), 0) h1 (Wk.to (L := [(0, (.sl (List.map eBlock p0))), (1, (i64 (Sh.w (p1 - (Sh.len p0))))), (5, (i64 0))]) ⟨.rfl, .rfl, .rfl, trivial⟩) (fun _ hv => by rw [laws_szBlockS_L1] at hv; cases hv) ?_)
    rintro n ⟨left9, i10⟩ h1
    try dsimp only at h1 ⊢
    rw [laws_szBlockS_L1] at h1
    refine AW.seq fun K14 hK14 => ?_
    refine AW.seq fun K15 hK15 => ?_
    refine AW.regionO (by rfl) ?_
    refine ao_q (v := (i64 i10)) go0 rfl (aq_mv rfl) ?_
    refine ao_q (v := (.sl (List.map eBlock p0))) go0 rfl (aq_mv rfl) ?_
    refine ao_q (v := (i64 (Sh.len p0))) go0 rfl (aq_lens sl104 rfl) ?_
    refine ao_q (v := (.bool (decide (i10 < (Sh.len p0))))) go0 rfl (aq_lt rfl rfl) ?_
    refine AO.done (hK15 _ ?_)
    refine AW.cond' (b := decide (i10 < (Sh.len p0))) rfl (fun b16 => ?_) (fun b16 => ?_)
    · replace h1 := Sh.ite_t b16 h1
      refine AW.skip (hK14 _ ?_)
      refine AW.seq fun K17 hK17 => ?_
      refine AW.block ?_
      refine AW.seq fun K18 hK18 => ?_
      refine AW.regionO (by rfl) ?_
      refine ao_q (v := (.sl (List.map eBlock p0))) go0 rfl (aq_mv rfl) ?_
      refine ao_q (v := (i64 i10)) go0 rfl (aq_mv rfl) ?_
      obtain ⟨c19, gc19, h1⟩ := Sh.bind_some h1
      refine ao_q (v := (.iptr (eBlock c19) 0)) go0 rfl (aq_ixs ei104 rfl rfl gc19 rfl) ?_
      refine ao_q (v := (.agg [(.sl (List.map eStep c19.steps)), (i64 c19.result)])) go0 rfl (aq_ldia ti24 rfl (show 0 + 2 ≤ 2 by decide) rfl) ?_
      refine ao_q (v := (i64 left9)) go0 rfl (aq_mv rfl) ?_
      obtain ⟨q20, gq20, h1⟩ := Sh.bind_some h1
      refine ao_call (v' := (i64 q20)) (st' := []) go0 hb12 (hrec_laws_szBlock gq20) rfl rfl trivial rfl rfl ?_
      refine ao_q (v := (i64 q20)) go0 rfl (aq_as rfl) ?_
      refine AO.done (hK18 _ ?_)
      refine AW.seq fun K21 hK21 => ?_
      refine AW.regionO (by rfl) ?_
      refine ao_q (v := (i64 q20)) go0 rfl (aq_mv rfl) ?_
      refine ao_q (v := (.bool (decide (q20 < 0)))) go0 rfl (aq_lt rfl rfl) ?_
      refine AO.done (hK21 _ ?_)
      refine AW.cond' (b := decide (q20 < 0)) rfl (fun b22 => ?_) (fun b22 => ?_)
      · replace h1 := Sh.ite_t b22 h1
        refine AW.seq fun K23 hK23 => ?_
        refine AW.regionO (by rfl) ?_
        refine ao_q (v := (i64 (-1))) go0 rfl (aq_as rfl) ?_
        refine AO.done (hK23 _ ?_)
        replace h1 := Sh.some_eq h1
        subst o12
        try dsimp only [id] at h0
        replace h0 := Sh.some_eq h0
        subst r
        exact AW.ret (Exists.intro _ (And.intro (Wk.to (L := [(4, (i64 (-1)))]) ⟨.rfl, trivial⟩) (And.intro rfl rfl)))
      · replace h1 := Sh.ite_f b22 h1
        refine AW.skip (hK17 _ ?_)
        refine AW.regionO (by rfl) ?_
        refine ao_q (v := (i64 i10)) go0 rfl (aq_mv rfl) ?_
        refine ao_q (v := (i64 (Sh.w (i10 + 1)))) go0 rfl (aq_add rfl rfl) ?_
        refine ao_q (v := (i64 (Sh.w (i10 + 1)))) go0 rfl (aq_as rfl) ?_
        exact AO.done (Exists.intro (q20, Sh.w (i10 + 1)) (And.intro h1 (Wk.to (L := [(0, (.sl (List.map eBlock p0))), (1, (i64 q20)), (5, (i64 (Sh.w (i10 + 1))))]) ⟨.rfl, .rfl, .rfl, trivial⟩)))
    · replace h1 := Sh.ite_f b16 h1
      exact AW.exit (M12 left9 (Sh.some_eq h1).symm _ (Wk.to (L := [(1, (i64 left9))]) ⟨.rfl, trivial⟩))

set_option maxRecDepth 100000 in
set_option maxHeartbeats 4000000 in
theorem laws_szStep_ok {N : Nat} {rec_laws_szBlock : Block → Int → Option (Int)} (hrec_laws_szBlock : ∀ {p0 : Block} {p1 : Int} {r : Int}, rec_laws_szBlock p0 p1 = some r → ACalls Try.prog 12 [(.agg [(.sl (List.map eStep p0.steps)), (i64 p0.result)]), (i64 p1)] [] (fun v st => v = (i64 r) ∧ st = [])) {p0 : Step} {p1 : Int} {r : Int} (h0 : laws_szStep N rec_laws_szBlock p0 p1 = some r) : ACalls Try.prog 74 [(.agg [(i64 p0.op), (i64 p0.num), (i64 p0.into), (.sl (List.map eI p0.args)), (.sl (List.map eBlock p0.kids))]), (i64 p1)] [] (fun v st => v = (i64 r) ∧ st = []) := by
  unfold laws_szStep at h0
  refine ACalls.intro Try.func74 rfl (by show 2 ≤ 18; decide) ?_
  show AW _ 0 _ (aret _ 0 Try.f74 _) ⟨18, _, _⟩
  refine AW.weaken (Wk.to (L := [(0, (.agg [(i64 p0.op), (i64 p0.num), (i64 p0.into), (.sl (List.map eI p0.args)), (.sl (List.map eBlock p0.kids))])), (1, (i64 p1))]) ⟨.rfl, .rfl, trivial⟩) ?_
  refine AW.seq fun K1 hK1 => ?_
  refine AW.regionO (by rfl) ?_
  refine ao_box (m := 0) (st' := [⟨0, 106, 5, [[(i64 p0.op), (i64 p0.num), (i64 p0.into), (.sl (List.map eI p0.args)), (.sl (List.map eBlock p0.kids))]]⟩]) go0 rfl rfl rfl rfl rfl ?_
  refine ao_q (v := (i64 0)) go0 rfl (aq_as rfl) ?_
  refine AO.done (hK1 _ ?_)
  refine AW.seq fun K2 hK2 => ?_
  refine AW.regionO (by rfl) ?_
  refine ao_q (v := (.ptr 0 0 0 3)) go0 rfl (aq_fap fi106_3 rfl rfl (show 0 + 3 ≤ 5 by decide) rfl) ?_
  refine ao_q (v := (.sl (List.map eI p0.args))) go0 rfl (aq_ldp ti34 rfl rfl rfl rfl) ?_
  refine ao_q (v := (i64 p1)) go0 rfl (aq_mv rfl) ?_
  obtain ⟨q3, gq3, h0⟩ := Sh.bind_some h0
  refine ao_call (v' := (i64 q3)) (st' := [⟨0, 106, 5, [[(i64 p0.op), (i64 p0.num), (i64 p0.into), (.sl (List.map eI p0.args)), (.sl (List.map eBlock p0.kids))]]⟩]) go0 hb53 (laws_szIntS_ok gq3) rfl rfl trivial rfl rfl ?_
  refine ao_q (v := (i64 q3)) go0 rfl (aq_as rfl) ?_
  refine AO.done (hK2 _ ?_)
  refine AW.seq fun K4 hK4 => ?_
  refine AW.seq fun K5 hK5 => ?_
  refine AW.regionO (by rfl) ?_
  refine ao_q (v := (i64 q3)) go0 rfl (aq_mv rfl) ?_
  refine ao_q (v := (.bool (decide (q3 < 0)))) go0 rfl (aq_lt rfl rfl) ?_
  refine AO.done (hK5 _ ?_)
  refine AW.cond' (b := decide (q3 < 0)) rfl (fun b6 => ?_) (fun b6 => ?_)
  · replace h0 := Sh.ite_t b6 h0
    refine AW.seq fun K7 hK7 => ?_
    refine AW.regionO (by rfl) ?_
    refine ao_q (v := (i64 (-1))) go0 rfl (aq_as rfl) ?_
    refine AO.done (hK7 _ ?_)
    replace h0 := Sh.some_eq h0
    subst r
    exact AW.ret (Exists.intro _ (And.intro ((Wk.permk (L := [(4, (i64 (-1)))]) (st' := []) (st1 := []) [] rfl .nil (by decide) rfl rfl .nil ⟨.rfl, trivial⟩).trans (Wk.to (L := [(4, (i64 (-1)))]) ⟨.rfl, trivial⟩)) (And.intro rfl rfl)))
  · replace h0 := Sh.ite_f b6 h0
    refine AW.skip (hK4 _ ?_)
    refine AW.seq fun K8 hK8 => ?_
    refine AW.regionO (by rfl) ?_
    refine ao_q (v := (.ptr 0 0 0 4)) go0 rfl (aq_fap fi106_4 rfl rfl (show 0 + 4 ≤ 5 by decide) rfl) ?_
    refine ao_q (v := (.sl (List.map eBlock p0.kids))) go0 rfl (aq_ldp ti104 rfl rfl rfl rfl) ?_
    refine ao_q (v := (i64 q3)) go0 rfl (aq_mv rfl) ?_
    obtain ⟨q9, gq9, h0⟩ := Sh.bind_some h0
    refine ao_call (v' := (i64 q9)) (st' := [⟨0, 106, 5, [[(i64 p0.op), (i64 p0.num), (i64 p0.into), (.sl (List.map eI p0.args)), (.sl (List.map eBlock p0.kids))]]⟩]) go0 hb117 (laws_szBlockS_ok hrec_laws_szBlock gq9) rfl rfl trivial rfl rfl ?_
    refine ao_q (v := (i64 q9)) go0 rfl (aq_as rfl) ?_
    refine AO.done (hK8 _ ?_)
    refine AW.seq fun K10 hK10 => ?_
    refine AW.seq fun K11 hK11 => ?_
    refine AW.regionO (by rfl) ?_
    refine ao_q (v := (i64 q9)) go0 rfl (aq_mv rfl) ?_
    refine ao_q (v := (.bool (decide (q9 < 0)))) go0 rfl (aq_lt rfl rfl) ?_
    refine AO.done (hK11 _ ?_)
    refine AW.cond' (b := decide (q9 < 0)) rfl (fun b12 => ?_) (fun b12 => ?_)
    · replace h0 := Sh.ite_t b12 h0
      refine AW.seq fun K13 hK13 => ?_
      refine AW.regionO (by rfl) ?_
      refine ao_q (v := (i64 (-1))) go0 rfl (aq_as rfl) ?_
      refine AO.done (hK13 _ ?_)
      replace h0 := Sh.some_eq h0
      subst r
      exact AW.ret (Exists.intro _ (And.intro ((Wk.permk (L := [(4, (i64 (-1)))]) (st' := []) (st1 := []) [] rfl .nil (by decide) rfl rfl .nil ⟨.rfl, trivial⟩).trans (Wk.to (L := [(4, (i64 (-1)))]) ⟨.rfl, trivial⟩)) (And.intro rfl rfl)))
    · replace h0 := Sh.ite_f b12 h0
      refine AW.skip (hK10 _ ?_)
      refine AW.seq fun K14 hK14 => ?_
      refine AW.regionO (by rfl) ?_
      refine ao_q (v := (i64 q9)) go0 rfl (aq_mv rfl) ?_
      refine ao_q (v := (i64 q9)) go0 rfl (aq_as rfl) ?_
      refine AO.done (hK14 _ ?_)
      replace h0 := Sh.some_eq h0
      subst r
      exact AW.ret (Exists.intro _ (And.intro ((Wk.permk (L := [(4, (i64 q9))]) (st' := []) (st1 := []) [] rfl .nil (by decide) rfl rfl .nil ⟨.rfl, trivial⟩).trans (Wk.to (L := [(4, (i64 q9))]) ⟨.rfl, trivial⟩)) (And.intro rfl rfl)))

set_option maxRecDepth 100000 in
set_option maxHeartbeats 4000000 in
theorem laws_szStepS_ok {N : Nat} {rec_laws_szBlock : Block → Int → Option (Int)} (hrec_laws_szBlock : ∀ {p0 : Block} {p1 : Int} {r : Int}, rec_laws_szBlock p0 p1 = some r → ACalls Try.prog 12 [(.agg [(.sl (List.map eStep p0.steps)), (i64 p0.result)]), (i64 p1)] [] (fun v st => v = (i64 r) ∧ st = [])) {p0 : (List Step)} {p1 : Int} {r : Int} (h0 : laws_szStepS N rec_laws_szBlock p0 p1 = some r) : ACalls Try.prog 42 [(.sl (List.map eStep p0)), (i64 p1)] [] (fun v st => v = (i64 r) ∧ st = []) := by
  unfold laws_szStepS at h0
  refine ACalls.intro Try.func42 rfl (by show 2 ≤ 27; decide) ?_
  show AW _ 0 _ (aret _ 0 Try.f42 _) ⟨27, _, _⟩
  refine AW.weaken (Wk.to (L := [(0, (.sl (List.map eStep p0))), (1, (i64 p1))]) ⟨.rfl, .rfl, trivial⟩) ?_
  refine AW.seq fun K1 hK1 => ?_
  refine AW.regionO (by rfl) ?_
  refine ao_q (v := (i64 0)) go0 rfl (aq_as rfl) ?_
  refine AO.done (hK1 _ ?_)
  refine AW.seq fun K2 hK2 => ?_
  refine AW.regionO (by rfl) ?_
  refine ao_q (v := (i64 p1)) go0 rfl (aq_mv rfl) ?_
  refine ao_q (v := (.sl (List.map eStep p0))) go0 rfl (aq_mv rfl) ?_
  refine ao_q (v := (i64 (Sh.len p0))) go0 rfl (aq_lens sl22 rfl) ?_
  refine ao_q (v := (i64 (Sh.w (p1 - (Sh.len p0))))) go0 rfl (aq_sub rfl rfl) ?_
  refine ao_q (v := (i64 (Sh.w (p1 - (Sh.len p0))))) go0 rfl (aq_as rfl) ?_
  refine AO.done (hK2 _ ?_)
  refine AW.seq fun K3 hK3 => ?_
  refine AW.seq fun K4 hK4 => ?_
  refine AW.regionO (by rfl) ?_
  refine ao_q (v := (i64 (Sh.w (p1 - (Sh.len p0))))) go0 rfl (aq_mv rfl) ?_
  refine ao_q (v := (.bool (decide ((Sh.w (p1 - (Sh.len p0))) < 0)))) go0 rfl (aq_lt rfl rfl) ?_
  refine AO.done (hK4 _ ?_)
  refine AW.cond' (b := decide ((Sh.w (p1 - (Sh.len p0))) < 0)) rfl (fun b5 => ?_) (fun b5 => ?_)
  · replace h0 := Sh.ite_t b5 h0
    refine AW.seq fun K6 hK6 => ?_
    refine AW.regionO (by rfl) ?_
    refine ao_q (v := (i64 (-1))) go0 rfl (aq_as rfl) ?_
    refine AO.done (hK6 _ ?_)
    replace h0 := Sh.some_eq h0
    subst r
    exact AW.ret (Exists.intro _ (And.intro (Wk.to (L := [(4, (i64 (-1)))]) ⟨.rfl, trivial⟩) (And.intro rfl rfl)))
  · replace h0 := Sh.ite_f b5 h0
    refine AW.skip (hK3 _ ?_)
    refine AW.seq fun K7 hK7 => ?_
    refine AW.seq fun K8 hK8 => ?_
    refine AW.regionO (by rfl) ?_
    refine ao_q (v := (i64 0)) go0 rfl (aq_as rfl) ?_
    refine AO.done (hK8 _ ?_)
    obtain ⟨o12, h1, h0⟩ := Sh.cont_some h0
    have M12 : ∀ (left11 : Int), o12 = Sum.inr left11 → ∀ s, Wk 0 s ⟨27, envL [(1, (i64 left11))], []⟩ → K7 s := by
      intro left11 hq s hw
      subst o12
      try dsimp only at h0
      refine hK7 _ (AW.weaken hw ?_)
      refine AW.seq fun K13 hK13 => ?_
      refine AW.regionO (by rfl) ?_
      refine ao_q (v := (i64 left11)) go0 rfl (aq_mv rfl) ?_
      refine ao_q (v := (i64 left11)) go0 rfl (aq_as rfl) ?_
      refine AO.done (hK13 _ ?_)
      replace h0 := Sh.some_eq h0
      subst r
      exact AW.ret (Exists.intro _ (And.intro (Wk.to (L := [(4, (i64 left11))]) ⟨.rfl, trivial⟩) (And.intro rfl rfl)))
    refine AW.block (AW.loopF (σ := Int × Int) (fun n v => laws_szStepS_L1 N p0 rec_laws_szBlock n v.1 v.2 = some o12) (fun (left9, i10) => ⟨27, envL [(0, (.sl (List.map eStep p0))), (1, (i64 left9)), (5, (i64 i10))], []⟩) N (Sh.w (p1 - (Sh.len p0)), 0) h1 (Wk.to (L := [(0, (.sl (List.map eStep p0))), (1, (i64 (Sh.w (p1 - (Sh.len p0))))), (5, (i64 0))]) ⟨.rfl, .rfl, .rfl, trivial⟩) (fun _ hv => by rw [laws_szStepS_L1] at hv; cases hv) ?_)
    rintro n ⟨left9, i10⟩ h1
    try dsimp only at h1 ⊢
    rw [laws_szStepS_L1] at h1
    refine AW.seq fun K14 hK14 => ?_
    refine AW.seq fun K15 hK15 => ?_
    refine AW.regionO (by rfl) ?_
    refine ao_q (v := (i64 i10)) go0 rfl (aq_mv rfl) ?_
    refine ao_q (v := (.sl (List.map eStep p0))) go0 rfl (aq_mv rfl) ?_
    refine ao_q (v := (i64 (Sh.len p0))) go0 rfl (aq_lens sl22 rfl) ?_
    refine ao_q (v := (.bool (decide (i10 < (Sh.len p0))))) go0 rfl (aq_lt rfl rfl) ?_
    refine AO.done (hK15 _ ?_)
    refine AW.cond' (b := decide (i10 < (Sh.len p0))) rfl (fun b16 => ?_) (fun b16 => ?_)
    · replace h1 := Sh.ite_t b16 h1
      refine AW.skip (hK14 _ ?_)
      refine AW.seq fun K17 hK17 => ?_
      refine AW.block ?_
      refine AW.seq fun K18 hK18 => ?_
      refine AW.regionO (by rfl) ?_
      refine ao_q (v := (.sl (List.map eStep p0))) go0 rfl (aq_mv rfl) ?_
      refine ao_q (v := (i64 i10)) go0 rfl (aq_mv rfl) ?_
      obtain ⟨c19, gc19, h1⟩ := Sh.bind_some h1
      refine ao_q (v := (.iptr [(i64 c19.op), (i64 c19.num), (i64 c19.into), (.sl (List.map eI c19.args)), (.sl (List.map eBlock c19.kids))] 0)) go0 rfl (aq_ixsE ei22 rfl rfl gc19 (eStep_eq _) rfl) ?_
      refine ao_q (v := (.agg [(i64 c19.op), (i64 c19.num), (i64 c19.into), (.sl (List.map eI c19.args)), (.sl (List.map eBlock c19.kids))])) go0 rfl (aq_ldia ti106 rfl (show 0 + 5 ≤ 5 by decide) rfl) ?_
      refine ao_q (v := (i64 left9)) go0 rfl (aq_mv rfl) ?_
      obtain ⟨q20, gq20, h1⟩ := Sh.bind_some h1
      refine ao_call (v' := (i64 q20)) (st' := []) go0 hb74 (laws_szStep_ok hrec_laws_szBlock gq20) rfl rfl trivial rfl rfl ?_
      refine ao_q (v := (i64 q20)) go0 rfl (aq_as rfl) ?_
      refine AO.done (hK18 _ ?_)
      refine AW.seq fun K21 hK21 => ?_
      refine AW.regionO (by rfl) ?_
      refine ao_q (v := (i64 q20)) go0 rfl (aq_mv rfl) ?_
      refine ao_q (v := (.bool (decide (q20 < 0)))) go0 rfl (aq_lt rfl rfl) ?_
      refine AO.done (hK21 _ ?_)
      refine AW.cond' (b := decide (q20 < 0)) rfl (fun b22 => ?_) (fun b22 => ?_)
      · replace h1 := Sh.ite_t b22 h1
        refine AW.seq fun K23 hK23 => ?_
        refine AW.regionO (by rfl) ?_
        refine ao_q (v := (i64 (-1))) go0 rfl (aq_as rfl) ?_
        refine AO.done (hK23 _ ?_)
        replace h1 := Sh.some_eq h1
        subst o12
        try dsimp only [id] at h0
        replace h0 := Sh.some_eq h0
        subst r
        exact AW.ret (Exists.intro _ (And.intro (Wk.to (L := [(4, (i64 (-1)))]) ⟨.rfl, trivial⟩) (And.intro rfl rfl)))
      · replace h1 := Sh.ite_f b22 h1
        refine AW.skip (hK17 _ ?_)
        refine AW.regionO (by rfl) ?_
        refine ao_q (v := (i64 i10)) go0 rfl (aq_mv rfl) ?_
        refine ao_q (v := (i64 (Sh.w (i10 + 1)))) go0 rfl (aq_add rfl rfl) ?_
        refine ao_q (v := (i64 (Sh.w (i10 + 1)))) go0 rfl (aq_as rfl) ?_
        exact AO.done (Exists.intro (q20, Sh.w (i10 + 1)) (And.intro h1 (Wk.to (L := [(0, (.sl (List.map eStep p0))), (1, (i64 q20)), (5, (i64 (Sh.w (i10 + 1))))]) ⟨.rfl, .rfl, .rfl, trivial⟩)))
    · replace h1 := Sh.ite_f b16 h1
      exact AW.exit (M12 left9 (Sh.some_eq h1).symm _ (Wk.to (L := [(1, (i64 left9))]) ⟨.rfl, trivial⟩))

set_option maxRecDepth 100000 in
set_option maxHeartbeats 4000000 in
theorem laws_szBlock_B_ok {N : Nat} {rec_laws_szBlock : Block → Int → Option (Int)} (hrec_laws_szBlock : ∀ {p0 : Block} {p1 : Int} {r : Int}, rec_laws_szBlock p0 p1 = some r → ACalls Try.prog 12 [(.agg [(.sl (List.map eStep p0.steps)), (i64 p0.result)]), (i64 p1)] [] (fun v st => v = (i64 r) ∧ st = [])) {p0 : Block} {p1 : Int} {r : Int} (h0 : laws_szBlock_B N rec_laws_szBlock p0 p1 = some r) : ACalls Try.prog 12 [(.agg [(.sl (List.map eStep p0.steps)), (i64 p0.result)]), (i64 p1)] [] (fun v st => v = (i64 r) ∧ st = []) := by
  unfold laws_szBlock_B at h0
  refine ACalls.intro Try.func12 rfl (by show 2 ≤ 12; decide) ?_
  show AW _ 0 _ (aret _ 0 Try.f12 _) ⟨12, _, _⟩
  refine AW.weaken (Wk.to (L := [(0, (.agg [(.sl (List.map eStep p0.steps)), (i64 p0.result)])), (1, (i64 p1))]) ⟨.rfl, .rfl, trivial⟩) ?_
  refine AW.seq fun K1 hK1 => ?_
  refine AW.regionO (by rfl) ?_
  refine ao_box (m := 0) (st' := [⟨0, 24, 2, [[(.sl (List.map eStep p0.steps)), (i64 p0.result)]]⟩]) go0 rfl rfl rfl rfl rfl ?_
  refine ao_q (v := (i64 0)) go0 rfl (aq_as rfl) ?_
  refine AO.done (hK1 _ ?_)
  refine AW.seq fun K2 hK2 => ?_
  refine AW.regionO (by rfl) ?_
  refine ao_q (v := (.ptr 0 0 0 0)) go0 rfl (aq_fap fi24_0 rfl rfl (show 0 + 0 ≤ 2 by decide) rfl) ?_
  refine ao_q (v := (.sl (List.map eStep p0.steps))) go0 rfl (aq_ldp ti22 rfl rfl rfl rfl) ?_
  refine ao_q (v := (i64 p1)) go0 rfl (aq_mv rfl) ?_
  obtain ⟨q3, gq3, h0⟩ := Sh.bind_some h0
  refine ao_call (v' := (i64 q3)) (st' := [⟨0, 24, 2, [[(.sl (List.map eStep p0.steps)), (i64 p0.result)]]⟩]) go0 hb42 (laws_szStepS_ok hrec_laws_szBlock gq3) rfl rfl trivial rfl rfl ?_
  refine ao_q (v := (i64 q3)) go0 rfl (aq_as rfl) ?_
  refine AO.done (hK2 _ ?_)
  refine AW.seq fun K4 hK4 => ?_
  refine AW.seq fun K5 hK5 => ?_
  refine AW.regionO (by rfl) ?_
  refine ao_q (v := (i64 q3)) go0 rfl (aq_mv rfl) ?_
  refine ao_q (v := (.bool (decide (q3 < 0)))) go0 rfl (aq_lt rfl rfl) ?_
  refine AO.done (hK5 _ ?_)
  refine AW.cond' (b := decide (q3 < 0)) rfl (fun b6 => ?_) (fun b6 => ?_)
  · replace h0 := Sh.ite_t b6 h0
    refine AW.seq fun K7 hK7 => ?_
    refine AW.regionO (by rfl) ?_
    refine ao_q (v := (i64 (-1))) go0 rfl (aq_as rfl) ?_
    refine AO.done (hK7 _ ?_)
    replace h0 := Sh.some_eq h0
    subst r
    exact AW.ret (Exists.intro _ (And.intro ((Wk.permk (L := [(4, (i64 (-1)))]) (st' := []) (st1 := []) [] rfl .nil (by decide) rfl rfl .nil ⟨.rfl, trivial⟩).trans (Wk.to (L := [(4, (i64 (-1)))]) ⟨.rfl, trivial⟩)) (And.intro rfl rfl)))
  · replace h0 := Sh.ite_f b6 h0
    refine AW.skip (hK4 _ ?_)
    refine AW.seq fun K8 hK8 => ?_
    refine AW.regionO (by rfl) ?_
    refine ao_q (v := (i64 q3)) go0 rfl (aq_mv rfl) ?_
    refine ao_q (v := (i64 q3)) go0 rfl (aq_as rfl) ?_
    refine AO.done (hK8 _ ?_)
    replace h0 := Sh.some_eq h0
    subst r
    exact AW.ret (Exists.intro _ (And.intro ((Wk.permk (L := [(4, (i64 q3))]) (st' := []) (st1 := []) [] rfl .nil (by decide) rfl rfl .nil ⟨.rfl, trivial⟩).trans (Wk.to (L := [(4, (i64 q3))]) ⟨.rfl, trivial⟩)) (And.intro rfl rfl)))

theorem laws_szBlock_F_ok {N : Nat} : ∀ (n : Nat), ∀ {p0 : Block} {p1 : Int} {r : Int}, laws_szBlock_F N n p0 p1 = some r → ACalls Try.prog 12 [(.agg [(.sl (List.map eStep p0.steps)), (i64 p0.result)]), (i64 p1)] [] (fun v st => v = (i64 r) ∧ st = []) := by
  intro n
  induction n with
  | zero => intro p0 p1 r h0; cases h0
  | succ n ih =>
    intro p0 p1 r h0
    rw [laws_szBlock_F] at h0
    exact laws_szBlock_B_ok (fun h => ih h) h0
theorem laws_szBlock_ok {N : Nat} : ∀ {p0 : Block} {p1 : Int} {r : Int}, laws_szBlock N p0 p1 = some r → ACalls Try.prog 12 [(.agg [(.sl (List.map eStep p0.steps)), (i64 p0.result)]), (i64 p1)] [] (fun v st => v = (i64 r) ∧ st = []) := by
  intro p0 p1 r h0
  exact laws_szBlock_F_ok N h0

set_option maxRecDepth 100000 in
set_option maxHeartbeats 4000000 in
theorem laws_toIntS_ok {N : Nat} {p0 : (List Int)} {r : (List Int)} (h0 : laws_toIntS N p0 = some r) : ACalls Try.prog 56 [(.sl (List.map eI p0))] [] (fun v st => v = (.own 0 0 (List.length r)) ∧ st = [⟨0, 3, 1, List.map eI r⟩]) := by
  unfold laws_toIntS at h0
  refine ACalls.intro Try.func56 rfl (by show 1 ≤ 22; decide) ?_
  show AW _ 0 _ (aret _ 0 Try.f56 _) ⟨22, _, _⟩
  refine AW.weaken (Wk.to (L := [(0, (.sl (List.map eI p0)))]) ⟨.rfl, trivial⟩) ?_
  refine AW.seq fun K1 hK1 => ?_
  refine AW.regionO (by rfl) ?_
  refine ao_q (v := .zc) go0 rfl (aq_as rfl) ?_
  refine AO.done (hK1 _ ?_)
  refine AW.seq fun K2 hK2 => ?_
  refine AW.regionO (by rfl) ?_
  refine ao_q (v := (.sl (List.map eI p0))) go0 rfl (aq_mv rfl) ?_
  refine ao_q (v := (i64 (Sh.len p0))) go0 rfl (aq_lens sl34 rfl) ?_
  obtain ⟨l3, gl3, h0⟩ := Sh.bind_some h0
  refine ao_make (m := 0) (st' := [⟨0, 3, 1, List.map eI l3⟩]) (enc := eI) (u := 0) go0 ei34 rfl rfl rfl gl3 rfl rfl ?_
  refine ao_q (v := (.own 0 0 (List.length l3))) go0 rfl (aq_as rfl) ?_
  refine AO.done (hK2 _ ?_)
  refine AW.seq fun K4 hK4 => ?_
  refine AW.seq fun K5 hK5 => ?_
  refine AW.regionO (by rfl) ?_
  refine ao_q (v := (i64 0)) go0 rfl (aq_as rfl) ?_
  refine AO.done (hK5 _ ?_)
  obtain ⟨o9, h1, h0⟩ := Sh.bind_some h0
  have M9 : ∀ (l8 : (List Int)), o9 = l8 → ∀ s, Wk 0 s ⟨22, envL [(3, (.own 0 0 (List.length l8)))], [⟨0, 3, 1, List.map eI l8⟩]⟩ → K4 s := by
    intro l8 hq s hw
    subst o9
    try dsimp only at h0
    refine hK4 _ (AW.weaken hw ?_)
    refine AW.seq fun K10 hK10 => ?_
    refine AW.regionO (by rfl) ?_
    refine ao_q (v := (.own 0 0 (List.length l8))) go0 rfl (aq_mv rfl) ?_
    refine ao_q (v := (.own 0 0 (List.length l8))) go0 rfl (aq_as rfl) ?_
    refine AO.done (hK10 _ ?_)
    replace h0 := Sh.some_eq h0
    subst r
    exact AW.ret (Exists.intro _ (And.intro (Wk.to (L := [(2, (.own 0 0 (List.length l8)))]) ⟨.rfl, trivial⟩) (And.intro rfl rfl)))
  refine AW.block (AW.loopF (σ := Int × (List Int)) (fun n v => laws_toIntS_L1 p0 n v.1 v.2 = some o9) (fun (i6, l7) => ⟨22, envL [(0, (.sl (List.map eI p0))), (3, (.own 0 0 (List.length l7))), (4, (i64 i6))], [⟨0, 3, 1, List.map eI l7⟩]⟩) N (0, l3) h1 (Wk.to (L := [(0, (.sl (List.map eI p0))), (3, (.own 0 0 (List.length l3))), (4, (i64 0))]) ⟨.rfl, .rfl, .rfl, trivial⟩) (fun _ hv => by rw [laws_toIntS_L1] at hv; cases hv) ?_)
  rintro n ⟨i6, l7⟩ h1
  try dsimp only at h1 ⊢
  rw [laws_toIntS_L1] at h1
  refine AW.seq fun K11 hK11 => ?_
  refine AW.seq fun K12 hK12 => ?_
  refine AW.regionO (by rfl) ?_
  refine ao_q (v := (i64 i6)) go0 rfl (aq_mv rfl) ?_
  refine ao_q (v := (.sl (List.map eI p0))) go0 rfl (aq_mv rfl) ?_
  refine ao_q (v := (i64 (Sh.len p0))) go0 rfl (aq_lens sl34 rfl) ?_
  refine ao_q (v := (.bool (decide (i6 < (Sh.len p0))))) go0 rfl (aq_lt rfl rfl) ?_
  refine AO.done (hK12 _ ?_)
  refine AW.cond' (b := decide (i6 < (Sh.len p0))) rfl (fun b13 => ?_) (fun b13 => ?_)
  · replace h1 := Sh.ite_t b13 h1
    refine AW.skip (hK11 _ ?_)
    refine AW.seq fun K14 hK14 => ?_
    refine AW.block ?_
    refine AW.regionO (by rfl) ?_
    refine ao_q (v := (.own 0 0 (List.length l7))) go0 rfl (aq_mv rfl) ?_
    refine ao_q (v := (i64 i6)) go0 rfl (aq_mv rfl) ?_
    refine ao_q (v := (.sl (List.map eI p0))) go0 rfl (aq_mv rfl) ?_
    refine ao_q (v := (i64 i6)) go0 rfl (aq_mv rfl) ?_
    obtain ⟨c15, gc15, h1⟩ := Sh.bind_some h1
    refine ao_q (v := (.iptr (eI c15) 0)) go0 rfl (aq_ixs ei34 rfl rfl gc15 rfl) ?_
    refine ao_q (v := (i64 c15)) go0 rfl (aq_ldi ti3 rfl rfl) ?_
    obtain ⟨c16, gc16, h1⟩ := Sh.bind_some h1
    refine ao_q (v := (.ptr 0 0 (Int.toNat i6) 0)) go0 rfl (aq_ixo ei34 rfl rfl rfl rfl gc16) ?_
    refine ao_stl (st' := [⟨0, 3, 1, List.map eI (Sh.put l7 i6 c15)⟩]) (u' := c15) go0 ti3 rfl rfl gc16 rfl rfl rfl (show 0 + 1 ≤ 1 by decide) rfl rfl ?_
    refine AO.done (hK14 _ ?_)
    refine AW.regionO (by rfl) ?_
    refine ao_q (v := (i64 i6)) go0 rfl (aq_mv rfl) ?_
    refine ao_q (v := (i64 (Sh.w (i6 + 1)))) go0 rfl (aq_add rfl rfl) ?_
    refine ao_q (v := (i64 (Sh.w (i6 + 1)))) go0 rfl (aq_as rfl) ?_
    exact AO.done (Exists.intro (Sh.w (i6 + 1), Sh.put l7 i6 c15) (And.intro h1 (Wk.to (L := [(0, (.sl (List.map eI p0))), (3, (.own 0 0 (List.length (Sh.put l7 i6 c15)))), (4, (i64 (Sh.w (i6 + 1))))]) ⟨.rfl, (.len (by simp only [Sh.put_len])), .rfl, trivial⟩)))
  · replace h1 := Sh.ite_f b13 h1
    exact AW.exit (M9 l7 (Sh.some_eq h1).symm _ (Wk.to (L := [(3, (.own 0 0 (List.length l7)))]) ⟨.rfl, trivial⟩))

set_option maxRecDepth 100000 in
set_option maxHeartbeats 4000000 in
theorem laws_toBlockS_ok {N : Nat} {rec_laws_toBlock : Block → Option (Block)} (hrec_laws_toBlock : ∀ {p0 : Block} {r : Block}, rec_laws_toBlock p0 = some r → ACalls Try.prog 14 [(.agg [(.sl (List.map eStep p0.steps)), (i64 p0.result)])] [] (fun v st => v = (.agg [(.sl (List.map eStep r.steps)), (i64 r.result)]) ∧ st = [])) {p0 : (List Block)} {r : (List Block)} (h0 : laws_toBlockS N rec_laws_toBlock p0 = some r) : ACalls Try.prog 118 [(.sl (List.map eBlock p0))] [] (fun v st => v = (.own 0 0 (List.length r)) ∧ st = [⟨0, 29, 2, List.map eBlock r⟩]) := by
  unfold laws_toBlockS at h0
  refine ACalls.intro Try.func118 rfl (by show 1 ≤ 23; decide) ?_
  show AW _ 0 _ (aret _ 0 Try.f118 _) ⟨23, _, _⟩
  refine AW.weaken (Wk.to (L := [(0, (.sl (List.map eBlock p0)))]) ⟨.rfl, trivial⟩) ?_
  refine AW.seq fun K1 hK1 => ?_
  refine AW.regionO (by rfl) ?_
  refine ao_q (v := .zc) go0 rfl (aq_as rfl) ?_
  refine AO.done (hK1 _ ?_)
  refine AW.seq fun K2 hK2 => ?_
  refine AW.regionO (by rfl) ?_
  refine ao_q (v := (.sl (List.map eBlock p0))) go0 rfl (aq_mv rfl) ?_
  refine ao_q (v := (i64 (Sh.len p0))) go0 rfl (aq_lens sl104 rfl) ?_
  obtain ⟨l3, gl3, h0⟩ := Sh.bind_some h0
  refine ao_make (m := 0) (st' := [⟨0, 29, 2, List.map eBlock l3⟩]) (enc := eBlock) (u := (Block.mk [] 0)) go0 ei74 rfl rfl rfl gl3 rfl rfl ?_
  refine ao_q (v := (.own 0 0 (List.length l3))) go0 rfl (aq_as rfl) ?_
  refine AO.done (hK2 _ ?_)
  refine AW.seq fun K4 hK4 => ?_
  refine AW.seq fun K5 hK5 => ?_
  refine AW.regionO (by rfl) ?_
  refine ao_q (v := (i64 0)) go0 rfl (aq_as rfl) ?_
  refine AO.done (hK5 _ ?_)
  obtain ⟨o9, h1, h0⟩ := Sh.bind_some h0
  have M9 : ∀ (l8 : (List Block)), o9 = l8 → ∀ s, Wk 0 s ⟨23, envL [(3, (.own 0 0 (List.length l8)))], [⟨0, 29, 2, List.map eBlock l8⟩]⟩ → K4 s := by
    intro l8 hq s hw
    subst o9
    try dsimp only at h0
    refine hK4 _ (AW.weaken hw ?_)
    refine AW.seq fun K10 hK10 => ?_
    refine AW.regionO (by rfl) ?_
    refine ao_q (v := (.own 0 0 (List.length l8))) go0 rfl (aq_mv rfl) ?_
    refine ao_q (v := (.own 0 0 (List.length l8))) go0 rfl (aq_as rfl) ?_
    refine AO.done (hK10 _ ?_)
    replace h0 := Sh.some_eq h0
    subst r
    exact AW.ret (Exists.intro _ (And.intro (Wk.to (L := [(2, (.own 0 0 (List.length l8)))]) ⟨.rfl, trivial⟩) (And.intro rfl rfl)))
  refine AW.block (AW.loopF (σ := Int × (List Block)) (fun n v => laws_toBlockS_L1 p0 rec_laws_toBlock n v.1 v.2 = some o9) (fun (i6, l7) => ⟨23, envL [(0, (.sl (List.map eBlock p0))), (3, (.own 0 0 (List.length l7))), (4, (i64 i6))], [⟨0, 29, 2, List.map eBlock l7⟩]⟩) N (0, l3) h1 (Wk.to (L := [(0, (.sl (List.map eBlock p0))), (3, (.own 0 0 (List.length l3))), (4, (i64 0))]) ⟨.rfl, .rfl, .rfl, trivial⟩) (fun _ hv => by rw [laws_toBlockS_L1] at hv; cases hv) ?_)
  rintro n ⟨i6, l7⟩ h1
  try dsimp only at h1 ⊢
  rw [laws_toBlockS_L1] at h1
  refine AW.seq fun K11 hK11 => ?_
  refine AW.seq fun K12 hK12 => ?_
  refine AW.regionO (by rfl) ?_
  refine ao_q (v := (i64 i6)) go0 rfl (aq_mv rfl) ?_
  refine ao_q (v := (.sl (List.map eBlock p0))) go0 rfl (aq_mv rfl) ?_
  refine ao_q (v := (i64 (Sh.len p0))) go0 rfl (aq_lens sl104 rfl) ?_
  refine ao_q (v := (.bool (decide (i6 < (Sh.len p0))))) go0 rfl (aq_lt rfl rfl) ?_
  refine AO.done (hK12 _ ?_)
  refine AW.cond' (b := decide (i6 < (Sh.len p0))) rfl (fun b13 => ?_) (fun b13 => ?_)
  · replace h1 := Sh.ite_t b13 h1
    refine AW.skip (hK11 _ ?_)
    refine AW.seq fun K14 hK14 => ?_
    refine AW.block ?_
    refine AW.regionO (by rfl) ?_
    refine ao_q (v := (.own 0 0 (List.length l7))) go0 rfl (aq_mv rfl) ?_
    refine ao_q (v := (i64 i6)) go0 rfl (aq_mv rfl) ?_
    refine ao_q (v := (.sl (List.map eBlock p0))) go0 rfl (aq_mv rfl) ?_
    refine ao_q (v := (i64 i6)) go0 rfl (aq_mv rfl) ?_
    obtain ⟨c15, gc15, h1⟩ := Sh.bind_some h1
    refine ao_q (v := (.iptr (eBlock c15) 0)) go0 rfl (aq_ixs ei104 rfl rfl gc15 rfl) ?_
    refine ao_q (v := (.agg [(.sl (List.map eStep c15.steps)), (i64 c15.result)])) go0 rfl (aq_ldia ti24 rfl (show 0 + 2 ≤ 2 by decide) rfl) ?_
    obtain ⟨q16, gq16, h1⟩ := Sh.bind_some h1
    refine ao_call (v' := (.agg [(.sl (List.map eStep q16.steps)), (i64 q16.result)])) (st' := [⟨0, 29, 2, List.map eBlock l7⟩]) go0 hb14 (hrec_laws_toBlock gq16) rfl rfl trivial rfl rfl ?_
    obtain ⟨c17, gc17, h1⟩ := Sh.bind_some h1
    refine ao_q (v := (.ptr 0 0 (Int.toNat i6) 0)) go0 rfl (aq_ixo ei74 rfl rfl rfl rfl gc17) ?_
    refine ao_stl (st' := [⟨0, 29, 2, List.map eBlock (Sh.put l7 i6 q16)⟩]) (u' := q16) go0 ti29 rfl rfl gc17 rfl rfl rfl (show 0 + 2 ≤ 2 by decide) rfl rfl ?_
    refine AO.done (hK14 _ ?_)
    refine AW.regionO (by rfl) ?_
    refine ao_q (v := (i64 i6)) go0 rfl (aq_mv rfl) ?_
    refine ao_q (v := (i64 (Sh.w (i6 + 1)))) go0 rfl (aq_add rfl rfl) ?_
    refine ao_q (v := (i64 (Sh.w (i6 + 1)))) go0 rfl (aq_as rfl) ?_
    exact AO.done (Exists.intro (Sh.w (i6 + 1), Sh.put l7 i6 q16) (And.intro h1 (Wk.to (L := [(0, (.sl (List.map eBlock p0))), (3, (.own 0 0 (List.length (Sh.put l7 i6 q16)))), (4, (i64 (Sh.w (i6 + 1))))]) ⟨.rfl, (.len (by simp only [Sh.put_len])), .rfl, trivial⟩)))
  · replace h1 := Sh.ite_f b13 h1
    exact AW.exit (M9 l7 (Sh.some_eq h1).symm _ (Wk.to (L := [(3, (.own 0 0 (List.length l7)))]) ⟨.rfl, trivial⟩))

set_option maxRecDepth 100000 in
set_option maxHeartbeats 4000000 in
theorem laws_toStep_ok {N : Nat} {rec_laws_toBlock : Block → Option (Block)} (hrec_laws_toBlock : ∀ {p0 : Block} {r : Block}, rec_laws_toBlock p0 = some r → ACalls Try.prog 14 [(.agg [(.sl (List.map eStep p0.steps)), (i64 p0.result)])] [] (fun v st => v = (.agg [(.sl (List.map eStep r.steps)), (i64 r.result)]) ∧ st = [])) {p0 : Step} {r : Step} (h0 : laws_toStep N rec_laws_toBlock p0 = some r) : ACalls Try.prog 76 [(.agg [(i64 p0.op), (i64 p0.num), (i64 p0.into), (.sl (List.map eI p0.args)), (.sl (List.map eBlock p0.kids))])] [] (fun v st => v = (.agg [(i64 r.op), (i64 r.num), (i64 r.into), (.sl (List.map eI r.args)), (.sl (List.map eBlock r.kids))]) ∧ st = []) := by
  unfold laws_toStep at h0
  refine ACalls.flat rfl ?_
  refine ACalls.intro Try.func76 rfl (by show 1 ≤ 22; decide) ?_
  show AW _ 0 _ (aret _ 0 Try.f76 _) ⟨22, _, _⟩
  refine AW.weaken (Wk.to (L := [(0, (.agg [(i64 p0.op), (i64 p0.num), (i64 p0.into), (.sl (List.map eI p0.args)), (.sl (List.map eBlock p0.kids))]))]) ⟨.rfl, trivial⟩) ?_
  refine AW.seq fun K1 hK1 => ?_
  refine AW.regionO (by rfl) ?_
  refine ao_box (m := 0) (st' := [⟨0, 106, 5, [[(i64 p0.op), (i64 p0.num), (i64 p0.into), (.sl (List.map eI p0.args)), (.sl (List.map eBlock p0.kids))]]⟩]) go0 rfl rfl rfl rfl rfl ?_
  refine ao_alloc (m := 1) (st' := [⟨0, 106, 5, [[(i64 p0.op), (i64 p0.num), (i64 p0.into), (.sl (List.map eI p0.args)), (.sl (List.map eBlock p0.kids))]]⟩, ⟨0, 76, 5, [[(i64 0), (i64 0), (i64 0), .zc, .zc]]⟩]) go0 zi76 rfl rfl ?_
  refine AO.done (hK1 _ ?_)
  refine AW.seq fun K2 hK2 => ?_
  refine AW.regionO (by rfl) ?_
  refine ao_alloc (m := 2) (st' := [⟨0, 106, 5, [[(i64 p0.op), (i64 p0.num), (i64 p0.into), (.sl (List.map eI p0.args)), (.sl (List.map eBlock p0.kids))]]⟩, ⟨0, 76, 5, [[(i64 0), (i64 0), (i64 0), .zc, .zc]]⟩, ⟨0, 76, 5, [[(i64 0), (i64 0), (i64 0), .zc, .zc]]⟩]) go0 zi76 rfl rfl ?_
  refine AO.done (hK2 _ ?_)
  refine AW.seq fun K3 hK3 => ?_
  refine AW.regionO (by rfl) ?_
  refine ao_q (v := (.ptr 0 0 0 0)) go0 rfl (aq_fap fi106_0 rfl rfl (show 0 + 0 ≤ 5 by decide) rfl) ?_
  refine ao_q (v := (i64 p0.op)) go0 rfl (aq_ldp ti3 rfl rfl rfl rfl) ?_
  refine ao_q (v := (.ptr 2 0 0 0)) go0 rfl (aq_fap fi76_0 rfl rfl (show 0 + 0 ≤ 5 by decide) rfl) ?_
  refine ao_str (st' := [⟨0, 106, 5, [[(i64 p0.op), (i64 p0.num), (i64 p0.into), (.sl (List.map eI p0.args)), (.sl (List.map eBlock p0.kids))]]⟩, ⟨0, 76, 5, [[(i64 0), (i64 0), (i64 0), .zc, .zc]]⟩, ⟨0, 76, 5, [[(i64 p0.op), (i64 0), (i64 0), .zc, .zc]]⟩]) go0 ti3 rfl rfl rfl rfl rfl rfl (show 0 + 1 ≤ 5 by decide) rfl ?_
  refine AO.done (hK3 _ ?_)
  refine AW.seq fun K4 hK4 => ?_
  refine AW.regionO (by rfl) ?_
  refine ao_q (v := (.ptr 0 0 0 1)) go0 rfl (aq_fap fi106_1 rfl rfl (show 0 + 1 ≤ 5 by decide) rfl) ?_
  refine ao_q (v := (i64 p0.num)) go0 rfl (aq_ldp ti3 rfl rfl rfl rfl) ?_
  refine ao_q (v := (.ptr 2 0 0 1)) go0 rfl (aq_fap fi76_1 rfl rfl (show 0 + 1 ≤ 5 by decide) rfl) ?_
  refine ao_str (st' := [⟨0, 106, 5, [[(i64 p0.op), (i64 p0.num), (i64 p0.into), (.sl (List.map eI p0.args)), (.sl (List.map eBlock p0.kids))]]⟩, ⟨0, 76, 5, [[(i64 0), (i64 0), (i64 0), .zc, .zc]]⟩, ⟨0, 76, 5, [[(i64 p0.op), (i64 p0.num), (i64 0), .zc, .zc]]⟩]) go0 ti3 rfl rfl rfl rfl rfl rfl (show 1 + 1 ≤ 5 by decide) rfl ?_
  refine AO.done (hK4 _ ?_)
  refine AW.seq fun K5 hK5 => ?_
  refine AW.regionO (by rfl) ?_
  refine ao_q (v := (.ptr 0 0 0 2)) go0 rfl (aq_fap fi106_2 rfl rfl (show 0 + 2 ≤ 5 by decide) rfl) ?_
  refine ao_q (v := (i64 p0.into)) go0 rfl (aq_ldp ti3 rfl rfl rfl rfl) ?_
  refine ao_q (v := (.ptr 2 0 0 2)) go0 rfl (aq_fap fi76_2 rfl rfl (show 0 + 2 ≤ 5 by decide) rfl) ?_
  refine ao_str (st' := [⟨0, 106, 5, [[(i64 p0.op), (i64 p0.num), (i64 p0.into), (.sl (List.map eI p0.args)), (.sl (List.map eBlock p0.kids))]]⟩, ⟨0, 76, 5, [[(i64 0), (i64 0), (i64 0), .zc, .zc]]⟩, ⟨0, 76, 5, [[(i64 p0.op), (i64 p0.num), (i64 p0.into), .zc, .zc]]⟩]) go0 ti3 rfl rfl rfl rfl rfl rfl (show 2 + 1 ≤ 5 by decide) rfl ?_
  refine AO.done (hK5 _ ?_)
  refine AW.seq fun K6 hK6 => ?_
  refine AW.regionO (by rfl) ?_
  refine ao_q (v := (.ptr 0 0 0 3)) go0 rfl (aq_fap fi106_3 rfl rfl (show 0 + 3 ≤ 5 by decide) rfl) ?_
  refine ao_q (v := (.sl (List.map eI p0.args))) go0 rfl (aq_ldp ti34 rfl rfl rfl rfl) ?_
  obtain ⟨q7, gq7, h0⟩ := Sh.bind_some h0
  refine ao_call (v' := (.own 3 0 (List.length q7))) (st' := [⟨0, 106, 5, [[(i64 p0.op), (i64 p0.num), (i64 p0.into), (.sl (List.map eI p0.args)), (.sl (List.map eBlock p0.kids))]]⟩, ⟨0, 76, 5, [[(i64 0), (i64 0), (i64 0), .zc, .zc]]⟩, ⟨0, 76, 5, [[(i64 p0.op), (i64 p0.num), (i64 p0.into), .zc, .zc]]⟩, ⟨0, 3, 1, List.map eI q7⟩]) go0 hb56 (laws_toIntS_ok gq7) rfl rfl ⟨(pure_map fun _ => rfl), trivial⟩ rfl rfl ?_
  refine ao_q (v := (.ptr 2 0 0 3)) go0 rfl (aq_fap fi76_3 rfl rfl (show 0 + 3 ≤ 5 by decide) rfl) ?_
  refine AO.weaken (Wk.frz (L := [(1, (.ptr 0 0 0 0)), (2, (.ptr 1 0 0 0)), (3, (.ptr 2 0 0 0)), (15, (.sl (List.map eI q7))), (16, (.ptr 2 0 0 3))]) (st' := [⟨0, 106, 5, [[(i64 p0.op), (i64 p0.num), (i64 p0.into), (.sl (List.map eI p0.args)), (.sl (List.map eBlock p0.kids))]]⟩, ⟨0, 76, 5, [[(i64 0), (i64 0), (i64 0), .zc, .zc]]⟩, ⟨0, 76, 5, [[(i64 p0.op), (i64 p0.num), (i64 p0.into), .zc, .zc]]⟩, ⟨1, 3, 1, []⟩]) (id := 3) rfl (show 0 ≤ 3 by decide) (pure_map fun _ => rfl) ⟨.rfl, .rfl, .rfl, (.frz rfl), .rfl, trivial⟩ rfl) ?_
  refine ao_str (st' := [⟨0, 106, 5, [[(i64 p0.op), (i64 p0.num), (i64 p0.into), (.sl (List.map eI p0.args)), (.sl (List.map eBlock p0.kids))]]⟩, ⟨0, 76, 5, [[(i64 0), (i64 0), (i64 0), .zc, .zc]]⟩, ⟨0, 76, 5, [[(i64 p0.op), (i64 p0.num), (i64 p0.into), (.sl (List.map eI q7)), .zc]]⟩, ⟨1, 3, 1, []⟩]) go0 ti34 rfl rfl rfl rfl rfl rfl (show 3 + 1 ≤ 5 by decide) rfl ?_
  refine AO.done (hK6 _ ?_)
  refine AW.seq fun K8 hK8 => ?_
  refine AW.regionO (by rfl) ?_
  refine ao_q (v := (.ptr 0 0 0 4)) go0 rfl (aq_fap fi106_4 rfl rfl (show 0 + 4 ≤ 5 by decide) rfl) ?_
  refine ao_q (v := (.sl (List.map eBlock p0.kids))) go0 rfl (aq_ldp ti104 rfl rfl rfl rfl) ?_
  obtain ⟨q9, gq9, h0⟩ := Sh.bind_some h0
  refine ao_call (v' := (.own 4 0 (List.length q9))) (st' := [⟨0, 106, 5, [[(i64 p0.op), (i64 p0.num), (i64 p0.into), (.sl (List.map eI p0.args)), (.sl (List.map eBlock p0.kids))]]⟩, ⟨0, 76, 5, [[(i64 0), (i64 0), (i64 0), .zc, .zc]]⟩, ⟨0, 76, 5, [[(i64 p0.op), (i64 p0.num), (i64 p0.into), (.sl (List.map eI q7)), .zc]]⟩, ⟨1, 3, 1, []⟩, ⟨0, 29, 2, List.map eBlock q9⟩]) go0 hb118 (laws_toBlockS_ok hrec_laws_toBlock gq9) rfl rfl ⟨(pure_map fun _ => rfl), trivial⟩ rfl rfl ?_
  refine ao_q (v := (.ptr 2 0 0 4)) go0 rfl (aq_fap fi76_4 rfl rfl (show 0 + 4 ≤ 5 by decide) rfl) ?_
  refine AO.weaken (Wk.frz (L := [(2, (.ptr 1 0 0 0)), (3, (.ptr 2 0 0 0)), (19, (.sl (List.map eBlock q9))), (20, (.ptr 2 0 0 4))]) (st' := [⟨0, 106, 5, [[(i64 p0.op), (i64 p0.num), (i64 p0.into), (.sl (List.map eI p0.args)), (.sl (List.map eBlock p0.kids))]]⟩, ⟨0, 76, 5, [[(i64 0), (i64 0), (i64 0), .zc, .zc]]⟩, ⟨0, 76, 5, [[(i64 p0.op), (i64 p0.num), (i64 p0.into), (.sl (List.map eI q7)), .zc]]⟩, ⟨1, 3, 1, []⟩, ⟨1, 29, 2, []⟩]) (id := 4) rfl (show 0 ≤ 4 by decide) (pure_map fun _ => rfl) ⟨.rfl, .rfl, (.frz rfl), .rfl, trivial⟩ rfl) ?_
  refine ao_str (st' := [⟨0, 106, 5, [[(i64 p0.op), (i64 p0.num), (i64 p0.into), (.sl (List.map eI p0.args)), (.sl (List.map eBlock p0.kids))]]⟩, ⟨0, 76, 5, [[(i64 0), (i64 0), (i64 0), .zc, .zc]]⟩, ⟨0, 76, 5, [[(i64 p0.op), (i64 p0.num), (i64 p0.into), (.sl (List.map eI q7)), (.sl (List.map eBlock q9))]]⟩, ⟨1, 3, 1, []⟩, ⟨1, 29, 2, []⟩]) go0 ti74 rfl rfl rfl rfl rfl rfl (show 4 + 1 ≤ 5 by decide) rfl ?_
  refine AO.done (hK8 _ ?_)
  refine AW.seq fun K10 hK10 => ?_
  refine AW.regionO (by rfl) ?_
  refine ao_q (v := (.agg [(i64 p0.op), (i64 p0.num), (i64 p0.into), (.sl (List.map eI q7)), (.sl (List.map eBlock q9))])) go0 rfl (aq_ldpa ti76 rfl rfl rfl (show 0 + 5 ≤ 5 by decide) rfl) ?_
  refine ao_str (st' := [⟨0, 106, 5, [[(i64 p0.op), (i64 p0.num), (i64 p0.into), (.sl (List.map eI p0.args)), (.sl (List.map eBlock p0.kids))]]⟩, ⟨0, 76, 5, [[(i64 p0.op), (i64 p0.num), (i64 p0.into), (.sl (List.map eI q7)), (.sl (List.map eBlock q9))]]⟩, ⟨0, 76, 5, [[(i64 p0.op), (i64 p0.num), (i64 p0.into), (.sl (List.map eI q7)), (.sl (List.map eBlock q9))]]⟩, ⟨1, 3, 1, []⟩, ⟨1, 29, 2, []⟩]) go0 ti76 rfl rfl rfl rfl rfl rfl (show 0 + 5 ≤ 5 by decide) rfl ?_
  refine AO.done (hK10 _ ?_)
  replace h0 := Sh.some_eq h0
  subst r
  exact AW.ret (Exists.intro _ (And.intro (Wk.refl _ _) (aq_ldpa (x := .tmp 2) (off := 0) (cs := [(i64 p0.op), (i64 p0.num), (i64 p0.into), (.sl (List.map eI q7)), (.sl (List.map eBlock q9))]) (vs := [(i64 p0.op), (i64 p0.num), (i64 p0.into), (.sl (List.map eI q7)), (.sl (List.map eBlock q9))]) ti76 rfl rfl rfl (show 0 + 5 ≤ 5 by decide) rfl _ rfl)))

set_option maxRecDepth 100000 in
set_option maxHeartbeats 4000000 in
theorem laws_toStepS_ok {N : Nat} {rec_laws_toBlock : Block → Option (Block)} (hrec_laws_toBlock : ∀ {p0 : Block} {r : Block}, rec_laws_toBlock p0 = some r → ACalls Try.prog 14 [(.agg [(.sl (List.map eStep p0.steps)), (i64 p0.result)])] [] (fun v st => v = (.agg [(.sl (List.map eStep r.steps)), (i64 r.result)]) ∧ st = [])) {p0 : (List Step)} {r : (List Step)} (h0 : laws_toStepS N rec_laws_toBlock p0 = some r) : ACalls Try.prog 45 [(.sl (List.map eStep p0))] [] (fun v st => v = (.own 0 0 (List.length r)) ∧ st = [⟨0, 76, 5, List.map eStep r⟩]) := by
  unfold laws_toStepS at h0
  refine ACalls.intro Try.func45 rfl (by show 1 ≤ 23; decide) ?_
  show AW _ 0 _ (aret _ 0 Try.f45 _) ⟨23, _, _⟩
  refine AW.weaken (Wk.to (L := [(0, (.sl (List.map eStep p0)))]) ⟨.rfl, trivial⟩) ?_
  refine AW.seq fun K1 hK1 => ?_
  refine AW.regionO (by rfl) ?_
  refine ao_q (v := .zc) go0 rfl (aq_as rfl) ?_
  refine AO.done (hK1 _ ?_)
  refine AW.seq fun K2 hK2 => ?_
  refine AW.regionO (by rfl) ?_
  refine ao_q (v := (.sl (List.map eStep p0))) go0 rfl (aq_mv rfl) ?_
  refine ao_q (v := (i64 (Sh.len p0))) go0 rfl (aq_lens sl22 rfl) ?_
  obtain ⟨l3, gl3, h0⟩ := Sh.bind_some h0
  refine ao_make (m := 0) (st' := [⟨0, 76, 5, List.map eStep l3⟩]) (enc := eStep) (u := (Step.mk 0 0 0 [] [])) go0 ei27 rfl rfl (eStep_eq _) gl3 rfl rfl ?_
  refine ao_q (v := (.own 0 0 (List.length l3))) go0 rfl (aq_as rfl) ?_
  refine AO.done (hK2 _ ?_)
  refine AW.seq fun K4 hK4 => ?_
  refine AW.seq fun K5 hK5 => ?_
  refine AW.regionO (by rfl) ?_
  refine ao_q (v := (i64 0)) go0 rfl (aq_as rfl) ?_
  refine AO.done (hK5 _ ?_)
  obtain ⟨o9, h1, h0⟩ := Sh.bind_some h0
  have M9 : ∀ (l8 : (List Step)), o9 = l8 → ∀ s, Wk 0 s ⟨23, envL [(3, (.own 0 0 (List.length l8)))], [⟨0, 76, 5, List.map eStep l8⟩]⟩ → K4 s := by
    intro l8 hq s hw
    subst o9
    try dsimp only at h0
    refine hK4 _ (AW.weaken hw ?_)
    refine AW.seq fun K10 hK10 => ?_
    refine AW.regionO (by rfl) ?_
    refine ao_q (v := (.own 0 0 (List.length l8))) go0 rfl (aq_mv rfl) ?_
    refine ao_q (v := (.own 0 0 (List.length l8))) go0 rfl (aq_as rfl) ?_
    refine AO.done (hK10 _ ?_)
    replace h0 := Sh.some_eq h0
    subst r
    exact AW.ret (Exists.intro _ (And.intro (Wk.to (L := [(2, (.own 0 0 (List.length l8)))]) ⟨.rfl, trivial⟩) (And.intro rfl rfl)))
  refine AW.block (AW.loopF (σ := Int × (List Step)) (fun n v => laws_toStepS_L1 N p0 rec_laws_toBlock n v.1 v.2 = some o9) (fun (i6, l7) => ⟨23, envL [(0, (.sl (List.map eStep p0))), (3, (.own 0 0 (List.length l7))), (4, (i64 i6))], [⟨0, 76, 5, List.map eStep l7⟩]⟩) N (0, l3) h1 (Wk.to (L := [(0, (.sl (List.map eStep p0))), (3, (.own 0 0 (List.length l3))), (4, (i64 0))]) ⟨.rfl, .rfl, .rfl, trivial⟩) (fun _ hv => by rw [laws_toStepS_L1] at hv; cases hv) ?_)
  rintro n ⟨i6, l7⟩ h1
  try dsimp only at h1 ⊢
  rw [laws_toStepS_L1] at h1
  refine AW.seq fun K11 hK11 => ?_
  refine AW.seq fun K12 hK12 => ?_
  refine AW.regionO (by rfl) ?_
  refine ao_q (v := (i64 i6)) go0 rfl (aq_mv rfl) ?_
  refine ao_q (v := (.sl (List.map eStep p0))) go0 rfl (aq_mv rfl) ?_
  refine ao_q (v := (i64 (Sh.len p0))) go0 rfl (aq_lens sl22 rfl) ?_
  refine ao_q (v := (.bool (decide (i6 < (Sh.len p0))))) go0 rfl (aq_lt rfl rfl) ?_
  refine AO.done (hK12 _ ?_)
  refine AW.cond' (b := decide (i6 < (Sh.len p0))) rfl (fun b13 => ?_) (fun b13 => ?_)
  · replace h1 := Sh.ite_t b13 h1
    refine AW.skip (hK11 _ ?_)
    refine AW.seq fun K14 hK14 => ?_
    refine AW.block ?_
    refine AW.regionO (by rfl) ?_
    refine ao_q (v := (.own 0 0 (List.length l7))) go0 rfl (aq_mv rfl) ?_
    refine ao_q (v := (i64 i6)) go0 rfl (aq_mv rfl) ?_
    refine ao_q (v := (.sl (List.map eStep p0))) go0 rfl (aq_mv rfl) ?_
    refine ao_q (v := (i64 i6)) go0 rfl (aq_mv rfl) ?_
    obtain ⟨c15, gc15, h1⟩ := Sh.bind_some h1
    refine ao_q (v := (.iptr [(i64 c15.op), (i64 c15.num), (i64 c15.into), (.sl (List.map eI c15.args)), (.sl (List.map eBlock c15.kids))] 0)) go0 rfl (aq_ixsE ei22 rfl rfl gc15 (eStep_eq _) rfl) ?_
    refine ao_q (v := (.agg [(i64 c15.op), (i64 c15.num), (i64 c15.into), (.sl (List.map eI c15.args)), (.sl (List.map eBlock c15.kids))])) go0 rfl (aq_ldia ti106 rfl (show 0 + 5 ≤ 5 by decide) rfl) ?_
    obtain ⟨q16, gq16, h1⟩ := Sh.bind_some h1
    refine ao_call (v' := (.agg [(i64 q16.op), (i64 q16.num), (i64 q16.into), (.sl (List.map eI q16.args)), (.sl (List.map eBlock q16.kids))])) (st' := [⟨0, 76, 5, List.map eStep l7⟩]) go0 hb76 (laws_toStep_ok hrec_laws_toBlock gq16) rfl rfl trivial rfl rfl ?_
    obtain ⟨c17, gc17, h1⟩ := Sh.bind_some h1
    refine ao_q (v := (.ptr 0 0 (Int.toNat i6) 0)) go0 rfl (aq_ixo ei27 rfl rfl rfl rfl gc17) ?_
    refine ao_stl (st' := [⟨0, 76, 5, List.map eStep (Sh.put l7 i6 q16)⟩]) (u' := q16) go0 ti76 rfl rfl gc17 rfl rfl rfl (show 0 + 5 ≤ 5 by decide) (by rw [eStep_eq, eStep_eq]; rfl) rfl ?_
    refine AO.done (hK14 _ ?_)
    refine AW.regionO (by rfl) ?_
    refine ao_q (v := (i64 i6)) go0 rfl (aq_mv rfl) ?_
    refine ao_q (v := (i64 (Sh.w (i6 + 1)))) go0 rfl (aq_add rfl rfl) ?_
    refine ao_q (v := (i64 (Sh.w (i6 + 1)))) go0 rfl (aq_as rfl) ?_
    exact AO.done (Exists.intro (Sh.w (i6 + 1), Sh.put l7 i6 q16) (And.intro h1 (Wk.to (L := [(0, (.sl (List.map eStep p0))), (3, (.own 0 0 (List.length (Sh.put l7 i6 q16)))), (4, (i64 (Sh.w (i6 + 1))))]) ⟨.rfl, (.len (by simp only [Sh.put_len])), .rfl, trivial⟩)))
  · replace h1 := Sh.ite_f b13 h1
    exact AW.exit (M9 l7 (Sh.some_eq h1).symm _ (Wk.to (L := [(3, (.own 0 0 (List.length l7)))]) ⟨.rfl, trivial⟩))

set_option maxRecDepth 100000 in
set_option maxHeartbeats 4000000 in
theorem laws_toBlock_B_ok {N : Nat} {rec_laws_toBlock : Block → Option (Block)} (hrec_laws_toBlock : ∀ {p0 : Block} {r : Block}, rec_laws_toBlock p0 = some r → ACalls Try.prog 14 [(.agg [(.sl (List.map eStep p0.steps)), (i64 p0.result)])] [] (fun v st => v = (.agg [(.sl (List.map eStep r.steps)), (i64 r.result)]) ∧ st = [])) {p0 : Block} {r : Block} (h0 : laws_toBlock_B N rec_laws_toBlock p0 = some r) : ACalls Try.prog 14 [(.agg [(.sl (List.map eStep p0.steps)), (i64 p0.result)])] [] (fun v st => v = (.agg [(.sl (List.map eStep r.steps)), (i64 r.result)]) ∧ st = []) := by
  unfold laws_toBlock_B at h0
  refine ACalls.flat rfl ?_
  refine ACalls.intro Try.func14 rfl (by show 1 ≤ 12; decide) ?_
  show AW _ 0 _ (aret _ 0 Try.f14 _) ⟨12, _, _⟩
  refine AW.weaken (Wk.to (L := [(0, (.agg [(.sl (List.map eStep p0.steps)), (i64 p0.result)]))]) ⟨.rfl, trivial⟩) ?_
  refine AW.seq fun K1 hK1 => ?_
  refine AW.regionO (by rfl) ?_
  refine ao_box (m := 0) (st' := [⟨0, 24, 2, [[(.sl (List.map eStep p0.steps)), (i64 p0.result)]]⟩]) go0 rfl rfl rfl rfl rfl ?_
  refine ao_alloc (m := 1) (st' := [⟨0, 24, 2, [[(.sl (List.map eStep p0.steps)), (i64 p0.result)]]⟩, ⟨0, 29, 2, [[.zc, (i64 0)]]⟩]) go0 zi29 rfl rfl ?_
  refine AO.done (hK1 _ ?_)
  refine AW.seq fun K2 hK2 => ?_
  refine AW.regionO (by rfl) ?_
  refine ao_alloc (m := 2) (st' := [⟨0, 24, 2, [[(.sl (List.map eStep p0.steps)), (i64 p0.result)]]⟩, ⟨0, 29, 2, [[.zc, (i64 0)]]⟩, ⟨0, 29, 2, [[.zc, (i64 0)]]⟩]) go0 zi29 rfl rfl ?_
  refine AO.done (hK2 _ ?_)
  refine AW.seq fun K3 hK3 => ?_
  refine AW.regionO (by rfl) ?_
  refine ao_q (v := (.ptr 0 0 0 0)) go0 rfl (aq_fap fi24_0 rfl rfl (show 0 + 0 ≤ 2 by decide) rfl) ?_
  refine ao_q (v := (.sl (List.map eStep p0.steps))) go0 rfl (aq_ldp ti22 rfl rfl rfl rfl) ?_
  obtain ⟨q4, gq4, h0⟩ := Sh.bind_some h0
  refine ao_call (v' := (.own 3 0 (List.length q4))) (st' := [⟨0, 24, 2, [[(.sl (List.map eStep p0.steps)), (i64 p0.result)]]⟩, ⟨0, 29, 2, [[.zc, (i64 0)]]⟩, ⟨0, 29, 2, [[.zc, (i64 0)]]⟩, ⟨0, 76, 5, List.map eStep q4⟩]) go0 hb45 (laws_toStepS_ok hrec_laws_toBlock gq4) rfl rfl ⟨(pure_map eStep_pure), trivial⟩ rfl rfl ?_
  refine ao_q (v := (.ptr 2 0 0 0)) go0 rfl (aq_fap fi29_0 rfl rfl (show 0 + 0 ≤ 2 by decide) rfl) ?_
  refine AO.weaken (Wk.frz (L := [(1, (.ptr 0 0 0 0)), (2, (.ptr 1 0 0 0)), (3, (.ptr 2 0 0 0)), (6, (.sl (List.map eStep q4))), (7, (.ptr 2 0 0 0))]) (st' := [⟨0, 24, 2, [[(.sl (List.map eStep p0.steps)), (i64 p0.result)]]⟩, ⟨0, 29, 2, [[.zc, (i64 0)]]⟩, ⟨0, 29, 2, [[.zc, (i64 0)]]⟩, ⟨1, 76, 5, []⟩]) (id := 3) rfl (show 0 ≤ 3 by decide) (pure_map eStep_pure) ⟨.rfl, .rfl, .rfl, (.frz rfl), .rfl, trivial⟩ rfl) ?_
  refine ao_str (st' := [⟨0, 24, 2, [[(.sl (List.map eStep p0.steps)), (i64 p0.result)]]⟩, ⟨0, 29, 2, [[.zc, (i64 0)]]⟩, ⟨0, 29, 2, [[(.sl (List.map eStep q4)), (i64 0)]]⟩, ⟨1, 76, 5, []⟩]) go0 ti27 rfl rfl rfl rfl rfl rfl (show 0 + 1 ≤ 2 by decide) rfl ?_
  refine AO.done (hK3 _ ?_)
  refine AW.seq fun K5 hK5 => ?_
  refine AW.regionO (by rfl) ?_
  refine ao_q (v := (.ptr 0 0 0 1)) go0 rfl (aq_fap fi24_1 rfl rfl (show 0 + 1 ≤ 2 by decide) rfl) ?_
  refine ao_q (v := (i64 p0.result)) go0 rfl (aq_ldp ti3 rfl rfl rfl rfl) ?_
  refine ao_q (v := (.ptr 2 0 0 1)) go0 rfl (aq_fap fi29_1 rfl rfl (show 0 + 1 ≤ 2 by decide) rfl) ?_
  refine ao_str (st' := [⟨0, 24, 2, [[(.sl (List.map eStep p0.steps)), (i64 p0.result)]]⟩, ⟨0, 29, 2, [[.zc, (i64 0)]]⟩, ⟨0, 29, 2, [[(.sl (List.map eStep q4)), (i64 p0.result)]]⟩, ⟨1, 76, 5, []⟩]) go0 ti3 rfl rfl rfl rfl rfl rfl (show 1 + 1 ≤ 2 by decide) rfl ?_
  refine AO.done (hK5 _ ?_)
  refine AW.seq fun K6 hK6 => ?_
  refine AW.regionO (by rfl) ?_
  refine ao_q (v := (.agg [(.sl (List.map eStep q4)), (i64 p0.result)])) go0 rfl (aq_ldpa ti29 rfl rfl rfl (show 0 + 2 ≤ 2 by decide) rfl) ?_
  refine ao_str (st' := [⟨0, 24, 2, [[(.sl (List.map eStep p0.steps)), (i64 p0.result)]]⟩, ⟨0, 29, 2, [[(.sl (List.map eStep q4)), (i64 p0.result)]]⟩, ⟨0, 29, 2, [[(.sl (List.map eStep q4)), (i64 p0.result)]]⟩, ⟨1, 76, 5, []⟩]) go0 ti29 rfl rfl rfl rfl rfl rfl (show 0 + 2 ≤ 2 by decide) rfl ?_
  refine AO.done (hK6 _ ?_)
  replace h0 := Sh.some_eq h0
  subst r
  exact AW.ret (Exists.intro _ (And.intro (Wk.refl _ _) (aq_ldpa (x := .tmp 2) (off := 0) (cs := [(.sl (List.map eStep q4)), (i64 p0.result)]) (vs := [(.sl (List.map eStep q4)), (i64 p0.result)]) ti29 rfl rfl rfl (show 0 + 2 ≤ 2 by decide) rfl _ rfl)))

theorem laws_toBlock_F_ok {N : Nat} : ∀ (n : Nat), ∀ {p0 : Block} {r : Block}, laws_toBlock_F N n p0 = some r → ACalls Try.prog 14 [(.agg [(.sl (List.map eStep p0.steps)), (i64 p0.result)])] [] (fun v st => v = (.agg [(.sl (List.map eStep r.steps)), (i64 r.result)]) ∧ st = []) := by
  intro n
  induction n with
  | zero => intro p0 r h0; cases h0
  | succ n ih =>
    intro p0 r h0
    rw [laws_toBlock_F] at h0
    exact laws_toBlock_B_ok (fun h => ih h) h0
theorem laws_toBlock_ok {N : Nat} : ∀ {p0 : Block} {r : Block}, laws_toBlock N p0 = some r → ACalls Try.prog 14 [(.agg [(.sl (List.map eStep p0.steps)), (i64 p0.result)])] [] (fun v st => v = (.agg [(.sl (List.map eStep r.steps)), (i64 r.result)]) ∧ st = []) := by
  intro p0 r h0
  exact laws_toBlock_F_ok N h0

set_option maxRecDepth 100000 in
set_option maxHeartbeats 4000000 in
theorem spec_stepsLeft_B_ok {N : Nat} {rec_spec_stepsLeft : Block → Int → Option (Int)} (hrec_spec_stepsLeft : ∀ {p0 : Block} {p1 : Int} {r : Int}, rec_spec_stepsLeft p0 p1 = some r → ACalls Try.prog 75 [(.agg [(.sl (List.map eStep p0.steps)), (i64 p0.result)]), (i64 p1)] [] (fun v st => v = (i64 r) ∧ st = [])) {p0 : Block} {p1 : Int} {r : Int} (h0 : spec_stepsLeft_B N rec_spec_stepsLeft p0 p1 = some r) : ACalls Try.prog 75 [(.agg [(.sl (List.map eStep p0.steps)), (i64 p0.result)]), (i64 p1)] [] (fun v st => v = (i64 r) ∧ st = []) := by
  unfold spec_stepsLeft_B at h0
  refine ACalls.intro Try.func75 rfl (by show 2 ≤ 43; decide) ?_
  show AW _ 0 _ (aret _ 0 Try.f75 _) ⟨43, _, _⟩
  refine AW.weaken (Wk.to (L := [(0, (.agg [(.sl (List.map eStep p0.steps)), (i64 p0.result)])), (1, (i64 p1))]) ⟨.rfl, .rfl, trivial⟩) ?_
  refine AW.seq fun K1 hK1 => ?_
  refine AW.regionO (by rfl) ?_
  refine ao_box (m := 0) (st' := [⟨0, 29, 2, [[(.sl (List.map eStep p0.steps)), (i64 p0.result)]]⟩]) go0 rfl rfl rfl rfl rfl ?_
  refine ao_q (v := (i64 0)) go0 rfl (aq_as rfl) ?_
  refine AO.done (hK1 _ ?_)
  refine AW.seq fun K2 hK2 => ?_
  refine AW.seq fun K3 hK3 => ?_
  refine AW.regionO (by rfl) ?_
  refine ao_q (v := (i64 0)) go0 rfl (aq_as rfl) ?_
  refine AO.done (hK3 _ ?_)
  obtain ⟨o7, h1, h0⟩ := Sh.cont_some h0
  have M7 : ∀ (left6 : Int), o7 = Sum.inr left6 → ∀ s, Wk 0 s ⟨43, envL [(1, (i64 left6))], []⟩ → K2 s := by
    intro left6 hq s hw
    subst o7
    try dsimp only at h0
    refine hK2 _ (AW.weaken hw ?_)
    refine AW.seq fun K8 hK8 => ?_
    refine AW.regionO (by rfl) ?_
    refine ao_q (v := (i64 left6)) go0 rfl (aq_mv rfl) ?_
    refine ao_q (v := (i64 left6)) go0 rfl (aq_as rfl) ?_
    refine AO.done (hK8 _ ?_)
    replace h0 := Sh.some_eq h0
    subst r
    exact AW.ret (Exists.intro _ (And.intro (Wk.to (L := [(4, (i64 left6))]) ⟨.rfl, trivial⟩) (And.intro rfl rfl)))
  refine AW.block (AW.loopF (σ := Int × Int) (fun n v => spec_stepsLeft_B_L1 N p0 rec_spec_stepsLeft n v.1 v.2 = some o7) (fun (left4, i5) => ⟨43, envL [(1, (i64 left4)), (2, (.ptr 0 0 0 0)), (5, (i64 i5))], [⟨0, 29, 2, [[(.sl (List.map eStep p0.steps)), (i64 p0.result)]]⟩]⟩) N (p1, 0) h1 (Wk.to (L := [(1, (i64 p1)), (2, (.ptr 0 0 0 0)), (5, (i64 0))]) ⟨.rfl, .rfl, .rfl, trivial⟩) (fun _ hv => by rw [spec_stepsLeft_B_L1] at hv; cases hv) ?_)
  rintro n ⟨left4, i5⟩ h1
  try dsimp only at h1 ⊢
  rw [spec_stepsLeft_B_L1] at h1
  refine AW.seq fun K9 hK9 => ?_
  refine AW.seq fun K10 hK10 => ?_
  refine AW.regionO (by rfl) ?_
  refine ao_q (v := (i64 i5)) go0 rfl (aq_mv rfl) ?_
  refine ao_q (v := (.ptr 0 0 0 0)) go0 rfl (aq_fap fi29_0 rfl rfl (show 0 + 0 ≤ 2 by decide) rfl) ?_
  refine ao_q (v := (.sl (List.map eStep p0.steps))) go0 rfl (aq_ldp ti27 rfl rfl rfl rfl) ?_
  refine ao_q (v := (i64 (Sh.len p0.steps))) go0 rfl (aq_lens sl27 rfl) ?_
  refine ao_q (v := (.bool (decide (i5 < (Sh.len p0.steps))))) go0 rfl (aq_lt rfl rfl) ?_
  refine AO.done (hK10 _ ?_)
  refine AW.cond' (b := decide (i5 < (Sh.len p0.steps))) rfl (fun b11 => ?_) (fun b11 => ?_)
  · replace h1 := Sh.ite_t b11 h1
    refine AW.skip (hK9 _ ?_)
    refine AW.seq fun K12 hK12 => ?_
    refine AW.block ?_
    refine AW.seq fun K13 hK13 => ?_
    refine AW.seq fun K14 hK14 => ?_
    refine AW.regionO (by rfl) ?_
    refine ao_q (v := (i64 left4)) go0 rfl (aq_mv rfl) ?_
    refine ao_q (v := (.bool (decide (left4 < 1)))) go0 rfl (aq_lt rfl rfl) ?_
    refine AO.done (hK14 _ ?_)
    refine AW.cond' (b := decide (left4 < 1)) rfl (fun b15 => ?_) (fun b15 => ?_)
    · replace h1 := Sh.ite_t b15 h1
      refine AW.seq fun K16 hK16 => ?_
      refine AW.regionO (by rfl) ?_
      refine ao_q (v := (i64 (-1))) go0 rfl (aq_as rfl) ?_
      refine AO.done (hK16 _ ?_)
      replace h1 := Sh.some_eq h1
      subst o7
      try dsimp only [id] at h0
      replace h0 := Sh.some_eq h0
      subst r
      exact AW.ret (Exists.intro _ (And.intro ((Wk.permk (L := [(4, (i64 (-1)))]) (st' := []) (st1 := []) [] rfl .nil (by decide) rfl rfl .nil ⟨.rfl, trivial⟩).trans (Wk.to (L := [(4, (i64 (-1)))]) ⟨.rfl, trivial⟩)) (And.intro rfl rfl)))
    · replace h1 := Sh.ite_f b15 h1
      refine AW.skip (hK13 _ ?_)
      refine AW.seq fun K17 hK17 => ?_
      refine AW.regionO (by rfl) ?_
      refine ao_q (v := (i64 left4)) go0 rfl (aq_mv rfl) ?_
      refine ao_q (v := (i64 (Sh.w (left4 - 1)))) go0 rfl (aq_sub rfl rfl) ?_
      refine ao_q (v := (i64 (Sh.w (left4 - 1)))) go0 rfl (aq_as rfl) ?_
      refine AO.done (hK17 _ ?_)
      refine AW.seq fun K18 hK18 => ?_
      refine AW.regionO (by rfl) ?_
      refine ao_q (v := (i64 0)) go0 rfl (aq_as rfl) ?_
      refine AO.done (hK18 _ ?_)
      obtain ⟨o22, h2, h1⟩ := Sh.cont_some h1
      have M22 : ∀ (left21 : Int), o22 = Sum.inr left21 → ∀ s, Wk 0 s ⟨43, envL [(1, (i64 left21)), (2, (.ptr 0 0 0 0)), (5, (i64 i5))], [⟨0, 29, 2, [[(.sl (List.map eStep p0.steps)), (i64 p0.result)]]⟩]⟩ → K12 s := by
        intro left21 hq s hw
        subst o22
        try dsimp only at h1
        refine hK12 _ (AW.weaken hw ?_)
        refine AW.regionO (by rfl) ?_
        refine ao_q (v := (i64 i5)) go0 rfl (aq_mv rfl) ?_
        refine ao_q (v := (i64 (Sh.w (i5 + 1)))) go0 rfl (aq_add rfl rfl) ?_
        refine ao_q (v := (i64 (Sh.w (i5 + 1)))) go0 rfl (aq_as rfl) ?_
        exact AO.done (Exists.intro (left21, Sh.w (i5 + 1)) (And.intro h1 (Wk.to (L := [(1, (i64 left21)), (2, (.ptr 0 0 0 0)), (5, (i64 (Sh.w (i5 + 1))))]) ⟨.rfl, .rfl, .rfl, trivial⟩)))
      refine AW.block (AW.loopF (σ := Int × Int) (fun n v => spec_stepsLeft_B_L2 i5 p0 rec_spec_stepsLeft n v.1 v.2 = some o22) (fun (left19, k20) => ⟨43, envL [(1, (i64 left19)), (2, (.ptr 0 0 0 0)), (5, (i64 i5)), (6, (i64 k20))], [⟨0, 29, 2, [[(.sl (List.map eStep p0.steps)), (i64 p0.result)]]⟩]⟩) N (Sh.w (left4 - 1), 0) h2 (Wk.to (L := [(1, (i64 (Sh.w (left4 - 1)))), (2, (.ptr 0 0 0 0)), (5, (i64 i5)), (6, (i64 0))]) ⟨.rfl, .rfl, .rfl, .rfl, trivial⟩) (fun _ hv => by rw [spec_stepsLeft_B_L2] at hv; cases hv) ?_)
      rintro n ⟨left19, k20⟩ h2
      try dsimp only at h2 ⊢
      rw [spec_stepsLeft_B_L2] at h2
      refine AW.seq fun K23 hK23 => ?_
      refine AW.seq fun K24 hK24 => ?_
      refine AW.regionO (by rfl) ?_
      refine ao_q (v := (i64 k20)) go0 rfl (aq_mv rfl) ?_
      refine ao_q (v := (.ptr 0 0 0 0)) go0 rfl (aq_fap fi29_0 rfl rfl (show 0 + 0 ≤ 2 by decide) rfl) ?_
      refine ao_q (v := (.sl (List.map eStep p0.steps))) go0 rfl (aq_ldp ti27 rfl rfl rfl rfl) ?_
      refine ao_q (v := (i64 i5)) go0 rfl (aq_mv rfl) ?_
      obtain ⟨c25, gc25, h2⟩ := Sh.bind_some h2
      refine ao_q (v := (.iptr [(i64 c25.op), (i64 c25.num), (i64 c25.into), (.sl (List.map eI c25.args)), (.sl (List.map eBlock c25.kids))] 0)) go0 rfl (aq_ixsE ei27 rfl rfl gc25 (eStep_eq _) rfl) ?_
      refine ao_q (v := (.iptr [(i64 c25.op), (i64 c25.num), (i64 c25.into), (.sl (List.map eI c25.args)), (.sl (List.map eBlock c25.kids))] 4)) go0 rfl (aq_fai fi76_4 rfl rfl) ?_
      refine ao_q (v := (.sl (List.map eBlock c25.kids))) go0 rfl (aq_ldi ti74 rfl rfl) ?_
      refine ao_q (v := (i64 (Sh.len c25.kids))) go0 rfl (aq_lens sl74 rfl) ?_
      refine ao_q (v := (.bool (decide (k20 < (Sh.len c25.kids))))) go0 rfl (aq_lt rfl rfl) ?_
      refine AO.done (hK24 _ ?_)
      refine AW.cond' (b := decide (k20 < (Sh.len c25.kids))) rfl (fun b26 => ?_) (fun b26 => ?_)
      · replace h2 := Sh.ite_t b26 h2
        refine AW.skip (hK23 _ ?_)
        refine AW.seq fun K27 hK27 => ?_
        refine AW.block ?_
        refine AW.seq fun K28 hK28 => ?_
        refine AW.regionO (by rfl) ?_
        refine ao_q (v := (.ptr 0 0 0 0)) go0 rfl (aq_fap fi29_0 rfl rfl (show 0 + 0 ≤ 2 by decide) rfl) ?_
        refine ao_q (v := (.sl (List.map eStep p0.steps))) go0 rfl (aq_ldp ti27 rfl rfl rfl rfl) ?_
        refine ao_q (v := (i64 i5)) go0 rfl (aq_mv rfl) ?_
        refine ao_q (v := (.iptr [(i64 c25.op), (i64 c25.num), (i64 c25.into), (.sl (List.map eI c25.args)), (.sl (List.map eBlock c25.kids))] 0)) go0 rfl (aq_ixsE ei27 rfl rfl gc25 (eStep_eq _) rfl) ?_
        refine ao_q (v := (.iptr [(i64 c25.op), (i64 c25.num), (i64 c25.into), (.sl (List.map eI c25.args)), (.sl (List.map eBlock c25.kids))] 4)) go0 rfl (aq_fai fi76_4 rfl rfl) ?_
        refine ao_q (v := (.sl (List.map eBlock c25.kids))) go0 rfl (aq_ldi ti74 rfl rfl) ?_
        refine ao_q (v := (i64 k20)) go0 rfl (aq_mv rfl) ?_
        obtain ⟨c29, gc29, h2⟩ := Sh.bind_some h2
        refine ao_q (v := (.iptr (eBlock c29) 0)) go0 rfl (aq_ixs ei74 rfl rfl gc29 rfl) ?_
        refine ao_q (v := (.agg [(.sl (List.map eStep c29.steps)), (i64 c29.result)])) go0 rfl (aq_ldia ti29 rfl (show 0 + 2 ≤ 2 by decide) rfl) ?_
        refine ao_q (v := (i64 left19)) go0 rfl (aq_mv rfl) ?_
        obtain ⟨q30, gq30, h2⟩ := Sh.bind_some h2
        refine ao_call (v' := (i64 q30)) (st' := [⟨0, 29, 2, [[(.sl (List.map eStep p0.steps)), (i64 p0.result)]]⟩]) go0 hb75 (hrec_spec_stepsLeft gq30) rfl rfl trivial rfl rfl ?_
        refine ao_q (v := (i64 q30)) go0 rfl (aq_as rfl) ?_
        refine AO.done (hK28 _ ?_)
        refine AW.seq fun K31 hK31 => ?_
        refine AW.regionO (by rfl) ?_
        refine ao_q (v := (i64 q30)) go0 rfl (aq_mv rfl) ?_
        refine ao_q (v := (.bool (decide (q30 < 0)))) go0 rfl (aq_lt rfl rfl) ?_
        refine AO.done (hK31 _ ?_)
        refine AW.cond' (b := decide (q30 < 0)) rfl (fun b32 => ?_) (fun b32 => ?_)
        · replace h2 := Sh.ite_t b32 h2
          refine AW.seq fun K33 hK33 => ?_
          refine AW.regionO (by rfl) ?_
          refine ao_q (v := (i64 (-1))) go0 rfl (aq_as rfl) ?_
          refine AO.done (hK33 _ ?_)
          replace h2 := Sh.some_eq h2
          subst o22
          try dsimp only [id] at h1
          replace h1 := Sh.some_eq h1
          subst o7
          try dsimp only [id] at h0
          replace h0 := Sh.some_eq h0
          subst r
          exact AW.ret (Exists.intro _ (And.intro ((Wk.permk (L := [(4, (i64 (-1)))]) (st' := []) (st1 := []) [] rfl .nil (by decide) rfl rfl .nil ⟨.rfl, trivial⟩).trans (Wk.to (L := [(4, (i64 (-1)))]) ⟨.rfl, trivial⟩)) (And.intro rfl rfl)))
        · replace h2 := Sh.ite_f b32 h2
          refine AW.skip (hK27 _ ?_)
          refine AW.regionO (by rfl) ?_
          refine ao_q (v := (i64 k20)) go0 rfl (aq_mv rfl) ?_
          refine ao_q (v := (i64 (Sh.w (k20 + 1)))) go0 rfl (aq_add rfl rfl) ?_
          refine ao_q (v := (i64 (Sh.w (k20 + 1)))) go0 rfl (aq_as rfl) ?_
          exact AO.done (Exists.intro (q30, Sh.w (k20 + 1)) (And.intro h2 (Wk.to (L := [(1, (i64 q30)), (2, (.ptr 0 0 0 0)), (5, (i64 i5)), (6, (i64 (Sh.w (k20 + 1))))]) ⟨.rfl, .rfl, .rfl, .rfl, trivial⟩)))
      · replace h2 := Sh.ite_f b26 h2
        exact AW.exit (M22 left19 (Sh.some_eq h2).symm _ (Wk.to (L := [(1, (i64 left19)), (2, (.ptr 0 0 0 0)), (5, (i64 i5))]) ⟨.rfl, .rfl, .rfl, trivial⟩))
  · replace h1 := Sh.ite_f b11 h1
    exact AW.exit (M7 left4 (Sh.some_eq h1).symm _ (by refine Wk.trans (Wk.permk (L := [(1, (i64 left4))]) (st' := []) (st1 := []) [] rfl .nil (by decide) rfl rfl .nil ⟨.rfl, trivial⟩) ?_; exact Wk.to (L := [(1, (i64 left4))]) ⟨.rfl, trivial⟩))

theorem spec_stepsLeft_F_ok {N : Nat} : ∀ (n : Nat), ∀ {p0 : Block} {p1 : Int} {r : Int}, spec_stepsLeft_F N n p0 p1 = some r → ACalls Try.prog 75 [(.agg [(.sl (List.map eStep p0.steps)), (i64 p0.result)]), (i64 p1)] [] (fun v st => v = (i64 r) ∧ st = []) := by
  intro n
  induction n with
  | zero => intro p0 p1 r h0; cases h0
  | succ n ih =>
    intro p0 p1 r h0
    rw [spec_stepsLeft_F] at h0
    exact spec_stepsLeft_B_ok (fun h => ih h) h0
theorem spec_stepsLeft_ok {N : Nat} : ∀ {p0 : Block} {p1 : Int} {r : Int}, spec_stepsLeft N p0 p1 = some r → ACalls Try.prog 75 [(.agg [(.sl (List.map eStep p0.steps)), (i64 p0.result)]), (i64 p1)] [] (fun v st => v = (i64 r) ∧ st = []) := by
  intro p0 p1 r h0
  exact spec_stepsLeft_F_ok N h0

set_option maxRecDepth 100000 in
set_option maxHeartbeats 4000000 in
theorem spec_stepsOf_ok {N : Nat} {p0 : Block} {r : Int} (h0 : spec_stepsOf N p0 = some r) : ACalls Try.prog 43 [(.agg [(.sl (List.map eStep p0.steps)), (i64 p0.result)])] [] (fun v st => v = (i64 r) ∧ st = []) := by
  unfold spec_stepsOf at h0
  refine ACalls.intro Try.func43 rfl (by show 1 ≤ 10; decide) ?_
  show AW _ 0 _ (aret _ 0 Try.f43 _) ⟨10, _, _⟩
  refine AW.weaken (Wk.to (L := [(0, (.agg [(.sl (List.map eStep p0.steps)), (i64 p0.result)]))]) ⟨.rfl, trivial⟩) ?_
  refine AW.seq fun K1 hK1 => ?_
  refine AW.regionO (by rfl) ?_
  refine ao_box (m := 0) (st' := [⟨0, 29, 2, [[(.sl (List.map eStep p0.steps)), (i64 p0.result)]]⟩]) go0 rfl rfl rfl rfl rfl ?_
  refine ao_q (v := (i64 0)) go0 rfl (aq_as rfl) ?_
  refine AO.done (hK1 _ ?_)
  refine AW.seq fun K2 hK2 => ?_
  refine AW.regionO (by rfl) ?_
  refine ao_q (v := (.agg [(.sl (List.map eStep p0.steps)), (i64 p0.result)])) go0 rfl (aq_ldpa ti29 rfl rfl rfl (show 0 + 2 ≤ 2 by decide) rfl) ?_
  obtain ⟨q3, gq3, h0⟩ := Sh.bind_some h0
  refine ao_call (v' := (i64 q3)) (st' := [⟨0, 29, 2, [[(.sl (List.map eStep p0.steps)), (i64 p0.result)]]⟩]) go0 hb75 (spec_stepsLeft_ok gq3) rfl rfl trivial rfl rfl ?_
  refine ao_q (v := (i64 q3)) go0 rfl (aq_as rfl) ?_
  refine AO.done (hK2 _ ?_)
  refine AW.seq fun K4 hK4 => ?_
  refine AW.seq fun K5 hK5 => ?_
  refine AW.regionO (by rfl) ?_
  refine ao_q (v := (i64 q3)) go0 rfl (aq_mv rfl) ?_
  refine ao_q (v := (.bool (decide (q3 < 0)))) go0 rfl (aq_lt rfl rfl) ?_
  refine AO.done (hK5 _ ?_)
  refine AW.cond' (b := decide (q3 < 0)) rfl (fun b6 => ?_) (fun b6 => ?_)
  · replace h0 := Sh.ite_t b6 h0
    refine AW.seq fun K7 hK7 => ?_
    refine AW.regionO (by rfl) ?_
    refine ao_q (v := (i64 (-1))) go0 rfl (aq_as rfl) ?_
    refine AO.done (hK7 _ ?_)
    replace h0 := Sh.some_eq h0
    subst r
    exact AW.ret (Exists.intro _ (And.intro ((Wk.permk (L := [(2, (i64 (-1)))]) (st' := []) (st1 := []) [] rfl .nil (by decide) rfl rfl .nil ⟨.rfl, trivial⟩).trans (Wk.to (L := [(2, (i64 (-1)))]) ⟨.rfl, trivial⟩)) (And.intro rfl rfl)))
  · replace h0 := Sh.ite_f b6 h0
    refine AW.skip (hK4 _ ?_)
    refine AW.seq fun K8 hK8 => ?_
    refine AW.regionO (by rfl) ?_
    refine ao_q (v := (i64 q3)) go0 rfl (aq_mv rfl) ?_
    refine ao_q (v := (i64 (Sh.w (600 - q3)))) go0 rfl (aq_sub rfl rfl) ?_
    refine ao_q (v := (i64 (Sh.w (600 - q3)))) go0 rfl (aq_as rfl) ?_
    refine AO.done (hK8 _ ?_)
    replace h0 := Sh.some_eq h0
    subst r
    exact AW.ret (Exists.intro _ (And.intro ((Wk.permk (L := [(2, (i64 (Sh.w (600 - q3))))]) (st' := []) (st1 := []) [] rfl .nil (by decide) rfl rfl .nil ⟨.rfl, trivial⟩).trans (Wk.to (L := [(2, (i64 (Sh.w (600 - q3))))]) ⟨.rfl, trivial⟩)) (And.intro rfl rfl)))

set_option maxRecDepth 100000 in
set_option maxHeartbeats 4000000 in
theorem spec_inRange_ok {p0 : Int} {p1 : Int} {p2 : Int} {r : Bool} (h0 : spec_inRange p0 p1 p2 = some r) : ACalls Try.prog 68 [(i64 p0), (i64 p1), (i64 p2)] [] (fun v st => v = (.bool r) ∧ st = []) := by
  unfold spec_inRange at h0
  refine ACalls.intro Try.func68 rfl (by show 3 ≤ 15; decide) ?_
  show AW _ 0 _ (aret _ 0 Try.f68 _) ⟨15, _, _⟩
  refine AW.weaken (Wk.to (L := [(0, (i64 p0)), (1, (i64 p1)), (2, (i64 p2))]) ⟨.rfl, .rfl, .rfl, trivial⟩) ?_
  refine AW.seq fun K1 hK1 => ?_
  refine AW.regionO (by rfl) ?_
  refine ao_q (v := (.bool false)) go0 rfl (aq_as rfl) ?_
  refine AO.done (hK1 _ ?_)
  refine AW.seq fun K2 hK2 => ?_
  obtain ⟨o4, h1, h0⟩ := Sh.bind_some h0
  have M4 : ∀ (t3 : Bool), o4 = t3 → ∀ s, Wk 0 s ⟨15, envL [(6, (.bool t3))], []⟩ → K2 s := by
    intro t3 hq s hw
    subst o4
    try dsimp only at h0
    refine hK2 _ (AW.weaken hw ?_)
    replace h0 := Sh.some_eq h0
    subst r
    exact AW.ret (Exists.intro _ (And.intro (Wk.to (L := [(6, (.bool t3))]) ⟨.rfl, trivial⟩) (And.intro rfl rfl)))
  refine AW.regionO (by rfl) ?_
  refine ao_q (v := (i64 p1)) go0 rfl (aq_mv rfl) ?_
  refine ao_q (v := (i64 p0)) go0 rfl (aq_mv rfl) ?_
  refine ao_q (v := (.bool (decide (p1 ≤ p0)))) go0 rfl (aq_le rfl rfl) ?_
  refine ao_q (v := (.bool (decide (p1 ≤ p0)))) go0 rfl (aq_mv rfl) ?_
  rcases Sh.ite_some h1 with ⟨b5, h1⟩ | ⟨b5, h1⟩
  · skip
    refine ao_q (v := (i64 p0)) (go1 rfl rfl b5) rfl (aq_mv rfl) ?_
    refine ao_q (v := (i64 p2)) (go1 rfl rfl b5) rfl (aq_mv rfl) ?_
    refine ao_q (v := (.bool (decide (p0 ≤ p2)))) (go1 rfl rfl b5) rfl (aq_le rfl rfl) ?_
    refine ao_q (v := (.bool (decide (p0 ≤ p2)))) go0 rfl (aq_pkt rfl b5 rfl) ?_
    refine ao_q (v := (.bool (decide (p0 ≤ p2)))) go0 rfl (aq_as rfl) ?_
    exact AO.done (M4 (decide (p0 ≤ p2)) (Sh.some_eq h1).symm _ (Wk.to (L := [(6, (.bool (decide (p0 ≤ p2))))]) ⟨.rfl, trivial⟩))
  · skip
    refine ao_skip rfl rfl b5 ?_
    refine ao_skip rfl rfl b5 ?_
    refine ao_skip rfl rfl b5 ?_
    refine ao_q (v := (.bool false)) go0 rfl (aq_pkf rfl b5 rfl) ?_
    refine ao_q (v := (.bool false)) go0 rfl (aq_as rfl) ?_
    exact AO.done (M4 false (Sh.some_eq h1).symm _ (Wk.to (L := [(6, (.bool false))]) ⟨.rfl, trivial⟩))

set_option maxRecDepth 100000 in
set_option maxHeartbeats 4000000 in
theorem spec_isCounting_ok {p0 : Int} {r : Bool} (h0 : spec_isCounting p0 = some r) : ACalls Try.prog 80 [(i64 p0)] [] (fun v st => v = (.bool r) ∧ st = []) := by
  unfold spec_isCounting at h0
  refine ACalls.intro Try.func80 rfl (by show 1 ≤ 5; decide) ?_
  show AW _ 0 _ (aret _ 0 Try.f80 _) ⟨5, _, _⟩
  refine AW.weaken (Wk.to (L := [(0, (i64 p0))]) ⟨.rfl, trivial⟩) ?_
  refine AW.seq fun K1 hK1 => ?_
  refine AW.regionO (by rfl) ?_
  refine ao_q (v := (.bool false)) go0 rfl (aq_as rfl) ?_
  refine AO.done (hK1 _ ?_)
  refine AW.seq fun K2 hK2 => ?_
  refine AW.regionO (by rfl) ?_
  refine ao_q (v := (i64 p0)) go0 rfl (aq_mv rfl) ?_
  obtain ⟨q3, gq3, h0⟩ := Sh.bind_some h0
  refine ao_call (v' := (.bool q3)) (st' := []) go0 hb68 (spec_inRange_ok gq3) rfl rfl trivial rfl rfl ?_
  refine ao_q (v := (.bool q3)) go0 rfl (aq_as rfl) ?_
  refine AO.done (hK2 _ ?_)
  replace h0 := Sh.some_eq h0
  subst r
  exact AW.ret (Exists.intro _ (And.intro (Wk.to (L := [(2, (.bool q3))]) ⟨.rfl, trivial⟩) (And.intro rfl rfl)))

set_option maxRecDepth 100000 in
set_option maxHeartbeats 4000000 in
theorem spec_stepUses_ok {N : Nat} {rec_spec_blockUses : Block → Int → Option (Int)} (hrec_spec_blockUses : ∀ {p0 : Block} {p1 : Int} {r : Int}, rec_spec_blockUses p0 p1 = some r → ACalls Try.prog 44 [(.agg [(.sl (List.map eStep p0.steps)), (i64 p0.result)]), (i64 p1)] [] (fun v st => v = (i64 r) ∧ st = [])) {p0 : Step} {p1 : Int} {r : Int} (h0 : spec_stepUses N rec_spec_blockUses p0 p1 = some r) : ACalls Try.prog 50 [(.agg [(i64 p0.op), (i64 p0.num), (i64 p0.into), (.sl (List.map eI p0.args)), (.sl (List.map eBlock p0.kids))]), (i64 p1)] [] (fun v st => v = (i64 r) ∧ st = []) := by
  unfold spec_stepUses at h0
  refine ACalls.intro Try.func50 rfl (by show 2 ≤ 44; decide) ?_
  show AW _ 0 _ (aret _ 0 Try.f50 _) ⟨44, _, _⟩
  refine AW.weaken (Wk.to (L := [(0, (.agg [(i64 p0.op), (i64 p0.num), (i64 p0.into), (.sl (List.map eI p0.args)), (.sl (List.map eBlock p0.kids))])), (1, (i64 p1))]) ⟨.rfl, .rfl, trivial⟩) ?_
  refine AW.seq fun K1 hK1 => ?_
  refine AW.regionO (by rfl) ?_
  refine ao_box (m := 0) (st' := [⟨0, 76, 5, [[(i64 p0.op), (i64 p0.num), (i64 p0.into), (.sl (List.map eI p0.args)), (.sl (List.map eBlock p0.kids))]]⟩]) go0 rfl rfl rfl rfl rfl ?_
  refine ao_q (v := (i64 0)) go0 rfl (aq_as rfl) ?_
  refine AO.done (hK1 _ ?_)
  refine AW.seq fun K2 hK2 => ?_
  refine AW.seq fun K3 hK3 => ?_
  refine AW.regionO (by rfl) ?_
  refine ao_q (v := (.ptr 0 0 0 0)) go0 rfl (aq_fap fi76_0 rfl rfl (show 0 + 0 ≤ 5 by decide) rfl) ?_
  refine ao_q (v := (i64 p0.op)) go0 rfl (aq_ldp ti3 rfl rfl rfl rfl) ?_
  obtain ⟨q4, gq4, h0⟩ := Sh.bind_some h0
  refine ao_call (v' := (.bool q4)) (st' := [⟨0, 76, 5, [[(i64 p0.op), (i64 p0.num), (i64 p0.into), (.sl (List.map eI p0.args)), (.sl (List.map eBlock p0.kids))]]⟩]) go0 hb80 (spec_isCounting_ok gq4) rfl rfl trivial rfl rfl ?_
  refine AO.done (hK3 _ ?_)
  refine AW.cond' (b := q4) rfl (fun b5 => ?_) (fun b5 => ?_)
  · replace h0 := Sh.ite_t b5 h0
    refine AW.seq fun K6 hK6 => ?_
    refine AW.regionO (by rfl) ?_
    refine ao_q (v := (i64 0)) go0 rfl (aq_as rfl) ?_
    refine AO.done (hK6 _ ?_)
    replace h0 := Sh.some_eq h0
    subst r
    exact AW.ret (Exists.intro _ (And.intro ((Wk.permk (L := [(4, (i64 0))]) (st' := []) (st1 := []) [] rfl .nil (by decide) rfl rfl .nil ⟨.rfl, trivial⟩).trans (Wk.to (L := [(4, (i64 0))]) ⟨.rfl, trivial⟩)) (And.intro rfl rfl)))
  · replace h0 := Sh.ite_f b5 h0
    refine AW.skip (hK2 _ ?_)
    refine AW.seq fun K7 hK7 => ?_
    refine AW.regionO (by rfl) ?_
    refine ao_q (v := (i64 0)) go0 rfl (aq_as rfl) ?_
    refine AO.done (hK7 _ ?_)
    refine AW.seq fun K8 hK8 => ?_
    refine AW.seq fun K9 hK9 => ?_
    refine AW.regionO (by rfl) ?_
    refine ao_q (v := (i64 0)) go0 rfl (aq_as rfl) ?_
    refine AO.done (hK9 _ ?_)
    obtain ⟨o13, h1, h0⟩ := Sh.bind_some h0
    have M13 : ∀ (n12 : Int), o13 = n12 → ∀ s, Wk 0 s ⟨44, envL [(1, (i64 p1)), (2, (.ptr 0 0 0 0)), (5, (i64 n12))], [⟨0, 76, 5, [[(i64 p0.op), (i64 p0.num), (i64 p0.into), (.sl (List.map eI p0.args)), (.sl (List.map eBlock p0.kids))]]⟩]⟩ → K8 s := by
      intro n12 hq s hw
      subst o13
      try dsimp only at h0
      refine hK8 _ (AW.weaken hw ?_)
      refine AW.seq fun K14 hK14 => ?_
      refine AW.seq fun K15 hK15 => ?_
      refine AW.regionO (by rfl) ?_
      refine ao_q (v := (i64 0)) go0 rfl (aq_as rfl) ?_
      refine AO.done (hK15 _ ?_)
      obtain ⟨o19, h1, h0⟩ := Sh.bind_some h0
      have M19 : ∀ (n18 : Int), o19 = n18 → ∀ s, Wk 0 s ⟨44, envL [(5, (i64 n18))], []⟩ → K14 s := by
        intro n18 hq s hw
        subst o19
        try dsimp only at h0
        refine hK14 _ (AW.weaken hw ?_)
        refine AW.seq fun K20 hK20 => ?_
        refine AW.regionO (by rfl) ?_
        refine ao_q (v := (i64 n18)) go0 rfl (aq_mv rfl) ?_
        refine ao_q (v := (i64 n18)) go0 rfl (aq_as rfl) ?_
        refine AO.done (hK20 _ ?_)
        replace h0 := Sh.some_eq h0
        subst r
        exact AW.ret (Exists.intro _ (And.intro (Wk.to (L := [(4, (i64 n18))]) ⟨.rfl, trivial⟩) (And.intro rfl rfl)))
      refine AW.block (AW.loopF (σ := Int × Int) (fun n v => spec_stepUses_L2 p0 p1 rec_spec_blockUses n v.1 v.2 = some o19) (fun (n16, i17) => ⟨44, envL [(1, (i64 p1)), (2, (.ptr 0 0 0 0)), (5, (i64 n16)), (7, (i64 i17))], [⟨0, 76, 5, [[(i64 p0.op), (i64 p0.num), (i64 p0.into), (.sl (List.map eI p0.args)), (.sl (List.map eBlock p0.kids))]]⟩]⟩) N (n12, 0) h1 (Wk.to (L := [(1, (i64 p1)), (2, (.ptr 0 0 0 0)), (5, (i64 n12)), (7, (i64 0))]) ⟨.rfl, .rfl, .rfl, .rfl, trivial⟩) (fun _ hv => by rw [spec_stepUses_L2] at hv; cases hv) ?_)
      rintro n ⟨n16, i17⟩ h1
      try dsimp only at h1 ⊢
      rw [spec_stepUses_L2] at h1
      refine AW.seq fun K21 hK21 => ?_
      refine AW.seq fun K22 hK22 => ?_
      refine AW.regionO (by rfl) ?_
      refine ao_q (v := (i64 i17)) go0 rfl (aq_mv rfl) ?_
      refine ao_q (v := (.ptr 0 0 0 4)) go0 rfl (aq_fap fi76_4 rfl rfl (show 0 + 4 ≤ 5 by decide) rfl) ?_
      refine ao_q (v := (.sl (List.map eBlock p0.kids))) go0 rfl (aq_ldp ti74 rfl rfl rfl rfl) ?_
      refine ao_q (v := (i64 (Sh.len p0.kids))) go0 rfl (aq_lens sl74 rfl) ?_
      refine ao_q (v := (.bool (decide (i17 < (Sh.len p0.kids))))) go0 rfl (aq_lt rfl rfl) ?_
      refine AO.done (hK22 _ ?_)
      refine AW.cond' (b := decide (i17 < (Sh.len p0.kids))) rfl (fun b23 => ?_) (fun b23 => ?_)
      · replace h1 := Sh.ite_t b23 h1
        refine AW.skip (hK21 _ ?_)
        refine AW.seq fun K24 hK24 => ?_
        refine AW.block ?_
        refine AW.regionO (by rfl) ?_
        refine ao_q (v := (i64 n16)) go0 rfl (aq_mv rfl) ?_
        refine ao_q (v := (.ptr 0 0 0 4)) go0 rfl (aq_fap fi76_4 rfl rfl (show 0 + 4 ≤ 5 by decide) rfl) ?_
        refine ao_q (v := (.sl (List.map eBlock p0.kids))) go0 rfl (aq_ldp ti74 rfl rfl rfl rfl) ?_
        refine ao_q (v := (i64 i17)) go0 rfl (aq_mv rfl) ?_
        obtain ⟨c25, gc25, h1⟩ := Sh.bind_some h1
        refine ao_q (v := (.iptr (eBlock c25) 0)) go0 rfl (aq_ixs ei74 rfl rfl gc25 rfl) ?_
        refine ao_q (v := (.agg [(.sl (List.map eStep c25.steps)), (i64 c25.result)])) go0 rfl (aq_ldia ti29 rfl (show 0 + 2 ≤ 2 by decide) rfl) ?_
        refine ao_q (v := (i64 p1)) go0 rfl (aq_mv rfl) ?_
        obtain ⟨q26, gq26, h1⟩ := Sh.bind_some h1
        refine ao_call (v' := (i64 q26)) (st' := [⟨0, 76, 5, [[(i64 p0.op), (i64 p0.num), (i64 p0.into), (.sl (List.map eI p0.args)), (.sl (List.map eBlock p0.kids))]]⟩]) go0 hb44 (hrec_spec_blockUses gq26) rfl rfl trivial rfl rfl ?_
        refine ao_q (v := (i64 (Sh.w (n16 + q26)))) go0 rfl (aq_add rfl rfl) ?_
        refine ao_q (v := (i64 (Sh.w (n16 + q26)))) go0 rfl (aq_as rfl) ?_
        refine AO.done (hK24 _ ?_)
        refine AW.regionO (by rfl) ?_
        refine ao_q (v := (i64 i17)) go0 rfl (aq_mv rfl) ?_
        refine ao_q (v := (i64 (Sh.w (i17 + 1)))) go0 rfl (aq_add rfl rfl) ?_
        refine ao_q (v := (i64 (Sh.w (i17 + 1)))) go0 rfl (aq_as rfl) ?_
        exact AO.done (Exists.intro (Sh.w (n16 + q26), Sh.w (i17 + 1)) (And.intro h1 (Wk.to (L := [(1, (i64 p1)), (2, (.ptr 0 0 0 0)), (5, (i64 (Sh.w (n16 + q26)))), (7, (i64 (Sh.w (i17 + 1))))]) ⟨.rfl, .rfl, .rfl, .rfl, trivial⟩)))
      · replace h1 := Sh.ite_f b23 h1
        exact AW.exit (M19 n16 (Sh.some_eq h1).symm _ (by refine Wk.trans (Wk.permk (L := [(5, (i64 n16))]) (st' := []) (st1 := []) [] rfl .nil (by decide) rfl rfl .nil ⟨.rfl, trivial⟩) ?_; exact Wk.to (L := [(5, (i64 n16))]) ⟨.rfl, trivial⟩))
    refine AW.block (AW.loopF (σ := Int × Int) (fun n v => spec_stepUses_L1 p0 p1 n v.1 v.2 = some o13) (fun (n10, i11) => ⟨44, envL [(1, (i64 p1)), (2, (.ptr 0 0 0 0)), (5, (i64 n10)), (6, (i64 i11))], [⟨0, 76, 5, [[(i64 p0.op), (i64 p0.num), (i64 p0.into), (.sl (List.map eI p0.args)), (.sl (List.map eBlock p0.kids))]]⟩]⟩) N (0, 0) h1 (Wk.to (L := [(1, (i64 p1)), (2, (.ptr 0 0 0 0)), (5, (i64 0)), (6, (i64 0))]) ⟨.rfl, .rfl, .rfl, .rfl, trivial⟩) (fun _ hv => by rw [spec_stepUses_L1] at hv; cases hv) ?_)
    rintro n ⟨n10, i11⟩ h1
    try dsimp only at h1 ⊢
    rw [spec_stepUses_L1] at h1
    refine AW.seq fun K27 hK27 => ?_
    refine AW.seq fun K28 hK28 => ?_
    refine AW.regionO (by rfl) ?_
    refine ao_q (v := (i64 i11)) go0 rfl (aq_mv rfl) ?_
    refine ao_q (v := (.ptr 0 0 0 3)) go0 rfl (aq_fap fi76_3 rfl rfl (show 0 + 3 ≤ 5 by decide) rfl) ?_
    refine ao_q (v := (.sl (List.map eI p0.args))) go0 rfl (aq_ldp ti34 rfl rfl rfl rfl) ?_
    refine ao_q (v := (i64 (Sh.len p0.args))) go0 rfl (aq_lens sl34 rfl) ?_
    refine ao_q (v := (.bool (decide (i11 < (Sh.len p0.args))))) go0 rfl (aq_lt rfl rfl) ?_
    refine AO.done (hK28 _ ?_)
    refine AW.cond' (b := decide (i11 < (Sh.len p0.args))) rfl (fun b29 => ?_) (fun b29 => ?_)
    · replace h1 := Sh.ite_t b29 h1
      refine AW.skip (hK27 _ ?_)
      refine AW.seq fun K30 hK30 => ?_
      obtain ⟨o32, h2, h1⟩ := Sh.bind_some h1
      have M32 : ∀ (n31 : Int), o32 = n31 → ∀ s, Wk 0 s ⟨44, envL [(1, (i64 p1)), (2, (.ptr 0 0 0 0)), (5, (i64 n31)), (6, (i64 i11))], [⟨0, 76, 5, [[(i64 p0.op), (i64 p0.num), (i64 p0.into), (.sl (List.map eI p0.args)), (.sl (List.map eBlock p0.kids))]]⟩]⟩ → K30 s := by
        intro n31 hq s hw
        subst o32
        try dsimp only at h1
        refine hK30 _ (AW.weaken hw ?_)
        refine AW.regionO (by rfl) ?_
        refine ao_q (v := (i64 i11)) go0 rfl (aq_mv rfl) ?_
        refine ao_q (v := (i64 (Sh.w (i11 + 1)))) go0 rfl (aq_add rfl rfl) ?_
        refine ao_q (v := (i64 (Sh.w (i11 + 1)))) go0 rfl (aq_as rfl) ?_
        exact AO.done (Exists.intro (n31, Sh.w (i11 + 1)) (And.intro h1 (Wk.to (L := [(1, (i64 p1)), (2, (.ptr 0 0 0 0)), (5, (i64 n31)), (6, (i64 (Sh.w (i11 + 1))))]) ⟨.rfl, .rfl, .rfl, .rfl, trivial⟩)))
      refine AW.block ?_
      refine AW.seq fun K33 hK33 => ?_
      refine AW.regionO (by rfl) ?_
      refine ao_q (v := (.ptr 0 0 0 3)) go0 rfl (aq_fap fi76_3 rfl rfl (show 0 + 3 ≤ 5 by decide) rfl) ?_
      refine ao_q (v := (.sl (List.map eI p0.args))) go0 rfl (aq_ldp ti34 rfl rfl rfl rfl) ?_
      refine ao_q (v := (i64 i11)) go0 rfl (aq_mv rfl) ?_
      obtain ⟨c34, gc34, h2⟩ := Sh.bind_some h2
      refine ao_q (v := (.iptr (eI c34) 0)) go0 rfl (aq_ixs ei34 rfl rfl gc34 rfl) ?_
      refine ao_q (v := (i64 c34)) go0 rfl (aq_ldi ti3 rfl rfl) ?_
      refine ao_q (v := (i64 p1)) go0 rfl (aq_mv rfl) ?_
      refine ao_q (v := (.bool (decide (c34 = p1)))) go0 rfl (aq_eq rfl rfl) ?_
      refine AO.done (hK33 _ ?_)
      refine AW.cond' (b := decide (c34 = p1)) rfl (fun b35 => ?_) (fun b35 => ?_)
      · replace h2 := Sh.ite_t b35 h2
        refine AW.regionO (by rfl) ?_
        refine ao_q (v := (i64 n10)) go0 rfl (aq_mv rfl) ?_
        refine ao_q (v := (i64 (Sh.w (n10 + 1)))) go0 rfl (aq_add rfl rfl) ?_
        refine ao_q (v := (i64 (Sh.w (n10 + 1)))) go0 rfl (aq_as rfl) ?_
        exact AO.done (M32 (Sh.w (n10 + 1)) (Sh.some_eq h2).symm _ (Wk.to (L := [(1, (i64 p1)), (2, (.ptr 0 0 0 0)), (5, (i64 (Sh.w (n10 + 1)))), (6, (i64 i11))]) ⟨.rfl, .rfl, .rfl, .rfl, trivial⟩))
      · replace h2 := Sh.ite_f b35 h2
        exact AW.skip (M32 n10 (Sh.some_eq h2).symm _ (Wk.to (L := [(1, (i64 p1)), (2, (.ptr 0 0 0 0)), (5, (i64 n10)), (6, (i64 i11))]) ⟨.rfl, .rfl, .rfl, .rfl, trivial⟩))
    · replace h1 := Sh.ite_f b29 h1
      exact AW.exit (M13 n10 (Sh.some_eq h1).symm _ (Wk.to (L := [(1, (i64 p1)), (2, (.ptr 0 0 0 0)), (5, (i64 n10))]) ⟨.rfl, .rfl, .rfl, trivial⟩))

set_option maxRecDepth 100000 in
set_option maxHeartbeats 4000000 in
theorem spec_blockUses_B_ok {N : Nat} {rec_spec_blockUses : Block → Int → Option (Int)} (hrec_spec_blockUses : ∀ {p0 : Block} {p1 : Int} {r : Int}, rec_spec_blockUses p0 p1 = some r → ACalls Try.prog 44 [(.agg [(.sl (List.map eStep p0.steps)), (i64 p0.result)]), (i64 p1)] [] (fun v st => v = (i64 r) ∧ st = [])) {p0 : Block} {p1 : Int} {r : Int} (h0 : spec_blockUses_B N rec_spec_blockUses p0 p1 = some r) : ACalls Try.prog 44 [(.agg [(.sl (List.map eStep p0.steps)), (i64 p0.result)]), (i64 p1)] [] (fun v st => v = (i64 r) ∧ st = []) := by
  unfold spec_blockUses_B at h0
  refine ACalls.intro Try.func44 rfl (by show 2 ≤ 28; decide) ?_
  show AW _ 0 _ (aret _ 0 Try.f44 _) ⟨28, _, _⟩
  refine AW.weaken (Wk.to (L := [(0, (.agg [(.sl (List.map eStep p0.steps)), (i64 p0.result)])), (1, (i64 p1))]) ⟨.rfl, .rfl, trivial⟩) ?_
  refine AW.seq fun K1 hK1 => ?_
  refine AW.regionO (by rfl) ?_
  refine ao_box (m := 0) (st' := [⟨0, 29, 2, [[(.sl (List.map eStep p0.steps)), (i64 p0.result)]]⟩]) go0 rfl rfl rfl rfl rfl ?_
  refine ao_q (v := (i64 0)) go0 rfl (aq_as rfl) ?_
  refine AO.done (hK1 _ ?_)
  refine AW.seq fun K2 hK2 => ?_
  refine AW.regionO (by rfl) ?_
  refine ao_q (v := (i64 0)) go0 rfl (aq_as rfl) ?_
  refine AO.done (hK2 _ ?_)
  refine AW.seq fun K3 hK3 => ?_
  obtain ⟨o5, h1, h0⟩ := Sh.bind_some h0
  have M5 : ∀ (n4 : Int), o5 = n4 → ∀ s, Wk 0 s ⟨28, envL [(1, (i64 p1)), (2, (.ptr 0 0 0 0)), (5, (i64 n4))], [⟨0, 29, 2, [[(.sl (List.map eStep p0.steps)), (i64 p0.result)]]⟩]⟩ → K3 s := by
    intro n4 hq s hw
    subst o5
    try dsimp only at h0
    refine hK3 _ (AW.weaken hw ?_)
    refine AW.seq fun K6 hK6 => ?_
    refine AW.seq fun K7 hK7 => ?_
    refine AW.regionO (by rfl) ?_
    refine ao_q (v := (i64 0)) go0 rfl (aq_as rfl) ?_
    refine AO.done (hK7 _ ?_)
    obtain ⟨o11, h1, h0⟩ := Sh.bind_some h0
    have M11 : ∀ (n10 : Int), o11 = n10 → ∀ s, Wk 0 s ⟨28, envL [(5, (i64 n10))], []⟩ → K6 s := by
      intro n10 hq s hw
      subst o11
      try dsimp only at h0
      refine hK6 _ (AW.weaken hw ?_)
      refine AW.seq fun K12 hK12 => ?_
      refine AW.regionO (by rfl) ?_
      refine ao_q (v := (i64 n10)) go0 rfl (aq_mv rfl) ?_
      refine ao_q (v := (i64 n10)) go0 rfl (aq_as rfl) ?_
      refine AO.done (hK12 _ ?_)
      replace h0 := Sh.some_eq h0
      subst r
      exact AW.ret (Exists.intro _ (And.intro (Wk.to (L := [(4, (i64 n10))]) ⟨.rfl, trivial⟩) (And.intro rfl rfl)))
    refine AW.block (AW.loopF (σ := Int × Int) (fun n v => spec_blockUses_B_L1 N p0 p1 rec_spec_blockUses n v.1 v.2 = some o11) (fun (n8, i9) => ⟨28, envL [(1, (i64 p1)), (2, (.ptr 0 0 0 0)), (5, (i64 n8)), (6, (i64 i9))], [⟨0, 29, 2, [[(.sl (List.map eStep p0.steps)), (i64 p0.result)]]⟩]⟩) N (n4, 0) h1 (Wk.to (L := [(1, (i64 p1)), (2, (.ptr 0 0 0 0)), (5, (i64 n4)), (6, (i64 0))]) ⟨.rfl, .rfl, .rfl, .rfl, trivial⟩) (fun _ hv => by rw [spec_blockUses_B_L1] at hv; cases hv) ?_)
    rintro n ⟨n8, i9⟩ h1
    try dsimp only at h1 ⊢
    rw [spec_blockUses_B_L1] at h1
    refine AW.seq fun K13 hK13 => ?_
    refine AW.seq fun K14 hK14 => ?_
    refine AW.regionO (by rfl) ?_
    refine ao_q (v := (i64 i9)) go0 rfl (aq_mv rfl) ?_
    refine ao_q (v := (.ptr 0 0 0 0)) go0 rfl (aq_fap fi29_0 rfl rfl (show 0 + 0 ≤ 2 by decide) rfl) ?_
    refine ao_q (v := (.sl (List.map eStep p0.steps))) go0 rfl (aq_ldp ti27 rfl rfl rfl rfl) ?_
    refine ao_q (v := (i64 (Sh.len p0.steps))) go0 rfl (aq_lens sl27 rfl) ?_
    refine ao_q (v := (.bool (decide (i9 < (Sh.len p0.steps))))) go0 rfl (aq_lt rfl rfl) ?_
    refine AO.done (hK14 _ ?_)
    refine AW.cond' (b := decide (i9 < (Sh.len p0.steps))) rfl (fun b15 => ?_) (fun b15 => ?_)
    · replace h1 := Sh.ite_t b15 h1
      refine AW.skip (hK13 _ ?_)
      refine AW.seq fun K16 hK16 => ?_
      refine AW.block ?_
      refine AW.regionO (by rfl) ?_
      refine ao_q (v := (i64 n8)) go0 rfl (aq_mv rfl) ?_
      refine ao_q (v := (.ptr 0 0 0 0)) go0 rfl (aq_fap fi29_0 rfl rfl (show 0 + 0 ≤ 2 by decide) rfl) ?_
      refine ao_q (v := (.sl (List.map eStep p0.steps))) go0 rfl (aq_ldp ti27 rfl rfl rfl rfl) ?_
      refine ao_q (v := (i64 i9)) go0 rfl (aq_mv rfl) ?_
      obtain ⟨c17, gc17, h1⟩ := Sh.bind_some h1
      refine ao_q (v := (.iptr [(i64 c17.op), (i64 c17.num), (i64 c17.into), (.sl (List.map eI c17.args)), (.sl (List.map eBlock c17.kids))] 0)) go0 rfl (aq_ixsE ei27 rfl rfl gc17 (eStep_eq _) rfl) ?_
      refine ao_q (v := (.agg [(i64 c17.op), (i64 c17.num), (i64 c17.into), (.sl (List.map eI c17.args)), (.sl (List.map eBlock c17.kids))])) go0 rfl (aq_ldia ti76 rfl (show 0 + 5 ≤ 5 by decide) rfl) ?_
      refine ao_q (v := (i64 p1)) go0 rfl (aq_mv rfl) ?_
      obtain ⟨q18, gq18, h1⟩ := Sh.bind_some h1
      refine ao_call (v' := (i64 q18)) (st' := [⟨0, 29, 2, [[(.sl (List.map eStep p0.steps)), (i64 p0.result)]]⟩]) go0 hb50 (spec_stepUses_ok hrec_spec_blockUses gq18) rfl rfl trivial rfl rfl ?_
      refine ao_q (v := (i64 (Sh.w (n8 + q18)))) go0 rfl (aq_add rfl rfl) ?_
      refine ao_q (v := (i64 (Sh.w (n8 + q18)))) go0 rfl (aq_as rfl) ?_
      refine AO.done (hK16 _ ?_)
      refine AW.regionO (by rfl) ?_
      refine ao_q (v := (i64 i9)) go0 rfl (aq_mv rfl) ?_
      refine ao_q (v := (i64 (Sh.w (i9 + 1)))) go0 rfl (aq_add rfl rfl) ?_
      refine ao_q (v := (i64 (Sh.w (i9 + 1)))) go0 rfl (aq_as rfl) ?_
      exact AO.done (Exists.intro (Sh.w (n8 + q18), Sh.w (i9 + 1)) (And.intro h1 (Wk.to (L := [(1, (i64 p1)), (2, (.ptr 0 0 0 0)), (5, (i64 (Sh.w (n8 + q18)))), (6, (i64 (Sh.w (i9 + 1))))]) ⟨.rfl, .rfl, .rfl, .rfl, trivial⟩)))
    · replace h1 := Sh.ite_f b15 h1
      exact AW.exit (M11 n8 (Sh.some_eq h1).symm _ (by refine Wk.trans (Wk.permk (L := [(5, (i64 n8))]) (st' := []) (st1 := []) [] rfl .nil (by decide) rfl rfl .nil ⟨.rfl, trivial⟩) ?_; exact Wk.to (L := [(5, (i64 n8))]) ⟨.rfl, trivial⟩))
  refine AW.seq fun K19 hK19 => ?_
  refine AW.regionO (by rfl) ?_
  refine ao_q (v := (.ptr 0 0 0 1)) go0 rfl (aq_fap fi29_1 rfl rfl (show 0 + 1 ≤ 2 by decide) rfl) ?_
  refine ao_q (v := (i64 p0.result)) go0 rfl (aq_ldp ti3 rfl rfl rfl rfl) ?_
  refine ao_q (v := (i64 p1)) go0 rfl (aq_mv rfl) ?_
  refine ao_q (v := (.bool (decide (p0.result = p1)))) go0 rfl (aq_eq rfl rfl) ?_
  refine AO.done (hK19 _ ?_)
  refine AW.cond' (b := decide (p0.result = p1)) rfl (fun b20 => ?_) (fun b20 => ?_)
  · replace h1 := Sh.ite_t b20 h1
    refine AW.regionO (by rfl) ?_
    refine ao_q (v := (i64 1)) go0 rfl (aq_as rfl) ?_
    exact AO.done (M5 1 (Sh.some_eq h1).symm _ (Wk.to (L := [(1, (i64 p1)), (2, (.ptr 0 0 0 0)), (5, (i64 1))]) ⟨.rfl, .rfl, .rfl, trivial⟩))
  · replace h1 := Sh.ite_f b20 h1
    exact AW.skip (M5 0 (Sh.some_eq h1).symm _ (Wk.to (L := [(1, (i64 p1)), (2, (.ptr 0 0 0 0)), (5, (i64 0))]) ⟨.rfl, .rfl, .rfl, trivial⟩))

theorem spec_blockUses_F_ok {N : Nat} : ∀ (n : Nat), ∀ {p0 : Block} {p1 : Int} {r : Int}, spec_blockUses_F N n p0 p1 = some r → ACalls Try.prog 44 [(.agg [(.sl (List.map eStep p0.steps)), (i64 p0.result)]), (i64 p1)] [] (fun v st => v = (i64 r) ∧ st = []) := by
  intro n
  induction n with
  | zero => intro p0 p1 r h0; cases h0
  | succ n ih =>
    intro p0 p1 r h0
    rw [spec_blockUses_F] at h0
    exact spec_blockUses_B_ok (fun h => ih h) h0
theorem spec_blockUses_ok {N : Nat} : ∀ {p0 : Block} {p1 : Int} {r : Int}, spec_blockUses N p0 p1 = some r → ACalls Try.prog 44 [(.agg [(.sl (List.map eStep p0.steps)), (i64 p0.result)]), (i64 p1)] [] (fun v st => v = (i64 r) ∧ st = []) := by
  intro p0 p1 r h0
  exact spec_blockUses_F_ok N h0

set_option maxRecDepth 100000 in
set_option maxHeartbeats 4000000 in
theorem spec_UsesOf_ok {N : Nat} {p0 : Block} {p1 : Int} {r : Int} (h0 : spec_UsesOf N p0 p1 = some r) : ACalls Try.prog 13 [(.agg [(.sl (List.map eStep p0.steps)), (i64 p0.result)]), (i64 p1)] [] (fun v st => v = (i64 r) ∧ st = []) := by
  unfold spec_UsesOf at h0
  refine ACalls.intro Try.func13 rfl (by show 2 ≤ 11; decide) ?_
  show AW _ 0 _ (aret _ 0 Try.f13 _) ⟨11, _, _⟩
  refine AW.weaken (Wk.to (L := [(0, (.agg [(.sl (List.map eStep p0.steps)), (i64 p0.result)])), (1, (i64 p1))]) ⟨.rfl, .rfl, trivial⟩) ?_
  refine AW.seq fun K1 hK1 => ?_
  refine AW.regionO (by rfl) ?_
  refine ao_box (m := 0) (st' := [⟨0, 29, 2, [[(.sl (List.map eStep p0.steps)), (i64 p0.result)]]⟩]) go0 rfl rfl rfl rfl rfl ?_
  refine ao_q (v := (i64 0)) go0 rfl (aq_as rfl) ?_
  refine AO.done (hK1 _ ?_)
  refine AW.seq fun K2 hK2 => ?_
  refine AW.seq fun K3 hK3 => ?_
  refine AW.regionO (by rfl) ?_
  refine ao_q (v := (.agg [(.sl (List.map eStep p0.steps)), (i64 p0.result)])) go0 rfl (aq_ldpa ti29 rfl rfl rfl (show 0 + 2 ≤ 2 by decide) rfl) ?_
  obtain ⟨q4, gq4, h0⟩ := Sh.bind_some h0
  refine ao_call (v' := (i64 q4)) (st' := [⟨0, 29, 2, [[(.sl (List.map eStep p0.steps)), (i64 p0.result)]]⟩]) go0 hb43 (spec_stepsOf_ok gq4) rfl rfl trivial rfl rfl ?_
  refine ao_q (v := (.bool (decide (q4 < 0)))) go0 rfl (aq_lt rfl rfl) ?_
  refine AO.done (hK3 _ ?_)
  refine AW.cond' (b := decide (q4 < 0)) rfl (fun b5 => ?_) (fun b5 => ?_)
  · replace h0 := Sh.ite_t b5 h0
    refine AW.seq fun K6 hK6 => ?_
    refine AW.regionO (by rfl) ?_
    refine ao_q (v := (i64 (-1))) go0 rfl (aq_as rfl) ?_
    refine AO.done (hK6 _ ?_)
    replace h0 := Sh.some_eq h0
    subst r
    exact AW.ret (Exists.intro _ (And.intro ((Wk.permk (L := [(4, (i64 (-1)))]) (st' := []) (st1 := []) [] rfl .nil (by decide) rfl rfl .nil ⟨.rfl, trivial⟩).trans (Wk.to (L := [(4, (i64 (-1)))]) ⟨.rfl, trivial⟩)) (And.intro rfl rfl)))
  · replace h0 := Sh.ite_f b5 h0
    refine AW.skip (hK2 _ ?_)
    refine AW.seq fun K7 hK7 => ?_
    refine AW.regionO (by rfl) ?_
    refine ao_q (v := (.agg [(.sl (List.map eStep p0.steps)), (i64 p0.result)])) go0 rfl (aq_ldpa ti29 rfl rfl rfl (show 0 + 2 ≤ 2 by decide) rfl) ?_
    refine ao_q (v := (i64 p1)) go0 rfl (aq_mv rfl) ?_
    obtain ⟨q8, gq8, h0⟩ := Sh.bind_some h0
    refine ao_call (v' := (i64 q8)) (st' := [⟨0, 29, 2, [[(.sl (List.map eStep p0.steps)), (i64 p0.result)]]⟩]) go0 hb44 (spec_blockUses_ok gq8) rfl rfl trivial rfl rfl ?_
    refine ao_q (v := (i64 q8)) go0 rfl (aq_as rfl) ?_
    refine AO.done (hK7 _ ?_)
    replace h0 := Sh.some_eq h0
    subst r
    exact AW.ret (Exists.intro _ (And.intro ((Wk.permk (L := [(4, (i64 q8))]) (st' := []) (st1 := []) [] rfl .nil (by decide) rfl rfl .nil ⟨.rfl, trivial⟩).trans (Wk.to (L := [(4, (i64 q8))]) ⟨.rfl, trivial⟩)) (And.intro rfl rfl)))

set_option maxRecDepth 100000 in
set_option maxHeartbeats 4000000 in
theorem impl_countSteps_B_ok {N : Nat} {rec_impl_countSteps : Int → Block → Option (Bool × Int)} (hrec_impl_countSteps : ∀ {s0_0 : Int} {p0 : Block} {r : Bool × Int}, rec_impl_countSteps s0_0 p0 = some r → ACalls Try.prog 77 [(.agg [(.sl (List.map eStep p0.steps)), (i64 p0.result)]), (.ptr 0 0 0 0)] [⟨0, 3, 1, [[(i64 s0_0)]]⟩] (fun v st => v = (.bool r.1) ∧ st = [⟨0, 3, 1, [[(i64 r.2)]]⟩])) {s0_0 : Int} {p0 : Block} {r : Bool × Int} (h0 : impl_countSteps_B N rec_impl_countSteps s0_0 p0 = some r) : ACalls Try.prog 77 [(.agg [(.sl (List.map eStep p0.steps)), (i64 p0.result)]), (.ptr 0 0 0 0)] [⟨0, 3, 1, [[(i64 s0_0)]]⟩] (fun v st => v = (.bool r.1) ∧ st = [⟨0, 3, 1, [[(i64 r.2)]]⟩]) := by
  unfold impl_countSteps_B at h0
  refine ACalls.intro Try.func77 rfl (by show 2 ≤ 38; decide) ?_
  show AW _ 1 _ (aret _ 1 Try.f77 _) ⟨38, _, _⟩
  refine AW.weaken (Wk.to (L := [(0, (.agg [(.sl (List.map eStep p0.steps)), (i64 p0.result)])), (1, (.ptr 0 0 0 0))]) ⟨.rfl, .rfl, trivial⟩) ?_
  refine AW.seq fun K1 hK1 => ?_
  refine AW.regionO (by rfl) ?_
  refine ao_box (m := 1) (st' := [⟨0, 3, 1, [[(i64 s0_0)]]⟩, ⟨0, 29, 2, [[(.sl (List.map eStep p0.steps)), (i64 p0.result)]]⟩]) go0 rfl rfl rfl rfl rfl ?_
  refine ao_q (v := (.bool false)) go0 rfl (aq_as rfl) ?_
  refine AO.done (hK1 _ ?_)
  refine AW.seq fun K2 hK2 => ?_
  refine AW.seq fun K3 hK3 => ?_
  refine AW.regionO (by rfl) ?_
  refine ao_q (v := (.ptr 1 0 0 0)) go0 rfl (aq_fap fi29_0 rfl rfl (show 0 + 0 ≤ 2 by decide) rfl) ?_
  refine ao_q (v := (.sl (List.map eStep p0.steps))) go0 rfl (aq_ldp ti27 rfl rfl rfl rfl) ?_
  refine ao_q (v := (i64 (Sh.len p0.steps))) go0 rfl (aq_lens sl27 rfl) ?_
  refine ao_q (v := (i64 0)) go0 rfl (aq_mv rfl) ?_
  refine AO.done (hK3 _ ?_)
  obtain ⟨o7, h1, h0⟩ := Sh.cont_some h0
  have M7 : ∀ (f6 : Int), o7 = Sum.inr f6 → ∀ s, Wk 1 s ⟨38, envL [], [⟨0, 3, 1, [[(i64 f6)]]⟩]⟩ → K2 s := by
    intro f6 hq s hw
    subst o7
    try dsimp only at h0
    refine hK2 _ (AW.weaken hw ?_)
    refine AW.seq fun K8 hK8 => ?_
    refine AW.regionO (by rfl) ?_
    refine ao_q (v := (.bool true)) go0 rfl (aq_as rfl) ?_
    refine AO.done (hK8 _ ?_)
    replace h0 := Sh.some_eq h0
    subst r
    exact AW.ret (Exists.intro _ (And.intro (Wk.to (L := [(4, (.bool true))]) ⟨.rfl, trivial⟩) (And.intro rfl rfl)))
  refine AW.block (AW.loopF (σ := Int × Int) (fun n v => impl_countSteps_B_L1 N p0 rec_impl_countSteps n v.1 v.2 = some o7) (fun (t4, f5) => ⟨38, envL [(1, (.ptr 0 0 0 0)), (10, (.sl (List.map eStep p0.steps))), (11, (i64 (Sh.len p0.steps))), (12, (i64 t4))], [⟨0, 3, 1, [[(i64 f5)]]⟩]⟩) N (0, s0_0) h1 (by refine Wk.trans (Wk.permk (L := [(1, (.ptr 0 0 0 0)), (10, (.sl (List.map eStep p0.steps))), (11, (i64 (Sh.len p0.steps))), (12, (i64 0))]) (st' := [⟨0, 3, 1, [[(i64 s0_0)]]⟩]) (st1 := [⟨0, 3, 1, [[(i64 s0_0)]]⟩]) [0] rfl (.raw rfl rfl .nil) (by decide) rfl rfl (.raw rfl rfl .nil) ⟨.rfl, .rfl, .rfl, .rfl, trivial⟩) ?_; exact Wk.to (L := [(1, (.ptr 0 0 0 0)), (10, (.sl (List.map eStep p0.steps))), (11, (i64 (Sh.len p0.steps))), (12, (i64 0))]) ⟨.rfl, .rfl, .rfl, .rfl, trivial⟩) (fun _ hv => by rw [impl_countSteps_B_L1] at hv; cases hv) ?_)
  rintro n ⟨t4, f5⟩ h1
  try dsimp only at h1 ⊢
  rw [impl_countSteps_B_L1] at h1
  refine AW.seq fun K9 hK9 => ?_
  refine AW.regionO (by rfl) ?_
  refine ao_q (v := (.bool (decide (t4 < (Sh.len p0.steps))))) go0 rfl (aq_lt rfl rfl) ?_
  refine AO.done (hK9 _ ?_)
  refine AW.seq fun K10 hK10 => ?_
  refine AW.cond' (b := decide (t4 < (Sh.len p0.steps))) rfl (fun b11 => ?_) (fun b11 => ?_)
  · replace h1 := Sh.ite_t b11 h1
    refine AW.skip (hK10 _ ?_)
    refine AW.seq fun K12 hK12 => ?_
    refine AW.block ?_
    refine AW.seq fun K13 hK13 => ?_
    refine AW.regionO (by rfl) ?_
    obtain ⟨c14, gc14, h1⟩ := Sh.bind_some h1
    refine ao_q (v := (.iptr [(i64 c14.op), (i64 c14.num), (i64 c14.into), (.sl (List.map eI c14.args)), (.sl (List.map eBlock c14.kids))] 0)) go0 rfl (aq_ixsE ei27 rfl rfl gc14 (eStep_eq _) rfl) ?_
    refine ao_q (v := (.agg [(i64 c14.op), (i64 c14.num), (i64 c14.into), (.sl (List.map eI c14.args)), (.sl (List.map eBlock c14.kids))])) go0 rfl (aq_ldia ti76 rfl (show 0 + 5 ≤ 5 by decide) rfl) ?_
    refine ao_alloc (m := 1) (st' := [⟨0, 3, 1, [[(i64 f5)]]⟩, ⟨0, 76, 5, [[(i64 0), (i64 0), (i64 0), .zc, .zc]]⟩]) go0 zi76 rfl rfl ?_
    refine ao_str (st' := [⟨0, 3, 1, [[(i64 f5)]]⟩, ⟨0, 76, 5, [[(i64 c14.op), (i64 c14.num), (i64 c14.into), (.sl (List.map eI c14.args)), (.sl (List.map eBlock c14.kids))]]⟩]) go0 ti76 rfl rfl rfl rfl rfl rfl (show 0 + 5 ≤ 5 by decide) rfl ?_
    refine AO.done (hK13 _ ?_)
    refine AW.seq fun K15 hK15 => ?_
    refine AW.seq fun K16 hK16 => ?_
    refine AW.regionO (by rfl) ?_
    refine ao_q (v := (.ptr 0 0 0 0)) go0 rfl (aq_mv rfl) ?_
    refine ao_q (v := (.ptr 0 0 0 0)) go0 rfl (aq_nck rfl rfl) ?_
    refine ao_q (v := (i64 f5)) go0 rfl (aq_ldp ti3 rfl rfl rfl rfl) ?_
    refine ao_q (v := (i64 (Sh.w (f5 + 1)))) go0 rfl (aq_add rfl rfl) ?_
    refine ao_q (v := (.ptr 0 0 0 0)) go0 rfl (aq_nck rfl rfl) ?_
    refine ao_str (st' := [⟨0, 3, 1, [[(i64 (Sh.w (f5 + 1)))]]⟩, ⟨0, 76, 5, [[(i64 c14.op), (i64 c14.num), (i64 c14.into), (.sl (List.map eI c14.args)), (.sl (List.map eBlock c14.kids))]]⟩]) go0 ti3 rfl rfl rfl rfl rfl rfl (show 0 + 1 ≤ 1 by decide) rfl ?_
    refine AO.done (hK16 _ ?_)
    refine AW.seq fun K17 hK17 => ?_
    refine AW.regionO (by rfl) ?_
    refine ao_q (v := (.ptr 0 0 0 0)) go0 rfl (aq_mv rfl) ?_
    refine ao_q (v := (.ptr 0 0 0 0)) go0 rfl (aq_nck rfl rfl) ?_
    refine ao_q (v := (i64 (Sh.w (f5 + 1)))) go0 rfl (aq_ldp ti3 rfl rfl rfl rfl) ?_
    refine ao_q (v := (.bool (decide (600 < (Sh.w (f5 + 1)))))) go0 rfl (aq_gt rfl rfl) ?_
    refine AO.done (hK17 _ ?_)
    refine AW.cond' (b := decide (600 < (Sh.w (f5 + 1)))) rfl (fun b18 => ?_) (fun b18 => ?_)
    · replace h1 := Sh.ite_t b18 h1
      refine AW.seq fun K19 hK19 => ?_
      refine AW.regionO (by rfl) ?_
      refine ao_q (v := (.bool false)) go0 rfl (aq_as rfl) ?_
      refine AO.done (hK19 _ ?_)
      replace h1 := Sh.some_eq h1
      subst o7
      try dsimp only [id] at h0
      replace h0 := Sh.some_eq h0
      subst r
      exact AW.ret (Exists.intro _ (And.intro ((Wk.permk (L := [(4, (.bool false))]) (st' := [⟨0, 3, 1, [[(i64 (Sh.w (f5 + 1)))]]⟩]) (st1 := [⟨0, 3, 1, [[(i64 (Sh.w (f5 + 1)))]]⟩]) [0] rfl (.raw rfl rfl .nil) (by decide) rfl rfl (.raw rfl rfl .nil) ⟨.rfl, trivial⟩).trans (Wk.to (L := [(4, (.bool false))]) ⟨.rfl, trivial⟩)) (And.intro rfl rfl)))
    · replace h1 := Sh.ite_f b18 h1
      refine AW.skip (hK15 _ ?_)
      refine AW.seq fun K20 hK20 => ?_
      refine AW.regionO (by rfl) ?_
      refine ao_q (v := (.ptr 1 0 0 4)) go0 rfl (aq_fap fi76_4 rfl rfl (show 0 + 4 ≤ 5 by decide) rfl) ?_
      refine ao_q (v := (.sl (List.map eBlock c14.kids))) go0 rfl (aq_ldp ti74 rfl rfl rfl rfl) ?_
      refine ao_q (v := (i64 (Sh.len c14.kids))) go0 rfl (aq_lens sl74 rfl) ?_
      refine ao_q (v := (i64 0)) go0 rfl (aq_mv rfl) ?_
      refine AO.done (hK20 _ ?_)
      obtain ⟨o24, h2, h1⟩ := Sh.cont_some h1
      have M24 : ∀ (f23 : Int), o24 = Sum.inr f23 → ∀ s, Wk 1 s ⟨38, envL [(1, (.ptr 0 0 0 0)), (10, (.sl (List.map eStep p0.steps))), (11, (i64 (Sh.len p0.steps))), (12, (i64 t4))], [⟨0, 3, 1, [[(i64 f23)]]⟩]⟩ → K12 s := by
        intro f23 hq s hw
        subst o24
        try dsimp only at h1
        refine hK12 _ (AW.weaken hw ?_)
        refine AW.regionO (by rfl) ?_
        refine ao_q (v := (i64 (Sh.w (t4 + 1)))) go0 rfl (aq_add rfl rfl) ?_
        refine ao_q (v := (i64 (Sh.w (t4 + 1)))) go0 rfl (aq_mv rfl) ?_
        exact AO.done (Exists.intro (Sh.w (t4 + 1), f23) (And.intro h1 (Wk.to (L := [(1, (.ptr 0 0 0 0)), (10, (.sl (List.map eStep p0.steps))), (11, (i64 (Sh.len p0.steps))), (12, (i64 (Sh.w (t4 + 1))))]) ⟨.rfl, .rfl, .rfl, .rfl, trivial⟩)))
      refine AW.block (AW.loopF (σ := Int × Int) (fun n v => impl_countSteps_B_L2 c14 rec_impl_countSteps n v.1 v.2 = some o24) (fun (t21, f22) => ⟨38, envL [(1, (.ptr 0 0 0 0)), (10, (.sl (List.map eStep p0.steps))), (11, (i64 (Sh.len p0.steps))), (12, (i64 t4)), (26, (.sl (List.map eBlock c14.kids))), (27, (i64 (Sh.len c14.kids))), (28, (i64 t21))], [⟨0, 3, 1, [[(i64 f22)]]⟩]⟩) N (0, Sh.w (f5 + 1)) h2 (by refine Wk.trans (Wk.permk (L := [(1, (.ptr 0 0 0 0)), (10, (.sl (List.map eStep p0.steps))), (11, (i64 (Sh.len p0.steps))), (12, (i64 t4)), (26, (.sl (List.map eBlock c14.kids))), (27, (i64 (Sh.len c14.kids))), (28, (i64 0))]) (st' := [⟨0, 3, 1, [[(i64 (Sh.w (f5 + 1)))]]⟩]) (st1 := [⟨0, 3, 1, [[(i64 (Sh.w (f5 + 1)))]]⟩]) [0] rfl (.raw rfl rfl .nil) (by decide) rfl rfl (.raw rfl rfl .nil) ⟨.rfl, .rfl, .rfl, .rfl, .rfl, .rfl, .rfl, trivial⟩) ?_; exact Wk.to (L := [(1, (.ptr 0 0 0 0)), (10, (.sl (List.map eStep p0.steps))), (11, (i64 (Sh.len p0.steps))), (12, (i64 t4)), (26, (.sl (List.map eBlock c14.kids))), (27, (i64 (Sh.len c14.kids))), (28, (i64 0))]) ⟨.rfl, .rfl, .rfl, .rfl, .rfl, .rfl, .rfl, trivial⟩) (fun _ hv => by rw [impl_countSteps_B_L2] at hv; cases hv) ?_)
      rintro n ⟨t21, f22⟩ h2
      try dsimp only at h2 ⊢
      rw [impl_countSteps_B_L2] at h2
      refine AW.seq fun K25 hK25 => ?_
      refine AW.regionO (by rfl) ?_
      refine ao_q (v := (.bool (decide (t21 < (Sh.len c14.kids))))) go0 rfl (aq_lt rfl rfl) ?_
      refine AO.done (hK25 _ ?_)
      refine AW.seq fun K26 hK26 => ?_
      refine AW.cond' (b := decide (t21 < (Sh.len c14.kids))) rfl (fun b27 => ?_) (fun b27 => ?_)
      · replace h2 := Sh.ite_t b27 h2
        refine AW.skip (hK26 _ ?_)
        refine AW.seq fun K28 hK28 => ?_
        refine AW.block ?_
        refine AW.seq fun K29 hK29 => ?_
        refine AW.regionO (by rfl) ?_
        obtain ⟨c30, gc30, h2⟩ := Sh.bind_some h2
        refine ao_q (v := (.iptr (eBlock c30) 0)) go0 rfl (aq_ixs ei74 rfl rfl gc30 rfl) ?_
        refine ao_q (v := (.agg [(.sl (List.map eStep c30.steps)), (i64 c30.result)])) go0 rfl (aq_ldia ti29 rfl (show 0 + 2 ≤ 2 by decide) rfl) ?_
        refine ao_alloc (m := 1) (st' := [⟨0, 3, 1, [[(i64 f22)]]⟩, ⟨0, 29, 2, [[.zc, (i64 0)]]⟩]) go0 zi29 rfl rfl ?_
        refine ao_str (st' := [⟨0, 3, 1, [[(i64 f22)]]⟩, ⟨0, 29, 2, [[(.sl (List.map eStep c30.steps)), (i64 c30.result)]]⟩]) go0 ti29 rfl rfl rfl rfl rfl rfl (show 0 + 2 ≤ 2 by decide) rfl ?_
        refine AO.done (hK29 _ ?_)
        refine AW.seq fun K31 hK31 => ?_
        refine AW.regionO (by rfl) ?_
        refine ao_q (v := (.agg [(.sl (List.map eStep c30.steps)), (i64 c30.result)])) go0 rfl (aq_ldpa ti29 rfl rfl rfl (show 0 + 2 ≤ 2 by decide) rfl) ?_
        refine ao_q (v := (.ptr 0 0 0 0)) go0 rfl (aq_mv rfl) ?_
        obtain ⟨q32, gq32, h2⟩ := Sh.bind_some h2
        refine ao_calls (rowsP := [⟨0, 3, 1, [[(i64 f22)]]⟩]) (rows0 := [⟨0, 3, 1, [[(i64 f22)]]⟩]) (rows1 := [⟨0, 3, 1, [[(i64 q32.2)]]⟩]) (rows2 := []) (rows1' := [⟨0, 3, 1, [[(i64 q32.2)]]⟩]) (rows2' := []) (st' := [⟨0, 3, 1, [[(i64 q32.2)]]⟩, ⟨0, 29, 2, [[(.sl (List.map eStep c30.steps)), (i64 c30.result)]]⟩]) (v' := (.bool q32.1)) [0] go0 hb77 (hrec_impl_countSteps gq32) rfl (by decide) rfl rfl (.raw rfl rfl .nil) rfl rfl (.raw rfl rfl .nil) .nil rfl rfl ?_
        refine ao_q (v := (.bool (!q32.1))) go0 rfl (aq_not rfl) ?_
        refine AO.done (hK31 _ ?_)
        refine AW.cond' (b := !q32.1) rfl (fun b33 => ?_) (fun b33 => ?_)
        · replace h2 := Sh.ite_t b33 h2
          have b34 : q32.1 = false := by simpa using b33
          refine AW.seq fun K35 hK35 => ?_
          refine AW.regionO (by rfl) ?_
          refine ao_q (v := (.bool false)) go0 rfl (aq_as rfl) ?_
          refine AO.done (hK35 _ ?_)
          replace h2 := Sh.some_eq h2
          subst o24
          try dsimp only [id] at h1
          replace h1 := Sh.some_eq h1
          subst o7
          try dsimp only [id] at h0
          replace h0 := Sh.some_eq h0
          subst r
          exact AW.ret (Exists.intro _ (And.intro ((Wk.permk (L := [(4, (.bool false))]) (st' := [⟨0, 3, 1, [[(i64 q32.2)]]⟩]) (st1 := [⟨0, 3, 1, [[(i64 q32.2)]]⟩]) [0] rfl (.raw rfl rfl .nil) (by decide) rfl rfl (.raw rfl rfl .nil) ⟨.rfl, trivial⟩).trans (Wk.to (L := [(4, (.bool false))]) ⟨.rfl, trivial⟩)) (And.intro rfl rfl)))
        · replace h2 := Sh.ite_f b33 h2
          have b36 : q32.1 = true := by simpa using b33
          refine AW.skip (hK28 _ ?_)
          refine AW.regionO (by rfl) ?_
          refine ao_q (v := (i64 (Sh.w (t21 + 1)))) go0 rfl (aq_add rfl rfl) ?_
          refine ao_q (v := (i64 (Sh.w (t21 + 1)))) go0 rfl (aq_mv rfl) ?_
          exact AO.done (Exists.intro (Sh.w (t21 + 1), q32.2) (And.intro h2 (by refine Wk.trans (Wk.permk (L := [(1, (.ptr 0 0 0 0)), (10, (.sl (List.map eStep p0.steps))), (11, (i64 (Sh.len p0.steps))), (12, (i64 t4)), (26, (.sl (List.map eBlock c14.kids))), (27, (i64 (Sh.len c14.kids))), (28, (i64 (Sh.w (t21 + 1))))]) (st' := [⟨0, 3, 1, [[(i64 q32.2)]]⟩]) (st1 := [⟨0, 3, 1, [[(i64 q32.2)]]⟩]) [0] rfl (.raw rfl rfl .nil) (by decide) rfl rfl (.raw rfl rfl .nil) ⟨.rfl, .rfl, .rfl, .rfl, .rfl, .rfl, .rfl, trivial⟩) ?_; exact Wk.to (L := [(1, (.ptr 0 0 0 0)), (10, (.sl (List.map eStep p0.steps))), (11, (i64 (Sh.len p0.steps))), (12, (i64 t4)), (26, (.sl (List.map eBlock c14.kids))), (27, (i64 (Sh.len c14.kids))), (28, (i64 (Sh.w (t21 + 1))))]) ⟨.rfl, .rfl, .rfl, .rfl, .rfl, .rfl, .rfl, trivial⟩)))
      · replace h2 := Sh.ite_f b27 h2
        exact AW.exit (M24 f22 (Sh.some_eq h2).symm _ (Wk.to (L := [(1, (.ptr 0 0 0 0)), (10, (.sl (List.map eStep p0.steps))), (11, (i64 (Sh.len p0.steps))), (12, (i64 t4))]) ⟨.rfl, .rfl, .rfl, .rfl, trivial⟩))
  · replace h1 := Sh.ite_f b11 h1
    exact AW.exit (M7 f5 (Sh.some_eq h1).symm _ (Wk.to (L := []) trivial))

theorem impl_countSteps_F_ok {N : Nat} : ∀ (n : Nat), ∀ {s0_0 : Int} {p0 : Block} {r : Bool × Int}, impl_countSteps_F N n s0_0 p0 = some r → ACalls Try.prog 77 [(.agg [(.sl (List.map eStep p0.steps)), (i64 p0.result)]), (.ptr 0 0 0 0)] [⟨0, 3, 1, [[(i64 s0_0)]]⟩] (fun v st => v = (.bool r.1) ∧ st = [⟨0, 3, 1, [[(i64 r.2)]]⟩]) := by
  intro n
  induction n with
  | zero => intro s0_0 p0 r h0; cases h0
  | succ n ih =>
    intro s0_0 p0 r h0
    rw [impl_countSteps_F] at h0
    exact impl_countSteps_B_ok (fun h => ih h) h0
theorem impl_countSteps_ok {N : Nat} : ∀ {s0_0 : Int} {p0 : Block} {r : Bool × Int}, impl_countSteps N s0_0 p0 = some r → ACalls Try.prog 77 [(.agg [(.sl (List.map eStep p0.steps)), (i64 p0.result)]), (.ptr 0 0 0 0)] [⟨0, 3, 1, [[(i64 s0_0)]]⟩] (fun v st => v = (.bool r.1) ∧ st = [⟨0, 3, 1, [[(i64 r.2)]]⟩]) := by
  intro s0_0 p0 r h0
  exact impl_countSteps_F_ok N h0

set_option maxRecDepth 100000 in
set_option maxHeartbeats 4000000 in
theorem impl_StepsOf_ok {N : Nat} {p0 : Block} {r : Int} (h0 : impl_StepsOf N p0 = some r) : ACalls Try.prog 46 [(.agg [(.sl (List.map eStep p0.steps)), (i64 p0.result)])] [] (fun v st => v = (i64 r) ∧ st = []) := by
  unfold impl_StepsOf at h0
  refine ACalls.intro Try.func46 rfl (by show 1 ≤ 8; decide) ?_
  show AW _ 0 _ (aret _ 0 Try.f46 _) ⟨8, _, _⟩
  refine AW.weaken (Wk.to (L := [(0, (.agg [(.sl (List.map eStep p0.steps)), (i64 p0.result)]))]) ⟨.rfl, trivial⟩) ?_
  refine AW.seq fun K1 hK1 => ?_
  refine AW.regionO (by rfl) ?_
  refine ao_box (m := 0) (st' := [⟨0, 29, 2, [[(.sl (List.map eStep p0.steps)), (i64 p0.result)]]⟩]) go0 rfl rfl rfl rfl rfl ?_
  refine ao_q (v := (i64 0)) go0 rfl (aq_as rfl) ?_
  refine AO.done (hK1 _ ?_)
  refine AW.seq fun K2 hK2 => ?_
  refine AW.regionO (by rfl) ?_
  refine ao_alloc (m := 1) (st' := [⟨0, 29, 2, [[(.sl (List.map eStep p0.steps)), (i64 p0.result)]]⟩, ⟨0, 3, 1, [[(i64 0)]]⟩]) go0 zi3 rfl rfl ?_
  refine ao_str (st' := [⟨0, 29, 2, [[(.sl (List.map eStep p0.steps)), (i64 p0.result)]]⟩, ⟨0, 3, 1, [[(i64 0)]]⟩]) go0 ti3 rfl rfl rfl rfl rfl rfl (show 0 + 1 ≤ 1 by decide) rfl ?_
  refine AO.done (hK2 _ ?_)
  refine AW.seq fun K3 hK3 => ?_
  refine AW.seq fun K4 hK4 => ?_
  refine AW.regionO (by rfl) ?_
  refine ao_q (v := (.agg [(.sl (List.map eStep p0.steps)), (i64 p0.result)])) go0 rfl (aq_ldpa ti29 rfl rfl rfl (show 0 + 2 ≤ 2 by decide) rfl) ?_
  obtain ⟨q5, gq5, h0⟩ := Sh.bind_some h0
  refine ao_calls (rowsP := [⟨0, 3, 1, [[(i64 0)]]⟩]) (rows0 := [⟨0, 3, 1, [[(i64 0)]]⟩]) (rows1 := [⟨0, 3, 1, [[(i64 q5.2)]]⟩]) (rows2 := []) (rows1' := [⟨0, 3, 1, [[(i64 q5.2)]]⟩]) (rows2' := []) (st' := [⟨0, 29, 2, [[(.sl (List.map eStep p0.steps)), (i64 p0.result)]]⟩, ⟨0, 3, 1, [[(i64 q5.2)]]⟩]) (v' := (.bool q5.1)) [1] go0 hb77 (impl_countSteps_ok gq5) rfl (by decide) rfl rfl (.raw rfl rfl .nil) rfl rfl (.raw rfl rfl .nil) .nil rfl rfl ?_
  refine ao_q (v := (.bool (!q5.1))) go0 rfl (aq_not rfl) ?_
  refine AO.done (hK4 _ ?_)
  refine AW.cond' (b := !q5.1) rfl (fun b6 => ?_) (fun b6 => ?_)
  · replace h0 := Sh.ite_t b6 h0
    have b7 : q5.1 = false := by simpa using b6
    refine AW.seq fun K8 hK8 => ?_
    refine AW.regionO (by rfl) ?_
    refine ao_q (v := (i64 (-1))) go0 rfl (aq_as rfl) ?_
    refine AO.done (hK8 _ ?_)
    replace h0 := Sh.some_eq h0
    subst r
    exact AW.ret (Exists.intro _ (And.intro ((Wk.permk (L := [(2, (i64 (-1)))]) (st' := []) (st1 := []) [] rfl .nil (by decide) rfl rfl .nil ⟨.rfl, trivial⟩).trans (Wk.to (L := [(2, (i64 (-1)))]) ⟨.rfl, trivial⟩)) (And.intro rfl rfl)))
  · replace h0 := Sh.ite_f b6 h0
    have b9 : q5.1 = true := by simpa using b6
    refine AW.skip (hK3 _ ?_)
    refine AW.seq fun K10 hK10 => ?_
    refine AW.regionO (by rfl) ?_
    refine ao_q (v := (i64 q5.2)) go0 rfl (aq_ldp ti3 rfl rfl rfl rfl) ?_
    refine ao_q (v := (i64 q5.2)) go0 rfl (aq_as rfl) ?_
    refine AO.done (hK10 _ ?_)
    replace h0 := Sh.some_eq h0
    subst r
    exact AW.ret (Exists.intro _ (And.intro ((Wk.permk (L := [(2, (i64 q5.2))]) (st' := []) (st1 := []) [] rfl .nil (by decide) rfl rfl .nil ⟨.rfl, trivial⟩).trans (Wk.to (L := [(2, (i64 q5.2))]) ⟨.rfl, trivial⟩)) (And.intro rfl rfl)))

set_option maxRecDepth 100000 in
set_option maxHeartbeats 4000000 in
theorem impl_isCounting_ok {p0 : Int} {r : Bool} (h0 : impl_isCounting p0 = some r) : ACalls Try.prog 119 [(i64 p0)] [] (fun v st => v = (.bool r) ∧ st = []) := by
  unfold impl_isCounting at h0
  refine ACalls.intro Try.func119 rfl (by show 1 ≤ 9; decide) ?_
  show AW _ 0 _ (aret _ 0 Try.f119 _) ⟨9, _, _⟩
  refine AW.weaken (Wk.to (L := [(0, (i64 p0))]) ⟨.rfl, trivial⟩) ?_
  refine AW.seq fun K1 hK1 => ?_
  refine AW.regionO (by rfl) ?_
  refine ao_q (v := (.bool false)) go0 rfl (aq_as rfl) ?_
  refine AO.done (hK1 _ ?_)
  refine AW.seq fun K2 hK2 => ?_
  obtain ⟨o4, h1, h0⟩ := Sh.bind_some h0
  have M4 : ∀ (t3 : Bool), o4 = t3 → ∀ s, Wk 0 s ⟨9, envL [(2, (.bool t3))], []⟩ → K2 s := by
    intro t3 hq s hw
    subst o4
    try dsimp only at h0
    refine hK2 _ (AW.weaken hw ?_)
    replace h0 := Sh.some_eq h0
    subst r
    exact AW.ret (Exists.intro _ (And.intro (Wk.to (L := [(2, (.bool t3))]) ⟨.rfl, trivial⟩) (And.intro rfl rfl)))
  refine AW.regionO (by rfl) ?_
  refine ao_q (v := (i64 p0)) go0 rfl (aq_mv rfl) ?_
  refine ao_q (v := (.bool (decide (14 ≤ p0)))) go0 rfl (aq_ge rfl rfl) ?_
  refine ao_q (v := (.bool (decide (14 ≤ p0)))) go0 rfl (aq_mv rfl) ?_
  rcases Sh.ite_some h1 with ⟨b5, h1⟩ | ⟨b5, h1⟩
  · skip
    refine ao_q (v := (i64 p0)) (go1 rfl rfl b5) rfl (aq_mv rfl) ?_
    refine ao_q (v := (.bool (decide (p0 ≤ 17)))) (go1 rfl rfl b5) rfl (aq_le rfl rfl) ?_
    refine ao_q (v := (.bool (decide (p0 ≤ 17)))) go0 rfl (aq_pkt rfl b5 rfl) ?_
    refine ao_q (v := (.bool (decide (p0 ≤ 17)))) go0 rfl (aq_as rfl) ?_
    exact AO.done (M4 (decide (p0 ≤ 17)) (Sh.some_eq h1).symm _ (Wk.to (L := [(2, (.bool (decide (p0 ≤ 17))))]) ⟨.rfl, trivial⟩))
  · skip
    refine ao_skip rfl rfl b5 ?_
    refine ao_skip rfl rfl b5 ?_
    refine ao_q (v := (.bool false)) go0 rfl (aq_pkf rfl b5 rfl) ?_
    refine ao_q (v := (.bool false)) go0 rfl (aq_as rfl) ?_
    exact AO.done (M4 false (Sh.some_eq h1).symm _ (Wk.to (L := [(2, (.bool false))]) ⟨.rfl, trivial⟩))

set_option maxRecDepth 100000 in
set_option maxHeartbeats 4000000 in
theorem impl_UsesOf_1_ok {s0_0 : Int} {s1_0 : Int} {p0 : Int} {r : Int} (h0 : impl_UsesOf_1 s0_0 s1_0 p0 = some r) : ACalls Try.prog 48 [(i64 p0), (.ptr 0 0 0 0), (.ptr 1 0 0 0)] [⟨0, 3, 1, [[(i64 s0_0)]]⟩, ⟨0, 3, 1, [[(i64 s1_0)]]⟩] (fun v st => v = (.tup []) ∧ st = [⟨0, 3, 1, [[(i64 s0_0)]]⟩, ⟨0, 3, 1, [[(i64 r)]]⟩]) := by
  unfold impl_UsesOf_1 at h0
  refine ACalls.intro Try.func48 rfl (by show 3 ≤ 9; decide) ?_
  show AW _ 2 _ (aret _ 2 Try.f48 _) ⟨9, _, _⟩
  refine AW.weaken (Wk.to (L := [(0, (i64 p0)), (1, (.ptr 0 0 0 0)), (2, (.ptr 1 0 0 0))]) ⟨.rfl, .rfl, .rfl, trivial⟩) ?_
  refine AW.seq fun K1 hK1 => ?_
  refine AW.regionO (by rfl) ?_
  refine ao_q (v := (i64 p0)) go0 rfl (aq_mv rfl) ?_
  refine ao_q (v := (i64 s0_0)) go0 rfl (aq_ldp ti3 rfl rfl rfl rfl) ?_
  refine ao_q (v := (.bool (decide (p0 = s0_0)))) go0 rfl (aq_eq rfl rfl) ?_
  refine AO.done (hK1 _ ?_)
  refine AW.cond' (b := decide (p0 = s0_0)) rfl (fun b2 => ?_) (fun b2 => ?_)
  · replace h0 := Sh.ite_t b2 h0
    refine AW.regionO (by rfl) ?_
    refine ao_q (v := (i64 s1_0)) go0 rfl (aq_ldp ti3 rfl rfl rfl rfl) ?_
    refine ao_q (v := (i64 (Sh.w (s1_0 + 1)))) go0 rfl (aq_add rfl rfl) ?_
    refine ao_str (st' := [⟨0, 3, 1, [[(i64 s0_0)]]⟩, ⟨0, 3, 1, [[(i64 (Sh.w (s1_0 + 1)))]]⟩]) go0 ti3 rfl rfl rfl rfl rfl rfl (show 0 + 1 ≤ 1 by decide) rfl ?_
    replace h0 := Sh.some_eq h0
    subst r
    exact AO.done (Exists.intro _ (And.intro (Wk.to (L := []) trivial) (And.intro rfl rfl)))
  · replace h0 := Sh.ite_f b2 h0
    replace h0 := Sh.some_eq h0
    subst r
    exact AW.skip (Exists.intro _ (And.intro (Wk.to (L := []) trivial) (And.intro rfl rfl)))

set_option maxRecDepth 100000 in
set_option maxHeartbeats 4000000 in
theorem impl_visitStep_ok {N : Nat} {rec_impl_visitUses : Int → Int → Block → Int → Option (Int × Int)} (hrec_impl_visitUses : ∀ {s0_0 : Int} {s1_0 : Int} {p0 : Block} {p1 : Int} {r : Int × Int}, rec_impl_visitUses s0_0 s1_0 p0 p1 = some r → ACalls Try.prog 47 [(.agg [(.sl (List.map eStep p0.steps)), (i64 p0.result)]), (i64 p1), (.fn 48 [(.ptr 0 0 0 0), (.ptr 1 0 0 0)])] [⟨0, 3, 1, [[(i64 s0_0)]]⟩, ⟨0, 3, 1, [[(i64 s1_0)]]⟩] (fun v st => v = (.tup []) ∧ st = [⟨0, 3, 1, [[(i64 r.1)]]⟩, ⟨0, 3, 1, [[(i64 r.2)]]⟩])) {s0_0 : Int} {s1_0 : Int} {p0 : Step} {r : Int × Int} (h0 : impl_visitStep N rec_impl_visitUses s0_0 s1_0 p0 = some r) : ACalls Try.prog 78 [(.agg [(i64 p0.op), (i64 p0.num), (i64 p0.into), (.sl (List.map eI p0.args)), (.sl (List.map eBlock p0.kids))]), (.fn 48 [(.ptr 0 0 0 0), (.ptr 1 0 0 0)])] [⟨0, 3, 1, [[(i64 s0_0)]]⟩, ⟨0, 3, 1, [[(i64 s1_0)]]⟩] (fun v st => v = (.tup []) ∧ st = [⟨0, 3, 1, [[(i64 r.1)]]⟩, ⟨0, 3, 1, [[(i64 r.2)]]⟩]) := by
  unfold impl_visitStep at h0
  refine ACalls.intro Try.func78 rfl (by show 2 ≤ 33; decide) ?_
  show AW _ 2 _ (aret _ 2 Try.f78 _) ⟨33, _, _⟩
  refine AW.weaken (Wk.to (L := [(0, (.agg [(i64 p0.op), (i64 p0.num), (i64 p0.into), (.sl (List.map eI p0.args)), (.sl (List.map eBlock p0.kids))])), (1, (.fn 48 [(.ptr 0 0 0 0), (.ptr 1 0 0 0)]))]) ⟨.rfl, .rfl, trivial⟩) ?_
  refine AW.seq fun K1 hK1 => ?_
  refine AW.regionO (by rfl) ?_
  refine ao_box (m := 2) (st' := [⟨0, 3, 1, [[(i64 s0_0)]]⟩, ⟨0, 3, 1, [[(i64 s1_0)]]⟩, ⟨0, 76, 5, [[(i64 p0.op), (i64 p0.num), (i64 p0.into), (.sl (List.map eI p0.args)), (.sl (List.map eBlock p0.kids))]]⟩]) go0 rfl rfl rfl rfl rfl ?_
  refine AO.done (hK1 _ ?_)
  refine AW.seq fun K2 hK2 => ?_
  refine AW.seq fun K3 hK3 => ?_
  refine AW.regionO (by rfl) ?_
  refine ao_q (v := (.ptr 2 0 0 0)) go0 rfl (aq_fap fi76_0 rfl rfl (show 0 + 0 ≤ 5 by decide) rfl) ?_
  refine ao_q (v := (i64 p0.op)) go0 rfl (aq_ldp ti3 rfl rfl rfl rfl) ?_
  obtain ⟨q4, gq4, h0⟩ := Sh.bind_some h0
  refine ao_call (v' := (.bool q4)) (st' := [⟨0, 3, 1, [[(i64 s0_0)]]⟩, ⟨0, 3, 1, [[(i64 s1_0)]]⟩, ⟨0, 76, 5, [[(i64 p0.op), (i64 p0.num), (i64 p0.into), (.sl (List.map eI p0.args)), (.sl (List.map eBlock p0.kids))]]⟩]) go0 hb119 (impl_isCounting_ok gq4) rfl rfl trivial rfl rfl ?_
  refine AO.done (hK3 _ ?_)
  refine AW.cond' (b := q4) rfl (fun b5 => ?_) (fun b5 => ?_)
  · replace h0 := Sh.ite_t b5 h0
    replace h0 := Sh.some_eq h0
    subst r
    exact AW.ret (Exists.intro _ (And.intro ((Wk.permk (L := []) (st' := [⟨0, 3, 1, [[(i64 s0_0)]]⟩, ⟨0, 3, 1, [[(i64 s1_0)]]⟩]) (st1 := [⟨0, 3, 1, [[(i64 s0_0)]]⟩, ⟨0, 3, 1, [[(i64 s1_0)]]⟩]) [0, 1] rfl (.raw rfl rfl (.raw rfl rfl .nil)) (by decide) rfl rfl (.raw rfl rfl (.raw rfl rfl .nil)) trivial).trans (Wk.to (L := []) trivial)) (And.intro rfl rfl)))
  · replace h0 := Sh.ite_f b5 h0
    refine AW.skip (hK2 _ ?_)
    refine AW.seq fun K6 hK6 => ?_
    refine AW.seq fun K7 hK7 => ?_
    refine AW.regionO (by rfl) ?_
    refine ao_q (v := (.ptr 2 0 0 3)) go0 rfl (aq_fap fi76_3 rfl rfl (show 0 + 3 ≤ 5 by decide) rfl) ?_
    refine ao_q (v := (.sl (List.map eI p0.args))) go0 rfl (aq_ldp ti34 rfl rfl rfl rfl) ?_
    refine ao_q (v := (i64 (Sh.len p0.args))) go0 rfl (aq_lens sl34 rfl) ?_
    refine ao_q (v := (i64 0)) go0 rfl (aq_mv rfl) ?_
    refine AO.done (hK7 _ ?_)
    obtain ⟨o11, h1, h0⟩ := Sh.bind_some h0
    have M11 : ∀ (f10 : Int), o11 = f10 → ∀ s, Wk 2 s ⟨33, envL [(1, (.fn 48 [(.ptr 0 0 0 0), (.ptr 1 0 0 0)])), (2, (.ptr 2 0 0 0))], [⟨0, 3, 1, [[(i64 s0_0)]]⟩, ⟨0, 3, 1, [[(i64 f10)]]⟩, ⟨0, 76, 5, [[(i64 p0.op), (i64 p0.num), (i64 p0.into), (.sl (List.map eI p0.args)), (.sl (List.map eBlock p0.kids))]]⟩]⟩ → K6 s := by
      intro f10 hq s hw
      subst o11
      try dsimp only at h0
      refine hK6 _ (AW.weaken hw ?_)
      refine AW.seq fun K12 hK12 => ?_
      refine AW.regionO (by rfl) ?_
      refine ao_q (v := (.ptr 2 0 0 4)) go0 rfl (aq_fap fi76_4 rfl rfl (show 0 + 4 ≤ 5 by decide) rfl) ?_
      refine ao_q (v := (.sl (List.map eBlock p0.kids))) go0 rfl (aq_ldp ti74 rfl rfl rfl rfl) ?_
      refine ao_q (v := (i64 (Sh.len p0.kids))) go0 rfl (aq_lens sl74 rfl) ?_
      refine ao_q (v := (i64 0)) go0 rfl (aq_mv rfl) ?_
      refine AO.done (hK12 _ ?_)
      refine AW.fin fun K13 hK13 => ?_
      obtain ⟨o19, h1, h0⟩ := Sh.bind_some h0
      have M19 : ∀ (f17 : Int) (f18 : Int), o19 = (f17, f18) → ∀ s, Wk 2 s ⟨33, envL [], [⟨0, 3, 1, [[(i64 f17)]]⟩, ⟨0, 3, 1, [[(i64 f18)]]⟩]⟩ → K13 s := by
        intro f17 f18 hq s hw
        subst o19
        try dsimp only at h0
        refine hK13 _ ?_
        replace h0 := Sh.some_eq h0
        subst r
        exact Exists.intro _ (And.intro (hw.trans (Wk.to (L := []) trivial)) (And.intro rfl rfl))
      refine AW.block (AW.loopF (σ := Int × Int × Int) (fun n v => impl_visitStep_L2 p0 rec_impl_visitUses n v.1 v.2.1 v.2.2 = some o19) (fun (t14, f15, f16) => ⟨33, envL [(1, (.fn 48 [(.ptr 0 0 0 0), (.ptr 1 0 0 0)])), (23, (.sl (List.map eBlock p0.kids))), (24, (i64 (Sh.len p0.kids))), (25, (i64 t14))], [⟨0, 3, 1, [[(i64 f15)]]⟩, ⟨0, 3, 1, [[(i64 f16)]]⟩]⟩) N (0, s0_0, f10) h1 (by refine Wk.trans (Wk.permk (L := [(1, (.fn 48 [(.ptr 0 0 0 0), (.ptr 1 0 0 0)])), (23, (.sl (List.map eBlock p0.kids))), (24, (i64 (Sh.len p0.kids))), (25, (i64 0))]) (st' := [⟨0, 3, 1, [[(i64 s0_0)]]⟩, ⟨0, 3, 1, [[(i64 f10)]]⟩]) (st1 := [⟨0, 3, 1, [[(i64 s0_0)]]⟩, ⟨0, 3, 1, [[(i64 f10)]]⟩]) [0, 1] rfl (.raw rfl rfl (.raw rfl rfl .nil)) (by decide) rfl rfl (.raw rfl rfl (.raw rfl rfl .nil)) ⟨.rfl, .rfl, .rfl, .rfl, trivial⟩) ?_; exact Wk.to (L := [(1, (.fn 48 [(.ptr 0 0 0 0), (.ptr 1 0 0 0)])), (23, (.sl (List.map eBlock p0.kids))), (24, (i64 (Sh.len p0.kids))), (25, (i64 0))]) ⟨.rfl, .rfl, .rfl, .rfl, trivial⟩) (fun _ hv => by rw [impl_visitStep_L2] at hv; cases hv) ?_)
      rintro n ⟨t14, f15, f16⟩ h1
      try dsimp only at h1 ⊢
      rw [impl_visitStep_L2] at h1
      refine AW.seq fun K20 hK20 => ?_
      refine AW.regionO (by rfl) ?_
      refine ao_q (v := (.bool (decide (t14 < (Sh.len p0.kids))))) go0 rfl (aq_lt rfl rfl) ?_
      refine AO.done (hK20 _ ?_)
      refine AW.seq fun K21 hK21 => ?_
      refine AW.cond' (b := decide (t14 < (Sh.len p0.kids))) rfl (fun b22 => ?_) (fun b22 => ?_)
      · replace h1 := Sh.ite_t b22 h1
        refine AW.skip (hK21 _ ?_)
        refine AW.seq fun K23 hK23 => ?_
        refine AW.block ?_
        refine AW.seq fun K24 hK24 => ?_
        refine AW.regionO (by rfl) ?_
        obtain ⟨c25, gc25, h1⟩ := Sh.bind_some h1
        refine ao_q (v := (.iptr (eBlock c25) 0)) go0 rfl (aq_ixs ei74 rfl rfl gc25 rfl) ?_
        refine ao_q (v := (.agg [(.sl (List.map eStep c25.steps)), (i64 c25.result)])) go0 rfl (aq_ldia ti29 rfl (show 0 + 2 ≤ 2 by decide) rfl) ?_
        refine ao_alloc (m := 2) (st' := [⟨0, 3, 1, [[(i64 f15)]]⟩, ⟨0, 3, 1, [[(i64 f16)]]⟩, ⟨0, 29, 2, [[.zc, (i64 0)]]⟩]) go0 zi29 rfl rfl ?_
        refine ao_str (st' := [⟨0, 3, 1, [[(i64 f15)]]⟩, ⟨0, 3, 1, [[(i64 f16)]]⟩, ⟨0, 29, 2, [[(.sl (List.map eStep c25.steps)), (i64 c25.result)]]⟩]) go0 ti29 rfl rfl rfl rfl rfl rfl (show 0 + 2 ≤ 2 by decide) rfl ?_
        refine AO.done (hK24 _ ?_)
        refine AW.regionO (by rfl) ?_
        refine ao_q (v := (.agg [(.sl (List.map eStep c25.steps)), (i64 c25.result)])) go0 rfl (aq_ldpa ti29 rfl rfl rfl (show 0 + 2 ≤ 2 by decide) rfl) ?_
        refine ao_q (v := (.fn 48 [(.ptr 0 0 0 0), (.ptr 1 0 0 0)])) go0 rfl (aq_mv rfl) ?_
        obtain ⟨q26, gq26, h1⟩ := Sh.bind_some h1
        refine ao_calls (rowsP := [⟨0, 3, 1, [[(i64 f15)]]⟩, ⟨0, 3, 1, [[(i64 f16)]]⟩]) (rows0 := [⟨0, 3, 1, [[(i64 f15)]]⟩, ⟨0, 3, 1, [[(i64 f16)]]⟩]) (rows1 := [⟨0, 3, 1, [[(i64 q26.1)]]⟩, ⟨0, 3, 1, [[(i64 q26.2)]]⟩]) (rows2 := []) (rows1' := [⟨0, 3, 1, [[(i64 q26.1)]]⟩, ⟨0, 3, 1, [[(i64 q26.2)]]⟩]) (rows2' := []) (st' := [⟨0, 3, 1, [[(i64 q26.1)]]⟩, ⟨0, 3, 1, [[(i64 q26.2)]]⟩, ⟨0, 29, 2, [[(.sl (List.map eStep c25.steps)), (i64 c25.result)]]⟩]) (v' := (.tup [])) [0, 1] go0 hb47 (hrec_impl_visitUses gq26) rfl (by decide) rfl rfl (.raw rfl rfl (.raw rfl rfl .nil)) rfl rfl (.raw rfl rfl (.raw rfl rfl .nil)) .nil rfl rfl ?_
        refine AO.done (hK23 _ ?_)
        refine AW.regionO (by rfl) ?_
        refine ao_q (v := (i64 (Sh.w (t14 + 1)))) go0 rfl (aq_add rfl rfl) ?_
        refine ao_q (v := (i64 (Sh.w (t14 + 1)))) go0 rfl (aq_mv rfl) ?_
        exact AO.done (Exists.intro (Sh.w (t14 + 1), q26.1, q26.2) (And.intro h1 (by refine Wk.trans (Wk.permk (L := [(1, (.fn 48 [(.ptr 0 0 0 0), (.ptr 1 0 0 0)])), (23, (.sl (List.map eBlock p0.kids))), (24, (i64 (Sh.len p0.kids))), (25, (i64 (Sh.w (t14 + 1))))]) (st' := [⟨0, 3, 1, [[(i64 q26.1)]]⟩, ⟨0, 3, 1, [[(i64 q26.2)]]⟩]) (st1 := [⟨0, 3, 1, [[(i64 q26.1)]]⟩, ⟨0, 3, 1, [[(i64 q26.2)]]⟩]) [0, 1] rfl (.raw rfl rfl (.raw rfl rfl .nil)) (by decide) rfl rfl (.raw rfl rfl (.raw rfl rfl .nil)) ⟨.rfl, .rfl, .rfl, .rfl, trivial⟩) ?_; exact Wk.to (L := [(1, (.fn 48 [(.ptr 0 0 0 0), (.ptr 1 0 0 0)])), (23, (.sl (List.map eBlock p0.kids))), (24, (i64 (Sh.len p0.kids))), (25, (i64 (Sh.w (t14 + 1))))]) ⟨.rfl, .rfl, .rfl, .rfl, trivial⟩)))
      · replace h1 := Sh.ite_f b22 h1
        exact AW.exit (M19 f15 f16 (Sh.some_eq h1).symm _ (Wk.to (L := []) trivial))
    refine AW.block (AW.loopF (σ := Int × Int) (fun n v => impl_visitStep_L1 s0_0 p0 n v.1 v.2 = some o11) (fun (t8, f9) => ⟨33, envL [(1, (.fn 48 [(.ptr 0 0 0 0), (.ptr 1 0 0 0)])), (2, (.ptr 2 0 0 0)), (12, (.sl (List.map eI p0.args))), (13, (i64 (Sh.len p0.args))), (14, (i64 t8))], [⟨0, 3, 1, [[(i64 s0_0)]]⟩, ⟨0, 3, 1, [[(i64 f9)]]⟩, ⟨0, 76, 5, [[(i64 p0.op), (i64 p0.num), (i64 p0.into), (.sl (List.map eI p0.args)), (.sl (List.map eBlock p0.kids))]]⟩]⟩) N (0, s1_0) h1 (Wk.to (L := [(1, (.fn 48 [(.ptr 0 0 0 0), (.ptr 1 0 0 0)])), (2, (.ptr 2 0 0 0)), (12, (.sl (List.map eI p0.args))), (13, (i64 (Sh.len p0.args))), (14, (i64 0))]) ⟨.rfl, .rfl, .rfl, .rfl, .rfl, trivial⟩) (fun _ hv => by rw [impl_visitStep_L1] at hv; cases hv) ?_)
    rintro n ⟨t8, f9⟩ h1
    try dsimp only at h1 ⊢
    rw [impl_visitStep_L1] at h1
    refine AW.seq fun K27 hK27 => ?_
    refine AW.regionO (by rfl) ?_
    refine ao_q (v := (.bool (decide (t8 < (Sh.len p0.args))))) go0 rfl (aq_lt rfl rfl) ?_
    refine AO.done (hK27 _ ?_)
    refine AW.seq fun K28 hK28 => ?_
    refine AW.cond' (b := decide (t8 < (Sh.len p0.args))) rfl (fun b29 => ?_) (fun b29 => ?_)
    · replace h1 := Sh.ite_t b29 h1
      refine AW.skip (hK28 _ ?_)
      refine AW.seq fun K30 hK30 => ?_
      refine AW.block ?_
      refine AW.seq fun K31 hK31 => ?_
      refine AW.regionO (by rfl) ?_
      obtain ⟨c32, gc32, h1⟩ := Sh.bind_some h1
      refine ao_q (v := (.iptr (eI c32) 0)) go0 rfl (aq_ixs ei34 rfl rfl gc32 rfl) ?_
      refine ao_q (v := (i64 c32)) go0 rfl (aq_ldi ti3 rfl rfl) ?_
      refine ao_q (v := (i64 c32)) go0 rfl (aq_as rfl) ?_
      refine AO.done (hK31 _ ?_)
      refine AW.regionO (by rfl) ?_
      refine ao_q (v := (.fn 48 [(.ptr 0 0 0 0), (.ptr 1 0 0 0)])) go0 rfl (aq_mv rfl) ?_
      refine ao_q (v := (i64 c32)) go0 rfl (aq_mv rfl) ?_
      obtain ⟨q33, gq33, h1⟩ := Sh.bind_some h1
      refine ao_callst (rowsP := [⟨0, 3, 1, [[(i64 s0_0)]]⟩, ⟨0, 3, 1, [[(i64 f9)]]⟩]) (rows0 := [⟨0, 3, 1, [[(i64 s0_0)]]⟩, ⟨0, 3, 1, [[(i64 f9)]]⟩]) (rows1 := [⟨0, 3, 1, [[(i64 s0_0)]]⟩, ⟨0, 3, 1, [[(i64 q33)]]⟩]) (rows2 := []) (rows1' := [⟨0, 3, 1, [[(i64 s0_0)]]⟩, ⟨0, 3, 1, [[(i64 q33)]]⟩]) (rows2' := []) (st' := [⟨0, 3, 1, [[(i64 s0_0)]]⟩, ⟨0, 3, 1, [[(i64 q33)]]⟩, ⟨0, 76, 5, [[(i64 p0.op), (i64 p0.num), (i64 p0.into), (.sl (List.map eI p0.args)), (.sl (List.map eBlock p0.kids))]]⟩]) (v' := (.tup [])) [0, 1] go0 rfl hb48 (impl_UsesOf_1_ok gq33) rfl (by decide) rfl rfl (.raw rfl rfl (.raw rfl rfl .nil)) rfl rfl (.raw rfl rfl (.raw rfl rfl .nil)) .nil rfl rfl ?_
      refine AO.done (hK30 _ ?_)
      refine AW.regionO (by rfl) ?_
      refine ao_q (v := (i64 (Sh.w (t8 + 1)))) go0 rfl (aq_add rfl rfl) ?_
      refine ao_q (v := (i64 (Sh.w (t8 + 1)))) go0 rfl (aq_mv rfl) ?_
      exact AO.done (Exists.intro (Sh.w (t8 + 1), q33) (And.intro h1 (Wk.to (L := [(1, (.fn 48 [(.ptr 0 0 0 0), (.ptr 1 0 0 0)])), (2, (.ptr 2 0 0 0)), (12, (.sl (List.map eI p0.args))), (13, (i64 (Sh.len p0.args))), (14, (i64 (Sh.w (t8 + 1))))]) ⟨.rfl, .rfl, .rfl, .rfl, .rfl, trivial⟩)))
    · replace h1 := Sh.ite_f b29 h1
      exact AW.exit (M11 f9 (Sh.some_eq h1).symm _ (Wk.to (L := [(1, (.fn 48 [(.ptr 0 0 0 0), (.ptr 1 0 0 0)])), (2, (.ptr 2 0 0 0))]) ⟨.rfl, .rfl, trivial⟩))

set_option maxRecDepth 100000 in
set_option maxHeartbeats 4000000 in
theorem impl_visitUses_B_ok {N : Nat} {rec_impl_visitUses : Int → Int → Block → Int → Option (Int × Int)} (hrec_impl_visitUses : ∀ {s0_0 : Int} {s1_0 : Int} {p0 : Block} {p1 : Int} {r : Int × Int}, rec_impl_visitUses s0_0 s1_0 p0 p1 = some r → ACalls Try.prog 47 [(.agg [(.sl (List.map eStep p0.steps)), (i64 p0.result)]), (i64 p1), (.fn 48 [(.ptr 0 0 0 0), (.ptr 1 0 0 0)])] [⟨0, 3, 1, [[(i64 s0_0)]]⟩, ⟨0, 3, 1, [[(i64 s1_0)]]⟩] (fun v st => v = (.tup []) ∧ st = [⟨0, 3, 1, [[(i64 r.1)]]⟩, ⟨0, 3, 1, [[(i64 r.2)]]⟩])) {s0_0 : Int} {s1_0 : Int} {p0 : Block} {p1 : Int} {r : Int × Int} (h0 : impl_visitUses_B N rec_impl_visitUses s0_0 s1_0 p0 p1 = some r) : ACalls Try.prog 47 [(.agg [(.sl (List.map eStep p0.steps)), (i64 p0.result)]), (i64 p1), (.fn 48 [(.ptr 0 0 0 0), (.ptr 1 0 0 0)])] [⟨0, 3, 1, [[(i64 s0_0)]]⟩, ⟨0, 3, 1, [[(i64 s1_0)]]⟩] (fun v st => v = (.tup []) ∧ st = [⟨0, 3, 1, [[(i64 r.1)]]⟩, ⟨0, 3, 1, [[(i64 r.2)]]⟩]) := by
  unfold impl_visitUses_B at h0
  refine ACalls.intro Try.func47 rfl (by show 3 ≤ 25; decide) ?_
  show AW _ 2 _ (aret _ 2 Try.f47 _) ⟨25, _, _⟩
  refine AW.weaken (Wk.to (L := [(0, (.agg [(.sl (List.map eStep p0.steps)), (i64 p0.result)])), (1, (i64 p1)), (2, (.fn 48 [(.ptr 0 0 0 0), (.ptr 1 0 0 0)]))]) ⟨.rfl, .rfl, .rfl, trivial⟩) ?_
  refine AW.seq fun K1 hK1 => ?_
  refine AW.regionO (by rfl) ?_
  refine ao_box (m := 2) (st' := [⟨0, 3, 1, [[(i64 s0_0)]]⟩, ⟨0, 3, 1, [[(i64 s1_0)]]⟩, ⟨0, 29, 2, [[(.sl (List.map eStep p0.steps)), (i64 p0.result)]]⟩]) go0 rfl rfl rfl rfl rfl ?_
  refine AO.done (hK1 _ ?_)
  refine AW.seq fun K2 hK2 => ?_
  refine AW.seq fun K3 hK3 => ?_
  refine AW.regionO (by rfl) ?_
  refine ao_q (v := (.ptr 2 0 0 0)) go0 rfl (aq_fap fi29_0 rfl rfl (show 0 + 0 ≤ 2 by decide) rfl) ?_
  refine ao_q (v := (.sl (List.map eStep p0.steps))) go0 rfl (aq_ldp ti27 rfl rfl rfl rfl) ?_
  refine ao_q (v := (i64 p1)) go0 rfl (aq_mv rfl) ?_
  obtain ⟨l4, gl4, h0⟩ := Sh.bind_some h0
  refine ao_sls (i := p1) (j := Sh.len p0.steps) go0 ei27 rfl rfl rfl eStep_len gl4 ?_
  refine ao_q (v := (i64 (Sh.len l4))) go0 rfl (aq_lens sl27 rfl) ?_
  refine ao_q (v := (i64 0)) go0 rfl (aq_mv rfl) ?_
  refine AO.done (hK3 _ ?_)
  obtain ⟨o10, h1, h0⟩ := Sh.bind_some h0
  have M10 : ∀ (f8 : Int) (f9 : Int), o10 = (f8, f9) → ∀ s, Wk 2 s ⟨25, envL [(2, (.fn 48 [(.ptr 0 0 0 0), (.ptr 1 0 0 0)])), (3, (.ptr 2 0 0 0))], [⟨0, 3, 1, [[(i64 f8)]]⟩, ⟨0, 3, 1, [[(i64 f9)]]⟩, ⟨0, 29, 2, [[(.sl (List.map eStep p0.steps)), (i64 p0.result)]]⟩]⟩ → K2 s := by
    intro f8 f9 hq s hw
    subst o10
    try dsimp only at h0
    refine hK2 _ (AW.weaken hw ?_)
    refine AW.regionO (by rfl) ?_
    refine ao_q (v := (.fn 48 [(.ptr 0 0 0 0), (.ptr 1 0 0 0)])) go0 rfl (aq_mv rfl) ?_
    refine ao_q (v := (.ptr 2 0 0 1)) go0 rfl (aq_fap fi29_1 rfl rfl (show 0 + 1 ≤ 2 by decide) rfl) ?_
    refine ao_q (v := (i64 p0.result)) go0 rfl (aq_ldp ti3 rfl rfl rfl rfl) ?_
    obtain ⟨q11, gq11, h0⟩ := Sh.bind_some h0
    refine ao_callst (rowsP := [⟨0, 3, 1, [[(i64 f8)]]⟩, ⟨0, 3, 1, [[(i64 f9)]]⟩]) (rows0 := [⟨0, 3, 1, [[(i64 f8)]]⟩, ⟨0, 3, 1, [[(i64 f9)]]⟩]) (rows1 := [⟨0, 3, 1, [[(i64 f8)]]⟩, ⟨0, 3, 1, [[(i64 q11)]]⟩]) (rows2 := []) (rows1' := [⟨0, 3, 1, [[(i64 f8)]]⟩, ⟨0, 3, 1, [[(i64 q11)]]⟩]) (rows2' := []) (st' := [⟨0, 3, 1, [[(i64 f8)]]⟩, ⟨0, 3, 1, [[(i64 q11)]]⟩, ⟨0, 29, 2, [[(.sl (List.map eStep p0.steps)), (i64 p0.result)]]⟩]) (v' := (.tup [])) [0, 1] go0 rfl hb48 (impl_UsesOf_1_ok gq11) rfl (by decide) rfl rfl (.raw rfl rfl (.raw rfl rfl .nil)) rfl rfl (.raw rfl rfl (.raw rfl rfl .nil)) .nil rfl rfl ?_
    replace h0 := Sh.some_eq h0
    subst r
    exact AO.done (Exists.intro _ (And.intro ((Wk.permk (L := []) (st' := [⟨0, 3, 1, [[(i64 f8)]]⟩, ⟨0, 3, 1, [[(i64 q11)]]⟩]) (st1 := [⟨0, 3, 1, [[(i64 f8)]]⟩, ⟨0, 3, 1, [[(i64 q11)]]⟩]) [0, 1] rfl (.raw rfl rfl (.raw rfl rfl .nil)) (by decide) rfl rfl (.raw rfl rfl (.raw rfl rfl .nil)) trivial).trans (Wk.to (L := []) trivial)) (And.intro rfl rfl)))
  refine AW.block (AW.loopF (σ := Int × Int × Int) (fun n v => impl_visitUses_B_L1 N l4 rec_impl_visitUses n v.1 v.2.1 v.2.2 = some o10) (fun (t5, f6, f7) => ⟨25, envL [(2, (.fn 48 [(.ptr 0 0 0 0), (.ptr 1 0 0 0)])), (3, (.ptr 2 0 0 0)), (11, (.sl (List.map eStep l4))), (12, (i64 (Sh.len l4))), (13, (i64 t5))], [⟨0, 3, 1, [[(i64 f6)]]⟩, ⟨0, 3, 1, [[(i64 f7)]]⟩, ⟨0, 29, 2, [[(.sl (List.map eStep p0.steps)), (i64 p0.result)]]⟩]⟩) N (0, s0_0, s1_0) h1 (Wk.to (L := [(2, (.fn 48 [(.ptr 0 0 0 0), (.ptr 1 0 0 0)])), (3, (.ptr 2 0 0 0)), (11, (.sl (List.map eStep l4))), (12, (i64 (Sh.len l4))), (13, (i64 0))]) ⟨.rfl, .rfl, .rfl, .rfl, .rfl, trivial⟩) (fun _ hv => by rw [impl_visitUses_B_L1] at hv; cases hv) ?_)
  rintro n ⟨t5, f6, f7⟩ h1
  try dsimp only at h1 ⊢
  rw [impl_visitUses_B_L1] at h1
  refine AW.seq fun K12 hK12 => ?_
  refine AW.regionO (by rfl) ?_
  refine ao_q (v := (.bool (decide (t5 < (Sh.len l4))))) go0 rfl (aq_lt rfl rfl) ?_
  refine AO.done (hK12 _ ?_)
  refine AW.seq fun K13 hK13 => ?_
  refine AW.cond' (b := decide (t5 < (Sh.len l4))) rfl (fun b14 => ?_) (fun b14 => ?_)
  · replace h1 := Sh.ite_t b14 h1
    refine AW.skip (hK13 _ ?_)
    refine AW.seq fun K15 hK15 => ?_
    refine AW.block ?_
    refine AW.seq fun K16 hK16 => ?_
    refine AW.regionO (by rfl) ?_
    obtain ⟨c17, gc17, h1⟩ := Sh.bind_some h1
    refine ao_q (v := (.iptr [(i64 c17.op), (i64 c17.num), (i64 c17.into), (.sl (List.map eI c17.args)), (.sl (List.map eBlock c17.kids))] 0)) go0 rfl (aq_ixsE ei27 rfl rfl gc17 (eStep_eq _) rfl) ?_
    refine ao_q (v := (.agg [(i64 c17.op), (i64 c17.num), (i64 c17.into), (.sl (List.map eI c17.args)), (.sl (List.map eBlock c17.kids))])) go0 rfl (aq_ldia ti76 rfl (show 0 + 5 ≤ 5 by decide) rfl) ?_
    refine ao_alloc (m := 3) (st' := [⟨0, 3, 1, [[(i64 f6)]]⟩, ⟨0, 3, 1, [[(i64 f7)]]⟩, ⟨0, 29, 2, [[(.sl (List.map eStep p0.steps)), (i64 p0.result)]]⟩, ⟨0, 76, 5, [[(i64 0), (i64 0), (i64 0), .zc, .zc]]⟩]) go0 zi76 rfl rfl ?_
    refine ao_str (st' := [⟨0, 3, 1, [[(i64 f6)]]⟩, ⟨0, 3, 1, [[(i64 f7)]]⟩, ⟨0, 29, 2, [[(.sl (List.map eStep p0.steps)), (i64 p0.result)]]⟩, ⟨0, 76, 5, [[(i64 c17.op), (i64 c17.num), (i64 c17.into), (.sl (List.map eI c17.args)), (.sl (List.map eBlock c17.kids))]]⟩]) go0 ti76 rfl rfl rfl rfl rfl rfl (show 0 + 5 ≤ 5 by decide) rfl ?_
    refine AO.done (hK16 _ ?_)
    refine AW.regionO (by rfl) ?_
    refine ao_q (v := (.agg [(i64 c17.op), (i64 c17.num), (i64 c17.into), (.sl (List.map eI c17.args)), (.sl (List.map eBlock c17.kids))])) go0 rfl (aq_ldpa ti76 rfl rfl rfl (show 0 + 5 ≤ 5 by decide) rfl) ?_
    refine ao_q (v := (.fn 48 [(.ptr 0 0 0 0), (.ptr 1 0 0 0)])) go0 rfl (aq_mv rfl) ?_
    obtain ⟨q18, gq18, h1⟩ := Sh.bind_some h1
    refine ao_calls (rowsP := [⟨0, 3, 1, [[(i64 f6)]]⟩, ⟨0, 3, 1, [[(i64 f7)]]⟩]) (rows0 := [⟨0, 3, 1, [[(i64 f6)]]⟩, ⟨0, 3, 1, [[(i64 f7)]]⟩]) (rows1 := [⟨0, 3, 1, [[(i64 q18.1)]]⟩, ⟨0, 3, 1, [[(i64 q18.2)]]⟩]) (rows2 := []) (rows1' := [⟨0, 3, 1, [[(i64 q18.1)]]⟩, ⟨0, 3, 1, [[(i64 q18.2)]]⟩]) (rows2' := []) (st' := [⟨0, 3, 1, [[(i64 q18.1)]]⟩, ⟨0, 3, 1, [[(i64 q18.2)]]⟩, ⟨0, 29, 2, [[(.sl (List.map eStep p0.steps)), (i64 p0.result)]]⟩, ⟨0, 76, 5, [[(i64 c17.op), (i64 c17.num), (i64 c17.into), (.sl (List.map eI c17.args)), (.sl (List.map eBlock c17.kids))]]⟩]) (v' := (.tup [])) [0, 1] go0 hb78 (impl_visitStep_ok hrec_impl_visitUses gq18) rfl (by decide) rfl rfl (.raw rfl rfl (.raw rfl rfl .nil)) rfl rfl (.raw rfl rfl (.raw rfl rfl .nil)) .nil rfl rfl ?_
    refine AO.done (hK15 _ ?_)
    refine AW.regionO (by rfl) ?_
    refine ao_q (v := (i64 (Sh.w (t5 + 1)))) go0 rfl (aq_add rfl rfl) ?_
    refine ao_q (v := (i64 (Sh.w (t5 + 1)))) go0 rfl (aq_mv rfl) ?_
    exact AO.done (Exists.intro (Sh.w (t5 + 1), q18.1, q18.2) (And.intro h1 (by refine Wk.trans (Wk.permk (L := [(2, (.fn 48 [(.ptr 0 0 0 0), (.ptr 1 0 0 0)])), (3, (.ptr 2 0 0 0)), (11, (.sl (List.map eStep l4))), (12, (i64 (Sh.len l4))), (13, (i64 (Sh.w (t5 + 1))))]) (st' := [⟨0, 3, 1, [[(i64 q18.1)]]⟩, ⟨0, 3, 1, [[(i64 q18.2)]]⟩, ⟨0, 29, 2, [[(.sl (List.map eStep p0.steps)), (i64 p0.result)]]⟩]) (st1 := [⟨0, 3, 1, [[(i64 q18.1)]]⟩, ⟨0, 3, 1, [[(i64 q18.2)]]⟩, ⟨0, 29, 2, [[(.sl (List.map eStep p0.steps)), (i64 p0.result)]]⟩]) [0, 1, 2] rfl (.raw rfl rfl (.raw rfl rfl .nil)) (by decide) rfl rfl (.raw rfl rfl (.raw rfl rfl (.raw rfl rfl .nil))) ⟨.rfl, .rfl, .rfl, .rfl, .rfl, trivial⟩) ?_; exact Wk.to (L := [(2, (.fn 48 [(.ptr 0 0 0 0), (.ptr 1 0 0 0)])), (3, (.ptr 2 0 0 0)), (11, (.sl (List.map eStep l4))), (12, (i64 (Sh.len l4))), (13, (i64 (Sh.w (t5 + 1))))]) ⟨.rfl, .rfl, .rfl, .rfl, .rfl, trivial⟩)))
  · replace h1 := Sh.ite_f b14 h1
    exact AW.exit (M10 f6 f7 (Sh.some_eq h1).symm _ (Wk.to (L := [(2, (.fn 48 [(.ptr 0 0 0 0), (.ptr 1 0 0 0)])), (3, (.ptr 2 0 0 0))]) ⟨.rfl, .rfl, trivial⟩))

theorem impl_visitUses_F_ok {N : Nat} : ∀ (n : Nat), ∀ {s0_0 : Int} {s1_0 : Int} {p0 : Block} {p1 : Int} {r : Int × Int}, impl_visitUses_F N n s0_0 s1_0 p0 p1 = some r → ACalls Try.prog 47 [(.agg [(.sl (List.map eStep p0.steps)), (i64 p0.result)]), (i64 p1), (.fn 48 [(.ptr 0 0 0 0), (.ptr 1 0 0 0)])] [⟨0, 3, 1, [[(i64 s0_0)]]⟩, ⟨0, 3, 1, [[(i64 s1_0)]]⟩] (fun v st => v = (.tup []) ∧ st = [⟨0, 3, 1, [[(i64 r.1)]]⟩, ⟨0, 3, 1, [[(i64 r.2)]]⟩]) := by
  intro n
  induction n with
  | zero => intro s0_0 s1_0 p0 p1 r h0; cases h0
  | succ n ih =>
    intro s0_0 s1_0 p0 p1 r h0
    rw [impl_visitUses_F] at h0
    exact impl_visitUses_B_ok (fun h => ih h) h0
theorem impl_visitUses_ok {N : Nat} : ∀ {s0_0 : Int} {s1_0 : Int} {p0 : Block} {p1 : Int} {r : Int × Int}, impl_visitUses N s0_0 s1_0 p0 p1 = some r → ACalls Try.prog 47 [(.agg [(.sl (List.map eStep p0.steps)), (i64 p0.result)]), (i64 p1), (.fn 48 [(.ptr 0 0 0 0), (.ptr 1 0 0 0)])] [⟨0, 3, 1, [[(i64 s0_0)]]⟩, ⟨0, 3, 1, [[(i64 s1_0)]]⟩] (fun v st => v = (.tup []) ∧ st = [⟨0, 3, 1, [[(i64 r.1)]]⟩, ⟨0, 3, 1, [[(i64 r.2)]]⟩]) := by
  intro s0_0 s1_0 p0 p1 r h0
  exact impl_visitUses_F_ok N h0

set_option maxRecDepth 100000 in
set_option maxHeartbeats 4000000 in
theorem impl_UsesOf_ok {N : Nat} {p0 : Block} {p1 : Int} {r : Int} (h0 : impl_UsesOf N p0 p1 = some r) : ACalls Try.prog 15 [(.agg [(.sl (List.map eStep p0.steps)), (i64 p0.result)]), (i64 p1)] [] (fun v st => v = (i64 r) ∧ st = []) := by
  unfold impl_UsesOf at h0
  refine ACalls.intro Try.func15 rfl (by show 2 ≤ 13; decide) ?_
  show AW _ 0 _ (aret _ 0 Try.f15 _) ⟨13, _, _⟩
  refine AW.weaken (Wk.to (L := [(0, (.agg [(.sl (List.map eStep p0.steps)), (i64 p0.result)])), (1, (i64 p1))]) ⟨.rfl, .rfl, trivial⟩) ?_
  refine AW.seq fun K1 hK1 => ?_
  refine AW.regionO (by rfl) ?_
  refine ao_box (m := 0) (st' := [⟨0, 29, 2, [[(.sl (List.map eStep p0.steps)), (i64 p0.result)]]⟩]) go0 rfl rfl rfl rfl rfl ?_
  refine ao_box (m := 1) (st' := [⟨0, 29, 2, [[(.sl (List.map eStep p0.steps)), (i64 p0.result)]]⟩, ⟨0, 3, 1, [[(i64 p1)]]⟩]) go0 rfl rfl rfl rfl rfl ?_
  refine ao_q (v := (i64 0)) go0 rfl (aq_as rfl) ?_
  refine AO.done (hK1 _ ?_)
  refine AW.seq fun K2 hK2 => ?_
  refine AW.seq fun K3 hK3 => ?_
  refine AW.regionO (by rfl) ?_
  refine ao_q (v := (.agg [(.sl (List.map eStep p0.steps)), (i64 p0.result)])) go0 rfl (aq_ldpa ti29 rfl rfl rfl (show 0 + 2 ≤ 2 by decide) rfl) ?_
  obtain ⟨q4, gq4, h0⟩ := Sh.bind_some h0
  refine ao_call (v' := (i64 q4)) (st' := [⟨0, 29, 2, [[(.sl (List.map eStep p0.steps)), (i64 p0.result)]]⟩, ⟨0, 3, 1, [[(i64 p1)]]⟩]) go0 hb46 (impl_StepsOf_ok gq4) rfl rfl trivial rfl rfl ?_
  refine ao_q (v := (.bool (decide (q4 < 0)))) go0 rfl (aq_lt rfl rfl) ?_
  refine AO.done (hK3 _ ?_)
  refine AW.cond' (b := decide (q4 < 0)) rfl (fun b5 => ?_) (fun b5 => ?_)
  · replace h0 := Sh.ite_t b5 h0
    refine AW.seq fun K6 hK6 => ?_
    refine AW.regionO (by rfl) ?_
    refine ao_q (v := (i64 (-1))) go0 rfl (aq_as rfl) ?_
    refine AO.done (hK6 _ ?_)
    replace h0 := Sh.some_eq h0
    subst r
    exact AW.ret (Exists.intro _ (And.intro ((Wk.permk (L := [(4, (i64 (-1)))]) (st' := []) (st1 := []) [] rfl .nil (by decide) rfl rfl .nil ⟨.rfl, trivial⟩).trans (Wk.to (L := [(4, (i64 (-1)))]) ⟨.rfl, trivial⟩)) (And.intro rfl rfl)))
  · replace h0 := Sh.ite_f b5 h0
    refine AW.skip (hK2 _ ?_)
    refine AW.seq fun K7 hK7 => ?_
    refine AW.regionO (by rfl) ?_
    refine ao_alloc (m := 2) (st' := [⟨0, 29, 2, [[(.sl (List.map eStep p0.steps)), (i64 p0.result)]]⟩, ⟨0, 3, 1, [[(i64 p1)]]⟩, ⟨0, 3, 1, [[(i64 0)]]⟩]) go0 zi3 rfl rfl ?_
    refine ao_str (st' := [⟨0, 29, 2, [[(.sl (List.map eStep p0.steps)), (i64 p0.result)]]⟩, ⟨0, 3, 1, [[(i64 p1)]]⟩, ⟨0, 3, 1, [[(i64 0)]]⟩]) go0 ti3 rfl rfl rfl rfl rfl rfl (show 0 + 1 ≤ 1 by decide) rfl ?_
    refine AO.done (hK7 _ ?_)
    refine AW.seq fun K8 hK8 => ?_
    refine AW.regionO (by rfl) ?_
    refine ao_q (v := (.agg [(.sl (List.map eStep p0.steps)), (i64 p0.result)])) go0 rfl (aq_ldpa ti29 rfl rfl rfl (show 0 + 2 ≤ 2 by decide) rfl) ?_
    refine ao_q (v := (.fn 48 [(.ptr 1 0 0 0), (.ptr 2 0 0 0)])) go0 rfl (aq_fn rfl) ?_
    obtain ⟨q9, gq9, h0⟩ := Sh.bind_some h0
    refine ao_calls (rowsP := [⟨0, 3, 1, [[(i64 p1)]]⟩, ⟨0, 3, 1, [[(i64 0)]]⟩]) (rows0 := [⟨0, 3, 1, [[(i64 p1)]]⟩, ⟨0, 3, 1, [[(i64 0)]]⟩]) (rows1 := [⟨0, 3, 1, [[(i64 q9.1)]]⟩, ⟨0, 3, 1, [[(i64 q9.2)]]⟩]) (rows2 := []) (rows1' := [⟨0, 3, 1, [[(i64 q9.1)]]⟩, ⟨0, 3, 1, [[(i64 q9.2)]]⟩]) (rows2' := []) (st' := [⟨0, 29, 2, [[(.sl (List.map eStep p0.steps)), (i64 p0.result)]]⟩, ⟨0, 3, 1, [[(i64 q9.1)]]⟩, ⟨0, 3, 1, [[(i64 q9.2)]]⟩]) (v' := (.tup [])) [1, 2] go0 hb47 (impl_visitUses_ok gq9) rfl (by decide) rfl rfl (.raw rfl rfl (.raw rfl rfl .nil)) rfl rfl (.raw rfl rfl (.raw rfl rfl .nil)) .nil rfl rfl ?_
    refine AO.done (hK8 _ ?_)
    refine AW.seq fun K10 hK10 => ?_
    refine AW.regionO (by rfl) ?_
    refine ao_q (v := (i64 q9.2)) go0 rfl (aq_ldp ti3 rfl rfl rfl rfl) ?_
    refine ao_q (v := (i64 q9.2)) go0 rfl (aq_as rfl) ?_
    refine AO.done (hK10 _ ?_)
    replace h0 := Sh.some_eq h0
    subst r
    exact AW.ret (Exists.intro _ (And.intro ((Wk.permk (L := [(4, (i64 q9.2))]) (st' := []) (st1 := []) [] rfl .nil (by decide) rfl rfl .nil ⟨.rfl, trivial⟩).trans (Wk.to (L := [(4, (i64 q9.2))]) ⟨.rfl, trivial⟩)) (And.intro rfl rfl)))

set_option maxRecDepth 100000 in
set_option maxHeartbeats 4000000 in
theorem laws_eqIntS_ok {N : Nat} {p0 : (List Int)} {p1 : (List Int)} {r : Bool} (h0 : laws_eqIntS N p0 p1 = some r) : ACalls Try.prog 36 [(.sl (List.map eI p0)), (.sl (List.map eI p1))] [] (fun v st => v = (.bool r) ∧ st = []) := by
  unfold laws_eqIntS at h0
  refine ACalls.intro Try.func36 rfl (by show 2 ≤ 26; decide) ?_
  show AW _ 0 _ (aret _ 0 Try.f36 _) ⟨26, _, _⟩
  refine AW.weaken (Wk.to (L := [(0, (.sl (List.map eI p0))), (1, (.sl (List.map eI p1)))]) ⟨.rfl, .rfl, trivial⟩) ?_
  refine AW.seq fun K1 hK1 => ?_
  refine AW.regionO (by rfl) ?_
  refine ao_q (v := (.bool false)) go0 rfl (aq_as rfl) ?_
  refine AO.done (hK1 _ ?_)
  refine AW.seq fun K2 hK2 => ?_
  refine AW.seq fun K3 hK3 => ?_
  refine AW.regionO (by rfl) ?_
  refine ao_q (v := (.sl (List.map eI p0))) go0 rfl (aq_mv rfl) ?_
  refine ao_q (v := (i64 (Sh.len p0))) go0 rfl (aq_lens sl34 rfl) ?_
  refine ao_q (v := (.sl (List.map eI p1))) go0 rfl (aq_mv rfl) ?_
  refine ao_q (v := (i64 (Sh.len p1))) go0 rfl (aq_lens sl34 rfl) ?_
  refine ao_q (v := (.bool (!decide ((Sh.len p0) = (Sh.len p1))))) go0 rfl (aq_ne rfl rfl) ?_
  refine AO.done (hK3 _ ?_)
  refine AW.cond' (b := !decide ((Sh.len p0) = (Sh.len p1))) rfl (fun b4 => ?_) (fun b4 => ?_)
  · replace h0 := Sh.ite_t b4 h0
    have b5 : decide ((Sh.len p0) = (Sh.len p1)) = false := by simpa using b4
    refine AW.seq fun K6 hK6 => ?_
    refine AW.regionO (by rfl) ?_
    refine ao_q (v := (.bool false)) go0 rfl (aq_as rfl) ?_
    refine AO.done (hK6 _ ?_)
    replace h0 := Sh.some_eq h0
    subst r
    exact AW.ret (Exists.intro _ (And.intro (Wk.to (L := [(4, (.bool false))]) ⟨.rfl, trivial⟩) (And.intro rfl rfl)))
  · replace h0 := Sh.ite_f b4 h0
    have b7 : decide ((Sh.len p0) = (Sh.len p1)) = true := by simpa using b4
    refine AW.skip (hK2 _ ?_)
    refine AW.seq fun K8 hK8 => ?_
    refine AW.seq fun K9 hK9 => ?_
    refine AW.regionO (by rfl) ?_
    refine ao_q (v := (i64 0)) go0 rfl (aq_as rfl) ?_
    refine AO.done (hK9 _ ?_)
    obtain ⟨o11, h1, h0⟩ := Sh.cont_some h0
    have M11 : ∀ (_ : Unit), o11 = Sum.inr () → ∀ s, Wk 0 s ⟨26, envL [], []⟩ → K8 s := by
      intro _ hq s hw
      subst o11
      try dsimp only at h0
      refine hK8 _ (AW.weaken hw ?_)
      refine AW.seq fun K12 hK12 => ?_
      refine AW.regionO (by rfl) ?_
      refine ao_q (v := (.bool true)) go0 rfl (aq_as rfl) ?_
      refine AO.done (hK12 _ ?_)
      replace h0 := Sh.some_eq h0
      subst r
      exact AW.ret (Exists.intro _ (And.intro (Wk.to (L := [(4, (.bool true))]) ⟨.rfl, trivial⟩) (And.intro rfl rfl)))
    refine AW.block (AW.loopF (σ := Int) (fun n v => laws_eqIntS_L1 p0 p1 n v = some o11) (fun i10 => ⟨26, envL [(0, (.sl (List.map eI p0))), (1, (.sl (List.map eI p1))), (5, (i64 i10))], []⟩) N 0 h1 (Wk.to (L := [(0, (.sl (List.map eI p0))), (1, (.sl (List.map eI p1))), (5, (i64 0))]) ⟨.rfl, .rfl, .rfl, trivial⟩) (fun _ hv => by rw [laws_eqIntS_L1] at hv; cases hv) ?_)
    rintro n i10 h1
    try dsimp only at h1 ⊢
    rw [laws_eqIntS_L1] at h1
    refine AW.seq fun K13 hK13 => ?_
    refine AW.seq fun K14 hK14 => ?_
    refine AW.regionO (by rfl) ?_
    refine ao_q (v := (i64 i10)) go0 rfl (aq_mv rfl) ?_
    refine ao_q (v := (.sl (List.map eI p0))) go0 rfl (aq_mv rfl) ?_
    refine ao_q (v := (i64 (Sh.len p0))) go0 rfl (aq_lens sl34 rfl) ?_
    refine ao_q (v := (.bool (decide (i10 < (Sh.len p0))))) go0 rfl (aq_lt rfl rfl) ?_
    refine AO.done (hK14 _ ?_)
    refine AW.cond' (b := decide (i10 < (Sh.len p0))) rfl (fun b15 => ?_) (fun b15 => ?_)
    · replace h1 := Sh.ite_t b15 h1
      refine AW.skip (hK13 _ ?_)
      refine AW.seq fun K16 hK16 => ?_
      refine AW.block ?_
      refine AW.seq fun K17 hK17 => ?_
      refine AW.draw (by kernel_rfl) (by kernel_rfl) (by rfl) ?_
      refine d_q (v := (.sl (List.map eI p0))) go0 rfl (aq_mv rfl) ?_
      refine d_q (v := (i64 i10)) go0 rfl (aq_mv rfl) ?_
      obtain ⟨c18, gc18, h1⟩ := Sh.bind_some h1
      refine d_q (v := (.iptr (eI c18) 0)) go0 rfl (aq_ixs ei34 rfl rfl gc18 rfl) ?_
      refine d_q (v := (i64 c18)) go0 rfl (aq_ldi ti3 rfl rfl) ?_
      refine d_q (v := (.sl (List.map eI p1))) go0 rfl (aq_mv rfl) ?_
      refine d_q (v := (i64 i10)) go0 rfl (aq_mv rfl) ?_
      obtain ⟨c19, gc19, h1⟩ := Sh.bind_some h1
      refine d_q (v := (.iptr (eI c19) 0)) go0 rfl (aq_ixs ei34 rfl rfl gc19 rfl) ?_
      refine d_q (v := (i64 c19)) go0 rfl (aq_ldi ti3 rfl rfl) ?_
      refine d_q (v := (.bool (!decide (c18 = c19)))) go0 rfl (aq_ne rfl rfl) ?_
      refine d_done (hK17 _ ?_)
      refine AW.cond' (b := !decide (c18 = c19)) rfl (fun b20 => ?_) (fun b20 => ?_)
      · replace h1 := Sh.ite_t b20 h1
        have b21 : decide (c18 = c19) = false := by simpa using b20
        refine AW.seq fun K22 hK22 => ?_
        refine AW.regionO (by rfl) ?_
        refine ao_q (v := (.bool false)) go0 rfl (aq_as rfl) ?_
        refine AO.done (hK22 _ ?_)
        replace h1 := Sh.some_eq h1
        subst o11
        try dsimp only [id] at h0
        replace h0 := Sh.some_eq h0
        subst r
        exact AW.ret (Exists.intro _ (And.intro (Wk.to (L := [(4, (.bool false))]) ⟨.rfl, trivial⟩) (And.intro rfl rfl)))
      · replace h1 := Sh.ite_f b20 h1
        have b23 : decide (c18 = c19) = true := by simpa using b20
        refine AW.skip (hK16 _ ?_)
        refine AW.regionO (by rfl) ?_
        refine ao_q (v := (i64 i10)) go0 rfl (aq_mv rfl) ?_
        refine ao_q (v := (i64 (Sh.w (i10 + 1)))) go0 rfl (aq_add rfl rfl) ?_
        refine ao_q (v := (i64 (Sh.w (i10 + 1)))) go0 rfl (aq_as rfl) ?_
        exact AO.done (Exists.intro (Sh.w (i10 + 1)) (And.intro h1 (Wk.to (L := [(0, (.sl (List.map eI p0))), (1, (.sl (List.map eI p1))), (5, (i64 (Sh.w (i10 + 1))))]) ⟨.rfl, .rfl, .rfl, trivial⟩)))
    · replace h1 := Sh.ite_f b15 h1
      exact AW.exit (M11 () (Sh.some_eq h1).symm _ (Wk.to (L := []) trivial))

set_option maxRecDepth 100000 in
set_option maxHeartbeats 4000000 in
theorem laws_eqBlockS_ok {N : Nat} {rec_laws_eqBlock : Block → Block → Option (Bool)} (hrec_laws_eqBlock : ∀ {p0 : Block} {p1 : Block} {r : Bool}, rec_laws_eqBlock p0 p1 = some r → ACalls Try.prog 16 [(.agg [(.sl (List.map eStep p0.steps)), (i64 p0.result)]), (.agg [(.sl (List.map eStep p1.steps)), (i64 p1.result)])] [] (fun v st => v = (.bool r) ∧ st = [])) {p0 : (List Block)} {p1 : (List Block)} {r : Bool} (h0 : laws_eqBlockS N rec_laws_eqBlock p0 p1 = some r) : ACalls Try.prog 120 [(.sl (List.map eBlock p0)), (.sl (List.map eBlock p1))] [] (fun v st => v = (.bool r) ∧ st = []) := by
  unfold laws_eqBlockS at h0
  refine ACalls.intro Try.func120 rfl (by show 2 ≤ 27; decide) ?_
  show AW _ 0 _ (aret _ 0 Try.f120 _) ⟨27, _, _⟩
  refine AW.weaken (Wk.to (L := [(0, (.sl (List.map eBlock p0))), (1, (.sl (List.map eBlock p1)))]) ⟨.rfl, .rfl, trivial⟩) ?_
  refine AW.seq fun K1 hK1 => ?_
  refine AW.regionO (by rfl) ?_
  refine ao_q (v := (.bool false)) go0 rfl (aq_as rfl) ?_
  refine AO.done (hK1 _ ?_)
  refine AW.seq fun K2 hK2 => ?_
  refine AW.seq fun K3 hK3 => ?_
  refine AW.regionO (by rfl) ?_
  refine ao_q (v := (.sl (List.map eBlock p0))) go0 rfl (aq_mv rfl) ?_
  refine ao_q (v := (i64 (Sh.len p0))) go0 rfl (aq_lens sl74 rfl) ?_
  refine ao_q (v := (.sl (List.map eBlock p1))) go0 rfl (aq_mv rfl) ?_
  refine ao_q (v := (i64 (Sh.len p1))) go0 rfl (aq_lens sl74 rfl) ?_
  refine ao_q (v := (.bool (!decide ((Sh.len p0) = (Sh.len p1))))) go0 rfl (aq_ne rfl rfl) ?_
  refine AO.done (hK3 _ ?_)
  refine AW.cond' (b := !decide ((Sh.len p0) = (Sh.len p1))) rfl (fun b4 => ?_) (fun b4 => ?_)
  · replace h0 := Sh.ite_t b4 h0
    have b5 : decide ((Sh.len p0) = (Sh.len p1)) = false := by simpa using b4
    refine AW.seq fun K6 hK6 => ?_
    refine AW.regionO (by rfl) ?_
    refine ao_q (v := (.bool false)) go0 rfl (aq_as rfl) ?_
    refine AO.done (hK6 _ ?_)
    replace h0 := Sh.some_eq h0
    subst r
    exact AW.ret (Exists.intro _ (And.intro (Wk.to (L := [(4, (.bool false))]) ⟨.rfl, trivial⟩) (And.intro rfl rfl)))
  · replace h0 := Sh.ite_f b4 h0
    have b7 : decide ((Sh.len p0) = (Sh.len p1)) = true := by simpa using b4
    refine AW.skip (hK2 _ ?_)
    refine AW.seq fun K8 hK8 => ?_
    refine AW.seq fun K9 hK9 => ?_
    refine AW.regionO (by rfl) ?_
    refine ao_q (v := (i64 0)) go0 rfl (aq_as rfl) ?_
    refine AO.done (hK9 _ ?_)
    obtain ⟨o11, h1, h0⟩ := Sh.cont_some h0
    have M11 : ∀ (_ : Unit), o11 = Sum.inr () → ∀ s, Wk 0 s ⟨27, envL [], []⟩ → K8 s := by
      intro _ hq s hw
      subst o11
      try dsimp only at h0
      refine hK8 _ (AW.weaken hw ?_)
      refine AW.seq fun K12 hK12 => ?_
      refine AW.regionO (by rfl) ?_
      refine ao_q (v := (.bool true)) go0 rfl (aq_as rfl) ?_
      refine AO.done (hK12 _ ?_)
      replace h0 := Sh.some_eq h0
      subst r
      exact AW.ret (Exists.intro _ (And.intro (Wk.to (L := [(4, (.bool true))]) ⟨.rfl, trivial⟩) (And.intro rfl rfl)))
    refine AW.block (AW.loopF (σ := Int) (fun n v => laws_eqBlockS_L1 p0 p1 rec_laws_eqBlock n v = some o11) (fun i10 => ⟨27, envL [(0, (.sl (List.map eBlock p0))), (1, (.sl (List.map eBlock p1))), (5, (i64 i10))], []⟩) N 0 h1 (Wk.to (L := [(0, (.sl (List.map eBlock p0))), (1, (.sl (List.map eBlock p1))), (5, (i64 0))]) ⟨.rfl, .rfl, .rfl, trivial⟩) (fun _ hv => by rw [laws_eqBlockS_L1] at hv; cases hv) ?_)
    rintro n i10 h1
    try dsimp only at h1 ⊢
    rw [laws_eqBlockS_L1] at h1
    refine AW.seq fun K13 hK13 => ?_
    refine AW.seq fun K14 hK14 => ?_
    refine AW.regionO (by rfl) ?_
    refine ao_q (v := (i64 i10)) go0 rfl (aq_mv rfl) ?_
    refine ao_q (v := (.sl (List.map eBlock p0))) go0 rfl (aq_mv rfl) ?_
    refine ao_q (v := (i64 (Sh.len p0))) go0 rfl (aq_lens sl74 rfl) ?_
    refine ao_q (v := (.bool (decide (i10 < (Sh.len p0))))) go0 rfl (aq_lt rfl rfl) ?_
    refine AO.done (hK14 _ ?_)
    refine AW.cond' (b := decide (i10 < (Sh.len p0))) rfl (fun b15 => ?_) (fun b15 => ?_)
    · replace h1 := Sh.ite_t b15 h1
      refine AW.skip (hK13 _ ?_)
      refine AW.seq fun K16 hK16 => ?_
      refine AW.block ?_
      refine AW.seq fun K17 hK17 => ?_
      refine AW.draw (by kernel_rfl) (by kernel_rfl) (by rfl) ?_
      refine d_q (v := (.sl (List.map eBlock p0))) go0 rfl (aq_mv rfl) ?_
      refine d_q (v := (i64 i10)) go0 rfl (aq_mv rfl) ?_
      obtain ⟨c18, gc18, h1⟩ := Sh.bind_some h1
      refine d_q (v := (.iptr (eBlock c18) 0)) go0 rfl (aq_ixs ei74 rfl rfl gc18 rfl) ?_
      refine d_q (v := (.agg [(.sl (List.map eStep c18.steps)), (i64 c18.result)])) go0 rfl (aq_ldia ti29 rfl (show 0 + 2 ≤ 2 by decide) rfl) ?_
      refine d_q (v := (.sl (List.map eBlock p1))) go0 rfl (aq_mv rfl) ?_
      refine d_q (v := (i64 i10)) go0 rfl (aq_mv rfl) ?_
      obtain ⟨c19, gc19, h1⟩ := Sh.bind_some h1
      refine d_q (v := (.iptr (eBlock c19) 0)) go0 rfl (aq_ixs ei74 rfl rfl gc19 rfl) ?_
      refine d_q (v := (.agg [(.sl (List.map eStep c19.steps)), (i64 c19.result)])) go0 rfl (aq_ldia ti29 rfl (show 0 + 2 ≤ 2 by decide) rfl) ?_
      obtain ⟨q20, gq20, h1⟩ := Sh.bind_some h1
      refine d_call (v := (.bool q20)) go0 hb16 (hrec_laws_eqBlock gq20) rfl rfl rfl ?_
      refine d_q (v := (.bool (!q20))) go0 rfl (aq_not rfl) ?_
      refine d_done (hK17 _ ?_)
      refine AW.cond' (b := !q20) rfl (fun b21 => ?_) (fun b21 => ?_)
      · replace h1 := Sh.ite_t b21 h1
        have b22 : q20 = false := by simpa using b21
        refine AW.seq fun K23 hK23 => ?_
        refine AW.regionO (by rfl) ?_
        refine ao_q (v := (.bool false)) go0 rfl (aq_as rfl) ?_
        refine AO.done (hK23 _ ?_)
        replace h1 := Sh.some_eq h1
        subst o11
        try dsimp only [id] at h0
        replace h0 := Sh.some_eq h0
        subst r
        exact AW.ret (Exists.intro _ (And.intro (Wk.to (L := [(4, (.bool false))]) ⟨.rfl, trivial⟩) (And.intro rfl rfl)))
      · replace h1 := Sh.ite_f b21 h1
        have b24 : q20 = true := by simpa using b21
        refine AW.skip (hK16 _ ?_)
        refine AW.regionO (by rfl) ?_
        refine ao_q (v := (i64 i10)) go0 rfl (aq_mv rfl) ?_
        refine ao_q (v := (i64 (Sh.w (i10 + 1)))) go0 rfl (aq_add rfl rfl) ?_
        refine ao_q (v := (i64 (Sh.w (i10 + 1)))) go0 rfl (aq_as rfl) ?_
        exact AO.done (Exists.intro (Sh.w (i10 + 1)) (And.intro h1 (Wk.to (L := [(0, (.sl (List.map eBlock p0))), (1, (.sl (List.map eBlock p1))), (5, (i64 (Sh.w (i10 + 1))))]) ⟨.rfl, .rfl, .rfl, trivial⟩)))
    · replace h1 := Sh.ite_f b15 h1
      exact AW.exit (M11 () (Sh.some_eq h1).symm _ (Wk.to (L := []) trivial))

set_option maxRecDepth 100000 in
set_option maxHeartbeats 4000000 in
theorem laws_eqStep_ok {N : Nat} {rec_laws_eqBlock : Block → Block → Option (Bool)} (hrec_laws_eqBlock : ∀ {p0 : Block} {p1 : Block} {r : Bool}, rec_laws_eqBlock p0 p1 = some r → ACalls Try.prog 16 [(.agg [(.sl (List.map eStep p0.steps)), (i64 p0.result)]), (.agg [(.sl (List.map eStep p1.steps)), (i64 p1.result)])] [] (fun v st => v = (.bool r) ∧ st = [])) {p0 : Step} {p1 : Step} {r : Bool} (h0 : laws_eqStep N rec_laws_eqBlock p0 p1 = some r) : ACalls Try.prog 79 [(.agg [(i64 p0.op), (i64 p0.num), (i64 p0.into), (.sl (List.map eI p0.args)), (.sl (List.map eBlock p0.kids))]), (.agg [(i64 p1.op), (i64 p1.num), (i64 p1.into), (.sl (List.map eI p1.args)), (.sl (List.map eBlock p1.kids))])] [] (fun v st => v = (.bool r) ∧ st = []) := by
  unfold laws_eqStep at h0
  refine ACalls.intro Try.func79 rfl (by show 2 ≤ 32; decide) ?_
  show AW _ 0 _ (aret _ 0 Try.f79 _) ⟨32, _, _⟩
  refine AW.weaken (Wk.to (L := [(0, (.agg [(i64 p0.op), (i64 p0.num), (i64 p0.into), (.sl (List.map eI p0.args)), (.sl (List.map eBlock p0.kids))])), (1, (.agg [(i64 p1.op), (i64 p1.num), (i64 p1.into), (.sl (List.map eI p1.args)), (.sl (List.map eBlock p1.kids))]))]) ⟨.rfl, .rfl, trivial⟩) ?_
  refine AW.seq fun K1 hK1 => ?_
  refine AW.regionO (by rfl) ?_
  refine ao_box (m := 0) (st' := [⟨0, 76, 5, [[(i64 p0.op), (i64 p0.num), (i64 p0.into), (.sl (List.map eI p0.args)), (.sl (List.map eBlock p0.kids))]]⟩]) go0 rfl rfl rfl rfl rfl ?_
  refine ao_box (m := 1) (st' := [⟨0, 76, 5, [[(i64 p0.op), (i64 p0.num), (i64 p0.into), (.sl (List.map eI p0.args)), (.sl (List.map eBlock p0.kids))]]⟩, ⟨0, 76, 5, [[(i64 p1.op), (i64 p1.num), (i64 p1.into), (.sl (List.map eI p1.args)), (.sl (List.map eBlock p1.kids))]]⟩]) go0 rfl rfl rfl rfl rfl ?_
  refine ao_q (v := (.bool false)) go0 rfl (aq_as rfl) ?_
  refine AO.done (hK1 _ ?_)
  refine AW.seq fun K2 hK2 => ?_
  refine AW.seq fun K3 hK3 => ?_
  refine AW.regionO (by rfl) ?_
  refine ao_q (v := (.ptr 0 0 0 0)) go0 rfl (aq_fap fi76_0 rfl rfl (show 0 + 0 ≤ 5 by decide) rfl) ?_
  refine ao_q (v := (i64 p0.op)) go0 rfl (aq_ldp ti3 rfl rfl rfl rfl) ?_
  refine ao_q (v := (.ptr 1 0 0 0)) go0 rfl (aq_fap fi76_0 rfl rfl (show 0 + 0 ≤ 5 by decide) rfl) ?_
  refine ao_q (v := (i64 p1.op)) go0 rfl (aq_ldp ti3 rfl rfl rfl rfl) ?_
  refine ao_q (v := (.bool (!decide (p0.op = p1.op)))) go0 rfl (aq_ne rfl rfl) ?_
  refine AO.done (hK3 _ ?_)
  refine AW.cond' (b := !decide (p0.op = p1.op)) rfl (fun b4 => ?_) (fun b4 => ?_)
  · replace h0 := Sh.ite_t b4 h0
    have b5 : decide (p0.op = p1.op) = false := by simpa using b4
    refine AW.seq fun K6 hK6 => ?_
    refine AW.regionO (by rfl) ?_
    refine ao_q (v := (.bool false)) go0 rfl (aq_as rfl) ?_
    refine AO.done (hK6 _ ?_)
    replace h0 := Sh.some_eq h0
    subst r
    exact AW.ret (Exists.intro _ (And.intro ((Wk.permk (L := [(4, (.bool false))]) (st' := []) (st1 := []) [] rfl .nil (by decide) rfl rfl .nil ⟨.rfl, trivial⟩).trans (Wk.to (L := [(4, (.bool false))]) ⟨.rfl, trivial⟩)) (And.intro rfl rfl)))
  · replace h0 := Sh.ite_f b4 h0
    have b7 : decide (p0.op = p1.op) = true := by simpa using b4
    refine AW.skip (hK2 _ ?_)
    refine AW.seq fun K8 hK8 => ?_
    refine AW.seq fun K9 hK9 => ?_
    refine AW.regionO (by rfl) ?_
    refine ao_q (v := (.ptr 0 0 0 1)) go0 rfl (aq_fap fi76_1 rfl rfl (show 0 + 1 ≤ 5 by decide) rfl) ?_
    refine ao_q (v := (i64 p0.num)) go0 rfl (aq_ldp ti3 rfl rfl rfl rfl) ?_
    refine ao_q (v := (.ptr 1 0 0 1)) go0 rfl (aq_fap fi76_1 rfl rfl (show 0 + 1 ≤ 5 by decide) rfl) ?_
    refine ao_q (v := (i64 p1.num)) go0 rfl (aq_ldp ti3 rfl rfl rfl rfl) ?_
    refine ao_q (v := (.bool (!decide (p0.num = p1.num)))) go0 rfl (aq_ne rfl rfl) ?_
    refine AO.done (hK9 _ ?_)
    refine AW.cond' (b := !decide (p0.num = p1.num)) rfl (fun b10 => ?_) (fun b10 => ?_)
    · replace h0 := Sh.ite_t b10 h0
      have b11 : decide (p0.num = p1.num) = false := by simpa using b10
      refine AW.seq fun K12 hK12 => ?_
      refine AW.regionO (by rfl) ?_
      refine ao_q (v := (.bool false)) go0 rfl (aq_as rfl) ?_
      refine AO.done (hK12 _ ?_)
      replace h0 := Sh.some_eq h0
      subst r
      exact AW.ret (Exists.intro _ (And.intro ((Wk.permk (L := [(4, (.bool false))]) (st' := []) (st1 := []) [] rfl .nil (by decide) rfl rfl .nil ⟨.rfl, trivial⟩).trans (Wk.to (L := [(4, (.bool false))]) ⟨.rfl, trivial⟩)) (And.intro rfl rfl)))
    · replace h0 := Sh.ite_f b10 h0
      have b13 : decide (p0.num = p1.num) = true := by simpa using b10
      refine AW.skip (hK8 _ ?_)
      refine AW.seq fun K14 hK14 => ?_
      refine AW.seq fun K15 hK15 => ?_
      refine AW.regionO (by rfl) ?_
      refine ao_q (v := (.ptr 0 0 0 2)) go0 rfl (aq_fap fi76_2 rfl rfl (show 0 + 2 ≤ 5 by decide) rfl) ?_
      refine ao_q (v := (i64 p0.into)) go0 rfl (aq_ldp ti3 rfl rfl rfl rfl) ?_
      refine ao_q (v := (.ptr 1 0 0 2)) go0 rfl (aq_fap fi76_2 rfl rfl (show 0 + 2 ≤ 5 by decide) rfl) ?_
      refine ao_q (v := (i64 p1.into)) go0 rfl (aq_ldp ti3 rfl rfl rfl rfl) ?_
      refine ao_q (v := (.bool (!decide (p0.into = p1.into)))) go0 rfl (aq_ne rfl rfl) ?_
      refine AO.done (hK15 _ ?_)
      refine AW.cond' (b := !decide (p0.into = p1.into)) rfl (fun b16 => ?_) (fun b16 => ?_)
      · replace h0 := Sh.ite_t b16 h0
        have b17 : decide (p0.into = p1.into) = false := by simpa using b16
        refine AW.seq fun K18 hK18 => ?_
        refine AW.regionO (by rfl) ?_
        refine ao_q (v := (.bool false)) go0 rfl (aq_as rfl) ?_
        refine AO.done (hK18 _ ?_)
        replace h0 := Sh.some_eq h0
        subst r
        exact AW.ret (Exists.intro _ (And.intro ((Wk.permk (L := [(4, (.bool false))]) (st' := []) (st1 := []) [] rfl .nil (by decide) rfl rfl .nil ⟨.rfl, trivial⟩).trans (Wk.to (L := [(4, (.bool false))]) ⟨.rfl, trivial⟩)) (And.intro rfl rfl)))
      · replace h0 := Sh.ite_f b16 h0
        have b19 : decide (p0.into = p1.into) = true := by simpa using b16
        refine AW.skip (hK14 _ ?_)
        refine AW.seq fun K20 hK20 => ?_
        refine AW.seq fun K21 hK21 => ?_
        refine AW.regionO (by rfl) ?_
        refine ao_q (v := (.ptr 0 0 0 3)) go0 rfl (aq_fap fi76_3 rfl rfl (show 0 + 3 ≤ 5 by decide) rfl) ?_
        refine ao_q (v := (.sl (List.map eI p0.args))) go0 rfl (aq_ldp ti34 rfl rfl rfl rfl) ?_
        refine ao_q (v := (.ptr 1 0 0 3)) go0 rfl (aq_fap fi76_3 rfl rfl (show 0 + 3 ≤ 5 by decide) rfl) ?_
        refine ao_q (v := (.sl (List.map eI p1.args))) go0 rfl (aq_ldp ti34 rfl rfl rfl rfl) ?_
        obtain ⟨q22, gq22, h0⟩ := Sh.bind_some h0
        refine ao_call (v' := (.bool q22)) (st' := [⟨0, 76, 5, [[(i64 p0.op), (i64 p0.num), (i64 p0.into), (.sl (List.map eI p0.args)), (.sl (List.map eBlock p0.kids))]]⟩, ⟨0, 76, 5, [[(i64 p1.op), (i64 p1.num), (i64 p1.into), (.sl (List.map eI p1.args)), (.sl (List.map eBlock p1.kids))]]⟩]) go0 hb36 (laws_eqIntS_ok gq22) rfl rfl trivial rfl rfl ?_
        refine ao_q (v := (.bool (!q22))) go0 rfl (aq_not rfl) ?_
        refine AO.done (hK21 _ ?_)
        refine AW.cond' (b := !q22) rfl (fun b23 => ?_) (fun b23 => ?_)
        · replace h0 := Sh.ite_t b23 h0
          have b24 : q22 = false := by simpa using b23
          refine AW.seq fun K25 hK25 => ?_
          refine AW.regionO (by rfl) ?_
          refine ao_q (v := (.bool false)) go0 rfl (aq_as rfl) ?_
          refine AO.done (hK25 _ ?_)
          replace h0 := Sh.some_eq h0
          subst r
          exact AW.ret (Exists.intro _ (And.intro ((Wk.permk (L := [(4, (.bool false))]) (st' := []) (st1 := []) [] rfl .nil (by decide) rfl rfl .nil ⟨.rfl, trivial⟩).trans (Wk.to (L := [(4, (.bool false))]) ⟨.rfl, trivial⟩)) (And.intro rfl rfl)))
        · replace h0 := Sh.ite_f b23 h0
          have b26 : q22 = true := by simpa using b23
          refine AW.skip (hK20 _ ?_)
          refine AW.seq fun K27 hK27 => ?_
          refine AW.seq fun K28 hK28 => ?_
          refine AW.regionO (by rfl) ?_
          refine ao_q (v := (.ptr 0 0 0 4)) go0 rfl (aq_fap fi76_4 rfl rfl (show 0 + 4 ≤ 5 by decide) rfl) ?_
          refine ao_q (v := (.sl (List.map eBlock p0.kids))) go0 rfl (aq_ldp ti74 rfl rfl rfl rfl) ?_
          refine ao_q (v := (.ptr 1 0 0 4)) go0 rfl (aq_fap fi76_4 rfl rfl (show 0 + 4 ≤ 5 by decide) rfl) ?_
          refine ao_q (v := (.sl (List.map eBlock p1.kids))) go0 rfl (aq_ldp ti74 rfl rfl rfl rfl) ?_
          obtain ⟨q29, gq29, h0⟩ := Sh.bind_some h0
          refine ao_call (v' := (.bool q29)) (st' := [⟨0, 76, 5, [[(i64 p0.op), (i64 p0.num), (i64 p0.into), (.sl (List.map eI p0.args)), (.sl (List.map eBlock p0.kids))]]⟩, ⟨0, 76, 5, [[(i64 p1.op), (i64 p1.num), (i64 p1.into), (.sl (List.map eI p1.args)), (.sl (List.map eBlock p1.kids))]]⟩]) go0 hb120 (laws_eqBlockS_ok hrec_laws_eqBlock gq29) rfl rfl trivial rfl rfl ?_
          refine ao_q (v := (.bool (!q29))) go0 rfl (aq_not rfl) ?_
          refine AO.done (hK28 _ ?_)
          refine AW.cond' (b := !q29) rfl (fun b30 => ?_) (fun b30 => ?_)
          · replace h0 := Sh.ite_t b30 h0
            have b31 : q29 = false := by simpa using b30
            refine AW.seq fun K32 hK32 => ?_
            refine AW.regionO (by rfl) ?_
            refine ao_q (v := (.bool false)) go0 rfl (aq_as rfl) ?_
            refine AO.done (hK32 _ ?_)
            replace h0 := Sh.some_eq h0
            subst r
            exact AW.ret (Exists.intro _ (And.intro ((Wk.permk (L := [(4, (.bool false))]) (st' := []) (st1 := []) [] rfl .nil (by decide) rfl rfl .nil ⟨.rfl, trivial⟩).trans (Wk.to (L := [(4, (.bool false))]) ⟨.rfl, trivial⟩)) (And.intro rfl rfl)))
          · replace h0 := Sh.ite_f b30 h0
            have b33 : q29 = true := by simpa using b30
            refine AW.skip (hK27 _ ?_)
            refine AW.seq fun K34 hK34 => ?_
            refine AW.regionO (by rfl) ?_
            refine ao_q (v := (.bool true)) go0 rfl (aq_as rfl) ?_
            refine AO.done (hK34 _ ?_)
            replace h0 := Sh.some_eq h0
            subst r
            exact AW.ret (Exists.intro _ (And.intro ((Wk.permk (L := [(4, (.bool true))]) (st' := []) (st1 := []) [] rfl .nil (by decide) rfl rfl .nil ⟨.rfl, trivial⟩).trans (Wk.to (L := [(4, (.bool true))]) ⟨.rfl, trivial⟩)) (And.intro rfl rfl)))

set_option maxRecDepth 100000 in
set_option maxHeartbeats 4000000 in
theorem laws_eqStepS_ok {N : Nat} {rec_laws_eqBlock : Block → Block → Option (Bool)} (hrec_laws_eqBlock : ∀ {p0 : Block} {p1 : Block} {r : Bool}, rec_laws_eqBlock p0 p1 = some r → ACalls Try.prog 16 [(.agg [(.sl (List.map eStep p0.steps)), (i64 p0.result)]), (.agg [(.sl (List.map eStep p1.steps)), (i64 p1.result)])] [] (fun v st => v = (.bool r) ∧ st = [])) {p0 : (List Step)} {p1 : (List Step)} {r : Bool} (h0 : laws_eqStepS N rec_laws_eqBlock p0 p1 = some r) : ACalls Try.prog 49 [(.sl (List.map eStep p0)), (.sl (List.map eStep p1))] [] (fun v st => v = (.bool r) ∧ st = []) := by
  unfold laws_eqStepS at h0
  refine ACalls.intro Try.func49 rfl (by show 2 ≤ 27; decide) ?_
  show AW _ 0 _ (aret _ 0 Try.f49 _) ⟨27, _, _⟩
  refine AW.weaken (Wk.to (L := [(0, (.sl (List.map eStep p0))), (1, (.sl (List.map eStep p1)))]) ⟨.rfl, .rfl, trivial⟩) ?_
  refine AW.seq fun K1 hK1 => ?_
  refine AW.regionO (by rfl) ?_
  refine ao_q (v := (.bool false)) go0 rfl (aq_as rfl) ?_
  refine AO.done (hK1 _ ?_)
  refine AW.seq fun K2 hK2 => ?_
  refine AW.seq fun K3 hK3 => ?_
  refine AW.regionO (by rfl) ?_
  refine ao_q (v := (.sl (List.map eStep p0))) go0 rfl (aq_mv rfl) ?_
  refine ao_q (v := (i64 (Sh.len p0))) go0 rfl (aq_lens sl27 rfl) ?_
  refine ao_q (v := (.sl (List.map eStep p1))) go0 rfl (aq_mv rfl) ?_
  refine ao_q (v := (i64 (Sh.len p1))) go0 rfl (aq_lens sl27 rfl) ?_
  refine ao_q (v := (.bool (!decide ((Sh.len p0) = (Sh.len p1))))) go0 rfl (aq_ne rfl rfl) ?_
  refine AO.done (hK3 _ ?_)
  refine AW.cond' (b := !decide ((Sh.len p0) = (Sh.len p1))) rfl (fun b4 => ?_) (fun b4 => ?_)
  · replace h0 := Sh.ite_t b4 h0
    have b5 : decide ((Sh.len p0) = (Sh.len p1)) = false := by simpa using b4
    refine AW.seq fun K6 hK6 => ?_
    refine AW.regionO (by rfl) ?_
    refine ao_q (v := (.bool false)) go0 rfl (aq_as rfl) ?_
    refine AO.done (hK6 _ ?_)
    replace h0 := Sh.some_eq h0
    subst r
    exact AW.ret (Exists.intro _ (And.intro (Wk.to (L := [(4, (.bool false))]) ⟨.rfl, trivial⟩) (And.intro rfl rfl)))
  · replace h0 := Sh.ite_f b4 h0
    have b7 : decide ((Sh.len p0) = (Sh.len p1)) = true := by simpa using b4
    refine AW.skip (hK2 _ ?_)
    refine AW.seq fun K8 hK8 => ?_
    refine AW.seq fun K9 hK9 => ?_
    refine AW.regionO (by rfl) ?_
    refine ao_q (v := (i64 0)) go0 rfl (aq_as rfl) ?_
    refine AO.done (hK9 _ ?_)
    obtain ⟨o11, h1, h0⟩ := Sh.cont_some h0
    have M11 : ∀ (_ : Unit), o11 = Sum.inr () → ∀ s, Wk 0 s ⟨27, envL [], []⟩ → K8 s := by
      intro _ hq s hw
      subst o11
      try dsimp only at h0
      refine hK8 _ (AW.weaken hw ?_)
      refine AW.seq fun K12 hK12 => ?_
      refine AW.regionO (by rfl) ?_
      refine ao_q (v := (.bool true)) go0 rfl (aq_as rfl) ?_
      refine AO.done (hK12 _ ?_)
      replace h0 := Sh.some_eq h0
      subst r
      exact AW.ret (Exists.intro _ (And.intro (Wk.to (L := [(4, (.bool true))]) ⟨.rfl, trivial⟩) (And.intro rfl rfl)))
    refine AW.block (AW.loopF (σ := Int) (fun n v => laws_eqStepS_L1 N p0 p1 rec_laws_eqBlock n v = some o11) (fun i10 => ⟨27, envL [(0, (.sl (List.map eStep p0))), (1, (.sl (List.map eStep p1))), (5, (i64 i10))], []⟩) N 0 h1 (Wk.to (L := [(0, (.sl (List.map eStep p0))), (1, (.sl (List.map eStep p1))), (5, (i64 0))]) ⟨.rfl, .rfl, .rfl, trivial⟩) (fun _ hv => by rw [laws_eqStepS_L1] at hv; cases hv) ?_)
    rintro n i10 h1
    try dsimp only at h1 ⊢
    rw [laws_eqStepS_L1] at h1
    refine AW.seq fun K13 hK13 => ?_
    refine AW.seq fun K14 hK14 => ?_
    refine AW.regionO (by rfl) ?_
    refine ao_q (v := (i64 i10)) go0 rfl (aq_mv rfl) ?_
    refine ao_q (v := (.sl (List.map eStep p0))) go0 rfl (aq_mv rfl) ?_
    refine ao_q (v := (i64 (Sh.len p0))) go0 rfl (aq_lens sl27 rfl) ?_
    refine ao_q (v := (.bool (decide (i10 < (Sh.len p0))))) go0 rfl (aq_lt rfl rfl) ?_
    refine AO.done (hK14 _ ?_)
    refine AW.cond' (b := decide (i10 < (Sh.len p0))) rfl (fun b15 => ?_) (fun b15 => ?_)
    · replace h1 := Sh.ite_t b15 h1
      refine AW.skip (hK13 _ ?_)
      refine AW.seq fun K16 hK16 => ?_
      refine AW.block ?_
      refine AW.seq fun K17 hK17 => ?_
      refine AW.draw (by kernel_rfl) (by kernel_rfl) (by rfl) ?_
      refine d_q (v := (.sl (List.map eStep p0))) go0 rfl (aq_mv rfl) ?_
      refine d_q (v := (i64 i10)) go0 rfl (aq_mv rfl) ?_
      obtain ⟨c18, gc18, h1⟩ := Sh.bind_some h1
      refine d_q (v := (.iptr [(i64 c18.op), (i64 c18.num), (i64 c18.into), (.sl (List.map eI c18.args)), (.sl (List.map eBlock c18.kids))] 0)) go0 rfl (aq_ixsE ei27 rfl rfl gc18 (eStep_eq _) rfl) ?_
      refine d_q (v := (.agg [(i64 c18.op), (i64 c18.num), (i64 c18.into), (.sl (List.map eI c18.args)), (.sl (List.map eBlock c18.kids))])) go0 rfl (aq_ldia ti76 rfl (show 0 + 5 ≤ 5 by decide) rfl) ?_
      refine d_q (v := (.sl (List.map eStep p1))) go0 rfl (aq_mv rfl) ?_
      refine d_q (v := (i64 i10)) go0 rfl (aq_mv rfl) ?_
      obtain ⟨c19, gc19, h1⟩ := Sh.bind_some h1
      refine d_q (v := (.iptr [(i64 c19.op), (i64 c19.num), (i64 c19.into), (.sl (List.map eI c19.args)), (.sl (List.map eBlock c19.kids))] 0)) go0 rfl (aq_ixsE ei27 rfl rfl gc19 (eStep_eq _) rfl) ?_
      refine d_q (v := (.agg [(i64 c19.op), (i64 c19.num), (i64 c19.into), (.sl (List.map eI c19.args)), (.sl (List.map eBlock c19.kids))])) go0 rfl (aq_ldia ti76 rfl (show 0 + 5 ≤ 5 by decide) rfl) ?_
      obtain ⟨q20, gq20, h1⟩ := Sh.bind_some h1
      refine d_call (v := (.bool q20)) go0 hb79 (laws_eqStep_ok hrec_laws_eqBlock gq20) rfl rfl rfl ?_
      refine d_q (v := (.bool (!q20))) go0 rfl (aq_not rfl) ?_
      refine d_done (hK17 _ ?_)
      refine AW.cond' (b := !q20) rfl (fun b21 => ?_) (fun b21 => ?_)
      · replace h1 := Sh.ite_t b21 h1
        have b22 : q20 = false := by simpa using b21
        refine AW.seq fun K23 hK23 => ?_
        refine AW.regionO (by rfl) ?_
        refine ao_q (v := (.bool false)) go0 rfl (aq_as rfl) ?_
        refine AO.done (hK23 _ ?_)
        replace h1 := Sh.some_eq h1
        subst o11
        try dsimp only [id] at h0
        replace h0 := Sh.some_eq h0
        subst r
        exact AW.ret (Exists.intro _ (And.intro (Wk.to (L := [(4, (.bool false))]) ⟨.rfl, trivial⟩) (And.intro rfl rfl)))
      · replace h1 := Sh.ite_f b21 h1
        have b24 : q20 = true := by simpa using b21
        refine AW.skip (hK16 _ ?_)
        refine AW.regionO (by rfl) ?_
        refine ao_q (v := (i64 i10)) go0 rfl (aq_mv rfl) ?_
        refine ao_q (v := (i64 (Sh.w (i10 + 1)))) go0 rfl (aq_add rfl rfl) ?_
        refine ao_q (v := (i64 (Sh.w (i10 + 1)))) go0 rfl (aq_as rfl) ?_
        exact AO.done (Exists.intro (Sh.w (i10 + 1)) (And.intro h1 (Wk.to (L := [(0, (.sl (List.map eStep p0))), (1, (.sl (List.map eStep p1))), (5, (i64 (Sh.w (i10 + 1))))]) ⟨.rfl, .rfl, .rfl, trivial⟩)))
    · replace h1 := Sh.ite_f b15 h1
      exact AW.exit (M11 () (Sh.some_eq h1).symm _ (Wk.to (L := []) trivial))

set_option maxRecDepth 100000 in
set_option maxHeartbeats 4000000 in
theorem laws_eqBlock_B_ok {N : Nat} {rec_laws_eqBlock : Block → Block → Option (Bool)} (hrec_laws_eqBlock : ∀ {p0 : Block} {p1 : Block} {r : Bool}, rec_laws_eqBlock p0 p1 = some r → ACalls Try.prog 16 [(.agg [(.sl (List.map eStep p0.steps)), (i64 p0.result)]), (.agg [(.sl (List.map eStep p1.steps)), (i64 p1.result)])] [] (fun v st => v = (.bool r) ∧ st = [])) {p0 : Block} {p1 : Block} {r : Bool} (h0 : laws_eqBlock_B N rec_laws_eqBlock p0 p1 = some r) : ACalls Try.prog 16 [(.agg [(.sl (List.map eStep p0.steps)), (i64 p0.result)]), (.agg [(.sl (List.map eStep p1.steps)), (i64 p1.result)])] [] (fun v st => v = (.bool r) ∧ st = []) := by
  unfold laws_eqBlock_B at h0
  refine ACalls.intro Try.func16 rfl (by show 2 ≤ 16; decide) ?_
  show AW _ 0 _ (aret _ 0 Try.f16 _) ⟨16, _, _⟩
  refine AW.weaken (Wk.to (L := [(0, (.agg [(.sl (List.map eStep p0.steps)), (i64 p0.result)])), (1, (.agg [(.sl (List.map eStep p1.steps)), (i64 p1.result)]))]) ⟨.rfl, .rfl, trivial⟩) ?_
  refine AW.seq fun K1 hK1 => ?_
  refine AW.regionO (by rfl) ?_
  refine ao_box (m := 0) (st' := [⟨0, 29, 2, [[(.sl (List.map eStep p0.steps)), (i64 p0.result)]]⟩]) go0 rfl rfl rfl rfl rfl ?_
  refine ao_box (m := 1) (st' := [⟨0, 29, 2, [[(.sl (List.map eStep p0.steps)), (i64 p0.result)]]⟩, ⟨0, 29, 2, [[(.sl (List.map eStep p1.steps)), (i64 p1.result)]]⟩]) go0 rfl rfl rfl rfl rfl ?_
  refine ao_q (v := (.bool false)) go0 rfl (aq_as rfl) ?_
  refine AO.done (hK1 _ ?_)
  refine AW.seq fun K2 hK2 => ?_
  refine AW.seq fun K3 hK3 => ?_
  refine AW.regionO (by rfl) ?_
  refine ao_q (v := (.ptr 0 0 0 0)) go0 rfl (aq_fap fi29_0 rfl rfl (show 0 + 0 ≤ 2 by decide) rfl) ?_
  refine ao_q (v := (.sl (List.map eStep p0.steps))) go0 rfl (aq_ldp ti27 rfl rfl rfl rfl) ?_
  refine ao_q (v := (.ptr 1 0 0 0)) go0 rfl (aq_fap fi29_0 rfl rfl (show 0 + 0 ≤ 2 by decide) rfl) ?_
  refine ao_q (v := (.sl (List.map eStep p1.steps))) go0 rfl (aq_ldp ti27 rfl rfl rfl rfl) ?_
  obtain ⟨q4, gq4, h0⟩ := Sh.bind_some h0
  refine ao_call (v' := (.bool q4)) (st' := [⟨0, 29, 2, [[(.sl (List.map eStep p0.steps)), (i64 p0.result)]]⟩, ⟨0, 29, 2, [[(.sl (List.map eStep p1.steps)), (i64 p1.result)]]⟩]) go0 hb49 (laws_eqStepS_ok hrec_laws_eqBlock gq4) rfl rfl trivial rfl rfl ?_
  refine ao_q (v := (.bool (!q4))) go0 rfl (aq_not rfl) ?_
  refine AO.done (hK3 _ ?_)
  refine AW.cond' (b := !q4) rfl (fun b5 => ?_) (fun b5 => ?_)
  · replace h0 := Sh.ite_t b5 h0
    have b6 : q4 = false := by simpa using b5
    refine AW.seq fun K7 hK7 => ?_
    refine AW.regionO (by rfl) ?_
    refine ao_q (v := (.bool false)) go0 rfl (aq_as rfl) ?_
    refine AO.done (hK7 _ ?_)
    replace h0 := Sh.some_eq h0
    subst r
    exact AW.ret (Exists.intro _ (And.intro ((Wk.permk (L := [(4, (.bool false))]) (st' := []) (st1 := []) [] rfl .nil (by decide) rfl rfl .nil ⟨.rfl, trivial⟩).trans (Wk.to (L := [(4, (.bool false))]) ⟨.rfl, trivial⟩)) (And.intro rfl rfl)))
  · replace h0 := Sh.ite_f b5 h0
    have b8 : q4 = true := by simpa using b5
    refine AW.skip (hK2 _ ?_)
    refine AW.seq fun K9 hK9 => ?_
    refine AW.seq fun K10 hK10 => ?_
    refine AW.regionO (by rfl) ?_
    refine ao_q (v := (.ptr 0 0 0 1)) go0 rfl (aq_fap fi29_1 rfl rfl (show 0 + 1 ≤ 2 by decide) rfl) ?_
    refine ao_q (v := (i64 p0.result)) go0 rfl (aq_ldp ti3 rfl rfl rfl rfl) ?_
    refine ao_q (v := (.ptr 1 0 0 1)) go0 rfl (aq_fap fi29_1 rfl rfl (show 0 + 1 ≤ 2 by decide) rfl) ?_
    refine ao_q (v := (i64 p1.result)) go0 rfl (aq_ldp ti3 rfl rfl rfl rfl) ?_
    refine ao_q (v := (.bool (!decide (p0.result = p1.result)))) go0 rfl (aq_ne rfl rfl) ?_
    refine AO.done (hK10 _ ?_)
    refine AW.cond' (b := !decide (p0.result = p1.result)) rfl (fun b11 => ?_) (fun b11 => ?_)
    · replace h0 := Sh.ite_t b11 h0
      have b12 : decide (p0.result = p1.result) = false := by simpa using b11
      refine AW.seq fun K13 hK13 => ?_
      refine AW.regionO (by rfl) ?_
      refine ao_q (v := (.bool false)) go0 rfl (aq_as rfl) ?_
      refine AO.done (hK13 _ ?_)
      replace h0 := Sh.some_eq h0
      subst r
      exact AW.ret (Exists.intro _ (And.intro ((Wk.permk (L := [(4, (.bool false))]) (st' := []) (st1 := []) [] rfl .nil (by decide) rfl rfl .nil ⟨.rfl, trivial⟩).trans (Wk.to (L := [(4, (.bool false))]) ⟨.rfl, trivial⟩)) (And.intro rfl rfl)))
    · replace h0 := Sh.ite_f b11 h0
      have b14 : decide (p0.result = p1.result) = true := by simpa using b11
      refine AW.skip (hK9 _ ?_)
      refine AW.seq fun K15 hK15 => ?_
      refine AW.regionO (by rfl) ?_
      refine ao_q (v := (.bool true)) go0 rfl (aq_as rfl) ?_
      refine AO.done (hK15 _ ?_)
      replace h0 := Sh.some_eq h0
      subst r
      exact AW.ret (Exists.intro _ (And.intro ((Wk.permk (L := [(4, (.bool true))]) (st' := []) (st1 := []) [] rfl .nil (by decide) rfl rfl .nil ⟨.rfl, trivial⟩).trans (Wk.to (L := [(4, (.bool true))]) ⟨.rfl, trivial⟩)) (And.intro rfl rfl)))

theorem laws_eqBlock_F_ok {N : Nat} : ∀ (n : Nat), ∀ {p0 : Block} {p1 : Block} {r : Bool}, laws_eqBlock_F N n p0 p1 = some r → ACalls Try.prog 16 [(.agg [(.sl (List.map eStep p0.steps)), (i64 p0.result)]), (.agg [(.sl (List.map eStep p1.steps)), (i64 p1.result)])] [] (fun v st => v = (.bool r) ∧ st = []) := by
  intro n
  induction n with
  | zero => intro p0 p1 r h0; cases h0
  | succ n ih =>
    intro p0 p1 r h0
    rw [laws_eqBlock_F] at h0
    exact laws_eqBlock_B_ok (fun h => ih h) h0
theorem laws_eqBlock_ok {N : Nat} : ∀ {p0 : Block} {p1 : Block} {r : Bool}, laws_eqBlock N p0 p1 = some r → ACalls Try.prog 16 [(.agg [(.sl (List.map eStep p0.steps)), (i64 p0.result)]), (.agg [(.sl (List.map eStep p1.steps)), (i64 p1.result)])] [] (fun v st => v = (.bool r) ∧ st = []) := by
  intro p0 p1 r h0
  exact laws_eqBlock_F_ok N h0

set_option maxRecDepth 100000 in
set_option maxHeartbeats 4000000 in
theorem laws_FnExactUsesOf_ok {N : Nat} {p0 : Block} {p1 : Int} {r : Bool} (h0 : laws_FnExactUsesOf N p0 p1 = some r) : ACalls Try.prog 3 [(.agg [(.sl (List.map eStep p0.steps)), (i64 p0.result)]), (i64 p1)] [] (fun v st => v = (.bool r) ∧ st = []) := by
  unfold laws_FnExactUsesOf at h0
  refine ACalls.intro Try.func3 rfl (by show 2 ≤ 31; decide) ?_
  show AW _ 0 _ (aret _ 0 Try.f3 _) ⟨31, _, _⟩
  refine AW.weaken (Wk.to (L := [(0, (.agg [(.sl (List.map eStep p0.steps)), (i64 p0.result)])), (1, (i64 p1))]) ⟨.rfl, .rfl, trivial⟩) ?_
  refine AW.seq fun K1 hK1 => ?_
  refine AW.regionO (by rfl) ?_
  refine ao_box (m := 0) (st' := [⟨0, 24, 2, [[(.sl (List.map eStep p0.steps)), (i64 p0.result)]]⟩]) go0 rfl rfl rfl rfl rfl ?_
  refine ao_q (v := (.bool false)) go0 rfl (aq_as rfl) ?_
  refine AO.done (hK1 _ ?_)
  refine AW.seq fun K2 hK2 => ?_
  refine AW.regionO (by rfl) ?_
  refine ao_q (v := (i64 1048576)) go0 rfl (aq_as rfl) ?_
  refine AO.done (hK2 _ ?_)
  refine AW.seq fun K3 hK3 => ?_
  refine AW.regionO (by rfl) ?_
  refine ao_q (v := (.agg [(.sl (List.map eStep p0.steps)), (i64 p0.result)])) go0 rfl (aq_ldpa ti24 rfl rfl rfl (show 0 + 2 ≤ 2 by decide) rfl) ?_
  refine ao_q (v := (i64 1048576)) go0 rfl (aq_mv rfl) ?_
  obtain ⟨q4, gq4, h0⟩ := Sh.bind_some h0
  refine ao_call (v' := (i64 q4)) (st' := [⟨0, 24, 2, [[(.sl (List.map eStep p0.steps)), (i64 p0.result)]]⟩]) go0 hb12 (laws_szBlock_ok gq4) rfl rfl trivial rfl rfl ?_
  refine ao_q (v := (i64 q4)) go0 rfl (aq_as rfl) ?_
  refine AO.done (hK3 _ ?_)
  refine AW.seq fun K5 hK5 => ?_
  refine AW.seq fun K6 hK6 => ?_
  refine AW.regionO (by rfl) ?_
  refine ao_q (v := (i64 q4)) go0 rfl (aq_mv rfl) ?_
  refine ao_q (v := (.bool (decide (q4 < 0)))) go0 rfl (aq_lt rfl rfl) ?_
  refine AO.done (hK6 _ ?_)
  refine AW.cond' (b := decide (q4 < 0)) rfl (fun b7 => ?_) (fun b7 => ?_)
  · replace h0 := Sh.ite_t b7 h0
    refine AW.seq fun K8 hK8 => ?_
    refine AW.regionO (by rfl) ?_
    refine ao_q (v := (.bool true)) go0 rfl (aq_as rfl) ?_
    refine AO.done (hK8 _ ?_)
    replace h0 := Sh.some_eq h0
    subst r
    exact AW.ret (Exists.intro _ (And.intro ((Wk.permk (L := [(4, (.bool true))]) (st' := []) (st1 := []) [] rfl .nil (by decide) rfl rfl .nil ⟨.rfl, trivial⟩).trans (Wk.to (L := [(4, (.bool true))]) ⟨.rfl, trivial⟩)) (And.intro rfl rfl)))
  · replace h0 := Sh.ite_f b7 h0
    refine AW.skip (hK5 _ ?_)
    refine AW.seq fun K9 hK9 => ?_
    refine AW.regionO (by rfl) ?_
    refine ao_q (v := (.agg [(.sl (List.map eStep p0.steps)), (i64 p0.result)])) go0 rfl (aq_ldpa ti24 rfl rfl rfl (show 0 + 2 ≤ 2 by decide) rfl) ?_
    obtain ⟨q10, gq10, h0⟩ := Sh.bind_some h0
    refine ao_call (v' := (.agg [(.sl (List.map eStep q10.steps)), (i64 q10.result)])) (st' := [⟨0, 24, 2, [[(.sl (List.map eStep p0.steps)), (i64 p0.result)]]⟩]) go0 hb14 (laws_toBlock_ok gq10) rfl rfl trivial rfl rfl ?_
    refine ao_q (v := (i64 p1)) go0 rfl (aq_mv rfl) ?_
    obtain ⟨q11, gq11, h0⟩ := Sh.bind_some h0
    refine ao_call (v' := (i64 q11)) (st' := [⟨0, 24, 2, [[(.sl (List.map eStep p0.steps)), (i64 p0.result)]]⟩]) go0 hb13 (spec_UsesOf_ok gq11) rfl rfl trivial rfl rfl ?_
    refine ao_q (v := (i64 q11)) go0 rfl (aq_as rfl) ?_
    refine AO.done (hK9 _ ?_)
    refine AW.seq fun K12 hK12 => ?_
    refine AW.regionO (by rfl) ?_
    refine ao_q (v := (.agg [(.sl (List.map eStep p0.steps)), (i64 p0.result)])) go0 rfl (aq_ldpa ti24 rfl rfl rfl (show 0 + 2 ≤ 2 by decide) rfl) ?_
    obtain ⟨q13, gq13, h0⟩ := Sh.bind_some h0
    refine ao_call (v' := (.agg [(.sl (List.map eStep q13.steps)), (i64 q13.result)])) (st' := [⟨0, 24, 2, [[(.sl (List.map eStep p0.steps)), (i64 p0.result)]]⟩]) go0 hb14 (laws_toBlock_ok gq13) rfl rfl trivial rfl rfl ?_
    refine ao_alloc (m := 1) (st' := [⟨0, 24, 2, [[(.sl (List.map eStep p0.steps)), (i64 p0.result)]]⟩, ⟨0, 29, 2, [[.zc, (i64 0)]]⟩]) go0 zi29 rfl rfl ?_
    refine ao_str (st' := [⟨0, 24, 2, [[(.sl (List.map eStep p0.steps)), (i64 p0.result)]]⟩, ⟨0, 29, 2, [[(.sl (List.map eStep q13.steps)), (i64 q13.result)]]⟩]) go0 ti29 rfl rfl rfl rfl rfl rfl (show 0 + 2 ≤ 2 by decide) rfl ?_
    refine AO.done (hK12 _ ?_)
    refine AW.seq fun K14 hK14 => ?_
    refine AW.regionO (by rfl) ?_
    refine ao_q (v := (.agg [(.sl (List.map eStep q13.steps)), (i64 q13.result)])) go0 rfl (aq_ldpa ti29 rfl rfl rfl (show 0 + 2 ≤ 2 by decide) rfl) ?_
    refine ao_q (v := (i64 p1)) go0 rfl (aq_mv rfl) ?_
    obtain ⟨q15, gq15, h0⟩ := Sh.bind_some h0
    refine ao_call (v' := (i64 q15)) (st' := [⟨0, 24, 2, [[(.sl (List.map eStep p0.steps)), (i64 p0.result)]]⟩, ⟨0, 29, 2, [[(.sl (List.map eStep q13.steps)), (i64 q13.result)]]⟩]) go0 hb15 (impl_UsesOf_ok gq15) rfl rfl trivial rfl rfl ?_
    refine ao_q (v := (i64 q15)) go0 rfl (aq_as rfl) ?_
    refine AO.done (hK14 _ ?_)
    refine AW.seq fun K16 hK16 => ?_
    refine AW.seq fun K17 hK17 => ?_
    refine AW.regionO (by rfl) ?_
    refine ao_q (v := (i64 q15)) go0 rfl (aq_mv rfl) ?_
    refine ao_q (v := (i64 q11)) go0 rfl (aq_mv rfl) ?_
    refine ao_q (v := (.bool (!decide (q15 = q11)))) go0 rfl (aq_ne rfl rfl) ?_
    refine AO.done (hK17 _ ?_)
    refine AW.cond' (b := !decide (q15 = q11)) rfl (fun b18 => ?_) (fun b18 => ?_)
    · replace h0 := Sh.ite_t b18 h0
      have b19 : decide (q15 = q11) = false := by simpa using b18
      refine AW.seq fun K20 hK20 => ?_
      refine AW.regionO (by rfl) ?_
      refine ao_q (v := (.bool false)) go0 rfl (aq_as rfl) ?_
      refine AO.done (hK20 _ ?_)
      replace h0 := Sh.some_eq h0
      subst r
      exact AW.ret (Exists.intro _ (And.intro ((Wk.permk (L := [(4, (.bool false))]) (st' := []) (st1 := []) [] rfl .nil (by decide) rfl rfl .nil ⟨.rfl, trivial⟩).trans (Wk.to (L := [(4, (.bool false))]) ⟨.rfl, trivial⟩)) (And.intro rfl rfl)))
    · replace h0 := Sh.ite_f b18 h0
      have b21 : decide (q15 = q11) = true := by simpa using b18
      refine AW.skip (hK16 _ ?_)
      refine AW.seq fun K22 hK22 => ?_
      refine AW.seq fun K23 hK23 => ?_
      refine AW.draw (by kernel_rfl) (by kernel_rfl) (by rfl) ?_
      refine d_q (v := (.agg [(.sl (List.map eStep q13.steps)), (i64 q13.result)])) go0 rfl (aq_ldpa ti29 rfl rfl rfl (show 0 + 2 ≤ 2 by decide) rfl) ?_
      refine d_q (v := (.agg [(.sl (List.map eStep p0.steps)), (i64 p0.result)])) go0 rfl (aq_ldpa ti24 rfl rfl rfl (show 0 + 2 ≤ 2 by decide) rfl) ?_
      obtain ⟨q24, gq24, h0⟩ := Sh.bind_some h0
      refine d_call (v := (.agg [(.sl (List.map eStep q24.steps)), (i64 q24.result)])) go0 hb14 (laws_toBlock_ok gq24) rfl rfl rfl ?_
      obtain ⟨q25, gq25, h0⟩ := Sh.bind_some h0
      refine d_call (v := (.bool q25)) go0 hb16 (laws_eqBlock_ok gq25) rfl rfl rfl ?_
      refine d_q (v := (.bool (!q25))) go0 rfl (aq_not rfl) ?_
      refine d_done (hK23 _ ?_)
      refine AW.cond' (b := !q25) rfl (fun b26 => ?_) (fun b26 => ?_)
      · replace h0 := Sh.ite_t b26 h0
        have b27 : q25 = false := by simpa using b26
        refine AW.seq fun K28 hK28 => ?_
        refine AW.regionO (by rfl) ?_
        refine ao_q (v := (.bool false)) go0 rfl (aq_as rfl) ?_
        refine AO.done (hK28 _ ?_)
        replace h0 := Sh.some_eq h0
        subst r
        exact AW.ret (Exists.intro _ (And.intro ((Wk.permk (L := [(4, (.bool false))]) (st' := []) (st1 := []) [] rfl .nil (by decide) rfl rfl .nil ⟨.rfl, trivial⟩).trans (Wk.to (L := [(4, (.bool false))]) ⟨.rfl, trivial⟩)) (And.intro rfl rfl)))
      · replace h0 := Sh.ite_f b26 h0
        have b29 : q25 = true := by simpa using b26
        refine AW.skip (hK22 _ ?_)
        refine AW.seq fun K30 hK30 => ?_
        refine AW.regionO (by rfl) ?_
        refine ao_q (v := (.bool true)) go0 rfl (aq_as rfl) ?_
        refine AO.done (hK30 _ ?_)
        replace h0 := Sh.some_eq h0
        subst r
        exact AW.ret (Exists.intro _ (And.intro ((Wk.permk (L := [(4, (.bool true))]) (st' := []) (st1 := []) [] rfl .nil (by decide) rfl rfl .nil ⟨.rfl, trivial⟩).trans (Wk.to (L := [(4, (.bool true))]) ⟨.rfl, trivial⟩)) (And.intro rfl rfl)))

set_option maxRecDepth 100000 in
set_option maxHeartbeats 4000000 in
theorem spec_stepUses_2_ok {N : Nat} {p0 : Step} {p1 : Int} {r : Int} (h0 : spec_stepUses_2 N p0 p1 = some r) : ACalls Try.prog 50 [(.agg [(i64 p0.op), (i64 p0.num), (i64 p0.into), (.sl (List.map eI p0.args)), (.sl (List.map eBlock p0.kids))]), (i64 p1)] [] (fun v st => v = (i64 r) ∧ st = []) := by
  unfold spec_stepUses_2 at h0
  refine ACalls.intro Try.func50 rfl (by show 2 ≤ 44; decide) ?_
  show AW _ 0 _ (aret _ 0 Try.f50 _) ⟨44, _, _⟩
  refine AW.weaken (Wk.to (L := [(0, (.agg [(i64 p0.op), (i64 p0.num), (i64 p0.into), (.sl (List.map eI p0.args)), (.sl (List.map eBlock p0.kids))])), (1, (i64 p1))]) ⟨.rfl, .rfl, trivial⟩) ?_
  refine AW.seq fun K1 hK1 => ?_
  refine AW.regionO (by rfl) ?_
  refine ao_box (m := 0) (st' := [⟨0, 76, 5, [[(i64 p0.op), (i64 p0.num), (i64 p0.into), (.sl (List.map eI p0.args)), (.sl (List.map eBlock p0.kids))]]⟩]) go0 rfl rfl rfl rfl rfl ?_
  refine ao_q (v := (i64 0)) go0 rfl (aq_as rfl) ?_
  refine AO.done (hK1 _ ?_)
  refine AW.seq fun K2 hK2 => ?_
  refine AW.seq fun K3 hK3 => ?_
  refine AW.regionO (by rfl) ?_
  refine ao_q (v := (.ptr 0 0 0 0)) go0 rfl (aq_fap fi76_0 rfl rfl (show 0 + 0 ≤ 5 by decide) rfl) ?_
  refine ao_q (v := (i64 p0.op)) go0 rfl (aq_ldp ti3 rfl rfl rfl rfl) ?_
  obtain ⟨q4, gq4, h0⟩ := Sh.bind_some h0
  refine ao_call (v' := (.bool q4)) (st' := [⟨0, 76, 5, [[(i64 p0.op), (i64 p0.num), (i64 p0.into), (.sl (List.map eI p0.args)), (.sl (List.map eBlock p0.kids))]]⟩]) go0 hb80 (spec_isCounting_ok gq4) rfl rfl trivial rfl rfl ?_
  refine AO.done (hK3 _ ?_)
  refine AW.cond' (b := q4) rfl (fun b5 => ?_) (fun b5 => ?_)
  · replace h0 := Sh.ite_t b5 h0
    refine AW.seq fun K6 hK6 => ?_
    refine AW.regionO (by rfl) ?_
    refine ao_q (v := (i64 0)) go0 rfl (aq_as rfl) ?_
    refine AO.done (hK6 _ ?_)
    replace h0 := Sh.some_eq h0
    subst r
    exact AW.ret (Exists.intro _ (And.intro ((Wk.permk (L := [(4, (i64 0))]) (st' := []) (st1 := []) [] rfl .nil (by decide) rfl rfl .nil ⟨.rfl, trivial⟩).trans (Wk.to (L := [(4, (i64 0))]) ⟨.rfl, trivial⟩)) (And.intro rfl rfl)))
  · replace h0 := Sh.ite_f b5 h0
    refine AW.skip (hK2 _ ?_)
    refine AW.seq fun K7 hK7 => ?_
    refine AW.regionO (by rfl) ?_
    refine ao_q (v := (i64 0)) go0 rfl (aq_as rfl) ?_
    refine AO.done (hK7 _ ?_)
    refine AW.seq fun K8 hK8 => ?_
    refine AW.seq fun K9 hK9 => ?_
    refine AW.regionO (by rfl) ?_
    refine ao_q (v := (i64 0)) go0 rfl (aq_as rfl) ?_
    refine AO.done (hK9 _ ?_)
    obtain ⟨o13, h1, h0⟩ := Sh.bind_some h0
    have M13 : ∀ (n12 : Int), o13 = n12 → ∀ s, Wk 0 s ⟨44, envL [(1, (i64 p1)), (2, (.ptr 0 0 0 0)), (5, (i64 n12))], [⟨0, 76, 5, [[(i64 p0.op), (i64 p0.num), (i64 p0.into), (.sl (List.map eI p0.args)), (.sl (List.map eBlock p0.kids))]]⟩]⟩ → K8 s := by
      intro n12 hq s hw
      subst o13
      try dsimp only at h0
      refine hK8 _ (AW.weaken hw ?_)
      refine AW.seq fun K14 hK14 => ?_
      refine AW.seq fun K15 hK15 => ?_
      refine AW.regionO (by rfl) ?_
      refine ao_q (v := (i64 0)) go0 rfl (aq_as rfl) ?_
      refine AO.done (hK15 _ ?_)
      obtain ⟨o19, h1, h0⟩ := Sh.bind_some h0
      have M19 : ∀ (n18 : Int), o19 = n18 → ∀ s, Wk 0 s ⟨44, envL [(5, (i64 n18))], []⟩ → K14 s := by
        intro n18 hq s hw
        subst o19
        try dsimp only at h0
        refine hK14 _ (AW.weaken hw ?_)
        refine AW.seq fun K20 hK20 => ?_
        refine AW.regionO (by rfl) ?_
        refine ao_q (v := (i64 n18)) go0 rfl (aq_mv rfl) ?_
        refine ao_q (v := (i64 n18)) go0 rfl (aq_as rfl) ?_
        refine AO.done (hK20 _ ?_)
        replace h0 := Sh.some_eq h0
        subst r
        exact AW.ret (Exists.intro _ (And.intro (Wk.to (L := [(4, (i64 n18))]) ⟨.rfl, trivial⟩) (And.intro rfl rfl)))
      refine AW.block (AW.loopF (σ := Int × Int) (fun n v => spec_stepUses_2_L2 N p0 p1 n v.1 v.2 = some o19) (fun (n16, i17) => ⟨44, envL [(1, (i64 p1)), (2, (.ptr 0 0 0 0)), (5, (i64 n16)), (7, (i64 i17))], [⟨0, 76, 5, [[(i64 p0.op), (i64 p0.num), (i64 p0.into), (.sl (List.map eI p0.args)), (.sl (List.map eBlock p0.kids))]]⟩]⟩) N (n12, 0) h1 (Wk.to (L := [(1, (i64 p1)), (2, (.ptr 0 0 0 0)), (5, (i64 n12)), (7, (i64 0))]) ⟨.rfl, .rfl, .rfl, .rfl, trivial⟩) (fun _ hv => by rw [spec_stepUses_2_L2] at hv; cases hv) ?_)
      rintro n ⟨n16, i17⟩ h1
      try dsimp only at h1 ⊢
      rw [spec_stepUses_2_L2] at h1
      refine AW.seq fun K21 hK21 => ?_
      refine AW.seq fun K22 hK22 => ?_
      refine AW.regionO (by rfl) ?_
      refine ao_q (v := (i64 i17)) go0 rfl (aq_mv rfl) ?_
      refine ao_q (v := (.ptr 0 0 0 4)) go0 rfl (aq_fap fi76_4 rfl rfl (show 0 + 4 ≤ 5 by decide) rfl) ?_
      refine ao_q (v := (.sl (List.map eBlock p0.kids))) go0 rfl (aq_ldp ti74 rfl rfl rfl rfl) ?_
      refine ao_q (v := (i64 (Sh.len p0.kids))) go0 rfl (aq_lens sl74 rfl) ?_
      refine ao_q (v := (.bool (decide (i17 < (Sh.len p0.kids))))) go0 rfl (aq_lt rfl rfl) ?_
      refine AO.done (hK22 _ ?_)
      refine AW.cond' (b := decide (i17 < (Sh.len p0.kids))) rfl (fun b23 => ?_) (fun b23 => ?_)
      · replace h1 := Sh.ite_t b23 h1
        refine AW.skip (hK21 _ ?_)
        refine AW.seq fun K24 hK24 => ?_
        refine AW.block ?_
        refine AW.regionO (by rfl) ?_
        refine ao_q (v := (i64 n16)) go0 rfl (aq_mv rfl) ?_
        refine ao_q (v := (.ptr 0 0 0 4)) go0 rfl (aq_fap fi76_4 rfl rfl (show 0 + 4 ≤ 5 by decide) rfl) ?_
        refine ao_q (v := (.sl (List.map eBlock p0.kids))) go0 rfl (aq_ldp ti74 rfl rfl rfl rfl) ?_
        refine ao_q (v := (i64 i17)) go0 rfl (aq_mv rfl) ?_
        obtain ⟨c25, gc25, h1⟩ := Sh.bind_some h1
        refine ao_q (v := (.iptr (eBlock c25) 0)) go0 rfl (aq_ixs ei74 rfl rfl gc25 rfl) ?_
        refine ao_q (v := (.agg [(.sl (List.map eStep c25.steps)), (i64 c25.result)])) go0 rfl (aq_ldia ti29 rfl (show 0 + 2 ≤ 2 by decide) rfl) ?_
        refine ao_q (v := (i64 p1)) go0 rfl (aq_mv rfl) ?_
        obtain ⟨q26, gq26, h1⟩ := Sh.bind_some h1
        refine ao_call (v' := (i64 q26)) (st' := [⟨0, 76, 5, [[(i64 p0.op), (i64 p0.num), (i64 p0.into), (.sl (List.map eI p0.args)), (.sl (List.map eBlock p0.kids))]]⟩]) go0 hb44 (spec_blockUses_ok gq26) rfl rfl trivial rfl rfl ?_
        refine ao_q (v := (i64 (Sh.w (n16 + q26)))) go0 rfl (aq_add rfl rfl) ?_
        refine ao_q (v := (i64 (Sh.w (n16 + q26)))) go0 rfl (aq_as rfl) ?_
        refine AO.done (hK24 _ ?_)
        refine AW.regionO (by rfl) ?_
        refine ao_q (v := (i64 i17)) go0 rfl (aq_mv rfl) ?_
        refine ao_q (v := (i64 (Sh.w (i17 + 1)))) go0 rfl (aq_add rfl rfl) ?_
        refine ao_q (v := (i64 (Sh.w (i17 + 1)))) go0 rfl (aq_as rfl) ?_
        exact AO.done (Exists.intro (Sh.w (n16 + q26), Sh.w (i17 + 1)) (And.intro h1 (Wk.to (L := [(1, (i64 p1)), (2, (.ptr 0 0 0 0)), (5, (i64 (Sh.w (n16 + q26)))), (7, (i64 (Sh.w (i17 + 1))))]) ⟨.rfl, .rfl, .rfl, .rfl, trivial⟩)))
      · replace h1 := Sh.ite_f b23 h1
        exact AW.exit (M19 n16 (Sh.some_eq h1).symm _ (by refine Wk.trans (Wk.permk (L := [(5, (i64 n16))]) (st' := []) (st1 := []) [] rfl .nil (by decide) rfl rfl .nil ⟨.rfl, trivial⟩) ?_; exact Wk.to (L := [(5, (i64 n16))]) ⟨.rfl, trivial⟩))
    refine AW.block (AW.loopF (σ := Int × Int) (fun n v => spec_stepUses_2_L1 p0 p1 n v.1 v.2 = some o13) (fun (n10, i11) => ⟨44, envL [(1, (i64 p1)), (2, (.ptr 0 0 0 0)), (5, (i64 n10)), (6, (i64 i11))], [⟨0, 76, 5, [[(i64 p0.op), (i64 p0.num), (i64 p0.into), (.sl (List.map eI p0.args)), (.sl (List.map eBlock p0.kids))]]⟩]⟩) N (0, 0) h1 (Wk.to (L := [(1, (i64 p1)), (2, (.ptr 0 0 0 0)), (5, (i64 0)), (6, (i64 0))]) ⟨.rfl, .rfl, .rfl, .rfl, trivial⟩) (fun _ hv => by rw [spec_stepUses_2_L1] at hv; cases hv) ?_)
    rintro n ⟨n10, i11⟩ h1
    try dsimp only at h1 ⊢
    rw [spec_stepUses_2_L1] at h1
    refine AW.seq fun K27 hK27 => ?_
    refine AW.seq fun K28 hK28 => ?_
    refine AW.regionO (by rfl) ?_
    refine ao_q (v := (i64 i11)) go0 rfl (aq_mv rfl) ?_
    refine ao_q (v := (.ptr 0 0 0 3)) go0 rfl (aq_fap fi76_3 rfl rfl (show 0 + 3 ≤ 5 by decide) rfl) ?_
    refine ao_q (v := (.sl (List.map eI p0.args))) go0 rfl (aq_ldp ti34 rfl rfl rfl rfl) ?_
    refine ao_q (v := (i64 (Sh.len p0.args))) go0 rfl (aq_lens sl34 rfl) ?_
    refine ao_q (v := (.bool (decide (i11 < (Sh.len p0.args))))) go0 rfl (aq_lt rfl rfl) ?_
    refine AO.done (hK28 _ ?_)
    refine AW.cond' (b := decide (i11 < (Sh.len p0.args))) rfl (fun b29 => ?_) (fun b29 => ?_)
    · replace h1 := Sh.ite_t b29 h1
      refine AW.skip (hK27 _ ?_)
      refine AW.seq fun K30 hK30 => ?_
      obtain ⟨o32, h2, h1⟩ := Sh.bind_some h1
      have M32 : ∀ (n31 : Int), o32 = n31 → ∀ s, Wk 0 s ⟨44, envL [(1, (i64 p1)), (2, (.ptr 0 0 0 0)), (5, (i64 n31)), (6, (i64 i11))], [⟨0, 76, 5, [[(i64 p0.op), (i64 p0.num), (i64 p0.into), (.sl (List.map eI p0.args)), (.sl (List.map eBlock p0.kids))]]⟩]⟩ → K30 s := by
        intro n31 hq s hw
        subst o32
        try dsimp only at h1
        refine hK30 _ (AW.weaken hw ?_)
        refine AW.regionO (by rfl) ?_
        refine ao_q (v := (i64 i11)) go0 rfl (aq_mv rfl) ?_
        refine ao_q (v := (i64 (Sh.w (i11 + 1)))) go0 rfl (aq_add rfl rfl) ?_
        refine ao_q (v := (i64 (Sh.w (i11 + 1)))) go0 rfl (aq_as rfl) ?_
        exact AO.done (Exists.intro (n31, Sh.w (i11 + 1)) (And.intro h1 (Wk.to (L := [(1, (i64 p1)), (2, (.ptr 0 0 0 0)), (5, (i64 n31)), (6, (i64 (Sh.w (i11 + 1))))]) ⟨.rfl, .rfl, .rfl, .rfl, trivial⟩)))
      refine AW.block ?_
      refine AW.seq fun K33 hK33 => ?_
      refine AW.regionO (by rfl) ?_
      refine ao_q (v := (.ptr 0 0 0 3)) go0 rfl (aq_fap fi76_3 rfl rfl (show 0 + 3 ≤ 5 by decide) rfl) ?_
      refine ao_q (v := (.sl (List.map eI p0.args))) go0 rfl (aq_ldp ti34 rfl rfl rfl rfl) ?_
      refine ao_q (v := (i64 i11)) go0 rfl (aq_mv rfl) ?_
      obtain ⟨c34, gc34, h2⟩ := Sh.bind_some h2
      refine ao_q (v := (.iptr (eI c34) 0)) go0 rfl (aq_ixs ei34 rfl rfl gc34 rfl) ?_
      refine ao_q (v := (i64 c34)) go0 rfl (aq_ldi ti3 rfl rfl) ?_
      refine ao_q (v := (i64 p1)) go0 rfl (aq_mv rfl) ?_
      refine ao_q (v := (.bool (decide (c34 = p1)))) go0 rfl (aq_eq rfl rfl) ?_
      refine AO.done (hK33 _ ?_)
      refine AW.cond' (b := decide (c34 = p1)) rfl (fun b35 => ?_) (fun b35 => ?_)
      · replace h2 := Sh.ite_t b35 h2
        refine AW.regionO (by rfl) ?_
        refine ao_q (v := (i64 n10)) go0 rfl (aq_mv rfl) ?_
        refine ao_q (v := (i64 (Sh.w (n10 + 1)))) go0 rfl (aq_add rfl rfl) ?_
        refine ao_q (v := (i64 (Sh.w (n10 + 1)))) go0 rfl (aq_as rfl) ?_
        exact AO.done (M32 (Sh.w (n10 + 1)) (Sh.some_eq h2).symm _ (Wk.to (L := [(1, (i64 p1)), (2, (.ptr 0 0 0 0)), (5, (i64 (Sh.w (n10 + 1)))), (6, (i64 i11))]) ⟨.rfl, .rfl, .rfl, .rfl, trivial⟩))
      · replace h2 := Sh.ite_f b35 h2
        exact AW.skip (M32 n10 (Sh.some_eq h2).symm _ (Wk.to (L := [(1, (i64 p1)), (2, (.ptr 0 0 0 0)), (5, (i64 n10)), (6, (i64 i11))]) ⟨.rfl, .rfl, .rfl, .rfl, trivial⟩))
    · replace h1 := Sh.ite_f b29 h1
      exact AW.exit (M13 n10 (Sh.some_eq h1).symm _ (Wk.to (L := [(1, (i64 p1)), (2, (.ptr 0 0 0 0)), (5, (i64 n10))]) ⟨.rfl, .rfl, .rfl, trivial⟩))

set_option maxRecDepth 100000 in
set_option maxHeartbeats 4000000 in
theorem spec_LastUse_ok {N : Nat} {p0 : Block} {p1 : Int} {r : Int} (h0 : spec_LastUse N p0 p1 = some r) : ACalls Try.prog 17 [(.agg [(.sl (List.map eStep p0.steps)), (i64 p0.result)]), (i64 p1)] [] (fun v st => v = (i64 r) ∧ st = []) := by
  unfold spec_LastUse at h0
  refine ACalls.intro Try.func17 rfl (by show 2 ≤ 33; decide) ?_
  show AW _ 0 _ (aret _ 0 Try.f17 _) ⟨33, _, _⟩
  refine AW.weaken (Wk.to (L := [(0, (.agg [(.sl (List.map eStep p0.steps)), (i64 p0.result)])), (1, (i64 p1))]) ⟨.rfl, .rfl, trivial⟩) ?_
  refine AW.seq fun K1 hK1 => ?_
  refine AW.regionO (by rfl) ?_
  refine ao_box (m := 0) (st' := [⟨0, 29, 2, [[(.sl (List.map eStep p0.steps)), (i64 p0.result)]]⟩]) go0 rfl rfl rfl rfl rfl ?_
  refine ao_q (v := (i64 0)) go0 rfl (aq_as rfl) ?_
  refine AO.done (hK1 _ ?_)
  refine AW.seq fun K2 hK2 => ?_
  refine AW.seq fun K3 hK3 => ?_
  refine AW.regionO (by rfl) ?_
  refine ao_q (v := (.agg [(.sl (List.map eStep p0.steps)), (i64 p0.result)])) go0 rfl (aq_ldpa ti29 rfl rfl rfl (show 0 + 2 ≤ 2 by decide) rfl) ?_
  obtain ⟨q4, gq4, h0⟩ := Sh.bind_some h0
  refine ao_call (v' := (i64 q4)) (st' := [⟨0, 29, 2, [[(.sl (List.map eStep p0.steps)), (i64 p0.result)]]⟩]) go0 hb43 (spec_stepsOf_ok gq4) rfl rfl trivial rfl rfl ?_
  refine ao_q (v := (.bool (decide (q4 < 0)))) go0 rfl (aq_lt rfl rfl) ?_
  refine AO.done (hK3 _ ?_)
  refine AW.cond' (b := decide (q4 < 0)) rfl (fun b5 => ?_) (fun b5 => ?_)
  · replace h0 := Sh.ite_t b5 h0
    refine AW.seq fun K6 hK6 => ?_
    refine AW.regionO (by rfl) ?_
    refine ao_q (v := (i64 (-1))) go0 rfl (aq_as rfl) ?_
    refine AO.done (hK6 _ ?_)
    replace h0 := Sh.some_eq h0
    subst r
    exact AW.ret (Exists.intro _ (And.intro ((Wk.permk (L := [(4, (i64 (-1)))]) (st' := []) (st1 := []) [] rfl .nil (by decide) rfl rfl .nil ⟨.rfl, trivial⟩).trans (Wk.to (L := [(4, (i64 (-1)))]) ⟨.rfl, trivial⟩)) (And.intro rfl rfl)))
  · replace h0 := Sh.ite_f b5 h0
    refine AW.skip (hK2 _ ?_)
    refine AW.seq fun K7 hK7 => ?_
    refine AW.seq fun K8 hK8 => ?_
    refine AW.regionO (by rfl) ?_
    refine ao_q (v := (.ptr 0 0 0 1)) go0 rfl (aq_fap fi29_1 rfl rfl (show 0 + 1 ≤ 2 by decide) rfl) ?_
    refine ao_q (v := (i64 p0.result)) go0 rfl (aq_ldp ti3 rfl rfl rfl rfl) ?_
    refine ao_q (v := (i64 p1)) go0 rfl (aq_mv rfl) ?_
    refine ao_q (v := (.bool (decide (p0.result = p1)))) go0 rfl (aq_eq rfl rfl) ?_
    refine AO.done (hK8 _ ?_)
    refine AW.cond' (b := decide (p0.result = p1)) rfl (fun b9 => ?_) (fun b9 => ?_)
    · replace h0 := Sh.ite_t b9 h0
      refine AW.seq fun K10 hK10 => ?_
      refine AW.regionO (by rfl) ?_
      refine ao_q (v := (.ptr 0 0 0 0)) go0 rfl (aq_fap fi29_0 rfl rfl (show 0 + 0 ≤ 2 by decide) rfl) ?_
      refine ao_q (v := (.sl (List.map eStep p0.steps))) go0 rfl (aq_ldp ti27 rfl rfl rfl rfl) ?_
      refine ao_q (v := (i64 (Sh.len p0.steps))) go0 rfl (aq_lens sl27 rfl) ?_
      refine ao_q (v := (i64 (Sh.len p0.steps))) go0 rfl (aq_as rfl) ?_
      refine AO.done (hK10 _ ?_)
      replace h0 := Sh.some_eq h0
      subst r
      exact AW.ret (Exists.intro _ (And.intro ((Wk.permk (L := [(4, (i64 (Sh.len p0.steps)))]) (st' := []) (st1 := []) [] rfl .nil (by decide) rfl rfl .nil ⟨.rfl, trivial⟩).trans (Wk.to (L := [(4, (i64 (Sh.len p0.steps)))]) ⟨.rfl, trivial⟩)) (And.intro rfl rfl)))
    · replace h0 := Sh.ite_f b9 h0
      refine AW.skip (hK7 _ ?_)
      refine AW.seq fun K11 hK11 => ?_
      refine AW.seq fun K12 hK12 => ?_
      refine AW.regionO (by rfl) ?_
      refine ao_q (v := (.ptr 0 0 0 0)) go0 rfl (aq_fap fi29_0 rfl rfl (show 0 + 0 ≤ 2 by decide) rfl) ?_
      refine ao_q (v := (.sl (List.map eStep p0.steps))) go0 rfl (aq_ldp ti27 rfl rfl rfl rfl) ?_
      refine ao_q (v := (i64 (Sh.len p0.steps))) go0 rfl (aq_lens sl27 rfl) ?_
      refine ao_q (v := (i64 (Sh.w ((Sh.len p0.steps) - 1)))) go0 rfl (aq_sub rfl rfl) ?_
      refine ao_q (v := (i64 (Sh.w ((Sh.len p0.steps) - 1)))) go0 rfl (aq_as rfl) ?_
      refine AO.done (hK12 _ ?_)
      obtain ⟨o14, h1, h0⟩ := Sh.cont_some h0
      have M14 : ∀ (_ : Unit), o14 = Sum.inr () → ∀ s, Wk 0 s ⟨33, envL [], []⟩ → K11 s := by
        intro _ hq s hw
        subst o14
        try dsimp only at h0
        refine hK11 _ (AW.weaken hw ?_)
        refine AW.seq fun K15 hK15 => ?_
        refine AW.regionO (by rfl) ?_
        refine ao_q (v := (i64 (-1))) go0 rfl (aq_as rfl) ?_
        refine AO.done (hK15 _ ?_)
        replace h0 := Sh.some_eq h0
        subst r
        exact AW.ret (Exists.intro _ (And.intro (Wk.to (L := [(4, (i64 (-1)))]) ⟨.rfl, trivial⟩) (And.intro rfl rfl)))
      refine AW.block (AW.loopF (σ := Int) (fun n v => spec_LastUse_L1 N p0 p1 n v = some o14) (fun i13 => ⟨33, envL [(1, (i64 p1)), (2, (.ptr 0 0 0 0)), (5, (i64 i13))], [⟨0, 29, 2, [[(.sl (List.map eStep p0.steps)), (i64 p0.result)]]⟩]⟩) N (Sh.w ((Sh.len p0.steps) - 1)) h1 (Wk.to (L := [(1, (i64 p1)), (2, (.ptr 0 0 0 0)), (5, (i64 (Sh.w ((Sh.len p0.steps) - 1))))]) ⟨.rfl, .rfl, .rfl, trivial⟩) (fun _ hv => by rw [spec_LastUse_L1] at hv; cases hv) ?_)
      rintro n i13 h1
      try dsimp only at h1 ⊢
      rw [spec_LastUse_L1] at h1
      refine AW.seq fun K16 hK16 => ?_
      refine AW.seq fun K17 hK17 => ?_
      refine AW.regionO (by rfl) ?_
      refine ao_q (v := (i64 i13)) go0 rfl (aq_mv rfl) ?_
      refine ao_q (v := (.bool (decide (0 ≤ i13)))) go0 rfl (aq_ge rfl rfl) ?_
      refine AO.done (hK17 _ ?_)
      refine AW.cond' (b := decide (0 ≤ i13)) rfl (fun b18 => ?_) (fun b18 => ?_)
      · replace h1 := Sh.ite_t b18 h1
        refine AW.skip (hK16 _ ?_)
        refine AW.seq fun K19 hK19 => ?_
        refine AW.block ?_
        refine AW.seq fun K20 hK20 => ?_
        refine AW.regionO (by rfl) ?_
        refine ao_q (v := (.ptr 0 0 0 0)) go0 rfl (aq_fap fi29_0 rfl rfl (show 0 + 0 ≤ 2 by decide) rfl) ?_
        refine ao_q (v := (.sl (List.map eStep p0.steps))) go0 rfl (aq_ldp ti27 rfl rfl rfl rfl) ?_
        refine ao_q (v := (i64 i13)) go0 rfl (aq_mv rfl) ?_
        obtain ⟨c21, gc21, h1⟩ := Sh.bind_some h1
        refine ao_q (v := (.iptr [(i64 c21.op), (i64 c21.num), (i64 c21.into), (.sl (List.map eI c21.args)), (.sl (List.map eBlock c21.kids))] 0)) go0 rfl (aq_ixsE ei27 rfl rfl gc21 (eStep_eq _) rfl) ?_
        refine ao_q (v := (.agg [(i64 c21.op), (i64 c21.num), (i64 c21.into), (.sl (List.map eI c21.args)), (.sl (List.map eBlock c21.kids))])) go0 rfl (aq_ldia ti76 rfl (show 0 + 5 ≤ 5 by decide) rfl) ?_
        refine ao_q (v := (i64 p1)) go0 rfl (aq_mv rfl) ?_
        obtain ⟨q22, gq22, h1⟩ := Sh.bind_some h1
        refine ao_call (v' := (i64 q22)) (st' := [⟨0, 29, 2, [[(.sl (List.map eStep p0.steps)), (i64 p0.result)]]⟩]) go0 hb50 (spec_stepUses_2_ok gq22) rfl rfl trivial rfl rfl ?_
        refine ao_q (v := (.bool (decide (0 < q22)))) go0 rfl (aq_gt rfl rfl) ?_
        refine AO.done (hK20 _ ?_)
        refine AW.cond' (b := decide (0 < q22)) rfl (fun b23 => ?_) (fun b23 => ?_)
        · replace h1 := Sh.ite_t b23 h1
          refine AW.seq fun K24 hK24 => ?_
          refine AW.regionO (by rfl) ?_
          refine ao_q (v := (i64 i13)) go0 rfl (aq_mv rfl) ?_
          refine ao_q (v := (i64 i13)) go0 rfl (aq_as rfl) ?_
          refine AO.done (hK24 _ ?_)
          replace h1 := Sh.some_eq h1
          subst o14
          try dsimp only [id] at h0
          replace h0 := Sh.some_eq h0
          subst r
          exact AW.ret (Exists.intro _ (And.intro ((Wk.permk (L := [(4, (i64 i13))]) (st' := []) (st1 := []) [] rfl .nil (by decide) rfl rfl .nil ⟨.rfl, trivial⟩).trans (Wk.to (L := [(4, (i64 i13))]) ⟨.rfl, trivial⟩)) (And.intro rfl rfl)))
        · replace h1 := Sh.ite_f b23 h1
          refine AW.skip (hK19 _ ?_)
          refine AW.regionO (by rfl) ?_
          refine ao_q (v := (i64 i13)) go0 rfl (aq_mv rfl) ?_
          refine ao_q (v := (i64 (Sh.w (i13 - 1)))) go0 rfl (aq_sub rfl rfl) ?_
          refine ao_q (v := (i64 (Sh.w (i13 - 1)))) go0 rfl (aq_as rfl) ?_
          exact AO.done (Exists.intro (Sh.w (i13 - 1)) (And.intro h1 (Wk.to (L := [(1, (i64 p1)), (2, (.ptr 0 0 0 0)), (5, (i64 (Sh.w (i13 - 1))))]) ⟨.rfl, .rfl, .rfl, trivial⟩)))
      · replace h1 := Sh.ite_f b18 h1
        exact AW.exit (M14 () (Sh.some_eq h1).symm _ (by refine Wk.trans (Wk.permk (L := []) (st' := []) (st1 := []) [] rfl .nil (by decide) rfl rfl .nil trivial) ?_; exact Wk.to (L := []) trivial))

set_option maxRecDepth 100000 in
set_option maxHeartbeats 4000000 in
theorem impl_stepUses_1_ok {s0_0 : Bool} {s1_0 : Int} {p0 : Int} {r : Bool} (h0 : impl_stepUses_1 s0_0 s1_0 p0 = some r) : ACalls Try.prog 81 [(i64 p0), (.ptr 0 0 0 0), (.ptr 1 0 0 0)] [⟨0, 4, 1, [[(.bool s0_0)]]⟩, ⟨0, 3, 1, [[(i64 s1_0)]]⟩] (fun v st => v = (.tup []) ∧ st = [⟨0, 4, 1, [[(.bool r)]]⟩, ⟨0, 3, 1, [[(i64 s1_0)]]⟩]) := by
  unfold impl_stepUses_1 at h0
  refine ACalls.intro Try.func81 rfl (by show 3 ≤ 10; decide) ?_
  show AW _ 2 _ (aret _ 2 Try.f81 _) ⟨10, _, _⟩
  refine AW.weaken (Wk.to (L := [(0, (i64 p0)), (1, (.ptr 0 0 0 0)), (2, (.ptr 1 0 0 0))]) ⟨.rfl, .rfl, .rfl, trivial⟩) ?_
  refine AW.regionO (by rfl) ?_
  refine ao_q (v := (.bool s0_0)) go0 rfl (aq_ldp ti4 rfl rfl rfl rfl) ?_
  refine ao_q (v := (.bool s0_0)) go0 rfl (aq_mv rfl) ?_
  rcases Sh.ite_some h0 with ⟨b1, h0⟩ | ⟨b1, h0⟩
  · skip
    refine ao_skip rfl rfl b1 ?_
    refine ao_skip rfl rfl b1 ?_
    refine ao_skip rfl rfl b1 ?_
    refine ao_q (v := (.bool true)) go0 rfl (aq_pkt rfl b1 rfl) ?_
    refine ao_str (st' := [⟨0, 4, 1, [[(.bool true)]]⟩, ⟨0, 3, 1, [[(i64 s1_0)]]⟩]) go0 ti4 rfl rfl rfl rfl rfl rfl (show 0 + 1 ≤ 1 by decide) rfl ?_
    replace h0 := Sh.some_eq h0
    subst r
    exact AO.done (Exists.intro _ (And.intro (Wk.to (L := []) trivial) (And.intro rfl rfl)))
  · skip
    refine ao_q (v := (i64 p0)) (go1 rfl rfl b1) rfl (aq_mv rfl) ?_
    refine ao_q (v := (i64 s1_0)) (go1 rfl rfl b1) rfl (aq_ldp ti3 rfl rfl rfl rfl) ?_
    refine ao_q (v := (.bool (decide (p0 = s1_0)))) (go1 rfl rfl b1) rfl (aq_eq rfl rfl) ?_
    refine ao_q (v := (.bool (decide (p0 = s1_0)))) go0 rfl (aq_pkf rfl b1 rfl) ?_
    refine ao_str (st' := [⟨0, 4, 1, [[(.bool (decide (p0 = s1_0)))]]⟩, ⟨0, 3, 1, [[(i64 s1_0)]]⟩]) go0 ti4 rfl rfl rfl rfl rfl rfl (show 0 + 1 ≤ 1 by decide) rfl ?_
    replace h0 := Sh.some_eq h0
    subst r
    exact AO.done (Exists.intro _ (And.intro (Wk.to (L := []) trivial) (And.intro rfl rfl)))

set_option maxRecDepth 100000 in
set_option maxHeartbeats 4000000 in
theorem impl_visitUses_2_ok {N : Nat} {rec_impl_visitStep_2 : Bool → Int → Step → Option (Bool × Int)} (hrec_impl_visitStep_2 : ∀ {s0_0 : Bool} {s1_0 : Int} {p0 : Step} {r : Bool × Int}, rec_impl_visitStep_2 s0_0 s1_0 p0 = some r → ACalls Try.prog 78 [(.agg [(i64 p0.op), (i64 p0.num), (i64 p0.into), (.sl (List.map eI p0.args)), (.sl (List.map eBlock p0.kids))]), (.fn 81 [(.ptr 0 0 0 0), (.ptr 1 0 0 0)])] [⟨0, 4, 1, [[(.bool s0_0)]]⟩, ⟨0, 3, 1, [[(i64 s1_0)]]⟩] (fun v st => v = (.tup []) ∧ st = [⟨0, 4, 1, [[(.bool r.1)]]⟩, ⟨0, 3, 1, [[(i64 r.2)]]⟩])) {s0_0 : Bool} {s1_0 : Int} {p0 : Block} {p1 : Int} {r : Bool × Int} (h0 : impl_visitUses_2 N rec_impl_visitStep_2 s0_0 s1_0 p0 p1 = some r) : ACalls Try.prog 47 [(.agg [(.sl (List.map eStep p0.steps)), (i64 p0.result)]), (i64 p1), (.fn 81 [(.ptr 0 0 0 0), (.ptr 1 0 0 0)])] [⟨0, 4, 1, [[(.bool s0_0)]]⟩, ⟨0, 3, 1, [[(i64 s1_0)]]⟩] (fun v st => v = (.tup []) ∧ st = [⟨0, 4, 1, [[(.bool r.1)]]⟩, ⟨0, 3, 1, [[(i64 r.2)]]⟩]) := by
  unfold impl_visitUses_2 at h0
  refine ACalls.intro Try.func47 rfl (by show 3 ≤ 25; decide) ?_
  show AW _ 2 _ (aret _ 2 Try.f47 _) ⟨25, _, _⟩
  refine AW.weaken (Wk.to (L := [(0, (.agg [(.sl (List.map eStep p0.steps)), (i64 p0.result)])), (1, (i64 p1)), (2, (.fn 81 [(.ptr 0 0 0 0), (.ptr 1 0 0 0)]))]) ⟨.rfl, .rfl, .rfl, trivial⟩) ?_
  refine AW.seq fun K1 hK1 => ?_
  refine AW.regionO (by rfl) ?_
  refine ao_box (m := 2) (st' := [⟨0, 4, 1, [[(.bool s0_0)]]⟩, ⟨0, 3, 1, [[(i64 s1_0)]]⟩, ⟨0, 29, 2, [[(.sl (List.map eStep p0.steps)), (i64 p0.result)]]⟩]) go0 rfl rfl rfl rfl rfl ?_
  refine AO.done (hK1 _ ?_)
  refine AW.seq fun K2 hK2 => ?_
  refine AW.seq fun K3 hK3 => ?_
  refine AW.regionO (by rfl) ?_
  refine ao_q (v := (.ptr 2 0 0 0)) go0 rfl (aq_fap fi29_0 rfl rfl (show 0 + 0 ≤ 2 by decide) rfl) ?_
  refine ao_q (v := (.sl (List.map eStep p0.steps))) go0 rfl (aq_ldp ti27 rfl rfl rfl rfl) ?_
  refine ao_q (v := (i64 p1)) go0 rfl (aq_mv rfl) ?_
  obtain ⟨l4, gl4, h0⟩ := Sh.bind_some h0
  refine ao_sls (i := p1) (j := Sh.len p0.steps) go0 ei27 rfl rfl rfl eStep_len gl4 ?_
  refine ao_q (v := (i64 (Sh.len l4))) go0 rfl (aq_lens sl27 rfl) ?_
  refine ao_q (v := (i64 0)) go0 rfl (aq_mv rfl) ?_
  refine AO.done (hK3 _ ?_)
  obtain ⟨o10, h1, h0⟩ := Sh.bind_some h0
  have M10 : ∀ (f8 : Bool) (f9 : Int), o10 = (f8, f9) → ∀ s, Wk 2 s ⟨25, envL [(2, (.fn 81 [(.ptr 0 0 0 0), (.ptr 1 0 0 0)])), (3, (.ptr 2 0 0 0))], [⟨0, 4, 1, [[(.bool f8)]]⟩, ⟨0, 3, 1, [[(i64 f9)]]⟩, ⟨0, 29, 2, [[(.sl (List.map eStep p0.steps)), (i64 p0.result)]]⟩]⟩ → K2 s := by
    intro f8 f9 hq s hw
    subst o10
    try dsimp only at h0
    refine hK2 _ (AW.weaken hw ?_)
    refine AW.regionO (by rfl) ?_
    refine ao_q (v := (.fn 81 [(.ptr 0 0 0 0), (.ptr 1 0 0 0)])) go0 rfl (aq_mv rfl) ?_
    refine ao_q (v := (.ptr 2 0 0 1)) go0 rfl (aq_fap fi29_1 rfl rfl (show 0 + 1 ≤ 2 by decide) rfl) ?_
    refine ao_q (v := (i64 p0.result)) go0 rfl (aq_ldp ti3 rfl rfl rfl rfl) ?_
    obtain ⟨q11, gq11, h0⟩ := Sh.bind_some h0
    refine ao_callst (rowsP := [⟨0, 4, 1, [[(.bool f8)]]⟩, ⟨0, 3, 1, [[(i64 f9)]]⟩]) (rows0 := [⟨0, 4, 1, [[(.bool f8)]]⟩, ⟨0, 3, 1, [[(i64 f9)]]⟩]) (rows1 := [⟨0, 4, 1, [[(.bool q11)]]⟩, ⟨0, 3, 1, [[(i64 f9)]]⟩]) (rows2 := []) (rows1' := [⟨0, 4, 1, [[(.bool q11)]]⟩, ⟨0, 3, 1, [[(i64 f9)]]⟩]) (rows2' := []) (st' := [⟨0, 4, 1, [[(.bool q11)]]⟩, ⟨0, 3, 1, [[(i64 f9)]]⟩, ⟨0, 29, 2, [[(.sl (List.map eStep p0.steps)), (i64 p0.result)]]⟩]) (v' := (.tup [])) [0, 1] go0 rfl hb81 (impl_stepUses_1_ok gq11) rfl (by decide) rfl rfl (.raw rfl rfl (.raw rfl rfl .nil)) rfl rfl (.raw rfl rfl (.raw rfl rfl .nil)) .nil rfl rfl ?_
    replace h0 := Sh.some_eq h0
    subst r
    exact AO.done (Exists.intro _ (And.intro ((Wk.permk (L := []) (st' := [⟨0, 4, 1, [[(.bool q11)]]⟩, ⟨0, 3, 1, [[(i64 f9)]]⟩]) (st1 := [⟨0, 4, 1, [[(.bool q11)]]⟩, ⟨0, 3, 1, [[(i64 f9)]]⟩]) [0, 1] rfl (.raw rfl rfl (.raw rfl rfl .nil)) (by decide) rfl rfl (.raw rfl rfl (.raw rfl rfl .nil)) trivial).trans (Wk.to (L := []) trivial)) (And.intro rfl rfl)))
  refine AW.block (AW.loopF (σ := Int × Bool × Int) (fun n v => impl_visitUses_2_L1 l4 rec_impl_visitStep_2 n v.1 v.2.1 v.2.2 = some o10) (fun (t5, f6, f7) => ⟨25, envL [(2, (.fn 81 [(.ptr 0 0 0 0), (.ptr 1 0 0 0)])), (3, (.ptr 2 0 0 0)), (11, (.sl (List.map eStep l4))), (12, (i64 (Sh.len l4))), (13, (i64 t5))], [⟨0, 4, 1, [[(.bool f6)]]⟩, ⟨0, 3, 1, [[(i64 f7)]]⟩, ⟨0, 29, 2, [[(.sl (List.map eStep p0.steps)), (i64 p0.result)]]⟩]⟩) N (0, s0_0, s1_0) h1 (Wk.to (L := [(2, (.fn 81 [(.ptr 0 0 0 0), (.ptr 1 0 0 0)])), (3, (.ptr 2 0 0 0)), (11, (.sl (List.map eStep l4))), (12, (i64 (Sh.len l4))), (13, (i64 0))]) ⟨.rfl, .rfl, .rfl, .rfl, .rfl, trivial⟩) (fun _ hv => by rw [impl_visitUses_2_L1] at hv; cases hv) ?_)
  rintro n ⟨t5, f6, f7⟩ h1
  try dsimp only at h1 ⊢
  rw [impl_visitUses_2_L1] at h1
  refine AW.seq fun K12 hK12 => ?_
  refine AW.regionO (by rfl) ?_
  refine ao_q (v := (.bool (decide (t5 < (Sh.len l4))))) go0 rfl (aq_lt rfl rfl) ?_
  refine AO.done (hK12 _ ?_)
  refine AW.seq fun K13 hK13 => ?_
  refine AW.cond' (b := decide (t5 < (Sh.len l4))) rfl (fun b14 => ?_) (fun b14 => ?_)
  · replace h1 := Sh.ite_t b14 h1
    refine AW.skip (hK13 _ ?_)
    refine AW.seq fun K15 hK15 => ?_
    refine AW.block ?_
    refine AW.seq fun K16 hK16 => ?_
    refine AW.regionO (by rfl) ?_
    obtain ⟨c17, gc17, h1⟩ := Sh.bind_some h1
    refine ao_q (v := (.iptr [(i64 c17.op), (i64 c17.num), (i64 c17.into), (.sl (List.map eI c17.args)), (.sl (List.map eBlock c17.kids))] 0)) go0 rfl (aq_ixsE ei27 rfl rfl gc17 (eStep_eq _) rfl) ?_
    refine ao_q (v := (.agg [(i64 c17.op), (i64 c17.num), (i64 c17.into), (.sl (List.map eI c17.args)), (.sl (List.map eBlock c17.kids))])) go0 rfl (aq_ldia ti76 rfl (show 0 + 5 ≤ 5 by decide) rfl) ?_
    refine ao_alloc (m := 3) (st' := [⟨0, 4, 1, [[(.bool f6)]]⟩, ⟨0, 3, 1, [[(i64 f7)]]⟩, ⟨0, 29, 2, [[(.sl (List.map eStep p0.steps)), (i64 p0.result)]]⟩, ⟨0, 76, 5, [[(i64 0), (i64 0), (i64 0), .zc, .zc]]⟩]) go0 zi76 rfl rfl ?_
    refine ao_str (st' := [⟨0, 4, 1, [[(.bool f6)]]⟩, ⟨0, 3, 1, [[(i64 f7)]]⟩, ⟨0, 29, 2, [[(.sl (List.map eStep p0.steps)), (i64 p0.result)]]⟩, ⟨0, 76, 5, [[(i64 c17.op), (i64 c17.num), (i64 c17.into), (.sl (List.map eI c17.args)), (.sl (List.map eBlock c17.kids))]]⟩]) go0 ti76 rfl rfl rfl rfl rfl rfl (show 0 + 5 ≤ 5 by decide) rfl ?_
    refine AO.done (hK16 _ ?_)
    refine AW.regionO (by rfl) ?_
    refine ao_q (v := (.agg [(i64 c17.op), (i64 c17.num), (i64 c17.into), (.sl (List.map eI c17.args)), (.sl (List.map eBlock c17.kids))])) go0 rfl (aq_ldpa ti76 rfl rfl rfl (show 0 + 5 ≤ 5 by decide) rfl) ?_
    refine ao_q (v := (.fn 81 [(.ptr 0 0 0 0), (.ptr 1 0 0 0)])) go0 rfl (aq_mv rfl) ?_
    obtain ⟨q18, gq18, h1⟩ := Sh.bind_some h1
    refine ao_calls (rowsP := [⟨0, 4, 1, [[(.bool f6)]]⟩, ⟨0, 3, 1, [[(i64 f7)]]⟩]) (rows0 := [⟨0, 4, 1, [[(.bool f6)]]⟩, ⟨0, 3, 1, [[(i64 f7)]]⟩]) (rows1 := [⟨0, 4, 1, [[(.bool q18.1)]]⟩, ⟨0, 3, 1, [[(i64 q18.2)]]⟩]) (rows2 := []) (rows1' := [⟨0, 4, 1, [[(.bool q18.1)]]⟩, ⟨0, 3, 1, [[(i64 q18.2)]]⟩]) (rows2' := []) (st' := [⟨0, 4, 1, [[(.bool q18.1)]]⟩, ⟨0, 3, 1, [[(i64 q18.2)]]⟩, ⟨0, 29, 2, [[(.sl (List.map eStep p0.steps)), (i64 p0.result)]]⟩, ⟨0, 76, 5, [[(i64 c17.op), (i64 c17.num), (i64 c17.into), (.sl (List.map eI c17.args)), (.sl (List.map eBlock c17.kids))]]⟩]) (v' := (.tup [])) [0, 1] go0 hb78 (hrec_impl_visitStep_2 gq18) rfl (by decide) rfl rfl (.raw rfl rfl (.raw rfl rfl .nil)) rfl rfl (.raw rfl rfl (.raw rfl rfl .nil)) .nil rfl rfl ?_
    refine AO.done (hK15 _ ?_)
    refine AW.regionO (by rfl) ?_
    refine ao_q (v := (i64 (Sh.w (t5 + 1)))) go0 rfl (aq_add rfl rfl) ?_
    refine ao_q (v := (i64 (Sh.w (t5 + 1)))) go0 rfl (aq_mv rfl) ?_
    exact AO.done (Exists.intro (Sh.w (t5 + 1), q18.1, q18.2) (And.intro h1 (by refine Wk.trans (Wk.permk (L := [(2, (.fn 81 [(.ptr 0 0 0 0), (.ptr 1 0 0 0)])), (3, (.ptr 2 0 0 0)), (11, (.sl (List.map eStep l4))), (12, (i64 (Sh.len l4))), (13, (i64 (Sh.w (t5 + 1))))]) (st' := [⟨0, 4, 1, [[(.bool q18.1)]]⟩, ⟨0, 3, 1, [[(i64 q18.2)]]⟩, ⟨0, 29, 2, [[(.sl (List.map eStep p0.steps)), (i64 p0.result)]]⟩]) (st1 := [⟨0, 4, 1, [[(.bool q18.1)]]⟩, ⟨0, 3, 1, [[(i64 q18.2)]]⟩, ⟨0, 29, 2, [[(.sl (List.map eStep p0.steps)), (i64 p0.result)]]⟩]) [0, 1, 2] rfl (.raw rfl rfl (.raw rfl rfl .nil)) (by decide) rfl rfl (.raw rfl rfl (.raw rfl rfl (.raw rfl rfl .nil))) ⟨.rfl, .rfl, .rfl, .rfl, .rfl, trivial⟩) ?_; exact Wk.to (L := [(2, (.fn 81 [(.ptr 0 0 0 0), (.ptr 1 0 0 0)])), (3, (.ptr 2 0 0 0)), (11, (.sl (List.map eStep l4))), (12, (i64 (Sh.len l4))), (13, (i64 (Sh.w (t5 + 1))))]) ⟨.rfl, .rfl, .rfl, .rfl, .rfl, trivial⟩)))
  · replace h1 := Sh.ite_f b14 h1
    exact AW.exit (M10 f6 f7 (Sh.some_eq h1).symm _ (Wk.to (L := [(2, (.fn 81 [(.ptr 0 0 0 0), (.ptr 1 0 0 0)])), (3, (.ptr 2 0 0 0))]) ⟨.rfl, .rfl, trivial⟩))

set_option maxRecDepth 100000 in
set_option maxHeartbeats 4000000 in
theorem impl_visitStep_2_B_ok {N : Nat} {rec_impl_visitStep_2 : Bool → Int → Step → Option (Bool × Int)} (hrec_impl_visitStep_2 : ∀ {s0_0 : Bool} {s1_0 : Int} {p0 : Step} {r : Bool × Int}, rec_impl_visitStep_2 s0_0 s1_0 p0 = some r → ACalls Try.prog 78 [(.agg [(i64 p0.op), (i64 p0.num), (i64 p0.into), (.sl (List.map eI p0.args)), (.sl (List.map eBlock p0.kids))]), (.fn 81 [(.ptr 0 0 0 0), (.ptr 1 0 0 0)])] [⟨0, 4, 1, [[(.bool s0_0)]]⟩, ⟨0, 3, 1, [[(i64 s1_0)]]⟩] (fun v st => v = (.tup []) ∧ st = [⟨0, 4, 1, [[(.bool r.1)]]⟩, ⟨0, 3, 1, [[(i64 r.2)]]⟩])) {s0_0 : Bool} {s1_0 : Int} {p0 : Step} {r : Bool × Int} (h0 : impl_visitStep_2_B N rec_impl_visitStep_2 s0_0 s1_0 p0 = some r) : ACalls Try.prog 78 [(.agg [(i64 p0.op), (i64 p0.num), (i64 p0.into), (.sl (List.map eI p0.args)), (.sl (List.map eBlock p0.kids))]), (.fn 81 [(.ptr 0 0 0 0), (.ptr 1 0 0 0)])] [⟨0, 4, 1, [[(.bool s0_0)]]⟩, ⟨0, 3, 1, [[(i64 s1_0)]]⟩] (fun v st => v = (.tup []) ∧ st = [⟨0, 4, 1, [[(.bool r.1)]]⟩, ⟨0, 3, 1, [[(i64 r.2)]]⟩]) := by
  unfold impl_visitStep_2_B at h0
  refine ACalls.intro Try.func78 rfl (by show 2 ≤ 33; decide) ?_
  show AW _ 2 _ (aret _ 2 Try.f78 _) ⟨33, _, _⟩
  refine AW.weaken (Wk.to (L := [(0, (.agg [(i64 p0.op), (i64 p0.num), (i64 p0.into), (.sl (List.map eI p0.args)), (.sl (List.map eBlock p0.kids))])), (1, (.fn 81 [(.ptr 0 0 0 0), (.ptr 1 0 0 0)]))]) ⟨.rfl, .rfl, trivial⟩) ?_
  refine AW.seq fun K1 hK1 => ?_
  refine AW.regionO (by rfl) ?_
  refine ao_box (m := 2) (st' := [⟨0, 4, 1, [[(.bool s0_0)]]⟩, ⟨0, 3, 1, [[(i64 s1_0)]]⟩, ⟨0, 76, 5, [[(i64 p0.op), (i64 p0.num), (i64 p0.into), (.sl (List.map eI p0.args)), (.sl (List.map eBlock p0.kids))]]⟩]) go0 rfl rfl rfl rfl rfl ?_
  refine AO.done (hK1 _ ?_)
  refine AW.seq fun K2 hK2 => ?_
  refine AW.seq fun K3 hK3 => ?_
  refine AW.regionO (by rfl) ?_
  refine ao_q (v := (.ptr 2 0 0 0)) go0 rfl (aq_fap fi76_0 rfl rfl (show 0 + 0 ≤ 5 by decide) rfl) ?_
  refine ao_q (v := (i64 p0.op)) go0 rfl (aq_ldp ti3 rfl rfl rfl rfl) ?_
  obtain ⟨q4, gq4, h0⟩ := Sh.bind_some h0
  refine ao_call (v' := (.bool q4)) (st' := [⟨0, 4, 1, [[(.bool s0_0)]]⟩, ⟨0, 3, 1, [[(i64 s1_0)]]⟩, ⟨0, 76, 5, [[(i64 p0.op), (i64 p0.num), (i64 p0.into), (.sl (List.map eI p0.args)), (.sl (List.map eBlock p0.kids))]]⟩]) go0 hb119 (impl_isCounting_ok gq4) rfl rfl trivial rfl rfl ?_
  refine AO.done (hK3 _ ?_)
  refine AW.cond' (b := q4) rfl (fun b5 => ?_) (fun b5 => ?_)
  · replace h0 := Sh.ite_t b5 h0
    replace h0 := Sh.some_eq h0
    subst r
    exact AW.ret (Exists.intro _ (And.intro ((Wk.permk (L := []) (st' := [⟨0, 4, 1, [[(.bool s0_0)]]⟩, ⟨0, 3, 1, [[(i64 s1_0)]]⟩]) (st1 := [⟨0, 4, 1, [[(.bool s0_0)]]⟩, ⟨0, 3, 1, [[(i64 s1_0)]]⟩]) [0, 1] rfl (.raw rfl rfl (.raw rfl rfl .nil)) (by decide) rfl rfl (.raw rfl rfl (.raw rfl rfl .nil)) trivial).trans (Wk.to (L := []) trivial)) (And.intro rfl rfl)))
  · replace h0 := Sh.ite_f b5 h0
    refine AW.skip (hK2 _ ?_)
    refine AW.seq fun K6 hK6 => ?_
    refine AW.seq fun K7 hK7 => ?_
    refine AW.regionO (by rfl) ?_
    refine ao_q (v := (.ptr 2 0 0 3)) go0 rfl (aq_fap fi76_3 rfl rfl (show 0 + 3 ≤ 5 by decide) rfl) ?_
    refine ao_q (v := (.sl (List.map eI p0.args))) go0 rfl (aq_ldp ti34 rfl rfl rfl rfl) ?_
    refine ao_q (v := (i64 (Sh.len p0.args))) go0 rfl (aq_lens sl34 rfl) ?_
    refine ao_q (v := (i64 0)) go0 rfl (aq_mv rfl) ?_
    refine AO.done (hK7 _ ?_)
    obtain ⟨o11, h1, h0⟩ := Sh.bind_some h0
    have M11 : ∀ (f10 : Bool), o11 = f10 → ∀ s, Wk 2 s ⟨33, envL [(1, (.fn 81 [(.ptr 0 0 0 0), (.ptr 1 0 0 0)])), (2, (.ptr 2 0 0 0))], [⟨0, 4, 1, [[(.bool f10)]]⟩, ⟨0, 3, 1, [[(i64 s1_0)]]⟩, ⟨0, 76, 5, [[(i64 p0.op), (i64 p0.num), (i64 p0.into), (.sl (List.map eI p0.args)), (.sl (List.map eBlock p0.kids))]]⟩]⟩ → K6 s := by
      intro f10 hq s hw
      subst o11
      try dsimp only at h0
      refine hK6 _ (AW.weaken hw ?_)
      refine AW.seq fun K12 hK12 => ?_
      refine AW.regionO (by rfl) ?_
      refine ao_q (v := (.ptr 2 0 0 4)) go0 rfl (aq_fap fi76_4 rfl rfl (show 0 + 4 ≤ 5 by decide) rfl) ?_
      refine ao_q (v := (.sl (List.map eBlock p0.kids))) go0 rfl (aq_ldp ti74 rfl rfl rfl rfl) ?_
      refine ao_q (v := (i64 (Sh.len p0.kids))) go0 rfl (aq_lens sl74 rfl) ?_
      refine ao_q (v := (i64 0)) go0 rfl (aq_mv rfl) ?_
      refine AO.done (hK12 _ ?_)
      refine AW.fin fun K13 hK13 => ?_
      obtain ⟨o19, h1, h0⟩ := Sh.bind_some h0
      have M19 : ∀ (f17 : Bool) (f18 : Int), o19 = (f17, f18) → ∀ s, Wk 2 s ⟨33, envL [], [⟨0, 4, 1, [[(.bool f17)]]⟩, ⟨0, 3, 1, [[(i64 f18)]]⟩]⟩ → K13 s := by
        intro f17 f18 hq s hw
        subst o19
        try dsimp only at h0
        refine hK13 _ ?_
        replace h0 := Sh.some_eq h0
        subst r
        exact Exists.intro _ (And.intro (hw.trans (Wk.to (L := []) trivial)) (And.intro rfl rfl))
      refine AW.block (AW.loopF (σ := Int × Bool × Int) (fun n v => impl_visitStep_2_B_L2 N p0 rec_impl_visitStep_2 n v.1 v.2.1 v.2.2 = some o19) (fun (t14, f15, f16) => ⟨33, envL [(1, (.fn 81 [(.ptr 0 0 0 0), (.ptr 1 0 0 0)])), (23, (.sl (List.map eBlock p0.kids))), (24, (i64 (Sh.len p0.kids))), (25, (i64 t14))], [⟨0, 4, 1, [[(.bool f15)]]⟩, ⟨0, 3, 1, [[(i64 f16)]]⟩]⟩) N (0, f10, s1_0) h1 (by refine Wk.trans (Wk.permk (L := [(1, (.fn 81 [(.ptr 0 0 0 0), (.ptr 1 0 0 0)])), (23, (.sl (List.map eBlock p0.kids))), (24, (i64 (Sh.len p0.kids))), (25, (i64 0))]) (st' := [⟨0, 4, 1, [[(.bool f10)]]⟩, ⟨0, 3, 1, [[(i64 s1_0)]]⟩]) (st1 := [⟨0, 4, 1, [[(.bool f10)]]⟩, ⟨0, 3, 1, [[(i64 s1_0)]]⟩]) [0, 1] rfl (.raw rfl rfl (.raw rfl rfl .nil)) (by decide) rfl rfl (.raw rfl rfl (.raw rfl rfl .nil)) ⟨.rfl, .rfl, .rfl, .rfl, trivial⟩) ?_; exact Wk.to (L := [(1, (.fn 81 [(.ptr 0 0 0 0), (.ptr 1 0 0 0)])), (23, (.sl (List.map eBlock p0.kids))), (24, (i64 (Sh.len p0.kids))), (25, (i64 0))]) ⟨.rfl, .rfl, .rfl, .rfl, trivial⟩) (fun _ hv => by rw [impl_visitStep_2_B_L2] at hv; cases hv) ?_)
      rintro n ⟨t14, f15, f16⟩ h1
      try dsimp only at h1 ⊢
      rw [impl_visitStep_2_B_L2] at h1
      refine AW.seq fun K20 hK20 => ?_
      refine AW.regionO (by rfl) ?_
      refine ao_q (v := (.bool (decide (t14 < (Sh.len p0.kids))))) go0 rfl (aq_lt rfl rfl) ?_
      refine AO.done (hK20 _ ?_)
      refine AW.seq fun K21 hK21 => ?_
      refine AW.cond' (b := decide (t14 < (Sh.len p0.kids))) rfl (fun b22 => ?_) (fun b22 => ?_)
      · replace h1 := Sh.ite_t b22 h1
        refine AW.skip (hK21 _ ?_)
        refine AW.seq fun K23 hK23 => ?_
        refine AW.block ?_
        refine AW.seq fun K24 hK24 => ?_
        refine AW.regionO (by rfl) ?_
        obtain ⟨c25, gc25, h1⟩ := Sh.bind_some h1
        refine ao_q (v := (.iptr (eBlock c25) 0)) go0 rfl (aq_ixs ei74 rfl rfl gc25 rfl) ?_
        refine ao_q (v := (.agg [(.sl (List.map eStep c25.steps)), (i64 c25.result)])) go0 rfl (aq_ldia ti29 rfl (show 0 + 2 ≤ 2 by decide) rfl) ?_
        refine ao_alloc (m := 2) (st' := [⟨0, 4, 1, [[(.bool f15)]]⟩, ⟨0, 3, 1, [[(i64 f16)]]⟩, ⟨0, 29, 2, [[.zc, (i64 0)]]⟩]) go0 zi29 rfl rfl ?_
        refine ao_str (st' := [⟨0, 4, 1, [[(.bool f15)]]⟩, ⟨0, 3, 1, [[(i64 f16)]]⟩, ⟨0, 29, 2, [[(.sl (List.map eStep c25.steps)), (i64 c25.result)]]⟩]) go0 ti29 rfl rfl rfl rfl rfl rfl (show 0 + 2 ≤ 2 by decide) rfl ?_
        refine AO.done (hK24 _ ?_)
        refine AW.regionO (by rfl) ?_
        refine ao_q (v := (.agg [(.sl (List.map eStep c25.steps)), (i64 c25.result)])) go0 rfl (aq_ldpa ti29 rfl rfl rfl (show 0 + 2 ≤ 2 by decide) rfl) ?_
        refine ao_q (v := (.fn 81 [(.ptr 0 0 0 0), (.ptr 1 0 0 0)])) go0 rfl (aq_mv rfl) ?_
        obtain ⟨q26, gq26, h1⟩ := Sh.bind_some h1
        refine ao_calls (rowsP := [⟨0, 4, 1, [[(.bool f15)]]⟩, ⟨0, 3, 1, [[(i64 f16)]]⟩]) (rows0 := [⟨0, 4, 1, [[(.bool f15)]]⟩, ⟨0, 3, 1, [[(i64 f16)]]⟩]) (rows1 := [⟨0, 4, 1, [[(.bool q26.1)]]⟩, ⟨0, 3, 1, [[(i64 q26.2)]]⟩]) (rows2 := []) (rows1' := [⟨0, 4, 1, [[(.bool q26.1)]]⟩, ⟨0, 3, 1, [[(i64 q26.2)]]⟩]) (rows2' := []) (st' := [⟨0, 4, 1, [[(.bool q26.1)]]⟩, ⟨0, 3, 1, [[(i64 q26.2)]]⟩, ⟨0, 29, 2, [[(.sl (List.map eStep c25.steps)), (i64 c25.result)]]⟩]) (v' := (.tup [])) [0, 1] go0 hb47 (impl_visitUses_2_ok hrec_impl_visitStep_2 gq26) rfl (by decide) rfl rfl (.raw rfl rfl (.raw rfl rfl .nil)) rfl rfl (.raw rfl rfl (.raw rfl rfl .nil)) .nil rfl rfl ?_
        refine AO.done (hK23 _ ?_)
        refine AW.regionO (by rfl) ?_
        refine ao_q (v := (i64 (Sh.w (t14 + 1)))) go0 rfl (aq_add rfl rfl) ?_
        refine ao_q (v := (i64 (Sh.w (t14 + 1)))) go0 rfl (aq_mv rfl) ?_
        exact AO.done (Exists.intro (Sh.w (t14 + 1), q26.1, q26.2) (And.intro h1 (by refine Wk.trans (Wk.permk (L := [(1, (.fn 81 [(.ptr 0 0 0 0), (.ptr 1 0 0 0)])), (23, (.sl (List.map eBlock p0.kids))), (24, (i64 (Sh.len p0.kids))), (25, (i64 (Sh.w (t14 + 1))))]) (st' := [⟨0, 4, 1, [[(.bool q26.1)]]⟩, ⟨0, 3, 1, [[(i64 q26.2)]]⟩]) (st1 := [⟨0, 4, 1, [[(.bool q26.1)]]⟩, ⟨0, 3, 1, [[(i64 q26.2)]]⟩]) [0, 1] rfl (.raw rfl rfl (.raw rfl rfl .nil)) (by decide) rfl rfl (.raw rfl rfl (.raw rfl rfl .nil)) ⟨.rfl, .rfl, .rfl, .rfl, trivial⟩) ?_; exact Wk.to (L := [(1, (.fn 81 [(.ptr 0 0 0 0), (.ptr 1 0 0 0)])), (23, (.sl (List.map eBlock p0.kids))), (24, (i64 (Sh.len p0.kids))), (25, (i64 (Sh.w (t14 + 1))))]) ⟨.rfl, .rfl, .rfl, .rfl, trivial⟩)))
      · replace h1 := Sh.ite_f b22 h1
        exact AW.exit (M19 f15 f16 (Sh.some_eq h1).symm _ (Wk.to (L := []) trivial))
    refine AW.block (AW.loopF (σ := Int × Bool) (fun n v => impl_visitStep_2_B_L1 s1_0 p0 n v.1 v.2 = some o11) (fun (t8, f9) => ⟨33, envL [(1, (.fn 81 [(.ptr 0 0 0 0), (.ptr 1 0 0 0)])), (2, (.ptr 2 0 0 0)), (12, (.sl (List.map eI p0.args))), (13, (i64 (Sh.len p0.args))), (14, (i64 t8))], [⟨0, 4, 1, [[(.bool f9)]]⟩, ⟨0, 3, 1, [[(i64 s1_0)]]⟩, ⟨0, 76, 5, [[(i64 p0.op), (i64 p0.num), (i64 p0.into), (.sl (List.map eI p0.args)), (.sl (List.map eBlock p0.kids))]]⟩]⟩) N (0, s0_0) h1 (Wk.to (L := [(1, (.fn 81 [(.ptr 0 0 0 0), (.ptr 1 0 0 0)])), (2, (.ptr 2 0 0 0)), (12, (.sl (List.map eI p0.args))), (13, (i64 (Sh.len p0.args))), (14, (i64 0))]) ⟨.rfl, .rfl, .rfl, .rfl, .rfl, trivial⟩) (fun _ hv => by rw [impl_visitStep_2_B_L1] at hv; cases hv) ?_)
    rintro n ⟨t8, f9⟩ h1
    try dsimp only at h1 ⊢
    rw [impl_visitStep_2_B_L1] at h1
    refine AW.seq fun K27 hK27 => ?_
    refine AW.regionO (by rfl) ?_
    refine ao_q (v := (.bool (decide (t8 < (Sh.len p0.args))))) go0 rfl (aq_lt rfl rfl) ?_
    refine AO.done (hK27 _ ?_)
    refine AW.seq fun K28 hK28 => ?_
    refine AW.cond' (b := decide (t8 < (Sh.len p0.args))) rfl (fun b29 => ?_) (fun b29 => ?_)
    · replace h1 := Sh.ite_t b29 h1
      refine AW.skip (hK28 _ ?_)
      refine AW.seq fun K30 hK30 => ?_
      refine AW.block ?_
      refine AW.seq fun K31 hK31 => ?_
      refine AW.regionO (by rfl) ?_
      obtain ⟨c32, gc32, h1⟩ := Sh.bind_some h1
      refine ao_q (v := (.iptr (eI c32) 0)) go0 rfl (aq_ixs ei34 rfl rfl gc32 rfl) ?_
      refine ao_q (v := (i64 c32)) go0 rfl (aq_ldi ti3 rfl rfl) ?_
      refine ao_q (v := (i64 c32)) go0 rfl (aq_as rfl) ?_
      refine AO.done (hK31 _ ?_)
      refine AW.regionO (by rfl) ?_
      refine ao_q (v := (.fn 81 [(.ptr 0 0 0 0), (.ptr 1 0 0 0)])) go0 rfl (aq_mv rfl) ?_
      refine ao_q (v := (i64 c32)) go0 rfl (aq_mv rfl) ?_
      obtain ⟨q33, gq33, h1⟩ := Sh.bind_some h1
      refine ao_callst (rowsP := [⟨0, 4, 1, [[(.bool f9)]]⟩, ⟨0, 3, 1, [[(i64 s1_0)]]⟩]) (rows0 := [⟨0, 4, 1, [[(.bool f9)]]⟩, ⟨0, 3, 1, [[(i64 s1_0)]]⟩]) (rows1 := [⟨0, 4, 1, [[(.bool q33)]]⟩, ⟨0, 3, 1, [[(i64 s1_0)]]⟩]) (rows2 := []) (rows1' := [⟨0, 4, 1, [[(.bool q33)]]⟩, ⟨0, 3, 1, [[(i64 s1_0)]]⟩]) (rows2' := []) (st' := [⟨0, 4, 1, [[(.bool q33)]]⟩, ⟨0, 3, 1, [[(i64 s1_0)]]⟩, ⟨0, 76, 5, [[(i64 p0.op), (i64 p0.num), (i64 p0.into), (.sl (List.map eI p0.args)), (.sl (List.map eBlock p0.kids))]]⟩]) (v' := (.tup [])) [0, 1] go0 rfl hb81 (impl_stepUses_1_ok gq33) rfl (by decide) rfl rfl (.raw rfl rfl (.raw rfl rfl .nil)) rfl rfl (.raw rfl rfl (.raw rfl rfl .nil)) .nil rfl rfl ?_
      refine AO.done (hK30 _ ?_)
      refine AW.regionO (by rfl) ?_
      refine ao_q (v := (i64 (Sh.w (t8 + 1)))) go0 rfl (aq_add rfl rfl) ?_
      refine ao_q (v := (i64 (Sh.w (t8 + 1)))) go0 rfl (aq_mv rfl) ?_
      exact AO.done (Exists.intro (Sh.w (t8 + 1), q33) (And.intro h1 (Wk.to (L := [(1, (.fn 81 [(.ptr 0 0 0 0), (.ptr 1 0 0 0)])), (2, (.ptr 2 0 0 0)), (12, (.sl (List.map eI p0.args))), (13, (i64 (Sh.len p0.args))), (14, (i64 (Sh.w (t8 + 1))))]) ⟨.rfl, .rfl, .rfl, .rfl, .rfl, trivial⟩)))
    · replace h1 := Sh.ite_f b29 h1
      exact AW.exit (M11 f9 (Sh.some_eq h1).symm _ (Wk.to (L := [(1, (.fn 81 [(.ptr 0 0 0 0), (.ptr 1 0 0 0)])), (2, (.ptr 2 0 0 0))]) ⟨.rfl, .rfl, trivial⟩))

theorem impl_visitStep_2_F_ok {N : Nat} : ∀ (n : Nat), ∀ {s0_0 : Bool} {s1_0 : Int} {p0 : Step} {r : Bool × Int}, impl_visitStep_2_F N n s0_0 s1_0 p0 = some r → ACalls Try.prog 78 [(.agg [(i64 p0.op), (i64 p0.num), (i64 p0.into), (.sl (List.map eI p0.args)), (.sl (List.map eBlock p0.kids))]), (.fn 81 [(.ptr 0 0 0 0), (.ptr 1 0 0 0)])] [⟨0, 4, 1, [[(.bool s0_0)]]⟩, ⟨0, 3, 1, [[(i64 s1_0)]]⟩] (fun v st => v = (.tup []) ∧ st = [⟨0, 4, 1, [[(.bool r.1)]]⟩, ⟨0, 3, 1, [[(i64 r.2)]]⟩]) := by
  intro n
  induction n with
  | zero => intro s0_0 s1_0 p0 r h0; cases h0
  | succ n ih =>
    intro s0_0 s1_0 p0 r h0
    rw [impl_visitStep_2_F] at h0
    exact impl_visitStep_2_B_ok (fun h => ih h) h0
theorem impl_visitStep_2_ok {N : Nat} : ∀ {s0_0 : Bool} {s1_0 : Int} {p0 : Step} {r : Bool × Int}, impl_visitStep_2 N s0_0 s1_0 p0 = some r → ACalls Try.prog 78 [(.agg [(i64 p0.op), (i64 p0.num), (i64 p0.into), (.sl (List.map eI p0.args)), (.sl (List.map eBlock p0.kids))]), (.fn 81 [(.ptr 0 0 0 0), (.ptr 1 0 0 0)])] [⟨0, 4, 1, [[(.bool s0_0)]]⟩, ⟨0, 3, 1, [[(i64 s1_0)]]⟩] (fun v st => v = (.tup []) ∧ st = [⟨0, 4, 1, [[(.bool r.1)]]⟩, ⟨0, 3, 1, [[(i64 r.2)]]⟩]) := by
  intro s0_0 s1_0 p0 r h0
  exact impl_visitStep_2_F_ok N h0

set_option maxRecDepth 100000 in
set_option maxHeartbeats 4000000 in
theorem impl_stepUses_ok {N : Nat} {p0 : Step} {p1 : Int} {r : Bool} (h0 : impl_stepUses N p0 p1 = some r) : ACalls Try.prog 51 [(.agg [(i64 p0.op), (i64 p0.num), (i64 p0.into), (.sl (List.map eI p0.args)), (.sl (List.map eBlock p0.kids))]), (i64 p1)] [] (fun v st => v = (.bool r) ∧ st = []) := by
  unfold impl_stepUses at h0
  refine ACalls.intro Try.func51 rfl (by show 2 ≤ 10; decide) ?_
  show AW _ 0 _ (aret _ 0 Try.f51 _) ⟨10, _, _⟩
  refine AW.weaken (Wk.to (L := [(0, (.agg [(i64 p0.op), (i64 p0.num), (i64 p0.into), (.sl (List.map eI p0.args)), (.sl (List.map eBlock p0.kids))])), (1, (i64 p1))]) ⟨.rfl, .rfl, trivial⟩) ?_
  refine AW.seq fun K1 hK1 => ?_
  refine AW.regionO (by rfl) ?_
  refine ao_box (m := 0) (st' := [⟨0, 76, 5, [[(i64 p0.op), (i64 p0.num), (i64 p0.into), (.sl (List.map eI p0.args)), (.sl (List.map eBlock p0.kids))]]⟩]) go0 rfl rfl rfl rfl rfl ?_
  refine ao_box (m := 1) (st' := [⟨0, 76, 5, [[(i64 p0.op), (i64 p0.num), (i64 p0.into), (.sl (List.map eI p0.args)), (.sl (List.map eBlock p0.kids))]]⟩, ⟨0, 3, 1, [[(i64 p1)]]⟩]) go0 rfl rfl rfl rfl rfl ?_
  refine ao_q (v := (.bool false)) go0 rfl (aq_as rfl) ?_
  refine AO.done (hK1 _ ?_)
  refine AW.seq fun K2 hK2 => ?_
  refine AW.regionO (by rfl) ?_
  refine ao_alloc (m := 2) (st' := [⟨0, 76, 5, [[(i64 p0.op), (i64 p0.num), (i64 p0.into), (.sl (List.map eI p0.args)), (.sl (List.map eBlock p0.kids))]]⟩, ⟨0, 3, 1, [[(i64 p1)]]⟩, ⟨0, 4, 1, [[(.bool false)]]⟩]) go0 zi4 rfl rfl ?_
  refine ao_str (st' := [⟨0, 76, 5, [[(i64 p0.op), (i64 p0.num), (i64 p0.into), (.sl (List.map eI p0.args)), (.sl (List.map eBlock p0.kids))]]⟩, ⟨0, 3, 1, [[(i64 p1)]]⟩, ⟨0, 4, 1, [[(.bool false)]]⟩]) go0 ti4 rfl rfl rfl rfl rfl rfl (show 0 + 1 ≤ 1 by decide) rfl ?_
  refine AO.done (hK2 _ ?_)
  refine AW.seq fun K3 hK3 => ?_
  refine AW.regionO (by rfl) ?_
  refine ao_q (v := (.agg [(i64 p0.op), (i64 p0.num), (i64 p0.into), (.sl (List.map eI p0.args)), (.sl (List.map eBlock p0.kids))])) go0 rfl (aq_ldpa ti76 rfl rfl rfl (show 0 + 5 ≤ 5 by decide) rfl) ?_
  refine ao_q (v := (.fn 81 [(.ptr 2 0 0 0), (.ptr 1 0 0 0)])) go0 rfl (aq_fn rfl) ?_
  obtain ⟨q4, gq4, h0⟩ := Sh.bind_some h0
  refine ao_calls (rowsP := [⟨0, 4, 1, [[(.bool false)]]⟩, ⟨0, 3, 1, [[(i64 p1)]]⟩]) (rows0 := [⟨0, 4, 1, [[(.bool false)]]⟩, ⟨0, 3, 1, [[(i64 p1)]]⟩]) (rows1 := [⟨0, 4, 1, [[(.bool q4.1)]]⟩, ⟨0, 3, 1, [[(i64 q4.2)]]⟩]) (rows2 := []) (rows1' := [⟨0, 4, 1, [[(.bool q4.1)]]⟩, ⟨0, 3, 1, [[(i64 q4.2)]]⟩]) (rows2' := []) (st' := [⟨0, 76, 5, [[(i64 p0.op), (i64 p0.num), (i64 p0.into), (.sl (List.map eI p0.args)), (.sl (List.map eBlock p0.kids))]]⟩, ⟨0, 3, 1, [[(i64 q4.2)]]⟩, ⟨0, 4, 1, [[(.bool q4.1)]]⟩]) (v' := (.tup [])) [2, 1] go0 hb78 (impl_visitStep_2_ok gq4) rfl (by decide) rfl rfl (.raw rfl rfl (.raw rfl rfl .nil)) rfl rfl (.raw rfl rfl (.raw rfl rfl .nil)) .nil rfl rfl ?_
  refine AO.done (hK3 _ ?_)
  refine AW.seq fun K5 hK5 => ?_
  refine AW.regionO (by rfl) ?_
  refine ao_q (v := (.bool q4.1)) go0 rfl (aq_ldp ti4 rfl rfl rfl rfl) ?_
  refine ao_q (v := (.bool q4.1)) go0 rfl (aq_as rfl) ?_
  refine AO.done (hK5 _ ?_)
  replace h0 := Sh.some_eq h0
  subst r
  exact AW.ret (Exists.intro _ (And.intro ((Wk.permk (L := [(4, (.bool q4.1))]) (st' := []) (st1 := []) [] rfl .nil (by decide) rfl rfl .nil ⟨.rfl, trivial⟩).trans (Wk.to (L := [(4, (.bool q4.1))]) ⟨.rfl, trivial⟩)) (And.intro rfl rfl)))

set_option maxRecDepth 100000 in
set_option maxHeartbeats 4000000 in
theorem impl_LastUse_ok {N : Nat} {p0 : Block} {p1 : Int} {r : Int} (h0 : impl_LastUse N p0 p1 = some r) : ACalls Try.prog 18 [(.agg [(.sl (List.map eStep p0.steps)), (i64 p0.result)]), (i64 p1)] [] (fun v st => v = (i64 r) ∧ st = []) := by
  unfold impl_LastUse at h0
  refine ACalls.intro Try.func18 rfl (by show 2 ≤ 34; decide) ?_
  show AW _ 0 _ (aret _ 0 Try.f18 _) ⟨34, _, _⟩
  refine AW.weaken (Wk.to (L := [(0, (.agg [(.sl (List.map eStep p0.steps)), (i64 p0.result)])), (1, (i64 p1))]) ⟨.rfl, .rfl, trivial⟩) ?_
  refine AW.seq fun K1 hK1 => ?_
  refine AW.regionO (by rfl) ?_
  refine ao_box (m := 0) (st' := [⟨0, 29, 2, [[(.sl (List.map eStep p0.steps)), (i64 p0.result)]]⟩]) go0 rfl rfl rfl rfl rfl ?_
  refine ao_q (v := (i64 0)) go0 rfl (aq_as rfl) ?_
  refine AO.done (hK1 _ ?_)
  refine AW.seq fun K2 hK2 => ?_
  refine AW.block ?_
  refine AW.seq fun K3 hK3 => ?_
  refine AW.regionO (by rfl) ?_
  refine ao_q (v := (.agg [(.sl (List.map eStep p0.steps)), (i64 p0.result)])) go0 rfl (aq_ldpa ti29 rfl rfl rfl (show 0 + 2 ≤ 2 by decide) rfl) ?_
  obtain ⟨q4, gq4, h0⟩ := Sh.bind_some h0
  refine ao_call (v' := (i64 q4)) (st' := [⟨0, 29, 2, [[(.sl (List.map eStep p0.steps)), (i64 p0.result)]]⟩]) go0 hb46 (impl_StepsOf_ok gq4) rfl rfl trivial rfl rfl ?_
  refine ao_q (v := (.bool (decide (q4 < 0)))) go0 rfl (aq_lt rfl rfl) ?_
  refine ao_q (v := (.bool (decide (q4 < 0)))) go0 rfl (aq_as rfl) ?_
  refine AO.done (hK3 _ ?_)
  refine AW.cond' (b := decide (q4 < 0)) rfl (fun b5 => ?_) (fun b5 => ?_)
  · replace h0 := Sh.ite_t b5 h0
    refine AW.seq fun K6 hK6 => ?_
    refine AW.regionO (by rfl) ?_
    refine ao_q (v := (i64 (-1))) go0 rfl (aq_as rfl) ?_
    refine AO.done (hK6 _ ?_)
    replace h0 := Sh.some_eq h0
    subst r
    exact AW.ret (Exists.intro _ (And.intro ((Wk.permk (L := [(4, (i64 (-1)))]) (st' := []) (st1 := []) [] rfl .nil (by decide) rfl rfl .nil ⟨.rfl, trivial⟩).trans (Wk.to (L := [(4, (i64 (-1)))]) ⟨.rfl, trivial⟩)) (And.intro rfl rfl)))
  · replace h0 := Sh.ite_f b5 h0
    refine AW.seq fun K7 hK7 => ?_
    refine AW.regionO (by rfl) ?_
    refine ao_q (v := (.ptr 0 0 0 1)) go0 rfl (aq_fap fi29_1 rfl rfl (show 0 + 1 ≤ 2 by decide) rfl) ?_
    refine ao_q (v := (i64 p0.result)) go0 rfl (aq_ldp ti3 rfl rfl rfl rfl) ?_
    refine ao_q (v := (i64 p1)) go0 rfl (aq_mv rfl) ?_
    refine ao_q (v := (.bool (decide (p0.result = p1)))) go0 rfl (aq_eq rfl rfl) ?_
    refine ao_q (v := (.bool (decide (p0.result = p1)))) go0 rfl (aq_as rfl) ?_
    refine AO.done (hK7 _ ?_)
    refine AW.cond' (b := decide (p0.result = p1)) rfl (fun b8 => ?_) (fun b8 => ?_)
    · replace h0 := Sh.ite_t b8 h0
      refine AW.seq fun K9 hK9 => ?_
      refine AW.regionO (by rfl) ?_
      refine ao_q (v := (.ptr 0 0 0 0)) go0 rfl (aq_fap fi29_0 rfl rfl (show 0 + 0 ≤ 2 by decide) rfl) ?_
      refine ao_q (v := (.sl (List.map eStep p0.steps))) go0 rfl (aq_ldp ti27 rfl rfl rfl rfl) ?_
      refine ao_q (v := (i64 (Sh.len p0.steps))) go0 rfl (aq_lens sl27 rfl) ?_
      refine ao_q (v := (i64 (Sh.len p0.steps))) go0 rfl (aq_as rfl) ?_
      refine AO.done (hK9 _ ?_)
      replace h0 := Sh.some_eq h0
      subst r
      exact AW.ret (Exists.intro _ (And.intro ((Wk.permk (L := [(4, (i64 (Sh.len p0.steps)))]) (st' := []) (st1 := []) [] rfl .nil (by decide) rfl rfl .nil ⟨.rfl, trivial⟩).trans (Wk.to (L := [(4, (i64 (Sh.len p0.steps)))]) ⟨.rfl, trivial⟩)) (And.intro rfl rfl)))
    · replace h0 := Sh.ite_f b8 h0
      refine AW.skip (hK2 _ ?_)
      refine AW.seq fun K10 hK10 => ?_
      refine AW.seq fun K11 hK11 => ?_
      refine AW.regionO (by rfl) ?_
      refine ao_q (v := (.ptr 0 0 0 0)) go0 rfl (aq_fap fi29_0 rfl rfl (show 0 + 0 ≤ 2 by decide) rfl) ?_
      refine ao_q (v := (.sl (List.map eStep p0.steps))) go0 rfl (aq_ldp ti27 rfl rfl rfl rfl) ?_
      refine ao_q (v := (i64 (Sh.len p0.steps))) go0 rfl (aq_lens sl27 rfl) ?_
      refine ao_q (v := (i64 (Sh.w ((Sh.len p0.steps) - 1)))) go0 rfl (aq_sub rfl rfl) ?_
      refine ao_q (v := (i64 (Sh.w ((Sh.len p0.steps) - 1)))) go0 rfl (aq_as rfl) ?_
      refine AO.done (hK11 _ ?_)
      obtain ⟨o13, h1, h0⟩ := Sh.cont_some h0
      have M13 : ∀ (_ : Unit), o13 = Sum.inr () → ∀ s, Wk 0 s ⟨34, envL [], []⟩ → K10 s := by
        intro _ hq s hw
        subst o13
        try dsimp only at h0
        refine hK10 _ (AW.weaken hw ?_)
        refine AW.seq fun K14 hK14 => ?_
        refine AW.regionO (by rfl) ?_
        refine ao_q (v := (i64 (-1))) go0 rfl (aq_as rfl) ?_
        refine AO.done (hK14 _ ?_)
        replace h0 := Sh.some_eq h0
        subst r
        exact AW.ret (Exists.intro _ (And.intro (Wk.to (L := [(4, (i64 (-1)))]) ⟨.rfl, trivial⟩) (And.intro rfl rfl)))
      refine AW.block (AW.loopF (σ := Int) (fun n v => impl_LastUse_L1 N p0 p1 n v = some o13) (fun k12 => ⟨34, envL [(1, (i64 p1)), (2, (.ptr 0 0 0 0)), (5, (i64 k12))], [⟨0, 29, 2, [[(.sl (List.map eStep p0.steps)), (i64 p0.result)]]⟩]⟩) N (Sh.w ((Sh.len p0.steps) - 1)) h1 (Wk.to (L := [(1, (i64 p1)), (2, (.ptr 0 0 0 0)), (5, (i64 (Sh.w ((Sh.len p0.steps) - 1))))]) ⟨.rfl, .rfl, .rfl, trivial⟩) (fun _ hv => by rw [impl_LastUse_L1] at hv; cases hv) ?_)
      rintro n k12 h1
      try dsimp only at h1 ⊢
      rw [impl_LastUse_L1] at h1
      refine AW.seq fun K15 hK15 => ?_
      refine AW.seq fun K16 hK16 => ?_
      refine AW.regionO (by rfl) ?_
      refine ao_q (v := (i64 k12)) go0 rfl (aq_mv rfl) ?_
      refine ao_q (v := (.bool (decide (0 ≤ k12)))) go0 rfl (aq_ge rfl rfl) ?_
      refine AO.done (hK16 _ ?_)
      refine AW.cond' (b := decide (0 ≤ k12)) rfl (fun b17 => ?_) (fun b17 => ?_)
      · replace h1 := Sh.ite_t b17 h1
        refine AW.skip (hK15 _ ?_)
        refine AW.seq fun K18 hK18 => ?_
        refine AW.block ?_
        refine AW.seq fun K19 hK19 => ?_
        refine AW.regionO (by rfl) ?_
        refine ao_q (v := (.ptr 0 0 0 0)) go0 rfl (aq_fap fi29_0 rfl rfl (show 0 + 0 ≤ 2 by decide) rfl) ?_
        refine ao_q (v := (.sl (List.map eStep p0.steps))) go0 rfl (aq_ldp ti27 rfl rfl rfl rfl) ?_
        refine ao_q (v := (i64 k12)) go0 rfl (aq_mv rfl) ?_
        obtain ⟨c20, gc20, h1⟩ := Sh.bind_some h1
        refine ao_q (v := (.iptr [(i64 c20.op), (i64 c20.num), (i64 c20.into), (.sl (List.map eI c20.args)), (.sl (List.map eBlock c20.kids))] 0)) go0 rfl (aq_ixsE ei27 rfl rfl gc20 (eStep_eq _) rfl) ?_
        refine ao_q (v := (.agg [(i64 c20.op), (i64 c20.num), (i64 c20.into), (.sl (List.map eI c20.args)), (.sl (List.map eBlock c20.kids))])) go0 rfl (aq_ldia ti76 rfl (show 0 + 5 ≤ 5 by decide) rfl) ?_
        refine ao_q (v := (i64 p1)) go0 rfl (aq_mv rfl) ?_
        obtain ⟨q21, gq21, h1⟩ := Sh.bind_some h1
        refine ao_call (v' := (.bool q21)) (st' := [⟨0, 29, 2, [[(.sl (List.map eStep p0.steps)), (i64 p0.result)]]⟩]) go0 hb51 (impl_stepUses_ok gq21) rfl rfl trivial rfl rfl ?_
        refine AO.done (hK19 _ ?_)
        refine AW.cond' (b := q21) rfl (fun b22 => ?_) (fun b22 => ?_)
        · replace h1 := Sh.ite_t b22 h1
          refine AW.seq fun K23 hK23 => ?_
          refine AW.regionO (by rfl) ?_
          refine ao_q (v := (i64 k12)) go0 rfl (aq_mv rfl) ?_
          refine ao_q (v := (i64 k12)) go0 rfl (aq_as rfl) ?_
          refine AO.done (hK23 _ ?_)
          replace h1 := Sh.some_eq h1
          subst o13
          try dsimp only [id] at h0
          replace h0 := Sh.some_eq h0
          subst r
          exact AW.ret (Exists.intro _ (And.intro ((Wk.permk (L := [(4, (i64 k12))]) (st' := []) (st1 := []) [] rfl .nil (by decide) rfl rfl .nil ⟨.rfl, trivial⟩).trans (Wk.to (L := [(4, (i64 k12))]) ⟨.rfl, trivial⟩)) (And.intro rfl rfl)))
        · replace h1 := Sh.ite_f b22 h1
          refine AW.skip (hK18 _ ?_)
          refine AW.regionO (by rfl) ?_
          refine ao_q (v := (i64 k12)) go0 rfl (aq_mv rfl) ?_
          refine ao_q (v := (i64 (Sh.w (k12 - 1)))) go0 rfl (aq_sub rfl rfl) ?_
          refine ao_q (v := (i64 (Sh.w (k12 - 1)))) go0 rfl (aq_as rfl) ?_
          exact AO.done (Exists.intro (Sh.w (k12 - 1)) (And.intro h1 (Wk.to (L := [(1, (i64 p1)), (2, (.ptr 0 0 0 0)), (5, (i64 (Sh.w (k12 - 1))))]) ⟨.rfl, .rfl, .rfl, trivial⟩)))
      · replace h1 := Sh.ite_f b17 h1
        exact AW.exit (M13 () (Sh.some_eq h1).symm _ (by refine Wk.trans (Wk.permk (L := []) (st' := []) (st1 := []) [] rfl .nil (by decide) rfl rfl .nil trivial) ?_; exact Wk.to (L := []) trivial))

end Go.Proofs.Ytkmgpbngemdmoaa
