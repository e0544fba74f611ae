import Derived.Test.YtbdefffffmejhaaProg
import Derived.Test.YtbdefffffmejhaaIADefs
namespace Go.Proofs.Ytbdefffffmejhaa
open Go Go.Abs RC

theorem ai64 : allInfo Try.prog 64 = true := by kernel_rfl
theorem ai91 : allInfo Try.prog 91 = true := by kernel_rfl
theorem bi64 : finfos Try.prog 64 = some [(0, 1), (1, 1)] := by kernel_rfl
theorem bi91 : finfos Try.prog 91 = some [(0, 1), (1, 1), (2, 3)] := by kernel_rfl
theorem ei22 : einfo Try.prog 22 = some ⟨56, 3, 40, [.int .i64 0, .int .i64 0, .sl []]⟩ := by kernel_rfl
theorem ei23 : einfo Try.prog 23 = some ⟨60, 5, 88, [.sl [], .sl [], .int .i64 0, .int .i64 0, .sl []]⟩ := by kernel_rfl
theorem ei28 : einfo Try.prog 28 = some ⟨69, 3, 40, [.int .i64 0, .int .i64 0, .sl []]⟩ := by kernel_rfl
theorem ei29 : einfo Try.prog 29 = some ⟨47, 5, 88, [.sl [], .sl [], .int .i64 0, .int .i64 0, .sl []]⟩ := by kernel_rfl
theorem ei44 : einfo Try.prog 44 = some ⟨3, 1, 8, [.int .i64 0]⟩ := by kernel_rfl
theorem ei45 : einfo Try.prog 45 = some ⟨49, 6, 80, [.int .i64 0, .int .i64 0, .int .i64 0, .int .i64 0, .sl [], .sl []]⟩ := by kernel_rfl
theorem ei54 : einfo Try.prog 54 = some ⟨106, 1, 24, [.sl []]⟩ := by kernel_rfl
theorem ei58 : einfo Try.prog 58 = some ⟨108, 6, 80, [.int .i64 0, .int .i64 0, .int .i64 0, .int .i64 0, .sl [], .sl []]⟩ := by kernel_rfl
theorem ei62 : einfo Try.prog 62 = some ⟨91, 5, 72, [.sl [], .int .i64 0, .int .i64 0, .int .i64 0, .sl []]⟩ := by kernel_rfl
theorem ei67 : einfo Try.prog 67 = some ⟨112, 1, 24, [.sl []]⟩ := by kernel_rfl
theorem fi106_0 : finfo Try.prog 106 0 = some 0 := by kernel_rfl
theorem fi108_0 : finfo Try.prog 108 0 = some 0 := by kernel_rfl
theorem fi108_1 : finfo Try.prog 108 1 = some 1 := by kernel_rfl
theorem fi108_2 : finfo Try.prog 108 2 = some 2 := by kernel_rfl
theorem fi108_3 : finfo Try.prog 108 3 = some 3 := by kernel_rfl
theorem fi108_4 : finfo Try.prog 108 4 = some 4 := by kernel_rfl
theorem fi108_5 : finfo Try.prog 108 5 = some 5 := by kernel_rfl
theorem fi112_0 : finfo Try.prog 112 0 = some 0 := by kernel_rfl
theorem fi25_0 : finfo Try.prog 25 0 = some 0 := by kernel_rfl
theorem fi25_1 : finfo Try.prog 25 1 = some 1 := by kernel_rfl
theorem fi31_0 : finfo Try.prog 31 0 = some 0 := by kernel_rfl
theorem fi31_1 : finfo Try.prog 31 1 = some 1 := by kernel_rfl
theorem fi47_0 : finfo Try.prog 47 0 = some 0 := by kernel_rfl
theorem fi47_1 : finfo Try.prog 47 1 = some 1 := by kernel_rfl
theorem fi47_2 : finfo Try.prog 47 2 = some 2 := by kernel_rfl
theorem fi47_3 : finfo Try.prog 47 3 = some 3 := by kernel_rfl
theorem fi47_4 : finfo Try.prog 47 4 = some 4 := by kernel_rfl
theorem fi49_0 : finfo Try.prog 49 0 = some 0 := by kernel_rfl
theorem fi49_1 : finfo Try.prog 49 1 = some 1 := by kernel_rfl
theorem fi49_2 : finfo Try.prog 49 2 = some 2 := by kernel_rfl
theorem fi49_3 : finfo Try.prog 49 3 = some 3 := by kernel_rfl
theorem fi49_4 : finfo Try.prog 49 4 = some 4 := by kernel_rfl
theorem fi49_5 : finfo Try.prog 49 5 = some 5 := by kernel_rfl
theorem fi56_0 : finfo Try.prog 56 0 = some 0 := by kernel_rfl
theorem fi56_1 : finfo Try.prog 56 1 = some 1 := by kernel_rfl
theorem fi56_2 : finfo Try.prog 56 2 = some 2 := by kernel_rfl
theorem fi60_0 : finfo Try.prog 60 0 = some 0 := by kernel_rfl
theorem fi60_1 : finfo Try.prog 60 1 = some 1 := by kernel_rfl
theorem fi60_2 : finfo Try.prog 60 2 = some 2 := by kernel_rfl
theorem fi60_3 : finfo Try.prog 60 3 = some 3 := by kernel_rfl
theorem fi60_4 : finfo Try.prog 60 4 = some 4 := by kernel_rfl
theorem fi64_0 : finfo Try.prog 64 0 = some 0 := by kernel_rfl
theorem fi64_1 : finfo Try.prog 64 1 = some 1 := by kernel_rfl
theorem fi69_0 : finfo Try.prog 69 0 = some 0 := by kernel_rfl
theorem fi69_1 : finfo Try.prog 69 1 = some 1 := by kernel_rfl
theorem fi69_2 : finfo Try.prog 69 2 = some 2 := by kernel_rfl
theorem fi91_0 : finfo Try.prog 91 0 = some 0 := by kernel_rfl
theorem fi91_1 : finfo Try.prog 91 1 = some 1 := by kernel_rfl
theorem hb10 : hasBody Try.prog 10 = true := by kernel_rfl
theorem hb12 : hasBody Try.prog 12 = true := by kernel_rfl
theorem hb13 : hasBody Try.prog 13 = true := by kernel_rfl
theorem hb18 : hasBody Try.prog 18 = true := by kernel_rfl
theorem hb19 : hasBody Try.prog 19 = true := by kernel_rfl
theorem hb23 : hasBody Try.prog 23 = true := by kernel_rfl
theorem hb24 : hasBody Try.prog 24 = true := by kernel_rfl
theorem hb34 : hasBody Try.prog 34 = true := by kernel_rfl
theorem hb35 : hasBody Try.prog 35 = true := by kernel_rfl
theorem hb36 : hasBody Try.prog 36 = true := by kernel_rfl
theorem hb37 : hasBody Try.prog 37 = true := by kernel_rfl
theorem hb38 : hasBody Try.prog 38 = true := by kernel_rfl
theorem hb39 : hasBody Try.prog 39 = true := by kernel_rfl
theorem hb42 : hasBody Try.prog 42 = true := by kernel_rfl
theorem hb43 : hasBody Try.prog 43 = true := by kernel_rfl
theorem hb44 : hasBody Try.prog 44 = true := by kernel_rfl
theorem hb55 : hasBody Try.prog 55 = true := by kernel_rfl
theorem hb56 : hasBody Try.prog 56 = true := by kernel_rfl
theorem hb57 : hasBody Try.prog 57 = true := by kernel_rfl
theorem hb64 : hasBody Try.prog 64 = true := by kernel_rfl
theorem hb65 : hasBody Try.prog 65 = true := by kernel_rfl
theorem hb69 : hasBody Try.prog 69 = true := by kernel_rfl
theorem hb9 : hasBody Try.prog 9 = true := by kernel_rfl
theorem sl22 : isSliceT Try.prog 22 = true := by kernel_rfl
theorem sl23 : isSliceT Try.prog 23 = true := by kernel_rfl
theorem sl28 : isSliceT Try.prog 28 = true := by kernel_rfl
theorem sl29 : isSliceT Try.prog 29 = true := by kernel_rfl
theorem sl44 : isSliceT Try.prog 44 = true := by kernel_rfl
theorem sl54 : isSliceT Try.prog 54 = true := by kernel_rfl
theorem sl58 : isSliceT Try.prog 58 = true := by kernel_rfl
theorem sl62 : isSliceT Try.prog 62 = true := by kernel_rfl
theorem sl67 : isSliceT Try.prog 67 = true := by kernel_rfl
theorem ti106 : tinfo Try.prog 106 = some (true, 1) := by kernel_rfl
theorem ti108 : tinfo Try.prog 108 = some (true, 6) := by kernel_rfl
theorem ti112 : tinfo Try.prog 112 = some (true, 1) := by kernel_rfl
theorem ti22 : tinfo Try.prog 22 = some (false, 1) := by kernel_rfl
theorem ti23 : tinfo Try.prog 23 = some (false, 1) := by kernel_rfl
theorem ti28 : tinfo Try.prog 28 = some (false, 1) := by kernel_rfl
theorem ti29 : tinfo Try.prog 29 = some (false, 1) := by kernel_rfl
theorem ti3 : tinfo Try.prog 3 = some (false, 1) := by kernel_rfl
theorem ti31 : tinfo Try.prog 31 = some (true, 2) := by kernel_rfl
theorem ti44 : tinfo Try.prog 44 = some (false, 1) := by kernel_rfl
theorem ti45 : tinfo Try.prog 45 = some (false, 1) := by kernel_rfl
theorem ti47 : tinfo Try.prog 47 = some (true, 5) := by kernel_rfl
theorem ti49 : tinfo Try.prog 49 = some (true, 6) := by kernel_rfl
theorem ti54 : tinfo Try.prog 54 = some (false, 1) := by kernel_rfl
theorem ti56 : tinfo Try.prog 56 = some (true, 3) := by kernel_rfl
theorem ti58 : tinfo Try.prog 58 = some (false, 1) := by kernel_rfl
theorem ti60 : tinfo Try.prog 60 = some (true, 5) := by kernel_rfl
theorem ti62 : tinfo Try.prog 62 = some (false, 1) := by kernel_rfl
theorem ti64 : tinfo Try.prog 64 = some (true, 2) := by kernel_rfl
theorem ti67 : tinfo Try.prog 67 = some (false, 1) := by kernel_rfl
theorem ti69 : tinfo Try.prog 69 = some (true, 3) := by kernel_rfl
theorem ti91 : tinfo Try.prog 91 = some (true, 5) := by kernel_rfl
theorem zi112 : zinfo Try.prog 112 = some [.zc] := by kernel_rfl
theorem zi31 : zinfo Try.prog 31 = some [.zc, .zc] := by kernel_rfl
theorem zi47 : zinfo Try.prog 47 = some [.zc, .zc, .int .i64 0, .int .i64 0, .zc] := by kernel_rfl
theorem zi49 : zinfo Try.prog 49 = some [.int .i64 0, .int .i64 0, .int .i64 0, .int .i64 0, .zc, .zc] := by kernel_rfl
theorem zi64 : zinfo Try.prog 64 = some [.zc, .zc] := by kernel_rfl
theorem zi69 : zinfo Try.prog 69 = some [.int .i64 0, .int .i64 0, .zc] := by kernel_rfl
theorem zi91 : zinfo Try.prog 91 = some [.zc, .int .i64 0, .int .i64 0, .int .i64 0, .zc] := by kernel_rfl

set_option maxRecDepth 100000 in
set_option maxHeartbeats 4000000 in
theorem laws_szIntS_ok {p0 : (List Int)} {p1 : Int} {r : Int} (h0 : laws_szIntS p0 p1 = some r) : ACalls Try.prog 35 [(.sl (List.map eI p0)), (i64 p1)] [] (fun v st => v = (i64 r) ∧ st = []) := by
  unfold laws_szIntS at h0
  refine ACalls.intro Try.func35 rfl (by show 2 ≤ 12; decide) ?_
  show AW _ 0 _ (aret _ 0 Try.f35 _) ⟨12, _, _⟩
  refine AW.weaken (Wk.to (L := [(0, (.sl (List.map eI p0))), (1, (i64 p1))]) ⟨.rfl, .rfl, trivial⟩) ?_
  refine AW.seq fun K1 hK1 => ?_
  refine AW.regionO (by rfl) ?_
  refine ao_q (v := (i64 0)) go0 rfl (aq_as rfl) ?_
  refine AO.done (hK1 _ ?_)
  refine AW.seq fun K2 hK2 => ?_
  refine AW.regionO (by rfl) ?_
  refine ao_q (v := (i64 p1)) go0 rfl (aq_mv rfl) ?_
  refine ao_q (v := (.sl (List.map eI p0))) go0 rfl (aq_mv rfl) ?_
  refine ao_q (v := (i64 (Sh.len p0))) go0 rfl (aq_lens sl44 rfl) ?_
  refine ao_q (v := (i64 (Sh.w (p1 - (Sh.len p0))))) go0 rfl (aq_sub rfl rfl) ?_
  refine ao_q (v := (i64 (Sh.w (p1 - (Sh.len p0))))) go0 rfl (aq_as rfl) ?_
  refine AO.done (hK2 _ ?_)
  refine AW.seq fun K3 hK3 => ?_
  refine AW.seq fun K4 hK4 => ?_
  refine AW.regionO (by rfl) ?_
  refine ao_q (v := (i64 (Sh.w (p1 - (Sh.len p0))))) go0 rfl (aq_mv rfl) ?_
  refine ao_q (v := (.bool (decide ((Sh.w (p1 - (Sh.len p0))) < 0)))) go0 rfl (aq_lt rfl rfl) ?_
  refine AO.done (hK4 _ ?_)
  refine AW.cond' (b := decide ((Sh.w (p1 - (Sh.len p0))) < 0)) rfl (fun b5 => ?_) (fun b5 => ?_)
  · replace h0 := Sh.ite_t b5 h0
    refine AW.seq fun K6 hK6 => ?_
    refine AW.regionO (by rfl) ?_
    refine ao_q (v := (i64 (-1))) go0 rfl (aq_as rfl) ?_
    refine AO.done (hK6 _ ?_)
    replace h0 := Sh.some_eq h0
    subst r
    exact AW.ret (Exists.intro _ (And.intro (Wk.to (L := [(4, (i64 (-1)))]) ⟨.rfl, trivial⟩) (And.intro rfl rfl)))
  · replace h0 := Sh.ite_f b5 h0
    refine AW.skip (hK3 _ ?_)
    refine AW.seq fun K7 hK7 => ?_
    refine AW.regionO (by rfl) ?_
    refine ao_q (v := (i64 (Sh.w (p1 - (Sh.len p0))))) go0 rfl (aq_mv rfl) ?_
    refine ao_q (v := (i64 (Sh.w (p1 - (Sh.len p0))))) go0 rfl (aq_as rfl) ?_
    refine AO.done (hK7 _ ?_)
    replace h0 := Sh.some_eq h0
    subst r
    exact AW.ret (Exists.intro _ (And.intro (Wk.to (L := [(4, (i64 (Sh.w (p1 - (Sh.len p0)))))]) ⟨.rfl, trivial⟩) (And.intro rfl rfl)))

set_option maxRecDepth 100000 in
set_option maxHeartbeats 4000000 in
theorem laws_szCon_ok {p0 : RCon} {p1 : Int} {r : Int} (h0 : laws_szCon p0 p1 = some r) : ACalls Try.prog 55 [(.agg [(.sl (List.map eI p0.fields))]), (i64 p1)] [] (fun v st => v = (i64 r) ∧ st = []) := by
  unfold laws_szCon at h0
  refine ACalls.intro Try.func55 rfl (by show 2 ≤ 12; decide) ?_
  show AW _ 0 _ (aret _ 0 Try.f55 _) ⟨12, _, _⟩
  refine AW.weaken (Wk.to (L := [(0, (.agg [(.sl (List.map eI p0.fields))])), (1, (i64 p1))]) ⟨.rfl, .rfl, trivial⟩) ?_
  refine AW.seq fun K1 hK1 => ?_
  refine AW.regionO (by rfl) ?_
  refine ao_box (m := 0) (st' := [⟨0, 106, 1, [[(.sl (List.map eI p0.fields))]]⟩]) go0 rfl rfl rfl rfl rfl ?_
  refine ao_q (v := (i64 0)) go0 rfl (aq_as rfl) ?_
  refine AO.done (hK1 _ ?_)
  refine AW.seq fun K2 hK2 => ?_
  refine AW.regionO (by rfl) ?_
  refine ao_q (v := (.ptr 0 0 0 0)) go0 rfl (aq_fap fi106_0 rfl rfl (show 0 + 0 ≤ 1 by decide) rfl) ?_
  refine ao_q (v := (.sl (List.map eI p0.fields))) go0 rfl (aq_ldp ti44 rfl rfl rfl rfl) ?_
  refine ao_q (v := (i64 p1)) go0 rfl (aq_mv rfl) ?_
  obtain ⟨q3, gq3, h0⟩ := Sh.bind_some h0
  refine ao_call (v' := (i64 q3)) (st' := [⟨0, 106, 1, [[(.sl (List.map eI p0.fields))]]⟩]) go0 hb35 (laws_szIntS_ok gq3) rfl rfl trivial rfl rfl ?_
  refine ao_q (v := (i64 q3)) go0 rfl (aq_as rfl) ?_
  refine AO.done (hK2 _ ?_)
  refine AW.seq fun K4 hK4 => ?_
  refine AW.seq fun K5 hK5 => ?_
  refine AW.regionO (by rfl) ?_
  refine ao_q (v := (i64 q3)) go0 rfl (aq_mv rfl) ?_
  refine ao_q (v := (.bool (decide (q3 < 0)))) go0 rfl (aq_lt rfl rfl) ?_
  refine AO.done (hK5 _ ?_)
  refine AW.cond' (b := decide (q3 < 0)) rfl (fun b6 => ?_) (fun b6 => ?_)
  · replace h0 := Sh.ite_t b6 h0
    refine AW.seq fun K7 hK7 => ?_
    refine AW.regionO (by rfl) ?_
    refine ao_q (v := (i64 (-1))) go0 rfl (aq_as rfl) ?_
    refine AO.done (hK7 _ ?_)
    replace h0 := Sh.some_eq h0
    subst r
    exact AW.ret (Exists.intro _ (And.intro ((Wk.permk (L := [(4, (i64 (-1)))]) (st' := []) (st1 := []) [] rfl .nil (by decide) rfl rfl .nil ⟨.rfl, trivial⟩).trans (Wk.to (L := [(4, (i64 (-1)))]) ⟨.rfl, trivial⟩)) (And.intro rfl rfl)))
  · replace h0 := Sh.ite_f b6 h0
    refine AW.skip (hK4 _ ?_)
    refine AW.seq fun K8 hK8 => ?_
    refine AW.regionO (by rfl) ?_
    refine ao_q (v := (i64 q3)) go0 rfl (aq_mv rfl) ?_
    refine ao_q (v := (i64 q3)) go0 rfl (aq_as rfl) ?_
    refine AO.done (hK8 _ ?_)
    replace h0 := Sh.some_eq h0
    subst r
    exact AW.ret (Exists.intro _ (And.intro ((Wk.permk (L := [(4, (i64 q3))]) (st' := []) (st1 := []) [] rfl .nil (by decide) rfl rfl .nil ⟨.rfl, trivial⟩).trans (Wk.to (L := [(4, (i64 q3))]) ⟨.rfl, trivial⟩)) (And.intro rfl rfl)))

set_option maxRecDepth 100000 in
set_option maxHeartbeats 4000000 in
theorem laws_szConS_ok {N : Nat} {p0 : (List RCon)} {p1 : Int} {r : Int} (h0 : laws_szConS N p0 p1 = some r) : ACalls Try.prog 34 [(.sl (List.map eRCon p0)), (i64 p1)] [] (fun v st => v = (i64 r) ∧ st = []) := by
  unfold laws_szConS at h0
  refine ACalls.intro Try.func34 rfl (by show 2 ≤ 27; decide) ?_
  show AW _ 0 _ (aret _ 0 Try.f34 _) ⟨27, _, _⟩
  refine AW.weaken (Wk.to (L := [(0, (.sl (List.map eRCon p0))), (1, (i64 p1))]) ⟨.rfl, .rfl, trivial⟩) ?_
  refine AW.seq fun K1 hK1 => ?_
  refine AW.regionO (by rfl) ?_
  refine ao_q (v := (i64 0)) go0 rfl (aq_as rfl) ?_
  refine AO.done (hK1 _ ?_)
  refine AW.seq fun K2 hK2 => ?_
  refine AW.regionO (by rfl) ?_
  refine ao_q (v := (i64 p1)) go0 rfl (aq_mv rfl) ?_
  refine ao_q (v := (.sl (List.map eRCon p0))) go0 rfl (aq_mv rfl) ?_
  refine ao_q (v := (i64 (Sh.len p0))) go0 rfl (aq_lens sl54 rfl) ?_
  refine ao_q (v := (i64 (Sh.w (p1 - (Sh.len p0))))) go0 rfl (aq_sub rfl rfl) ?_
  refine ao_q (v := (i64 (Sh.w (p1 - (Sh.len p0))))) go0 rfl (aq_as rfl) ?_
  refine AO.done (hK2 _ ?_)
  refine AW.seq fun K3 hK3 => ?_
  refine AW.seq fun K4 hK4 => ?_
  refine AW.regionO (by rfl) ?_
  refine ao_q (v := (i64 (Sh.w (p1 - (Sh.len p0))))) go0 rfl (aq_mv rfl) ?_
  refine ao_q (v := (.bool (decide ((Sh.w (p1 - (Sh.len p0))) < 0)))) go0 rfl (aq_lt rfl rfl) ?_
  refine AO.done (hK4 _ ?_)
  refine AW.cond' (b := decide ((Sh.w (p1 - (Sh.len p0))) < 0)) rfl (fun b5 => ?_) (fun b5 => ?_)
  · replace h0 := Sh.ite_t b5 h0
    refine AW.seq fun K6 hK6 => ?_
    refine AW.regionO (by rfl) ?_
    refine ao_q (v := (i64 (-1))) go0 rfl (aq_as rfl) ?_
    refine AO.done (hK6 _ ?_)
    replace h0 := Sh.some_eq h0
    subst r
    exact AW.ret (Exists.intro _ (And.intro (Wk.to (L := [(4, (i64 (-1)))]) ⟨.rfl, trivial⟩) (And.intro rfl rfl)))
  · replace h0 := Sh.ite_f b5 h0
    refine AW.skip (hK3 _ ?_)
    refine AW.seq fun K7 hK7 => ?_
    refine AW.seq fun K8 hK8 => ?_
    refine AW.regionO (by rfl) ?_
    refine ao_q (v := (i64 0)) go0 rfl (aq_as rfl) ?_
    refine AO.done (hK8 _ ?_)
    obtain ⟨o12, h1, h0⟩ := Sh.cont_some h0
    have M12 : ∀ (left11 : Int), o12 = Sum.inr left11 → ∀ s, Wk 0 s ⟨27, envL [(1, (i64 left11))], []⟩ → K7 s := by
      intro left11 hq s hw
      subst o12
      try dsimp only at h0
      refine hK7 _ (AW.weaken hw ?_)
      refine AW.seq fun K13 hK13 => ?_
      refine AW.regionO (by rfl) ?_
      refine ao_q (v := (i64 left11)) go0 rfl (aq_mv rfl) ?_
      refine ao_q (v := (i64 left11)) go0 rfl (aq_as rfl) ?_
      refine AO.done (hK13 _ ?_)
      replace h0 := Sh.some_eq h0
      subst r
      exact AW.ret (Exists.intro _ (And.intro (Wk.to (L := [(4, (i64 left11))]) ⟨.rfl, trivial⟩) (And.intro rfl rfl)))
    refine AW.block (AW.loopF (σ := Int × Int) (fun n v => laws_szConS_L1 p0 n v.1 v.2 = some o12) (fun (left9, i10) => ⟨27, envL [(0, (.sl (List.map eRCon p0))), (1, (i64 left9)), (5, (i64 i10))], []⟩) N (Sh.w (p1 - (Sh.len p0)), 0) h1 (Wk.to (L := [(0, (.sl (List.map eRCon p0))), (1, (i64 (Sh.w (p1 - (Sh.len p0))))), (5, (i64 0))]) ⟨.rfl, .rfl, .rfl, trivial⟩) (fun _ hv => by rw [laws_szConS_L1] at hv; cases hv) ?_)
    rintro n ⟨left9, i10⟩ h1
    try dsimp only at h1 ⊢
    rw [laws_szConS_L1] at h1
    refine AW.seq fun K14 hK14 => ?_
    refine AW.seq fun K15 hK15 => ?_
    refine AW.regionO (by rfl) ?_
    refine ao_q (v := (i64 i10)) go0 rfl (aq_mv rfl) ?_
    refine ao_q (v := (.sl (List.map eRCon p0))) go0 rfl (aq_mv rfl) ?_
    refine ao_q (v := (i64 (Sh.len p0))) go0 rfl (aq_lens sl54 rfl) ?_
    refine ao_q (v := (.bool (decide (i10 < (Sh.len p0))))) go0 rfl (aq_lt rfl rfl) ?_
    refine AO.done (hK15 _ ?_)
    refine AW.cond' (b := decide (i10 < (Sh.len p0))) rfl (fun b16 => ?_) (fun b16 => ?_)
    · replace h1 := Sh.ite_t b16 h1
      refine AW.skip (hK14 _ ?_)
      refine AW.seq fun K17 hK17 => ?_
      refine AW.block ?_
      refine AW.seq fun K18 hK18 => ?_
      refine AW.regionO (by rfl) ?_
      refine ao_q (v := (.sl (List.map eRCon p0))) go0 rfl (aq_mv rfl) ?_
      refine ao_q (v := (i64 i10)) go0 rfl (aq_mv rfl) ?_
      obtain ⟨c19, gc19, h1⟩ := Sh.bind_some h1
      refine ao_q (v := (.iptr (eRCon c19) 0)) go0 rfl (aq_ixs ei54 rfl rfl gc19 rfl) ?_
      refine ao_q (v := (.agg [(.sl (List.map eI c19.fields))])) go0 rfl (aq_ldia ti106 rfl (show 0 + 1 ≤ 1 by decide) rfl) ?_
      refine ao_q (v := (i64 left9)) go0 rfl (aq_mv rfl) ?_
      obtain ⟨q20, gq20, h1⟩ := Sh.bind_some h1
      refine ao_call (v' := (i64 q20)) (st' := []) go0 hb55 (laws_szCon_ok gq20) rfl rfl trivial rfl rfl ?_
      refine ao_q (v := (i64 q20)) go0 rfl (aq_as rfl) ?_
      refine AO.done (hK18 _ ?_)
      refine AW.seq fun K21 hK21 => ?_
      refine AW.regionO (by rfl) ?_
      refine ao_q (v := (i64 q20)) go0 rfl (aq_mv rfl) ?_
      refine ao_q (v := (.bool (decide (q20 < 0)))) go0 rfl (aq_lt rfl rfl) ?_
      refine AO.done (hK21 _ ?_)
      refine AW.cond' (b := decide (q20 < 0)) rfl (fun b22 => ?_) (fun b22 => ?_)
      · replace h1 := Sh.ite_t b22 h1
        refine AW.seq fun K23 hK23 => ?_
        refine AW.regionO (by rfl) ?_
        refine ao_q (v := (i64 (-1))) go0 rfl (aq_as rfl) ?_
        refine AO.done (hK23 _ ?_)
        replace h1 := Sh.some_eq h1
        subst o12
        try dsimp only [id] at h0
        replace h0 := Sh.some_eq h0
        subst r
        exact AW.ret (Exists.intro _ (And.intro (Wk.to (L := [(4, (i64 (-1)))]) ⟨.rfl, trivial⟩) (And.intro rfl rfl)))
      · replace h1 := Sh.ite_f b22 h1
        refine AW.skip (hK17 _ ?_)
        refine AW.regionO (by rfl) ?_
        refine ao_q (v := (i64 i10)) go0 rfl (aq_mv rfl) ?_
        refine ao_q (v := (i64 (Sh.w (i10 + 1)))) go0 rfl (aq_add rfl rfl) ?_
        refine ao_q (v := (i64 (Sh.w (i10 + 1)))) go0 rfl (aq_as rfl) ?_
        exact AO.done (Exists.intro (q20, Sh.w (i10 + 1)) (And.intro h1 (Wk.to (L := [(0, (.sl (List.map eRCon p0))), (1, (i64 q20)), (5, (i64 (Sh.w (i10 + 1))))]) ⟨.rfl, .rfl, .rfl, trivial⟩)))
    · replace h1 := Sh.ite_f b16 h1
      exact AW.exit (M12 left9 (Sh.some_eq h1).symm _ (Wk.to (L := [(1, (i64 left9))]) ⟨.rfl, trivial⟩))

set_option maxRecDepth 100000 in
set_option maxHeartbeats 4000000 in
theorem laws_szDecl_ok {N : Nat} {p0 : RDecl} {p1 : Int} {r : Int} (h0 : laws_szDecl N p0 p1 = some r) : ACalls Try.prog 18 [(.agg [(i64 p0.from_), (i64 p0.to), (.sl (List.map eRCon p0.cons))]), (i64 p1)] [] (fun v st => v = (i64 r) ∧ st = []) := by
  unfold laws_szDecl at h0
  refine ACalls.intro Try.func18 rfl (by show 2 ≤ 12; decide) ?_
  show AW _ 0 _ (aret _ 0 Try.f18 _) ⟨12, _, _⟩
  refine AW.weaken (Wk.to (L := [(0, (.agg [(i64 p0.from_), (i64 p0.to), (.sl (List.map eRCon p0.cons))])), (1, (i64 p1))]) ⟨.rfl, .rfl, trivial⟩) ?_
  refine AW.seq fun K1 hK1 => ?_
  refine AW.regionO (by rfl) ?_
  refine ao_box (m := 0) (st' := [⟨0, 56, 3, [[(i64 p0.from_), (i64 p0.to), (.sl (List.map eRCon p0.cons))]]⟩]) go0 rfl rfl rfl rfl rfl ?_
  refine ao_q (v := (i64 0)) go0 rfl (aq_as rfl) ?_
  refine AO.done (hK1 _ ?_)
  refine AW.seq fun K2 hK2 => ?_
  refine AW.regionO (by rfl) ?_
  refine ao_q (v := (.ptr 0 0 0 2)) go0 rfl (aq_fap fi56_2 rfl rfl (show 0 + 2 ≤ 3 by decide) rfl) ?_
  refine ao_q (v := (.sl (List.map eRCon p0.cons))) go0 rfl (aq_ldp ti54 rfl rfl rfl rfl) ?_
  refine ao_q (v := (i64 p1)) go0 rfl (aq_mv rfl) ?_
  obtain ⟨q3, gq3, h0⟩ := Sh.bind_some h0
  refine ao_call (v' := (i64 q3)) (st' := [⟨0, 56, 3, [[(i64 p0.from_), (i64 p0.to), (.sl (List.map eRCon p0.cons))]]⟩]) go0 hb34 (laws_szConS_ok gq3) rfl rfl trivial rfl rfl ?_
  refine ao_q (v := (i64 q3)) go0 rfl (aq_as rfl) ?_
  refine AO.done (hK2 _ ?_)
  refine AW.seq fun K4 hK4 => ?_
  refine AW.seq fun K5 hK5 => ?_
  refine AW.regionO (by rfl) ?_
  refine ao_q (v := (i64 q3)) go0 rfl (aq_mv rfl) ?_
  refine ao_q (v := (.bool (decide (q3 < 0)))) go0 rfl (aq_lt rfl rfl) ?_
  refine AO.done (hK5 _ ?_)
  refine AW.cond' (b := decide (q3 < 0)) rfl (fun b6 => ?_) (fun b6 => ?_)
  · replace h0 := Sh.ite_t b6 h0
    refine AW.seq fun K7 hK7 => ?_
    refine AW.regionO (by rfl) ?_
    refine ao_q (v := (i64 (-1))) go0 rfl (aq_as rfl) ?_
    refine AO.done (hK7 _ ?_)
    replace h0 := Sh.some_eq h0
    subst r
    exact AW.ret (Exists.intro _ (And.intro ((Wk.permk (L := [(4, (i64 (-1)))]) (st' := []) (st1 := []) [] rfl .nil (by decide) rfl rfl .nil ⟨.rfl, trivial⟩).trans (Wk.to (L := [(4, (i64 (-1)))]) ⟨.rfl, trivial⟩)) (And.intro rfl rfl)))
  · replace h0 := Sh.ite_f b6 h0
    refine AW.skip (hK4 _ ?_)
    refine AW.seq fun K8 hK8 => ?_
    refine AW.regionO (by rfl) ?_
    refine ao_q (v := (i64 q3)) go0 rfl (aq_mv rfl) ?_
    refine ao_q (v := (i64 q3)) go0 rfl (aq_as rfl) ?_
    refine AO.done (hK8 _ ?_)
    replace h0 := Sh.some_eq h0
    subst r
    exact AW.ret (Exists.intro _ (And.intro ((Wk.permk (L := [(4, (i64 q3))]) (st' := []) (st1 := []) [] rfl .nil (by decide) rfl rfl .nil ⟨.rfl, trivial⟩).trans (Wk.to (L := [(4, (i64 q3))]) ⟨.rfl, trivial⟩)) (And.intro rfl rfl)))

set_option maxRecDepth 100000 in
set_option maxHeartbeats 4000000 in
theorem laws_szDeclS_ok {N : Nat} {p0 : (List RDecl)} {p1 : Int} {r : Int} (h0 : laws_szDeclS N p0 p1 = some r) : ACalls Try.prog 9 [(.sl (List.map eRDecl p0)), (i64 p1)] [] (fun v st => v = (i64 r) ∧ st = []) := by
  unfold laws_szDeclS at h0
  refine ACalls.intro Try.func9 rfl (by show 2 ≤ 27; decide) ?_
  show AW _ 0 _ (aret _ 0 Try.f9 _) ⟨27, _, _⟩
  refine AW.weaken (Wk.to (L := [(0, (.sl (List.map eRDecl p0))), (1, (i64 p1))]) ⟨.rfl, .rfl, trivial⟩) ?_
  refine AW.seq fun K1 hK1 => ?_
  refine AW.regionO (by rfl) ?_
  refine ao_q (v := (i64 0)) go0 rfl (aq_as rfl) ?_
  refine AO.done (hK1 _ ?_)
  refine AW.seq fun K2 hK2 => ?_
  refine AW.regionO (by rfl) ?_
  refine ao_q (v := (i64 p1)) go0 rfl (aq_mv rfl) ?_
  refine ao_q (v := (.sl (List.map eRDecl p0))) go0 rfl (aq_mv rfl) ?_
  refine ao_q (v := (i64 (Sh.len p0))) go0 rfl (aq_lens sl22 rfl) ?_
  refine ao_q (v := (i64 (Sh.w (p1 - (Sh.len p0))))) go0 rfl (aq_sub rfl rfl) ?_
  refine ao_q (v := (i64 (Sh.w (p1 - (Sh.len p0))))) go0 rfl (aq_as rfl) ?_
  refine AO.done (hK2 _ ?_)
  refine AW.seq fun K3 hK3 => ?_
  refine AW.seq fun K4 hK4 => ?_
  refine AW.regionO (by rfl) ?_
  refine ao_q (v := (i64 (Sh.w (p1 - (Sh.len p0))))) go0 rfl (aq_mv rfl) ?_
  refine ao_q (v := (.bool (decide ((Sh.w (p1 - (Sh.len p0))) < 0)))) go0 rfl (aq_lt rfl rfl) ?_
  refine AO.done (hK4 _ ?_)
  refine AW.cond' (b := decide ((Sh.w (p1 - (Sh.len p0))) < 0)) rfl (fun b5 => ?_) (fun b5 => ?_)
  · replace h0 := Sh.ite_t b5 h0
    refine AW.seq fun K6 hK6 => ?_
    refine AW.regionO (by rfl) ?_
    refine ao_q (v := (i64 (-1))) go0 rfl (aq_as rfl) ?_
    refine AO.done (hK6 _ ?_)
    replace h0 := Sh.some_eq h0
    subst r
    exact AW.ret (Exists.intro _ (And.intro (Wk.to (L := [(4, (i64 (-1)))]) ⟨.rfl, trivial⟩) (And.intro rfl rfl)))
  · replace h0 := Sh.ite_f b5 h0
    refine AW.skip (hK3 _ ?_)
    refine AW.seq fun K7 hK7 => ?_
    refine AW.seq fun K8 hK8 => ?_
    refine AW.regionO (by rfl) ?_
    refine ao_q (v := (i64 0)) go0 rfl (aq_as rfl) ?_
    refine AO.done (hK8 _ ?_)
    obtain ⟨o12, h1, h0⟩ := Sh.cont_some h0
    have M12 : ∀ (left11 : Int), o12 = Sum.inr left11 → ∀ s, Wk 0 s ⟨27, envL [(1, (i64 left11))], []⟩ → K7 s := by
      intro left11 hq s hw
      subst o12
      try dsimp only at h0
      refine hK7 _ (AW.weaken hw ?_)
      refine AW.seq fun K13 hK13 => ?_
      refine AW.regionO (by rfl) ?_
      refine ao_q (v := (i64 left11)) go0 rfl (aq_mv rfl) ?_
      refine ao_q (v := (i64 left11)) go0 rfl (aq_as rfl) ?_
      refine AO.done (hK13 _ ?_)
      replace h0 := Sh.some_eq h0
      subst r
      exact AW.ret (Exists.intro _ (And.intro (Wk.to (L := [(4, (i64 left11))]) ⟨.rfl, trivial⟩) (And.intro rfl rfl)))
    refine AW.block (AW.loopF (σ := Int × Int) (fun n v => laws_szDeclS_L1 N p0 n v.1 v.2 = some o12) (fun (left9, i10) => ⟨27, envL [(0, (.sl (List.map eRDecl p0))), (1, (i64 left9)), (5, (i64 i10))], []⟩) N (Sh.w (p1 - (Sh.len p0)), 0) h1 (Wk.to (L := [(0, (.sl (List.map eRDecl p0))), (1, (i64 (Sh.w (p1 - (Sh.len p0))))), (5, (i64 0))]) ⟨.rfl, .rfl, .rfl, trivial⟩) (fun _ hv => by rw [laws_szDeclS_L1] at hv; cases hv) ?_)
    rintro n ⟨left9, i10⟩ h1
    try dsimp only at h1 ⊢
    rw [laws_szDeclS_L1] at h1
    refine AW.seq fun K14 hK14 => ?_
    refine AW.seq fun K15 hK15 => ?_
    refine AW.regionO (by rfl) ?_
    refine ao_q (v := (i64 i10)) go0 rfl (aq_mv rfl) ?_
    refine ao_q (v := (.sl (List.map eRDecl p0))) go0 rfl (aq_mv rfl) ?_
    refine ao_q (v := (i64 (Sh.len p0))) go0 rfl (aq_lens sl22 rfl) ?_
    refine ao_q (v := (.bool (decide (i10 < (Sh.len p0))))) go0 rfl (aq_lt rfl rfl) ?_
    refine AO.done (hK15 _ ?_)
    refine AW.cond' (b := decide (i10 < (Sh.len p0))) rfl (fun b16 => ?_) (fun b16 => ?_)
    · replace h1 := Sh.ite_t b16 h1
      refine AW.skip (hK14 _ ?_)
      refine AW.seq fun K17 hK17 => ?_
      refine AW.block ?_
      refine AW.seq fun K18 hK18 => ?_
      refine AW.regionO (by rfl) ?_
      refine ao_q (v := (.sl (List.map eRDecl p0))) go0 rfl (aq_mv rfl) ?_
      refine ao_q (v := (i64 i10)) go0 rfl (aq_mv rfl) ?_
      obtain ⟨c19, gc19, h1⟩ := Sh.bind_some h1
      refine ao_q (v := (.iptr (eRDecl c19) 0)) go0 rfl (aq_ixs ei22 rfl rfl gc19 rfl) ?_
      refine ao_q (v := (.agg [(i64 c19.from_), (i64 c19.to), (.sl (List.map eRCon c19.cons))])) go0 rfl (aq_ldia ti56 rfl (show 0 + 3 ≤ 3 by decide) rfl) ?_
      refine ao_q (v := (i64 left9)) go0 rfl (aq_mv rfl) ?_
      obtain ⟨q20, gq20, h1⟩ := Sh.bind_some h1
      refine ao_call (v' := (i64 q20)) (st' := []) go0 hb18 (laws_szDecl_ok gq20) rfl rfl trivial rfl rfl ?_
      refine ao_q (v := (i64 q20)) go0 rfl (aq_as rfl) ?_
      refine AO.done (hK18 _ ?_)
      refine AW.seq fun K21 hK21 => ?_
      refine AW.regionO (by rfl) ?_
      refine ao_q (v := (i64 q20)) go0 rfl (aq_mv rfl) ?_
      refine ao_q (v := (.bool (decide (q20 < 0)))) go0 rfl (aq_lt rfl rfl) ?_
      refine AO.done (hK21 _ ?_)
      refine AW.cond' (b := decide (q20 < 0)) rfl (fun b22 => ?_) (fun b22 => ?_)
      · replace h1 := Sh.ite_t b22 h1
        refine AW.seq fun K23 hK23 => ?_
        refine AW.regionO (by rfl) ?_
        refine ao_q (v := (i64 (-1))) go0 rfl (aq_as rfl) ?_
        refine AO.done (hK23 _ ?_)
        replace h1 := Sh.some_eq h1
        subst o12
        try dsimp only [id] at h0
        replace h0 := Sh.some_eq h0
        subst r
        exact AW.ret (Exists.intro _ (And.intro (Wk.to (L := [(4, (i64 (-1)))]) ⟨.rfl, trivial⟩) (And.intro rfl rfl)))
      · replace h1 := Sh.ite_f b22 h1
        refine AW.skip (hK17 _ ?_)
        refine AW.regionO (by rfl) ?_
        refine ao_q (v := (i64 i10)) go0 rfl (aq_mv rfl) ?_
        refine ao_q (v := (i64 (Sh.w (i10 + 1)))) go0 rfl (aq_add rfl rfl) ?_
        refine ao_q (v := (i64 (Sh.w (i10 + 1)))) go0 rfl (aq_as rfl) ?_
        exact AO.done (Exists.intro (q20, Sh.w (i10 + 1)) (And.intro h1 (Wk.to (L := [(0, (.sl (List.map eRDecl p0))), (1, (i64 q20)), (5, (i64 (Sh.w (i10 + 1))))]) ⟨.rfl, .rfl, .rfl, trivial⟩)))
    · replace h1 := Sh.ite_f b16 h1
      exact AW.exit (M12 left9 (Sh.some_eq h1).symm _ (Wk.to (L := [(1, (i64 left9))]) ⟨.rfl, trivial⟩))

set_option maxRecDepth 100000 in
set_option maxHeartbeats 4000000 in
theorem laws_szInstr_ok {p0 : RInstr} {p1 : Int} {r : Int} (h0 : laws_szInstr p0 p1 = some r) : ACalls Try.prog 56 [(.agg [(i64 p0.op), (i64 p0.dst), (i64 p0.num), (i64 p0.into), (.sl (List.map eI p0.args)), (.sl (List.map eI p0.jumps))]), (i64 p1)] [] (fun v st => v = (i64 r) ∧ st = []) := by
  unfold laws_szInstr at h0
  refine ACalls.intro Try.func56 rfl (by show 2 ≤ 18; decide) ?_
  show AW _ 0 _ (aret _ 0 Try.f56 _) ⟨18, _, _⟩
  refine AW.weaken (Wk.to (L := [(0, (.agg [(i64 p0.op), (i64 p0.dst), (i64 p0.num), (i64 p0.into), (.sl (List.map eI p0.args)), (.sl (List.map eI p0.jumps))])), (1, (i64 p1))]) ⟨.rfl, .rfl, trivial⟩) ?_
  refine AW.seq fun K1 hK1 => ?_
  refine AW.regionO (by rfl) ?_
  refine ao_box (m := 0) (st' := [⟨0, 108, 6, [[(i64 p0.op), (i64 p0.dst), (i64 p0.num), (i64 p0.into), (.sl (List.map eI p0.args)), (.sl (List.map eI p0.jumps))]]⟩]) go0 rfl rfl rfl rfl rfl ?_
  refine ao_q (v := (i64 0)) go0 rfl (aq_as rfl) ?_
  refine AO.done (hK1 _ ?_)
  refine AW.seq fun K2 hK2 => ?_
  refine AW.regionO (by rfl) ?_
  refine ao_q (v := (.ptr 0 0 0 4)) go0 rfl (aq_fap fi108_4 rfl rfl (show 0 + 4 ≤ 6 by decide) rfl) ?_
  refine ao_q (v := (.sl (List.map eI p0.args))) go0 rfl (aq_ldp ti44 rfl rfl rfl rfl) ?_
  refine ao_q (v := (i64 p1)) go0 rfl (aq_mv rfl) ?_
  obtain ⟨q3, gq3, h0⟩ := Sh.bind_some h0
  refine ao_call (v' := (i64 q3)) (st' := [⟨0, 108, 6, [[(i64 p0.op), (i64 p0.dst), (i64 p0.num), (i64 p0.into), (.sl (List.map eI p0.args)), (.sl (List.map eI p0.jumps))]]⟩]) go0 hb35 (laws_szIntS_ok gq3) rfl rfl trivial rfl rfl ?_
  refine ao_q (v := (i64 q3)) go0 rfl (aq_as rfl) ?_
  refine AO.done (hK2 _ ?_)
  refine AW.seq fun K4 hK4 => ?_
  refine AW.seq fun K5 hK5 => ?_
  refine AW.regionO (by rfl) ?_
  refine ao_q (v := (i64 q3)) go0 rfl (aq_mv rfl) ?_
  refine ao_q (v := (.bool (decide (q3 < 0)))) go0 rfl (aq_lt rfl rfl) ?_
  refine AO.done (hK5 _ ?_)
  refine AW.cond' (b := decide (q3 < 0)) rfl (fun b6 => ?_) (fun b6 => ?_)
  · replace h0 := Sh.ite_t b6 h0
    refine AW.seq fun K7 hK7 => ?_
    refine AW.regionO (by rfl) ?_
    refine ao_q (v := (i64 (-1))) go0 rfl (aq_as rfl) ?_
    refine AO.done (hK7 _ ?_)
    replace h0 := Sh.some_eq h0
    subst r
    exact AW.ret (Exists.intro _ (And.intro ((Wk.permk (L := [(4, (i64 (-1)))]) (st' := []) (st1 := []) [] rfl .nil (by decide) rfl rfl .nil ⟨.rfl, trivial⟩).trans (Wk.to (L := [(4, (i64 (-1)))]) ⟨.rfl, trivial⟩)) (And.intro rfl rfl)))
  · replace h0 := Sh.ite_f b6 h0
    refine AW.skip (hK4 _ ?_)
    refine AW.seq fun K8 hK8 => ?_
    refine AW.regionO (by rfl) ?_
    refine ao_q (v := (.ptr 0 0 0 5)) go0 rfl (aq_fap fi108_5 rfl rfl (show 0 + 5 ≤ 6 by decide) rfl) ?_
    refine ao_q (v := (.sl (List.map eI p0.jumps))) go0 rfl (aq_ldp ti44 rfl rfl rfl rfl) ?_
    refine ao_q (v := (i64 q3)) go0 rfl (aq_mv rfl) ?_
    obtain ⟨q9, gq9, h0⟩ := Sh.bind_some h0
    refine ao_call (v' := (i64 q9)) (st' := [⟨0, 108, 6, [[(i64 p0.op), (i64 p0.dst), (i64 p0.num), (i64 p0.into), (.sl (List.map eI p0.args)), (.sl (List.map eI p0.jumps))]]⟩]) go0 hb35 (laws_szIntS_ok gq9) rfl rfl trivial rfl rfl ?_
    refine ao_q (v := (i64 q9)) go0 rfl (aq_as rfl) ?_
    refine AO.done (hK8 _ ?_)
    refine AW.seq fun K10 hK10 => ?_
    refine AW.seq fun K11 hK11 => ?_
    refine AW.regionO (by rfl) ?_
    refine ao_q (v := (i64 q9)) go0 rfl (aq_mv rfl) ?_
    refine ao_q (v := (.bool (decide (q9 < 0)))) go0 rfl (aq_lt rfl rfl) ?_
    refine AO.done (hK11 _ ?_)
    refine AW.cond' (b := decide (q9 < 0)) rfl (fun b12 => ?_) (fun b12 => ?_)
    · replace h0 := Sh.ite_t b12 h0
      refine AW.seq fun K13 hK13 => ?_
      refine AW.regionO (by rfl) ?_
      refine ao_q (v := (i64 (-1))) go0 rfl (aq_as rfl) ?_
      refine AO.done (hK13 _ ?_)
      replace h0 := Sh.some_eq h0
      subst r
      exact AW.ret (Exists.intro _ (And.intro ((Wk.permk (L := [(4, (i64 (-1)))]) (st' := []) (st1 := []) [] rfl .nil (by decide) rfl rfl .nil ⟨.rfl, trivial⟩).trans (Wk.to (L := [(4, (i64 (-1)))]) ⟨.rfl, trivial⟩)) (And.intro rfl rfl)))
    · replace h0 := Sh.ite_f b12 h0
      refine AW.skip (hK10 _ ?_)
      refine AW.seq fun K14 hK14 => ?_
      refine AW.regionO (by rfl) ?_
      refine ao_q (v := (i64 q9)) go0 rfl (aq_mv rfl) ?_
      refine ao_q (v := (i64 q9)) go0 rfl (aq_as rfl) ?_
      refine AO.done (hK14 _ ?_)
      replace h0 := Sh.some_eq h0
      subst r
      exact AW.ret (Exists.intro _ (And.intro ((Wk.permk (L := [(4, (i64 q9))]) (st' := []) (st1 := []) [] rfl .nil (by decide) rfl rfl .nil ⟨.rfl, trivial⟩).trans (Wk.to (L := [(4, (i64 q9))]) ⟨.rfl, trivial⟩)) (And.intro rfl rfl)))

set_option maxRecDepth 100000 in
set_option maxHeartbeats 4000000 in
theorem laws_szInstrS_ok {N : Nat} {p0 : (List RInstr)} {p1 : Int} {r : Int} (h0 : laws_szInstrS N p0 p1 = some r) : ACalls Try.prog 36 [(.sl (List.map eRInstr p0)), (i64 p1)] [] (fun v st => v = (i64 r) ∧ st = []) := by
  unfold laws_szInstrS at h0
  refine ACalls.intro Try.func36 rfl (by show 2 ≤ 27; decide) ?_
  show AW _ 0 _ (aret _ 0 Try.f36 _) ⟨27, _, _⟩
  refine AW.weaken (Wk.to (L := [(0, (.sl (List.map eRInstr p0))), (1, (i64 p1))]) ⟨.rfl, .rfl, trivial⟩) ?_
  refine AW.seq fun K1 hK1 => ?_
  refine AW.regionO (by rfl) ?_
  refine ao_q (v := (i64 0)) go0 rfl (aq_as rfl) ?_
  refine AO.done (hK1 _ ?_)
  refine AW.seq fun K2 hK2 => ?_
  refine AW.regionO (by rfl) ?_
  refine ao_q (v := (i64 p1)) go0 rfl (aq_mv rfl) ?_
  refine ao_q (v := (.sl (List.map eRInstr p0))) go0 rfl (aq_mv rfl) ?_
  refine ao_q (v := (i64 (Sh.len p0))) go0 rfl (aq_lens sl58 rfl) ?_
  refine ao_q (v := (i64 (Sh.w (p1 - (Sh.len p0))))) go0 rfl (aq_sub rfl rfl) ?_
  refine ao_q (v := (i64 (Sh.w (p1 - (Sh.len p0))))) go0 rfl (aq_as rfl) ?_
  refine AO.done (hK2 _ ?_)
  refine AW.seq fun K3 hK3 => ?_
  refine AW.seq fun K4 hK4 => ?_
  refine AW.regionO (by rfl) ?_
  refine ao_q (v := (i64 (Sh.w (p1 - (Sh.len p0))))) go0 rfl (aq_mv rfl) ?_
  refine ao_q (v := (.bool (decide ((Sh.w (p1 - (Sh.len p0))) < 0)))) go0 rfl (aq_lt rfl rfl) ?_
  refine AO.done (hK4 _ ?_)
  refine AW.cond' (b := decide ((Sh.w (p1 - (Sh.len p0))) < 0)) rfl (fun b5 => ?_) (fun b5 => ?_)
  · replace h0 := Sh.ite_t b5 h0
    refine AW.seq fun K6 hK6 => ?_
    refine AW.regionO (by rfl) ?_
    refine ao_q (v := (i64 (-1))) go0 rfl (aq_as rfl) ?_
    refine AO.done (hK6 _ ?_)
    replace h0 := Sh.some_eq h0
    subst r
    exact AW.ret (Exists.intro _ (And.intro (Wk.to (L := [(4, (i64 (-1)))]) ⟨.rfl, trivial⟩) (And.intro rfl rfl)))
  · replace h0 := Sh.ite_f b5 h0
    refine AW.skip (hK3 _ ?_)
    refine AW.seq fun K7 hK7 => ?_
    refine AW.seq fun K8 hK8 => ?_
    refine AW.regionO (by rfl) ?_
    refine ao_q (v := (i64 0)) go0 rfl (aq_as rfl) ?_
    refine AO.done (hK8 _ ?_)
    obtain ⟨o12, h1, h0⟩ := Sh.cont_some h0
    have M12 : ∀ (left11 : Int), o12 = Sum.inr left11 → ∀ s, Wk 0 s ⟨27, envL [(1, (i64 left11))], []⟩ → K7 s := by
      intro left11 hq s hw
      subst o12
      try dsimp only at h0
      refine hK7 _ (AW.weaken hw ?_)
      refine AW.seq fun K13 hK13 => ?_
      refine AW.regionO (by rfl) ?_
      refine ao_q (v := (i64 left11)) go0 rfl (aq_mv rfl) ?_
      refine ao_q (v := (i64 left11)) go0 rfl (aq_as rfl) ?_
      refine AO.done (hK13 _ ?_)
      replace h0 := Sh.some_eq h0
      subst r
      exact AW.ret (Exists.intro _ (And.intro (Wk.to (L := [(4, (i64 left11))]) ⟨.rfl, trivial⟩) (And.intro rfl rfl)))
    refine AW.block (AW.loopF (σ := Int × Int) (fun n v => laws_szInstrS_L1 p0 n v.1 v.2 = some o12) (fun (left9, i10) => ⟨27, envL [(0, (.sl (List.map eRInstr p0))), (1, (i64 left9)), (5, (i64 i10))], []⟩) N (Sh.w (p1 - (Sh.len p0)), 0) h1 (Wk.to (L := [(0, (.sl (List.map eRInstr p0))), (1, (i64 (Sh.w (p1 - (Sh.len p0))))), (5, (i64 0))]) ⟨.rfl, .rfl, .rfl, trivial⟩) (fun _ hv => by rw [laws_szInstrS_L1] at hv; cases hv) ?_)
    rintro n ⟨left9, i10⟩ h1
    try dsimp only at h1 ⊢
    rw [laws_szInstrS_L1] at h1
    refine AW.seq fun K14 hK14 => ?_
    refine AW.seq fun K15 hK15 => ?_
    refine AW.regionO (by rfl) ?_
    refine ao_q (v := (i64 i10)) go0 rfl (aq_mv rfl) ?_
    refine ao_q (v := (.sl (List.map eRInstr p0))) go0 rfl (aq_mv rfl) ?_
    refine ao_q (v := (i64 (Sh.len p0))) go0 rfl (aq_lens sl58 rfl) ?_
    refine ao_q (v := (.bool (decide (i10 < (Sh.len p0))))) go0 rfl (aq_lt rfl rfl) ?_
    refine AO.done (hK15 _ ?_)
    refine AW.cond' (b := decide (i10 < (Sh.len p0))) rfl (fun b16 => ?_) (fun b16 => ?_)
    · replace h1 := Sh.ite_t b16 h1
      refine AW.skip (hK14 _ ?_)
      refine AW.seq fun K17 hK17 => ?_
      refine AW.block ?_
      refine AW.seq fun K18 hK18 => ?_
      refine AW.regionO (by rfl) ?_
      refine ao_q (v := (.sl (List.map eRInstr p0))) go0 rfl (aq_mv rfl) ?_
      refine ao_q (v := (i64 i10)) go0 rfl (aq_mv rfl) ?_
      obtain ⟨c19, gc19, h1⟩ := Sh.bind_some h1
      refine ao_q (v := (.iptr (eRInstr c19) 0)) go0 rfl (aq_ixs ei58 rfl rfl gc19 rfl) ?_
      refine ao_q (v := (.agg [(i64 c19.op), (i64 c19.dst), (i64 c19.num), (i64 c19.into), (.sl (List.map eI c19.args)), (.sl (List.map eI c19.jumps))])) go0 rfl (aq_ldia ti108 rfl (show 0 + 6 ≤ 6 by decide) rfl) ?_
      refine ao_q (v := (i64 left9)) go0 rfl (aq_mv rfl) ?_
      obtain ⟨q20, gq20, h1⟩ := Sh.bind_some h1
      refine ao_call (v' := (i64 q20)) (st' := []) go0 hb56 (laws_szInstr_ok gq20) rfl rfl trivial rfl rfl ?_
      refine ao_q (v := (i64 q20)) go0 rfl (aq_as rfl) ?_
      refine AO.done (hK18 _ ?_)
      refine AW.seq fun K21 hK21 => ?_
      refine AW.regionO (by rfl) ?_
      refine ao_q (v := (i64 q20)) go0 rfl (aq_mv rfl) ?_
      refine ao_q (v := (.bool (decide (q20 < 0)))) go0 rfl (aq_lt rfl rfl) ?_
      refine AO.done (hK21 _ ?_)
      refine AW.cond' (b := decide (q20 < 0)) rfl (fun b22 => ?_) (fun b22 => ?_)
      · replace h1 := Sh.ite_t b22 h1
        refine AW.seq fun K23 hK23 => ?_
        refine AW.regionO (by rfl) ?_
        refine ao_q (v := (i64 (-1))) go0 rfl (aq_as rfl) ?_
        refine AO.done (hK23 _ ?_)
        replace h1 := Sh.some_eq h1
        subst o12
        try dsimp only [id] at h0
        replace h0 := Sh.some_eq h0
        subst r
        exact AW.ret (Exists.intro _ (And.intro (Wk.to (L := [(4, (i64 (-1)))]) ⟨.rfl, trivial⟩) (And.intro rfl rfl)))
      · replace h1 := Sh.ite_f b22 h1
        refine AW.skip (hK17 _ ?_)
        refine AW.regionO (by rfl) ?_
        refine ao_q (v := (i64 i10)) go0 rfl (aq_mv rfl) ?_
        refine ao_q (v := (i64 (Sh.w (i10 + 1)))) go0 rfl (aq_add rfl rfl) ?_
        refine ao_q (v := (i64 (Sh.w (i10 + 1)))) go0 rfl (aq_as rfl) ?_
        exact AO.done (Exists.intro (q20, Sh.w (i10 + 1)) (And.intro h1 (Wk.to (L := [(0, (.sl (List.map eRInstr p0))), (1, (i64 q20)), (5, (i64 (Sh.w (i10 + 1))))]) ⟨.rfl, .rfl, .rfl, trivial⟩)))
    · replace h1 := Sh.ite_f b16 h1
      exact AW.exit (M12 left9 (Sh.some_eq h1).symm _ (Wk.to (L := [(1, (i64 left9))]) ⟨.rfl, trivial⟩))

set_option maxRecDepth 100000 in
set_option maxHeartbeats 4000000 in
theorem laws_szProc_ok {N : Nat} {p0 : RProc} {p1 : Int} {r : Int} (h0 : laws_szProc N p0 p1 = some r) : ACalls Try.prog 19 [(.agg [(.sl (List.map eI p0.params)), (.sl (List.map eI p0.lent)), (i64 p0.result), (i64 p0.regs), (.sl (List.map eRInstr p0.code))]), (i64 p1)] [] (fun v st => v = (i64 r) ∧ st = []) := by
  unfold laws_szProc at h0
  refine ACalls.intro Try.func19 rfl (by show 2 ≤ 24; decide) ?_
  show AW _ 0 _ (aret _ 0 Try.f19 _) ⟨24, _, _⟩
  refine AW.weaken (Wk.to (L := [(0, (.agg [(.sl (List.map eI p0.params)), (.sl (List.map eI p0.lent)), (i64 p0.result), (i64 p0.regs), (.sl (List.map eRInstr p0.code))])), (1, (i64 p1))]) ⟨.rfl, .rfl, trivial⟩) ?_
  refine AW.seq fun K1 hK1 => ?_
  refine AW.regionO (by rfl) ?_
  refine ao_box (m := 0) (st' := [⟨0, 60, 5, [[(.sl (List.map eI p0.params)), (.sl (List.map eI p0.lent)), (i64 p0.result), (i64 p0.regs), (.sl (List.map eRInstr p0.code))]]⟩]) go0 rfl rfl rfl rfl rfl ?_
  refine ao_q (v := (i64 0)) go0 rfl (aq_as rfl) ?_
  refine AO.done (hK1 _ ?_)
  refine AW.seq fun K2 hK2 => ?_
  refine AW.regionO (by rfl) ?_
  refine ao_q (v := (.ptr 0 0 0 0)) go0 rfl (aq_fap fi60_0 rfl rfl (show 0 + 0 ≤ 5 by decide) rfl) ?_
  refine ao_q (v := (.sl (List.map eI p0.params))) go0 rfl (aq_ldp ti44 rfl rfl rfl rfl) ?_
  refine ao_q (v := (i64 p1)) go0 rfl (aq_mv rfl) ?_
  obtain ⟨q3, gq3, h0⟩ := Sh.bind_some h0
  refine ao_call (v' := (i64 q3)) (st' := [⟨0, 60, 5, [[(.sl (List.map eI p0.params)), (.sl (List.map eI p0.lent)), (i64 p0.result), (i64 p0.regs), (.sl (List.map eRInstr p0.code))]]⟩]) go0 hb35 (laws_szIntS_ok gq3) rfl rfl trivial rfl rfl ?_
  refine ao_q (v := (i64 q3)) go0 rfl (aq_as rfl) ?_
  refine AO.done (hK2 _ ?_)
  refine AW.seq fun K4 hK4 => ?_
  refine AW.seq fun K5 hK5 => ?_
  refine AW.regionO (by rfl) ?_
  refine ao_q (v := (i64 q3)) go0 rfl (aq_mv rfl) ?_
  refine ao_q (v := (.bool (decide (q3 < 0)))) go0 rfl (aq_lt rfl rfl) ?_
  refine AO.done (hK5 _ ?_)
  refine AW.cond' (b := decide (q3 < 0)) rfl (fun b6 => ?_) (fun b6 => ?_)
  · replace h0 := Sh.ite_t b6 h0
    refine AW.seq fun K7 hK7 => ?_
    refine AW.regionO (by rfl) ?_
    refine ao_q (v := (i64 (-1))) go0 rfl (aq_as rfl) ?_
    refine AO.done (hK7 _ ?_)
    replace h0 := Sh.some_eq h0
    subst r
    exact AW.ret (Exists.intro _ (And.intro ((Wk.permk (L := [(4, (i64 (-1)))]) (st' := []) (st1 := []) [] rfl .nil (by decide) rfl rfl .nil ⟨.rfl, trivial⟩).trans (Wk.to (L := [(4, (i64 (-1)))]) ⟨.rfl, trivial⟩)) (And.intro rfl rfl)))
  · replace h0 := Sh.ite_f b6 h0
    refine AW.skip (hK4 _ ?_)
    refine AW.seq fun K8 hK8 => ?_
    refine AW.regionO (by rfl) ?_
    refine ao_q (v := (.ptr 0 0 0 1)) go0 rfl (aq_fap fi60_1 rfl rfl (show 0 + 1 ≤ 5 by decide) rfl) ?_
    refine ao_q (v := (.sl (List.map eI p0.lent))) go0 rfl (aq_ldp ti44 rfl rfl rfl rfl) ?_
    refine ao_q (v := (i64 q3)) go0 rfl (aq_mv rfl) ?_
    obtain ⟨q9, gq9, h0⟩ := Sh.bind_some h0
    refine ao_call (v' := (i64 q9)) (st' := [⟨0, 60, 5, [[(.sl (List.map eI p0.params)), (.sl (List.map eI p0.lent)), (i64 p0.result), (i64 p0.regs), (.sl (List.map eRInstr p0.code))]]⟩]) go0 hb35 (laws_szIntS_ok gq9) rfl rfl trivial rfl rfl ?_
    refine ao_q (v := (i64 q9)) go0 rfl (aq_as rfl) ?_
    refine AO.done (hK8 _ ?_)
    refine AW.seq fun K10 hK10 => ?_
    refine AW.seq fun K11 hK11 => ?_
    refine AW.regionO (by rfl) ?_
    refine ao_q (v := (i64 q9)) go0 rfl (aq_mv rfl) ?_
    refine ao_q (v := (.bool (decide (q9 < 0)))) go0 rfl (aq_lt rfl rfl) ?_
    refine AO.done (hK11 _ ?_)
    refine AW.cond' (b := decide (q9 < 0)) rfl (fun b12 => ?_) (fun b12 => ?_)
    · replace h0 := Sh.ite_t b12 h0
      refine AW.seq fun K13 hK13 => ?_
      refine AW.regionO (by rfl) ?_
      refine ao_q (v := (i64 (-1))) go0 rfl (aq_as rfl) ?_
      refine AO.done (hK13 _ ?_)
      replace h0 := Sh.some_eq h0
      subst r
      exact AW.ret (Exists.intro _ (And.intro ((Wk.permk (L := [(4, (i64 (-1)))]) (st' := []) (st1 := []) [] rfl .nil (by decide) rfl rfl .nil ⟨.rfl, trivial⟩).trans (Wk.to (L := [(4, (i64 (-1)))]) ⟨.rfl, trivial⟩)) (And.intro rfl rfl)))
    · replace h0 := Sh.ite_f b12 h0
      refine AW.skip (hK10 _ ?_)
      refine AW.seq fun K14 hK14 => ?_
      refine AW.regionO (by rfl) ?_
      refine ao_q (v := (.ptr 0 0 0 4)) go0 rfl (aq_fap fi60_4 rfl rfl (show 0 + 4 ≤ 5 by decide) rfl) ?_
      refine ao_q (v := (.sl (List.map eRInstr p0.code))) go0 rfl (aq_ldp ti58 rfl rfl rfl rfl) ?_
      refine ao_q (v := (i64 q9)) go0 rfl (aq_mv rfl) ?_
      obtain ⟨q15, gq15, h0⟩ := Sh.bind_some h0
      refine ao_call (v' := (i64 q15)) (st' := [⟨0, 60, 5, [[(.sl (List.map eI p0.params)), (.sl (List.map eI p0.lent)), (i64 p0.result), (i64 p0.regs), (.sl (List.map eRInstr p0.code))]]⟩]) go0 hb36 (laws_szInstrS_ok gq15) rfl rfl trivial rfl rfl ?_
      refine ao_q (v := (i64 q15)) go0 rfl (aq_as rfl) ?_
      refine AO.done (hK14 _ ?_)
      refine AW.seq fun K16 hK16 => ?_
      refine AW.seq fun K17 hK17 => ?_
      refine AW.regionO (by rfl) ?_
      refine ao_q (v := (i64 q15)) go0 rfl (aq_mv rfl) ?_
      refine ao_q (v := (.bool (decide (q15 < 0)))) go0 rfl (aq_lt rfl rfl) ?_
      refine AO.done (hK17 _ ?_)
      refine AW.cond' (b := decide (q15 < 0)) rfl (fun b18 => ?_) (fun b18 => ?_)
      · replace h0 := Sh.ite_t b18 h0
        refine AW.seq fun K19 hK19 => ?_
        refine AW.regionO (by rfl) ?_
        refine ao_q (v := (i64 (-1))) go0 rfl (aq_as rfl) ?_
        refine AO.done (hK19 _ ?_)
        replace h0 := Sh.some_eq h0
        subst r
        exact AW.ret (Exists.intro _ (And.intro ((Wk.permk (L := [(4, (i64 (-1)))]) (st' := []) (st1 := []) [] rfl .nil (by decide) rfl rfl .nil ⟨.rfl, trivial⟩).trans (Wk.to (L := [(4, (i64 (-1)))]) ⟨.rfl, trivial⟩)) (And.intro rfl rfl)))
      · replace h0 := Sh.ite_f b18 h0
        refine AW.skip (hK16 _ ?_)
        refine AW.seq fun K20 hK20 => ?_
        refine AW.regionO (by rfl) ?_
        refine ao_q (v := (i64 q15)) go0 rfl (aq_mv rfl) ?_
        refine ao_q (v := (i64 q15)) go0 rfl (aq_as rfl) ?_
        refine AO.done (hK20 _ ?_)
        replace h0 := Sh.some_eq h0
        subst r
        exact AW.ret (Exists.intro _ (And.intro ((Wk.permk (L := [(4, (i64 q15))]) (st' := []) (st1 := []) [] rfl .nil (by decide) rfl rfl .nil ⟨.rfl, trivial⟩).trans (Wk.to (L := [(4, (i64 q15))]) ⟨.rfl, trivial⟩)) (And.intro rfl rfl)))

set_option maxRecDepth 100000 in
set_option maxHeartbeats 4000000 in
theorem laws_szProcS_ok {N : Nat} {p0 : (List RProc)} {p1 : Int} {r : Int} (h0 : laws_szProcS N p0 p1 = some r) : ACalls Try.prog 10 [(.sl (List.map eRProc p0)), (i64 p1)] [] (fun v st => v = (i64 r) ∧ st = []) := by
  unfold laws_szProcS at h0
  refine ACalls.intro Try.func10 rfl (by show 2 ≤ 27; decide) ?_
  show AW _ 0 _ (aret _ 0 Try.f10 _) ⟨27, _, _⟩
  refine AW.weaken (Wk.to (L := [(0, (.sl (List.map eRProc p0))), (1, (i64 p1))]) ⟨.rfl, .rfl, trivial⟩) ?_
  refine AW.seq fun K1 hK1 => ?_
  refine AW.regionO (by rfl) ?_
  refine ao_q (v := (i64 0)) go0 rfl (aq_as rfl) ?_
  refine AO.done (hK1 _ ?_)
  refine AW.seq fun K2 hK2 => ?_
  refine AW.regionO (by rfl) ?_
  refine ao_q (v := (i64 p1)) go0 rfl (aq_mv rfl) ?_
  refine ao_q (v := (.sl (List.map eRProc p0))) go0 rfl (aq_mv rfl) ?_
  refine ao_q (v := (i64 (Sh.len p0))) go0 rfl (aq_lens sl23 rfl) ?_
  refine ao_q (v := (i64 (Sh.w (p1 - (Sh.len p0))))) go0 rfl (aq_sub rfl rfl) ?_
  refine ao_q (v := (i64 (Sh.w (p1 - (Sh.len p0))))) go0 rfl (aq_as rfl) ?_
  refine AO.done (hK2 _ ?_)
  refine AW.seq fun K3 hK3 => ?_
  refine AW.seq fun K4 hK4 => ?_
  refine AW.regionO (by rfl) ?_
  refine ao_q (v := (i64 (Sh.w (p1 - (Sh.len p0))))) go0 rfl (aq_mv rfl) ?_
  refine ao_q (v := (.bool (decide ((Sh.w (p1 - (Sh.len p0))) < 0)))) go0 rfl (aq_lt rfl rfl) ?_
  refine AO.done (hK4 _ ?_)
  refine AW.cond' (b := decide ((Sh.w (p1 - (Sh.len p0))) < 0)) rfl (fun b5 => ?_) (fun b5 => ?_)
  · replace h0 := Sh.ite_t b5 h0
    refine AW.seq fun K6 hK6 => ?_
    refine AW.regionO (by rfl) ?_
    refine ao_q (v := (i64 (-1))) go0 rfl (aq_as rfl) ?_
    refine AO.done (hK6 _ ?_)
    replace h0 := Sh.some_eq h0
    subst r
    exact AW.ret (Exists.intro _ (And.intro (Wk.to (L := [(4, (i64 (-1)))]) ⟨.rfl, trivial⟩) (And.intro rfl rfl)))
  · replace h0 := Sh.ite_f b5 h0
    refine AW.skip (hK3 _ ?_)
    refine AW.seq fun K7 hK7 => ?_
    refine AW.seq fun K8 hK8 => ?_
    refine AW.regionO (by rfl) ?_
    refine ao_q (v := (i64 0)) go0 rfl (aq_as rfl) ?_
    refine AO.done (hK8 _ ?_)
    obtain ⟨o12, h1, h0⟩ := Sh.cont_some h0
    have M12 : ∀ (left11 : Int), o12 = Sum.inr left11 → ∀ s, Wk 0 s ⟨27, envL [(1, (i64 left11))], []⟩ → K7 s := by
      intro left11 hq s hw
      subst o12
      try dsimp only at h0
      refine hK7 _ (AW.weaken hw ?_)
      refine AW.seq fun K13 hK13 => ?_
      refine AW.regionO (by rfl) ?_
      refine ao_q (v := (i64 left11)) go0 rfl (aq_mv rfl) ?_
      refine ao_q (v := (i64 left11)) go0 rfl (aq_as rfl) ?_
      refine AO.done (hK13 _ ?_)
      replace h0 := Sh.some_eq h0
      subst r
      exact AW.ret (Exists.intro _ (And.intro (Wk.to (L := [(4, (i64 left11))]) ⟨.rfl, trivial⟩) (And.intro rfl rfl)))
    refine AW.block (AW.loopF (σ := Int × Int) (fun n v => laws_szProcS_L1 N p0 n v.1 v.2 = some o12) (fun (left9, i10) => ⟨27, envL [(0, (.sl (List.map eRProc p0))), (1, (i64 left9)), (5, (i64 i10))], []⟩) N (Sh.w (p1 - (Sh.len p0)), 0) h1 (Wk.to (L := [(0, (.sl (List.map eRProc p0))), (1, (i64 (Sh.w (p1 - (Sh.len p0))))), (5, (i64 0))]) ⟨.rfl, .rfl, .rfl, trivial⟩) (fun _ hv => by rw [laws_szProcS_L1] at hv; cases hv) ?_)
    rintro n ⟨left9, i10⟩ h1
    try dsimp only at h1 ⊢
    rw [laws_szProcS_L1] at h1
    refine AW.seq fun K14 hK14 => ?_
    refine AW.seq fun K15 hK15 => ?_
    refine AW.regionO (by rfl) ?_
    refine ao_q (v := (i64 i10)) go0 rfl (aq_mv rfl) ?_
    refine ao_q (v := (.sl (List.map eRProc p0))) go0 rfl (aq_mv rfl) ?_
    refine ao_q (v := (i64 (Sh.len p0))) go0 rfl (aq_lens sl23 rfl) ?_
    refine ao_q (v := (.bool (decide (i10 < (Sh.len p0))))) go0 rfl (aq_lt rfl rfl) ?_
    refine AO.done (hK15 _ ?_)
    refine AW.cond' (b := decide (i10 < (Sh.len p0))) rfl (fun b16 => ?_) (fun b16 => ?_)
    · replace h1 := Sh.ite_t b16 h1
      refine AW.skip (hK14 _ ?_)
      refine AW.seq fun K17 hK17 => ?_
      refine AW.block ?_
      refine AW.seq fun K18 hK18 => ?_
      refine AW.regionO (by rfl) ?_
      refine ao_q (v := (.sl (List.map eRProc p0))) go0 rfl (aq_mv rfl) ?_
      refine ao_q (v := (i64 i10)) go0 rfl (aq_mv rfl) ?_
      obtain ⟨c19, gc19, h1⟩ := Sh.bind_some h1
      refine ao_q (v := (.iptr (eRProc c19) 0)) go0 rfl (aq_ixs ei23 rfl rfl gc19 rfl) ?_
      refine ao_q (v := (.agg [(.sl (List.map eI c19.params)), (.sl (List.map eI c19.lent)), (i64 c19.result), (i64 c19.regs), (.sl (List.map eRInstr c19.code))])) go0 rfl (aq_ldia ti60 rfl (show 0 + 5 ≤ 5 by decide) rfl) ?_
      refine ao_q (v := (i64 left9)) go0 rfl (aq_mv rfl) ?_
      obtain ⟨q20, gq20, h1⟩ := Sh.bind_some h1
      refine ao_call (v' := (i64 q20)) (st' := []) go0 hb19 (laws_szProc_ok gq20) rfl rfl trivial rfl rfl ?_
      refine ao_q (v := (i64 q20)) go0 rfl (aq_as rfl) ?_
      refine AO.done (hK18 _ ?_)
      refine AW.seq fun K21 hK21 => ?_
      refine AW.regionO (by rfl) ?_
      refine ao_q (v := (i64 q20)) go0 rfl (aq_mv rfl) ?_
      refine ao_q (v := (.bool (decide (q20 < 0)))) go0 rfl (aq_lt rfl rfl) ?_
      refine AO.done (hK21 _ ?_)
      refine AW.cond' (b := decide (q20 < 0)) rfl (fun b22 => ?_) (fun b22 => ?_)
      · replace h1 := Sh.ite_t b22 h1
        refine AW.seq fun K23 hK23 => ?_
        refine AW.regionO (by rfl) ?_
        refine ao_q (v := (i64 (-1))) go0 rfl (aq_as rfl) ?_
        refine AO.done (hK23 _ ?_)
        replace h1 := Sh.some_eq h1
        subst o12
        try dsimp only [id] at h0
        replace h0 := Sh.some_eq h0
        subst r
        exact AW.ret (Exists.intro _ (And.intro (Wk.to (L := [(4, (i64 (-1)))]) ⟨.rfl, trivial⟩) (And.intro rfl rfl)))
      · replace h1 := Sh.ite_f b22 h1
        refine AW.skip (hK17 _ ?_)
        refine AW.regionO (by rfl) ?_
        refine ao_q (v := (i64 i10)) go0 rfl (aq_mv rfl) ?_
        refine ao_q (v := (i64 (Sh.w (i10 + 1)))) go0 rfl (aq_add rfl rfl) ?_
        refine ao_q (v := (i64 (Sh.w (i10 + 1)))) go0 rfl (aq_as rfl) ?_
        exact AO.done (Exists.intro (q20, Sh.w (i10 + 1)) (And.intro h1 (Wk.to (L := [(0, (.sl (List.map eRProc p0))), (1, (i64 q20)), (5, (i64 (Sh.w (i10 + 1))))]) ⟨.rfl, .rfl, .rfl, trivial⟩)))
    · replace h1 := Sh.ite_f b16 h1
      exact AW.exit (M12 left9 (Sh.some_eq h1).symm _ (Wk.to (L := [(1, (i64 left9))]) ⟨.rfl, trivial⟩))

set_option maxRecDepth 100000 in
set_option maxHeartbeats 4000000 in
theorem laws_szImage_ok {N : Nat} {p0 : RImage} {p1 : Int} {r : Int} (h0 : laws_szImage N p0 p1 = some r) : ACalls Try.prog 4 [(.agg [(.sl (List.map eRDecl p0.decls)), (.sl (List.map eRProc p0.procs))]), (i64 p1)] [] (fun v st => v = (i64 r) ∧ st = []) := by
  unfold laws_szImage at h0
  refine ACalls.intro Try.func4 rfl (by show 2 ≤ 18; decide) ?_
  show AW _ 0 _ (aret _ 0 Try.f4 _) ⟨18, _, _⟩
  refine AW.weaken (Wk.to (L := [(0, (.agg [(.sl (List.map eRDecl p0.decls)), (.sl (List.map eRProc p0.procs))])), (1, (i64 p1))]) ⟨.rfl, .rfl, trivial⟩) ?_
  refine AW.seq fun K1 hK1 => ?_
  refine AW.regionO (by rfl) ?_
  refine ao_box (m := 0) (st' := [⟨0, 25, 2, [[(.sl (List.map eRDecl p0.decls)), (.sl (List.map eRProc p0.procs))]]⟩]) go0 rfl rfl rfl rfl rfl ?_
  refine ao_q (v := (i64 0)) go0 rfl (aq_as rfl) ?_
  refine AO.done (hK1 _ ?_)
  refine AW.seq fun K2 hK2 => ?_
  refine AW.regionO (by rfl) ?_
  refine ao_q (v := (.ptr 0 0 0 0)) go0 rfl (aq_fap fi25_0 rfl rfl (show 0 + 0 ≤ 2 by decide) rfl) ?_
  refine ao_q (v := (.sl (List.map eRDecl p0.decls))) go0 rfl (aq_ldp ti22 rfl rfl rfl rfl) ?_
  refine ao_q (v := (i64 p1)) go0 rfl (aq_mv rfl) ?_
  obtain ⟨q3, gq3, h0⟩ := Sh.bind_some h0
  refine ao_call (v' := (i64 q3)) (st' := [⟨0, 25, 2, [[(.sl (List.map eRDecl p0.decls)), (.sl (List.map eRProc p0.procs))]]⟩]) go0 hb9 (laws_szDeclS_ok gq3) rfl rfl trivial rfl rfl ?_
  refine ao_q (v := (i64 q3)) go0 rfl (aq_as rfl) ?_
  refine AO.done (hK2 _ ?_)
  refine AW.seq fun K4 hK4 => ?_
  refine AW.seq fun K5 hK5 => ?_
  refine AW.regionO (by rfl) ?_
  refine ao_q (v := (i64 q3)) go0 rfl (aq_mv rfl) ?_
  refine ao_q (v := (.bool (decide (q3 < 0)))) go0 rfl (aq_lt rfl rfl) ?_
  refine AO.done (hK5 _ ?_)
  refine AW.cond' (b := decide (q3 < 0)) rfl (fun b6 => ?_) (fun b6 => ?_)
  · replace h0 := Sh.ite_t b6 h0
    refine AW.seq fun K7 hK7 => ?_
    refine AW.regionO (by rfl) ?_
    refine ao_q (v := (i64 (-1))) go0 rfl (aq_as rfl) ?_
    refine AO.done (hK7 _ ?_)
    replace h0 := Sh.some_eq h0
    subst r
    exact AW.ret (Exists.intro _ (And.intro ((Wk.permk (L := [(4, (i64 (-1)))]) (st' := []) (st1 := []) [] rfl .nil (by decide) rfl rfl .nil ⟨.rfl, trivial⟩).trans (Wk.to (L := [(4, (i64 (-1)))]) ⟨.rfl, trivial⟩)) (And.intro rfl rfl)))
  · replace h0 := Sh.ite_f b6 h0
    refine AW.skip (hK4 _ ?_)
    refine AW.seq fun K8 hK8 => ?_
    refine AW.regionO (by rfl) ?_
    refine ao_q (v := (.ptr 0 0 0 1)) go0 rfl (aq_fap fi25_1 rfl rfl (show 0 + 1 ≤ 2 by decide) rfl) ?_
    refine ao_q (v := (.sl (List.map eRProc p0.procs))) go0 rfl (aq_ldp ti23 rfl rfl rfl rfl) ?_
    refine ao_q (v := (i64 q3)) go0 rfl (aq_mv rfl) ?_
    obtain ⟨q9, gq9, h0⟩ := Sh.bind_some h0
    refine ao_call (v' := (i64 q9)) (st' := [⟨0, 25, 2, [[(.sl (List.map eRDecl p0.decls)), (.sl (List.map eRProc p0.procs))]]⟩]) go0 hb10 (laws_szProcS_ok gq9) rfl rfl trivial rfl rfl ?_
    refine ao_q (v := (i64 q9)) go0 rfl (aq_as rfl) ?_
    refine AO.done (hK8 _ ?_)
    refine AW.seq fun K10 hK10 => ?_
    refine AW.seq fun K11 hK11 => ?_
    refine AW.regionO (by rfl) ?_
    refine ao_q (v := (i64 q9)) go0 rfl (aq_mv rfl) ?_
    refine ao_q (v := (.bool (decide (q9 < 0)))) go0 rfl (aq_lt rfl rfl) ?_
    refine AO.done (hK11 _ ?_)
    refine AW.cond' (b := decide (q9 < 0)) rfl (fun b12 => ?_) (fun b12 => ?_)
    · replace h0 := Sh.ite_t b12 h0
      refine AW.seq fun K13 hK13 => ?_
      refine AW.regionO (by rfl) ?_
      refine ao_q (v := (i64 (-1))) go0 rfl (aq_as rfl) ?_
      refine AO.done (hK13 _ ?_)
      replace h0 := Sh.some_eq h0
      subst r
      exact AW.ret (Exists.intro _ (And.intro ((Wk.permk (L := [(4, (i64 (-1)))]) (st' := []) (st1 := []) [] rfl .nil (by decide) rfl rfl .nil ⟨.rfl, trivial⟩).trans (Wk.to (L := [(4, (i64 (-1)))]) ⟨.rfl, trivial⟩)) (And.intro rfl rfl)))
    · replace h0 := Sh.ite_f b12 h0
      refine AW.skip (hK10 _ ?_)
      refine AW.seq fun K14 hK14 => ?_
      refine AW.regionO (by rfl) ?_
      refine ao_q (v := (i64 q9)) go0 rfl (aq_mv rfl) ?_
      refine ao_q (v := (i64 q9)) go0 rfl (aq_as rfl) ?_
      refine AO.done (hK14 _ ?_)
      replace h0 := Sh.some_eq h0
      subst r
      exact AW.ret (Exists.intro _ (And.intro ((Wk.permk (L := [(4, (i64 q9))]) (st' := []) (st1 := []) [] rfl .nil (by decide) rfl rfl .nil ⟨.rfl, trivial⟩).trans (Wk.to (L := [(4, (i64 q9))]) ⟨.rfl, trivial⟩)) (And.intro rfl rfl)))

set_option maxRecDepth 100000 in
set_option maxHeartbeats 4000000 in
theorem laws_toIntS_ok {N : Nat} {p0 : (List Int)} {r : (List Int)} (h0 : laws_toIntS N p0 = some r) : ACalls Try.prog 43 [(.sl (List.map eI p0))] [] (fun v st => v = (.own 0 0 (List.length r)) ∧ st = [⟨0, 3, 1, List.map eI r⟩]) := by
  unfold laws_toIntS at h0
  refine ACalls.intro Try.func43 rfl (by show 1 ≤ 22; decide) ?_
  show AW _ 0 _ (aret _ 0 Try.f43 _) ⟨22, _, _⟩
  refine AW.weaken (Wk.to (L := [(0, (.sl (List.map eI p0)))]) ⟨.rfl, trivial⟩) ?_
  refine AW.seq fun K1 hK1 => ?_
  refine AW.regionO (by rfl) ?_
  refine ao_q (v := .zc) go0 rfl (aq_as rfl) ?_
  refine AO.done (hK1 _ ?_)
  refine AW.seq fun K2 hK2 => ?_
  refine AW.regionO (by rfl) ?_
  refine ao_q (v := (.sl (List.map eI p0))) go0 rfl (aq_mv rfl) ?_
  refine ao_q (v := (i64 (Sh.len p0))) go0 rfl (aq_lens sl44 rfl) ?_
  obtain ⟨l3, gl3, h0⟩ := Sh.bind_some h0
  refine ao_make (m := 0) (st' := [⟨0, 3, 1, List.map eI l3⟩]) (enc := eI) (u := 0) go0 ei44 rfl rfl rfl gl3 rfl rfl ?_
  refine ao_q (v := (.own 0 0 (List.length l3))) go0 rfl (aq_as rfl) ?_
  refine AO.done (hK2 _ ?_)
  refine AW.seq fun K4 hK4 => ?_
  refine AW.seq fun K5 hK5 => ?_
  refine AW.regionO (by rfl) ?_
  refine ao_q (v := (i64 0)) go0 rfl (aq_as rfl) ?_
  refine AO.done (hK5 _ ?_)
  obtain ⟨o9, h1, h0⟩ := Sh.bind_some h0
  have M9 : ∀ (l8 : (List Int)), o9 = l8 → ∀ s, Wk 0 s ⟨22, envL [(3, (.own 0 0 (List.length l8)))], [⟨0, 3, 1, List.map eI l8⟩]⟩ → K4 s := by
    intro l8 hq s hw
    subst o9
    try dsimp only at h0
    refine hK4 _ (AW.weaken hw ?_)
    refine AW.seq fun K10 hK10 => ?_
    refine AW.regionO (by rfl) ?_
    refine ao_q (v := (.own 0 0 (List.length l8))) go0 rfl (aq_mv rfl) ?_
    refine ao_q (v := (.own 0 0 (List.length l8))) go0 rfl (aq_as rfl) ?_
    refine AO.done (hK10 _ ?_)
    replace h0 := Sh.some_eq h0
    subst r
    exact AW.ret (Exists.intro _ (And.intro (Wk.to (L := [(2, (.own 0 0 (List.length l8)))]) ⟨.rfl, trivial⟩) (And.intro rfl rfl)))
  refine AW.block (AW.loopF (σ := Int × (List Int)) (fun n v => laws_toIntS_L1 p0 n v.1 v.2 = some o9) (fun (i6, l7) => ⟨22, envL [(0, (.sl (List.map eI p0))), (3, (.own 0 0 (List.length l7))), (4, (i64 i6))], [⟨0, 3, 1, List.map eI l7⟩]⟩) N (0, l3) h1 (Wk.to (L := [(0, (.sl (List.map eI p0))), (3, (.own 0 0 (List.length l3))), (4, (i64 0))]) ⟨.rfl, .rfl, .rfl, trivial⟩) (fun _ hv => by rw [laws_toIntS_L1] at hv; cases hv) ?_)
  rintro n ⟨i6, l7⟩ h1
  try dsimp only at h1 ⊢
  rw [laws_toIntS_L1] at h1
  refine AW.seq fun K11 hK11 => ?_
  refine AW.seq fun K12 hK12 => ?_
  refine AW.regionO (by rfl) ?_
  refine ao_q (v := (i64 i6)) go0 rfl (aq_mv rfl) ?_
  refine ao_q (v := (.sl (List.map eI p0))) go0 rfl (aq_mv rfl) ?_
  refine ao_q (v := (i64 (Sh.len p0))) go0 rfl (aq_lens sl44 rfl) ?_
  refine ao_q (v := (.bool (decide (i6 < (Sh.len p0))))) go0 rfl (aq_lt rfl rfl) ?_
  refine AO.done (hK12 _ ?_)
  refine AW.cond' (b := decide (i6 < (Sh.len p0))) rfl (fun b13 => ?_) (fun b13 => ?_)
  · replace h1 := Sh.ite_t b13 h1
    refine AW.skip (hK11 _ ?_)
    refine AW.seq fun K14 hK14 => ?_
    refine AW.block ?_
    refine AW.regionO (by rfl) ?_
    refine ao_q (v := (.own 0 0 (List.length l7))) go0 rfl (aq_mv rfl) ?_
    refine ao_q (v := (i64 i6)) go0 rfl (aq_mv rfl) ?_
    refine ao_q (v := (.sl (List.map eI p0))) go0 rfl (aq_mv rfl) ?_
    refine ao_q (v := (i64 i6)) go0 rfl (aq_mv rfl) ?_
    obtain ⟨c15, gc15, h1⟩ := Sh.bind_some h1
    refine ao_q (v := (.iptr (eI c15) 0)) go0 rfl (aq_ixs ei44 rfl rfl gc15 rfl) ?_
    refine ao_q (v := (i64 c15)) go0 rfl (aq_ldi ti3 rfl rfl) ?_
    obtain ⟨c16, gc16, h1⟩ := Sh.bind_some h1
    refine ao_q (v := (.ptr 0 0 (Int.toNat i6) 0)) go0 rfl (aq_ixo ei44 rfl rfl rfl rfl gc16) ?_
    refine ao_stl (st' := [⟨0, 3, 1, List.map eI (Sh.put l7 i6 c15)⟩]) (u' := c15) go0 ti3 rfl rfl gc16 rfl rfl rfl (show 0 + 1 ≤ 1 by decide) rfl rfl ?_
    refine AO.done (hK14 _ ?_)
    refine AW.regionO (by rfl) ?_
    refine ao_q (v := (i64 i6)) go0 rfl (aq_mv rfl) ?_
    refine ao_q (v := (i64 (Sh.w (i6 + 1)))) go0 rfl (aq_add rfl rfl) ?_
    refine ao_q (v := (i64 (Sh.w (i6 + 1)))) go0 rfl (aq_as rfl) ?_
    exact AO.done (Exists.intro (Sh.w (i6 + 1), Sh.put l7 i6 c15) (And.intro h1 (Wk.to (L := [(0, (.sl (List.map eI p0))), (3, (.own 0 0 (List.length (Sh.put l7 i6 c15)))), (4, (i64 (Sh.w (i6 + 1))))]) ⟨.rfl, (.len (by simp only [Sh.put_len])), .rfl, trivial⟩)))
  · replace h1 := Sh.ite_f b13 h1
    exact AW.exit (M9 l7 (Sh.some_eq h1).symm _ (Wk.to (L := [(3, (.own 0 0 (List.length l7)))]) ⟨.rfl, trivial⟩))

set_option maxRecDepth 100000 in
set_option maxHeartbeats 4000000 in
theorem laws_toCon_ok {N : Nat} {p0 : RCon} {r : RCon} (h0 : laws_toCon N p0 = some r) : ACalls Try.prog 64 [(.agg [(.sl (List.map eI p0.fields))])] [] (fun v st => v = (.agg [(.sl (List.map eI r.fields))]) ∧ st = []) := by
  unfold laws_toCon at h0
  refine ACalls.flat rfl ?_
  refine ACalls.intro Try.func64 rfl (by show 1 ≤ 9; decide) ?_
  show AW _ 0 _ (aret _ 0 Try.f64 _) ⟨9, _, _⟩
  refine AW.weaken (Wk.to (L := [(0, (.agg [(.sl (List.map eI p0.fields))]))]) ⟨.rfl, trivial⟩) ?_
  refine AW.seq fun K1 hK1 => ?_
  refine AW.regionO (by rfl) ?_
  refine ao_box (m := 0) (st' := [⟨0, 106, 1, [[(.sl (List.map eI p0.fields))]]⟩]) go0 rfl rfl rfl rfl rfl ?_
  refine ao_alloc (m := 1) (st' := [⟨0, 106, 1, [[(.sl (List.map eI p0.fields))]]⟩, ⟨0, 112, 1, [[.zc]]⟩]) go0 zi112 rfl rfl ?_
  refine AO.done (hK1 _ ?_)
  refine AW.seq fun K2 hK2 => ?_
  refine AW.regionO (by rfl) ?_
  refine ao_alloc (m := 2) (st' := [⟨0, 106, 1, [[(.sl (List.map eI p0.fields))]]⟩, ⟨0, 112, 1, [[.zc]]⟩, ⟨0, 112, 1, [[.zc]]⟩]) go0 zi112 rfl rfl ?_
  refine AO.done (hK2 _ ?_)
  refine AW.seq fun K3 hK3 => ?_
  refine AW.regionO (by rfl) ?_
  refine ao_q (v := (.ptr 0 0 0 0)) go0 rfl (aq_fap fi106_0 rfl rfl (show 0 + 0 ≤ 1 by decide) rfl) ?_
  refine ao_q (v := (.sl (List.map eI p0.fields))) go0 rfl (aq_ldp ti44 rfl rfl rfl rfl) ?_
  obtain ⟨q4, gq4, h0⟩ := Sh.bind_some h0
  refine ao_call (v' := (.own 3 0 (List.length q4))) (st' := [⟨0, 106, 1, [[(.sl (List.map eI p0.fields))]]⟩, ⟨0, 112, 1, [[.zc]]⟩, ⟨0, 112, 1, [[.zc]]⟩, ⟨0, 3, 1, List.map eI q4⟩]) go0 hb43 (laws_toIntS_ok gq4) rfl rfl ⟨(pure_map' fun _ => rfl), trivial⟩ rfl rfl ?_
  refine ao_q (v := (.ptr 2 0 0 0)) go0 rfl (aq_fap fi112_0 rfl rfl (show 0 + 0 ≤ 1 by decide) rfl) ?_
  refine AO.weaken (Wk.frz (L := [(2, (.ptr 1 0 0 0)), (3, (.ptr 2 0 0 0)), (6, (.sl (List.map eI q4))), (7, (.ptr 2 0 0 0))]) (st' := [⟨0, 106, 1, [[(.sl (List.map eI p0.fields))]]⟩, ⟨0, 112, 1, [[.zc]]⟩, ⟨0, 112, 1, [[.zc]]⟩, ⟨1, 3, 1, []⟩]) (id := 3) rfl (show 0 ≤ 3 by decide) (pure_map fun _ => rfl) ⟨.rfl, .rfl, (.frz rfl), .rfl, trivial⟩ rfl) ?_
  refine ao_str (st' := [⟨0, 106, 1, [[(.sl (List.map eI p0.fields))]]⟩, ⟨0, 112, 1, [[.zc]]⟩, ⟨0, 112, 1, [[(.sl (List.map eI q4))]]⟩, ⟨1, 3, 1, []⟩]) go0 ti44 rfl rfl rfl rfl rfl rfl (show 0 + 1 ≤ 1 by decide) rfl ?_
  refine AO.done (hK3 _ ?_)
  refine AW.seq fun K5 hK5 => ?_
  refine AW.regionO (by rfl) ?_
  refine ao_q (v := (.agg [(.sl (List.map eI q4))])) go0 rfl (aq_ldpa ti112 rfl rfl rfl (show 0 + 1 ≤ 1 by decide) rfl) ?_
  refine ao_str (st' := [⟨0, 106, 1, [[(.sl (List.map eI p0.fields))]]⟩, ⟨0, 112, 1, [[(.sl (List.map eI q4))]]⟩, ⟨0, 112, 1, [[(.sl (List.map eI q4))]]⟩, ⟨1, 3, 1, []⟩]) go0 ti112 rfl rfl rfl rfl rfl rfl (show 0 + 1 ≤ 1 by decide) rfl ?_
  refine AO.done (hK5 _ ?_)
  replace h0 := Sh.some_eq h0
  subst r
  exact AW.ret (Exists.intro _ (And.intro (Wk.refl _ _) (aq_ldpa (x := .tmp 2) (off := 0) (cs := [(.sl (List.map eI q4))]) (vs := [(.sl (List.map eI q4))]) ti112 rfl rfl rfl (show 0 + 1 ≤ 1 by decide) rfl _ rfl)))

set_option maxRecDepth 100000 in
set_option maxHeartbeats 4000000 in
theorem laws_toConS_ok {N : Nat} {p0 : (List RCon)} {r : (List RCon)} (h0 : laws_toConS N p0 = some r) : ACalls Try.prog 42 [(.sl (List.map eRCon p0))] [] (fun v st => v = (.own 0 0 (List.length r)) ∧ st = [⟨0, 112, 1, List.map eRCon r⟩]) := by
  unfold laws_toConS at h0
  refine ACalls.intro Try.func42 rfl (by show 1 ≤ 23; decide) ?_
  show AW _ 0 _ (aret _ 0 Try.f42 _) ⟨23, _, _⟩
  refine AW.weaken (Wk.to (L := [(0, (.sl (List.map eRCon p0)))]) ⟨.rfl, trivial⟩) ?_
  refine AW.seq fun K1 hK1 => ?_
  refine AW.regionO (by rfl) ?_
  refine ao_q (v := .zc) go0 rfl (aq_as rfl) ?_
  refine AO.done (hK1 _ ?_)
  refine AW.seq fun K2 hK2 => ?_
  refine AW.regionO (by rfl) ?_
  refine ao_q (v := (.sl (List.map eRCon p0))) go0 rfl (aq_mv rfl) ?_
  refine ao_q (v := (i64 (Sh.len p0))) go0 rfl (aq_lens sl54 rfl) ?_
  obtain ⟨l3, gl3, h0⟩ := Sh.bind_some h0
  refine ao_make (m := 0) (st' := [⟨0, 112, 1, List.map eRCon l3⟩]) (enc := eRCon) (u := (RCon.mk [])) go0 ei67 rfl rfl rfl gl3 rfl rfl ?_
  refine ao_q (v := (.own 0 0 (List.length l3))) go0 rfl (aq_as rfl) ?_
  refine AO.done (hK2 _ ?_)
  refine AW.seq fun K4 hK4 => ?_
  refine AW.seq fun K5 hK5 => ?_
  refine AW.regionO (by rfl) ?_
  refine ao_q (v := (i64 0)) go0 rfl (aq_as rfl) ?_
  refine AO.done (hK5 _ ?_)
  obtain ⟨o9, h1, h0⟩ := Sh.bind_some h0
  have M9 : ∀ (l8 : (List RCon)), o9 = l8 → ∀ s, Wk 0 s ⟨23, envL [(3, (.own 0 0 (List.length l8)))], [⟨0, 112, 1, List.map eRCon l8⟩]⟩ → K4 s := by
    intro l8 hq s hw
    subst o9
    try dsimp only at h0
    refine hK4 _ (AW.weaken hw ?_)
    refine AW.seq fun K10 hK10 => ?_
    refine AW.regionO (by rfl) ?_
    refine ao_q (v := (.own 0 0 (List.length l8))) go0 rfl (aq_mv rfl) ?_
    refine ao_q (v := (.own 0 0 (List.length l8))) go0 rfl (aq_as rfl) ?_
    refine AO.done (hK10 _ ?_)
    replace h0 := Sh.some_eq h0
    subst r
    exact AW.ret (Exists.intro _ (And.intro (Wk.to (L := [(2, (.own 0 0 (List.length l8)))]) ⟨.rfl, trivial⟩) (And.intro rfl rfl)))
  refine AW.block (AW.loopF (σ := Int × (List RCon)) (fun n v => laws_toConS_L1 N p0 n v.1 v.2 = some o9) (fun (i6, l7) => ⟨23, envL [(0, (.sl (List.map eRCon p0))), (3, (.own 0 0 (List.length l7))), (4, (i64 i6))], [⟨0, 112, 1, List.map eRCon l7⟩]⟩) N (0, l3) h1 (Wk.to (L := [(0, (.sl (List.map eRCon p0))), (3, (.own 0 0 (List.length l3))), (4, (i64 0))]) ⟨.rfl, .rfl, .rfl, trivial⟩) (fun _ hv => by rw [laws_toConS_L1] at hv; cases hv) ?_)
  rintro n ⟨i6, l7⟩ h1
  try dsimp only at h1 ⊢
  rw [laws_toConS_L1] at h1
  refine AW.seq fun K11 hK11 => ?_
  refine AW.seq fun K12 hK12 => ?_
  refine AW.regionO (by rfl) ?_
  refine ao_q (v := (i64 i6)) go0 rfl (aq_mv rfl) ?_
  refine ao_q (v := (.sl (List.map eRCon p0))) go0 rfl (aq_mv rfl) ?_
  refine ao_q (v := (i64 (Sh.len p0))) go0 rfl (aq_lens sl54 rfl) ?_
  refine ao_q (v := (.bool (decide (i6 < (Sh.len p0))))) go0 rfl (aq_lt rfl rfl) ?_
  refine AO.done (hK12 _ ?_)
  refine AW.cond' (b := decide (i6 < (Sh.len p0))) rfl (fun b13 => ?_) (fun b13 => ?_)
  · replace h1 := Sh.ite_t b13 h1
    refine AW.skip (hK11 _ ?_)
    refine AW.seq fun K14 hK14 => ?_
    refine AW.block ?_
    refine AW.regionO (by rfl) ?_
    refine ao_q (v := (.own 0 0 (List.length l7))) go0 rfl (aq_mv rfl) ?_
    refine ao_q (v := (i64 i6)) go0 rfl (aq_mv rfl) ?_
    refine ao_q (v := (.sl (List.map eRCon p0))) go0 rfl (aq_mv rfl) ?_
    refine ao_q (v := (i64 i6)) go0 rfl (aq_mv rfl) ?_
    obtain ⟨c15, gc15, h1⟩ := Sh.bind_some h1
    refine ao_q (v := (.iptr (eRCon c15) 0)) go0 rfl (aq_ixs ei54 rfl rfl gc15 rfl) ?_
    refine ao_q (v := (.agg [(.sl (List.map eI c15.fields))])) go0 rfl (aq_ldia ti106 rfl (show 0 + 1 ≤ 1 by decide) rfl) ?_
    obtain ⟨q16, gq16, h1⟩ := Sh.bind_some h1
    refine ao_call (v' := (.agg [(.sl (List.map eI q16.fields))])) (st' := [⟨0, 112, 1, List.map eRCon l7⟩]) go0 hb64 (laws_toCon_ok gq16) rfl rfl trivial rfl rfl ?_
    obtain ⟨c17, gc17, h1⟩ := Sh.bind_some h1
    refine ao_q (v := (.ptr 0 0 (Int.toNat i6) 0)) go0 rfl (aq_ixo ei67 rfl rfl rfl rfl gc17) ?_
    refine ao_stl (st' := [⟨0, 112, 1, List.map eRCon (Sh.put l7 i6 q16)⟩]) (u' := q16) go0 ti112 rfl rfl gc17 rfl rfl rfl (show 0 + 1 ≤ 1 by decide) rfl rfl ?_
    refine AO.done (hK14 _ ?_)
    refine AW.regionO (by rfl) ?_
    refine ao_q (v := (i64 i6)) go0 rfl (aq_mv rfl) ?_
    refine ao_q (v := (i64 (Sh.w (i6 + 1)))) go0 rfl (aq_add rfl rfl) ?_
    refine ao_q (v := (i64 (Sh.w (i6 + 1)))) go0 rfl (aq_as rfl) ?_
    exact AO.done (Exists.intro (Sh.w (i6 + 1), Sh.put l7 i6 q16) (And.intro h1 (Wk.to (L := [(0, (.sl (List.map eRCon p0))), (3, (.own 0 0 (List.length (Sh.put l7 i6 q16)))), (4, (i64 (Sh.w (i6 + 1))))]) ⟨.rfl, (.len (by simp only [Sh.put_len])), .rfl, trivial⟩)))
  · replace h1 := Sh.ite_f b13 h1
    exact AW.exit (M9 l7 (Sh.some_eq h1).symm _ (Wk.to (L := [(3, (.own 0 0 (List.length l7)))]) ⟨.rfl, trivial⟩))

set_option maxRecDepth 100000 in
set_option maxHeartbeats 4000000 in
theorem laws_toDecl_ok {N : Nat} {p0 : RDecl} {r : RDecl} (h0 : laws_toDecl N p0 = some r) : ACalls Try.prog 23 [(.agg [(i64 p0.from_), (i64 p0.to), (.sl (List.map eRCon p0.cons))])] [] (fun v st => v = (.agg [(i64 r.from_), (i64 r.to), (.sl (List.map eRCon r.cons))]) ∧ st = []) := by
  unfold laws_toDecl at h0
  refine ACalls.flat rfl ?_
  refine ACalls.intro Try.func23 rfl (by show 1 ≤ 15; decide) ?_
  show AW _ 0 _ (aret _ 0 Try.f23 _) ⟨15, _, _⟩
  refine AW.weaken (Wk.to (L := [(0, (.agg [(i64 p0.from_), (i64 p0.to), (.sl (List.map eRCon p0.cons))]))]) ⟨.rfl, trivial⟩) ?_
  refine AW.seq fun K1 hK1 => ?_
  refine AW.regionO (by rfl) ?_
  refine ao_box (m := 0) (st' := [⟨0, 56, 3, [[(i64 p0.from_), (i64 p0.to), (.sl (List.map eRCon p0.cons))]]⟩]) go0 rfl rfl rfl rfl rfl ?_
  refine ao_alloc (m := 1) (st' := [⟨0, 56, 3, [[(i64 p0.from_), (i64 p0.to), (.sl (List.map eRCon p0.cons))]]⟩, ⟨0, 69, 3, [[(i64 0), (i64 0), .zc]]⟩]) go0 zi69 rfl rfl ?_
  refine AO.done (hK1 _ ?_)
  refine AW.seq fun K2 hK2 => ?_
  refine AW.regionO (by rfl) ?_
  refine ao_alloc (m := 2) (st' := [⟨0, 56, 3, [[(i64 p0.from_), (i64 p0.to), (.sl (List.map eRCon p0.cons))]]⟩, ⟨0, 69, 3, [[(i64 0), (i64 0), .zc]]⟩, ⟨0, 69, 3, [[(i64 0), (i64 0), .zc]]⟩]) go0 zi69 rfl rfl ?_
  refine AO.done (hK2 _ ?_)
  refine AW.seq fun K3 hK3 => ?_
  refine AW.regionO (by rfl) ?_
  refine ao_q (v := (.ptr 0 0 0 0)) go0 rfl (aq_fap fi56_0 rfl rfl (show 0 + 0 ≤ 3 by decide) rfl) ?_
  refine ao_q (v := (i64 p0.from_)) go0 rfl (aq_ldp ti3 rfl rfl rfl rfl) ?_
  refine ao_q (v := (.ptr 2 0 0 0)) go0 rfl (aq_fap fi69_0 rfl rfl (show 0 + 0 ≤ 3 by decide) rfl) ?_
  refine ao_str (st' := [⟨0, 56, 3, [[(i64 p0.from_), (i64 p0.to), (.sl (List.map eRCon p0.cons))]]⟩, ⟨0, 69, 3, [[(i64 0), (i64 0), .zc]]⟩, ⟨0, 69, 3, [[(i64 p0.from_), (i64 0), .zc]]⟩]) go0 ti3 rfl rfl rfl rfl rfl rfl (show 0 + 1 ≤ 3 by decide) rfl ?_
  refine AO.done (hK3 _ ?_)
  refine AW.seq fun K4 hK4 => ?_
  refine AW.regionO (by rfl) ?_
  refine ao_q (v := (.ptr 0 0 0 1)) go0 rfl (aq_fap fi56_1 rfl rfl (show 0 + 1 ≤ 3 by decide) rfl) ?_
  refine ao_q (v := (i64 p0.to)) go0 rfl (aq_ldp ti3 rfl rfl rfl rfl) ?_
  refine ao_q (v := (.ptr 2 0 0 1)) go0 rfl (aq_fap fi69_1 rfl rfl (show 0 + 1 ≤ 3 by decide) rfl) ?_
  refine ao_str (st' := [⟨0, 56, 3, [[(i64 p0.from_), (i64 p0.to), (.sl (List.map eRCon p0.cons))]]⟩, ⟨0, 69, 3, [[(i64 0), (i64 0), .zc]]⟩, ⟨0, 69, 3, [[(i64 p0.from_), (i64 p0.to), .zc]]⟩]) go0 ti3 rfl rfl rfl rfl rfl rfl (show 1 + 1 ≤ 3 by decide) rfl ?_
  refine AO.done (hK4 _ ?_)
  refine AW.seq fun K5 hK5 => ?_
  refine AW.regionO (by rfl) ?_
  refine ao_q (v := (.ptr 0 0 0 2)) go0 rfl (aq_fap fi56_2 rfl rfl (show 0 + 2 ≤ 3 by decide) rfl) ?_
  refine ao_q (v := (.sl (List.map eRCon p0.cons))) go0 rfl (aq_ldp ti54 rfl rfl rfl rfl) ?_
  obtain ⟨q6, gq6, h0⟩ := Sh.bind_some h0
  refine ao_call (v' := (.own 3 0 (List.length q6))) (st' := [⟨0, 56, 3, [[(i64 p0.from_), (i64 p0.to), (.sl (List.map eRCon p0.cons))]]⟩, ⟨0, 69, 3, [[(i64 0), (i64 0), .zc]]⟩, ⟨0, 69, 3, [[(i64 p0.from_), (i64 p0.to), .zc]]⟩, ⟨0, 112, 1, List.map eRCon q6⟩]) go0 hb42 (laws_toConS_ok gq6) rfl rfl ⟨(pure_map' fun _ => rfl), trivial⟩ rfl rfl ?_
  refine ao_q (v := (.ptr 2 0 0 2)) go0 rfl (aq_fap fi69_2 rfl rfl (show 0 + 2 ≤ 3 by decide) rfl) ?_
  refine AO.weaken (Wk.frz (L := [(2, (.ptr 1 0 0 0)), (3, (.ptr 2 0 0 0)), (12, (.sl (List.map eRCon q6))), (13, (.ptr 2 0 0 2))]) (st' := [⟨0, 56, 3, [[(i64 p0.from_), (i64 p0.to), (.sl (List.map eRCon p0.cons))]]⟩, ⟨0, 69, 3, [[(i64 0), (i64 0), .zc]]⟩, ⟨0, 69, 3, [[(i64 p0.from_), (i64 p0.to), .zc]]⟩, ⟨1, 112, 1, []⟩]) (id := 3) rfl (show 0 ≤ 3 by decide) (pure_map fun _ => rfl) ⟨.rfl, .rfl, (.frz rfl), .rfl, trivial⟩ rfl) ?_
  refine ao_str (st' := [⟨0, 56, 3, [[(i64 p0.from_), (i64 p0.to), (.sl (List.map eRCon p0.cons))]]⟩, ⟨0, 69, 3, [[(i64 0), (i64 0), .zc]]⟩, ⟨0, 69, 3, [[(i64 p0.from_), (i64 p0.to), (.sl (List.map eRCon q6))]]⟩, ⟨1, 112, 1, []⟩]) go0 ti67 rfl rfl rfl rfl rfl rfl (show 2 + 1 ≤ 3 by decide) rfl ?_
  refine AO.done (hK5 _ ?_)
  refine AW.seq fun K7 hK7 => ?_
  refine AW.regionO (by rfl) ?_
  refine ao_q (v := (.agg [(i64 p0.from_), (i64 p0.to), (.sl (List.map eRCon q6))])) go0 rfl (aq_ldpa ti69 rfl rfl rfl (show 0 + 3 ≤ 3 by decide) rfl) ?_
  refine ao_str (st' := [⟨0, 56, 3, [[(i64 p0.from_), (i64 p0.to), (.sl (List.map eRCon p0.cons))]]⟩, ⟨0, 69, 3, [[(i64 p0.from_), (i64 p0.to), (.sl (List.map eRCon q6))]]⟩, ⟨0, 69, 3, [[(i64 p0.from_), (i64 p0.to), (.sl (List.map eRCon q6))]]⟩, ⟨1, 112, 1, []⟩]) go0 ti69 rfl rfl rfl rfl rfl rfl (show 0 + 3 ≤ 3 by decide) rfl ?_
  refine AO.done (hK7 _ ?_)
  replace h0 := Sh.some_eq h0
  subst r
  exact AW.ret (Exists.intro _ (And.intro (Wk.refl _ _) (aq_ldpa (x := .tmp 2) (off := 0) (cs := [(i64 p0.from_), (i64 p0.to), (.sl (List.map eRCon q6))]) (vs := [(i64 p0.from_), (i64 p0.to), (.sl (List.map eRCon q6))]) ti69 rfl rfl rfl (show 0 + 3 ≤ 3 by decide) rfl _ rfl)))

set_option maxRecDepth 100000 in
set_option maxHeartbeats 4000000 in
theorem laws_toDeclS_ok {N : Nat} {p0 : (List RDecl)} {r : (List RDecl)} (h0 : laws_toDeclS N p0 = some r) : ACalls Try.prog 12 [(.sl (List.map eRDecl p0))] [] (fun v st => v = (.own 0 0 (List.length r)) ∧ st = [⟨0, 69, 3, List.map eRDecl r⟩]) := by
  unfold laws_toDeclS at h0
  refine ACalls.intro Try.func12 rfl (by show 1 ≤ 23; decide) ?_
  show AW _ 0 _ (aret _ 0 Try.f12 _) ⟨23, _, _⟩
  refine AW.weaken (Wk.to (L := [(0, (.sl (List.map eRDecl p0)))]) ⟨.rfl, trivial⟩) ?_
  refine AW.seq fun K1 hK1 => ?_
  refine AW.regionO (by rfl) ?_
  refine ao_q (v := .zc) go0 rfl (aq_as rfl) ?_
  refine AO.done (hK1 _ ?_)
  refine AW.seq fun K2 hK2 => ?_
  refine AW.regionO (by rfl) ?_
  refine ao_q (v := (.sl (List.map eRDecl p0))) go0 rfl (aq_mv rfl) ?_
  refine ao_q (v := (i64 (Sh.len p0))) go0 rfl (aq_lens sl22 rfl) ?_
  obtain ⟨l3, gl3, h0⟩ := Sh.bind_some h0
  refine ao_make (m := 0) (st' := [⟨0, 69, 3, List.map eRDecl l3⟩]) (enc := eRDecl) (u := (RDecl.mk 0 0 [])) go0 ei28 rfl rfl rfl gl3 rfl rfl ?_
  refine ao_q (v := (.own 0 0 (List.length l3))) go0 rfl (aq_as rfl) ?_
  refine AO.done (hK2 _ ?_)
  refine AW.seq fun K4 hK4 => ?_
  refine AW.seq fun K5 hK5 => ?_
  refine AW.regionO (by rfl) ?_
  refine ao_q (v := (i64 0)) go0 rfl (aq_as rfl) ?_
  refine AO.done (hK5 _ ?_)
  obtain ⟨o9, h1, h0⟩ := Sh.bind_some h0
  have M9 : ∀ (l8 : (List RDecl)), o9 = l8 → ∀ s, Wk 0 s ⟨23, envL [(3, (.own 0 0 (List.length l8)))], [⟨0, 69, 3, List.map eRDecl l8⟩]⟩ → K4 s := by
    intro l8 hq s hw
    subst o9
    try dsimp only at h0
    refine hK4 _ (AW.weaken hw ?_)
    refine AW.seq fun K10 hK10 => ?_
    refine AW.regionO (by rfl) ?_
    refine ao_q (v := (.own 0 0 (List.length l8))) go0 rfl (aq_mv rfl) ?_
    refine ao_q (v := (.own 0 0 (List.length l8))) go0 rfl (aq_as rfl) ?_
    refine AO.done (hK10 _ ?_)
    replace h0 := Sh.some_eq h0
    subst r
    exact AW.ret (Exists.intro _ (And.intro (Wk.to (L := [(2, (.own 0 0 (List.length l8)))]) ⟨.rfl, trivial⟩) (And.intro rfl rfl)))
  refine AW.block (AW.loopF (σ := Int × (List RDecl)) (fun n v => laws_toDeclS_L1 N p0 n v.1 v.2 = some o9) (fun (i6, l7) => ⟨23, envL [(0, (.sl (List.map eRDecl p0))), (3, (.own 0 0 (List.length l7))), (4, (i64 i6))], [⟨0, 69, 3, List.map eRDecl l7⟩]⟩) N (0, l3) h1 (Wk.to (L := [(0, (.sl (List.map eRDecl p0))), (3, (.own 0 0 (List.length l3))), (4, (i64 0))]) ⟨.rfl, .rfl, .rfl, trivial⟩) (fun _ hv => by rw [laws_toDeclS_L1] at hv; cases hv) ?_)
  rintro n ⟨i6, l7⟩ h1
  try dsimp only at h1 ⊢
  rw [laws_toDeclS_L1] at h1
  refine AW.seq fun K11 hK11 => ?_
  refine AW.seq fun K12 hK12 => ?_
  refine AW.regionO (by rfl) ?_
  refine ao_q (v := (i64 i6)) go0 rfl (aq_mv rfl) ?_
  refine ao_q (v := (.sl (List.map eRDecl p0))) go0 rfl (aq_mv rfl) ?_
  refine ao_q (v := (i64 (Sh.len p0))) go0 rfl (aq_lens sl22 rfl) ?_
  refine ao_q (v := (.bool (decide (i6 < (Sh.len p0))))) go0 rfl (aq_lt rfl rfl) ?_
  refine AO.done (hK12 _ ?_)
  refine AW.cond' (b := decide (i6 < (Sh.len p0))) rfl (fun b13 => ?_) (fun b13 => ?_)
  · replace h1 := Sh.ite_t b13 h1
    refine AW.skip (hK11 _ ?_)
    refine AW.seq fun K14 hK14 => ?_
    refine AW.block ?_
    refine AW.regionO (by rfl) ?_
    refine ao_q (v := (.own 0 0 (List.length l7))) go0 rfl (aq_mv rfl) ?_
    refine ao_q (v := (i64 i6)) go0 rfl (aq_mv rfl) ?_
    refine ao_q (v := (.sl (List.map eRDecl p0))) go0 rfl (aq_mv rfl) ?_
    refine ao_q (v := (i64 i6)) go0 rfl (aq_mv rfl) ?_
    obtain ⟨c15, gc15, h1⟩ := Sh.bind_some h1
    refine ao_q (v := (.iptr (eRDecl c15) 0)) go0 rfl (aq_ixs ei22 rfl rfl gc15 rfl) ?_
    refine ao_q (v := (.agg [(i64 c15.from_), (i64 c15.to), (.sl (List.map eRCon c15.cons))])) go0 rfl (aq_ldia ti56 rfl (show 0 + 3 ≤ 3 by decide) rfl) ?_
    obtain ⟨q16, gq16, h1⟩ := Sh.bind_some h1
    refine ao_call (v' := (.agg [(i64 q16.from_), (i64 q16.to), (.sl (List.map eRCon q16.cons))])) (st' := [⟨0, 69, 3, List.map eRDecl l7⟩]) go0 hb23 (laws_toDecl_ok gq16) rfl rfl trivial rfl rfl ?_
    obtain ⟨c17, gc17, h1⟩ := Sh.bind_some h1
    refine ao_q (v := (.ptr 0 0 (Int.toNat i6) 0)) go0 rfl (aq_ixo ei28 rfl rfl rfl rfl gc17) ?_
    refine ao_stl (st' := [⟨0, 69, 3, List.map eRDecl (Sh.put l7 i6 q16)⟩]) (u' := q16) go0 ti69 rfl rfl gc17 rfl rfl rfl (show 0 + 3 ≤ 3 by decide) rfl rfl ?_
    refine AO.done (hK14 _ ?_)
    refine AW.regionO (by rfl) ?_
    refine ao_q (v := (i64 i6)) go0 rfl (aq_mv rfl) ?_
    refine ao_q (v := (i64 (Sh.w (i6 + 1)))) go0 rfl (aq_add rfl rfl) ?_
    refine ao_q (v := (i64 (Sh.w (i6 + 1)))) go0 rfl (aq_as rfl) ?_
    exact AO.done (Exists.intro (Sh.w (i6 + 1), Sh.put l7 i6 q16) (And.intro h1 (Wk.to (L := [(0, (.sl (List.map eRDecl p0))), (3, (.own 0 0 (List.length (Sh.put l7 i6 q16)))), (4, (i64 (Sh.w (i6 + 1))))]) ⟨.rfl, (.len (by simp only [Sh.put_len])), .rfl, trivial⟩)))
  · replace h1 := Sh.ite_f b13 h1
    exact AW.exit (M9 l7 (Sh.some_eq h1).symm _ (Wk.to (L := [(3, (.own 0 0 (List.length l7)))]) ⟨.rfl, trivial⟩))

set_option maxRecDepth 100000 in
set_option maxHeartbeats 4000000 in
theorem laws_toInstr_ok {N : Nat} {p0 : RInstr} {r : RInstr} (h0 : laws_toInstr N p0 = some r) : ACalls Try.prog 65 [(.agg [(i64 p0.op), (i64 p0.dst), (i64 p0.num), (i64 p0.into), (.sl (List.map eI p0.args)), (.sl (List.map eI p0.jumps))])] [] (fun v st => v = (.agg [(i64 r.op), (i64 r.dst), (i64 r.num), (i64 r.into), (.sl (List.map eI r.args)), (.sl (List.map eI r.jumps))]) ∧ st = []) := by
  unfold laws_toInstr at h0
  refine ACalls.flat rfl ?_
  refine ACalls.intro Try.func65 rfl (by show 1 ≤ 25; decide) ?_
  show AW _ 0 _ (aret _ 0 Try.f65 _) ⟨25, _, _⟩
  refine AW.weaken (Wk.to (L := [(0, (.agg [(i64 p0.op), (i64 p0.dst), (i64 p0.num), (i64 p0.into), (.sl (List.map eI p0.args)), (.sl (List.map eI p0.jumps))]))]) ⟨.rfl, trivial⟩) ?_
  refine AW.seq fun K1 hK1 => ?_
  refine AW.regionO (by rfl) ?_
  refine ao_box (m := 0) (st' := [⟨0, 108, 6, [[(i64 p0.op), (i64 p0.dst), (i64 p0.num), (i64 p0.into), (.sl (List.map eI p0.args)), (.sl (List.map eI p0.jumps))]]⟩]) go0 rfl rfl rfl rfl rfl ?_
  refine ao_alloc (m := 1) (st' := [⟨0, 108, 6, [[(i64 p0.op), (i64 p0.dst), (i64 p0.num), (i64 p0.into), (.sl (List.map eI p0.args)), (.sl (List.map eI p0.jumps))]]⟩, ⟨0, 49, 6, [[(i64 0), (i64 0), (i64 0), (i64 0), .zc, .zc]]⟩]) go0 zi49 rfl rfl ?_
  refine AO.done (hK1 _ ?_)
  refine AW.seq fun K2 hK2 => ?_
  refine AW.regionO (by rfl) ?_
  refine ao_alloc (m := 2) (st' := [⟨0, 108, 6, [[(i64 p0.op), (i64 p0.dst), (i64 p0.num), (i64 p0.into), (.sl (List.map eI p0.args)), (.sl (List.map eI p0.jumps))]]⟩, ⟨0, 49, 6, [[(i64 0), (i64 0), (i64 0), (i64 0), .zc, .zc]]⟩, ⟨0, 49, 6, [[(i64 0), (i64 0), (i64 0), (i64 0), .zc, .zc]]⟩]) go0 zi49 rfl rfl ?_
  refine AO.done (hK2 _ ?_)
  refine AW.seq fun K3 hK3 => ?_
  refine AW.regionO (by rfl) ?_
  refine ao_q (v := (.ptr 0 0 0 0)) go0 rfl (aq_fap fi108_0 rfl rfl (show 0 + 0 ≤ 6 by decide) rfl) ?_
  refine ao_q (v := (i64 p0.op)) go0 rfl (aq_ldp ti3 rfl rfl rfl rfl) ?_
  refine ao_q (v := (.ptr 2 0 0 0)) go0 rfl (aq_fap fi49_0 rfl rfl (show 0 + 0 ≤ 6 by decide) rfl) ?_
  refine ao_str (st' := [⟨0, 108, 6, [[(i64 p0.op), (i64 p0.dst), (i64 p0.num), (i64 p0.into), (.sl (List.map eI p0.args)), (.sl (List.map eI p0.jumps))]]⟩, ⟨0, 49, 6, [[(i64 0), (i64 0), (i64 0), (i64 0), .zc, .zc]]⟩, ⟨0, 49, 6, [[(i64 p0.op), (i64 0), (i64 0), (i64 0), .zc, .zc]]⟩]) go0 ti3 rfl rfl rfl rfl rfl rfl (show 0 + 1 ≤ 6 by decide) rfl ?_
  refine AO.done (hK3 _ ?_)
  refine AW.seq fun K4 hK4 => ?_
  refine AW.regionO (by rfl) ?_
  refine ao_q (v := (.ptr 0 0 0 1)) go0 rfl (aq_fap fi108_1 rfl rfl (show 0 + 1 ≤ 6 by decide) rfl) ?_
  refine ao_q (v := (i64 p0.dst)) go0 rfl (aq_ldp ti3 rfl rfl rfl rfl) ?_
  refine ao_q (v := (.ptr 2 0 0 1)) go0 rfl (aq_fap fi49_1 rfl rfl (show 0 + 1 ≤ 6 by decide) rfl) ?_
  refine ao_str (st' := [⟨0, 108, 6, [[(i64 p0.op), (i64 p0.dst), (i64 p0.num), (i64 p0.into), (.sl (List.map eI p0.args)), (.sl (List.map eI p0.jumps))]]⟩, ⟨0, 49, 6, [[(i64 0), (i64 0), (i64 0), (i64 0), .zc, .zc]]⟩, ⟨0, 49, 6, [[(i64 p0.op), (i64 p0.dst), (i64 0), (i64 0), .zc, .zc]]⟩]) go0 ti3 rfl rfl rfl rfl rfl rfl (show 1 + 1 ≤ 6 by decide) rfl ?_
  refine AO.done (hK4 _ ?_)
  refine AW.seq fun K5 hK5 => ?_
  refine AW.regionO (by rfl) ?_
  refine ao_q (v := (.ptr 0 0 0 2)) go0 rfl (aq_fap fi108_2 rfl rfl (show 0 + 2 ≤ 6 by decide) rfl) ?_
  refine ao_q (v := (i64 p0.num)) go0 rfl (aq_ldp ti3 rfl rfl rfl rfl) ?_
  refine ao_q (v := (.ptr 2 0 0 2)) go0 rfl (aq_fap fi49_2 rfl rfl (show 0 + 2 ≤ 6 by decide) rfl) ?_
  refine ao_str (st' := [⟨0, 108, 6, [[(i64 p0.op), (i64 p0.dst), (i64 p0.num), (i64 p0.into), (.sl (List.map eI p0.args)), (.sl (List.map eI p0.jumps))]]⟩, ⟨0, 49, 6, [[(i64 0), (i64 0), (i64 0), (i64 0), .zc, .zc]]⟩, ⟨0, 49, 6, [[(i64 p0.op), (i64 p0.dst), (i64 p0.num), (i64 0), .zc, .zc]]⟩]) go0 ti3 rfl rfl rfl rfl rfl rfl (show 2 + 1 ≤ 6 by decide) rfl ?_
  refine AO.done (hK5 _ ?_)
  refine AW.seq fun K6 hK6 => ?_
  refine AW.regionO (by rfl) ?_
  refine ao_q (v := (.ptr 0 0 0 3)) go0 rfl (aq_fap fi108_3 rfl rfl (show 0 + 3 ≤ 6 by decide) rfl) ?_
  refine ao_q (v := (i64 p0.into)) go0 rfl (aq_ldp ti3 rfl rfl rfl rfl) ?_
  refine ao_q (v := (.ptr 2 0 0 3)) go0 rfl (aq_fap fi49_3 rfl rfl (show 0 + 3 ≤ 6 by decide) rfl) ?_
  refine ao_str (st' := [⟨0, 108, 6, [[(i64 p0.op), (i64 p0.dst), (i64 p0.num), (i64 p0.into), (.sl (List.map eI p0.args)), (.sl (List.map eI p0.jumps))]]⟩, ⟨0, 49, 6, [[(i64 0), (i64 0), (i64 0), (i64 0), .zc, .zc]]⟩, ⟨0, 49, 6, [[(i64 p0.op), (i64 p0.dst), (i64 p0.num), (i64 p0.into), .zc, .zc]]⟩]) go0 ti3 rfl rfl rfl rfl rfl rfl (show 3 + 1 ≤ 6 by decide) rfl ?_
  refine AO.done (hK6 _ ?_)
  refine AW.seq fun K7 hK7 => ?_
  refine AW.regionO (by rfl) ?_
  refine ao_q (v := (.ptr 0 0 0 4)) go0 rfl (aq_fap fi108_4 rfl rfl (show 0 + 4 ≤ 6 by decide) rfl) ?_
  refine ao_q (v := (.sl (List.map eI p0.args))) go0 rfl (aq_ldp ti44 rfl rfl rfl rfl) ?_
  obtain ⟨q8, gq8, h0⟩ := Sh.bind_some h0
  refine ao_call (v' := (.own 3 0 (List.length q8))) (st' := [⟨0, 108, 6, [[(i64 p0.op), (i64 p0.dst), (i64 p0.num), (i64 p0.into), (.sl (List.map eI p0.args)), (.sl (List.map eI p0.jumps))]]⟩, ⟨0, 49, 6, [[(i64 0), (i64 0), (i64 0), (i64 0), .zc, .zc]]⟩, ⟨0, 49, 6, [[(i64 p0.op), (i64 p0.dst), (i64 p0.num), (i64 p0.into), .zc, .zc]]⟩, ⟨0, 3, 1, List.map eI q8⟩]) go0 hb43 (laws_toIntS_ok gq8) rfl rfl ⟨(pure_map' fun _ => rfl), trivial⟩ rfl rfl ?_
  refine ao_q (v := (.ptr 2 0 0 4)) go0 rfl (aq_fap fi49_4 rfl rfl (show 0 + 4 ≤ 6 by decide) rfl) ?_
  refine AO.weaken (Wk.frz (L := [(1, (.ptr 0 0 0 0)), (2, (.ptr 1 0 0 0)), (3, (.ptr 2 0 0 0)), (18, (.sl (List.map eI q8))), (19, (.ptr 2 0 0 4))]) (st' := [⟨0, 108, 6, [[(i64 p0.op), (i64 p0.dst), (i64 p0.num), (i64 p0.into), (.sl (List.map eI p0.args)), (.sl (List.map eI p0.jumps))]]⟩, ⟨0, 49, 6, [[(i64 0), (i64 0), (i64 0), (i64 0), .zc, .zc]]⟩, ⟨0, 49, 6, [[(i64 p0.op), (i64 p0.dst), (i64 p0.num), (i64 p0.into), .zc, .zc]]⟩, ⟨1, 3, 1, []⟩]) (id := 3) rfl (show 0 ≤ 3 by decide) (pure_map fun _ => rfl) ⟨.rfl, .rfl, .rfl, (.frz rfl), .rfl, trivial⟩ rfl) ?_
  refine ao_str (st' := [⟨0, 108, 6, [[(i64 p0.op), (i64 p0.dst), (i64 p0.num), (i64 p0.into), (.sl (List.map eI p0.args)), (.sl (List.map eI p0.jumps))]]⟩, ⟨0, 49, 6, [[(i64 0), (i64 0), (i64 0), (i64 0), .zc, .zc]]⟩, ⟨0, 49, 6, [[(i64 p0.op), (i64 p0.dst), (i64 p0.num), (i64 p0.into), (.sl (List.map eI q8)), .zc]]⟩, ⟨1, 3, 1, []⟩]) go0 ti44 rfl rfl rfl rfl rfl rfl (show 4 + 1 ≤ 6 by decide) rfl ?_
  refine AO.done (hK7 _ ?_)
  refine AW.seq fun K9 hK9 => ?_
  refine AW.regionO (by rfl) ?_
  refine ao_q (v := (.ptr 0 0 0 5)) go0 rfl (aq_fap fi108_5 rfl rfl (show 0 + 5 ≤ 6 by decide) rfl) ?_
  refine ao_q (v := (.sl (List.map eI p0.jumps))) go0 rfl (aq_ldp ti44 rfl rfl rfl rfl) ?_
  obtain ⟨q10, gq10, h0⟩ := Sh.bind_some h0
  refine ao_call (v' := (.own 4 0 (List.length q10))) (st' := [⟨0, 108, 6, [[(i64 p0.op), (i64 p0.dst), (i64 p0.num), (i64 p0.into), (.sl (List.map eI p0.args)), (.sl (List.map eI p0.jumps))]]⟩, ⟨0, 49, 6, [[(i64 0), (i64 0), (i64 0), (i64 0), .zc, .zc]]⟩, ⟨0, 49, 6, [[(i64 p0.op), (i64 p0.dst), (i64 p0.num), (i64 p0.into), (.sl (List.map eI q8)), .zc]]⟩, ⟨1, 3, 1, []⟩, ⟨0, 3, 1, List.map eI q10⟩]) go0 hb43 (laws_toIntS_ok gq10) rfl rfl ⟨(pure_map' fun _ => rfl), trivial⟩ rfl rfl ?_
  refine ao_q (v := (.ptr 2 0 0 5)) go0 rfl (aq_fap fi49_5 rfl rfl (show 0 + 5 ≤ 6 by decide) rfl) ?_
  refine AO.weaken (Wk.frz (L := [(2, (.ptr 1 0 0 0)), (3, (.ptr 2 0 0 0)), (22, (.sl (List.map eI q10))), (23, (.ptr 2 0 0 5))]) (st' := [⟨0, 108, 6, [[(i64 p0.op), (i64 p0.dst), (i64 p0.num), (i64 p0.into), (.sl (List.map eI p0.args)), (.sl (List.map eI p0.jumps))]]⟩, ⟨0, 49, 6, [[(i64 0), (i64 0), (i64 0), (i64 0), .zc, .zc]]⟩, ⟨0, 49, 6, [[(i64 p0.op), (i64 p0.dst), (i64 p0.num), (i64 p0.into), (.sl (List.map eI q8)), .zc]]⟩, ⟨1, 3, 1, []⟩, ⟨1, 3, 1, []⟩]) (id := 4) rfl (show 0 ≤ 4 by decide) (pure_map fun _ => rfl) ⟨.rfl, .rfl, (.frz rfl), .rfl, trivial⟩ rfl) ?_
  refine ao_str (st' := [⟨0, 108, 6, [[(i64 p0.op), (i64 p0.dst), (i64 p0.num), (i64 p0.into), (.sl (List.map eI p0.args)), (.sl (List.map eI p0.jumps))]]⟩, ⟨0, 49, 6, [[(i64 0), (i64 0), (i64 0), (i64 0), .zc, .zc]]⟩, ⟨0, 49, 6, [[(i64 p0.op), (i64 p0.dst), (i64 p0.num), (i64 p0.into), (.sl (List.map eI q8)), (.sl (List.map eI q10))]]⟩, ⟨1, 3, 1, []⟩, ⟨1, 3, 1, []⟩]) go0 ti44 rfl rfl rfl rfl rfl rfl (show 5 + 1 ≤ 6 by decide) rfl ?_
  refine AO.done (hK9 _ ?_)
  refine AW.seq fun K11 hK11 => ?_
  refine AW.regionO (by rfl) ?_
  refine ao_q (v := (.agg [(i64 p0.op), (i64 p0.dst), (i64 p0.num), (i64 p0.into), (.sl (List.map eI q8)), (.sl (List.map eI q10))])) go0 rfl (aq_ldpa ti49 rfl rfl rfl (show 0 + 6 ≤ 6 by decide) rfl) ?_
  refine ao_str (st' := [⟨0, 108, 6, [[(i64 p0.op), (i64 p0.dst), (i64 p0.num), (i64 p0.into), (.sl (List.map eI p0.args)), (.sl (List.map eI p0.jumps))]]⟩, ⟨0, 49, 6, [[(i64 p0.op), (i64 p0.dst), (i64 p0.num), (i64 p0.into), (.sl (List.map eI q8)), (.sl (List.map eI q10))]]⟩, ⟨0, 49, 6, [[(i64 p0.op), (i64 p0.dst), (i64 p0.num), (i64 p0.into), (.sl (List.map eI q8)), (.sl (List.map eI q10))]]⟩, ⟨1, 3, 1, []⟩, ⟨1, 3, 1, []⟩]) go0 ti49 rfl rfl rfl rfl rfl rfl (show 0 + 6 ≤ 6 by decide) rfl ?_
  refine AO.done (hK11 _ ?_)
  replace h0 := Sh.some_eq h0
  subst r
  exact AW.ret (Exists.intro _ (And.intro (Wk.refl _ _) (aq_ldpa (x := .tmp 2) (off := 0) (cs := [(i64 p0.op), (i64 p0.dst), (i64 p0.num), (i64 p0.into), (.sl (List.map eI q8)), (.sl (List.map eI q10))]) (vs := [(i64 p0.op), (i64 p0.dst), (i64 p0.num), (i64 p0.into), (.sl (List.map eI q8)), (.sl (List.map eI q10))]) ti49 rfl rfl rfl (show 0 + 6 ≤ 6 by decide) rfl _ rfl)))

set_option maxRecDepth 100000 in
set_option maxHeartbeats 4000000 in
theorem laws_toInstrS_ok {N : Nat} {p0 : (List RInstr)} {r : (List RInstr)} (h0 : laws_toInstrS N p0 = some r) : ACalls Try.prog 44 [(.sl (List.map eRInstr p0))] [] (fun v st => v = (.own 0 0 (List.length r)) ∧ st = [⟨0, 49, 6, List.map eRInstr r⟩]) := by
  unfold laws_toInstrS at h0
  refine ACalls.intro Try.func44 rfl (by show 1 ≤ 23; decide) ?_
  show AW _ 0 _ (aret _ 0 Try.f44 _) ⟨23, _, _⟩
  refine AW.weaken (Wk.to (L := [(0, (.sl (List.map eRInstr p0)))]) ⟨.rfl, trivial⟩) ?_
  refine AW.seq fun K1 hK1 => ?_
  refine AW.regionO (by rfl) ?_
  refine ao_q (v := .zc) go0 rfl (aq_as rfl) ?_
  refine AO.done (hK1 _ ?_)
  refine AW.seq fun K2 hK2 => ?_
  refine AW.regionO (by rfl) ?_
  refine ao_q (v := (.sl (List.map eRInstr p0))) go0 rfl (aq_mv rfl) ?_
  refine ao_q (v := (i64 (Sh.len p0))) go0 rfl (aq_lens sl58 rfl) ?_
  obtain ⟨l3, gl3, h0⟩ := Sh.bind_some h0
  refine ao_make (m := 0) (st' := [⟨0, 49, 6, List.map eRInstr l3⟩]) (enc := eRInstr) (u := (RInstr.mk 0 0 0 0 [] [])) go0 ei45 rfl rfl rfl gl3 rfl rfl ?_
  refine ao_q (v := (.own 0 0 (List.length l3))) go0 rfl (aq_as rfl) ?_
  refine AO.done (hK2 _ ?_)
  refine AW.seq fun K4 hK4 => ?_
  refine AW.seq fun K5 hK5 => ?_
  refine AW.regionO (by rfl) ?_
  refine ao_q (v := (i64 0)) go0 rfl (aq_as rfl) ?_
  refine AO.done (hK5 _ ?_)
  obtain ⟨o9, h1, h0⟩ := Sh.bind_some h0
  have M9 : ∀ (l8 : (List RInstr)), o9 = l8 → ∀ s, Wk 0 s ⟨23, envL [(3, (.own 0 0 (List.length l8)))], [⟨0, 49, 6, List.map eRInstr l8⟩]⟩ → K4 s := by
    intro l8 hq s hw
    subst o9
    try dsimp only at h0
    refine hK4 _ (AW.weaken hw ?_)
    refine AW.seq fun K10 hK10 => ?_
    refine AW.regionO (by rfl) ?_
    refine ao_q (v := (.own 0 0 (List.length l8))) go0 rfl (aq_mv rfl) ?_
    refine ao_q (v := (.own 0 0 (List.length l8))) go0 rfl (aq_as rfl) ?_
    refine AO.done (hK10 _ ?_)
    replace h0 := Sh.some_eq h0
    subst r
    exact AW.ret (Exists.intro _ (And.intro (Wk.to (L := [(2, (.own 0 0 (List.length l8)))]) ⟨.rfl, trivial⟩) (And.intro rfl rfl)))
  refine AW.block (AW.loopF (σ := Int × (List RInstr)) (fun n v => laws_toInstrS_L1 N p0 n v.1 v.2 = some o9) (fun (i6, l7) => ⟨23, envL [(0, (.sl (List.map eRInstr p0))), (3, (.own 0 0 (List.length l7))), (4, (i64 i6))], [⟨0, 49, 6, List.map eRInstr l7⟩]⟩) N (0, l3) h1 (Wk.to (L := [(0, (.sl (List.map eRInstr p0))), (3, (.own 0 0 (List.length l3))), (4, (i64 0))]) ⟨.rfl, .rfl, .rfl, trivial⟩) (fun _ hv => by rw [laws_toInstrS_L1] at hv; cases hv) ?_)
  rintro n ⟨i6, l7⟩ h1
  try dsimp only at h1 ⊢
  rw [laws_toInstrS_L1] at h1
  refine AW.seq fun K11 hK11 => ?_
  refine AW.seq fun K12 hK12 => ?_
  refine AW.regionO (by rfl) ?_
  refine ao_q (v := (i64 i6)) go0 rfl (aq_mv rfl) ?_
  refine ao_q (v := (.sl (List.map eRInstr p0))) go0 rfl (aq_mv rfl) ?_
  refine ao_q (v := (i64 (Sh.len p0))) go0 rfl (aq_lens sl58 rfl) ?_
  refine ao_q (v := (.bool (decide (i6 < (Sh.len p0))))) go0 rfl (aq_lt rfl rfl) ?_
  refine AO.done (hK12 _ ?_)
  refine AW.cond' (b := decide (i6 < (Sh.len p0))) rfl (fun b13 => ?_) (fun b13 => ?_)
  · replace h1 := Sh.ite_t b13 h1
    refine AW.skip (hK11 _ ?_)
    refine AW.seq fun K14 hK14 => ?_
    refine AW.block ?_
    refine AW.regionO (by rfl) ?_
    refine ao_q (v := (.own 0 0 (List.length l7))) go0 rfl (aq_mv rfl) ?_
    refine ao_q (v := (i64 i6)) go0 rfl (aq_mv rfl) ?_
    refine ao_q (v := (.sl (List.map eRInstr p0))) go0 rfl (aq_mv rfl) ?_
    refine ao_q (v := (i64 i6)) go0 rfl (aq_mv rfl) ?_
    obtain ⟨c15, gc15, h1⟩ := Sh.bind_some h1
    refine ao_q (v := (.iptr (eRInstr c15) 0)) go0 rfl (aq_ixs ei58 rfl rfl gc15 rfl) ?_
    refine ao_q (v := (.agg [(i64 c15.op), (i64 c15.dst), (i64 c15.num), (i64 c15.into), (.sl (List.map eI c15.args)), (.sl (List.map eI c15.jumps))])) go0 rfl (aq_ldia ti108 rfl (show 0 + 6 ≤ 6 by decide) rfl) ?_
    obtain ⟨q16, gq16, h1⟩ := Sh.bind_some h1
    refine ao_call (v' := (.agg [(i64 q16.op), (i64 q16.dst), (i64 q16.num), (i64 q16.into), (.sl (List.map eI q16.args)), (.sl (List.map eI q16.jumps))])) (st' := [⟨0, 49, 6, List.map eRInstr l7⟩]) go0 hb65 (laws_toInstr_ok gq16) rfl rfl trivial rfl rfl ?_
    obtain ⟨c17, gc17, h1⟩ := Sh.bind_some h1
    refine ao_q (v := (.ptr 0 0 (Int.toNat i6) 0)) go0 rfl (aq_ixo ei45 rfl rfl rfl rfl gc17) ?_
    refine ao_stl (st' := [⟨0, 49, 6, List.map eRInstr (Sh.put l7 i6 q16)⟩]) (u' := q16) go0 ti49 rfl rfl gc17 rfl rfl rfl (show 0 + 6 ≤ 6 by decide) rfl rfl ?_
    refine AO.done (hK14 _ ?_)
    refine AW.regionO (by rfl) ?_
    refine ao_q (v := (i64 i6)) go0 rfl (aq_mv rfl) ?_
    refine ao_q (v := (i64 (Sh.w (i6 + 1)))) go0 rfl (aq_add rfl rfl) ?_
    refine ao_q (v := (i64 (Sh.w (i6 + 1)))) go0 rfl (aq_as rfl) ?_
    exact AO.done (Exists.intro (Sh.w (i6 + 1), Sh.put l7 i6 q16) (And.intro h1 (Wk.to (L := [(0, (.sl (List.map eRInstr p0))), (3, (.own 0 0 (List.length (Sh.put l7 i6 q16)))), (4, (i64 (Sh.w (i6 + 1))))]) ⟨.rfl, (.len (by simp only [Sh.put_len])), .rfl, trivial⟩)))
  · replace h1 := Sh.ite_f b13 h1
    exact AW.exit (M9 l7 (Sh.some_eq h1).symm _ (Wk.to (L := [(3, (.own 0 0 (List.length l7)))]) ⟨.rfl, trivial⟩))

set_option maxRecDepth 100000 in
set_option maxHeartbeats 4000000 in
theorem laws_toProc_ok {N : Nat} {p0 : RProc} {r : RProc} (h0 : laws_toProc N p0 = some r) : ACalls Try.prog 24 [(.agg [(.sl (List.map eI p0.params)), (.sl (List.map eI p0.lent)), (i64 p0.result), (i64 p0.regs), (.sl (List.map eRInstr p0.code))])] [] (fun v st => v = (.agg [(.sl (List.map eI r.params)), (.sl (List.map eI r.lent)), (i64 r.result), (i64 r.regs), (.sl (List.map eRInstr r.code))]) ∧ st = []) := by
  unfold laws_toProc at h0
  refine ACalls.flat rfl ?_
  refine ACalls.intro Try.func24 rfl (by show 1 ≤ 23; decide) ?_
  show AW _ 0 _ (aret _ 0 Try.f24 _) ⟨23, _, _⟩
  refine AW.weaken (Wk.to (L := [(0, (.agg [(.sl (List.map eI p0.params)), (.sl (List.map eI p0.lent)), (i64 p0.result), (i64 p0.regs), (.sl (List.map eRInstr p0.code))]))]) ⟨.rfl, trivial⟩) ?_
  refine AW.seq fun K1 hK1 => ?_
  refine AW.regionO (by rfl) ?_
  refine ao_box (m := 0) (st' := [⟨0, 60, 5, [[(.sl (List.map eI p0.params)), (.sl (List.map eI p0.lent)), (i64 p0.result), (i64 p0.regs), (.sl (List.map eRInstr p0.code))]]⟩]) go0 rfl rfl rfl rfl rfl ?_
  refine ao_alloc (m := 1) (st' := [⟨0, 60, 5, [[(.sl (List.map eI p0.params)), (.sl (List.map eI p0.lent)), (i64 p0.result), (i64 p0.regs), (.sl (List.map eRInstr p0.code))]]⟩, ⟨0, 47, 5, [[.zc, .zc, (i64 0), (i64 0), .zc]]⟩]) go0 zi47 rfl rfl ?_
  refine AO.done (hK1 _ ?_)
  refine AW.seq fun K2 hK2 => ?_
  refine AW.regionO (by rfl) ?_
  refine ao_alloc (m := 2) (st' := [⟨0, 60, 5, [[(.sl (List.map eI p0.params)), (.sl (List.map eI p0.lent)), (i64 p0.result), (i64 p0.regs), (.sl (List.map eRInstr p0.code))]]⟩, ⟨0, 47, 5, [[.zc, .zc, (i64 0), (i64 0), .zc]]⟩, ⟨0, 47, 5, [[.zc, .zc, (i64 0), (i64 0), .zc]]⟩]) go0 zi47 rfl rfl ?_
  refine AO.done (hK2 _ ?_)
  refine AW.seq fun K3 hK3 => ?_
  refine AW.regionO (by rfl) ?_
  refine ao_q (v := (.ptr 0 0 0 0)) go0 rfl (aq_fap fi60_0 rfl rfl (show 0 + 0 ≤ 5 by decide) rfl) ?_
  refine ao_q (v := (.sl (List.map eI p0.params))) go0 rfl (aq_ldp ti44 rfl rfl rfl rfl) ?_
  obtain ⟨q4, gq4, h0⟩ := Sh.bind_some h0
  refine ao_call (v' := (.own 3 0 (List.length q4))) (st' := [⟨0, 60, 5, [[(.sl (List.map eI p0.params)), (.sl (List.map eI p0.lent)), (i64 p0.result), (i64 p0.regs), (.sl (List.map eRInstr p0.code))]]⟩, ⟨0, 47, 5, [[.zc, .zc, (i64 0), (i64 0), .zc]]⟩, ⟨0, 47, 5, [[.zc, .zc, (i64 0), (i64 0), .zc]]⟩, ⟨0, 3, 1, List.map eI q4⟩]) go0 hb43 (laws_toIntS_ok gq4) rfl rfl ⟨(pure_map' fun _ => rfl), trivial⟩ rfl rfl ?_
  refine ao_q (v := (.ptr 2 0 0 0)) go0 rfl (aq_fap fi47_0 rfl rfl (show 0 + 0 ≤ 5 by decide) rfl) ?_
  refine AO.weaken (Wk.frz (L := [(1, (.ptr 0 0 0 0)), (2, (.ptr 1 0 0 0)), (3, (.ptr 2 0 0 0)), (6, (.sl (List.map eI q4))), (7, (.ptr 2 0 0 0))]) (st' := [⟨0, 60, 5, [[(.sl (List.map eI p0.params)), (.sl (List.map eI p0.lent)), (i64 p0.result), (i64 p0.regs), (.sl (List.map eRInstr p0.code))]]⟩, ⟨0, 47, 5, [[.zc, .zc, (i64 0), (i64 0), .zc]]⟩, ⟨0, 47, 5, [[.zc, .zc, (i64 0), (i64 0), .zc]]⟩, ⟨1, 3, 1, []⟩]) (id := 3) rfl (show 0 ≤ 3 by decide) (pure_map fun _ => rfl) ⟨.rfl, .rfl, .rfl, (.frz rfl), .rfl, trivial⟩ rfl) ?_
  refine ao_str (st' := [⟨0, 60, 5, [[(.sl (List.map eI p0.params)), (.sl (List.map eI p0.lent)), (i64 p0.result), (i64 p0.regs), (.sl (List.map eRInstr p0.code))]]⟩, ⟨0, 47, 5, [[.zc, .zc, (i64 0), (i64 0), .zc]]⟩, ⟨0, 47, 5, [[(.sl (List.map eI q4)), .zc, (i64 0), (i64 0), .zc]]⟩, ⟨1, 3, 1, []⟩]) go0 ti44 rfl rfl rfl rfl rfl rfl (show 0 + 1 ≤ 5 by decide) rfl ?_
  refine AO.done (hK3 _ ?_)
  refine AW.seq fun K5 hK5 => ?_
  refine AW.regionO (by rfl) ?_
  refine ao_q (v := (.ptr 0 0 0 1)) go0 rfl (aq_fap fi60_1 rfl rfl (show 0 + 1 ≤ 5 by decide) rfl) ?_
  refine ao_q (v := (.sl (List.map eI p0.lent))) go0 rfl (aq_ldp ti44 rfl rfl rfl rfl) ?_
  obtain ⟨q6, gq6, h0⟩ := Sh.bind_some h0
  refine ao_call (v' := (.own 4 0 (List.length q6))) (st' := [⟨0, 60, 5, [[(.sl (List.map eI p0.params)), (.sl (List.map eI p0.lent)), (i64 p0.result), (i64 p0.regs), (.sl (List.map eRInstr p0.code))]]⟩, ⟨0, 47, 5, [[.zc, .zc, (i64 0), (i64 0), .zc]]⟩, ⟨0, 47, 5, [[(.sl (List.map eI q4)), .zc, (i64 0), (i64 0), .zc]]⟩, ⟨1, 3, 1, []⟩, ⟨0, 3, 1, List.map eI q6⟩]) go0 hb43 (laws_toIntS_ok gq6) rfl rfl ⟨(pure_map' fun _ => rfl), trivial⟩ rfl rfl ?_
  refine ao_q (v := (.ptr 2 0 0 1)) go0 rfl (aq_fap fi47_1 rfl rfl (show 0 + 1 ≤ 5 by decide) rfl) ?_
  refine AO.weaken (Wk.frz (L := [(1, (.ptr 0 0 0 0)), (2, (.ptr 1 0 0 0)), (3, (.ptr 2 0 0 0)), (10, (.sl (List.map eI q6))), (11, (.ptr 2 0 0 1))]) (st' := [⟨0, 60, 5, [[(.sl (List.map eI p0.params)), (.sl (List.map eI p0.lent)), (i64 p0.result), (i64 p0.regs), (.sl (List.map eRInstr p0.code))]]⟩, ⟨0, 47, 5, [[.zc, .zc, (i64 0), (i64 0), .zc]]⟩, ⟨0, 47, 5, [[(.sl (List.map eI q4)), .zc, (i64 0), (i64 0), .zc]]⟩, ⟨1, 3, 1, []⟩, ⟨1, 3, 1, []⟩]) (id := 4) rfl (show 0 ≤ 4 by decide) (pure_map fun _ => rfl) ⟨.rfl, .rfl, .rfl, (.frz rfl), .rfl, trivial⟩ rfl) ?_
  refine ao_str (st' := [⟨0, 60, 5, [[(.sl (List.map eI p0.params)), (.sl (List.map eI p0.lent)), (i64 p0.result), (i64 p0.regs), (.sl (List.map eRInstr p0.code))]]⟩, ⟨0, 47, 5, [[.zc, .zc, (i64 0), (i64 0), .zc]]⟩, ⟨0, 47, 5, [[(.sl (List.map eI q4)), (.sl (List.map eI q6)), (i64 0), (i64 0), .zc]]⟩, ⟨1, 3, 1, []⟩, ⟨1, 3, 1, []⟩]) go0 ti44 rfl rfl rfl rfl rfl rfl (show 1 + 1 ≤ 5 by decide) rfl ?_
  refine AO.done (hK5 _ ?_)
  refine AW.seq fun K7 hK7 => ?_
  refine AW.regionO (by rfl) ?_
  refine ao_q (v := (.ptr 0 0 0 2)) go0 rfl (aq_fap fi60_2 rfl rfl (show 0 + 2 ≤ 5 by decide) rfl) ?_
  refine ao_q (v := (i64 p0.result)) go0 rfl (aq_ldp ti3 rfl rfl rfl rfl) ?_
  refine ao_q (v := (.ptr 2 0 0 2)) go0 rfl (aq_fap fi47_2 rfl rfl (show 0 + 2 ≤ 5 by decide) rfl) ?_
  refine ao_str (st' := [⟨0, 60, 5, [[(.sl (List.map eI p0.params)), (.sl (List.map eI p0.lent)), (i64 p0.result), (i64 p0.regs), (.sl (List.map eRInstr p0.code))]]⟩, ⟨0, 47, 5, [[.zc, .zc, (i64 0), (i64 0), .zc]]⟩, ⟨0, 47, 5, [[(.sl (List.map eI q4)), (.sl (List.map eI q6)), (i64 p0.result), (i64 0), .zc]]⟩, ⟨1, 3, 1, []⟩, ⟨1, 3, 1, []⟩]) go0 ti3 rfl rfl rfl rfl rfl rfl (show 2 + 1 ≤ 5 by decide) rfl ?_
  refine AO.done (hK7 _ ?_)
  refine AW.seq fun K8 hK8 => ?_
  refine AW.regionO (by rfl) ?_
  refine ao_q (v := (.ptr 0 0 0 3)) go0 rfl (aq_fap fi60_3 rfl rfl (show 0 + 3 ≤ 5 by decide) rfl) ?_
  refine ao_q (v := (i64 p0.regs)) go0 rfl (aq_ldp ti3 rfl rfl rfl rfl) ?_
  refine ao_q (v := (.ptr 2 0 0 3)) go0 rfl (aq_fap fi47_3 rfl rfl (show 0 + 3 ≤ 5 by decide) rfl) ?_
  refine ao_str (st' := [⟨0, 60, 5, [[(.sl (List.map eI p0.params)), (.sl (List.map eI p0.lent)), (i64 p0.result), (i64 p0.regs), (.sl (List.map eRInstr p0.code))]]⟩, ⟨0, 47, 5, [[.zc, .zc, (i64 0), (i64 0), .zc]]⟩, ⟨0, 47, 5, [[(.sl (List.map eI q4)), (.sl (List.map eI q6)), (i64 p0.result), (i64 p0.regs), .zc]]⟩, ⟨1, 3, 1, []⟩, ⟨1, 3, 1, []⟩]) go0 ti3 rfl rfl rfl rfl rfl rfl (show 3 + 1 ≤ 5 by decide) rfl ?_
  refine AO.done (hK8 _ ?_)
  refine AW.seq fun K9 hK9 => ?_
  refine AW.regionO (by rfl) ?_
  refine ao_q (v := (.ptr 0 0 0 4)) go0 rfl (aq_fap fi60_4 rfl rfl (show 0 + 4 ≤ 5 by decide) rfl) ?_
  refine ao_q (v := (.sl (List.map eRInstr p0.code))) go0 rfl (aq_ldp ti58 rfl rfl rfl rfl) ?_
  obtain ⟨q10, gq10, h0⟩ := Sh.bind_some h0
  refine ao_call (v' := (.own 5 0 (List.length q10))) (st' := [⟨0, 60, 5, [[(.sl (List.map eI p0.params)), (.sl (List.map eI p0.lent)), (i64 p0.result), (i64 p0.regs), (.sl (List.map eRInstr p0.code))]]⟩, ⟨0, 47, 5, [[.zc, .zc, (i64 0), (i64 0), .zc]]⟩, ⟨0, 47, 5, [[(.sl (List.map eI q4)), (.sl (List.map eI q6)), (i64 p0.result), (i64 p0.regs), .zc]]⟩, ⟨1, 3, 1, []⟩, ⟨1, 3, 1, []⟩, ⟨0, 49, 6, List.map eRInstr q10⟩]) go0 hb44 (laws_toInstrS_ok gq10) rfl rfl ⟨(pure_map' fun _ => rfl), trivial⟩ rfl rfl ?_
  refine ao_q (v := (.ptr 2 0 0 4)) go0 rfl (aq_fap fi47_4 rfl rfl (show 0 + 4 ≤ 5 by decide) rfl) ?_
  refine AO.weaken (Wk.frz (L := [(2, (.ptr 1 0 0 0)), (3, (.ptr 2 0 0 0)), (20, (.sl (List.map eRInstr q10))), (21, (.ptr 2 0 0 4))]) (st' := [⟨0, 60, 5, [[(.sl (List.map eI p0.params)), (.sl (List.map eI p0.lent)), (i64 p0.result), (i64 p0.regs), (.sl (List.map eRInstr p0.code))]]⟩, ⟨0, 47, 5, [[.zc, .zc, (i64 0), (i64 0), .zc]]⟩, ⟨0, 47, 5, [[(.sl (List.map eI q4)), (.sl (List.map eI q6)), (i64 p0.result), (i64 p0.regs), .zc]]⟩, ⟨1, 3, 1, []⟩, ⟨1, 3, 1, []⟩, ⟨1, 49, 6, []⟩]) (id := 5) rfl (show 0 ≤ 5 by decide) (pure_map fun _ => rfl) ⟨.rfl, .rfl, (.frz rfl), .rfl, trivial⟩ rfl) ?_
  refine ao_str (st' := [⟨0, 60, 5, [[(.sl (List.map eI p0.params)), (.sl (List.map eI p0.lent)), (i64 p0.result), (i64 p0.regs), (.sl (List.map eRInstr p0.code))]]⟩, ⟨0, 47, 5, [[.zc, .zc, (i64 0), (i64 0), .zc]]⟩, ⟨0, 47, 5, [[(.sl (List.map eI q4)), (.sl (List.map eI q6)), (i64 p0.result), (i64 p0.regs), (.sl (List.map eRInstr q10))]]⟩, ⟨1, 3, 1, []⟩, ⟨1, 3, 1, []⟩, ⟨1, 49, 6, []⟩]) go0 ti45 rfl rfl rfl rfl rfl rfl (show 4 + 1 ≤ 5 by decide) rfl ?_
  refine AO.done (hK9 _ ?_)
  refine AW.seq fun K11 hK11 => ?_
  refine AW.regionO (by rfl) ?_
  refine ao_q (v := (.agg [(.sl (List.map eI q4)), (.sl (List.map eI q6)), (i64 p0.result), (i64 p0.regs), (.sl (List.map eRInstr q10))])) go0 rfl (aq_ldpa ti47 rfl rfl rfl (show 0 + 5 ≤ 5 by decide) rfl) ?_
  refine ao_str (st' := [⟨0, 60, 5, [[(.sl (List.map eI p0.params)), (.sl (List.map eI p0.lent)), (i64 p0.result), (i64 p0.regs), (.sl (List.map eRInstr p0.code))]]⟩, ⟨0, 47, 5, [[(.sl (List.map eI q4)), (.sl (List.map eI q6)), (i64 p0.result), (i64 p0.regs), (.sl (List.map eRInstr q10))]]⟩, ⟨0, 47, 5, [[(.sl (List.map eI q4)), (.sl (List.map eI q6)), (i64 p0.result), (i64 p0.regs), (.sl (List.map eRInstr q10))]]⟩, ⟨1, 3, 1, []⟩, ⟨1, 3, 1, []⟩, ⟨1, 49, 6, []⟩]) go0 ti47 rfl rfl rfl rfl rfl rfl (show 0 + 5 ≤ 5 by decide) rfl ?_
  refine AO.done (hK11 _ ?_)
  replace h0 := Sh.some_eq h0
  subst r
  exact AW.ret (Exists.intro _ (And.intro (Wk.refl _ _) (aq_ldpa (x := .tmp 2) (off := 0) (cs := [(.sl (List.map eI q4)), (.sl (List.map eI q6)), (i64 p0.result), (i64 p0.regs), (.sl (List.map eRInstr q10))]) (vs := [(.sl (List.map eI q4)), (.sl (List.map eI q6)), (i64 p0.result), (i64 p0.regs), (.sl (List.map eRInstr q10))]) ti47 rfl rfl rfl (show 0 + 5 ≤ 5 by decide) rfl _ rfl)))

set_option maxRecDepth 100000 in
set_option maxHeartbeats 4000000 in
theorem laws_toProcS_ok {N : Nat} {p0 : (List RProc)} {r : (List RProc)} (h0 : laws_toProcS N p0 = some r) : ACalls Try.prog 13 [(.sl (List.map eRProc p0))] [] (fun v st => v = (.own 0 0 (List.length r)) ∧ st = [⟨0, 47, 5, List.map eRProc r⟩]) := by
  unfold laws_toProcS at h0
  refine ACalls.intro Try.func13 rfl (by show 1 ≤ 23; decide) ?_
  show AW _ 0 _ (aret _ 0 Try.f13 _) ⟨23, _, _⟩
  refine AW.weaken (Wk.to (L := [(0, (.sl (List.map eRProc p0)))]) ⟨.rfl, trivial⟩) ?_
  refine AW.seq fun K1 hK1 => ?_
  refine AW.regionO (by rfl) ?_
  refine ao_q (v := .zc) go0 rfl (aq_as rfl) ?_
  refine AO.done (hK1 _ ?_)
  refine AW.seq fun K2 hK2 => ?_
  refine AW.regionO (by rfl) ?_
  refine ao_q (v := (.sl (List.map eRProc p0))) go0 rfl (aq_mv rfl) ?_
  refine ao_q (v := (i64 (Sh.len p0))) go0 rfl (aq_lens sl23 rfl) ?_
  obtain ⟨l3, gl3, h0⟩ := Sh.bind_some h0
  refine ao_make (m := 0) (st' := [⟨0, 47, 5, List.map eRProc l3⟩]) (enc := eRProc) (u := (RProc.mk [] [] 0 0 [])) go0 ei29 rfl rfl rfl gl3 rfl rfl ?_
  refine ao_q (v := (.own 0 0 (List.length l3))) go0 rfl (aq_as rfl) ?_
  refine AO.done (hK2 _ ?_)
  refine AW.seq fun K4 hK4 => ?_
  refine AW.seq fun K5 hK5 => ?_
  refine AW.regionO (by rfl) ?_
  refine ao_q (v := (i64 0)) go0 rfl (aq_as rfl) ?_
  refine AO.done (hK5 _ ?_)
  obtain ⟨o9, h1, h0⟩ := Sh.bind_some h0
  have M9 : ∀ (l8 : (List RProc)), o9 = l8 → ∀ s, Wk 0 s ⟨23, envL [(3, (.own 0 0 (List.length l8)))], [⟨0, 47, 5, List.map eRProc l8⟩]⟩ → K4 s := by
    intro l8 hq s hw
    subst o9
    try dsimp only at h0
    refine hK4 _ (AW.weaken hw ?_)
    refine AW.seq fun K10 hK10 => ?_
    refine AW.regionO (by rfl) ?_
    refine ao_q (v := (.own 0 0 (List.length l8))) go0 rfl (aq_mv rfl) ?_
    refine ao_q (v := (.own 0 0 (List.length l8))) go0 rfl (aq_as rfl) ?_
    refine AO.done (hK10 _ ?_)
    replace h0 := Sh.some_eq h0
    subst r
    exact AW.ret (Exists.intro _ (And.intro (Wk.to (L := [(2, (.own 0 0 (List.length l8)))]) ⟨.rfl, trivial⟩) (And.intro rfl rfl)))
  refine AW.block (AW.loopF (σ := Int × (List RProc)) (fun n v => laws_toProcS_L1 N p0 n v.1 v.2 = some o9) (fun (i6, l7) => ⟨23, envL [(0, (.sl (List.map eRProc p0))), (3, (.own 0 0 (List.length l7))), (4, (i64 i6))], [⟨0, 47, 5, List.map eRProc l7⟩]⟩) N (0, l3) h1 (Wk.to (L := [(0, (.sl (List.map eRProc p0))), (3, (.own 0 0 (List.length l3))), (4, (i64 0))]) ⟨.rfl, .rfl, .rfl, trivial⟩) (fun _ hv => by rw [laws_toProcS_L1] at hv; cases hv) ?_)
  rintro n ⟨i6, l7⟩ h1
  try dsimp only at h1 ⊢
  rw [laws_toProcS_L1] at h1
  refine AW.seq fun K11 hK11 => ?_
  refine AW.seq fun K12 hK12 => ?_
  refine AW.regionO (by rfl) ?_
  refine ao_q (v := (i64 i6)) go0 rfl (aq_mv rfl) ?_
  refine ao_q (v := (.sl (List.map eRProc p0))) go0 rfl (aq_mv rfl) ?_
  refine ao_q (v := (i64 (Sh.len p0))) go0 rfl (aq_lens sl23 rfl) ?_
  refine ao_q (v := (.bool (decide (i6 < (Sh.len p0))))) go0 rfl (aq_lt rfl rfl) ?_
  refine AO.done (hK12 _ ?_)
  refine AW.cond' (b := decide (i6 < (Sh.len p0))) rfl (fun b13 => ?_) (fun b13 => ?_)
  · replace h1 := Sh.ite_t b13 h1
    refine AW.skip (hK11 _ ?_)
    refine AW.seq fun K14 hK14 => ?_
    refine AW.block ?_
    refine AW.regionO (by rfl) ?_
    refine ao_q (v := (.own 0 0 (List.length l7))) go0 rfl (aq_mv rfl) ?_
    refine ao_q (v := (i64 i6)) go0 rfl (aq_mv rfl) ?_
    refine ao_q (v := (.sl (List.map eRProc p0))) go0 rfl (aq_mv rfl) ?_
    refine ao_q (v := (i64 i6)) go0 rfl (aq_mv rfl) ?_
    obtain ⟨c15, gc15, h1⟩ := Sh.bind_some h1
    refine ao_q (v := (.iptr (eRProc c15) 0)) go0 rfl (aq_ixs ei23 rfl rfl gc15 rfl) ?_
    refine ao_q (v := (.agg [(.sl (List.map eI c15.params)), (.sl (List.map eI c15.lent)), (i64 c15.result), (i64 c15.regs), (.sl (List.map eRInstr c15.code))])) go0 rfl (aq_ldia ti60 rfl (show 0 + 5 ≤ 5 by decide) rfl) ?_
    obtain ⟨q16, gq16, h1⟩ := Sh.bind_some h1
    refine ao_call (v' := (.agg [(.sl (List.map eI q16.params)), (.sl (List.map eI q16.lent)), (i64 q16.result), (i64 q16.regs), (.sl (List.map eRInstr q16.code))])) (st' := [⟨0, 47, 5, List.map eRProc l7⟩]) go0 hb24 (laws_toProc_ok gq16) rfl rfl trivial rfl rfl ?_
    obtain ⟨c17, gc17, h1⟩ := Sh.bind_some h1
    refine ao_q (v := (.ptr 0 0 (Int.toNat i6) 0)) go0 rfl (aq_ixo ei29 rfl rfl rfl rfl gc17) ?_
    refine ao_stl (st' := [⟨0, 47, 5, List.map eRProc (Sh.put l7 i6 q16)⟩]) (u' := q16) go0 ti47 rfl rfl gc17 rfl rfl rfl (show 0 + 5 ≤ 5 by decide) rfl rfl ?_
    refine AO.done (hK14 _ ?_)
    refine AW.regionO (by rfl) ?_
    refine ao_q (v := (i64 i6)) go0 rfl (aq_mv rfl) ?_
    refine ao_q (v := (i64 (Sh.w (i6 + 1)))) go0 rfl (aq_add rfl rfl) ?_
    refine ao_q (v := (i64 (Sh.w (i6 + 1)))) go0 rfl (aq_as rfl) ?_
    exact AO.done (Exists.intro (Sh.w (i6 + 1), Sh.put l7 i6 q16) (And.intro h1 (Wk.to (L := [(0, (.sl (List.map eRProc p0))), (3, (.own 0 0 (List.length (Sh.put l7 i6 q16)))), (4, (i64 (Sh.w (i6 + 1))))]) ⟨.rfl, (.len (by simp only [Sh.put_len])), .rfl, trivial⟩)))
  · replace h1 := Sh.ite_f b13 h1
    exact AW.exit (M9 l7 (Sh.some_eq h1).symm _ (Wk.to (L := [(3, (.own 0 0 (List.length l7)))]) ⟨.rfl, trivial⟩))

set_option maxRecDepth 100000 in
set_option maxHeartbeats 4000000 in
theorem laws_toImage_ok {N : Nat} {p0 : RImage} {r : RImage} (h0 : laws_toImage N p0 = some r) : ACalls Try.prog 6 [(.agg [(.sl (List.map eRDecl p0.decls)), (.sl (List.map eRProc p0.procs))])] [] (fun v st => v = (.agg [(.sl (List.map eRDecl r.decls)), (.sl (List.map eRProc r.procs))]) ∧ st = []) := by
  unfold laws_toImage at h0
  refine ACalls.flat rfl ?_
  refine ACalls.intro Try.func6 rfl (by show 1 ≤ 13; decide) ?_
  show AW _ 0 _ (aret _ 0 Try.f6 _) ⟨13, _, _⟩
  refine AW.weaken (Wk.to (L := [(0, (.agg [(.sl (List.map eRDecl p0.decls)), (.sl (List.map eRProc p0.procs))]))]) ⟨.rfl, trivial⟩) ?_
  refine AW.seq fun K1 hK1 => ?_
  refine AW.regionO (by rfl) ?_
  refine ao_box (m := 0) (st' := [⟨0, 25, 2, [[(.sl (List.map eRDecl p0.decls)), (.sl (List.map eRProc p0.procs))]]⟩]) go0 rfl rfl rfl rfl rfl ?_
  refine ao_alloc (m := 1) (st' := [⟨0, 25, 2, [[(.sl (List.map eRDecl p0.decls)), (.sl (List.map eRProc p0.procs))]]⟩, ⟨0, 31, 2, [[.zc, .zc]]⟩]) go0 zi31 rfl rfl ?_
  refine AO.done (hK1 _ ?_)
  refine AW.seq fun K2 hK2 => ?_
  refine AW.regionO (by rfl) ?_
  refine ao_alloc (m := 2) (st' := [⟨0, 25, 2, [[(.sl (List.map eRDecl p0.decls)), (.sl (List.map eRProc p0.procs))]]⟩, ⟨0, 31, 2, [[.zc, .zc]]⟩, ⟨0, 31, 2, [[.zc, .zc]]⟩]) go0 zi31 rfl rfl ?_
  refine AO.done (hK2 _ ?_)
  refine AW.seq fun K3 hK3 => ?_
  refine AW.regionO (by rfl) ?_
  refine ao_q (v := (.ptr 0 0 0 0)) go0 rfl (aq_fap fi25_0 rfl rfl (show 0 + 0 ≤ 2 by decide) rfl) ?_
  refine ao_q (v := (.sl (List.map eRDecl p0.decls))) go0 rfl (aq_ldp ti22 rfl rfl rfl rfl) ?_
  obtain ⟨q4, gq4, h0⟩ := Sh.bind_some h0
  refine ao_call (v' := (.own 3 0 (List.length q4))) (st' := [⟨0, 25, 2, [[(.sl (List.map eRDecl p0.decls)), (.sl (List.map eRProc p0.procs))]]⟩, ⟨0, 31, 2, [[.zc, .zc]]⟩, ⟨0, 31, 2, [[.zc, .zc]]⟩, ⟨0, 69, 3, List.map eRDecl q4⟩]) go0 hb12 (laws_toDeclS_ok gq4) rfl rfl ⟨(pure_map' fun _ => rfl), trivial⟩ rfl rfl ?_
  refine ao_q (v := (.ptr 2 0 0 0)) go0 rfl (aq_fap fi31_0 rfl rfl (show 0 + 0 ≤ 2 by decide) rfl) ?_
  refine AO.weaken (Wk.frz (L := [(1, (.ptr 0 0 0 0)), (2, (.ptr 1 0 0 0)), (3, (.ptr 2 0 0 0)), (6, (.sl (List.map eRDecl q4))), (7, (.ptr 2 0 0 0))]) (st' := [⟨0, 25, 2, [[(.sl (List.map eRDecl p0.decls)), (.sl (List.map eRProc p0.procs))]]⟩, ⟨0, 31, 2, [[.zc, .zc]]⟩, ⟨0, 31, 2, [[.zc, .zc]]⟩, ⟨1, 69, 3, []⟩]) (id := 3) rfl (show 0 ≤ 3 by decide) (pure_map fun _ => rfl) ⟨.rfl, .rfl, .rfl, (.frz rfl), .rfl, trivial⟩ rfl) ?_
  refine ao_str (st' := [⟨0, 25, 2, [[(.sl (List.map eRDecl p0.decls)), (.sl (List.map eRProc p0.procs))]]⟩, ⟨0, 31, 2, [[.zc, .zc]]⟩, ⟨0, 31, 2, [[(.sl (List.map eRDecl q4)), .zc]]⟩, ⟨1, 69, 3, []⟩]) go0 ti28 rfl rfl rfl rfl rfl rfl (show 0 + 1 ≤ 2 by decide) rfl ?_
  refine AO.done (hK3 _ ?_)
  refine AW.seq fun K5 hK5 => ?_
  refine AW.regionO (by rfl) ?_
  refine ao_q (v := (.ptr 0 0 0 1)) go0 rfl (aq_fap fi25_1 rfl rfl (show 0 + 1 ≤ 2 by decide) rfl) ?_
  refine ao_q (v := (.sl (List.map eRProc p0.procs))) go0 rfl (aq_ldp ti23 rfl rfl rfl rfl) ?_
  obtain ⟨q6, gq6, h0⟩ := Sh.bind_some h0
  refine ao_call (v' := (.own 4 0 (List.length q6))) (st' := [⟨0, 25, 2, [[(.sl (List.map eRDecl p0.decls)), (.sl (List.map eRProc p0.procs))]]⟩, ⟨0, 31, 2, [[.zc, .zc]]⟩, ⟨0, 31, 2, [[(.sl (List.map eRDecl q4)), .zc]]⟩, ⟨1, 69, 3, []⟩, ⟨0, 47, 5, List.map eRProc q6⟩]) go0 hb13 (laws_toProcS_ok gq6) rfl rfl ⟨(pure_map' fun _ => rfl), trivial⟩ rfl rfl ?_
  refine ao_q (v := (.ptr 2 0 0 1)) go0 rfl (aq_fap fi31_1 rfl rfl (show 0 + 1 ≤ 2 by decide) rfl) ?_
  refine AO.weaken (Wk.frz (L := [(2, (.ptr 1 0 0 0)), (3, (.ptr 2 0 0 0)), (10, (.sl (List.map eRProc q6))), (11, (.ptr 2 0 0 1))]) (st' := [⟨0, 25, 2, [[(.sl (List.map eRDecl p0.decls)), (.sl (List.map eRProc p0.procs))]]⟩, ⟨0, 31, 2, [[.zc, .zc]]⟩, ⟨0, 31, 2, [[(.sl (List.map eRDecl q4)), .zc]]⟩, ⟨1, 69, 3, []⟩, ⟨1, 47, 5, []⟩]) (id := 4) rfl (show 0 ≤ 4 by decide) (pure_map fun _ => rfl) ⟨.rfl, .rfl, (.frz rfl), .rfl, trivial⟩ rfl) ?_
  refine ao_str (st' := [⟨0, 25, 2, [[(.sl (List.map eRDecl p0.decls)), (.sl (List.map eRProc p0.procs))]]⟩, ⟨0, 31, 2, [[.zc, .zc]]⟩, ⟨0, 31, 2, [[(.sl (List.map eRDecl q4)), (.sl (List.map eRProc q6))]]⟩, ⟨1, 69, 3, []⟩, ⟨1, 47, 5, []⟩]) go0 ti29 rfl rfl rfl rfl rfl rfl (show 1 + 1 ≤ 2 by decide) rfl ?_
  refine AO.done (hK5 _ ?_)
  refine AW.seq fun K7 hK7 => ?_
  refine AW.regionO (by rfl) ?_
  refine ao_q (v := (.agg [(.sl (List.map eRDecl q4)), (.sl (List.map eRProc q6))])) go0 rfl (aq_ldpa ti31 rfl rfl rfl (show 0 + 2 ≤ 2 by decide) rfl) ?_
  refine ao_str (st' := [⟨0, 25, 2, [[(.sl (List.map eRDecl p0.decls)), (.sl (List.map eRProc p0.procs))]]⟩, ⟨0, 31, 2, [[(.sl (List.map eRDecl q4)), (.sl (List.map eRProc q6))]]⟩, ⟨0, 31, 2, [[(.sl (List.map eRDecl q4)), (.sl (List.map eRProc q6))]]⟩, ⟨1, 69, 3, []⟩, ⟨1, 47, 5, []⟩]) go0 ti31 rfl rfl rfl rfl rfl rfl (show 0 + 2 ≤ 2 by decide) rfl ?_
  refine AO.done (hK7 _ ?_)
  replace h0 := Sh.some_eq h0
  subst r
  exact AW.ret (Exists.intro _ (And.intro (Wk.refl _ _) (aq_ldpa (x := .tmp 2) (off := 0) (cs := [(.sl (List.map eRDecl q4)), (.sl (List.map eRProc q6))]) (vs := [(.sl (List.map eRDecl q4)), (.sl (List.map eRProc q6))]) ti31 rfl rfl rfl (show 0 + 2 ≤ 2 by decide) rfl _ rfl)))

set_option maxRecDepth 100000 in
set_option maxHeartbeats 4000000 in
theorem spec_sigsOfImage_ok {N : Nat} {p0 : RImage} {r : RProgram} (h0 : spec_sigsOfImage N p0 = some r) : ACalls Try.prog 21 [(.agg [(.sl (List.map eRDecl p0.decls)), (.sl (List.map eRProc p0.procs))])] [] (fun v st => v = (.agg [(.sl (List.map eRDecl r.decls)), (.sl (List.map eRFunc r.funcs))]) ∧ st = []) := by
  unfold spec_sigsOfImage at h0
  refine ACalls.flat rfl ?_
  refine ACalls.intro Try.func21 rfl (by show 1 ≤ 35; decide) ?_
  show AW _ 0 _ (aret _ 0 Try.f21 _) ⟨35, _, _⟩
  refine AW.weaken (Wk.to (L := [(0, (.agg [(.sl (List.map eRDecl p0.decls)), (.sl (List.map eRProc p0.procs))]))]) ⟨.rfl, trivial⟩) ?_
  refine AW.seq fun K1 hK1 => ?_
  refine AW.regionO (by rfl) ?_
  refine ao_box (m := 0) (st' := [⟨0, 31, 2, [[(.sl (List.map eRDecl p0.decls)), (.sl (List.map eRProc p0.procs))]]⟩]) go0 rfl rfl rfl rfl rfl ?_
  refine ao_alloc (m := 1) (st' := [⟨0, 31, 2, [[(.sl (List.map eRDecl p0.decls)), (.sl (List.map eRProc p0.procs))]]⟩, ⟨0, 64, 2, [[.zc, .zc]]⟩]) go0 zi64 rfl rfl ?_
  refine AO.done (hK1 _ ?_)
  refine AW.seq fun K2 hK2 => ?_
  refine AW.regionO (by rfl) ?_
  refine ao_q (v := (.ptr 0 0 0 0)) go0 rfl (aq_fap fi31_0 rfl rfl (show 0 + 0 ≤ 2 by decide) rfl) ?_
  refine ao_q (v := (.sl (List.map eRDecl p0.decls))) go0 rfl (aq_ldp ti28 rfl rfl rfl rfl) ?_
  refine ao_bs (m := 2) (st' := [⟨0, 31, 2, [[(.sl (List.map eRDecl p0.decls)), (.sl (List.map eRProc p0.procs))]]⟩, ⟨0, 64, 2, [[.zc, .zc]]⟩, ⟨0, 91, 5, List.map eRFunc ([] : List RFunc)⟩]) (l := ([] : List RFunc)) (enc := eRFunc) go0 ei62 (by decide) rfl rfl rfl rfl rfl rfl ?_
  refine ao_q (v := (.agg [(.sl (List.map eRDecl p0.decls)), (.own 2 0 (List.length ([] : List RFunc)))])) go0 rfl (aq_bd ai64 bi64 zi64 rfl rfl) ?_
  refine ao_alloc (m := 3) (st' := [⟨0, 31, 2, [[(.sl (List.map eRDecl p0.decls)), (.sl (List.map eRProc p0.procs))]]⟩, ⟨0, 64, 2, [[.zc, .zc]]⟩, ⟨0, 91, 5, List.map eRFunc ([] : List RFunc)⟩, ⟨0, 64, 2, [[.zc, .zc]]⟩]) go0 zi64 rfl rfl ?_
  refine ao_str (st' := [⟨0, 31, 2, [[(.sl (List.map eRDecl p0.decls)), (.sl (List.map eRProc p0.procs))]]⟩, ⟨0, 64, 2, [[.zc, .zc]]⟩, ⟨0, 91, 5, List.map eRFunc ([] : List RFunc)⟩, ⟨0, 64, 2, [[(.sl (List.map eRDecl p0.decls)), (.own 2 0 (List.length ([] : List RFunc)))]]⟩]) go0 ti64 rfl rfl rfl rfl rfl rfl (show 0 + 2 ≤ 2 by decide) rfl ?_
  refine AO.done (hK2 _ ?_)
  refine AW.seq fun K3 hK3 => ?_
  refine AW.seq fun K4 hK4 => ?_
  refine AW.regionO (by rfl) ?_
  refine ao_q (v := (i64 0)) go0 rfl (aq_as rfl) ?_
  refine AO.done (hK4 _ ?_)
  obtain ⟨o8, h1, h0⟩ := Sh.bind_some h0
  have M8 : ∀ (l7 : (List RFunc)), o8 = l7 → ∀ s, Wk 0 s ⟨35, envL [(2, (.ptr 0 0 0 0)), (3, (.ptr 2 0 0 0))], [⟨0, 64, 2, [[.zc, .zc]]⟩, ⟨0, 91, 5, List.map eRFunc l7⟩, ⟨0, 64, 2, [[(.sl (List.map eRDecl p0.decls)), (.own 1 0 (List.length l7))]]⟩]⟩ → K3 s := by
    intro l7 hq s hw
    subst o8
    try dsimp only at h0
    refine hK3 _ (AW.weaken hw ?_)
    refine AW.seq fun K9 hK9 => ?_
    refine AW.regionO (by rfl) ?_
    refine ao_q (v := (.agg [(.sl (List.map eRDecl p0.decls)), (.own 1 0 (List.length l7))])) go0 rfl (aq_ldpa ti64 rfl rfl rfl (show 0 + 2 ≤ 2 by decide) rfl) ?_
    refine AO.weaken (Wk.frz (L := [(2, (.ptr 0 0 0 0)), (34, (.agg [(.sl (List.map eRDecl p0.decls)), (.sl (List.map eRFunc l7))]))]) (st' := [⟨0, 64, 2, [[.zc, .zc]]⟩, ⟨1, 91, 5, []⟩, ⟨0, 64, 2, [[(.sl (List.map eRDecl p0.decls)), (.own 1 0 (List.length l7))]]⟩]) (id := 1) rfl (show 0 ≤ 1 by decide) (pure_map fun _ => rfl) ⟨.rfl, (.agg ⟨.rfl, (.frz1 rfl), trivial⟩), trivial⟩ rfl) ?_
    refine ao_str (st' := [⟨0, 64, 2, [[(.sl (List.map eRDecl p0.decls)), (.sl (List.map eRFunc l7))]]⟩, ⟨1, 91, 5, []⟩, ⟨0, 64, 2, [[(.sl (List.map eRDecl p0.decls)), (.own 1 0 (List.length l7))]]⟩]) go0 ti64 rfl rfl rfl rfl rfl rfl (show 0 + 2 ≤ 2 by decide) rfl ?_
    refine AO.done (hK9 _ ?_)
    replace h0 := Sh.some_eq h0
    subst r
    exact AW.ret (Exists.intro _ (And.intro (Wk.refl _ _) (aq_ldpa (x := .tmp 2) (off := 0) (cs := [(.sl (List.map eRDecl p0.decls)), (.sl (List.map eRFunc l7))]) (vs := [(.sl (List.map eRDecl p0.decls)), (.sl (List.map eRFunc l7))]) ti64 rfl rfl rfl (show 0 + 2 ≤ 2 by decide) rfl _ rfl)))
  refine AW.block (AW.loopF (σ := Int × (List RFunc)) (fun n v => spec_sigsOfImage_L1 p0 n v.1 v.2 = some o8) (fun (i5, l6) => ⟨35, envL [(1, (.ptr 0 0 0 0)), (2, (.ptr 1 0 0 0)), (3, (.ptr 3 0 0 0)), (4, (i64 i5))], [⟨0, 31, 2, [[(.sl (List.map eRDecl p0.decls)), (.sl (List.map eRProc p0.procs))]]⟩, ⟨0, 64, 2, [[.zc, .zc]]⟩, ⟨0, 91, 5, List.map eRFunc l6⟩, ⟨0, 64, 2, [[(.sl (List.map eRDecl p0.decls)), (.own 2 0 (List.length l6))]]⟩]⟩) N (0, []) h1 (Wk.to (L := [(1, (.ptr 0 0 0 0)), (2, (.ptr 1 0 0 0)), (3, (.ptr 3 0 0 0)), (4, (i64 0))]) ⟨.rfl, .rfl, .rfl, .rfl, trivial⟩) (fun _ hv => by rw [spec_sigsOfImage_L1] at hv; cases hv) ?_)
  rintro n ⟨i5, l6⟩ h1
  try dsimp only at h1 ⊢
  rw [spec_sigsOfImage_L1] at h1
  refine AW.seq fun K10 hK10 => ?_
  refine AW.seq fun K11 hK11 => ?_
  refine AW.regionO (by rfl) ?_
  refine ao_q (v := (i64 i5)) go0 rfl (aq_mv rfl) ?_
  refine ao_q (v := (.ptr 0 0 0 1)) go0 rfl (aq_fap fi31_1 rfl rfl (show 0 + 1 ≤ 2 by decide) rfl) ?_
  refine ao_q (v := (.sl (List.map eRProc p0.procs))) go0 rfl (aq_ldp ti29 rfl rfl rfl rfl) ?_
  refine ao_q (v := (i64 (Sh.len p0.procs))) go0 rfl (aq_lens sl29 rfl) ?_
  refine ao_q (v := (.bool (decide (i5 < (Sh.len p0.procs))))) go0 rfl (aq_lt rfl rfl) ?_
  refine AO.done (hK11 _ ?_)
  refine AW.cond' (b := decide (i5 < (Sh.len p0.procs))) rfl (fun b12 => ?_) (fun b12 => ?_)
  · replace h1 := Sh.ite_t b12 h1
    refine AW.skip (hK10 _ ?_)
    refine AW.seq fun K13 hK13 => ?_
    refine AW.block ?_
    refine AW.drawTailO 16 (by kernel_rfl) (by kernel_rfl) (by rfl) ?_
    refine d_q (v := (.ptr 3 0 0 1)) go0 rfl (aq_fap fi64_1 rfl rfl (show 0 + 1 ≤ 2 by decide) rfl) ?_
    refine d_q (v := (.own 2 0 (List.length l6))) go0 rfl (aq_ldp ti62 rfl rfl rfl rfl) ?_
    refine d_q (v := (.ptr 0 0 0 1)) go0 rfl (aq_fap fi31_1 rfl rfl (show 0 + 1 ≤ 2 by decide) rfl) ?_
    refine d_q (v := (.sl (List.map eRProc p0.procs))) go0 rfl (aq_ldp ti29 rfl rfl rfl rfl) ?_
    refine d_q (v := (i64 i5)) go0 rfl (aq_mv rfl) ?_
    obtain ⟨c14, gc14, h1⟩ := Sh.bind_some h1
    refine d_q (v := (.iptr (eRProc c14) 0)) go0 rfl (aq_ixs ei29 rfl rfl gc14 rfl) ?_
    refine d_q (v := (.iptr (eRProc c14) 0)) go0 rfl (aq_fai fi47_0 rfl rfl) ?_
    refine d_q (v := (.sl (List.map eI c14.params))) go0 rfl (aq_ldi ti44 rfl rfl) ?_
    refine d_q (v := (.ptr 0 0 0 1)) go0 rfl (aq_fap fi31_1 rfl rfl (show 0 + 1 ≤ 2 by decide) rfl) ?_
    refine d_q (v := (.sl (List.map eRProc p0.procs))) go0 rfl (aq_ldp ti29 rfl rfl rfl rfl) ?_
    refine d_q (v := (i64 i5)) go0 rfl (aq_mv rfl) ?_
    refine d_q (v := (.iptr (eRProc c14) 0)) go0 rfl (aq_ixs ei29 rfl rfl gc14 rfl) ?_
    refine d_q (v := (.iptr (eRProc c14) 2)) go0 rfl (aq_fai fi47_2 rfl rfl) ?_
    refine d_q (v := (i64 c14.result)) go0 rfl (aq_ldi ti3 rfl rfl) ?_
    refine d_q (v := (.agg [(.sl (List.map eI c14.params)), (i64 c14.result), (i64 0), (i64 0), .zc])) go0 rfl (aq_bd ai91 bi91 zi91 rfl rfl) ?_
    refine d_bsz (l := ([(RFunc.mk c14.params c14.result (RExpr.mk 0 0 []))])) (enc := eRFunc) (pv' := [(0, (.agg [(.sl (List.map eI c14.params)), (i64 c14.result), (i64 0), (i64 0), (.sl (List.map eRExpr []))]))]) go0 ei62 (by decide) rfl rfl (.cons (le.agg ⟨le.rfl, le.rfl, le.rfl, le.rfl, le.zc, trivial⟩) .nil) rfl rfl rfl (pure_map fun _ => rfl) ?_
    refine d_done ?_
    obtain ⟨l15, gl15, h1⟩ := Sh.bind_some h1
    refine ao_apo (st' := [⟨0, 31, 2, [[(.sl (List.map eRDecl p0.decls)), (.sl (List.map eRProc p0.procs))]]⟩, ⟨0, 64, 2, [[.zc, .zc]]⟩, ⟨1, 91, 5, List.map eRFunc l15⟩, ⟨0, 64, 2, [[(.sl (List.map eRDecl p0.decls)), (.own 2 0 (List.length l6))]]⟩]) (l2 := ([(RFunc.mk c14.params c14.result (RExpr.mk 0 0 []))])) go0 ei62 rfl rfl rfl rfl el_s (fun _ => rfl) gl15 rfl ?_
    refine ao_q (v := (.ptr 3 0 0 1)) go0 rfl (aq_fap fi64_1 rfl rfl (show 0 + 1 ≤ 2 by decide) rfl) ?_
    refine ao_str (st' := [⟨0, 31, 2, [[(.sl (List.map eRDecl p0.decls)), (.sl (List.map eRProc p0.procs))]]⟩, ⟨0, 64, 2, [[.zc, .zc]]⟩, ⟨1, 91, 5, List.map eRFunc l15⟩, ⟨0, 64, 2, [[(.sl (List.map eRDecl p0.decls)), (.own 2 1 (List.length l15))]]⟩]) go0 ti62 rfl rfl rfl rfl rfl rfl (show 1 + 1 ≤ 2 by decide) rfl ?_
    refine AO.done (hK13 _ ?_)
    refine AW.regionO (by rfl) ?_
    refine ao_q (v := (i64 i5)) go0 rfl (aq_mv rfl) ?_
    refine ao_q (v := (i64 (Sh.w (i5 + 1)))) go0 rfl (aq_add rfl rfl) ?_
    refine ao_q (v := (i64 (Sh.w (i5 + 1)))) go0 rfl (aq_as rfl) ?_
    exact AO.done (Exists.intro (Sh.w (i5 + 1), l15) (And.intro h1 (by refine Wk.trans (Wk.rg (L := [(1, (.ptr 0 0 0 0)), (2, (.ptr 1 0 0 0)), (3, (.ptr 3 0 0 0)), (4, (i64 (Sh.w (i5 + 1))))]) (st' := [⟨0, 31, 2, [[(.sl (List.map eRDecl p0.decls)), (.sl (List.map eRProc p0.procs))]]⟩, ⟨0, 64, 2, [[.zc, .zc]]⟩, ⟨0, 91, 5, List.map eRFunc l15⟩, ⟨0, 64, 2, [[(.sl (List.map eRDecl p0.decls)), (.own 2 0 (List.length l15))]]⟩]) (.raw rfl rfl (.raw rfl rfl (.pure (pure_map fun _ => rfl) (.raw rfl rfl .nil)))) ⟨.rfl, .rfl, .rfl, .rfl, trivial⟩) ?_; exact Wk.to (L := [(1, (.ptr 0 0 0 0)), (2, (.ptr 1 0 0 0)), (3, (.ptr 3 0 0 0)), (4, (i64 (Sh.w (i5 + 1))))]) ⟨.rfl, .rfl, .rfl, .rfl, trivial⟩)))
  · replace h1 := Sh.ite_f b12 h1
    exact AW.exit (M8 l6 (Sh.some_eq h1).symm _ (by refine Wk.trans (Wk.permk (L := [(2, (.ptr 0 0 0 0)), (3, (.ptr 2 0 0 0))]) (st' := [⟨0, 64, 2, [[.zc, .zc]]⟩, ⟨0, 91, 5, List.map eRFunc l6⟩, ⟨0, 64, 2, [[(.sl (List.map eRDecl p0.decls)), (.own 1 0 (List.length l6))]]⟩]) (st1 := [⟨0, 64, 2, [[.zc, .zc]]⟩, ⟨0, 91, 5, List.map eRFunc l6⟩, ⟨0, 64, 2, [[(.sl (List.map eRDecl p0.decls)), (.own 2 0 (List.length l6))]]⟩]) [1, 2, 3] rfl .nil (by decide) rfl rfl (.raw rfl rfl (.pure (pure_map fun _ => rfl) (.raw rfl rfl .nil))) ⟨.rfl, .rfl, trivial⟩) ?_; exact Wk.to (L := [(2, (.ptr 0 0 0 0)), (3, (.ptr 2 0 0 0))]) ⟨.rfl, .rfl, trivial⟩))

set_option maxRecDepth 100000 in
set_option maxHeartbeats 4000000 in
theorem spec_inRange_ok {p0 : Int} {p1 : Int} {p2 : Int} {r : Bool} (h0 : spec_inRange p0 p1 p2 = some r) : ACalls Try.prog 38 [(i64 p0), (i64 p1), (i64 p2)] [] (fun v st => v = (.bool r) ∧ st = []) := by
  unfold spec_inRange at h0
  refine ACalls.intro Try.func38 rfl (by show 3 ≤ 15; decide) ?_
  show AW _ 0 _ (aret _ 0 Try.f38 _) ⟨15, _, _⟩
  refine AW.weaken (Wk.to (L := [(0, (i64 p0)), (1, (i64 p1)), (2, (i64 p2))]) ⟨.rfl, .rfl, .rfl, trivial⟩) ?_
  refine AW.seq fun K1 hK1 => ?_
  refine AW.regionO (by rfl) ?_
  refine ao_q (v := (.bool false)) go0 rfl (aq_as rfl) ?_
  refine AO.done (hK1 _ ?_)
  refine AW.seq fun K2 hK2 => ?_
  obtain ⟨o4, h1, h0⟩ := Sh.bind_some h0
  have M4 : ∀ (t3 : Bool), o4 = t3 → ∀ s, Wk 0 s ⟨15, envL [(6, (.bool t3))], []⟩ → K2 s := by
    intro t3 hq s hw
    subst o4
    try dsimp only at h0
    refine hK2 _ (AW.weaken hw ?_)
    replace h0 := Sh.some_eq h0
    subst r
    exact AW.ret (Exists.intro _ (And.intro (Wk.to (L := [(6, (.bool t3))]) ⟨.rfl, trivial⟩) (And.intro rfl rfl)))
  refine AW.regionO (by rfl) ?_
  refine ao_q (v := (i64 p1)) go0 rfl (aq_mv rfl) ?_
  refine ao_q (v := (i64 p0)) go0 rfl (aq_mv rfl) ?_
  refine ao_q (v := (.bool (decide (p1 ≤ p0)))) go0 rfl (aq_le rfl rfl) ?_
  refine ao_q (v := (.bool (decide (p1 ≤ p0)))) go0 rfl (aq_mv rfl) ?_
  rcases Sh.ite_some h1 with ⟨b5, h1⟩ | ⟨b5, h1⟩
  · skip
    refine ao_q (v := (i64 p0)) (go1 rfl rfl b5) rfl (aq_mv rfl) ?_
    refine ao_q (v := (i64 p2)) (go1 rfl rfl b5) rfl (aq_mv rfl) ?_
    refine ao_q (v := (.bool (decide (p0 ≤ p2)))) (go1 rfl rfl b5) rfl (aq_le rfl rfl) ?_
    refine ao_q (v := (.bool (decide (p0 ≤ p2)))) go0 rfl (aq_pkt rfl b5 rfl) ?_
    refine ao_q (v := (.bool (decide (p0 ≤ p2)))) go0 rfl (aq_as rfl) ?_
    exact AO.done (M4 (decide (p0 ≤ p2)) (Sh.some_eq h1).symm _ (Wk.to (L := [(6, (.bool (decide (p0 ≤ p2))))]) ⟨.rfl, trivial⟩))
  · skip
    refine ao_skip rfl rfl b5 ?_
    refine ao_skip rfl rfl b5 ?_
    refine ao_skip rfl rfl b5 ?_
    refine ao_q (v := (.bool false)) go0 rfl (aq_pkf rfl b5 rfl) ?_
    refine ao_q (v := (.bool false)) go0 rfl (aq_as rfl) ?_
    exact AO.done (M4 false (Sh.some_eq h1).symm _ (Wk.to (L := [(6, (.bool false))]) ⟨.rfl, trivial⟩))

set_option maxRecDepth 100000 in
set_option maxHeartbeats 4000000 in
theorem spec_allTypes_ok {N : Nat} {p0 : (List RDecl)} {p1 : (List Int)} {r : Bool} (h0 : spec_allTypes N p0 p1 = some r) : ACalls Try.prog 39 [(.sl (List.map eRDecl p0)), (.sl (List.map eI p1))] [] (fun v st => v = (.bool r) ∧ st = []) := by
  unfold spec_allTypes at h0
  refine ACalls.intro Try.func39 rfl (by show 2 ≤ 20; decide) ?_
  show AW _ 0 _ (aret _ 0 Try.f39 _) ⟨20, _, _⟩
  refine AW.weaken (Wk.to (L := [(0, (.sl (List.map eRDecl p0))), (1, (.sl (List.map eI p1)))]) ⟨.rfl, .rfl, trivial⟩) ?_
  refine AW.seq fun K1 hK1 => ?_
  refine AW.regionO (by rfl) ?_
  refine ao_q (v := (.bool false)) go0 rfl (aq_as rfl) ?_
  refine AO.done (hK1 _ ?_)
  refine AW.seq fun K2 hK2 => ?_
  refine AW.seq fun K3 hK3 => ?_
  refine AW.regionO (by rfl) ?_
  refine ao_q (v := (i64 0)) go0 rfl (aq_as rfl) ?_
  refine AO.done (hK3 _ ?_)
  obtain ⟨o5, h1, h0⟩ := Sh.cont_some h0
  have M5 : ∀ (_ : Unit), o5 = Sum.inr () → ∀ s, Wk 0 s ⟨20, envL [], []⟩ → K2 s := by
    intro _ hq s hw
    subst o5
    try dsimp only at h0
    refine hK2 _ (AW.weaken hw ?_)
    refine AW.seq fun K6 hK6 => ?_
    refine AW.regionO (by rfl) ?_
    refine ao_q (v := (.bool true)) go0 rfl (aq_as rfl) ?_
    refine AO.done (hK6 _ ?_)
    replace h0 := Sh.some_eq h0
    subst r
    exact AW.ret (Exists.intro _ (And.intro (Wk.to (L := [(4, (.bool true))]) ⟨.rfl, trivial⟩) (And.intro rfl rfl)))
  refine AW.block (AW.loopF (σ := Int) (fun n v => spec_allTypes_L1 p0 p1 n v = some o5) (fun i4 => ⟨20, envL [(0, (.sl (List.map eRDecl p0))), (1, (.sl (List.map eI p1))), (5, (i64 i4))], []⟩) N 0 h1 (Wk.to (L := [(0, (.sl (List.map eRDecl p0))), (1, (.sl (List.map eI p1))), (5, (i64 0))]) ⟨.rfl, .rfl, .rfl, trivial⟩) (fun _ hv => by rw [spec_allTypes_L1] at hv; cases hv) ?_)
  rintro n i4 h1
  try dsimp only at h1 ⊢
  rw [spec_allTypes_L1] at h1
  refine AW.seq fun K7 hK7 => ?_
  refine AW.seq fun K8 hK8 => ?_
  refine AW.regionO (by rfl) ?_
  refine ao_q (v := (i64 i4)) go0 rfl (aq_mv rfl) ?_
  refine ao_q (v := (.sl (List.map eI p1))) go0 rfl (aq_mv rfl) ?_
  refine ao_q (v := (i64 (Sh.len p1))) go0 rfl (aq_lens sl44 rfl) ?_
  refine ao_q (v := (.bool (decide (i4 < (Sh.len p1))))) go0 rfl (aq_lt rfl rfl) ?_
  refine AO.done (hK8 _ ?_)
  refine AW.cond' (b := decide (i4 < (Sh.len p1))) rfl (fun b9 => ?_) (fun b9 => ?_)
  · replace h1 := Sh.ite_t b9 h1
    refine AW.skip (hK7 _ ?_)
    refine AW.seq fun K10 hK10 => ?_
    refine AW.block ?_
    refine AW.seq fun K11 hK11 => ?_
    refine AW.regionO (by rfl) ?_
    refine ao_q (v := (.sl (List.map eI p1))) go0 rfl (aq_mv rfl) ?_
    refine ao_q (v := (i64 i4)) go0 rfl (aq_mv rfl) ?_
    obtain ⟨c12, gc12, h1⟩ := Sh.bind_some h1
    refine ao_q (v := (.iptr (eI c12) 0)) go0 rfl (aq_ixs ei44 rfl rfl gc12 rfl) ?_
    refine ao_q (v := (i64 c12)) go0 rfl (aq_ldi ti3 rfl rfl) ?_
    refine ao_q (v := (.sl (List.map eRDecl p0))) go0 rfl (aq_mv rfl) ?_
    refine ao_q (v := (i64 (Sh.len p0))) go0 rfl (aq_lens sl28 rfl) ?_
    obtain ⟨q13, gq13, h1⟩ := Sh.bind_some h1
    refine ao_call (v' := (.bool q13)) (st' := []) go0 hb38 (spec_inRange_ok gq13) rfl rfl trivial rfl rfl ?_
    refine ao_q (v := (.bool (!q13))) go0 rfl (aq_not rfl) ?_
    refine AO.done (hK11 _ ?_)
    refine AW.cond' (b := !q13) rfl (fun b14 => ?_) (fun b14 => ?_)
    · replace h1 := Sh.ite_t b14 h1
      have b15 : q13 = false := by simpa using b14
      refine AW.seq fun K16 hK16 => ?_
      refine AW.regionO (by rfl) ?_
      refine ao_q (v := (.bool false)) go0 rfl (aq_as rfl) ?_
      refine AO.done (hK16 _ ?_)
      replace h1 := Sh.some_eq h1
      subst o5
      try dsimp only [id] at h0
      replace h0 := Sh.some_eq h0
      subst r
      exact AW.ret (Exists.intro _ (And.intro (Wk.to (L := [(4, (.bool false))]) ⟨.rfl, trivial⟩) (And.intro rfl rfl)))
    · replace h1 := Sh.ite_f b14 h1
      have b17 : q13 = true := by simpa using b14
      refine AW.skip (hK10 _ ?_)
      refine AW.regionO (by rfl) ?_
      refine ao_q (v := (i64 i4)) go0 rfl (aq_mv rfl) ?_
      refine ao_q (v := (i64 (Sh.w (i4 + 1)))) go0 rfl (aq_add rfl rfl) ?_
      refine ao_q (v := (i64 (Sh.w (i4 + 1)))) go0 rfl (aq_as rfl) ?_
      exact AO.done (Exists.intro (Sh.w (i4 + 1)) (And.intro h1 (Wk.to (L := [(0, (.sl (List.map eRDecl p0))), (1, (.sl (List.map eI p1))), (5, (i64 (Sh.w (i4 + 1))))]) ⟨.rfl, .rfl, .rfl, trivial⟩)))
  · replace h1 := Sh.ite_f b9 h1
    exact AW.exit (M5 () (Sh.some_eq h1).symm _ (Wk.to (L := []) trivial))

set_option maxRecDepth 100000 in
set_option maxHeartbeats 4000000 in
theorem spec_validDecl_ok {N : Nat} {p0 : (List RDecl)} {p1 : Int} {r : Bool} (h0 : spec_validDecl N p0 p1 = some r) : ACalls Try.prog 57 [(.sl (List.map eRDecl p0)), (i64 p1)] [] (fun v st => v = (.bool r) ∧ st = []) := by
  unfold spec_validDecl at h0
  refine ACalls.intro Try.func57 rfl (by show 2 ≤ 100; decide) ?_
  show AW _ 0 _ (aret _ 0 Try.f57 _) ⟨100, _, _⟩
  refine AW.weaken (Wk.to (L := [(0, (.sl (List.map eRDecl p0))), (1, (i64 p1))]) ⟨.rfl, .rfl, trivial⟩) ?_
  refine AW.seq fun K1 hK1 => ?_
  refine AW.regionO (by rfl) ?_
  refine ao_q (v := (.bool false)) go0 rfl (aq_as rfl) ?_
  refine AO.done (hK1 _ ?_)
  refine AW.seq fun K2 hK2 => ?_
  refine AW.regionO (by rfl) ?_
  refine ao_q (v := (.sl (List.map eRDecl p0))) go0 rfl (aq_mv rfl) ?_
  refine ao_q (v := (i64 p1)) go0 rfl (aq_mv rfl) ?_
  obtain ⟨c3, gc3, h0⟩ := Sh.bind_some h0
  refine ao_q (v := (.iptr (eRDecl c3) 0)) go0 rfl (aq_ixs ei28 rfl rfl gc3 rfl) ?_
  refine ao_q (v := (.agg [(i64 c3.from_), (i64 c3.to), (.sl (List.map eRCon c3.cons))])) go0 rfl (aq_ldia ti69 rfl (show 0 + 3 ≤ 3 by decide) rfl) ?_
  refine ao_alloc (m := 0) (st' := [⟨0, 69, 3, [[(i64 0), (i64 0), .zc]]⟩]) go0 zi69 rfl rfl ?_
  refine ao_str (st' := [⟨0, 69, 3, [[(i64 c3.from_), (i64 c3.to), (.sl (List.map eRCon c3.cons))]]⟩]) go0 ti69 rfl rfl rfl rfl rfl rfl (show 0 + 3 ≤ 3 by decide) rfl ?_
  refine AO.done (hK2 _ ?_)
  refine AW.seq fun K4 hK4 => ?_
  refine AW.seq fun K5 hK5 => ?_
  refine AW.regionO (by rfl) ?_
  refine ao_q (v := (.ptr 0 0 0 2)) go0 rfl (aq_fap fi69_2 rfl rfl (show 0 + 2 ≤ 3 by decide) rfl) ?_
  refine ao_q (v := (.sl (List.map eRCon c3.cons))) go0 rfl (aq_ldp ti67 rfl rfl rfl rfl) ?_
  refine ao_q (v := (i64 (Sh.len c3.cons))) go0 rfl (aq_lens sl67 rfl) ?_
  refine ao_q (v := (.bool (decide (0 < (Sh.len c3.cons))))) go0 rfl (aq_gt rfl rfl) ?_
  refine AO.done (hK5 _ ?_)
  refine AW.cond' (b := decide (0 < (Sh.len c3.cons))) rfl (fun b6 => ?_) (fun b6 => ?_)
  · replace h0 := Sh.ite_t b6 h0
    refine AW.seq fun K7 hK7 => ?_
    refine AW.seq fun K8 hK8 => ?_
    obtain ⟨o10, h1, h0⟩ := Sh.bind_some h0
    have M10 : ∀ (t9 : Bool), o10 = t9 → ∀ s, Wk 0 s ⟨100, envL [(0, (.sl (List.map eRDecl p0))), (5, (.ptr 0 0 0 0)), (29, (.bool t9))], [⟨0, 69, 3, [[(i64 c3.from_), (i64 c3.to), (.sl (List.map eRCon c3.cons))]]⟩]⟩ → K8 s := by
      intro t9 hq s hw
      subst o10
      try dsimp only at h0
      refine hK8 _ (AW.weaken hw ?_)
      refine AW.cond' (b := t9) rfl (fun b11 => ?_) (fun b11 => ?_)
      · replace h0 := Sh.ite_t b11 h0
        refine AW.seq fun K12 hK12 => ?_
        refine AW.regionO (by rfl) ?_
        refine ao_q (v := (.bool false)) go0 rfl (aq_as rfl) ?_
        refine AO.done (hK12 _ ?_)
        replace h0 := Sh.some_eq h0
        subst r
        exact AW.ret (Exists.intro _ (And.intro ((Wk.permk (L := [(4, (.bool false))]) (st' := []) (st1 := []) [] rfl .nil (by decide) rfl rfl .nil ⟨.rfl, trivial⟩).trans (Wk.to (L := [(4, (.bool false))]) ⟨.rfl, trivial⟩)) (And.intro rfl rfl)))
      · replace h0 := Sh.ite_f b11 h0
        refine AW.skip (hK7 _ ?_)
        refine AW.seq fun K13 hK13 => ?_
        refine AW.seq fun K14 hK14 => ?_
        refine AW.regionO (by rfl) ?_
        refine ao_q (v := (i64 0)) go0 rfl (aq_as rfl) ?_
        refine AO.done (hK14 _ ?_)
        obtain ⟨o16, h1, h0⟩ := Sh.cont_some h0
        have M16 : ∀ (_ : Unit), o16 = Sum.inr () → ∀ s, Wk 0 s ⟨100, envL [], []⟩ → K13 s := by
          intro _ hq s hw
          subst o16
          try dsimp only at h0
          refine hK13 _ (AW.weaken hw ?_)
          refine AW.seq fun K17 hK17 => ?_
          refine AW.regionO (by rfl) ?_
          refine ao_q (v := (.bool true)) go0 rfl (aq_as rfl) ?_
          refine AO.done (hK17 _ ?_)
          replace h0 := Sh.some_eq h0
          subst r
          exact AW.ret (Exists.intro _ (And.intro (Wk.to (L := [(4, (.bool true))]) ⟨.rfl, trivial⟩) (And.intro rfl rfl)))
        refine AW.block (AW.loopF (σ := Int) (fun n v => spec_validDecl_L1 N c3 p0 n v = some o16) (fun i15 => ⟨100, envL [(0, (.sl (List.map eRDecl p0))), (5, (.ptr 0 0 0 0)), (6, (i64 i15))], [⟨0, 69, 3, [[(i64 c3.from_), (i64 c3.to), (.sl (List.map eRCon c3.cons))]]⟩]⟩) N 0 h1 (Wk.to (L := [(0, (.sl (List.map eRDecl p0))), (5, (.ptr 0 0 0 0)), (6, (i64 0))]) ⟨.rfl, .rfl, .rfl, trivial⟩) (fun _ hv => by rw [spec_validDecl_L1] at hv; cases hv) ?_)
        rintro n i15 h1
        try dsimp only at h1 ⊢
        rw [spec_validDecl_L1] at h1
        refine AW.seq fun K18 hK18 => ?_
        refine AW.seq fun K19 hK19 => ?_
        refine AW.regionO (by rfl) ?_
        refine ao_q (v := (i64 i15)) go0 rfl (aq_mv rfl) ?_
        refine ao_q (v := (.ptr 0 0 0 2)) go0 rfl (aq_fap fi69_2 rfl rfl (show 0 + 2 ≤ 3 by decide) rfl) ?_
        refine ao_q (v := (.sl (List.map eRCon c3.cons))) go0 rfl (aq_ldp ti67 rfl rfl rfl rfl) ?_
        refine ao_q (v := (i64 (Sh.len c3.cons))) go0 rfl (aq_lens sl67 rfl) ?_
        refine ao_q (v := (.bool (decide (i15 < (Sh.len c3.cons))))) go0 rfl (aq_lt rfl rfl) ?_
        refine AO.done (hK19 _ ?_)
        refine AW.cond' (b := decide (i15 < (Sh.len c3.cons))) rfl (fun b20 => ?_) (fun b20 => ?_)
        · replace h1 := Sh.ite_t b20 h1
          refine AW.skip (hK18 _ ?_)
          refine AW.seq fun K21 hK21 => ?_
          refine AW.block ?_
          refine AW.seq fun K22 hK22 => ?_
          obtain ⟨o24, h2, h1⟩ := Sh.bind_some h1
          have M24 : ∀ (t23 : Bool), o24 = t23 → ∀ s, Wk 0 s ⟨100, envL [(0, (.sl (List.map eRDecl p0))), (5, (.ptr 0 0 0 0)), (6, (i64 i15)), (55, (.bool t23))], [⟨0, 69, 3, [[(i64 c3.from_), (i64 c3.to), (.sl (List.map eRCon c3.cons))]]⟩]⟩ → K22 s := by
            intro t23 hq s hw
            subst o24
            try dsimp only at h1
            refine hK22 _ (AW.weaken hw ?_)
            refine AW.cond' (b := t23) rfl (fun b25 => ?_) (fun b25 => ?_)
            · replace h1 := Sh.ite_t b25 h1
              refine AW.seq fun K26 hK26 => ?_
              refine AW.regionO (by rfl) ?_
              refine ao_q (v := (.bool false)) go0 rfl (aq_as rfl) ?_
              refine AO.done (hK26 _ ?_)
              replace h1 := Sh.some_eq h1
              subst o16
              try dsimp only [id] at h0
              replace h0 := Sh.some_eq h0
              subst r
              exact AW.ret (Exists.intro _ (And.intro ((Wk.permk (L := [(4, (.bool false))]) (st' := []) (st1 := []) [] rfl .nil (by decide) rfl rfl .nil ⟨.rfl, trivial⟩).trans (Wk.to (L := [(4, (.bool false))]) ⟨.rfl, trivial⟩)) (And.intro rfl rfl)))
            · replace h1 := Sh.ite_f b25 h1
              refine AW.skip (hK21 _ ?_)
              refine AW.regionO (by rfl) ?_
              refine ao_q (v := (i64 i15)) go0 rfl (aq_mv rfl) ?_
              refine ao_q (v := (i64 (Sh.w (i15 + 1)))) go0 rfl (aq_add rfl rfl) ?_
              refine ao_q (v := (i64 (Sh.w (i15 + 1)))) go0 rfl (aq_as rfl) ?_
              exact AO.done (Exists.intro (Sh.w (i15 + 1)) (And.intro h1 (Wk.to (L := [(0, (.sl (List.map eRDecl p0))), (5, (.ptr 0 0 0 0)), (6, (i64 (Sh.w (i15 + 1))))]) ⟨.rfl, .rfl, .rfl, trivial⟩)))
          refine AW.regionO (by rfl) ?_
          refine ao_q (v := (.ptr 0 0 0 2)) go0 rfl (aq_fap fi69_2 rfl rfl (show 0 + 2 ≤ 3 by decide) rfl) ?_
          refine ao_q (v := (.sl (List.map eRCon c3.cons))) go0 rfl (aq_ldp ti67 rfl rfl rfl rfl) ?_
          refine ao_q (v := (i64 i15)) go0 rfl (aq_mv rfl) ?_
          obtain ⟨c27, gc27, h2⟩ := Sh.bind_some h2
          refine ao_q (v := (.iptr (eRCon c27) 0)) go0 rfl (aq_ixs ei67 rfl rfl gc27 rfl) ?_
          refine ao_q (v := (.iptr (eRCon c27) 0)) go0 rfl (aq_fai fi112_0 rfl rfl) ?_
          refine ao_q (v := (.sl (List.map eI c27.fields))) go0 rfl (aq_ldi ti44 rfl rfl) ?_
          refine ao_q (v := (i64 (Sh.len c27.fields))) go0 rfl (aq_lens sl44 rfl) ?_
          refine ao_q (v := (.bool (decide (3 < (Sh.len c27.fields))))) go0 rfl (aq_gt rfl rfl) ?_
          refine ao_q (v := (.bool (decide (3 < (Sh.len c27.fields))))) go0 rfl (aq_mv rfl) ?_
          rcases Sh.ite_some h2 with ⟨b28, h2⟩ | ⟨b28, h2⟩
          · skip
            refine ao_skip rfl rfl b28 ?_
            refine ao_skip rfl rfl b28 ?_
            refine ao_skip rfl rfl b28 ?_
            refine ao_skip rfl rfl b28 ?_
            refine ao_skip rfl rfl b28 ?_
            refine ao_skip rfl rfl b28 ?_
            refine ao_skip rfl rfl b28 ?_
            refine ao_skip rfl rfl b28 ?_
            refine ao_skip rfl rfl b28 ?_
            refine ao_q (v := (.bool true)) go0 rfl (aq_pkt rfl b28 rfl) ?_
            exact AO.done (M24 true (Sh.some_eq h2).symm _ (Wk.to (L := [(0, (.sl (List.map eRDecl p0))), (5, (.ptr 0 0 0 0)), (6, (i64 i15)), (55, (.bool true))]) ⟨.rfl, .rfl, .rfl, .rfl, trivial⟩))
          · skip
            refine ao_q (v := (.sl (List.map eRDecl p0))) (go1 rfl rfl b28) rfl (aq_mv rfl) ?_
            refine ao_q (v := (.ptr 0 0 0 2)) (go1 rfl rfl b28) rfl (aq_fap fi69_2 rfl rfl (show 0 + 2 ≤ 3 by decide) rfl) ?_
            refine ao_q (v := (.sl (List.map eRCon c3.cons))) (go1 rfl rfl b28) rfl (aq_ldp ti67 rfl rfl rfl rfl) ?_
            refine ao_q (v := (i64 i15)) (go1 rfl rfl b28) rfl (aq_mv rfl) ?_
            refine ao_q (v := (.iptr (eRCon c27) 0)) (go1 rfl rfl b28) rfl (aq_ixs ei67 rfl rfl gc27 rfl) ?_
            refine ao_q (v := (.iptr (eRCon c27) 0)) (go1 rfl rfl b28) rfl (aq_fai fi112_0 rfl rfl) ?_
            refine ao_q (v := (.sl (List.map eI c27.fields))) (go1 rfl rfl b28) rfl (aq_ldi ti44 rfl rfl) ?_
            obtain ⟨q29, gq29, h2⟩ := Sh.bind_some h2
            refine ao_call (v' := (.bool q29)) (st' := [⟨0, 69, 3, [[(i64 c3.from_), (i64 c3.to), (.sl (List.map eRCon c3.cons))]]⟩]) (go1 rfl rfl b28) hb39 (spec_allTypes_ok gq29) rfl rfl trivial rfl rfl ?_
            refine ao_q (v := (.bool (!q29))) (go1 rfl rfl b28) rfl (aq_not rfl) ?_
            refine ao_q (v := (.bool (!q29))) go0 rfl (aq_pkf rfl b28 rfl) ?_
            exact AO.done (M24 (!q29) (Sh.some_eq h2).symm _ (Wk.to (L := [(0, (.sl (List.map eRDecl p0))), (5, (.ptr 0 0 0 0)), (6, (i64 i15)), (55, (.bool (!q29)))]) ⟨.rfl, .rfl, .rfl, .rfl, trivial⟩))
        · replace h1 := Sh.ite_f b20 h1
          exact AW.exit (M16 () (Sh.some_eq h1).symm _ (by refine Wk.trans (Wk.permk (L := []) (st' := []) (st1 := []) [] rfl .nil (by decide) rfl rfl .nil trivial) ?_; exact Wk.to (L := []) trivial))
    refine AW.regionO (by rfl) ?_
    refine ao_q (v := (.ptr 0 0 0 2)) go0 rfl (aq_fap fi69_2 rfl rfl (show 0 + 2 ≤ 3 by decide) rfl) ?_
    refine ao_q (v := (.sl (List.map eRCon c3.cons))) go0 rfl (aq_ldp ti67 rfl rfl rfl rfl) ?_
    refine ao_q (v := (i64 (Sh.len c3.cons))) go0 rfl (aq_lens sl67 rfl) ?_
    refine ao_q (v := (.bool (decide (3 < (Sh.len c3.cons))))) go0 rfl (aq_gt rfl rfl) ?_
    refine ao_q (v := (.bool (decide (3 < (Sh.len c3.cons))))) go0 rfl (aq_mv rfl) ?_
    rcases Sh.ite_some h1 with ⟨b30, h1⟩ | ⟨b30, h1⟩
    · skip
      refine ao_skip rfl rfl b30 ?_
      refine ao_skip rfl rfl b30 ?_
      refine ao_skip rfl rfl b30 ?_
      refine ao_q (v := (.bool true)) go0 rfl (aq_pkt rfl b30 rfl) ?_
      refine ao_q (v := (.bool true)) go0 rfl (aq_mv rfl) ?_
      refine ao_skip rfl rfl rfl ?_
      refine ao_skip rfl rfl rfl ?_
      refine ao_skip rfl rfl rfl ?_
      refine ao_q (v := (.bool true)) go0 rfl (aq_pkt rfl rfl rfl) ?_
      exact AO.done (M10 true (Sh.some_eq h1).symm _ (Wk.to (L := [(0, (.sl (List.map eRDecl p0))), (5, (.ptr 0 0 0 0)), (29, (.bool true))]) ⟨.rfl, .rfl, .rfl, trivial⟩))
    · skip
      refine ao_q (v := (.ptr 0 0 0 0)) (go1 rfl rfl b30) rfl (aq_fap fi69_0 rfl rfl (show 0 + 0 ≤ 3 by decide) rfl) ?_
      refine ao_q (v := (i64 c3.from_)) (go1 rfl rfl b30) rfl (aq_ldp ti3 rfl rfl rfl rfl) ?_
      refine ao_q (v := (.bool (!decide (c3.from_ = 0)))) (go1 rfl rfl b30) rfl (aq_ne rfl rfl) ?_
      refine ao_q (v := (.bool (!decide (c3.from_ = 0)))) go0 rfl (aq_pkf rfl b30 rfl) ?_
      refine ao_q (v := (.bool (!decide (c3.from_ = 0)))) go0 rfl (aq_mv rfl) ?_
      rcases Sh.ite_some h1 with ⟨b31, h1⟩ | ⟨b31, h1⟩
      · skip
        refine ao_skip rfl rfl b31 ?_
        refine ao_skip rfl rfl b31 ?_
        refine ao_skip rfl rfl b31 ?_
        refine ao_q (v := (.bool true)) go0 rfl (aq_pkt rfl b31 rfl) ?_
        exact AO.done (M10 true (Sh.some_eq h1).symm _ (Wk.to (L := [(0, (.sl (List.map eRDecl p0))), (5, (.ptr 0 0 0 0)), (29, (.bool true))]) ⟨.rfl, .rfl, .rfl, trivial⟩))
      · skip
        refine ao_q (v := (.ptr 0 0 0 1)) (go1 rfl rfl b31) rfl (aq_fap fi69_1 rfl rfl (show 0 + 1 ≤ 3 by decide) rfl) ?_
        refine ao_q (v := (i64 c3.to)) (go1 rfl rfl b31) rfl (aq_ldp ti3 rfl rfl rfl rfl) ?_
        refine ao_q (v := (.bool (!decide (c3.to = 0)))) (go1 rfl rfl b31) rfl (aq_ne rfl rfl) ?_
        refine ao_q (v := (.bool (!decide (c3.to = 0)))) go0 rfl (aq_pkf rfl b31 rfl) ?_
        exact AO.done (M10 (!decide (c3.to = 0)) (Sh.some_eq h1).symm _ (Wk.to (L := [(0, (.sl (List.map eRDecl p0))), (5, (.ptr 0 0 0 0)), (29, (.bool (!decide (c3.to = 0))))]) ⟨.rfl, .rfl, .rfl, trivial⟩))
  · replace h0 := Sh.ite_f b6 h0
    refine AW.skip (hK4 _ ?_)
    refine AW.seq fun K32 hK32 => ?_
    refine AW.seq fun K33 hK33 => ?_
    refine AW.regionO (by rfl) ?_
    refine ao_q (v := (i64 0)) go0 rfl (aq_as rfl) ?_
    refine AO.done (hK33 _ ?_)
    obtain ⟨o35, h1, h0⟩ := Sh.cont_some h0
    have M35 : ∀ (_ : Unit), o35 = Sum.inr () → ∀ s, Wk 0 s ⟨100, envL [(0, (.sl (List.map eRDecl p0))), (5, (.ptr 0 0 0 0))], [⟨0, 69, 3, [[(i64 c3.from_), (i64 c3.to), (.sl (List.map eRCon c3.cons))]]⟩]⟩ → K32 s := by
      intro _ hq s hw
      subst o35
      try dsimp only at h0
      refine hK32 _ (AW.weaken hw ?_)
      refine AW.seq fun K36 hK36 => ?_
      obtain ⟨o38, h1, h0⟩ := Sh.bind_some h0
      have M38 : ∀ (t37 : Bool), o38 = t37 → ∀ s, Wk 0 s ⟨100, envL [(4, (.bool t37))], []⟩ → K36 s := by
        intro t37 hq s hw
        subst o38
        try dsimp only at h0
        refine hK36 _ (AW.weaken hw ?_)
        replace h0 := Sh.some_eq h0
        subst r
        exact AW.ret (Exists.intro _ (And.intro (Wk.to (L := [(4, (.bool t37))]) ⟨.rfl, trivial⟩) (And.intro rfl rfl)))
      refine AW.regionO (by rfl) ?_
      refine ao_q (v := (.ptr 0 0 0 0)) go0 rfl (aq_fap fi69_0 rfl rfl (show 0 + 0 ≤ 3 by decide) rfl) ?_
      refine ao_q (v := (i64 c3.from_)) go0 rfl (aq_ldp ti3 rfl rfl rfl rfl) ?_
      refine ao_q (v := (.sl (List.map eRDecl p0))) go0 rfl (aq_mv rfl) ?_
      refine ao_q (v := (i64 (Sh.len p0))) go0 rfl (aq_lens sl28 rfl) ?_
      obtain ⟨q39, gq39, h1⟩ := Sh.bind_some h1
      refine ao_call (v' := (.bool q39)) (st' := [⟨0, 69, 3, [[(i64 c3.from_), (i64 c3.to), (.sl (List.map eRCon c3.cons))]]⟩]) go0 hb38 (spec_inRange_ok gq39) rfl rfl trivial rfl rfl ?_
      refine ao_q (v := (.bool q39)) go0 rfl (aq_mv rfl) ?_
      rcases Sh.ite_some h1 with ⟨b40, h1⟩ | ⟨b40, h1⟩
      · skip
        refine ao_q (v := (.ptr 0 0 0 1)) (go1 rfl rfl b40) rfl (aq_fap fi69_1 rfl rfl (show 0 + 1 ≤ 3 by decide) rfl) ?_
        refine ao_q (v := (i64 c3.to)) (go1 rfl rfl b40) rfl (aq_ldp ti3 rfl rfl rfl rfl) ?_
        refine ao_q (v := (.sl (List.map eRDecl p0))) (go1 rfl rfl b40) rfl (aq_mv rfl) ?_
        refine ao_q (v := (i64 (Sh.len p0))) (go1 rfl rfl b40) rfl (aq_lens sl28 rfl) ?_
        obtain ⟨q41, gq41, h1⟩ := Sh.bind_some h1
        refine ao_call (v' := (.bool q41)) (st' := [⟨0, 69, 3, [[(i64 c3.from_), (i64 c3.to), (.sl (List.map eRCon c3.cons))]]⟩]) (go1 rfl rfl b40) hb38 (spec_inRange_ok gq41) rfl rfl trivial rfl rfl ?_
        refine ao_q (v := (.bool q41)) go0 rfl (aq_pkt rfl b40 rfl) ?_
        refine ao_q (v := (.bool q41)) go0 rfl (aq_as rfl) ?_
        exact AO.done (M38 q41 (Sh.some_eq h1).symm _ (by refine Wk.trans (Wk.permk (L := [(4, (.bool q41))]) (st' := []) (st1 := []) [] rfl .nil (by decide) rfl rfl .nil ⟨.rfl, trivial⟩) ?_; exact Wk.to (L := [(4, (.bool q41))]) ⟨.rfl, trivial⟩))
      · skip
        refine ao_skip rfl rfl b40 ?_
        refine ao_skip rfl rfl b40 ?_
        refine ao_skip rfl rfl b40 ?_
        refine ao_skip rfl rfl b40 ?_
        refine ao_skip rfl rfl b40 ?_
        refine ao_q (v := (.bool false)) go0 rfl (aq_pkf rfl b40 rfl) ?_
        refine ao_q (v := (.bool false)) go0 rfl (aq_as rfl) ?_
        exact AO.done (M38 false (Sh.some_eq h1).symm _ (by refine Wk.trans (Wk.permk (L := [(4, (.bool false))]) (st' := []) (st1 := []) [] rfl .nil (by decide) rfl rfl .nil ⟨.rfl, trivial⟩) ?_; exact Wk.to (L := [(4, (.bool false))]) ⟨.rfl, trivial⟩))
    refine AW.block (AW.loopF (σ := Int) (fun n v => spec_validDecl_L2 c3 p0 p1 n v = some o35) (fun i34 => ⟨100, envL [(0, (.sl (List.map eRDecl p0))), (1, (i64 p1)), (5, (.ptr 0 0 0 0)), (7, (i64 i34))], [⟨0, 69, 3, [[(i64 c3.from_), (i64 c3.to), (.sl (List.map eRCon c3.cons))]]⟩]⟩) N 0 h1 (Wk.to (L := [(0, (.sl (List.map eRDecl p0))), (1, (i64 p1)), (5, (.ptr 0 0 0 0)), (7, (i64 0))]) ⟨.rfl, .rfl, .rfl, .rfl, trivial⟩) (fun _ hv => by rw [spec_validDecl_L2] at hv; cases hv) ?_)
    rintro n i34 h1
    try dsimp only at h1 ⊢
    rw [spec_validDecl_L2] at h1
    refine AW.seq fun K42 hK42 => ?_
    refine AW.seq fun K43 hK43 => ?_
    refine AW.regionO (by rfl) ?_
    refine ao_q (v := (i64 i34)) go0 rfl (aq_mv rfl) ?_
    refine ao_q (v := (i64 p1)) go0 rfl (aq_mv rfl) ?_
    refine ao_q (v := (.bool (decide (i34 < p1)))) go0 rfl (aq_lt rfl rfl) ?_
    refine AO.done (hK43 _ ?_)
    refine AW.cond' (b := decide (i34 < p1)) rfl (fun b44 => ?_) (fun b44 => ?_)
    · replace h1 := Sh.ite_t b44 h1
      refine AW.skip (hK42 _ ?_)
      refine AW.seq fun K45 hK45 => ?_
      refine AW.block ?_
      refine AW.seq fun K46 hK46 => ?_
      obtain ⟨o48, h2, h1⟩ := Sh.bind_some h1
      have M48 : ∀ (t47 : Bool), o48 = t47 → ∀ s, Wk 0 s ⟨100, envL [(0, (.sl (List.map eRDecl p0))), (1, (i64 p1)), (5, (.ptr 0 0 0 0)), (7, (i64 i34)), (87, (.bool t47))], [⟨0, 69, 3, [[(i64 c3.from_), (i64 c3.to), (.sl (List.map eRCon c3.cons))]]⟩]⟩ → K46 s := by
        intro t47 hq s hw
        subst o48
        try dsimp only at h1
        refine hK46 _ (AW.weaken hw ?_)
        refine AW.cond' (b := t47) rfl (fun b49 => ?_) (fun b49 => ?_)
        · replace h1 := Sh.ite_t b49 h1
          refine AW.seq fun K50 hK50 => ?_
          refine AW.regionO (by rfl) ?_
          refine ao_q (v := (.bool false)) go0 rfl (aq_as rfl) ?_
          refine AO.done (hK50 _ ?_)
          replace h1 := Sh.some_eq h1
          subst o35
          try dsimp only [id] at h0
          replace h0 := Sh.some_eq h0
          subst r
          exact AW.ret (Exists.intro _ (And.intro ((Wk.permk (L := [(4, (.bool false))]) (st' := []) (st1 := []) [] rfl .nil (by decide) rfl rfl .nil ⟨.rfl, trivial⟩).trans (Wk.to (L := [(4, (.bool false))]) ⟨.rfl, trivial⟩)) (And.intro rfl rfl)))
        · replace h1 := Sh.ite_f b49 h1
          refine AW.skip (hK45 _ ?_)
          refine AW.regionO (by rfl) ?_
          refine ao_q (v := (i64 i34)) go0 rfl (aq_mv rfl) ?_
          refine ao_q (v := (i64 (Sh.w (i34 + 1)))) go0 rfl (aq_add rfl rfl) ?_
          refine ao_q (v := (i64 (Sh.w (i34 + 1)))) go0 rfl (aq_as rfl) ?_
          exact AO.done (Exists.intro (Sh.w (i34 + 1)) (And.intro h1 (Wk.to (L := [(0, (.sl (List.map eRDecl p0))), (1, (i64 p1)), (5, (.ptr 0 0 0 0)), (7, (i64 (Sh.w (i34 + 1))))]) ⟨.rfl, .rfl, .rfl, .rfl, trivial⟩)))
      refine AW.draw (by kernel_rfl) (by kernel_rfl) (by rfl) ?_
      refine d_q (v := (.sl (List.map eRDecl p0))) go0 rfl (aq_mv rfl) ?_
      refine d_q (v := (i64 i34)) go0 rfl (aq_mv rfl) ?_
      obtain ⟨c51, gc51, h2⟩ := Sh.bind_some h2
      refine d_q (v := (.iptr (eRDecl c51) 0)) go0 rfl (aq_ixs ei28 rfl rfl gc51 rfl) ?_
      refine d_q (v := (.iptr (eRDecl c51) 2)) go0 rfl (aq_fai fi69_2 rfl rfl) ?_
      refine d_q (v := (.sl (List.map eRCon c51.cons))) go0 rfl (aq_ldi ti67 rfl rfl) ?_
      refine d_q (v := (i64 (Sh.len c51.cons))) go0 rfl (aq_lens sl67 rfl) ?_
      refine d_q (v := (.bool (decide ((Sh.len c51.cons) = 0)))) go0 rfl (aq_eq rfl rfl) ?_
      refine d_q (v := (.bool (decide ((Sh.len c51.cons) = 0)))) go0 rfl (aq_mv rfl) ?_
      rcases Sh.ite_some h2 with ⟨b52, h2⟩ | ⟨b52, h2⟩
      · skip
        refine d_q (v := (.sl (List.map eRDecl p0))) (go1 rfl rfl b52) rfl (aq_mv rfl) ?_
        refine d_q (v := (i64 i34)) (go1 rfl rfl b52) rfl (aq_mv rfl) ?_
        refine d_q (v := (.iptr (eRDecl c51) 0)) (go1 rfl rfl b52) rfl (aq_ixs ei28 rfl rfl gc51 rfl) ?_
        refine d_q (v := (.iptr (eRDecl c51) 0)) (go1 rfl rfl b52) rfl (aq_fai fi69_0 rfl rfl) ?_
        refine d_q (v := (i64 c51.from_)) (go1 rfl rfl b52) rfl (aq_ldi ti3 rfl rfl) ?_
        refine d_q (v := (.ptr 0 0 0 0)) (go1 rfl rfl b52) rfl (aq_fap fi69_0 rfl rfl (show 0 + 0 ≤ 3 by decide) rfl) ?_
        refine d_q (v := (i64 c3.from_)) (go1 rfl rfl b52) rfl (aq_ldp ti3 rfl rfl rfl rfl) ?_
        refine d_q (v := (.bool (decide (c51.from_ = c3.from_)))) (go1 rfl rfl b52) rfl (aq_eq rfl rfl) ?_
        refine d_q (v := (.bool (decide (c51.from_ = c3.from_)))) go0 rfl (aq_pkt rfl b52 rfl) ?_
        refine d_q (v := (.bool (decide (c51.from_ = c3.from_)))) go0 rfl (aq_mv rfl) ?_
        rcases Sh.ite_some h2 with ⟨b53, h2⟩ | ⟨b53, h2⟩
        · skip
          refine d_q (v := (.sl (List.map eRDecl p0))) (go1 rfl rfl b53) rfl (aq_mv rfl) ?_
          refine d_q (v := (i64 i34)) (go1 rfl rfl b53) rfl (aq_mv rfl) ?_
          refine d_q (v := (.iptr (eRDecl c51) 0)) (go1 rfl rfl b53) rfl (aq_ixs ei28 rfl rfl gc51 rfl) ?_
          refine d_q (v := (.iptr (eRDecl c51) 1)) (go1 rfl rfl b53) rfl (aq_fai fi69_1 rfl rfl) ?_
          refine d_q (v := (i64 c51.to)) (go1 rfl rfl b53) rfl (aq_ldi ti3 rfl rfl) ?_
          refine d_q (v := (.ptr 0 0 0 1)) (go1 rfl rfl b53) rfl (aq_fap fi69_1 rfl rfl (show 0 + 1 ≤ 3 by decide) rfl) ?_
          refine d_q (v := (i64 c3.to)) (go1 rfl rfl b53) rfl (aq_ldp ti3 rfl rfl rfl rfl) ?_
          refine d_q (v := (.bool (decide (c51.to = c3.to)))) (go1 rfl rfl b53) rfl (aq_eq rfl rfl) ?_
          refine d_q (v := (.bool (decide (c51.to = c3.to)))) go0 rfl (aq_pkt rfl b53 rfl) ?_
          exact d_done (M48 (decide (c51.to = c3.to)) (Sh.some_eq h2).symm _ (Wk.to (L := [(0, (.sl (List.map eRDecl p0))), (1, (i64 p1)), (5, (.ptr 0 0 0 0)), (7, (i64 i34)), (87, (.bool (decide (c51.to = c3.to))))]) ⟨.rfl, .rfl, .rfl, .rfl, .rfl, trivial⟩))
        · skip
          refine d_skip rfl rfl b53 ?_
          refine d_skip rfl rfl b53 ?_
          refine d_skip rfl rfl b53 ?_
          refine d_skip rfl rfl b53 ?_
          refine d_skip rfl rfl b53 ?_
          refine d_skip rfl rfl b53 ?_
          refine d_skip rfl rfl b53 ?_
          refine d_skip rfl rfl b53 ?_
          refine d_q (v := (.bool false)) go0 rfl (aq_pkf rfl b53 rfl) ?_
          exact d_done (M48 false (Sh.some_eq h2).symm _ (Wk.to (L := [(0, (.sl (List.map eRDecl p0))), (1, (i64 p1)), (5, (.ptr 0 0 0 0)), (7, (i64 i34)), (87, (.bool false))]) ⟨.rfl, .rfl, .rfl, .rfl, .rfl, trivial⟩))
      · skip
        refine d_skip rfl rfl b52 ?_
        refine d_skip rfl rfl b52 ?_
        refine d_skip rfl rfl b52 ?_
        refine d_skip rfl rfl b52 ?_
        refine d_skip rfl rfl b52 ?_
        refine d_skip rfl rfl b52 ?_
        refine d_skip rfl rfl b52 ?_
        refine d_skip rfl rfl b52 ?_
        refine d_q (v := (.bool false)) go0 rfl (aq_pkf rfl b52 rfl) ?_
        refine d_q (v := (.bool false)) go0 rfl (aq_mv rfl) ?_
        refine d_skip rfl rfl rfl ?_
        refine d_skip rfl rfl rfl ?_
        refine d_skip rfl rfl rfl ?_
        refine d_skip rfl rfl rfl ?_
        refine d_skip rfl rfl rfl ?_
        refine d_skip rfl rfl rfl ?_
        refine d_skip rfl rfl rfl ?_
        refine d_skip rfl rfl rfl ?_
        refine d_q (v := (.bool false)) go0 rfl (aq_pkf rfl rfl rfl) ?_
        exact d_done (M48 false (Sh.some_eq h2).symm _ (Wk.to (L := [(0, (.sl (List.map eRDecl p0))), (1, (i64 p1)), (5, (.ptr 0 0 0 0)), (7, (i64 i34)), (87, (.bool false))]) ⟨.rfl, .rfl, .rfl, .rfl, .rfl, trivial⟩))
    · replace h1 := Sh.ite_f b44 h1
      exact AW.exit (M35 () (Sh.some_eq h1).symm _ (Wk.to (L := [(0, (.sl (List.map eRDecl p0))), (5, (.ptr 0 0 0 0))]) ⟨.rfl, .rfl, trivial⟩))

set_option maxRecDepth 100000 in
set_option maxHeartbeats 4000000 in
theorem spec_validTypes_ok {N : Nat} {p0 : (List RDecl)} {r : Bool} (h0 : spec_validTypes N p0 = some r) : ACalls Try.prog 37 [(.sl (List.map eRDecl p0))] [] (fun v st => v = (.bool r) ∧ st = []) := by
  unfold spec_validTypes at h0
  refine ACalls.intro Try.func37 rfl (by show 1 ≤ 17; decide) ?_
  show AW _ 0 _ (aret _ 0 Try.f37 _) ⟨17, _, _⟩
  refine AW.weaken (Wk.to (L := [(0, (.sl (List.map eRDecl p0)))]) ⟨.rfl, trivial⟩) ?_
  refine AW.seq fun K1 hK1 => ?_
  refine AW.regionO (by rfl) ?_
  refine ao_q (v := (.bool false)) go0 rfl (aq_as rfl) ?_
  refine AO.done (hK1 _ ?_)
  refine AW.seq fun K2 hK2 => ?_
  refine AW.seq fun K3 hK3 => ?_
  refine AW.regionO (by rfl) ?_
  refine ao_q (v := (.sl (List.map eRDecl p0))) go0 rfl (aq_mv rfl) ?_
  refine ao_q (v := (i64 (Sh.len p0))) go0 rfl (aq_lens sl28 rfl) ?_
  refine ao_q (v := (.bool (decide (4 < (Sh.len p0))))) go0 rfl (aq_gt rfl rfl) ?_
  refine AO.done (hK3 _ ?_)
  refine AW.cond' (b := decide (4 < (Sh.len p0))) rfl (fun b4 => ?_) (fun b4 => ?_)
  · replace h0 := Sh.ite_t b4 h0
    refine AW.seq fun K5 hK5 => ?_
    refine AW.regionO (by rfl) ?_
    refine ao_q (v := (.bool false)) go0 rfl (aq_as rfl) ?_
    refine AO.done (hK5 _ ?_)
    replace h0 := Sh.some_eq h0
    subst r
    exact AW.ret (Exists.intro _ (And.intro (Wk.to (L := [(2, (.bool false))]) ⟨.rfl, trivial⟩) (And.intro rfl rfl)))
  · replace h0 := Sh.ite_f b4 h0
    refine AW.skip (hK2 _ ?_)
    refine AW.seq fun K6 hK6 => ?_
    refine AW.seq fun K7 hK7 => ?_
    refine AW.regionO (by rfl) ?_
    refine ao_q (v := (i64 0)) go0 rfl (aq_as rfl) ?_
    refine AO.done (hK7 _ ?_)
    obtain ⟨o9, h1, h0⟩ := Sh.cont_some h0
    have M9 : ∀ (_ : Unit), o9 = Sum.inr () → ∀ s, Wk 0 s ⟨17, envL [], []⟩ → K6 s := by
      intro _ hq s hw
      subst o9
      try dsimp only at h0
      refine hK6 _ (AW.weaken hw ?_)
      refine AW.seq fun K10 hK10 => ?_
      refine AW.regionO (by rfl) ?_
      refine ao_q (v := (.bool true)) go0 rfl (aq_as rfl) ?_
      refine AO.done (hK10 _ ?_)
      replace h0 := Sh.some_eq h0
      subst r
      exact AW.ret (Exists.intro _ (And.intro (Wk.to (L := [(2, (.bool true))]) ⟨.rfl, trivial⟩) (And.intro rfl rfl)))
    refine AW.block (AW.loopF (σ := Int) (fun n v => spec_validTypes_L1 N p0 n v = some o9) (fun i8 => ⟨17, envL [(0, (.sl (List.map eRDecl p0))), (3, (i64 i8))], []⟩) N 0 h1 (Wk.to (L := [(0, (.sl (List.map eRDecl p0))), (3, (i64 0))]) ⟨.rfl, .rfl, trivial⟩) (fun _ hv => by rw [spec_validTypes_L1] at hv; cases hv) ?_)
    rintro n i8 h1
    try dsimp only at h1 ⊢
    rw [spec_validTypes_L1] at h1
    refine AW.seq fun K11 hK11 => ?_
    refine AW.seq fun K12 hK12 => ?_
    refine AW.regionO (by rfl) ?_
    refine ao_q (v := (i64 i8)) go0 rfl (aq_mv rfl) ?_
    refine ao_q (v := (.sl (List.map eRDecl p0))) go0 rfl (aq_mv rfl) ?_
    refine ao_q (v := (i64 (Sh.len p0))) go0 rfl (aq_lens sl28 rfl) ?_
    refine ao_q (v := (.bool (decide (i8 < (Sh.len p0))))) go0 rfl (aq_lt rfl rfl) ?_
    refine AO.done (hK12 _ ?_)
    refine AW.cond' (b := decide (i8 < (Sh.len p0))) rfl (fun b13 => ?_) (fun b13 => ?_)
    · replace h1 := Sh.ite_t b13 h1
      refine AW.skip (hK11 _ ?_)
      refine AW.seq fun K14 hK14 => ?_
      refine AW.block ?_
      refine AW.seq fun K15 hK15 => ?_
      refine AW.regionO (by rfl) ?_
      refine ao_q (v := (.sl (List.map eRDecl p0))) go0 rfl (aq_mv rfl) ?_
      refine ao_q (v := (i64 i8)) go0 rfl (aq_mv rfl) ?_
      obtain ⟨q16, gq16, h1⟩ := Sh.bind_some h1
      refine ao_call (v' := (.bool q16)) (st' := []) go0 hb57 (spec_validDecl_ok gq16) rfl rfl trivial rfl rfl ?_
      refine ao_q (v := (.bool (!q16))) go0 rfl (aq_not rfl) ?_
      refine AO.done (hK15 _ ?_)
      refine AW.cond' (b := !q16) rfl (fun b17 => ?_) (fun b17 => ?_)
      · replace h1 := Sh.ite_t b17 h1
        have b18 : q16 = false := by simpa using b17
        refine AW.seq fun K19 hK19 => ?_
        refine AW.regionO (by rfl) ?_
        refine ao_q (v := (.bool false)) go0 rfl (aq_as rfl) ?_
        refine AO.done (hK19 _ ?_)
        replace h1 := Sh.some_eq h1
        subst o9
        try dsimp only [id] at h0
        replace h0 := Sh.some_eq h0
        subst r
        exact AW.ret (Exists.intro _ (And.intro (Wk.to (L := [(2, (.bool false))]) ⟨.rfl, trivial⟩) (And.intro rfl rfl)))
      · replace h1 := Sh.ite_f b17 h1
        have b20 : q16 = true := by simpa using b17
        refine AW.skip (hK14 _ ?_)
        refine AW.regionO (by rfl) ?_
        refine ao_q (v := (i64 i8)) go0 rfl (aq_mv rfl) ?_
        refine ao_q (v := (i64 (Sh.w (i8 + 1)))) go0 rfl (aq_add rfl rfl) ?_
        refine ao_q (v := (i64 (Sh.w (i8 + 1)))) go0 rfl (aq_as rfl) ?_
        exact AO.done (Exists.intro (Sh.w (i8 + 1)) (And.intro h1 (Wk.to (L := [(0, (.sl (List.map eRDecl p0))), (3, (i64 (Sh.w (i8 + 1))))]) ⟨.rfl, .rfl, trivial⟩)))
    · replace h1 := Sh.ite_f b13 h1
      exact AW.exit (M9 () (Sh.some_eq h1).symm _ (Wk.to (L := []) trivial))

set_option maxRecDepth 100000 in
set_option maxHeartbeats 4000000 in
theorem spec_validSigs_ok {N : Nat} {p0 : RProgram} {r : Bool} (h0 : spec_validSigs N p0 = some r) : ACalls Try.prog 20 [(.agg [(.sl (List.map eRDecl p0.decls)), (.sl (List.map eRFunc p0.funcs))])] [] (fun v st => v = (.bool r) ∧ st = []) := by
  unfold spec_validSigs at h0
  refine ACalls.intro Try.func20 rfl (by show 1 ≤ 64; decide) ?_
  show AW _ 0 _ (aret _ 0 Try.f20 _) ⟨64, _, _⟩
  refine AW.weaken (Wk.to (L := [(0, (.agg [(.sl (List.map eRDecl p0.decls)), (.sl (List.map eRFunc p0.funcs))]))]) ⟨.rfl, trivial⟩) ?_
  refine AW.seq fun K1 hK1 => ?_
  refine AW.regionO (by rfl) ?_
  refine ao_box (m := 0) (st' := [⟨0, 64, 2, [[(.sl (List.map eRDecl p0.decls)), (.sl (List.map eRFunc p0.funcs))]]⟩]) go0 rfl rfl rfl rfl rfl ?_
  refine ao_q (v := (.bool false)) go0 rfl (aq_as rfl) ?_
  refine AO.done (hK1 _ ?_)
  refine AW.seq fun K2 hK2 => ?_
  refine AW.seq fun K3 hK3 => ?_
  obtain ⟨o5, h1, h0⟩ := Sh.bind_some h0
  have M5 : ∀ (t4 : Bool), o5 = t4 → ∀ s, Wk 0 s ⟨64, envL [(1, (.ptr 0 0 0 0)), (15, (.bool t4))], [⟨0, 64, 2, [[(.sl (List.map eRDecl p0.decls)), (.sl (List.map eRFunc p0.funcs))]]⟩]⟩ → K3 s := by
    intro t4 hq s hw
    subst o5
    try dsimp only at h0
    refine hK3 _ (AW.weaken hw ?_)
    refine AW.cond' (b := t4) rfl (fun b6 => ?_) (fun b6 => ?_)
    · replace h0 := Sh.ite_t b6 h0
      refine AW.seq fun K7 hK7 => ?_
      refine AW.regionO (by rfl) ?_
      refine ao_q (v := (.bool false)) go0 rfl (aq_as rfl) ?_
      refine AO.done (hK7 _ ?_)
      replace h0 := Sh.some_eq h0
      subst r
      exact AW.ret (Exists.intro _ (And.intro ((Wk.permk (L := [(2, (.bool false))]) (st' := []) (st1 := []) [] rfl .nil (by decide) rfl rfl .nil ⟨.rfl, trivial⟩).trans (Wk.to (L := [(2, (.bool false))]) ⟨.rfl, trivial⟩)) (And.intro rfl rfl)))
    · replace h0 := Sh.ite_f b6 h0
      refine AW.skip (hK2 _ ?_)
      refine AW.seq fun K8 hK8 => ?_
      refine AW.seq fun K9 hK9 => ?_
      refine AW.regionO (by rfl) ?_
      refine ao_q (v := (i64 0)) go0 rfl (aq_as rfl) ?_
      refine AO.done (hK9 _ ?_)
      obtain ⟨o11, h1, h0⟩ := Sh.cont_some h0
      have M11 : ∀ (_ : Unit), o11 = Sum.inr () → ∀ s, Wk 0 s ⟨64, envL [(1, (.ptr 0 0 0 0))], [⟨0, 64, 2, [[(.sl (List.map eRDecl p0.decls)), (.sl (List.map eRFunc p0.funcs))]]⟩]⟩ → K8 s := by
        intro _ hq s hw
        subst o11
        try dsimp only at h0
        refine hK8 _ (AW.weaken hw ?_)
        refine AW.seq fun K12 hK12 => ?_
        obtain ⟨o14, h1, h0⟩ := Sh.bind_some h0
        have M14 : ∀ (t13 : Bool), o14 = t13 → ∀ s, Wk 0 s ⟨64, envL [(2, (.bool t13))], []⟩ → K12 s := by
          intro t13 hq s hw
          subst o14
          try dsimp only at h0
          refine hK12 _ (AW.weaken hw ?_)
          replace h0 := Sh.some_eq h0
          subst r
          exact AW.ret (Exists.intro _ (And.intro (Wk.to (L := [(2, (.bool t13))]) ⟨.rfl, trivial⟩) (And.intro rfl rfl)))
        refine AW.regionO (by rfl) ?_
        refine ao_q (v := (.ptr 0 0 0 1)) go0 rfl (aq_fap fi64_1 rfl rfl (show 0 + 1 ≤ 2 by decide) rfl) ?_
        refine ao_q (v := (.sl (List.map eRFunc p0.funcs))) go0 rfl (aq_ldp ti62 rfl rfl rfl rfl) ?_
        obtain ⟨c15, gc15, h1⟩ := Sh.bind_some h1
        refine ao_q (v := (.iptr (eRFunc c15) 0)) go0 rfl (aq_ixs ei62 rfl rfl gc15 rfl) ?_
        refine ao_q (v := (.iptr (eRFunc c15) 0)) go0 rfl (aq_fai fi91_0 rfl rfl) ?_
        refine ao_q (v := (.sl (List.map eI c15.params))) go0 rfl (aq_ldi ti44 rfl rfl) ?_
        refine ao_q (v := (i64 (Sh.len c15.params))) go0 rfl (aq_lens sl44 rfl) ?_
        refine ao_q (v := (.bool (decide ((Sh.len c15.params) = 0)))) go0 rfl (aq_eq rfl rfl) ?_
        refine ao_q (v := (.bool (decide ((Sh.len c15.params) = 0)))) go0 rfl (aq_mv rfl) ?_
        rcases Sh.ite_some h1 with ⟨b16, h1⟩ | ⟨b16, h1⟩
        · skip
          refine ao_q (v := (.ptr 0 0 0 1)) (go1 rfl rfl b16) rfl (aq_fap fi64_1 rfl rfl (show 0 + 1 ≤ 2 by decide) rfl) ?_
          refine ao_q (v := (.sl (List.map eRFunc p0.funcs))) (go1 rfl rfl b16) rfl (aq_ldp ti62 rfl rfl rfl rfl) ?_
          refine ao_q (v := (.iptr (eRFunc c15) 0)) (go1 rfl rfl b16) rfl (aq_ixs ei62 rfl rfl gc15 rfl) ?_
          refine ao_q (v := (.iptr (eRFunc c15) 1)) (go1 rfl rfl b16) rfl (aq_fai fi91_1 rfl rfl) ?_
          refine ao_q (v := (i64 c15.result)) (go1 rfl rfl b16) rfl (aq_ldi ti3 rfl rfl) ?_
          refine ao_q (v := (.bool (decide (c15.result = 0)))) (go1 rfl rfl b16) rfl (aq_eq rfl rfl) ?_
          refine ao_q (v := (.bool (decide (c15.result = 0)))) go0 rfl (aq_pkt rfl b16 rfl) ?_
          refine ao_q (v := (.bool (decide (c15.result = 0)))) go0 rfl (aq_as rfl) ?_
          exact AO.done (M14 (decide (c15.result = 0)) (Sh.some_eq h1).symm _ (by refine Wk.trans (Wk.permk (L := [(2, (.bool (decide (c15.result = 0))))]) (st' := []) (st1 := []) [] rfl .nil (by decide) rfl rfl .nil ⟨.rfl, trivial⟩) ?_; exact Wk.to (L := [(2, (.bool (decide (c15.result = 0))))]) ⟨.rfl, trivial⟩))
        · skip
          refine ao_skip rfl rfl b16 ?_
          refine ao_skip rfl rfl b16 ?_
          refine ao_skip rfl rfl b16 ?_
          refine ao_skip rfl rfl b16 ?_
          refine ao_skip rfl rfl b16 ?_
          refine ao_skip rfl rfl b16 ?_
          refine ao_q (v := (.bool false)) go0 rfl (aq_pkf rfl b16 rfl) ?_
          refine ao_q (v := (.bool false)) go0 rfl (aq_as rfl) ?_
          exact AO.done (M14 false (Sh.some_eq h1).symm _ (by refine Wk.trans (Wk.permk (L := [(2, (.bool false))]) (st' := []) (st1 := []) [] rfl .nil (by decide) rfl rfl .nil ⟨.rfl, trivial⟩) ?_; exact Wk.to (L := [(2, (.bool false))]) ⟨.rfl, trivial⟩))
      refine AW.block (AW.loopF (σ := Int) (fun n v => spec_validSigs_L1 N p0 n v = some o11) (fun i10 => ⟨64, envL [(1, (.ptr 0 0 0 0)), (3, (i64 i10))], [⟨0, 64, 2, [[(.sl (List.map eRDecl p0.decls)), (.sl (List.map eRFunc p0.funcs))]]⟩]⟩) N 0 h1 (Wk.to (L := [(1, (.ptr 0 0 0 0)), (3, (i64 0))]) ⟨.rfl, .rfl, trivial⟩) (fun _ hv => by rw [spec_validSigs_L1] at hv; cases hv) ?_)
      rintro n i10 h1
      try dsimp only at h1 ⊢
      rw [spec_validSigs_L1] at h1
      refine AW.seq fun K17 hK17 => ?_
      refine AW.seq fun K18 hK18 => ?_
      refine AW.regionO (by rfl) ?_
      refine ao_q (v := (i64 i10)) go0 rfl (aq_mv rfl) ?_
      refine ao_q (v := (.ptr 0 0 0 1)) go0 rfl (aq_fap fi64_1 rfl rfl (show 0 + 1 ≤ 2 by decide) rfl) ?_
      refine ao_q (v := (.sl (List.map eRFunc p0.funcs))) go0 rfl (aq_ldp ti62 rfl rfl rfl rfl) ?_
      refine ao_q (v := (i64 (Sh.len p0.funcs))) go0 rfl (aq_lens sl62 rfl) ?_
      refine ao_q (v := (.bool (decide (i10 < (Sh.len p0.funcs))))) go0 rfl (aq_lt rfl rfl) ?_
      refine AO.done (hK18 _ ?_)
      refine AW.cond' (b := decide (i10 < (Sh.len p0.funcs))) rfl (fun b19 => ?_) (fun b19 => ?_)
      · replace h1 := Sh.ite_t b19 h1
        refine AW.skip (hK17 _ ?_)
        refine AW.seq fun K20 hK20 => ?_
        refine AW.block ?_
        refine AW.seq fun K21 hK21 => ?_
        refine AW.regionO (by rfl) ?_
        refine ao_q (v := (.ptr 0 0 0 1)) go0 rfl (aq_fap fi64_1 rfl rfl (show 0 + 1 ≤ 2 by decide) rfl) ?_
        refine ao_q (v := (.sl (List.map eRFunc p0.funcs))) go0 rfl (aq_ldp ti62 rfl rfl rfl rfl) ?_
        refine ao_q (v := (i64 i10)) go0 rfl (aq_mv rfl) ?_
        obtain ⟨c22, gc22, h1⟩ := Sh.bind_some h1
        refine ao_q (v := (.iptr (eRFunc c22) 0)) go0 rfl (aq_ixs ei62 rfl rfl gc22 rfl) ?_
        refine ao_q (v := (.agg [(.sl (List.map eI c22.params)), (i64 c22.result), (i64 c22.body.op), (i64 c22.body.num), (.sl (List.map eRExpr c22.body.kids))])) go0 rfl (aq_ldia ti91 rfl (show 0 + 5 ≤ 5 by decide) rfl) ?_
        refine ao_alloc (m := 1) (st' := [⟨0, 64, 2, [[(.sl (List.map eRDecl p0.decls)), (.sl (List.map eRFunc p0.funcs))]]⟩, ⟨0, 91, 5, [[.zc, (i64 0), (i64 0), (i64 0), .zc]]⟩]) go0 zi91 rfl rfl ?_
        refine ao_str (st' := [⟨0, 64, 2, [[(.sl (List.map eRDecl p0.decls)), (.sl (List.map eRFunc p0.funcs))]]⟩, ⟨0, 91, 5, [[(.sl (List.map eI c22.params)), (i64 c22.result), (i64 c22.body.op), (i64 c22.body.num), (.sl (List.map eRExpr c22.body.kids))]]⟩]) go0 ti91 rfl rfl rfl rfl rfl rfl (show 0 + 5 ≤ 5 by decide) rfl ?_
        refine AO.done (hK21 _ ?_)
        refine AW.seq fun K23 hK23 => ?_
        obtain ⟨o25, h2, h1⟩ := Sh.bind_some h1
        have M25 : ∀ (t24 : Bool), o25 = t24 → ∀ s, Wk 0 s ⟨64, envL [(1, (.ptr 0 0 0 0)), (3, (i64 i10)), (48, (.bool t24))], [⟨0, 64, 2, [[(.sl (List.map eRDecl p0.decls)), (.sl (List.map eRFunc p0.funcs))]]⟩]⟩ → K23 s := by
          intro t24 hq s hw
          subst o25
          try dsimp only at h1
          refine hK23 _ (AW.weaken hw ?_)
          refine AW.cond' (b := t24) rfl (fun b26 => ?_) (fun b26 => ?_)
          · replace h1 := Sh.ite_t b26 h1
            refine AW.seq fun K27 hK27 => ?_
            refine AW.regionO (by rfl) ?_
            refine ao_q (v := (.bool false)) go0 rfl (aq_as rfl) ?_
            refine AO.done (hK27 _ ?_)
            replace h1 := Sh.some_eq h1
            subst o11
            try dsimp only [id] at h0
            replace h0 := Sh.some_eq h0
            subst r
            exact AW.ret (Exists.intro _ (And.intro ((Wk.permk (L := [(2, (.bool false))]) (st' := []) (st1 := []) [] rfl .nil (by decide) rfl rfl .nil ⟨.rfl, trivial⟩).trans (Wk.to (L := [(2, (.bool false))]) ⟨.rfl, trivial⟩)) (And.intro rfl rfl)))
          · replace h1 := Sh.ite_f b26 h1
            refine AW.skip (hK20 _ ?_)
            refine AW.regionO (by rfl) ?_
            refine ao_q (v := (i64 i10)) go0 rfl (aq_mv rfl) ?_
            refine ao_q (v := (i64 (Sh.w (i10 + 1)))) go0 rfl (aq_add rfl rfl) ?_
            refine ao_q (v := (i64 (Sh.w (i10 + 1)))) go0 rfl (aq_as rfl) ?_
            exact AO.done (Exists.intro (Sh.w (i10 + 1)) (And.intro h1 (Wk.to (L := [(1, (.ptr 0 0 0 0)), (3, (i64 (Sh.w (i10 + 1))))]) ⟨.rfl, .rfl, trivial⟩)))
        refine AW.regionO (by rfl) ?_
        refine ao_q (v := (.ptr 1 0 0 0)) go0 rfl (aq_fap fi91_0 rfl rfl (show 0 + 0 ≤ 5 by decide) rfl) ?_
        refine ao_q (v := (.sl (List.map eI c22.params))) go0 rfl (aq_ldp ti44 rfl rfl rfl rfl) ?_
        refine ao_q (v := (i64 (Sh.len c22.params))) go0 rfl (aq_lens sl44 rfl) ?_
        refine ao_q (v := (.bool (decide (3 < (Sh.len c22.params))))) go0 rfl (aq_gt rfl rfl) ?_
        refine ao_q (v := (.bool (decide (3 < (Sh.len c22.params))))) go0 rfl (aq_mv rfl) ?_
        rcases Sh.ite_some h2 with ⟨b28, h2⟩ | ⟨b28, h2⟩
        · skip
          refine ao_skip rfl rfl b28 ?_
          refine ao_skip rfl rfl b28 ?_
          refine ao_skip rfl rfl b28 ?_
          refine ao_skip rfl rfl b28 ?_
          refine ao_skip rfl rfl b28 ?_
          refine ao_skip rfl rfl b28 ?_
          refine ao_q (v := (.bool true)) go0 rfl (aq_pkt rfl b28 rfl) ?_
          refine ao_q (v := (.bool true)) go0 rfl (aq_mv rfl) ?_
          refine ao_skip rfl rfl rfl ?_
          refine ao_skip rfl rfl rfl ?_
          refine ao_skip rfl rfl rfl ?_
          refine ao_skip rfl rfl rfl ?_
          refine ao_skip rfl rfl rfl ?_
          refine ao_skip rfl rfl rfl ?_
          refine ao_skip rfl rfl rfl ?_
          refine ao_q (v := (.bool true)) go0 rfl (aq_pkt rfl rfl rfl) ?_
          exact AO.done (M25 true (Sh.some_eq h2).symm _ (by refine Wk.trans (Wk.permk (L := [(1, (.ptr 0 0 0 0)), (3, (i64 i10)), (48, (.bool true))]) (st' := [⟨0, 64, 2, [[(.sl (List.map eRDecl p0.decls)), (.sl (List.map eRFunc p0.funcs))]]⟩]) (st1 := [⟨0, 64, 2, [[(.sl (List.map eRDecl p0.decls)), (.sl (List.map eRFunc p0.funcs))]]⟩]) [0] rfl .nil (by decide) rfl rfl (.raw rfl rfl .nil) ⟨.rfl, .rfl, .rfl, trivial⟩) ?_; exact Wk.to (L := [(1, (.ptr 0 0 0 0)), (3, (i64 i10)), (48, (.bool true))]) ⟨.rfl, .rfl, .rfl, trivial⟩))
        · skip
          refine ao_q (v := (.ptr 0 0 0 0)) (go1 rfl rfl b28) rfl (aq_fap fi64_0 rfl rfl (show 0 + 0 ≤ 2 by decide) rfl) ?_
          refine ao_q (v := (.sl (List.map eRDecl p0.decls))) (go1 rfl rfl b28) rfl (aq_ldp ti28 rfl rfl rfl rfl) ?_
          refine ao_q (v := (.ptr 1 0 0 0)) (go1 rfl rfl b28) rfl (aq_fap fi91_0 rfl rfl (show 0 + 0 ≤ 5 by decide) rfl) ?_
          refine ao_q (v := (.sl (List.map eI c22.params))) (go1 rfl rfl b28) rfl (aq_ldp ti44 rfl rfl rfl rfl) ?_
          obtain ⟨q29, gq29, h2⟩ := Sh.bind_some h2
          refine ao_call (v' := (.bool q29)) (st' := [⟨0, 64, 2, [[(.sl (List.map eRDecl p0.decls)), (.sl (List.map eRFunc p0.funcs))]]⟩, ⟨0, 91, 5, [[(.sl (List.map eI c22.params)), (i64 c22.result), (i64 c22.body.op), (i64 c22.body.num), (.sl (List.map eRExpr c22.body.kids))]]⟩]) (go1 rfl rfl b28) hb39 (spec_allTypes_ok gq29) rfl rfl trivial rfl rfl ?_
          refine ao_q (v := (.bool (!q29))) (go1 rfl rfl b28) rfl (aq_not rfl) ?_
          refine ao_q (v := (.bool (!q29))) go0 rfl (aq_pkf rfl b28 rfl) ?_
          refine ao_q (v := (.bool (!q29))) go0 rfl (aq_mv rfl) ?_
          rcases Sh.ite_some h2 with ⟨b30, h2⟩ | ⟨b30, h2⟩
          · skip
            refine ao_skip rfl rfl b30 ?_
            refine ao_skip rfl rfl b30 ?_
            refine ao_skip rfl rfl b30 ?_
            refine ao_skip rfl rfl b30 ?_
            refine ao_skip rfl rfl b30 ?_
            refine ao_skip rfl rfl b30 ?_
            refine ao_skip rfl rfl b30 ?_
            refine ao_q (v := (.bool true)) go0 rfl (aq_pkt rfl b30 rfl) ?_
            exact AO.done (M25 true (Sh.some_eq h2).symm _ (by refine Wk.trans (Wk.permk (L := [(1, (.ptr 0 0 0 0)), (3, (i64 i10)), (48, (.bool true))]) (st' := [⟨0, 64, 2, [[(.sl (List.map eRDecl p0.decls)), (.sl (List.map eRFunc p0.funcs))]]⟩]) (st1 := [⟨0, 64, 2, [[(.sl (List.map eRDecl p0.decls)), (.sl (List.map eRFunc p0.funcs))]]⟩]) [0] rfl .nil (by decide) rfl rfl (.raw rfl rfl .nil) ⟨.rfl, .rfl, .rfl, trivial⟩) ?_; exact Wk.to (L := [(1, (.ptr 0 0 0 0)), (3, (i64 i10)), (48, (.bool true))]) ⟨.rfl, .rfl, .rfl, trivial⟩))
          · skip
            refine ao_q (v := (.ptr 1 0 0 1)) (go1 rfl rfl b30) rfl (aq_fap fi91_1 rfl rfl (show 0 + 1 ≤ 5 by decide) rfl) ?_
            refine ao_q (v := (i64 c22.result)) (go1 rfl rfl b30) rfl (aq_ldp ti3 rfl rfl rfl rfl) ?_
            refine ao_q (v := (.ptr 0 0 0 0)) (go1 rfl rfl b30) rfl (aq_fap fi64_0 rfl rfl (show 0 + 0 ≤ 2 by decide) rfl) ?_
            refine ao_q (v := (.sl (List.map eRDecl p0.decls))) (go1 rfl rfl b30) rfl (aq_ldp ti28 rfl rfl rfl rfl) ?_
            refine ao_q (v := (i64 (Sh.len p0.decls))) (go1 rfl rfl b30) rfl (aq_lens sl28 rfl) ?_
            obtain ⟨q31, gq31, h2⟩ := Sh.bind_some h2
            refine ao_call (v' := (.bool q31)) (st' := [⟨0, 64, 2, [[(.sl (List.map eRDecl p0.decls)), (.sl (List.map eRFunc p0.funcs))]]⟩, ⟨0, 91, 5, [[(.sl (List.map eI c22.params)), (i64 c22.result), (i64 c22.body.op), (i64 c22.body.num), (.sl (List.map eRExpr c22.body.kids))]]⟩]) (go1 rfl rfl b30) hb38 (spec_inRange_ok gq31) rfl rfl trivial rfl rfl ?_
            refine ao_q (v := (.bool (!q31))) (go1 rfl rfl b30) rfl (aq_not rfl) ?_
            refine ao_q (v := (.bool (!q31))) go0 rfl (aq_pkf rfl b30 rfl) ?_
            exact AO.done (M25 (!q31) (Sh.some_eq h2).symm _ (by refine Wk.trans (Wk.permk (L := [(1, (.ptr 0 0 0 0)), (3, (i64 i10)), (48, (.bool (!q31)))]) (st' := [⟨0, 64, 2, [[(.sl (List.map eRDecl p0.decls)), (.sl (List.map eRFunc p0.funcs))]]⟩]) (st1 := [⟨0, 64, 2, [[(.sl (List.map eRDecl p0.decls)), (.sl (List.map eRFunc p0.funcs))]]⟩]) [0] rfl .nil (by decide) rfl rfl (.raw rfl rfl .nil) ⟨.rfl, .rfl, .rfl, trivial⟩) ?_; exact Wk.to (L := [(1, (.ptr 0 0 0 0)), (3, (i64 i10)), (48, (.bool (!q31)))]) ⟨.rfl, .rfl, .rfl, trivial⟩))
      · replace h1 := Sh.ite_f b19 h1
        exact AW.exit (M11 () (Sh.some_eq h1).symm _ (Wk.to (L := [(1, (.ptr 0 0 0 0))]) ⟨.rfl, trivial⟩))
  refine AW.regionO (by rfl) ?_
  refine ao_q (v := (.ptr 0 0 0 0)) go0 rfl (aq_fap fi64_0 rfl rfl (show 0 + 0 ≤ 2 by decide) rfl) ?_
  refine ao_q (v := (.sl (List.map eRDecl p0.decls))) go0 rfl (aq_ldp ti28 rfl rfl rfl rfl) ?_
  obtain ⟨q32, gq32, h1⟩ := Sh.bind_some h1
  refine ao_call (v' := (.bool q32)) (st' := [⟨0, 64, 2, [[(.sl (List.map eRDecl p0.decls)), (.sl (List.map eRFunc p0.funcs))]]⟩]) go0 hb37 (spec_validTypes_ok gq32) rfl rfl trivial rfl rfl ?_
  refine ao_q (v := (.bool (!q32))) go0 rfl (aq_not rfl) ?_
  refine ao_q (v := (.bool (!q32))) go0 rfl (aq_mv rfl) ?_
  rcases Sh.ite_some h1 with ⟨b33, h1⟩ | ⟨b33, h1⟩
  · skip
    refine ao_skip rfl rfl b33 ?_
    refine ao_skip rfl rfl b33 ?_
    refine ao_skip rfl rfl b33 ?_
    refine ao_skip rfl rfl b33 ?_
    refine ao_skip rfl rfl b33 ?_
    refine ao_q (v := (.bool true)) go0 rfl (aq_pkt rfl b33 rfl) ?_
    exact AO.done (M5 true (Sh.some_eq h1).symm _ (Wk.to (L := [(1, (.ptr 0 0 0 0)), (15, (.bool true))]) ⟨.rfl, .rfl, trivial⟩))
  · skip
    refine ao_q (v := (.ptr 0 0 0 1)) (go1 rfl rfl b33) rfl (aq_fap fi64_1 rfl rfl (show 0 + 1 ≤ 2 by decide) rfl) ?_
    refine ao_q (v := (.sl (List.map eRFunc p0.funcs))) (go1 rfl rfl b33) rfl (aq_ldp ti62 rfl rfl rfl rfl) ?_
    refine ao_q (v := (i64 (Sh.len p0.funcs))) (go1 rfl rfl b33) rfl (aq_lens sl62 rfl) ?_
    obtain ⟨q34, gq34, h1⟩ := Sh.bind_some h1
    refine ao_call (v' := (.bool q34)) (st' := [⟨0, 64, 2, [[(.sl (List.map eRDecl p0.decls)), (.sl (List.map eRFunc p0.funcs))]]⟩]) (go1 rfl rfl b33) hb38 (spec_inRange_ok gq34) rfl rfl trivial rfl rfl ?_
    refine ao_q (v := (.bool (!q34))) (go1 rfl rfl b33) rfl (aq_not rfl) ?_
    refine ao_q (v := (.bool (!q34))) go0 rfl (aq_pkf rfl b33 rfl) ?_
    exact AO.done (M5 (!q34) (Sh.some_eq h1).symm _ (Wk.to (L := [(1, (.ptr 0 0 0 0)), (15, (.bool (!q34)))]) ⟨.rfl, .rfl, trivial⟩))

set_option maxRecDepth 100000 in
set_option maxHeartbeats 4000000 in
theorem spec_validLent_ok {N : Nat} {p0 : (List Int)} {p1 : (List Int)} {r : Bool} (h0 : spec_validLent N p0 p1 = some r) : ACalls Try.prog 40 [(.sl (List.map eI p0)), (.sl (List.map eI p1))] [] (fun v st => v = (.bool r) ∧ st = []) := by
  unfold spec_validLent at h0
  refine ACalls.intro Try.func40 rfl (by show 2 ≤ 47; decide) ?_
  show AW _ 0 _ (aret _ 0 Try.f40 _) ⟨47, _, _⟩
  refine AW.weaken (Wk.to (L := [(0, (.sl (List.map eI p0))), (1, (.sl (List.map eI p1)))]) ⟨.rfl, .rfl, trivial⟩) ?_
  refine AW.seq fun K1 hK1 => ?_
  refine AW.regionO (by rfl) ?_
  refine ao_q (v := (.bool false)) go0 rfl (aq_as rfl) ?_
  refine AO.done (hK1 _ ?_)
  refine AW.seq fun K2 hK2 => ?_
  refine AW.seq fun K3 hK3 => ?_
  refine AW.regionO (by rfl) ?_
  refine ao_q (v := (i64 0)) go0 rfl (aq_as rfl) ?_
  refine AO.done (hK3 _ ?_)
  obtain ⟨o5, h1, h0⟩ := Sh.cont_some h0
  have M5 : ∀ (_ : Unit), o5 = Sum.inr () → ∀ s, Wk 0 s ⟨47, envL [], []⟩ → K2 s := by
    intro _ hq s hw
    subst o5
    try dsimp only at h0
    refine hK2 _ (AW.weaken hw ?_)
    refine AW.seq fun K6 hK6 => ?_
    refine AW.regionO (by rfl) ?_
    refine ao_q (v := (.bool true)) go0 rfl (aq_as rfl) ?_
    refine AO.done (hK6 _ ?_)
    replace h0 := Sh.some_eq h0
    subst r
    exact AW.ret (Exists.intro _ (And.intro (Wk.to (L := [(4, (.bool true))]) ⟨.rfl, trivial⟩) (And.intro rfl rfl)))
  refine AW.block (AW.loopF (σ := Int) (fun n v => spec_validLent_L1 p0 p1 n v = some o5) (fun i4 => ⟨47, envL [(0, (.sl (List.map eI p0))), (1, (.sl (List.map eI p1))), (5, (i64 i4))], []⟩) N 0 h1 (Wk.to (L := [(0, (.sl (List.map eI p0))), (1, (.sl (List.map eI p1))), (5, (i64 0))]) ⟨.rfl, .rfl, .rfl, trivial⟩) (fun _ hv => by rw [spec_validLent_L1] at hv; cases hv) ?_)
  rintro n i4 h1
  try dsimp only at h1 ⊢
  rw [spec_validLent_L1] at h1
  refine AW.seq fun K7 hK7 => ?_
  refine AW.seq fun K8 hK8 => ?_
  refine AW.regionO (by rfl) ?_
  refine ao_q (v := (i64 i4)) go0 rfl (aq_mv rfl) ?_
  refine ao_q (v := (.sl (List.map eI p1))) go0 rfl (aq_mv rfl) ?_
  refine ao_q (v := (i64 (Sh.len p1))) go0 rfl (aq_lens sl44 rfl) ?_
  refine ao_q (v := (.bool (decide (i4 < (Sh.len p1))))) go0 rfl (aq_lt rfl rfl) ?_
  refine AO.done (hK8 _ ?_)
  refine AW.cond' (b := decide (i4 < (Sh.len p1))) rfl (fun b9 => ?_) (fun b9 => ?_)
  · replace h1 := Sh.ite_t b9 h1
    refine AW.skip (hK7 _ ?_)
    refine AW.seq fun K10 hK10 => ?_
    refine AW.block ?_
    refine AW.seq fun K11 hK11 => ?_
    obtain ⟨o13, h2, h1⟩ := Sh.bind_some h1
    have M13 : ∀ (t12 : Bool), o13 = t12 → ∀ s, Wk 0 s ⟨47, envL [(0, (.sl (List.map eI p0))), (1, (.sl (List.map eI p1))), (5, (i64 i4)), (46, (.bool t12))], []⟩ → K11 s := by
      intro t12 hq s hw
      subst o13
      try dsimp only at h1
      refine hK11 _ (AW.weaken hw ?_)
      refine AW.cond' (b := t12) rfl (fun b14 => ?_) (fun b14 => ?_)
      · replace h1 := Sh.ite_t b14 h1
        refine AW.seq fun K15 hK15 => ?_
        refine AW.regionO (by rfl) ?_
        refine ao_q (v := (.bool false)) go0 rfl (aq_as rfl) ?_
        refine AO.done (hK15 _ ?_)
        replace h1 := Sh.some_eq h1
        subst o5
        try dsimp only [id] at h0
        replace h0 := Sh.some_eq h0
        subst r
        exact AW.ret (Exists.intro _ (And.intro (Wk.to (L := [(4, (.bool false))]) ⟨.rfl, trivial⟩) (And.intro rfl rfl)))
      · replace h1 := Sh.ite_f b14 h1
        refine AW.skip (hK10 _ ?_)
        refine AW.regionO (by rfl) ?_
        refine ao_q (v := (i64 i4)) go0 rfl (aq_mv rfl) ?_
        refine ao_q (v := (i64 (Sh.w (i4 + 1)))) go0 rfl (aq_add rfl rfl) ?_
        refine ao_q (v := (i64 (Sh.w (i4 + 1)))) go0 rfl (aq_as rfl) ?_
        exact AO.done (Exists.intro (Sh.w (i4 + 1)) (And.intro h1 (Wk.to (L := [(0, (.sl (List.map eI p0))), (1, (.sl (List.map eI p1))), (5, (i64 (Sh.w (i4 + 1))))]) ⟨.rfl, .rfl, .rfl, trivial⟩)))
    refine AW.draw (by kernel_rfl) (by kernel_rfl) (by rfl) ?_
    refine d_q (v := (.sl (List.map eI p1))) go0 rfl (aq_mv rfl) ?_
    refine d_q (v := (i64 i4)) go0 rfl (aq_mv rfl) ?_
    obtain ⟨c16, gc16, h2⟩ := Sh.bind_some h2
    refine d_q (v := (.iptr (eI c16) 0)) go0 rfl (aq_ixs ei44 rfl rfl gc16 rfl) ?_
    refine d_q (v := (i64 c16)) go0 rfl (aq_ldi ti3 rfl rfl) ?_
    refine d_q (v := (.sl (List.map eI p0))) go0 rfl (aq_mv rfl) ?_
    refine d_q (v := (i64 (Sh.len p0))) go0 rfl (aq_lens sl44 rfl) ?_
    refine d_q (v := (i64 (Sh.w ((Sh.len p0) - 1)))) go0 rfl (aq_sub rfl rfl) ?_
    obtain ⟨q17, gq17, h2⟩ := Sh.bind_some h2
    refine d_call (v := (.bool q17)) go0 hb38 (spec_inRange_ok gq17) rfl rfl rfl ?_
    refine d_q (v := (.bool (!q17))) go0 rfl (aq_not rfl) ?_
    refine d_q (v := (.bool (!q17))) go0 rfl (aq_mv rfl) ?_
    rcases Sh.ite_some h2 with ⟨b18, h2⟩ | ⟨b18, h2⟩
    · skip
      refine d_skip rfl rfl b18 ?_
      refine d_skip rfl rfl b18 ?_
      refine d_skip rfl rfl b18 ?_
      refine d_skip rfl rfl b18 ?_
      refine d_skip rfl rfl b18 ?_
      refine d_skip rfl rfl b18 ?_
      refine d_skip rfl rfl b18 ?_
      refine d_skip rfl rfl b18 ?_
      refine d_q (v := (.bool true)) go0 rfl (aq_pkt rfl b18 rfl) ?_
      refine d_q (v := (.bool true)) go0 rfl (aq_mv rfl) ?_
      refine d_skip rfl rfl rfl ?_
      refine d_skip rfl rfl rfl ?_
      refine d_skip rfl rfl rfl ?_
      refine d_none rfl rfl ?_
      refine d_none rfl rfl ?_
      refine d_none rfl rfl ?_
      refine d_none rfl rfl ?_
      refine d_none rfl rfl ?_
      refine d_none rfl rfl ?_
      refine d_none rfl rfl ?_
      refine d_none rfl rfl ?_
      refine d_none rfl rfl ?_
      refine d_none rfl rfl ?_
      refine d_skip rfl rfl rfl ?_
      refine d_q (v := (.bool true)) go0 rfl (aq_pkt rfl rfl rfl) ?_
      exact d_done (M13 true (Sh.some_eq h2).symm _ (Wk.to (L := [(0, (.sl (List.map eI p0))), (1, (.sl (List.map eI p1))), (5, (i64 i4)), (46, (.bool true))]) ⟨.rfl, .rfl, .rfl, .rfl, trivial⟩))
    · skip
      refine d_q (v := (.sl (List.map eI p0))) (go1 rfl rfl b18) rfl (aq_mv rfl) ?_
      refine d_q (v := (.sl (List.map eI p1))) (go1 rfl rfl b18) rfl (aq_mv rfl) ?_
      refine d_q (v := (i64 i4)) (go1 rfl rfl b18) rfl (aq_mv rfl) ?_
      refine d_q (v := (.iptr (eI c16) 0)) (go1 rfl rfl b18) rfl (aq_ixs ei44 rfl rfl gc16 rfl) ?_
      refine d_q (v := (i64 c16)) (go1 rfl rfl b18) rfl (aq_ldi ti3 rfl rfl) ?_
      obtain ⟨c19, gc19, h2⟩ := Sh.bind_some h2
      refine d_q (v := (.iptr (eI c19) 0)) (go1 rfl rfl b18) rfl (aq_ixs ei44 rfl rfl gc19 rfl) ?_
      refine d_q (v := (i64 c19)) (go1 rfl rfl b18) rfl (aq_ldi ti3 rfl rfl) ?_
      refine d_q (v := (.bool (decide (c19 = 0)))) (go1 rfl rfl b18) rfl (aq_eq rfl rfl) ?_
      refine d_q (v := (.bool (decide (c19 = 0)))) go0 rfl (aq_pkf rfl b18 rfl) ?_
      refine d_q (v := (.bool (decide (c19 = 0)))) go0 rfl (aq_mv rfl) ?_
      rcases Sh.ite_some h2 with ⟨b20, h2⟩ | ⟨b20, h2⟩
      · skip
        refine d_skip rfl rfl b20 ?_
        refine d_skip rfl rfl b20 ?_
        refine d_skip rfl rfl b20 ?_
        refine d_none rfl rfl ?_
        refine d_none rfl rfl ?_
        refine d_none rfl rfl ?_
        refine d_none rfl rfl ?_
        refine d_none rfl rfl ?_
        refine d_none rfl rfl ?_
        refine d_none rfl rfl ?_
        refine d_none rfl rfl ?_
        refine d_none rfl rfl ?_
        refine d_none rfl rfl ?_
        refine d_skip rfl rfl b20 ?_
        refine d_q (v := (.bool true)) go0 rfl (aq_pkt rfl b20 rfl) ?_
        exact d_done (M13 true (Sh.some_eq h2).symm _ (Wk.to (L := [(0, (.sl (List.map eI p0))), (1, (.sl (List.map eI p1))), (5, (i64 i4)), (46, (.bool true))]) ⟨.rfl, .rfl, .rfl, .rfl, trivial⟩))
      · skip
        refine d_q (v := (i64 i4)) (go1 rfl rfl b20) rfl (aq_mv rfl) ?_
        refine d_q (v := (.bool (decide (0 < i4)))) (go1 rfl rfl b20) rfl (aq_gt rfl rfl) ?_
        refine d_q (v := (.bool (decide (0 < i4)))) (go1 rfl rfl b20) rfl (aq_mv rfl) ?_
        rcases Sh.ite_some h2 with ⟨b21, h2⟩ | ⟨b21, h2⟩
        · skip
          refine d_q (v := (.sl (List.map eI p1))) (go1 rfl rfl b21) rfl (aq_mv rfl) ?_
          refine d_q (v := (i64 i4)) (go1 rfl rfl b21) rfl (aq_mv rfl) ?_
          refine d_q (v := (.iptr (eI c16) 0)) (go1 rfl rfl b21) rfl (aq_ixs ei44 rfl rfl gc16 rfl) ?_
          refine d_q (v := (i64 c16)) (go1 rfl rfl b21) rfl (aq_ldi ti3 rfl rfl) ?_
          refine d_q (v := (.sl (List.map eI p1))) (go1 rfl rfl b21) rfl (aq_mv rfl) ?_
          refine d_q (v := (i64 i4)) (go1 rfl rfl b21) rfl (aq_mv rfl) ?_
          refine d_q (v := (i64 (Sh.w (i4 - 1)))) (go1 rfl rfl b21) rfl (aq_sub rfl rfl) ?_
          obtain ⟨c22, gc22, h2⟩ := Sh.bind_some h2
          refine d_q (v := (.iptr (eI c22) 0)) (go1 rfl rfl b21) rfl (aq_ixs ei44 rfl rfl gc22 rfl) ?_
          refine d_q (v := (i64 c22)) (go1 rfl rfl b21) rfl (aq_ldi ti3 rfl rfl) ?_
          refine d_q (v := (.bool (decide (c16 ≤ c22)))) (go1 rfl rfl b21) rfl (aq_le rfl rfl) ?_
          refine d_q (v := (.bool (decide (c16 ≤ c22)))) (go1 rfl rfl b20) rfl (aq_pkt rfl b21 rfl) ?_
          refine d_q (v := (.bool (decide (c16 ≤ c22)))) go0 rfl (aq_pkf rfl b20 rfl) ?_
          exact d_done (M13 (decide (c16 ≤ c22)) (Sh.some_eq h2).symm _ (Wk.to (L := [(0, (.sl (List.map eI p0))), (1, (.sl (List.map eI p1))), (5, (i64 i4)), (46, (.bool (decide (c16 ≤ c22))))]) ⟨.rfl, .rfl, .rfl, .rfl, trivial⟩))
        · skip
          refine d_skip rfl rfl b21 ?_
          refine d_skip rfl rfl b21 ?_
          refine d_skip rfl rfl b21 ?_
          refine d_skip rfl rfl b21 ?_
          refine d_skip rfl rfl b21 ?_
          refine d_skip rfl rfl b21 ?_
          refine d_skip rfl rfl b21 ?_
          refine d_skip rfl rfl b21 ?_
          refine d_skip rfl rfl b21 ?_
          refine d_skip rfl rfl b21 ?_
          refine d_q (v := (.bool false)) (go1 rfl rfl b20) rfl (aq_pkf rfl b21 rfl) ?_
          refine d_q (v := (.bool false)) go0 rfl (aq_pkf rfl b20 rfl) ?_
          exact d_done (M13 false (Sh.some_eq h2).symm _ (Wk.to (L := [(0, (.sl (List.map eI p0))), (1, (.sl (List.map eI p1))), (5, (i64 i4)), (46, (.bool false))]) ⟨.rfl, .rfl, .rfl, .rfl, trivial⟩))
  · replace h1 := Sh.ite_f b9 h1
    exact AW.exit (M5 () (Sh.some_eq h1).symm _ (Wk.to (L := []) trivial))

set_option maxRecDepth 100000 in
set_option maxHeartbeats 4000000 in
theorem spec_defines_ok {p0 : Int} {r : Bool} (h0 : spec_defines p0 = some r) : ACalls Try.prog 69 [(i64 p0)] [] (fun v st => v = (.bool r) ∧ st = []) := by
  unfold spec_defines at h0
  refine ACalls.intro Try.func69 rfl (by show 1 ≤ 5; decide) ?_
  show AW _ 0 _ (aret _ 0 Try.f69 _) ⟨5, _, _⟩
  refine AW.weaken (Wk.to (L := [(0, (i64 p0))]) ⟨.rfl, trivial⟩) ?_
  refine AW.seq fun K1 hK1 => ?_
  refine AW.regionO (by rfl) ?_
  refine ao_q (v := (.bool false)) go0 rfl (aq_as rfl) ?_
  refine AO.done (hK1 _ ?_)
  refine AW.seq fun K2 hK2 => ?_
  refine AW.regionO (by rfl) ?_
  refine ao_q (v := (i64 p0)) go0 rfl (aq_mv rfl) ?_
  obtain ⟨q3, gq3, h0⟩ := Sh.bind_some h0
  refine ao_call (v' := (.bool q3)) (st' := []) go0 hb38 (spec_inRange_ok gq3) rfl rfl trivial rfl rfl ?_
  refine ao_q (v := (.bool q3)) go0 rfl (aq_as rfl) ?_
  refine AO.done (hK2 _ ?_)
  replace h0 := Sh.some_eq h0
  subst r
  exact AW.ret (Exists.intro _ (And.intro (Wk.to (L := [(2, (.bool q3))]) ⟨.rfl, trivial⟩) (And.intro rfl rfl)))

set_option maxRecDepth 100000 in
set_option maxHeartbeats 4000000 in
theorem spec_sets_ok {p0 : Int} {r : Bool} (h0 : spec_sets p0 = some r) : ACalls Try.prog 58 [(i64 p0)] [] (fun v st => v = (.bool r) ∧ st = []) := by
  unfold spec_sets at h0
  refine ACalls.intro Try.func58 rfl (by show 1 ≤ 21; decide) ?_
  show AW _ 0 _ (aret _ 0 Try.f58 _) ⟨21, _, _⟩
  refine AW.weaken (Wk.to (L := [(0, (i64 p0))]) ⟨.rfl, trivial⟩) ?_
  refine AW.seq fun K1 hK1 => ?_
  refine AW.regionO (by rfl) ?_
  refine ao_q (v := (.bool false)) go0 rfl (aq_as rfl) ?_
  refine AO.done (hK1 _ ?_)
  refine AW.seq fun K2 hK2 => ?_
  obtain ⟨o4, h1, h0⟩ := Sh.bind_some h0
  have M4 : ∀ (t3 : Bool), o4 = t3 → ∀ s, Wk 0 s ⟨21, envL [(2, (.bool t3))], []⟩ → K2 s := by
    intro t3 hq s hw
    subst o4
    try dsimp only at h0
    refine hK2 _ (AW.weaken hw ?_)
    replace h0 := Sh.some_eq h0
    subst r
    exact AW.ret (Exists.intro _ (And.intro (Wk.to (L := [(2, (.bool t3))]) ⟨.rfl, trivial⟩) (And.intro rfl rfl)))
  refine AW.regionO (by rfl) ?_
  refine ao_q (v := (i64 p0)) go0 rfl (aq_mv rfl) ?_
  obtain ⟨q5, gq5, h1⟩ := Sh.bind_some h1
  refine ao_call (v' := (.bool q5)) (st' := []) go0 hb69 (spec_defines_ok gq5) rfl rfl trivial rfl rfl ?_
  refine ao_q (v := (.bool q5)) go0 rfl (aq_mv rfl) ?_
  rcases Sh.ite_some h1 with ⟨b6, h1⟩ | ⟨b6, h1⟩
  · skip
    refine ao_q (v := (i64 p0)) (go1 rfl rfl b6) rfl (aq_mv rfl) ?_
    refine ao_q (v := (.bool (!decide (p0 = 7)))) (go1 rfl rfl b6) rfl (aq_ne rfl rfl) ?_
    refine ao_q (v := (.bool (!decide (p0 = 7)))) go0 rfl (aq_pkt rfl b6 rfl) ?_
    refine ao_q (v := (.bool (!decide (p0 = 7)))) go0 rfl (aq_mv rfl) ?_
    rcases Sh.ite_some h1 with ⟨b7, h1⟩ | ⟨b7, h1⟩
    · skip
      refine ao_q (v := (i64 p0)) (go1 rfl rfl b7) rfl (aq_mv rfl) ?_
      refine ao_q (v := (.bool (!decide (p0 = 8)))) (go1 rfl rfl b7) rfl (aq_ne rfl rfl) ?_
      refine ao_q (v := (.bool (!decide (p0 = 8)))) go0 rfl (aq_pkt rfl b7 rfl) ?_
      refine ao_q (v := (.bool (!decide (p0 = 8)))) go0 rfl (aq_mv rfl) ?_
      rcases Sh.ite_some h1 with ⟨b8, h1⟩ | ⟨b8, h1⟩
      · skip
        refine ao_skip rfl rfl b8 ?_
        refine ao_skip rfl rfl b8 ?_
        refine ao_q (v := (.bool true)) go0 rfl (aq_pkt rfl b8 rfl) ?_
        refine ao_q (v := (.bool true)) go0 rfl (aq_mv rfl) ?_
        refine ao_skip rfl rfl rfl ?_
        refine ao_skip rfl rfl rfl ?_
        refine ao_q (v := (.bool true)) go0 rfl (aq_pkt rfl rfl rfl) ?_
        refine ao_q (v := (.bool true)) go0 rfl (aq_as rfl) ?_
        exact AO.done (M4 true (Sh.some_eq h1).symm _ (Wk.to (L := [(2, (.bool true))]) ⟨.rfl, trivial⟩))
      · skip
        refine ao_q (v := (i64 p0)) (go1 rfl rfl b8) rfl (aq_mv rfl) ?_
        refine ao_q (v := (.bool (decide (p0 = 18)))) (go1 rfl rfl b8) rfl (aq_eq rfl rfl) ?_
        refine ao_q (v := (.bool (decide (p0 = 18)))) go0 rfl (aq_pkf rfl b8 rfl) ?_
        refine ao_q (v := (.bool (decide (p0 = 18)))) go0 rfl (aq_mv rfl) ?_
        rcases Sh.ite_some h1 with ⟨b9, h1⟩ | ⟨b9, h1⟩
        · skip
          refine ao_skip rfl rfl b9 ?_
          refine ao_skip rfl rfl b9 ?_
          refine ao_q (v := (.bool true)) go0 rfl (aq_pkt rfl b9 rfl) ?_
          refine ao_q (v := (.bool true)) go0 rfl (aq_as rfl) ?_
          exact AO.done (M4 true (Sh.some_eq h1).symm _ (Wk.to (L := [(2, (.bool true))]) ⟨.rfl, trivial⟩))
        · skip
          refine ao_q (v := (i64 p0)) (go1 rfl rfl b9) rfl (aq_mv rfl) ?_
          refine ao_q (v := (.bool (decide (p0 = 19)))) (go1 rfl rfl b9) rfl (aq_eq rfl rfl) ?_
          refine ao_q (v := (.bool (decide (p0 = 19)))) go0 rfl (aq_pkf rfl b9 rfl) ?_
          refine ao_q (v := (.bool (decide (p0 = 19)))) go0 rfl (aq_as rfl) ?_
          exact AO.done (M4 (decide (p0 = 19)) (Sh.some_eq h1).symm _ (Wk.to (L := [(2, (.bool (decide (p0 = 19))))]) ⟨.rfl, trivial⟩))
    · skip
      refine ao_skip rfl rfl b7 ?_
      refine ao_skip rfl rfl b7 ?_
      refine ao_q (v := (.bool false)) go0 rfl (aq_pkf rfl b7 rfl) ?_
      refine ao_q (v := (.bool false)) go0 rfl (aq_mv rfl) ?_
      refine ao_q (v := (i64 p0)) (go1 rfl rfl rfl) rfl (aq_mv rfl) ?_
      refine ao_q (v := (.bool (decide (p0 = 18)))) (go1 rfl rfl rfl) rfl (aq_eq rfl rfl) ?_
      refine ao_q (v := (.bool (decide (p0 = 18)))) go0 rfl (aq_pkf rfl rfl rfl) ?_
      refine ao_q (v := (.bool (decide (p0 = 18)))) go0 rfl (aq_mv rfl) ?_
      rcases Sh.ite_some h1 with ⟨b10, h1⟩ | ⟨b10, h1⟩
      · skip
        refine ao_skip rfl rfl b10 ?_
        refine ao_skip rfl rfl b10 ?_
        refine ao_q (v := (.bool true)) go0 rfl (aq_pkt rfl b10 rfl) ?_
        refine ao_q (v := (.bool true)) go0 rfl (aq_as rfl) ?_
        exact AO.done (M4 true (Sh.some_eq h1).symm _ (Wk.to (L := [(2, (.bool true))]) ⟨.rfl, trivial⟩))
      · skip
        refine ao_q (v := (i64 p0)) (go1 rfl rfl b10) rfl (aq_mv rfl) ?_
        refine ao_q (v := (.bool (decide (p0 = 19)))) (go1 rfl rfl b10) rfl (aq_eq rfl rfl) ?_
        refine ao_q (v := (.bool (decide (p0 = 19)))) go0 rfl (aq_pkf rfl b10 rfl) ?_
        refine ao_q (v := (.bool (decide (p0 = 19)))) go0 rfl (aq_as rfl) ?_
        exact AO.done (M4 (decide (p0 = 19)) (Sh.some_eq h1).symm _ (Wk.to (L := [(2, (.bool (decide (p0 = 19))))]) ⟨.rfl, trivial⟩))
  · skip
    refine ao_skip rfl rfl b6 ?_
    refine ao_skip rfl rfl b6 ?_
    refine ao_q (v := (.bool false)) go0 rfl (aq_pkf rfl b6 rfl) ?_
    refine ao_q (v := (.bool false)) go0 rfl (aq_mv rfl) ?_
    refine ao_skip rfl rfl rfl ?_
    refine ao_skip rfl rfl rfl ?_
    refine ao_q (v := (.bool false)) go0 rfl (aq_pkf rfl rfl rfl) ?_
    refine ao_q (v := (.bool false)) go0 rfl (aq_mv rfl) ?_
    refine ao_q (v := (i64 p0)) (go1 rfl rfl rfl) rfl (aq_mv rfl) ?_
    refine ao_q (v := (.bool (decide (p0 = 18)))) (go1 rfl rfl rfl) rfl (aq_eq rfl rfl) ?_
    refine ao_q (v := (.bool (decide (p0 = 18)))) go0 rfl (aq_pkf rfl rfl rfl) ?_
    refine ao_q (v := (.bool (decide (p0 = 18)))) go0 rfl (aq_mv rfl) ?_
    rcases Sh.ite_some h1 with ⟨b11, h1⟩ | ⟨b11, h1⟩
    · skip
      refine ao_skip rfl rfl b11 ?_
      refine ao_skip rfl rfl b11 ?_
      refine ao_q (v := (.bool true)) go0 rfl (aq_pkt rfl b11 rfl) ?_
      refine ao_q (v := (.bool true)) go0 rfl (aq_as rfl) ?_
      exact AO.done (M4 true (Sh.some_eq h1).symm _ (Wk.to (L := [(2, (.bool true))]) ⟨.rfl, trivial⟩))
    · skip
      refine ao_q (v := (i64 p0)) (go1 rfl rfl b11) rfl (aq_mv rfl) ?_
      refine ao_q (v := (.bool (decide (p0 = 19)))) (go1 rfl rfl b11) rfl (aq_eq rfl rfl) ?_
      refine ao_q (v := (.bool (decide (p0 = 19)))) go0 rfl (aq_pkf rfl b11 rfl) ?_
      refine ao_q (v := (.bool (decide (p0 = 19)))) go0 rfl (aq_as rfl) ?_
      exact AO.done (M4 (decide (p0 = 19)) (Sh.some_eq h1).symm _ (Wk.to (L := [(2, (.bool (decide (p0 = 19))))]) ⟨.rfl, trivial⟩))

set_option maxRecDepth 100000 in
set_option maxHeartbeats 4000000 in
theorem spec_firstCon_ok {N : Nat} {p0 : (List RDecl)} {p1 : Int} {r : Int} (h0 : spec_firstCon N p0 p1 = some r) : ACalls Try.prog 70 [(.sl (List.map eRDecl p0)), (i64 p1)] [] (fun v st => v = (i64 r) ∧ st = []) := by
  unfold spec_firstCon at h0
  refine ACalls.intro Try.func70 rfl (by show 2 ≤ 21; decide) ?_
  show AW _ 0 _ (aret _ 0 Try.f70 _) ⟨21, _, _⟩
  refine AW.weaken (Wk.to (L := [(0, (.sl (List.map eRDecl p0))), (1, (i64 p1))]) ⟨.rfl, .rfl, trivial⟩) ?_
  refine AW.seq fun K1 hK1 => ?_
  refine AW.regionO (by rfl) ?_
  refine ao_q (v := (i64 0)) go0 rfl (aq_as rfl) ?_
  refine AO.done (hK1 _ ?_)
  refine AW.seq fun K2 hK2 => ?_
  refine AW.regionO (by rfl) ?_
  refine ao_q (v := (i64 0)) go0 rfl (aq_as rfl) ?_
  refine AO.done (hK2 _ ?_)
  refine AW.seq fun K3 hK3 => ?_
  refine AW.seq fun K4 hK4 => ?_
  refine AW.regionO (by rfl) ?_
  refine ao_q (v := (i64 0)) go0 rfl (aq_as rfl) ?_
  refine AO.done (hK4 _ ?_)
  obtain ⟨o8, h1, h0⟩ := Sh.bind_some h0
  have M8 : ∀ (n7 : Int), o8 = n7 → ∀ s, Wk 0 s ⟨21, envL [(5, (i64 n7))], []⟩ → K3 s := by
    intro n7 hq s hw
    subst o8
    try dsimp only at h0
    refine hK3 _ (AW.weaken hw ?_)
    refine AW.seq fun K9 hK9 => ?_
    refine AW.regionO (by rfl) ?_
    refine ao_q (v := (i64 n7)) go0 rfl (aq_mv rfl) ?_
    refine ao_q (v := (i64 n7)) go0 rfl (aq_as rfl) ?_
    refine AO.done (hK9 _ ?_)
    replace h0 := Sh.some_eq h0
    subst r
    exact AW.ret (Exists.intro _ (And.intro (Wk.to (L := [(4, (i64 n7))]) ⟨.rfl, trivial⟩) (And.intro rfl rfl)))
  refine AW.block (AW.loopF (σ := Int × Int) (fun n v => spec_firstCon_L1 p0 p1 n v.1 v.2 = some o8) (fun (n5, i6) => ⟨21, envL [(0, (.sl (List.map eRDecl p0))), (1, (i64 p1)), (5, (i64 n5)), (6, (i64 i6))], []⟩) N (0, 0) h1 (Wk.to (L := [(0, (.sl (List.map eRDecl p0))), (1, (i64 p1)), (5, (i64 0)), (6, (i64 0))]) ⟨.rfl, .rfl, .rfl, .rfl, trivial⟩) (fun _ hv => by rw [spec_firstCon_L1] at hv; cases hv) ?_)
  rintro n ⟨n5, i6⟩ h1
  try dsimp only at h1 ⊢
  rw [spec_firstCon_L1] at h1
  refine AW.seq fun K10 hK10 => ?_
  refine AW.seq fun K11 hK11 => ?_
  refine AW.regionO (by rfl) ?_
  refine ao_q (v := (i64 i6)) go0 rfl (aq_mv rfl) ?_
  refine ao_q (v := (i64 p1)) go0 rfl (aq_mv rfl) ?_
  refine ao_q (v := (.bool (decide (i6 < p1)))) go0 rfl (aq_lt rfl rfl) ?_
  refine AO.done (hK11 _ ?_)
  refine AW.cond' (b := decide (i6 < p1)) rfl (fun b12 => ?_) (fun b12 => ?_)
  · replace h1 := Sh.ite_t b12 h1
    refine AW.skip (hK10 _ ?_)
    refine AW.seq fun K13 hK13 => ?_
    refine AW.block ?_
    refine AW.regionO (by rfl) ?_
    refine ao_q (v := (i64 n5)) go0 rfl (aq_mv rfl) ?_
    refine ao_q (v := (.sl (List.map eRDecl p0))) go0 rfl (aq_mv rfl) ?_
    refine ao_q (v := (i64 i6)) go0 rfl (aq_mv rfl) ?_
    obtain ⟨c14, gc14, h1⟩ := Sh.bind_some h1
    refine ao_q (v := (.iptr (eRDecl c14) 0)) go0 rfl (aq_ixs ei28 rfl rfl gc14 rfl) ?_
    refine ao_q (v := (.iptr (eRDecl c14) 2)) go0 rfl (aq_fai fi69_2 rfl rfl) ?_
    refine ao_q (v := (.sl (List.map eRCon c14.cons))) go0 rfl (aq_ldi ti67 rfl rfl) ?_
    refine ao_q (v := (i64 (Sh.len c14.cons))) go0 rfl (aq_lens sl67 rfl) ?_
    refine ao_q (v := (i64 (Sh.w (n5 + (Sh.len c14.cons))))) go0 rfl (aq_add rfl rfl) ?_
    refine ao_q (v := (i64 (Sh.w (n5 + (Sh.len c14.cons))))) go0 rfl (aq_as rfl) ?_
    refine AO.done (hK13 _ ?_)
    refine AW.regionO (by rfl) ?_
    refine ao_q (v := (i64 i6)) go0 rfl (aq_mv rfl) ?_
    refine ao_q (v := (i64 (Sh.w (i6 + 1)))) go0 rfl (aq_add rfl rfl) ?_
    refine ao_q (v := (i64 (Sh.w (i6 + 1)))) go0 rfl (aq_as rfl) ?_
    exact AO.done (Exists.intro (Sh.w (n5 + (Sh.len c14.cons)), Sh.w (i6 + 1)) (And.intro h1 (Wk.to (L := [(0, (.sl (List.map eRDecl p0))), (1, (i64 p1)), (5, (i64 (Sh.w (n5 + (Sh.len c14.cons))))), (6, (i64 (Sh.w (i6 + 1))))]) ⟨.rfl, .rfl, .rfl, .rfl, trivial⟩)))
  · replace h1 := Sh.ite_f b12 h1
    exact AW.exit (M8 n5 (Sh.some_eq h1).symm _ (Wk.to (L := [(5, (i64 n5))]) ⟨.rfl, trivial⟩))

end Go.Proofs.Ytbdefffffmejhaa
