import Derived.Test.YtcpedchmkhlpnaaProg
import Derived.Test.YtcpedchmkhlpnaaREDefs
import Derived.Test.YtcpedchmkhlpnaaCAWalk
import Derived.Test.YtcpedchmkhlpnaaCDWalk
import Derived.Test.YtcpedchmkhlpnaaREWalkP1
namespace Go.Proofs.Ytcpedchmkhlpnaa
open Go Go.Abs RC

theorem hb11 : hasBody Try.prog 11 = true := by kernel_rfl
theorem hb15 : hasBody Try.prog 15 = true := by kernel_rfl
theorem hb16 : hasBody Try.prog 16 = true := by kernel_rfl
theorem hb21 : hasBody Try.prog 21 = true := by kernel_rfl
theorem hb22 : hasBody Try.prog 22 = true := by kernel_rfl
theorem hb23 : hasBody Try.prog 23 = true := by kernel_rfl
theorem hb9 : hasBody Try.prog 9 = true := by kernel_rfl

set_option maxRecDepth 100000 in
set_option maxHeartbeats 4000000 in
theorem laws_FnExactAllocCell_ok {N : Nat} {p0 : (List Cell)} {p1 : Int} {p2 : (List Int)} {r : Bool} (h0 : laws_FnExactAllocCell N p0 p1 p2 = some r) : ACalls Try.prog 5 [(.sl (List.map eCell p0)), (i64 p1), (.sl (List.map eI p2))] [] (fun v st => v = (.bool r) ∧ st = []) := by
  unfold laws_FnExactAllocCell at h0
  refine ACalls.intro Try.func5 rfl (by show 3 ≤ 122; decide) ?_
  show AW _ 0 _ (aret _ 0 Try.f5 _) ⟨122, _, _⟩
  refine AW.weaken (Wk.to (L := [(0, (.sl (List.map eCell p0))), (1, (i64 p1)), (2, (.sl (List.map eI p2)))]) ⟨.rfl, .rfl, .rfl, trivial⟩) ?_
  refine AW.seq fun K1 hK1 => ?_
  refine AW.regionO (by rfl) ?_
  refine ao_q (v := (.bool false)) go0 rfl (aq_as rfl) ?_
  refine AO.done (hK1 _ ?_)
  refine AW.seq fun K2 hK2 => ?_
  refine AW.seq fun K3 hK3 => ?_
  refine AW.regionO (by rfl) ?_
  refine ao_q (v := (.sl (List.map eI p2))) go0 rfl (aq_mv rfl) ?_
  refine ao_q (v := (i64 (Sh.len p2))) go0 rfl (aq_lens sl23 rfl) ?_
  refine ao_q (v := (.bool (decide (1048576 < (Sh.len p2))))) go0 rfl (aq_gt rfl rfl) ?_
  refine AO.done (hK3 _ ?_)
  refine AW.cond' (b := decide (1048576 < (Sh.len p2))) rfl (fun b4 => ?_) (fun b4 => ?_)
  · replace h0 := Sh.ite_t b4 h0
    refine AW.seq fun K5 hK5 => ?_
    refine AW.regionO (by rfl) ?_
    refine ao_q (v := (.bool true)) go0 rfl (aq_as rfl) ?_
    refine AO.done (hK5 _ ?_)
    replace h0 := Sh.some_eq h0
    subst r
    exact AW.ret (Exists.intro _ (And.intro (Wk.to (L := [(6, (.bool true))]) ⟨.rfl, trivial⟩) (And.intro rfl rfl)))
  · replace h0 := Sh.ite_f b4 h0
    refine AW.skip (hK2 _ ?_)
    refine AW.seq fun K6 hK6 => ?_
    refine AW.regionO (by rfl) ?_
    refine ao_q (v := (i64 1048576)) go0 rfl (aq_as rfl) ?_
    refine AO.done (hK6 _ ?_)
    refine AW.seq fun K7 hK7 => ?_
    refine AW.regionO (by rfl) ?_
    refine ao_q (v := (.sl (List.map eCell p0))) go0 rfl (aq_mv rfl) ?_
    refine ao_q (v := (i64 1048576)) go0 rfl (aq_mv rfl) ?_
    obtain ⟨q8, gq8, h0⟩ := Sh.bind_some h0
    refine ao_call (v' := (i64 q8)) (st' := []) go0 hb9 (laws_szCellS_ok gq8) rfl rfl trivial rfl rfl ?_
    refine ao_q (v := (i64 q8)) go0 rfl (aq_as rfl) ?_
    refine AO.done (hK7 _ ?_)
    refine AW.seq fun K9 hK9 => ?_
    refine AW.seq fun K10 hK10 => ?_
    refine AW.regionO (by rfl) ?_
    refine ao_q (v := (i64 q8)) go0 rfl (aq_mv rfl) ?_
    refine ao_q (v := (.bool (decide (q8 < 0)))) go0 rfl (aq_lt rfl rfl) ?_
    refine AO.done (hK10 _ ?_)
    refine AW.cond' (b := decide (q8 < 0)) rfl (fun b11 => ?_) (fun b11 => ?_)
    · replace h0 := Sh.ite_t b11 h0
      refine AW.seq fun K12 hK12 => ?_
      refine AW.regionO (by rfl) ?_
      refine ao_q (v := (.bool true)) go0 rfl (aq_as rfl) ?_
      refine AO.done (hK12 _ ?_)
      replace h0 := Sh.some_eq h0
      subst r
      exact AW.ret (Exists.intro _ (And.intro (Wk.to (L := [(6, (.bool true))]) ⟨.rfl, trivial⟩) (And.intro rfl rfl)))
    · replace h0 := Sh.ite_f b11 h0
      refine AW.skip (hK9 _ ?_)
      refine AW.seq fun K13 hK13 => ?_
      refine AW.regionO (by rfl) ?_
      refine ao_q (v := (.sl (List.map eCell p0))) go0 rfl (aq_mv rfl) ?_
      obtain ⟨q14, gq14, h0⟩ := Sh.bind_some h0
      refine ao_call (v' := (.own 0 0 (List.length q14))) (st' := [⟨0, 58, 3, List.map eCell q14⟩]) go0 hb11 (laws_toCellS_ok gq14) rfl rfl ⟨(pure_map' fun _ => rfl), trivial⟩ rfl rfl ?_
      refine ao_q (v := (i64 p1)) go0 rfl (aq_mv rfl) ?_
      refine ao_q (v := (.sl (List.map eI p2))) go0 rfl (aq_mv rfl) ?_
      obtain ⟨q15, gq15, h0⟩ := Sh.bind_some h0
      refine ao_call (v' := (.own 1 0 (List.length q15))) (st' := [⟨0, 58, 3, List.map eCell q14⟩, ⟨0, 3, 1, List.map eI q15⟩]) go0 hb12 (laws_toIntS_ok gq15) rfl rfl ⟨(pure_map' fun _ => rfl), trivial⟩ rfl rfl ?_
      refine AO.weaken (Wk.frz (L := [(0, (.sl (List.map eCell p0))), (1, (i64 p1)), (2, (.sl (List.map eI p2))), (29, (.sl (List.map eCell q14))), (30, (i64 p1)), (32, (.own 1 0 (List.length q15)))]) (st' := [⟨1, 58, 3, []⟩, ⟨0, 3, 1, List.map eI q15⟩]) (id := 0) rfl (show 0 ≤ 0 by decide) (pure_map fun _ => rfl) ⟨.rfl, .rfl, .rfl, (.frz rfl), .rfl, .rfl, trivial⟩ rfl) ?_
      refine AO.weaken (Wk.frz (L := [(0, (.sl (List.map eCell p0))), (1, (i64 p1)), (2, (.sl (List.map eI p2))), (29, (.sl (List.map eCell q14))), (30, (i64 p1)), (32, (.sl (List.map eI q15)))]) (st' := [⟨1, 58, 3, []⟩, ⟨1, 3, 1, []⟩]) (id := 1) rfl (show 0 ≤ 1 by decide) (pure_map fun _ => rfl) ⟨.rfl, .rfl, .rfl, .rfl, .rfl, (.frz rfl), trivial⟩ rfl) ?_
      obtain ⟨q16, gq16, h0⟩ := Sh.bind_some h0
      refine ao_call (v' := (.tup [(.own 2 0 (List.length q16.1)), (i64 q16.2)])) (st' := [⟨1, 58, 3, []⟩, ⟨1, 3, 1, []⟩, ⟨0, 58, 3, List.map eCell q16.1⟩]) go0 hb22 (spec_AllocCell_ok gq16) rfl rfl ⟨(pure_map' fun _ => rfl), trivial⟩ rfl rfl ?_
      refine ao_q (v := (.tup [(.own 2 0 (List.length q16.1)), (i64 q16.2)])) go0 rfl (aq_mv rfl) ?_
      refine ao_q (v := (.own 2 0 (List.length q16.1))) go0 rfl (aq_ex rfl rfl) ?_
      refine ao_q (v := (i64 q16.2)) go0 rfl (aq_ex rfl rfl) ?_
      refine ao_q (v := (.own 2 0 (List.length q16.1))) go0 rfl (aq_as rfl) ?_
      refine ao_q (v := (i64 q16.2)) go0 rfl (aq_as rfl) ?_
      refine AO.done (hK13 _ ?_)
      refine AW.seq fun K17 hK17 => ?_
      refine AW.regionO (by rfl) ?_
      refine ao_q (v := (.sl (List.map eCell p0))) go0 rfl (aq_mv rfl) ?_
      obtain ⟨q18, gq18, h0⟩ := Sh.bind_some h0
      refine ao_call (v' := (.own 3 0 (List.length q18))) (st' := [⟨1, 58, 3, []⟩, ⟨1, 3, 1, []⟩, ⟨0, 58, 3, List.map eCell q16.1⟩, ⟨0, 58, 3, List.map (eCellD 3) q18⟩]) go0 hb11 (laws_toCellS_2_ok gq18) rfl rfl ⟨(pure_mapD fun _ => rfl), trivial⟩ rfl rfl ?_
      refine ao_q (v := (.own 3 0 (List.length q18))) go0 rfl (aq_as rfl) ?_
      refine AO.done (hK17 _ ?_)
      refine AW.seq fun K19 hK19 => ?_
      refine AW.regionO (by rfl) ?_
      refine ao_q (v := (.sl (List.map eI p2))) go0 rfl (aq_mv rfl) ?_
      obtain ⟨q20, gq20, h0⟩ := Sh.bind_some h0
      refine ao_call (v' := (.own 4 0 (List.length q20))) (st' := [⟨1, 58, 3, []⟩, ⟨1, 3, 1, []⟩, ⟨0, 58, 3, List.map eCell q16.1⟩, ⟨0, 58, 3, List.map (eCellD 3) q18⟩, ⟨0, 3, 1, List.map eI q20⟩]) go0 hb12 (laws_toIntS_ok gq20) rfl rfl ⟨(pure_map' fun _ => rfl), trivial⟩ rfl rfl ?_
      refine ao_q (v := (.own 4 0 (List.length q20))) go0 rfl (aq_as rfl) ?_
      refine AO.done (hK19 _ ?_)
      refine AW.seq fun K21 hK21 => ?_
      refine AW.regionO (by rfl) ?_
      refine ao_q (v := (.own 3 0 (List.length q18))) go0 rfl (aq_mv rfl) ?_
      refine ao_q (v := (i64 p1)) go0 rfl (aq_mv rfl) ?_
      refine ao_q (v := (.own 4 0 (List.length q20))) go0 rfl (aq_mv rfl) ?_
      obtain ⟨q22, gq22, h0⟩ := Sh.bind_some h0
      refine ao_callb (v' := (.tup [(.own 5 0 (List.length q22.1)), (i64 q22.2)])) (st' := [⟨1, 58, 3, []⟩, ⟨1, 3, 1, []⟩, ⟨0, 58, 3, List.map eCell q16.1⟩, ⟨0, 58, 3, List.map (eCellD 3) q18⟩, ⟨0, 3, 1, List.map eI q20⟩, ⟨0, 58, 3, List.map (eCellD 3) q22.1⟩]) go0 hb23 (impl_AllocCell_ok gq22) rfl (.ownD rfl rfl (fun _ => rfl) (fun x => eCellD_und x) (.val rfl (.own rfl rfl (fun _ => rfl) .nil))) rfl (srowD (fun _ => rfl) trivial) rfl rfl ?_
      refine ao_q (v := (.tup [(.own 5 0 (List.length q22.1)), (i64 q22.2)])) go0 rfl (aq_mv rfl) ?_
      refine ao_q (v := (.own 5 0 (List.length q22.1))) go0 rfl (aq_ex rfl rfl) ?_
      refine ao_q (v := (i64 q22.2)) go0 rfl (aq_ex rfl rfl) ?_
      refine ao_q (v := (.own 5 0 (List.length q22.1))) go0 rfl (aq_as rfl) ?_
      refine ao_q (v := (i64 q22.2)) go0 rfl (aq_as rfl) ?_
      refine AO.done (hK21 _ ?_)
      refine AW.seq fun K23 hK23 => ?_
      refine AW.seq fun K24 hK24 => ?_
      obtain ⟨o26, h1, h0⟩ := Sh.bind_some h0
      have M26 : ∀ (t25 : Bool), o26 = t25 → ∀ s, Wk 0 s ⟨122, envL [(0, (.sl (List.map eCell p0))), (1, (i64 p1)), (2, (.sl (List.map eI p2))), (8, (.own 0 0 (List.length q16.1))), (9, (i64 q16.2)), (10, (.own 1 0 (List.length q18))), (11, (.own 2 0 (List.length q20))), (12, (.own 3 0 (List.length q22.1))), (13, (i64 q22.2)), (55, (.bool t25))], [⟨0, 58, 3, List.map eCell q16.1⟩, ⟨0, 58, 3, List.map (eCellD 3) q18⟩, ⟨0, 3, 1, List.map eI q20⟩, ⟨0, 58, 3, List.map (eCellD 3) q22.1⟩]⟩ → K24 s := by
        intro t25 hq s hw
        subst o26
        try dsimp only at h0
        refine hK24 _ (AW.weaken hw ?_)
        refine AW.cond' (b := t25) rfl (fun b27 => ?_) (fun b27 => ?_)
        · replace h0 := Sh.ite_t b27 h0
          refine AW.seq fun K28 hK28 => ?_
          refine AW.regionO (by rfl) ?_
          refine ao_q (v := (.bool false)) go0 rfl (aq_as rfl) ?_
          refine AO.done (hK28 _ ?_)
          replace h0 := Sh.some_eq h0
          subst r
          exact AW.ret (Exists.intro _ (And.intro ((Wk.permk (L := [(6, (.bool false))]) (st' := []) (st1 := []) [] rfl .nil (by decide) rfl rfl .nil ⟨.rfl, trivial⟩).trans (Wk.to (L := [(6, (.bool false))]) ⟨.rfl, trivial⟩)) (And.intro rfl rfl)))
        · replace h0 := Sh.ite_f b27 h0
          refine AW.skip (hK23 _ ?_)
          refine AW.seq fun K29 hK29 => ?_
          refine AW.seq fun K30 hK30 => ?_
          refine AW.regionO (by rfl) ?_
          refine ao_q (v := (.own 1 0 (List.length q18))) go0 rfl (aq_mv rfl) ?_
          refine ao_q (v := (.sl (List.map eCell p0))) go0 rfl (aq_mv rfl) ?_
          obtain ⟨q31, gq31, h0⟩ := Sh.bind_some h0
          refine ao_call (v' := (.own 4 0 (List.length q31))) (st' := [⟨0, 58, 3, List.map eCell q16.1⟩, ⟨0, 58, 3, List.map (eCellD 3) q18⟩, ⟨0, 3, 1, List.map eI q20⟩, ⟨0, 58, 3, List.map (eCellD 3) q22.1⟩, ⟨0, 58, 3, List.map eCell q31⟩]) go0 hb11 (laws_toCellS_ok gq31) rfl rfl ⟨(pure_map' fun _ => rfl), trivial⟩ rfl rfl ?_
          refine AO.weaken (Wk.frz (L := [(0, (.sl (List.map eCell p0))), (1, (i64 p1)), (2, (.sl (List.map eI p2))), (8, (.own 0 0 (List.length q16.1))), (9, (i64 q16.2)), (10, (.own 1 0 (List.length q18))), (11, (.own 2 0 (List.length q20))), (12, (.own 3 0 (List.length q22.1))), (13, (i64 q22.2)), (56, (.own 1 0 (List.length q18))), (58, (.sl (List.map eCell q31)))]) (st' := [⟨0, 58, 3, List.map eCell q16.1⟩, ⟨0, 58, 3, List.map (eCellD 3) q18⟩, ⟨0, 3, 1, List.map eI q20⟩, ⟨0, 58, 3, List.map (eCellD 3) q22.1⟩, ⟨1, 58, 3, []⟩]) (id := 4) rfl (show 0 ≤ 4 by decide) (pure_map fun _ => rfl) ⟨.rfl, .rfl, .rfl, .rfl, .rfl, .rfl, .rfl, .rfl, .rfl, .rfl, (.frz rfl), trivial⟩ rfl) ?_
          obtain ⟨q32, gq32, h0⟩ := Sh.bind_some h0
          refine ao_callb (v' := (.bool q32)) (st' := [⟨0, 58, 3, List.map eCell q16.1⟩, ⟨0, 58, 3, List.map (eCellD 3) q18⟩, ⟨0, 3, 1, List.map eI q20⟩, ⟨0, 58, 3, List.map (eCellD 3) q22.1⟩, ⟨1, 58, 3, []⟩]) go0 hb15 (laws_eqCellS_ok gq32) rfl (.ownD rfl rfl (fun _ => rfl) (fun x => eCellD_und x) (.val rfl .nil)) rfl trivial rfl rfl ?_
          refine ao_q (v := (.bool (!q32))) go0 rfl (aq_not rfl) ?_
          refine AO.done (hK30 _ ?_)
          refine AW.cond' (b := !q32) rfl (fun b33 => ?_) (fun b33 => ?_)
          · replace h0 := Sh.ite_t b33 h0
            have b34 : q32 = false := by simpa using b33
            refine AW.seq fun K35 hK35 => ?_
            refine AW.regionO (by rfl) ?_
            refine ao_q (v := (.bool false)) go0 rfl (aq_as rfl) ?_
            refine AO.done (hK35 _ ?_)
            replace h0 := Sh.some_eq h0
            subst r
            exact AW.ret (Exists.intro _ (And.intro ((Wk.permk (L := [(6, (.bool false))]) (st' := []) (st1 := []) [] rfl .nil (by decide) rfl rfl .nil ⟨.rfl, trivial⟩).trans (Wk.to (L := [(6, (.bool false))]) ⟨.rfl, trivial⟩)) (And.intro rfl rfl)))
          · replace h0 := Sh.ite_f b33 h0
            have b36 : q32 = true := by simpa using b33
            refine AW.skip (hK29 _ ?_)
            refine AW.seq fun K37 hK37 => ?_
            refine AW.seq fun K38 hK38 => ?_
            refine AW.regionO (by rfl) ?_
            refine ao_q (v := (.own 2 0 (List.length q20))) go0 rfl (aq_mv rfl) ?_
            refine ao_q (v := (.sl (List.map eI p2))) go0 rfl (aq_mv rfl) ?_
            obtain ⟨q39, gq39, h0⟩ := Sh.bind_some h0
            refine ao_call (v' := (.own 5 0 (List.length q39))) (st' := [⟨0, 58, 3, List.map eCell q16.1⟩, ⟨0, 58, 3, List.map (eCellD 3) q18⟩, ⟨0, 3, 1, List.map eI q20⟩, ⟨0, 58, 3, List.map (eCellD 3) q22.1⟩, ⟨1, 58, 3, []⟩, ⟨0, 3, 1, List.map eI q39⟩]) go0 hb12 (laws_toIntS_ok gq39) rfl rfl ⟨(pure_map' fun _ => rfl), trivial⟩ rfl rfl ?_
            refine AO.weaken (Wk.frz (L := [(0, (.sl (List.map eCell p0))), (1, (i64 p1)), (2, (.sl (List.map eI p2))), (8, (.own 0 0 (List.length q16.1))), (9, (i64 q16.2)), (10, (.own 1 0 (List.length q18))), (11, (.own 2 0 (List.length q20))), (12, (.own 3 0 (List.length q22.1))), (13, (i64 q22.2)), (61, (.own 2 0 (List.length q20))), (63, (.sl (List.map eI q39)))]) (st' := [⟨0, 58, 3, List.map eCell q16.1⟩, ⟨0, 58, 3, List.map (eCellD 3) q18⟩, ⟨0, 3, 1, List.map eI q20⟩, ⟨0, 58, 3, List.map (eCellD 3) q22.1⟩, ⟨1, 58, 3, []⟩, ⟨1, 3, 1, []⟩]) (id := 5) rfl (show 0 ≤ 5 by decide) (pure_map fun _ => rfl) ⟨.rfl, .rfl, .rfl, .rfl, .rfl, .rfl, .rfl, .rfl, .rfl, .rfl, (.frz rfl), trivial⟩ rfl) ?_
            obtain ⟨q40, gq40, h0⟩ := Sh.bind_some h0
            refine ao_callb (v' := (.bool q40)) (st' := [⟨0, 58, 3, List.map eCell q16.1⟩, ⟨0, 58, 3, List.map (eCellD 3) q18⟩, ⟨0, 3, 1, List.map eI q20⟩, ⟨0, 58, 3, List.map (eCellD 3) q22.1⟩, ⟨1, 58, 3, []⟩, ⟨1, 3, 1, []⟩]) go0 hb14 (laws_eqIntS_ok gq40) rfl (.own rfl rfl (fun _ => rfl) (.val rfl .nil)) rfl trivial rfl rfl ?_
            refine ao_q (v := (.bool (!q40))) go0 rfl (aq_not rfl) ?_
            refine AO.done (hK38 _ ?_)
            refine AW.cond' (b := !q40) rfl (fun b41 => ?_) (fun b41 => ?_)
            · replace h0 := Sh.ite_t b41 h0
              have b42 : q40 = false := by simpa using b41
              refine AW.seq fun K43 hK43 => ?_
              refine AW.regionO (by rfl) ?_
              refine ao_q (v := (.bool false)) go0 rfl (aq_as rfl) ?_
              refine AO.done (hK43 _ ?_)
              replace h0 := Sh.some_eq h0
              subst r
              exact AW.ret (Exists.intro _ (And.intro ((Wk.permk (L := [(6, (.bool false))]) (st' := []) (st1 := []) [] rfl .nil (by decide) rfl rfl .nil ⟨.rfl, trivial⟩).trans (Wk.to (L := [(6, (.bool false))]) ⟨.rfl, trivial⟩)) (And.intro rfl rfl)))
            · replace h0 := Sh.ite_f b41 h0
              have b44 : q40 = true := by simpa using b41
              refine AW.skip (hK37 _ ?_)
              refine AW.seq fun K45 hK45 => ?_
              refine AW.regionO (by rfl) ?_
              refine ao_q (v := (i64 1)) go0 rfl (aq_as rfl) ?_
              refine AO.done (hK45 _ ?_)
              refine AW.seq fun K46 hK46 => ?_
              refine AW.regionO (by rfl) ?_
              refine ao_q (v := (.own 1 0 (List.length q18))) go0 rfl (aq_mv rfl) ?_
              refine ao_q (v := (i64 1)) go0 rfl (aq_mv rfl) ?_
              obtain ⟨q47, gq47, h0⟩ := Sh.bind_some h0
              refine ao_callsL (rowsP := [⟨0, 58, 3, List.map (eCellD 3) q18⟩]) (rows0 := [⟨0, 58, 3, List.map (eCellD 3) q18⟩]) (rows1 := [⟨0, 58, 3, List.map (eCellD 3) q47.2⟩]) (rows2 := []) (rows1' := [⟨0, 58, 3, List.map (eCellD 3) q47.2⟩]) (rows2' := []) (st' := [⟨0, 58, 3, List.map eCell q16.1⟩, ⟨0, 58, 3, List.map (eCellD 3) q47.2⟩, ⟨0, 3, 1, List.map eI q20⟩, ⟨0, 58, 3, List.map (eCellD 3) q22.1⟩, ⟨1, 58, 3, []⟩, ⟨1, 3, 1, []⟩]) (v' := (i64 q47.1)) [1] go0 hb16 (laws_markCellS_ok gq47) rfl (by decide) rfl rfl (.deep (pure_mapD fun _ => rfl) .nil) rfl rfl (.deep (pure_mapD fun _ => rfl) .nil) .nil rfl rfl (fun hln => ?_)
              have ln48 : List.length q47.2 = List.length q18 := by simpa only [List.length_map] using hln 0 _ _ rfl rfl rfl
              refine ao_q (v := (i64 q47.1)) go0 rfl (aq_as rfl) ?_
              refine AO.done (hK46 _ ?_)
              refine AW.seq fun K49 hK49 => ?_
              refine AW.regionO (by rfl) ?_
              refine ao_q (v := (.own 2 0 (List.length q20))) go0 rfl (aq_mv rfl) ?_
              refine ao_q (v := (i64 q47.1)) go0 rfl (aq_mv rfl) ?_
              obtain ⟨q50, gq50, h0⟩ := Sh.bind_some h0
              refine ao_callsL (rowsP := [⟨0, 3, 1, List.map eI q20⟩]) (rows0 := [⟨0, 3, 1, List.map eI q20⟩]) (rows1 := [⟨0, 3, 1, List.map eI q50.2⟩]) (rows2 := []) (rows1' := [⟨0, 3, 1, List.map eI q50.2⟩]) (rows2' := []) (st' := [⟨0, 58, 3, List.map eCell q16.1⟩, ⟨0, 58, 3, List.map (eCellD 3) q47.2⟩, ⟨0, 3, 1, List.map eI q50.2⟩, ⟨0, 58, 3, List.map (eCellD 3) q22.1⟩, ⟨1, 58, 3, []⟩, ⟨1, 3, 1, []⟩]) (v' := (i64 q50.1)) [2] go0 hb17 (laws_markIntS_ok gq50) rfl (by decide) rfl rfl (.pure (pure_map fun _ => rfl) .nil) rfl rfl (.pure (pure_map fun _ => rfl) .nil) .nil rfl rfl (fun hln => ?_)
              have ln51 : List.length q50.2 = List.length q20 := by simpa only [List.length_map] using hln 0 _ _ rfl rfl rfl
              refine ao_q (v := (i64 q50.1)) go0 rfl (aq_as rfl) ?_
              refine AO.done (hK49 _ ?_)
              refine AW.seq fun K52 hK52 => ?_
              refine AW.seq fun K53 hK53 => ?_
              obtain ⟨o55, h1, h0⟩ := Sh.bind_some h0
              have M55 : ∀ (t54 : Bool), o55 = t54 → ∀ s, Wk 0 s ⟨122, envL [(0, (.sl (List.map eCell p0))), (1, (i64 p1)), (2, (.sl (List.map eI p2))), (8, (.own 0 0 (List.length q16.1))), (9, (i64 q16.2)), (12, (.own 1 0 (List.length q22.1))), (84, (.bool t54))], [⟨0, 58, 3, List.map eCell q16.1⟩, ⟨0, 58, 3, List.map (eCellD 3) q22.1⟩]⟩ → K53 s := by
                intro t54 hq s hw
                subst o55
                try dsimp only at h0
                refine hK53 _ (AW.weaken hw ?_)
                refine AW.cond' (b := t54) rfl (fun b56 => ?_) (fun b56 => ?_)
                · replace h0 := Sh.ite_t b56 h0
                  refine AW.seq fun K57 hK57 => ?_
                  refine AW.regionO (by rfl) ?_
                  refine ao_q (v := (.bool false)) go0 rfl (aq_as rfl) ?_
                  refine AO.done (hK57 _ ?_)
                  replace h0 := Sh.some_eq h0
                  subst r
                  exact AW.ret (Exists.intro _ (And.intro ((Wk.permk (L := [(6, (.bool false))]) (st' := []) (st1 := []) [] rfl .nil (by decide) rfl rfl .nil ⟨.rfl, trivial⟩).trans (Wk.to (L := [(6, (.bool false))]) ⟨.rfl, trivial⟩)) (And.intro rfl rfl)))
                · replace h0 := Sh.ite_f b56 h0
                  refine AW.skip (hK52 _ ?_)
                  refine AW.seq fun K58 hK58 => ?_
                  refine AW.regionO (by rfl) ?_
                  refine ao_q (v := (i64 1)) go0 rfl (aq_as rfl) ?_
                  refine AO.done (hK58 _ ?_)
                  refine AW.seq fun K59 hK59 => ?_
                  refine AW.regionO (by rfl) ?_
                  refine ao_q (v := (.own 1 0 (List.length q22.1))) go0 rfl (aq_mv rfl) ?_
                  refine ao_q (v := (i64 1)) go0 rfl (aq_mv rfl) ?_
                  obtain ⟨q60, gq60, h0⟩ := Sh.bind_some h0
                  refine ao_callsL (rowsP := [⟨0, 58, 3, List.map (eCellD 3) q22.1⟩]) (rows0 := [⟨0, 58, 3, List.map (eCellD 3) q22.1⟩]) (rows1 := [⟨0, 58, 3, List.map (eCellD 3) q60.2⟩]) (rows2 := []) (rows1' := [⟨0, 58, 3, List.map (eCellD 3) q60.2⟩]) (rows2' := []) (st' := [⟨0, 58, 3, List.map eCell q16.1⟩, ⟨0, 58, 3, List.map (eCellD 3) q60.2⟩]) (v' := (i64 q60.1)) [1] go0 hb16 (laws_markCellS_ok gq60) rfl (by decide) rfl rfl (.deep (pure_mapD fun _ => rfl) .nil) rfl rfl (.deep (pure_mapD fun _ => rfl) .nil) .nil rfl rfl (fun hln => ?_)
                  have ln61 : List.length q60.2 = List.length q22.1 := by simpa only [List.length_map] using hln 0 _ _ rfl rfl rfl
                  refine ao_q (v := (i64 q60.1)) go0 rfl (aq_as rfl) ?_
                  refine AO.done (hK59 _ ?_)
                  refine AW.seq fun K62 hK62 => ?_
                  refine AW.regionO (by rfl) ?_
                  refine ao_q (v := (i64 1)) go0 rfl (aq_as rfl) ?_
                  refine AO.done (hK62 _ ?_)
                  refine AW.seq fun K63 hK63 => ?_
                  refine AW.regionO (by rfl) ?_
                  refine ao_q (v := (.own 1 0 (List.length q22.1))) go0 rfl (aq_mv rfl) ?_
                  refine ao_q (v := (i64 1)) go0 rfl (aq_mv rfl) ?_
                  obtain ⟨q64, gq64, h0⟩ := Sh.bind_some h0
                  refine ao_callb (v' := (i64 q64)) (st' := [⟨0, 58, 3, List.map eCell q16.1⟩, ⟨0, 58, 3, List.map (eCellD 3) q60.2⟩]) go0 hb21 (laws_heldCellS_ok gq64) rfl (.ownD rfl (by first | (simp only [Sh.put_len]; done) | (simp only [Sh.put_len]; omega) | omega) (fun _ => rfl) (fun x => eCellD_und x) (.val rfl .nil)) rfl trivial rfl rfl ?_
                  refine ao_q (v := (i64 q64)) go0 rfl (aq_as rfl) ?_
                  refine AO.done (hK63 _ ?_)
                  refine AW.seq fun K65 hK65 => ?_
                  refine AW.seq fun K66 hK66 => ?_
                  refine AW.regionO (by rfl) ?_
                  refine ao_q (v := (i64 q64)) go0 rfl (aq_mv rfl) ?_
                  refine ao_q (v := (.bool (decide (q64 < 0)))) go0 rfl (aq_lt rfl rfl) ?_
                  refine AO.done (hK66 _ ?_)
                  refine AW.cond' (b := decide (q64 < 0)) rfl (fun b67 => ?_) (fun b67 => ?_)
                  · replace h0 := Sh.ite_t b67 h0
                    refine AW.seq fun K68 hK68 => ?_
                    refine AW.regionO (by rfl) ?_
                    refine ao_q (v := (.bool false)) go0 rfl (aq_as rfl) ?_
                    refine AO.done (hK68 _ ?_)
                    replace h0 := Sh.some_eq h0
                    subst r
                    exact AW.ret (Exists.intro _ (And.intro ((Wk.permk (L := [(6, (.bool false))]) (st' := []) (st1 := []) [] rfl .nil (by decide) rfl rfl .nil ⟨.rfl, trivial⟩).trans (Wk.to (L := [(6, (.bool false))]) ⟨.rfl, trivial⟩)) (And.intro rfl rfl)))
                  · replace h0 := Sh.ite_f b67 h0
                    refine AW.skip (hK65 _ ?_)
                    refine AW.seq fun K69 hK69 => ?_
                    refine AW.seq fun K70 hK70 => ?_
                    refine AW.regionO (by rfl) ?_
                    refine ao_q (v := (i64 q64)) go0 rfl (aq_mv rfl) ?_
                    refine ao_q (v := (i64 q60.1)) go0 rfl (aq_mv rfl) ?_
                    refine ao_q (v := (.bool (!decide (q64 = q60.1)))) go0 rfl (aq_ne rfl rfl) ?_
                    refine AO.done (hK70 _ ?_)
                    refine AW.cond' (b := !decide (q64 = q60.1)) rfl (fun b71 => ?_) (fun b71 => ?_)
                    · replace h0 := Sh.ite_t b71 h0
                      have b72 : decide (q64 = q60.1) = false := by simpa using b71
                      refine AW.seq fun K73 hK73 => ?_
                      refine AW.regionO (by rfl) ?_
                      refine ao_q (v := (.bool false)) go0 rfl (aq_as rfl) ?_
                      refine AO.done (hK73 _ ?_)
                      replace h0 := Sh.some_eq h0
                      subst r
                      exact AW.ret (Exists.intro _ (And.intro ((Wk.permk (L := [(6, (.bool false))]) (st' := []) (st1 := []) [] rfl .nil (by decide) rfl rfl .nil ⟨.rfl, trivial⟩).trans (Wk.to (L := [(6, (.bool false))]) ⟨.rfl, trivial⟩)) (And.intro rfl rfl)))
                    · replace h0 := Sh.ite_f b71 h0
                      have b74 : decide (q64 = q60.1) = true := by simpa using b71
                      refine AW.skip (hK69 _ ?_)
                      refine AW.seq fun K75 hK75 => ?_
                      refine AW.regionO (by rfl) ?_
                      refine ao_q (v := (.sl (List.map eCell p0))) go0 rfl (aq_mv rfl) ?_
                      obtain ⟨q76, gq76, h0⟩ := Sh.bind_some h0
                      refine ao_call (v' := (.own 2 0 (List.length q76))) (st' := [⟨0, 58, 3, List.map eCell q16.1⟩, ⟨0, 58, 3, List.map (eCellD 3) q60.2⟩, ⟨0, 58, 3, List.map eCell q76⟩]) go0 hb11 (laws_toCellS_ok gq76) rfl rfl ⟨(pure_map' fun _ => rfl), trivial⟩ rfl rfl ?_
                      refine ao_q (v := (i64 p1)) go0 rfl (aq_mv rfl) ?_
                      refine ao_q (v := (.sl (List.map eI p2))) go0 rfl (aq_mv rfl) ?_
                      obtain ⟨q77, gq77, h0⟩ := Sh.bind_some h0
                      refine ao_call (v' := (.own 3 0 (List.length q77))) (st' := [⟨0, 58, 3, List.map eCell q16.1⟩, ⟨0, 58, 3, List.map (eCellD 3) q60.2⟩, ⟨0, 58, 3, List.map eCell q76⟩, ⟨0, 3, 1, List.map eI q77⟩]) go0 hb12 (laws_toIntS_ok gq77) rfl rfl ⟨(pure_map' fun _ => rfl), trivial⟩ rfl rfl ?_
                      refine AO.weaken (Wk.frz (L := [(8, (.own 0 0 (List.length q16.1))), (9, (i64 q16.2)), (12, (.own 1 0 (List.length q22.1))), (15, (i64 q60.1)), (98, (.sl (List.map eCell q76))), (99, (i64 p1)), (101, (.own 3 0 (List.length q77)))]) (st' := [⟨0, 58, 3, List.map eCell q16.1⟩, ⟨0, 58, 3, List.map (eCellD 3) q60.2⟩, ⟨1, 58, 3, []⟩, ⟨0, 3, 1, List.map eI q77⟩]) (id := 2) rfl (show 0 ≤ 2 by decide) (pure_map fun _ => rfl) ⟨.rfl, .rfl, .rfl, .rfl, (.frz rfl), .rfl, .rfl, trivial⟩ rfl) ?_
                      refine AO.weaken (Wk.frz (L := [(8, (.own 0 0 (List.length q16.1))), (9, (i64 q16.2)), (12, (.own 1 0 (List.length q22.1))), (15, (i64 q60.1)), (98, (.sl (List.map eCell q76))), (99, (i64 p1)), (101, (.sl (List.map eI q77)))]) (st' := [⟨0, 58, 3, List.map eCell q16.1⟩, ⟨0, 58, 3, List.map (eCellD 3) q60.2⟩, ⟨1, 58, 3, []⟩, ⟨1, 3, 1, []⟩]) (id := 3) rfl (show 0 ≤ 3 by decide) (pure_map fun _ => rfl) ⟨.rfl, .rfl, .rfl, .rfl, .rfl, .rfl, (.frz rfl), trivial⟩ rfl) ?_
                      obtain ⟨q78, gq78, h0⟩ := Sh.bind_some h0
                      refine ao_call (v' := (.tup [(.own 4 0 (List.length q78.1)), (i64 q78.2)])) (st' := [⟨0, 58, 3, List.map eCell q16.1⟩, ⟨0, 58, 3, List.map (eCellD 3) q60.2⟩, ⟨1, 58, 3, []⟩, ⟨1, 3, 1, []⟩, ⟨0, 58, 3, List.map eCell q78.1⟩]) go0 hb23 (impl_AllocCell_2_ok gq78) rfl rfl ⟨(pure_map' fun _ => rfl), trivial⟩ rfl rfl ?_
                      refine ao_q (v := (.tup [(.own 4 0 (List.length q78.1)), (i64 q78.2)])) go0 rfl (aq_mv rfl) ?_
                      refine ao_q (v := (.own 4 0 (List.length q78.1))) go0 rfl (aq_ex rfl rfl) ?_
                      refine ao_q (v := (i64 q78.2)) go0 rfl (aq_ex rfl rfl) ?_
                      refine ao_q (v := (.own 4 0 (List.length q78.1))) go0 rfl (aq_as rfl) ?_
                      refine ao_q (v := (i64 q78.2)) go0 rfl (aq_as rfl) ?_
                      refine AO.done (hK75 _ ?_)
                      refine AW.seq fun K79 hK79 => ?_
                      refine AW.seq fun K80 hK80 => ?_
                      obtain ⟨o82, h1, h0⟩ := Sh.bind_some h0
                      have M82 : ∀ (t81 : Bool), o82 = t81 → ∀ s, Wk 0 s ⟨122, envL [(12, (.own 0 0 (List.length q60.2))), (15, (i64 q60.1)), (113, (.bool t81))], [⟨0, 58, 3, List.map (eCellD 3) q60.2⟩]⟩ → K80 s := by
                        intro t81 hq s hw
                        subst o82
                        try dsimp only at h0
                        refine hK80 _ (AW.weaken hw ?_)
                        refine AW.cond' (b := t81) rfl (fun b83 => ?_) (fun b83 => ?_)
                        · replace h0 := Sh.ite_t b83 h0
                          refine AW.seq fun K84 hK84 => ?_
                          refine AW.regionO (by rfl) ?_
                          refine ao_q (v := (.bool false)) go0 rfl (aq_as rfl) ?_
                          refine AO.done (hK84 _ ?_)
                          replace h0 := Sh.some_eq h0
                          subst r
                          exact AW.ret (Exists.intro _ (And.intro ((Wk.permk (L := [(6, (.bool false))]) (st' := []) (st1 := []) [] rfl .nil (by decide) rfl rfl .nil ⟨.rfl, trivial⟩).trans (Wk.to (L := [(6, (.bool false))]) ⟨.rfl, trivial⟩)) (And.intro rfl rfl)))
                        · replace h0 := Sh.ite_f b83 h0
                          refine AW.skip (hK79 _ ?_)
                          refine AW.seq fun K85 hK85 => ?_
                          refine AW.regionO (by rfl) ?_
                          refine ao_q (v := (i64 1)) go0 rfl (aq_as rfl) ?_
                          refine AO.done (hK85 _ ?_)
                          refine AW.seq fun K86 hK86 => ?_
                          refine AW.regionO (by rfl) ?_
                          refine ao_q (v := (.own 0 0 (List.length q60.2))) go0 rfl (aq_mv rfl) ?_
                          refine ao_q (v := (i64 1)) go0 rfl (aq_mv rfl) ?_
                          obtain ⟨q87, gq87, h0⟩ := Sh.bind_some h0
                          refine ao_callb (v' := (i64 q87)) (st' := [⟨0, 58, 3, List.map (eCellD 3) q60.2⟩]) go0 hb21 (laws_heldCellS_ok gq87) rfl (.ownD rfl rfl (fun _ => rfl) (fun x => eCellD_und x) (.val rfl .nil)) rfl trivial rfl rfl ?_
                          refine ao_q (v := (i64 q87)) go0 rfl (aq_as rfl) ?_
                          refine AO.done (hK86 _ ?_)
                          refine AW.seq fun K88 hK88 => ?_
                          refine AW.seq fun K89 hK89 => ?_
                          refine AW.regionO (by rfl) ?_
                          refine ao_q (v := (i64 q87)) go0 rfl (aq_mv rfl) ?_
                          refine ao_q (v := (.bool (decide (q87 < 0)))) go0 rfl (aq_lt rfl rfl) ?_
                          refine AO.done (hK89 _ ?_)
                          refine AW.cond' (b := decide (q87 < 0)) rfl (fun b90 => ?_) (fun b90 => ?_)
                          · replace h0 := Sh.ite_t b90 h0
                            refine AW.seq fun K91 hK91 => ?_
                            refine AW.regionO (by rfl) ?_
                            refine ao_q (v := (.bool false)) go0 rfl (aq_as rfl) ?_
                            refine AO.done (hK91 _ ?_)
                            replace h0 := Sh.some_eq h0
                            subst r
                            exact AW.ret (Exists.intro _ (And.intro ((Wk.permk (L := [(6, (.bool false))]) (st' := []) (st1 := []) [] rfl .nil (by decide) rfl rfl .nil ⟨.rfl, trivial⟩).trans (Wk.to (L := [(6, (.bool false))]) ⟨.rfl, trivial⟩)) (And.intro rfl rfl)))
                          · replace h0 := Sh.ite_f b90 h0
                            refine AW.skip (hK88 _ ?_)
                            refine AW.seq fun K92 hK92 => ?_
                            refine AW.seq fun K93 hK93 => ?_
                            refine AW.regionO (by rfl) ?_
                            refine ao_q (v := (i64 q87)) go0 rfl (aq_mv rfl) ?_
                            refine ao_q (v := (i64 q60.1)) go0 rfl (aq_mv rfl) ?_
                            refine ao_q (v := (.bool (!decide (q87 = q60.1)))) go0 rfl (aq_ne rfl rfl) ?_
                            refine AO.done (hK93 _ ?_)
                            refine AW.cond' (b := !decide (q87 = q60.1)) rfl (fun b94 => ?_) (fun b94 => ?_)
                            · replace h0 := Sh.ite_t b94 h0
                              have b95 : decide (q87 = q60.1) = false := by simpa using b94
                              refine AW.seq fun K96 hK96 => ?_
                              refine AW.regionO (by rfl) ?_
                              refine ao_q (v := (.bool false)) go0 rfl (aq_as rfl) ?_
                              refine AO.done (hK96 _ ?_)
                              replace h0 := Sh.some_eq h0
                              subst r
                              exact AW.ret (Exists.intro _ (And.intro ((Wk.permk (L := [(6, (.bool false))]) (st' := []) (st1 := []) [] rfl .nil (by decide) rfl rfl .nil ⟨.rfl, trivial⟩).trans (Wk.to (L := [(6, (.bool false))]) ⟨.rfl, trivial⟩)) (And.intro rfl rfl)))
                            · replace h0 := Sh.ite_f b94 h0
                              have b97 : decide (q87 = q60.1) = true := by simpa using b94
                              refine AW.skip (hK92 _ ?_)
                              refine AW.seq fun K98 hK98 => ?_
                              refine AW.regionO (by rfl) ?_
                              refine ao_q (v := (.bool true)) go0 rfl (aq_as rfl) ?_
                              refine AO.done (hK98 _ ?_)
                              replace h0 := Sh.some_eq h0
                              subst r
                              exact AW.ret (Exists.intro _ (And.intro ((Wk.permk (L := [(6, (.bool true))]) (st' := []) (st1 := []) [] rfl .nil (by decide) rfl rfl .nil ⟨.rfl, trivial⟩).trans (Wk.to (L := [(6, (.bool true))]) ⟨.rfl, trivial⟩)) (And.intro rfl rfl)))
                      refine AW.regionO (by rfl) ?_
                      refine ao_q (v := (.own 4 0 (List.length q78.1))) go0 rfl (aq_mv rfl) ?_
                      refine ao_q (v := (.own 0 0 (List.length q16.1))) go0 rfl (aq_mv rfl) ?_
                      refine AO.weaken (Wk.frz (L := [(9, (i64 q16.2)), (12, (.own 1 0 (List.length q22.1))), (15, (i64 q60.1)), (18, (i64 q78.2)), (105, (.sl (List.map eCell q78.1))), (106, (.own 0 0 (List.length q16.1)))]) (st' := [⟨0, 58, 3, List.map eCell q16.1⟩, ⟨0, 58, 3, List.map (eCellD 3) q60.2⟩, ⟨1, 58, 3, []⟩, ⟨1, 3, 1, []⟩, ⟨1, 58, 3, []⟩]) (id := 4) rfl (show 0 ≤ 4 by decide) (pure_map fun _ => rfl) ⟨.rfl, .rfl, .rfl, .rfl, (.frz rfl), .rfl, trivial⟩ rfl) ?_
                      refine AO.weaken (Wk.frz (L := [(9, (i64 q16.2)), (12, (.own 1 0 (List.length q22.1))), (15, (i64 q60.1)), (18, (i64 q78.2)), (105, (.sl (List.map eCell q78.1))), (106, (.sl (List.map eCell q16.1)))]) (st' := [⟨1, 58, 3, []⟩, ⟨0, 58, 3, List.map (eCellD 3) q60.2⟩, ⟨1, 58, 3, []⟩, ⟨1, 3, 1, []⟩, ⟨1, 58, 3, []⟩]) (id := 0) rfl (show 0 ≤ 0 by decide) (pure_map fun _ => rfl) ⟨.rfl, .rfl, .rfl, .rfl, .rfl, (.frz rfl), trivial⟩ rfl) ?_
                      obtain ⟨q99, gq99, h1⟩ := Sh.bind_some h1
                      refine ao_call (v' := (.bool q99)) (st' := [⟨1, 58, 3, []⟩, ⟨0, 58, 3, List.map (eCellD 3) q60.2⟩, ⟨1, 58, 3, []⟩, ⟨1, 3, 1, []⟩, ⟨1, 58, 3, []⟩]) go0 hb15 (laws_eqCellS_ok gq99) rfl rfl trivial rfl rfl ?_
                      refine ao_q (v := (.bool (!q99))) go0 rfl (aq_not rfl) ?_
                      refine ao_q (v := (.bool (!q99))) go0 rfl (aq_mv rfl) ?_
                      rcases Sh.ite_some h1 with ⟨b100, h1⟩ | ⟨b100, h1⟩
                      · skip
                        refine ao_skip rfl rfl b100 ?_
                        refine ao_skip rfl rfl b100 ?_
                        refine ao_skip rfl rfl b100 ?_
                        refine ao_q (v := (.bool true)) go0 rfl (aq_pkt rfl b100 rfl) ?_
                        exact AO.done (M82 true (Sh.some_eq h1).symm _ (by refine Wk.trans (Wk.permk (L := [(12, (.own 0 0 (List.length q22.1))), (15, (i64 q60.1)), (113, (.bool true))]) (st' := [⟨0, 58, 3, List.map (eCellD 3) q60.2⟩]) (st1 := [⟨0, 58, 3, List.map (eCellD 3) q60.2⟩]) [1] rfl .nil (by decide) rfl rfl (.deep (pure_mapD fun _ => rfl) .nil) ⟨.rfl, .rfl, .rfl, trivial⟩) ?_; exact Wk.to (L := [(12, (.own 0 0 (List.length q60.2))), (15, (i64 q60.1)), (113, (.bool true))]) ⟨(.len (by first | (simp only [Sh.put_len]; done) | (simp only [Sh.put_len]; omega) | omega)), .rfl, .rfl, trivial⟩))
                      · skip
                        refine ao_q (v := (i64 q78.2)) (go1 rfl rfl b100) rfl (aq_mv rfl) ?_
                        refine ao_q (v := (i64 q16.2)) (go1 rfl rfl b100) rfl (aq_mv rfl) ?_
                        refine ao_q (v := (.bool (!decide (q78.2 = q16.2)))) (go1 rfl rfl b100) rfl (aq_ne rfl rfl) ?_
                        refine ao_q (v := (.bool (!decide (q78.2 = q16.2)))) go0 rfl (aq_pkf rfl b100 rfl) ?_
                        exact AO.done (M82 (!decide (q78.2 = q16.2)) (Sh.some_eq h1).symm _ (by refine Wk.trans (Wk.permk (L := [(12, (.own 0 0 (List.length q22.1))), (15, (i64 q60.1)), (113, (.bool (!decide (q78.2 = q16.2))))]) (st' := [⟨0, 58, 3, List.map (eCellD 3) q60.2⟩]) (st1 := [⟨0, 58, 3, List.map (eCellD 3) q60.2⟩]) [1] rfl .nil (by decide) rfl rfl (.deep (pure_mapD fun _ => rfl) .nil) ⟨.rfl, .rfl, .rfl, trivial⟩) ?_; exact Wk.to (L := [(12, (.own 0 0 (List.length q60.2))), (15, (i64 q60.1)), (113, (.bool (!decide (q78.2 = q16.2))))]) ⟨(.len (by first | (simp only [Sh.put_len]; done) | (simp only [Sh.put_len]; omega) | omega)), .rfl, .rfl, trivial⟩))
              refine AW.regionO (by rfl) ?_
              refine ao_q (v := (i64 q50.1)) go0 rfl (aq_mv rfl) ?_
              refine ao_q (v := (.bool (decide (q50.1 < 0)))) go0 rfl (aq_lt rfl rfl) ?_
              refine ao_q (v := (.bool (decide (q50.1 < 0)))) go0 rfl (aq_mv rfl) ?_
              rcases Sh.ite_some h1 with ⟨b101, h1⟩ | ⟨b101, h1⟩
              · skip
                refine ao_skip rfl rfl b101 ?_
                refine ao_skip rfl rfl b101 ?_
                refine ao_skip rfl rfl b101 ?_
                refine ao_skip rfl rfl b101 ?_
                refine ao_q (v := (.bool true)) go0 rfl (aq_pkt rfl b101 rfl) ?_
                refine ao_q (v := (.bool true)) go0 rfl (aq_mv rfl) ?_
                refine ao_skip rfl rfl rfl ?_
                refine ao_skip rfl rfl rfl ?_
                refine ao_skip rfl rfl rfl ?_
                refine ao_q (v := (.bool true)) go0 rfl (aq_pkt rfl rfl rfl) ?_
                exact AO.done (M55 true (Sh.some_eq h1).symm _ (by refine Wk.trans (Wk.permk (L := [(0, (.sl (List.map eCell p0))), (1, (i64 p1)), (2, (.sl (List.map eI p2))), (8, (.own 0 0 (List.length q16.1))), (9, (i64 q16.2)), (12, (.own 1 0 (List.length q22.1))), (84, (.bool true))]) (st' := [⟨0, 58, 3, List.map eCell q16.1⟩, ⟨0, 58, 3, List.map (eCellD 3) q22.1⟩]) (st1 := [⟨0, 58, 3, List.map eCell q16.1⟩, ⟨0, 58, 3, List.map (eCellD 3) q22.1⟩]) [0, 3] rfl .nil (by decide) rfl rfl (.pure (pure_map fun _ => rfl) (.deep (pure_mapD fun _ => rfl) .nil)) ⟨.rfl, .rfl, .rfl, .rfl, .rfl, .rfl, .rfl, trivial⟩) ?_; exact Wk.to (L := [(0, (.sl (List.map eCell p0))), (1, (i64 p1)), (2, (.sl (List.map eI p2))), (8, (.own 0 0 (List.length q16.1))), (9, (i64 q16.2)), (12, (.own 1 0 (List.length q22.1))), (84, (.bool true))]) ⟨.rfl, .rfl, .rfl, .rfl, .rfl, .rfl, .rfl, trivial⟩))
              · skip
                refine ao_q (v := (.own 3 0 (List.length q22.1))) (go1 rfl rfl b101) rfl (aq_mv rfl) ?_
                refine ao_q (v := (.own 0 0 (List.length q16.1))) (go1 rfl rfl b101) rfl (aq_mv rfl) ?_
                obtain ⟨q102, gq102, h1⟩ := Sh.bind_some h1
                refine ao_callb (v' := (.bool q102)) (st' := [⟨0, 58, 3, List.map eCell q16.1⟩, ⟨0, 58, 3, List.map (eCellD 3) q47.2⟩, ⟨0, 3, 1, List.map eI q50.2⟩, ⟨0, 58, 3, List.map (eCellD 3) q22.1⟩, ⟨1, 58, 3, []⟩, ⟨1, 3, 1, []⟩]) (go1 rfl rfl b101) hb15 (laws_eqCellS_ok gq102) rfl (.ownD rfl rfl (fun _ => rfl) (fun x => eCellD_und x) (.own rfl rfl (fun _ => rfl) .nil)) rfl trivial rfl rfl ?_
                refine ao_q (v := (.bool (!q102))) (go1 rfl rfl b101) rfl (aq_not rfl) ?_
                refine ao_q (v := (.bool (!q102))) go0 rfl (aq_pkf rfl b101 rfl) ?_
                refine ao_q (v := (.bool (!q102))) go0 rfl (aq_mv rfl) ?_
                rcases Sh.ite_some h1 with ⟨b103, h1⟩ | ⟨b103, h1⟩
                · skip
                  refine ao_skip rfl rfl b103 ?_
                  refine ao_skip rfl rfl b103 ?_
                  refine ao_skip rfl rfl b103 ?_
                  refine ao_q (v := (.bool true)) go0 rfl (aq_pkt rfl b103 rfl) ?_
                  exact AO.done (M55 true (Sh.some_eq h1).symm _ (by refine Wk.trans (Wk.permk (L := [(0, (.sl (List.map eCell p0))), (1, (i64 p1)), (2, (.sl (List.map eI p2))), (8, (.own 0 0 (List.length q16.1))), (9, (i64 q16.2)), (12, (.own 1 0 (List.length q22.1))), (84, (.bool true))]) (st' := [⟨0, 58, 3, List.map eCell q16.1⟩, ⟨0, 58, 3, List.map (eCellD 3) q22.1⟩]) (st1 := [⟨0, 58, 3, List.map eCell q16.1⟩, ⟨0, 58, 3, List.map (eCellD 3) q22.1⟩]) [0, 3] rfl .nil (by decide) rfl rfl (.pure (pure_map fun _ => rfl) (.deep (pure_mapD fun _ => rfl) .nil)) ⟨.rfl, .rfl, .rfl, .rfl, .rfl, .rfl, .rfl, trivial⟩) ?_; exact Wk.to (L := [(0, (.sl (List.map eCell p0))), (1, (i64 p1)), (2, (.sl (List.map eI p2))), (8, (.own 0 0 (List.length q16.1))), (9, (i64 q16.2)), (12, (.own 1 0 (List.length q22.1))), (84, (.bool true))]) ⟨.rfl, .rfl, .rfl, .rfl, .rfl, .rfl, .rfl, trivial⟩))
                · skip
                  refine ao_q (v := (i64 q22.2)) (go1 rfl rfl b103) rfl (aq_mv rfl) ?_
                  refine ao_q (v := (i64 q16.2)) (go1 rfl rfl b103) rfl (aq_mv rfl) ?_
                  refine ao_q (v := (.bool (!decide (q22.2 = q16.2)))) (go1 rfl rfl b103) rfl (aq_ne rfl rfl) ?_
                  refine ao_q (v := (.bool (!decide (q22.2 = q16.2)))) go0 rfl (aq_pkf rfl b103 rfl) ?_
                  exact AO.done (M55 (!decide (q22.2 = q16.2)) (Sh.some_eq h1).symm _ (by refine Wk.trans (Wk.permk (L := [(0, (.sl (List.map eCell p0))), (1, (i64 p1)), (2, (.sl (List.map eI p2))), (8, (.own 0 0 (List.length q16.1))), (9, (i64 q16.2)), (12, (.own 1 0 (List.length q22.1))), (84, (.bool (!decide (q22.2 = q16.2))))]) (st' := [⟨0, 58, 3, List.map eCell q16.1⟩, ⟨0, 58, 3, List.map (eCellD 3) q22.1⟩]) (st1 := [⟨0, 58, 3, List.map eCell q16.1⟩, ⟨0, 58, 3, List.map (eCellD 3) q22.1⟩]) [0, 3] rfl .nil (by decide) rfl rfl (.pure (pure_map fun _ => rfl) (.deep (pure_mapD fun _ => rfl) .nil)) ⟨.rfl, .rfl, .rfl, .rfl, .rfl, .rfl, .rfl, trivial⟩) ?_; exact Wk.to (L := [(0, (.sl (List.map eCell p0))), (1, (i64 p1)), (2, (.sl (List.map eI p2))), (8, (.own 0 0 (List.length q16.1))), (9, (i64 q16.2)), (12, (.own 1 0 (List.length q22.1))), (84, (.bool (!decide (q22.2 = q16.2))))]) ⟨.rfl, .rfl, .rfl, .rfl, .rfl, .rfl, .rfl, trivial⟩))
      refine AW.regionO (by rfl) ?_
      refine ao_q (v := (.own 5 0 (List.length q22.1))) go0 rfl (aq_mv rfl) ?_
      refine ao_q (v := (.own 2 0 (List.length q16.1))) go0 rfl (aq_mv rfl) ?_
      obtain ⟨q104, gq104, h1⟩ := Sh.bind_some h1
      refine ao_callb (v' := (.bool q104)) (st' := [⟨1, 58, 3, []⟩, ⟨1, 3, 1, []⟩, ⟨0, 58, 3, List.map eCell q16.1⟩, ⟨0, 58, 3, List.map (eCellD 3) q18⟩, ⟨0, 3, 1, List.map eI q20⟩, ⟨0, 58, 3, List.map (eCellD 3) q22.1⟩]) go0 hb15 (laws_eqCellS_ok gq104) rfl (.ownD rfl rfl (fun _ => rfl) (fun x => eCellD_und x) (.own rfl rfl (fun _ => rfl) .nil)) rfl trivial rfl rfl ?_
      refine ao_q (v := (.bool (!q104))) go0 rfl (aq_not rfl) ?_
      refine ao_q (v := (.bool (!q104))) go0 rfl (aq_mv rfl) ?_
      rcases Sh.ite_some h1 with ⟨b105, h1⟩ | ⟨b105, h1⟩
      · skip
        refine ao_skip rfl rfl b105 ?_
        refine ao_skip rfl rfl b105 ?_
        refine ao_skip rfl rfl b105 ?_
        refine ao_q (v := (.bool true)) go0 rfl (aq_pkt rfl b105 rfl) ?_
        exact AO.done (M26 true (Sh.some_eq h1).symm _ (by refine Wk.trans (Wk.permk (L := [(0, (.sl (List.map eCell p0))), (1, (i64 p1)), (2, (.sl (List.map eI p2))), (8, (.own 0 0 (List.length q16.1))), (9, (i64 q16.2)), (10, (.own 1 0 (List.length q18))), (11, (.own 2 0 (List.length q20))), (12, (.own 3 0 (List.length q22.1))), (13, (i64 q22.2)), (55, (.bool true))]) (st' := [⟨0, 58, 3, List.map eCell q16.1⟩, ⟨0, 58, 3, List.map (eCellD 3) q18⟩, ⟨0, 3, 1, List.map eI q20⟩, ⟨0, 58, 3, List.map (eCellD 3) q22.1⟩]) (st1 := [⟨0, 58, 3, List.map eCell q16.1⟩, ⟨0, 58, 3, List.map (eCellD 3) q18⟩, ⟨0, 3, 1, List.map eI q20⟩, ⟨0, 58, 3, List.map (eCellD 3) q22.1⟩]) [2, 3, 4, 5] rfl .nil (by decide) rfl rfl (.pure (pure_map fun _ => rfl) (.deep (pure_mapD fun _ => rfl) (.pure (pure_map fun _ => rfl) (.deep (pure_mapD fun _ => rfl) .nil)))) ⟨.rfl, .rfl, .rfl, .rfl, .rfl, .rfl, .rfl, .rfl, .rfl, .rfl, trivial⟩) ?_; exact Wk.to (L := [(0, (.sl (List.map eCell p0))), (1, (i64 p1)), (2, (.sl (List.map eI p2))), (8, (.own 0 0 (List.length q16.1))), (9, (i64 q16.2)), (10, (.own 1 0 (List.length q18))), (11, (.own 2 0 (List.length q20))), (12, (.own 3 0 (List.length q22.1))), (13, (i64 q22.2)), (55, (.bool true))]) ⟨.rfl, .rfl, .rfl, .rfl, .rfl, .rfl, .rfl, .rfl, .rfl, .rfl, trivial⟩))
      · skip
        refine ao_q (v := (i64 q22.2)) (go1 rfl rfl b105) rfl (aq_mv rfl) ?_
        refine ao_q (v := (i64 q16.2)) (go1 rfl rfl b105) rfl (aq_mv rfl) ?_
        refine ao_q (v := (.bool (!decide (q22.2 = q16.2)))) (go1 rfl rfl b105) rfl (aq_ne rfl rfl) ?_
        refine ao_q (v := (.bool (!decide (q22.2 = q16.2)))) go0 rfl (aq_pkf rfl b105 rfl) ?_
        exact AO.done (M26 (!decide (q22.2 = q16.2)) (Sh.some_eq h1).symm _ (by refine Wk.trans (Wk.permk (L := [(0, (.sl (List.map eCell p0))), (1, (i64 p1)), (2, (.sl (List.map eI p2))), (8, (.own 0 0 (List.length q16.1))), (9, (i64 q16.2)), (10, (.own 1 0 (List.length q18))), (11, (.own 2 0 (List.length q20))), (12, (.own 3 0 (List.length q22.1))), (13, (i64 q22.2)), (55, (.bool (!decide (q22.2 = q16.2))))]) (st' := [⟨0, 58, 3, List.map eCell q16.1⟩, ⟨0, 58, 3, List.map (eCellD 3) q18⟩, ⟨0, 3, 1, List.map eI q20⟩, ⟨0, 58, 3, List.map (eCellD 3) q22.1⟩]) (st1 := [⟨0, 58, 3, List.map eCell q16.1⟩, ⟨0, 58, 3, List.map (eCellD 3) q18⟩, ⟨0, 3, 1, List.map eI q20⟩, ⟨0, 58, 3, List.map (eCellD 3) q22.1⟩]) [2, 3, 4, 5] rfl .nil (by decide) rfl rfl (.pure (pure_map fun _ => rfl) (.deep (pure_mapD fun _ => rfl) (.pure (pure_map fun _ => rfl) (.deep (pure_mapD fun _ => rfl) .nil)))) ⟨.rfl, .rfl, .rfl, .rfl, .rfl, .rfl, .rfl, .rfl, .rfl, .rfl, trivial⟩) ?_; exact Wk.to (L := [(0, (.sl (List.map eCell p0))), (1, (i64 p1)), (2, (.sl (List.map eI p2))), (8, (.own 0 0 (List.length q16.1))), (9, (i64 q16.2)), (10, (.own 1 0 (List.length q18))), (11, (.own 2 0 (List.length q20))), (12, (.own 3 0 (List.length q22.1))), (13, (i64 q22.2)), (55, (.bool (!decide (q22.2 = q16.2))))]) ⟨.rfl, .rfl, .rfl, .rfl, .rfl, .rfl, .rfl, .rfl, .rfl, .rfl, trivial⟩))

end Go.Proofs.Ytcpedchmkhlpnaa
