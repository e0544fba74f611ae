import Derived.Test.YtcpedchmkhlpnaaProg
import Derived.Test.YtcpedchmkhlpnaaRCDefs
import Derived.Test.YtcpedchmkhlpnaaCAWalk
import Derived.Test.YtcpedchmkhlpnaaCDWalk
import Derived.Test.YtcpedchmkhlpnaaRCWalkP1
namespace Go.Proofs.Ytcpedchmkhlpnaa
open Go Go.Abs RC

theorem bo4 : isBoolT Try.prog 4 = true := by kernel_rfl
theorem hb11 : hasBody Try.prog 11 = true := by kernel_rfl
theorem hb15 : hasBody Try.prog 15 = true := by kernel_rfl
theorem hb16 : hasBody Try.prog 16 = true := by kernel_rfl
theorem hb21 : hasBody Try.prog 21 = true := by kernel_rfl
theorem hb24 : hasBody Try.prog 24 = true := by kernel_rfl
theorem hb25 : hasBody Try.prog 25 = true := by kernel_rfl
theorem hb9 : hasBody Try.prog 9 = true := by kernel_rfl

set_option maxRecDepth 100000 in
set_option maxHeartbeats 4000000 in
theorem laws_FnExactDropWord_ok {N : Nat} {p0 : (List Cell)} {p1 : Int} {r : Bool} (h0 : laws_FnExactDropWord N p0 p1 = some r) : ACalls Try.prog 6 [(.sl (List.map eCell p0)), (i64 p1)] [] (fun v st => v = (.bool r) ∧ st = []) := by
  unfold laws_FnExactDropWord at h0
  refine ACalls.intro Try.func6 rfl (by show 2 ≤ 101; decide) ?_
  show AW _ 0 _ (aret _ 0 Try.f6 _) ⟨101, _, _⟩
  refine AW.weaken (Wk.to (L := [(0, (.sl (List.map eCell p0))), (1, (i64 p1))]) ⟨.rfl, .rfl, trivial⟩) ?_
  refine AW.seq fun K1 hK1 => ?_
  refine AW.regionO (by rfl) ?_
  refine ao_q (v := (.bool false)) go0 rfl (aq_as rfl) ?_
  refine AO.done (hK1 _ ?_)
  refine AW.seq fun K2 hK2 => ?_
  refine AW.regionO (by rfl) ?_
  refine ao_q (v := (i64 1048576)) go0 rfl (aq_as rfl) ?_
  refine AO.done (hK2 _ ?_)
  refine AW.seq fun K3 hK3 => ?_
  refine AW.regionO (by rfl) ?_
  refine ao_q (v := (.sl (List.map eCell p0))) go0 rfl (aq_mv rfl) ?_
  refine ao_q (v := (i64 1048576)) go0 rfl (aq_mv rfl) ?_
  obtain ⟨q4, gq4, h0⟩ := Sh.bind_some h0
  refine ao_call (v' := (i64 q4)) (st' := []) go0 hb9 (laws_szCellS_ok gq4) rfl rfl trivial rfl rfl ?_
  refine ao_q (v := (i64 q4)) go0 rfl (aq_as rfl) ?_
  refine AO.done (hK3 _ ?_)
  refine AW.seq fun K5 hK5 => ?_
  refine AW.seq fun K6 hK6 => ?_
  refine AW.regionO (by rfl) ?_
  refine ao_q (v := (i64 q4)) go0 rfl (aq_mv rfl) ?_
  refine ao_q (v := (.bool (decide (q4 < 0)))) go0 rfl (aq_lt rfl rfl) ?_
  refine AO.done (hK6 _ ?_)
  refine AW.cond' (b := decide (q4 < 0)) rfl (fun b7 => ?_) (fun b7 => ?_)
  · replace h0 := Sh.ite_t b7 h0
    refine AW.seq fun K8 hK8 => ?_
    refine AW.regionO (by rfl) ?_
    refine ao_q (v := (.bool true)) go0 rfl (aq_as rfl) ?_
    refine AO.done (hK8 _ ?_)
    replace h0 := Sh.some_eq h0
    subst r
    exact AW.ret (Exists.intro _ (And.intro (Wk.to (L := [(4, (.bool true))]) ⟨.rfl, trivial⟩) (And.intro rfl rfl)))
  · replace h0 := Sh.ite_f b7 h0
    refine AW.skip (hK5 _ ?_)
    refine AW.seq fun K9 hK9 => ?_
    refine AW.regionO (by rfl) ?_
    refine ao_q (v := (.sl (List.map eCell p0))) go0 rfl (aq_mv rfl) ?_
    obtain ⟨q10, gq10, h0⟩ := Sh.bind_some h0
    refine ao_call (v' := (.own 0 0 (List.length q10))) (st' := [⟨0, 58, 3, List.map eCell q10⟩]) go0 hb11 (laws_toCellS_ok gq10) rfl rfl ⟨(pure_map' fun _ => rfl), trivial⟩ rfl rfl ?_
    refine ao_q (v := (i64 p1)) go0 rfl (aq_mv rfl) ?_
    refine AO.weaken (Wk.frz (L := [(0, (.sl (List.map eCell p0))), (1, (i64 p1)), (23, (.sl (List.map eCell q10))), (24, (i64 p1))]) (st' := [⟨1, 58, 3, []⟩]) (id := 0) rfl (show 0 ≤ 0 by decide) (pure_map fun _ => rfl) ⟨.rfl, .rfl, (.frz rfl), .rfl, trivial⟩ rfl) ?_
    obtain ⟨q11, gq11, h0⟩ := Sh.bind_some h0
    refine ao_call (v' := (.tup [(.own 1 0 (List.length q11.1)), (.bool q11.2)])) (st' := [⟨1, 58, 3, []⟩, ⟨0, 58, 3, List.map eCell q11.1⟩]) go0 hb24 (spec_DropWord_ok gq11) rfl rfl ⟨(pure_map' fun _ => rfl), trivial⟩ rfl rfl ?_
    refine ao_q (v := (.tup [(.own 1 0 (List.length q11.1)), (.bool q11.2)])) go0 rfl (aq_mv rfl) ?_
    refine ao_q (v := (.own 1 0 (List.length q11.1))) go0 rfl (aq_ex rfl rfl) ?_
    refine ao_q (v := (.bool q11.2)) go0 rfl (aq_ex rfl rfl) ?_
    refine ao_q (v := (.own 1 0 (List.length q11.1))) go0 rfl (aq_as rfl) ?_
    refine ao_q (v := (.bool q11.2)) go0 rfl (aq_as rfl) ?_
    refine AO.done (hK9 _ ?_)
    refine AW.seq fun K12 hK12 => ?_
    refine AW.regionO (by rfl) ?_
    refine ao_q (v := (.sl (List.map eCell p0))) go0 rfl (aq_mv rfl) ?_
    obtain ⟨q13, gq13, h0⟩ := Sh.bind_some h0
    refine ao_call (v' := (.own 2 0 (List.length q13))) (st' := [⟨1, 58, 3, []⟩, ⟨0, 58, 3, List.map eCell q11.1⟩, ⟨0, 58, 3, List.map (eCellD 3) q13⟩]) go0 hb11 (laws_toCellS_2_ok gq13) rfl rfl ⟨(pure_mapD fun _ => rfl), trivial⟩ rfl rfl ?_
    refine ao_q (v := (.own 2 0 (List.length q13))) go0 rfl (aq_as rfl) ?_
    refine AO.done (hK12 _ ?_)
    refine AW.seq fun K14 hK14 => ?_
    refine AW.regionO (by rfl) ?_
    refine ao_q (v := (.own 2 0 (List.length q13))) go0 rfl (aq_mv rfl) ?_
    refine ao_q (v := (i64 p1)) go0 rfl (aq_mv rfl) ?_
    obtain ⟨q15, gq15, h0⟩ := Sh.bind_some h0
    refine ao_callb (v' := (.tup [(.own 3 0 (List.length q15.1)), (.bool q15.2)])) (st' := [⟨1, 58, 3, []⟩, ⟨0, 58, 3, List.map eCell q11.1⟩, ⟨0, 58, 3, List.map (eCellD 3) q13⟩, ⟨0, 58, 3, List.map (eCellD 3) q15.1⟩]) go0 hb25 (impl_DropWord_ok gq15) rfl (.ownD rfl rfl (fun _ => rfl) (fun x => eCellD_und x) (.val rfl .nil)) rfl (srowD (fun _ => rfl) trivial) rfl rfl ?_
    refine ao_q (v := (.tup [(.own 3 0 (List.length q15.1)), (.bool q15.2)])) go0 rfl (aq_mv rfl) ?_
    refine ao_q (v := (.own 3 0 (List.length q15.1))) go0 rfl (aq_ex rfl rfl) ?_
    refine ao_q (v := (.bool q15.2)) go0 rfl (aq_ex rfl rfl) ?_
    refine ao_q (v := (.own 3 0 (List.length q15.1))) go0 rfl (aq_as rfl) ?_
    refine ao_q (v := (.bool q15.2)) go0 rfl (aq_as rfl) ?_
    refine AO.done (hK14 _ ?_)
    refine AW.seq fun K16 hK16 => ?_
    refine AW.seq fun K17 hK17 => ?_
    obtain ⟨o19, h1, h0⟩ := Sh.bind_some h0
    have M19 : ∀ (t18 : Bool), o19 = t18 → ∀ s, Wk 0 s ⟨101, envL [(0, (.sl (List.map eCell p0))), (1, (i64 p1)), (6, (.own 0 0 (List.length q11.1))), (7, (.bool q11.2)), (8, (.own 1 0 (List.length q13))), (9, (.own 2 0 (List.length q15.1))), (10, (.bool q15.2)), (44, (.bool t18))], [⟨0, 58, 3, List.map eCell q11.1⟩, ⟨0, 58, 3, List.map (eCellD 3) q13⟩, ⟨0, 58, 3, List.map (eCellD 3) q15.1⟩]⟩ → K17 s := by
      intro t18 hq s hw
      subst o19
      try dsimp only at h0
      refine hK17 _ (AW.weaken hw ?_)
      refine AW.cond' (b := t18) rfl (fun b20 => ?_) (fun b20 => ?_)
      · replace h0 := Sh.ite_t b20 h0
        refine AW.seq fun K21 hK21 => ?_
        refine AW.regionO (by rfl) ?_
        refine ao_q (v := (.bool false)) go0 rfl (aq_as rfl) ?_
        refine AO.done (hK21 _ ?_)
        replace h0 := Sh.some_eq h0
        subst r
        exact AW.ret (Exists.intro _ (And.intro ((Wk.permk (L := [(4, (.bool false))]) (st' := []) (st1 := []) [] rfl .nil (by decide) rfl rfl .nil ⟨.rfl, trivial⟩).trans (Wk.to (L := [(4, (.bool false))]) ⟨.rfl, trivial⟩)) (And.intro rfl rfl)))
      · replace h0 := Sh.ite_f b20 h0
        refine AW.skip (hK16 _ ?_)
        refine AW.seq fun K22 hK22 => ?_
        refine AW.seq fun K23 hK23 => ?_
        refine AW.regionO (by rfl) ?_
        refine ao_q (v := (.own 1 0 (List.length q13))) go0 rfl (aq_mv rfl) ?_
        refine ao_q (v := (.sl (List.map eCell p0))) go0 rfl (aq_mv rfl) ?_
        obtain ⟨q24, gq24, h0⟩ := Sh.bind_some h0
        refine ao_call (v' := (.own 3 0 (List.length q24))) (st' := [⟨0, 58, 3, List.map eCell q11.1⟩, ⟨0, 58, 3, List.map (eCellD 3) q13⟩, ⟨0, 58, 3, List.map (eCellD 3) q15.1⟩, ⟨0, 58, 3, List.map eCell q24⟩]) go0 hb11 (laws_toCellS_ok gq24) rfl rfl ⟨(pure_map' fun _ => rfl), trivial⟩ rfl rfl ?_
        refine AO.weaken (Wk.frz (L := [(0, (.sl (List.map eCell p0))), (1, (i64 p1)), (6, (.own 0 0 (List.length q11.1))), (7, (.bool q11.2)), (8, (.own 1 0 (List.length q13))), (9, (.own 2 0 (List.length q15.1))), (10, (.bool q15.2)), (45, (.own 1 0 (List.length q13))), (47, (.sl (List.map eCell q24)))]) (st' := [⟨0, 58, 3, List.map eCell q11.1⟩, ⟨0, 58, 3, List.map (eCellD 3) q13⟩, ⟨0, 58, 3, List.map (eCellD 3) q15.1⟩, ⟨1, 58, 3, []⟩]) (id := 3) rfl (show 0 ≤ 3 by decide) (pure_map fun _ => rfl) ⟨.rfl, .rfl, .rfl, .rfl, .rfl, .rfl, .rfl, .rfl, (.frz rfl), trivial⟩ rfl) ?_
        obtain ⟨q25, gq25, h0⟩ := Sh.bind_some h0
        refine ao_callb (v' := (.bool q25)) (st' := [⟨0, 58, 3, List.map eCell q11.1⟩, ⟨0, 58, 3, List.map (eCellD 3) q13⟩, ⟨0, 58, 3, List.map (eCellD 3) q15.1⟩, ⟨1, 58, 3, []⟩]) go0 hb15 (laws_eqCellS_ok gq25) rfl (.ownD rfl rfl (fun _ => rfl) (fun x => eCellD_und x) (.val rfl .nil)) rfl trivial rfl rfl ?_
        refine ao_q (v := (.bool (!q25))) go0 rfl (aq_not rfl) ?_
        refine AO.done (hK23 _ ?_)
        refine AW.cond' (b := !q25) rfl (fun b26 => ?_) (fun b26 => ?_)
        · replace h0 := Sh.ite_t b26 h0
          have b27 : q25 = false := by simpa using b26
          refine AW.seq fun K28 hK28 => ?_
          refine AW.regionO (by rfl) ?_
          refine ao_q (v := (.bool false)) go0 rfl (aq_as rfl) ?_
          refine AO.done (hK28 _ ?_)
          replace h0 := Sh.some_eq h0
          subst r
          exact AW.ret (Exists.intro _ (And.intro ((Wk.permk (L := [(4, (.bool false))]) (st' := []) (st1 := []) [] rfl .nil (by decide) rfl rfl .nil ⟨.rfl, trivial⟩).trans (Wk.to (L := [(4, (.bool false))]) ⟨.rfl, trivial⟩)) (And.intro rfl rfl)))
        · replace h0 := Sh.ite_f b26 h0
          have b29 : q25 = true := by simpa using b26
          refine AW.skip (hK22 _ ?_)
          refine AW.seq fun K30 hK30 => ?_
          refine AW.regionO (by rfl) ?_
          refine ao_q (v := (i64 1)) go0 rfl (aq_as rfl) ?_
          refine AO.done (hK30 _ ?_)
          refine AW.seq fun K31 hK31 => ?_
          refine AW.regionO (by rfl) ?_
          refine ao_q (v := (.own 1 0 (List.length q13))) go0 rfl (aq_mv rfl) ?_
          refine ao_q (v := (i64 1)) go0 rfl (aq_mv rfl) ?_
          obtain ⟨q32, gq32, h0⟩ := Sh.bind_some h0
          refine ao_callsL (rowsP := [⟨0, 58, 3, List.map (eCellD 3) q13⟩]) (rows0 := [⟨0, 58, 3, List.map (eCellD 3) q13⟩]) (rows1 := [⟨0, 58, 3, List.map (eCellD 3) q32.2⟩]) (rows2 := []) (rows1' := [⟨0, 58, 3, List.map (eCellD 3) q32.2⟩]) (rows2' := []) (st' := [⟨0, 58, 3, List.map eCell q11.1⟩, ⟨0, 58, 3, List.map (eCellD 3) q32.2⟩, ⟨0, 58, 3, List.map (eCellD 3) q15.1⟩, ⟨1, 58, 3, []⟩]) (v' := (i64 q32.1)) [1] go0 hb16 (laws_markCellS_ok gq32) rfl (by decide) rfl rfl (.deep (pure_mapD fun _ => rfl) .nil) rfl rfl (.deep (pure_mapD fun _ => rfl) .nil) .nil rfl rfl (fun hln => ?_)
          have ln33 : List.length q32.2 = List.length q13 := by simpa only [List.length_map] using hln 0 _ _ rfl rfl rfl
          refine ao_q (v := (i64 q32.1)) go0 rfl (aq_as rfl) ?_
          refine AO.done (hK31 _ ?_)
          refine AW.seq fun K34 hK34 => ?_
          refine AW.seq fun K35 hK35 => ?_
          obtain ⟨o37, h1, h0⟩ := Sh.bind_some h0
          have M37 : ∀ (t36 : Bool), o37 = t36 → ∀ s, Wk 0 s ⟨101, envL [(0, (.sl (List.map eCell p0))), (1, (i64 p1)), (6, (.own 0 0 (List.length q11.1))), (7, (.bool q11.2)), (9, (.own 1 0 (List.length q15.1))), (65, (.bool t36))], [⟨0, 58, 3, List.map eCell q11.1⟩, ⟨0, 58, 3, List.map (eCellD 3) q15.1⟩]⟩ → K35 s := by
            intro t36 hq s hw
            subst o37
            try dsimp only at h0
            refine hK35 _ (AW.weaken hw ?_)
            refine AW.cond' (b := t36) rfl (fun b38 => ?_) (fun b38 => ?_)
            · replace h0 := Sh.ite_t b38 h0
              refine AW.seq fun K39 hK39 => ?_
              refine AW.regionO (by rfl) ?_
              refine ao_q (v := (.bool false)) go0 rfl (aq_as rfl) ?_
              refine AO.done (hK39 _ ?_)
              replace h0 := Sh.some_eq h0
              subst r
              exact AW.ret (Exists.intro _ (And.intro ((Wk.permk (L := [(4, (.bool false))]) (st' := []) (st1 := []) [] rfl .nil (by decide) rfl rfl .nil ⟨.rfl, trivial⟩).trans (Wk.to (L := [(4, (.bool false))]) ⟨.rfl, trivial⟩)) (And.intro rfl rfl)))
            · replace h0 := Sh.ite_f b38 h0
              refine AW.skip (hK34 _ ?_)
              refine AW.seq fun K40 hK40 => ?_
              refine AW.regionO (by rfl) ?_
              refine ao_q (v := (i64 1)) go0 rfl (aq_as rfl) ?_
              refine AO.done (hK40 _ ?_)
              refine AW.seq fun K41 hK41 => ?_
              refine AW.regionO (by rfl) ?_
              refine ao_q (v := (.own 1 0 (List.length q15.1))) go0 rfl (aq_mv rfl) ?_
              refine ao_q (v := (i64 1)) go0 rfl (aq_mv rfl) ?_
              obtain ⟨q42, gq42, h0⟩ := Sh.bind_some h0
              refine ao_callsL (rowsP := [⟨0, 58, 3, List.map (eCellD 3) q15.1⟩]) (rows0 := [⟨0, 58, 3, List.map (eCellD 3) q15.1⟩]) (rows1 := [⟨0, 58, 3, List.map (eCellD 3) q42.2⟩]) (rows2 := []) (rows1' := [⟨0, 58, 3, List.map (eCellD 3) q42.2⟩]) (rows2' := []) (st' := [⟨0, 58, 3, List.map eCell q11.1⟩, ⟨0, 58, 3, List.map (eCellD 3) q42.2⟩]) (v' := (i64 q42.1)) [1] go0 hb16 (laws_markCellS_ok gq42) rfl (by decide) rfl rfl (.deep (pure_mapD fun _ => rfl) .nil) rfl rfl (.deep (pure_mapD fun _ => rfl) .nil) .nil rfl rfl (fun hln => ?_)
              have ln43 : List.length q42.2 = List.length q15.1 := by simpa only [List.length_map] using hln 0 _ _ rfl rfl rfl
              refine ao_q (v := (i64 q42.1)) go0 rfl (aq_as rfl) ?_
              refine AO.done (hK41 _ ?_)
              refine AW.seq fun K44 hK44 => ?_
              refine AW.regionO (by rfl) ?_
              refine ao_q (v := (i64 1)) go0 rfl (aq_as rfl) ?_
              refine AO.done (hK44 _ ?_)
              refine AW.seq fun K45 hK45 => ?_
              refine AW.regionO (by rfl) ?_
              refine ao_q (v := (.own 1 0 (List.length q15.1))) go0 rfl (aq_mv rfl) ?_
              refine ao_q (v := (i64 1)) go0 rfl (aq_mv rfl) ?_
              obtain ⟨q46, gq46, h0⟩ := Sh.bind_some h0
              refine ao_callb (v' := (i64 q46)) (st' := [⟨0, 58, 3, List.map eCell q11.1⟩, ⟨0, 58, 3, List.map (eCellD 3) q42.2⟩]) go0 hb21 (laws_heldCellS_ok gq46) rfl (.ownD rfl (by first | (simp only [Sh.put_len]; done) | (simp only [Sh.put_len]; omega) | omega) (fun _ => rfl) (fun x => eCellD_und x) (.val rfl .nil)) rfl trivial rfl rfl ?_
              refine ao_q (v := (i64 q46)) go0 rfl (aq_as rfl) ?_
              refine AO.done (hK45 _ ?_)
              refine AW.seq fun K47 hK47 => ?_
              refine AW.seq fun K48 hK48 => ?_
              refine AW.regionO (by rfl) ?_
              refine ao_q (v := (i64 q46)) go0 rfl (aq_mv rfl) ?_
              refine ao_q (v := (.bool (decide (q46 < 0)))) go0 rfl (aq_lt rfl rfl) ?_
              refine AO.done (hK48 _ ?_)
              refine AW.cond' (b := decide (q46 < 0)) rfl (fun b49 => ?_) (fun b49 => ?_)
              · replace h0 := Sh.ite_t b49 h0
                refine AW.seq fun K50 hK50 => ?_
                refine AW.regionO (by rfl) ?_
                refine ao_q (v := (.bool false)) go0 rfl (aq_as rfl) ?_
                refine AO.done (hK50 _ ?_)
                replace h0 := Sh.some_eq h0
                subst r
                exact AW.ret (Exists.intro _ (And.intro ((Wk.permk (L := [(4, (.bool false))]) (st' := []) (st1 := []) [] rfl .nil (by decide) rfl rfl .nil ⟨.rfl, trivial⟩).trans (Wk.to (L := [(4, (.bool false))]) ⟨.rfl, trivial⟩)) (And.intro rfl rfl)))
              · replace h0 := Sh.ite_f b49 h0
                refine AW.skip (hK47 _ ?_)
                refine AW.seq fun K51 hK51 => ?_
                refine AW.seq fun K52 hK52 => ?_
                refine AW.regionO (by rfl) ?_
                refine ao_q (v := (i64 q46)) go0 rfl (aq_mv rfl) ?_
                refine ao_q (v := (i64 q42.1)) go0 rfl (aq_mv rfl) ?_
                refine ao_q (v := (.bool (!decide (q46 = q42.1)))) go0 rfl (aq_ne rfl rfl) ?_
                refine AO.done (hK52 _ ?_)
                refine AW.cond' (b := !decide (q46 = q42.1)) rfl (fun b53 => ?_) (fun b53 => ?_)
                · replace h0 := Sh.ite_t b53 h0
                  have b54 : decide (q46 = q42.1) = false := by simpa using b53
                  refine AW.seq fun K55 hK55 => ?_
                  refine AW.regionO (by rfl) ?_
                  refine ao_q (v := (.bool false)) go0 rfl (aq_as rfl) ?_
                  refine AO.done (hK55 _ ?_)
                  replace h0 := Sh.some_eq h0
                  subst r
                  exact AW.ret (Exists.intro _ (And.intro ((Wk.permk (L := [(4, (.bool false))]) (st' := []) (st1 := []) [] rfl .nil (by decide) rfl rfl .nil ⟨.rfl, trivial⟩).trans (Wk.to (L := [(4, (.bool false))]) ⟨.rfl, trivial⟩)) (And.intro rfl rfl)))
                · replace h0 := Sh.ite_f b53 h0
                  have b56 : decide (q46 = q42.1) = true := by simpa using b53
                  refine AW.skip (hK51 _ ?_)
                  refine AW.seq fun K57 hK57 => ?_
                  refine AW.regionO (by rfl) ?_
                  refine ao_q (v := (.sl (List.map eCell p0))) go0 rfl (aq_mv rfl) ?_
                  obtain ⟨q58, gq58, h0⟩ := Sh.bind_some h0
                  refine ao_call (v' := (.own 2 0 (List.length q58))) (st' := [⟨0, 58, 3, List.map eCell q11.1⟩, ⟨0, 58, 3, List.map (eCellD 3) q42.2⟩, ⟨0, 58, 3, List.map eCell q58⟩]) go0 hb11 (laws_toCellS_ok gq58) rfl rfl ⟨(pure_map' fun _ => rfl), trivial⟩ rfl rfl ?_
                  refine ao_q (v := (i64 p1)) go0 rfl (aq_mv rfl) ?_
                  refine AO.weaken (Wk.frz (L := [(6, (.own 0 0 (List.length q11.1))), (7, (.bool q11.2)), (9, (.own 1 0 (List.length q15.1))), (12, (i64 q42.1)), (79, (.sl (List.map eCell q58))), (80, (i64 p1))]) (st' := [⟨0, 58, 3, List.map eCell q11.1⟩, ⟨0, 58, 3, List.map (eCellD 3) q42.2⟩, ⟨1, 58, 3, []⟩]) (id := 2) rfl (show 0 ≤ 2 by decide) (pure_map fun _ => rfl) ⟨.rfl, .rfl, .rfl, .rfl, (.frz rfl), .rfl, trivial⟩ rfl) ?_
                  obtain ⟨q59, gq59, h0⟩ := Sh.bind_some h0
                  refine ao_call (v' := (.tup [(.own 3 0 (List.length q59.1)), (.bool q59.2)])) (st' := [⟨0, 58, 3, List.map eCell q11.1⟩, ⟨0, 58, 3, List.map (eCellD 3) q42.2⟩, ⟨1, 58, 3, []⟩, ⟨0, 58, 3, List.map eCell q59.1⟩]) go0 hb25 (impl_DropWord_2_ok gq59) rfl rfl ⟨(pure_map' fun _ => rfl), trivial⟩ rfl rfl ?_
                  refine ao_q (v := (.tup [(.own 3 0 (List.length q59.1)), (.bool q59.2)])) go0 rfl (aq_mv rfl) ?_
                  refine ao_q (v := (.own 3 0 (List.length q59.1))) go0 rfl (aq_ex rfl rfl) ?_
                  refine ao_q (v := (.bool q59.2)) go0 rfl (aq_ex rfl rfl) ?_
                  refine ao_q (v := (.own 3 0 (List.length q59.1))) go0 rfl (aq_as rfl) ?_
                  refine ao_q (v := (.bool q59.2)) go0 rfl (aq_as rfl) ?_
                  refine AO.done (hK57 _ ?_)
                  refine AW.seq fun K60 hK60 => ?_
                  refine AW.seq fun K61 hK61 => ?_
                  obtain ⟨o63, h1, h0⟩ := Sh.bind_some h0
                  have M63 : ∀ (t62 : Bool), o63 = t62 → ∀ s, Wk 0 s ⟨101, envL [(9, (.own 0 0 (List.length q42.2))), (12, (i64 q42.1)), (92, (.bool t62))], [⟨0, 58, 3, List.map (eCellD 3) q42.2⟩]⟩ → K61 s := by
                    intro t62 hq s hw
                    subst o63
                    try dsimp only at h0
                    refine hK61 _ (AW.weaken hw ?_)
                    refine AW.cond' (b := t62) rfl (fun b64 => ?_) (fun b64 => ?_)
                    · replace h0 := Sh.ite_t b64 h0
                      refine AW.seq fun K65 hK65 => ?_
                      refine AW.regionO (by rfl) ?_
                      refine ao_q (v := (.bool false)) go0 rfl (aq_as rfl) ?_
                      refine AO.done (hK65 _ ?_)
                      replace h0 := Sh.some_eq h0
                      subst r
                      exact AW.ret (Exists.intro _ (And.intro ((Wk.permk (L := [(4, (.bool false))]) (st' := []) (st1 := []) [] rfl .nil (by decide) rfl rfl .nil ⟨.rfl, trivial⟩).trans (Wk.to (L := [(4, (.bool false))]) ⟨.rfl, trivial⟩)) (And.intro rfl rfl)))
                    · replace h0 := Sh.ite_f b64 h0
                      refine AW.skip (hK60 _ ?_)
                      refine AW.seq fun K66 hK66 => ?_
                      refine AW.regionO (by rfl) ?_
                      refine ao_q (v := (i64 1)) go0 rfl (aq_as rfl) ?_
                      refine AO.done (hK66 _ ?_)
                      refine AW.seq fun K67 hK67 => ?_
                      refine AW.regionO (by rfl) ?_
                      refine ao_q (v := (.own 0 0 (List.length q42.2))) go0 rfl (aq_mv rfl) ?_
                      refine ao_q (v := (i64 1)) go0 rfl (aq_mv rfl) ?_
                      obtain ⟨q68, gq68, h0⟩ := Sh.bind_some h0
                      refine ao_callb (v' := (i64 q68)) (st' := [⟨0, 58, 3, List.map (eCellD 3) q42.2⟩]) go0 hb21 (laws_heldCellS_ok gq68) rfl (.ownD rfl rfl (fun _ => rfl) (fun x => eCellD_und x) (.val rfl .nil)) rfl trivial rfl rfl ?_
                      refine ao_q (v := (i64 q68)) go0 rfl (aq_as rfl) ?_
                      refine AO.done (hK67 _ ?_)
                      refine AW.seq fun K69 hK69 => ?_
                      refine AW.seq fun K70 hK70 => ?_
                      refine AW.regionO (by rfl) ?_
                      refine ao_q (v := (i64 q68)) go0 rfl (aq_mv rfl) ?_
                      refine ao_q (v := (.bool (decide (q68 < 0)))) go0 rfl (aq_lt rfl rfl) ?_
                      refine AO.done (hK70 _ ?_)
                      refine AW.cond' (b := decide (q68 < 0)) rfl (fun b71 => ?_) (fun b71 => ?_)
                      · replace h0 := Sh.ite_t b71 h0
                        refine AW.seq fun K72 hK72 => ?_
                        refine AW.regionO (by rfl) ?_
                        refine ao_q (v := (.bool false)) go0 rfl (aq_as rfl) ?_
                        refine AO.done (hK72 _ ?_)
                        replace h0 := Sh.some_eq h0
                        subst r
                        exact AW.ret (Exists.intro _ (And.intro ((Wk.permk (L := [(4, (.bool false))]) (st' := []) (st1 := []) [] rfl .nil (by decide) rfl rfl .nil ⟨.rfl, trivial⟩).trans (Wk.to (L := [(4, (.bool false))]) ⟨.rfl, trivial⟩)) (And.intro rfl rfl)))
                      · replace h0 := Sh.ite_f b71 h0
                        refine AW.skip (hK69 _ ?_)
                        refine AW.seq fun K73 hK73 => ?_
                        refine AW.seq fun K74 hK74 => ?_
                        refine AW.regionO (by rfl) ?_
                        refine ao_q (v := (i64 q68)) go0 rfl (aq_mv rfl) ?_
                        refine ao_q (v := (i64 q42.1)) go0 rfl (aq_mv rfl) ?_
                        refine ao_q (v := (.bool (!decide (q68 = q42.1)))) go0 rfl (aq_ne rfl rfl) ?_
                        refine AO.done (hK74 _ ?_)
                        refine AW.cond' (b := !decide (q68 = q42.1)) rfl (fun b75 => ?_) (fun b75 => ?_)
                        · replace h0 := Sh.ite_t b75 h0
                          have b76 : decide (q68 = q42.1) = false := by simpa using b75
                          refine AW.seq fun K77 hK77 => ?_
                          refine AW.regionO (by rfl) ?_
                          refine ao_q (v := (.bool false)) go0 rfl (aq_as rfl) ?_
                          refine AO.done (hK77 _ ?_)
                          replace h0 := Sh.some_eq h0
                          subst r
                          exact AW.ret (Exists.intro _ (And.intro ((Wk.permk (L := [(4, (.bool false))]) (st' := []) (st1 := []) [] rfl .nil (by decide) rfl rfl .nil ⟨.rfl, trivial⟩).trans (Wk.to (L := [(4, (.bool false))]) ⟨.rfl, trivial⟩)) (And.intro rfl rfl)))
                        · replace h0 := Sh.ite_f b75 h0
                          have b78 : decide (q68 = q42.1) = true := by simpa using b75
                          refine AW.skip (hK73 _ ?_)
                          refine AW.seq fun K79 hK79 => ?_
                          refine AW.regionO (by rfl) ?_
                          refine ao_q (v := (.bool true)) go0 rfl (aq_as rfl) ?_
                          refine AO.done (hK79 _ ?_)
                          replace h0 := Sh.some_eq h0
                          subst r
                          exact AW.ret (Exists.intro _ (And.intro ((Wk.permk (L := [(4, (.bool true))]) (st' := []) (st1 := []) [] rfl .nil (by decide) rfl rfl .nil ⟨.rfl, trivial⟩).trans (Wk.to (L := [(4, (.bool true))]) ⟨.rfl, trivial⟩)) (And.intro rfl rfl)))
                  refine AW.regionO (by rfl) ?_
                  refine ao_q (v := (.own 3 0 (List.length q59.1))) go0 rfl (aq_mv rfl) ?_
                  refine ao_q (v := (.own 0 0 (List.length q11.1))) go0 rfl (aq_mv rfl) ?_
                  refine AO.weaken (Wk.frz (L := [(7, (.bool q11.2)), (9, (.own 1 0 (List.length q15.1))), (12, (i64 q42.1)), (15, (.bool q59.2)), (84, (.sl (List.map eCell q59.1))), (85, (.own 0 0 (List.length q11.1)))]) (st' := [⟨0, 58, 3, List.map eCell q11.1⟩, ⟨0, 58, 3, List.map (eCellD 3) q42.2⟩, ⟨1, 58, 3, []⟩, ⟨1, 58, 3, []⟩]) (id := 3) rfl (show 0 ≤ 3 by decide) (pure_map fun _ => rfl) ⟨.rfl, .rfl, .rfl, .rfl, (.frz rfl), .rfl, trivial⟩ rfl) ?_
                  refine AO.weaken (Wk.frz (L := [(7, (.bool q11.2)), (9, (.own 1 0 (List.length q15.1))), (12, (i64 q42.1)), (15, (.bool q59.2)), (84, (.sl (List.map eCell q59.1))), (85, (.sl (List.map eCell q11.1)))]) (st' := [⟨1, 58, 3, []⟩, ⟨0, 58, 3, List.map (eCellD 3) q42.2⟩, ⟨1, 58, 3, []⟩, ⟨1, 58, 3, []⟩]) (id := 0) rfl (show 0 ≤ 0 by decide) (pure_map fun _ => rfl) ⟨.rfl, .rfl, .rfl, .rfl, .rfl, (.frz rfl), trivial⟩ rfl) ?_
                  obtain ⟨q80, gq80, h1⟩ := Sh.bind_some h1
                  refine ao_call (v' := (.bool q80)) (st' := [⟨1, 58, 3, []⟩, ⟨0, 58, 3, List.map (eCellD 3) q42.2⟩, ⟨1, 58, 3, []⟩, ⟨1, 58, 3, []⟩]) go0 hb15 (laws_eqCellS_ok gq80) rfl rfl trivial rfl rfl ?_
                  refine ao_q (v := (.bool (!q80))) go0 rfl (aq_not rfl) ?_
                  refine ao_q (v := (.bool (!q80))) go0 rfl (aq_mv rfl) ?_
                  rcases Sh.ite_some h1 with ⟨b81, h1⟩ | ⟨b81, h1⟩
                  · skip
                    refine ao_skip rfl rfl b81 ?_
                    refine ao_skip rfl rfl b81 ?_
                    refine ao_skip rfl rfl b81 ?_
                    refine ao_q (v := (.bool true)) go0 rfl (aq_pkt rfl b81 rfl) ?_
                    exact AO.done (M63 true (Sh.some_eq h1).symm _ (by refine Wk.trans (Wk.permk (L := [(9, (.own 0 0 (List.length q15.1))), (12, (i64 q42.1)), (92, (.bool true))]) (st' := [⟨0, 58, 3, List.map (eCellD 3) q42.2⟩]) (st1 := [⟨0, 58, 3, List.map (eCellD 3) q42.2⟩]) [1] rfl .nil (by decide) rfl rfl (.deep (pure_mapD fun _ => rfl) .nil) ⟨.rfl, .rfl, .rfl, trivial⟩) ?_; exact Wk.to (L := [(9, (.own 0 0 (List.length q42.2))), (12, (i64 q42.1)), (92, (.bool true))]) ⟨(.len (by first | (simp only [Sh.put_len]; done) | (simp only [Sh.put_len]; omega) | omega)), .rfl, .rfl, trivial⟩))
                  · skip
                    refine ao_q (v := (.bool q59.2)) (go1 rfl rfl b81) rfl (aq_mv rfl) ?_
                    refine ao_q (v := (.bool q11.2)) (go1 rfl rfl b81) rfl (aq_mv rfl) ?_
                    refine ao_q (v := (.bool (q59.2 != q11.2))) (go1 rfl rfl b81) rfl (aq_bne bo4 rfl rfl) ?_
                    refine ao_q (v := (.bool (q59.2 != q11.2))) go0 rfl (aq_pkf rfl b81 rfl) ?_
                    exact AO.done (M63 (q59.2 != q11.2) (Sh.some_eq h1).symm _ (by refine Wk.trans (Wk.permk (L := [(9, (.own 0 0 (List.length q15.1))), (12, (i64 q42.1)), (92, (.bool (q59.2 != q11.2)))]) (st' := [⟨0, 58, 3, List.map (eCellD 3) q42.2⟩]) (st1 := [⟨0, 58, 3, List.map (eCellD 3) q42.2⟩]) [1] rfl .nil (by decide) rfl rfl (.deep (pure_mapD fun _ => rfl) .nil) ⟨.rfl, .rfl, .rfl, trivial⟩) ?_; exact Wk.to (L := [(9, (.own 0 0 (List.length q42.2))), (12, (i64 q42.1)), (92, (.bool (q59.2 != q11.2)))]) ⟨(.len (by first | (simp only [Sh.put_len]; done) | (simp only [Sh.put_len]; omega) | omega)), .rfl, .rfl, trivial⟩))
          refine AW.regionO (by rfl) ?_
          refine ao_q (v := (i64 q32.1)) go0 rfl (aq_mv rfl) ?_
          refine ao_q (v := (.bool (decide (q32.1 < 0)))) go0 rfl (aq_lt rfl rfl) ?_
          refine ao_q (v := (.bool (decide (q32.1 < 0)))) go0 rfl (aq_mv rfl) ?_
          rcases Sh.ite_some h1 with ⟨b82, h1⟩ | ⟨b82, h1⟩
          · skip
            refine ao_skip rfl rfl b82 ?_
            refine ao_skip rfl rfl b82 ?_
            refine ao_skip rfl rfl b82 ?_
            refine ao_skip rfl rfl b82 ?_
            refine ao_q (v := (.bool true)) go0 rfl (aq_pkt rfl b82 rfl) ?_
            refine ao_q (v := (.bool true)) go0 rfl (aq_mv rfl) ?_
            refine ao_skip rfl rfl rfl ?_
            refine ao_skip rfl rfl rfl ?_
            refine ao_skip rfl rfl rfl ?_
            refine ao_q (v := (.bool true)) go0 rfl (aq_pkt rfl rfl rfl) ?_
            exact AO.done (M37 true (Sh.some_eq h1).symm _ (by refine Wk.trans (Wk.permk (L := [(0, (.sl (List.map eCell p0))), (1, (i64 p1)), (6, (.own 0 0 (List.length q11.1))), (7, (.bool q11.2)), (9, (.own 1 0 (List.length q15.1))), (65, (.bool true))]) (st' := [⟨0, 58, 3, List.map eCell q11.1⟩, ⟨0, 58, 3, List.map (eCellD 3) q15.1⟩]) (st1 := [⟨0, 58, 3, List.map eCell q11.1⟩, ⟨0, 58, 3, List.map (eCellD 3) q15.1⟩]) [0, 2] rfl .nil (by decide) rfl rfl (.pure (pure_map fun _ => rfl) (.deep (pure_mapD fun _ => rfl) .nil)) ⟨.rfl, .rfl, .rfl, .rfl, .rfl, .rfl, trivial⟩) ?_; exact Wk.to (L := [(0, (.sl (List.map eCell p0))), (1, (i64 p1)), (6, (.own 0 0 (List.length q11.1))), (7, (.bool q11.2)), (9, (.own 1 0 (List.length q15.1))), (65, (.bool true))]) ⟨.rfl, .rfl, .rfl, .rfl, .rfl, .rfl, trivial⟩))
          · skip
            refine ao_q (v := (.own 2 0 (List.length q15.1))) (go1 rfl rfl b82) rfl (aq_mv rfl) ?_
            refine ao_q (v := (.own 0 0 (List.length q11.1))) (go1 rfl rfl b82) rfl (aq_mv rfl) ?_
            obtain ⟨q83, gq83, h1⟩ := Sh.bind_some h1
            refine ao_callb (v' := (.bool q83)) (st' := [⟨0, 58, 3, List.map eCell q11.1⟩, ⟨0, 58, 3, List.map (eCellD 3) q32.2⟩, ⟨0, 58, 3, List.map (eCellD 3) q15.1⟩, ⟨1, 58, 3, []⟩]) (go1 rfl rfl b82) hb15 (laws_eqCellS_ok gq83) rfl (.ownD rfl rfl (fun _ => rfl) (fun x => eCellD_und x) (.own rfl rfl (fun _ => rfl) .nil)) rfl trivial rfl rfl ?_
            refine ao_q (v := (.bool (!q83))) (go1 rfl rfl b82) rfl (aq_not rfl) ?_
            refine ao_q (v := (.bool (!q83))) go0 rfl (aq_pkf rfl b82 rfl) ?_
            refine ao_q (v := (.bool (!q83))) go0 rfl (aq_mv rfl) ?_
            rcases Sh.ite_some h1 with ⟨b84, h1⟩ | ⟨b84, h1⟩
            · skip
              refine ao_skip rfl rfl b84 ?_
              refine ao_skip rfl rfl b84 ?_
              refine ao_skip rfl rfl b84 ?_
              refine ao_q (v := (.bool true)) go0 rfl (aq_pkt rfl b84 rfl) ?_
              exact AO.done (M37 true (Sh.some_eq h1).symm _ (by refine Wk.trans (Wk.permk (L := [(0, (.sl (List.map eCell p0))), (1, (i64 p1)), (6, (.own 0 0 (List.length q11.1))), (7, (.bool q11.2)), (9, (.own 1 0 (List.length q15.1))), (65, (.bool true))]) (st' := [⟨0, 58, 3, List.map eCell q11.1⟩, ⟨0, 58, 3, List.map (eCellD 3) q15.1⟩]) (st1 := [⟨0, 58, 3, List.map eCell q11.1⟩, ⟨0, 58, 3, List.map (eCellD 3) q15.1⟩]) [0, 2] rfl .nil (by decide) rfl rfl (.pure (pure_map fun _ => rfl) (.deep (pure_mapD fun _ => rfl) .nil)) ⟨.rfl, .rfl, .rfl, .rfl, .rfl, .rfl, trivial⟩) ?_; exact Wk.to (L := [(0, (.sl (List.map eCell p0))), (1, (i64 p1)), (6, (.own 0 0 (List.length q11.1))), (7, (.bool q11.2)), (9, (.own 1 0 (List.length q15.1))), (65, (.bool true))]) ⟨.rfl, .rfl, .rfl, .rfl, .rfl, .rfl, trivial⟩))
            · skip
              refine ao_q (v := (.bool q15.2)) (go1 rfl rfl b84) rfl (aq_mv rfl) ?_
              refine ao_q (v := (.bool q11.2)) (go1 rfl rfl b84) rfl (aq_mv rfl) ?_
              refine ao_q (v := (.bool (q15.2 != q11.2))) (go1 rfl rfl b84) rfl (aq_bne bo4 rfl rfl) ?_
              refine ao_q (v := (.bool (q15.2 != q11.2))) go0 rfl (aq_pkf rfl b84 rfl) ?_
              exact AO.done (M37 (q15.2 != q11.2) (Sh.some_eq h1).symm _ (by refine Wk.trans (Wk.permk (L := [(0, (.sl (List.map eCell p0))), (1, (i64 p1)), (6, (.own 0 0 (List.length q11.1))), (7, (.bool q11.2)), (9, (.own 1 0 (List.length q15.1))), (65, (.bool (q15.2 != q11.2)))]) (st' := [⟨0, 58, 3, List.map eCell q11.1⟩, ⟨0, 58, 3, List.map (eCellD 3) q15.1⟩]) (st1 := [⟨0, 58, 3, List.map eCell q11.1⟩, ⟨0, 58, 3, List.map (eCellD 3) q15.1⟩]) [0, 2] rfl .nil (by decide) rfl rfl (.pure (pure_map fun _ => rfl) (.deep (pure_mapD fun _ => rfl) .nil)) ⟨.rfl, .rfl, .rfl, .rfl, .rfl, .rfl, trivial⟩) ?_; exact Wk.to (L := [(0, (.sl (List.map eCell p0))), (1, (i64 p1)), (6, (.own 0 0 (List.length q11.1))), (7, (.bool q11.2)), (9, (.own 1 0 (List.length q15.1))), (65, (.bool (q15.2 != q11.2)))]) ⟨.rfl, .rfl, .rfl, .rfl, .rfl, .rfl, trivial⟩))
    refine AW.regionO (by rfl) ?_
    refine ao_q (v := (.own 3 0 (List.length q15.1))) go0 rfl (aq_mv rfl) ?_
    refine ao_q (v := (.own 1 0 (List.length q11.1))) go0 rfl (aq_mv rfl) ?_
    obtain ⟨q85, gq85, h1⟩ := Sh.bind_some h1
    refine ao_callb (v' := (.bool q85)) (st' := [⟨1, 58, 3, []⟩, ⟨0, 58, 3, List.map eCell q11.1⟩, ⟨0, 58, 3, List.map (eCellD 3) q13⟩, ⟨0, 58, 3, List.map (eCellD 3) q15.1⟩]) go0 hb15 (laws_eqCellS_ok gq85) rfl (.ownD rfl rfl (fun _ => rfl) (fun x => eCellD_und x) (.own rfl rfl (fun _ => rfl) .nil)) rfl trivial rfl rfl ?_
    refine ao_q (v := (.bool (!q85))) go0 rfl (aq_not rfl) ?_
    refine ao_q (v := (.bool (!q85))) go0 rfl (aq_mv rfl) ?_
    rcases Sh.ite_some h1 with ⟨b86, h1⟩ | ⟨b86, h1⟩
    · skip
      refine ao_skip rfl rfl b86 ?_
      refine ao_skip rfl rfl b86 ?_
      refine ao_skip rfl rfl b86 ?_
      refine ao_q (v := (.bool true)) go0 rfl (aq_pkt rfl b86 rfl) ?_
      exact AO.done (M19 true (Sh.some_eq h1).symm _ (by refine Wk.trans (Wk.permk (L := [(0, (.sl (List.map eCell p0))), (1, (i64 p1)), (6, (.own 0 0 (List.length q11.1))), (7, (.bool q11.2)), (8, (.own 1 0 (List.length q13))), (9, (.own 2 0 (List.length q15.1))), (10, (.bool q15.2)), (44, (.bool true))]) (st' := [⟨0, 58, 3, List.map eCell q11.1⟩, ⟨0, 58, 3, List.map (eCellD 3) q13⟩, ⟨0, 58, 3, List.map (eCellD 3) q15.1⟩]) (st1 := [⟨0, 58, 3, List.map eCell q11.1⟩, ⟨0, 58, 3, List.map (eCellD 3) q13⟩, ⟨0, 58, 3, List.map (eCellD 3) q15.1⟩]) [1, 2, 3] rfl .nil (by decide) rfl rfl (.pure (pure_map fun _ => rfl) (.deep (pure_mapD fun _ => rfl) (.deep (pure_mapD fun _ => rfl) .nil))) ⟨.rfl, .rfl, .rfl, .rfl, .rfl, .rfl, .rfl, .rfl, trivial⟩) ?_; exact Wk.to (L := [(0, (.sl (List.map eCell p0))), (1, (i64 p1)), (6, (.own 0 0 (List.length q11.1))), (7, (.bool q11.2)), (8, (.own 1 0 (List.length q13))), (9, (.own 2 0 (List.length q15.1))), (10, (.bool q15.2)), (44, (.bool true))]) ⟨.rfl, .rfl, .rfl, .rfl, .rfl, .rfl, .rfl, .rfl, trivial⟩))
    · skip
      refine ao_q (v := (.bool q15.2)) (go1 rfl rfl b86) rfl (aq_mv rfl) ?_
      refine ao_q (v := (.bool q11.2)) (go1 rfl rfl b86) rfl (aq_mv rfl) ?_
      refine ao_q (v := (.bool (q15.2 != q11.2))) (go1 rfl rfl b86) rfl (aq_bne bo4 rfl rfl) ?_
      refine ao_q (v := (.bool (q15.2 != q11.2))) go0 rfl (aq_pkf rfl b86 rfl) ?_
      exact AO.done (M19 (q15.2 != q11.2) (Sh.some_eq h1).symm _ (by refine Wk.trans (Wk.permk (L := [(0, (.sl (List.map eCell p0))), (1, (i64 p1)), (6, (.own 0 0 (List.length q11.1))), (7, (.bool q11.2)), (8, (.own 1 0 (List.length q13))), (9, (.own 2 0 (List.length q15.1))), (10, (.bool q15.2)), (44, (.bool (q15.2 != q11.2)))]) (st' := [⟨0, 58, 3, List.map eCell q11.1⟩, ⟨0, 58, 3, List.map (eCellD 3) q13⟩, ⟨0, 58, 3, List.map (eCellD 3) q15.1⟩]) (st1 := [⟨0, 58, 3, List.map eCell q11.1⟩, ⟨0, 58, 3, List.map (eCellD 3) q13⟩, ⟨0, 58, 3, List.map (eCellD 3) q15.1⟩]) [1, 2, 3] rfl .nil (by decide) rfl rfl (.pure (pure_map fun _ => rfl) (.deep (pure_mapD fun _ => rfl) (.deep (pure_mapD fun _ => rfl) .nil))) ⟨.rfl, .rfl, .rfl, .rfl, .rfl, .rfl, .rfl, .rfl, trivial⟩) ?_; exact Wk.to (L := [(0, (.sl (List.map eCell p0))), (1, (i64 p1)), (6, (.own 0 0 (List.length q11.1))), (7, (.bool q11.2)), (8, (.own 1 0 (List.length q13))), (9, (.own 2 0 (List.length q15.1))), (10, (.bool q15.2)), (44, (.bool (q15.2 != q11.2)))]) ⟨.rfl, .rfl, .rfl, .rfl, .rfl, .rfl, .rfl, .rfl, trivial⟩))

end Go.Proofs.Ytcpedchmkhlpnaa
