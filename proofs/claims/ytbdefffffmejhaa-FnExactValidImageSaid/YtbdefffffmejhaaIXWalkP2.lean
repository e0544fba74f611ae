import Derived.Test.YtbdefffffmejhaaProg
import Derived.Test.YtbdefffffmejhaaIADefs
import Derived.Test.YtbdefffffmejhaaIXWalkP1
namespace Go.Proofs.Ytbdefffffmejhaa
open Go Go.Abs RC

theorem ai112 : allInfo Try.prog 112 = true := by kernel_rfl
theorem ai41 : allInfo Try.prog 41 = true := by kernel_rfl
theorem ai73 : allInfo Try.prog 73 = true := by kernel_rfl
theorem bi112 : finfos Try.prog 112 = some [(0, 1)] := by kernel_rfl
theorem bi41 : finfos Try.prog 41 = some [(0, 1), (1, 1)] := by kernel_rfl
theorem bi73 : finfos Try.prog 73 = some [(0, 1), (1, 1), (2, 1)] := by kernel_rfl
theorem ei39 : einfo Try.prog 39 = some ⟨73, 3, 56, [.sl [], .sl [], .int .i64 0]⟩ := by kernel_rfl
theorem fi41_0 : finfo Try.prog 41 0 = some 0 := by kernel_rfl
theorem fi41_1 : finfo Try.prog 41 1 = some 1 := by kernel_rfl
theorem fi73_0 : finfo Try.prog 73 0 = some 0 := by kernel_rfl
theorem fi73_1 : finfo Try.prog 73 1 = some 1 := by kernel_rfl
theorem fi73_2 : finfo Try.prog 73 2 = some 2 := by kernel_rfl
theorem hb25 : hasBody Try.prog 25 = true := by kernel_rfl
theorem hb27 : hasBody Try.prog 27 = true := by kernel_rfl
theorem hb29 : hasBody Try.prog 29 = true := by kernel_rfl
theorem hb45 : hasBody Try.prog 45 = true := by kernel_rfl
theorem hb48 : hasBody Try.prog 48 = true := by kernel_rfl
theorem hb49 : hasBody Try.prog 49 = true := by kernel_rfl
theorem hb50 : hasBody Try.prog 50 = true := by kernel_rfl
theorem hb51 : hasBody Try.prog 51 = true := by kernel_rfl
theorem hb66 : hasBody Try.prog 66 = true := by kernel_rfl
theorem sl39 : isSliceT Try.prog 39 = true := by kernel_rfl
theorem ti39 : tinfo Try.prog 39 = some (false, 1) := by kernel_rfl
theorem ti41 : tinfo Try.prog 41 = some (true, 2) := by kernel_rfl
theorem ti73 : tinfo Try.prog 73 = some (true, 3) := by kernel_rfl
theorem ti75 : tinfo Try.prog 75 = some (false, 1) := by kernel_rfl
theorem zi41 : zinfo Try.prog 41 = some [.zc, .zc] := by kernel_rfl
theorem zi73 : zinfo Try.prog 73 = some [.zc, .zc, .int .i64 0] := by kernel_rfl

set_option maxRecDepth 100000 in
set_option maxHeartbeats 4000000 in
theorem impl_validSigs_ok {N : Nat} {p0 : (List RDecl)} {p1 : (List RSignature)} {r : Bool} (h0 : impl_validSigs N p0 p1 = some r) : ACalls Try.prog 25 [(.sl (List.map eRDecl p0)), (.sl (List.map eRSignature p1))] [] (fun v st => v = (.bool r) ∧ st = []) := by
  unfold impl_validSigs at h0
  refine ACalls.intro Try.func25 rfl (by show 2 ≤ 102; decide) ?_
  show AW _ 0 _ (aret _ 0 Try.f25 _) ⟨102, _, _⟩
  refine AW.weaken (Wk.to (L := [(0, (.sl (List.map eRDecl p0))), (1, (.sl (List.map eRSignature p1)))]) ⟨.rfl, .rfl, trivial⟩) ?_
  refine AW.seq fun K1 hK1 => ?_
  refine AW.regionO (by rfl) ?_
  refine ao_q (v := (.bool false)) go0 rfl (aq_as rfl) ?_
  refine AO.done (hK1 _ ?_)
  refine AW.seq fun K2 hK2 => ?_
  refine AW.seq fun K3 hK3 => ?_
  obtain ⟨o5, h1, h0⟩ := Sh.bind_some h0
  have M5 : ∀ (t4 : Bool), o5 = t4 → ∀ s, Wk 0 s ⟨102, envL [(0, (.sl (List.map eRDecl p0))), (1, (.sl (List.map eRSignature p1))), (36, (.bool t4))], []⟩ → K3 s := by
    intro t4 hq s hw
    subst o5
    try dsimp only at h0
    refine hK3 _ (AW.weaken hw ?_)
    refine AW.cond' (b := t4) rfl (fun b6 => ?_) (fun b6 => ?_)
    · replace h0 := Sh.ite_t b6 h0
      refine AW.seq fun K7 hK7 => ?_
      refine AW.regionO (by rfl) ?_
      refine ao_q (v := (.bool false)) go0 rfl (aq_as rfl) ?_
      refine AO.done (hK7 _ ?_)
      replace h0 := Sh.some_eq h0
      subst r
      exact AW.ret (Exists.intro _ (And.intro (Wk.to (L := [(4, (.bool false))]) ⟨.rfl, trivial⟩) (And.intro rfl rfl)))
    · replace h0 := Sh.ite_f b6 h0
      refine AW.skip (hK2 _ ?_)
      refine AW.seq fun K8 hK8 => ?_
      refine AW.seq fun K9 hK9 => ?_
      refine AW.regionO (by rfl) ?_
      refine ao_q (v := (.sl (List.map eRSignature p1))) go0 rfl (aq_mv rfl) ?_
      refine ao_q (v := (i64 (Sh.len p1))) go0 rfl (aq_lens sl39 rfl) ?_
      refine ao_q (v := (i64 0)) go0 rfl (aq_mv rfl) ?_
      refine AO.done (hK9 _ ?_)
      obtain ⟨o11, h1, h0⟩ := Sh.cont_some h0
      have M11 : ∀ (_ : Unit), o11 = Sum.inr () → ∀ s, Wk 0 s ⟨102, envL [], []⟩ → K8 s := by
        intro _ hq s hw
        subst o11
        try dsimp only at h0
        refine hK8 _ (AW.weaken hw ?_)
        refine AW.seq fun K12 hK12 => ?_
        refine AW.regionO (by rfl) ?_
        refine ao_q (v := (.bool true)) go0 rfl (aq_as rfl) ?_
        refine AO.done (hK12 _ ?_)
        replace h0 := Sh.some_eq h0
        subst r
        exact AW.ret (Exists.intro _ (And.intro (Wk.to (L := [(4, (.bool true))]) ⟨.rfl, trivial⟩) (And.intro rfl rfl)))
      refine AW.block (AW.loopF (σ := Int) (fun n v => impl_validSigs_L1 N p0 p1 n v = some o11) (fun t10 => ⟨102, envL [(0, (.sl (List.map eRDecl p0))), (37, (.sl (List.map eRSignature p1))), (38, (i64 (Sh.len p1))), (39, (i64 t10))], []⟩) N 0 h1 (Wk.to (L := [(0, (.sl (List.map eRDecl p0))), (37, (.sl (List.map eRSignature p1))), (38, (i64 (Sh.len p1))), (39, (i64 0))]) ⟨.rfl, .rfl, .rfl, .rfl, trivial⟩) (fun _ hv => by rw [impl_validSigs_L1] at hv; cases hv) ?_)
      rintro n t10 h1
      try dsimp only at h1 ⊢
      rw [impl_validSigs_L1] at h1
      refine AW.seq fun K13 hK13 => ?_
      refine AW.regionO (by rfl) ?_
      refine ao_q (v := (.bool (decide (t10 < (Sh.len p1))))) go0 rfl (aq_lt rfl rfl) ?_
      refine AO.done (hK13 _ ?_)
      refine AW.seq fun K14 hK14 => ?_
      refine AW.cond' (b := decide (t10 < (Sh.len p1))) rfl (fun b15 => ?_) (fun b15 => ?_)
      · replace h1 := Sh.ite_t b15 h1
        refine AW.skip (hK14 _ ?_)
        refine AW.seq fun K16 hK16 => ?_
        refine AW.block ?_
        refine AW.seq fun K17 hK17 => ?_
        refine AW.regionO (by rfl) ?_
        obtain ⟨c18, gc18, h1⟩ := Sh.bind_some h1
        refine ao_q (v := (.iptr (eRSignature c18) 0)) go0 rfl (aq_ixs ei39 rfl rfl gc18 rfl) ?_
        refine ao_q (v := (.agg [(.sl (List.map eI c18.params)), (.sl (List.map eI c18.lent)), (i64 c18.result)])) go0 rfl (aq_ldia ti73 rfl (show 0 + 3 ≤ 3 by decide) rfl) ?_
        refine ao_alloc (m := 0) (st' := [⟨0, 73, 3, [[.zc, .zc, (i64 0)]]⟩]) go0 zi73 rfl rfl ?_
        refine ao_str (st' := [⟨0, 73, 3, [[(.sl (List.map eI c18.params)), (.sl (List.map eI c18.lent)), (i64 c18.result)]]⟩]) go0 ti73 rfl rfl rfl rfl rfl rfl (show 0 + 3 ≤ 3 by decide) rfl ?_
        refine AO.done (hK17 _ ?_)
        refine AW.seq fun K19 hK19 => ?_
        refine AW.seq fun K20 hK20 => ?_
        obtain ⟨o22, h2, h1⟩ := Sh.bind_some h1
        have M22 : ∀ (t21 : Bool), o22 = t21 → ∀ s, Wk 0 s ⟨102, envL [(0, (.sl (List.map eRDecl p0))), (6, (.ptr 0 0 0 0)), (37, (.sl (List.map eRSignature p1))), (38, (i64 (Sh.len p1))), (39, (i64 t10)), (60, (.bool t21))], [⟨0, 73, 3, [[(.sl (List.map eI c18.params)), (.sl (List.map eI c18.lent)), (i64 c18.result)]]⟩]⟩ → K20 s := by
          intro t21 hq s hw
          subst o22
          try dsimp only at h1
          refine hK20 _ (AW.weaken hw ?_)
          refine AW.cond' (b := t21) rfl (fun b23 => ?_) (fun b23 => ?_)
          · replace h1 := Sh.ite_t b23 h1
            refine AW.seq fun K24 hK24 => ?_
            refine AW.regionO (by rfl) ?_
            refine ao_q (v := (.bool false)) go0 rfl (aq_as rfl) ?_
            refine AO.done (hK24 _ ?_)
            replace h1 := Sh.some_eq h1
            subst o11
            try dsimp only [id] at h0
            replace h0 := Sh.some_eq h0
            subst r
            exact AW.ret (Exists.intro _ (And.intro ((Wk.permk (L := [(4, (.bool false))]) (st' := []) (st1 := []) [] rfl .nil (by decide) rfl rfl .nil ⟨.rfl, trivial⟩).trans (Wk.to (L := [(4, (.bool false))]) ⟨.rfl, trivial⟩)) (And.intro rfl rfl)))
          · replace h1 := Sh.ite_f b23 h1
            refine AW.skip (hK19 _ ?_)
            refine AW.seq fun K25 hK25 => ?_
            refine AW.regionO (by rfl) ?_
            refine ao_q (v := (.ptr 0 0 0 1)) go0 rfl (aq_fap fi73_1 rfl rfl (show 0 + 1 ≤ 3 by decide) rfl) ?_
            refine ao_q (v := (.sl (List.map eI c18.lent))) go0 rfl (aq_ldp ti44 rfl rfl rfl rfl) ?_
            refine ao_q (v := (i64 (Sh.len c18.lent))) go0 rfl (aq_lens sl44 rfl) ?_
            refine ao_q (v := (i64 0)) go0 rfl (aq_mv rfl) ?_
            refine AO.done (hK25 _ ?_)
            obtain ⟨o27, h2, h1⟩ := Sh.cont_some h1
            have M27 : ∀ (_ : Unit), o27 = Sum.inr () → ∀ s, Wk 0 s ⟨102, envL [(0, (.sl (List.map eRDecl p0))), (37, (.sl (List.map eRSignature p1))), (38, (i64 (Sh.len p1))), (39, (i64 t10))], []⟩ → K16 s := by
              intro _ hq s hw
              subst o27
              try dsimp only at h1
              refine hK16 _ (AW.weaken hw ?_)
              refine AW.regionO (by rfl) ?_
              refine ao_q (v := (i64 (Sh.w (t10 + 1)))) go0 rfl (aq_add rfl rfl) ?_
              refine ao_q (v := (i64 (Sh.w (t10 + 1)))) go0 rfl (aq_mv rfl) ?_
              exact AO.done (Exists.intro (Sh.w (t10 + 1)) (And.intro h1 (Wk.to (L := [(0, (.sl (List.map eRDecl p0))), (37, (.sl (List.map eRSignature p1))), (38, (i64 (Sh.len p1))), (39, (i64 (Sh.w (t10 + 1))))]) ⟨.rfl, .rfl, .rfl, .rfl, trivial⟩)))
            refine AW.block (AW.loopF (σ := Int) (fun n v => impl_validSigs_L2 c18 n v = some o27) (fun t26 => ⟨102, envL [(0, (.sl (List.map eRDecl p0))), (6, (.ptr 0 0 0 0)), (37, (.sl (List.map eRSignature p1))), (38, (i64 (Sh.len p1))), (39, (i64 t10)), (62, (.sl (List.map eI c18.lent))), (63, (i64 (Sh.len c18.lent))), (64, (i64 t26))], [⟨0, 73, 3, [[(.sl (List.map eI c18.params)), (.sl (List.map eI c18.lent)), (i64 c18.result)]]⟩]⟩) N 0 h2 (Wk.to (L := [(0, (.sl (List.map eRDecl p0))), (6, (.ptr 0 0 0 0)), (37, (.sl (List.map eRSignature p1))), (38, (i64 (Sh.len p1))), (39, (i64 t10)), (62, (.sl (List.map eI c18.lent))), (63, (i64 (Sh.len c18.lent))), (64, (i64 0))]) ⟨.rfl, .rfl, .rfl, .rfl, .rfl, .rfl, .rfl, .rfl, trivial⟩) (fun _ hv => by rw [impl_validSigs_L2] at hv; cases hv) ?_)
            rintro n t26 h2
            try dsimp only at h2 ⊢
            rw [impl_validSigs_L2] at h2
            refine AW.seq fun K28 hK28 => ?_
            refine AW.regionO (by rfl) ?_
            refine ao_q (v := (.bool (decide (t26 < (Sh.len c18.lent))))) go0 rfl (aq_lt rfl rfl) ?_
            refine AO.done (hK28 _ ?_)
            refine AW.seq fun K29 hK29 => ?_
            refine AW.cond' (b := decide (t26 < (Sh.len c18.lent))) rfl (fun b30 => ?_) (fun b30 => ?_)
            · replace h2 := Sh.ite_t b30 h2
              refine AW.skip (hK29 _ ?_)
              refine AW.seq fun K31 hK31 => ?_
              refine AW.block ?_
              refine AW.seq fun K32 hK32 => ?_
              refine AW.regionO (by rfl) ?_
              refine ao_q (v := (i64 t26)) go0 rfl (aq_mv rfl) ?_
              obtain ⟨c33, gc33, h2⟩ := Sh.bind_some h2
              refine ao_q (v := (.iptr (eI c33) 0)) go0 rfl (aq_ixs ei44 rfl rfl gc33 rfl) ?_
              refine ao_q (v := (i64 c33)) go0 rfl (aq_ldi ti3 rfl rfl) ?_
              refine ao_q (v := (i64 t26)) go0 rfl (aq_as rfl) ?_
              refine ao_q (v := (i64 c33)) go0 rfl (aq_as rfl) ?_
              refine AO.done (hK32 _ ?_)
              refine AW.seq fun K34 hK34 => ?_
              obtain ⟨o36, h3, h2⟩ := Sh.bind_some h2
              have M36 : ∀ (t35 : Bool), o36 = t35 → ∀ s, Wk 0 s ⟨102, envL [(0, (.sl (List.map eRDecl p0))), (6, (.ptr 0 0 0 0)), (37, (.sl (List.map eRSignature p1))), (38, (i64 (Sh.len p1))), (39, (i64 t10)), (62, (.sl (List.map eI c18.lent))), (63, (i64 (Sh.len c18.lent))), (64, (i64 t26)), (99, (.bool t35))], [⟨0, 73, 3, [[(.sl (List.map eI c18.params)), (.sl (List.map eI c18.lent)), (i64 c18.result)]]⟩]⟩ → K34 s := by
                intro t35 hq s hw
                subst o36
                try dsimp only at h2
                refine hK34 _ (AW.weaken hw ?_)
                refine AW.cond' (b := t35) rfl (fun b37 => ?_) (fun b37 => ?_)
                · replace h2 := Sh.ite_t b37 h2
                  refine AW.seq fun K38 hK38 => ?_
                  refine AW.regionO (by rfl) ?_
                  refine ao_q (v := (.bool false)) go0 rfl (aq_as rfl) ?_
                  refine AO.done (hK38 _ ?_)
                  replace h2 := Sh.some_eq h2
                  subst o27
                  try dsimp only [id] at h1
                  replace h1 := Sh.some_eq h1
                  subst o11
                  try dsimp only [id] at h0
                  replace h0 := Sh.some_eq h0
                  subst r
                  exact AW.ret (Exists.intro _ (And.intro ((Wk.permk (L := [(4, (.bool false))]) (st' := []) (st1 := []) [] rfl .nil (by decide) rfl rfl .nil ⟨.rfl, trivial⟩).trans (Wk.to (L := [(4, (.bool false))]) ⟨.rfl, trivial⟩)) (And.intro rfl rfl)))
                · replace h2 := Sh.ite_f b37 h2
                  refine AW.skip (hK31 _ ?_)
                  refine AW.regionO (by rfl) ?_
                  refine ao_q (v := (i64 (Sh.w (t26 + 1)))) go0 rfl (aq_add rfl rfl) ?_
                  refine ao_q (v := (i64 (Sh.w (t26 + 1)))) go0 rfl (aq_mv rfl) ?_
                  exact AO.done (Exists.intro (Sh.w (t26 + 1)) (And.intro h2 (Wk.to (L := [(0, (.sl (List.map eRDecl p0))), (6, (.ptr 0 0 0 0)), (37, (.sl (List.map eRSignature p1))), (38, (i64 (Sh.len p1))), (39, (i64 t10)), (62, (.sl (List.map eI c18.lent))), (63, (i64 (Sh.len c18.lent))), (64, (i64 (Sh.w (t26 + 1))))]) ⟨.rfl, .rfl, .rfl, .rfl, .rfl, .rfl, .rfl, .rfl, trivial⟩)))
              refine AW.regionO (by rfl) ?_
              refine ao_q (v := (i64 c33)) go0 rfl (aq_mv rfl) ?_
              refine ao_q (v := (.bool (decide (c33 < 0)))) go0 rfl (aq_lt rfl rfl) ?_
              refine ao_q (v := (.bool (decide (c33 < 0)))) go0 rfl (aq_mv rfl) ?_
              rcases Sh.ite_some h3 with ⟨b39, h3⟩ | ⟨b39, h3⟩
              · skip
                refine ao_skip rfl rfl b39 ?_
                refine ao_skip rfl rfl b39 ?_
                refine ao_skip rfl rfl b39 ?_
                refine ao_skip rfl rfl b39 ?_
                refine ao_skip rfl rfl b39 ?_
                refine ao_q (v := (.bool true)) go0 rfl (aq_pkt rfl b39 rfl) ?_
                refine ao_q (v := (.bool true)) go0 rfl (aq_mv rfl) ?_
                refine ao_skip rfl rfl rfl ?_
                refine ao_skip rfl rfl rfl ?_
                refine ao_skip rfl rfl rfl ?_
                refine ao_skip rfl rfl rfl ?_
                refine ao_skip rfl rfl rfl ?_
                refine ao_skip rfl rfl rfl ?_
                refine ao_q (v := (.bool true)) go0 rfl (aq_pkt rfl rfl rfl) ?_
                refine ao_q (v := (.bool true)) go0 rfl (aq_mv rfl) ?_
                refine ao_skip rfl rfl rfl ?_
                refine ao_skip rfl rfl rfl ?_
                refine ao_skip rfl rfl rfl ?_
                refine ao_none rfl rfl ?_
                refine ao_none rfl rfl ?_
                refine ao_none rfl rfl ?_
                refine ao_none rfl rfl ?_
                refine ao_none rfl rfl ?_
                refine ao_none rfl rfl ?_
                refine ao_none rfl rfl ?_
                refine ao_none rfl rfl ?_
                refine ao_skip rfl rfl rfl ?_
                refine ao_q (v := (.bool true)) go0 rfl (aq_pkt rfl rfl rfl) ?_
                exact AO.done (M36 true (Sh.some_eq h3).symm _ (Wk.to (L := [(0, (.sl (List.map eRDecl p0))), (6, (.ptr 0 0 0 0)), (37, (.sl (List.map eRSignature p1))), (38, (i64 (Sh.len p1))), (39, (i64 t10)), (62, (.sl (List.map eI c18.lent))), (63, (i64 (Sh.len c18.lent))), (64, (i64 t26)), (99, (.bool true))]) ⟨.rfl, .rfl, .rfl, .rfl, .rfl, .rfl, .rfl, .rfl, .rfl, trivial⟩))
              · skip
                refine ao_q (v := (i64 c33)) (go1 rfl rfl b39) rfl (aq_mv rfl) ?_
                refine ao_q (v := (.ptr 0 0 0 0)) (go1 rfl rfl b39) rfl (aq_fap fi73_0 rfl rfl (show 0 + 0 ≤ 3 by decide) rfl) ?_
                refine ao_q (v := (.sl (List.map eI c18.params))) (go1 rfl rfl b39) rfl (aq_ldp ti44 rfl rfl rfl rfl) ?_
                refine ao_q (v := (i64 (Sh.len c18.params))) (go1 rfl rfl b39) rfl (aq_lens sl44 rfl) ?_
                refine ao_q (v := (.bool (decide ((Sh.len c18.params) ≤ c33)))) (go1 rfl rfl b39) rfl (aq_ge rfl rfl) ?_
                refine ao_q (v := (.bool (decide ((Sh.len c18.params) ≤ c33)))) go0 rfl (aq_pkf rfl b39 rfl) ?_
                refine ao_q (v := (.bool (decide ((Sh.len c18.params) ≤ c33)))) go0 rfl (aq_mv rfl) ?_
                rcases Sh.ite_some h3 with ⟨b40, h3⟩ | ⟨b40, h3⟩
                · skip
                  refine ao_skip rfl rfl b40 ?_
                  refine ao_skip rfl rfl b40 ?_
                  refine ao_skip rfl rfl b40 ?_
                  refine ao_skip rfl rfl b40 ?_
                  refine ao_skip rfl rfl b40 ?_
                  refine ao_skip rfl rfl b40 ?_
                  refine ao_q (v := (.bool true)) go0 rfl (aq_pkt rfl b40 rfl) ?_
                  refine ao_q (v := (.bool true)) go0 rfl (aq_mv rfl) ?_
                  refine ao_skip rfl rfl rfl ?_
                  refine ao_skip rfl rfl rfl ?_
                  refine ao_skip rfl rfl rfl ?_
                  refine ao_none rfl rfl ?_
                  refine ao_none rfl rfl ?_
                  refine ao_none rfl rfl ?_
                  refine ao_none rfl rfl ?_
                  refine ao_none rfl rfl ?_
                  refine ao_none rfl rfl ?_
                  refine ao_none rfl rfl ?_
                  refine ao_none rfl rfl ?_
                  refine ao_skip rfl rfl rfl ?_
                  refine ao_q (v := (.bool true)) go0 rfl (aq_pkt rfl rfl rfl) ?_
                  exact AO.done (M36 true (Sh.some_eq h3).symm _ (Wk.to (L := [(0, (.sl (List.map eRDecl p0))), (6, (.ptr 0 0 0 0)), (37, (.sl (List.map eRSignature p1))), (38, (i64 (Sh.len p1))), (39, (i64 t10)), (62, (.sl (List.map eI c18.lent))), (63, (i64 (Sh.len c18.lent))), (64, (i64 t26)), (99, (.bool true))]) ⟨.rfl, .rfl, .rfl, .rfl, .rfl, .rfl, .rfl, .rfl, .rfl, trivial⟩))
                · skip
                  refine ao_q (v := (.ptr 0 0 0 0)) (go1 rfl rfl b40) rfl (aq_fap fi73_0 rfl rfl (show 0 + 0 ≤ 3 by decide) rfl) ?_
                  refine ao_q (v := (.sl (List.map eI c18.params))) (go1 rfl rfl b40) rfl (aq_ldp ti44 rfl rfl rfl rfl) ?_
                  refine ao_q (v := (i64 c33)) (go1 rfl rfl b40) rfl (aq_mv rfl) ?_
                  obtain ⟨c41, gc41, h3⟩ := Sh.bind_some h3
                  refine ao_q (v := (.iptr (eI c41) 0)) (go1 rfl rfl b40) rfl (aq_ixs ei44 rfl rfl gc41 rfl) ?_
                  refine ao_q (v := (i64 c41)) (go1 rfl rfl b40) rfl (aq_ldi ti3 rfl rfl) ?_
                  refine ao_q (v := (.bool (decide (c41 = 0)))) (go1 rfl rfl b40) rfl (aq_eq rfl rfl) ?_
                  refine ao_q (v := (.bool (decide (c41 = 0)))) go0 rfl (aq_pkf rfl b40 rfl) ?_
                  refine ao_q (v := (.bool (decide (c41 = 0)))) go0 rfl (aq_mv rfl) ?_
                  rcases Sh.ite_some h3 with ⟨b42, h3⟩ | ⟨b42, h3⟩
                  · skip
                    refine ao_skip rfl rfl b42 ?_
                    refine ao_skip rfl rfl b42 ?_
                    refine ao_skip rfl rfl b42 ?_
                    refine ao_none rfl rfl ?_
                    refine ao_none rfl rfl ?_
                    refine ao_none rfl rfl ?_
                    refine ao_none rfl rfl ?_
                    refine ao_none rfl rfl ?_
                    refine ao_none rfl rfl ?_
                    refine ao_none rfl rfl ?_
                    refine ao_none rfl rfl ?_
                    refine ao_skip rfl rfl b42 ?_
                    refine ao_q (v := (.bool true)) go0 rfl (aq_pkt rfl b42 rfl) ?_
                    exact AO.done (M36 true (Sh.some_eq h3).symm _ (Wk.to (L := [(0, (.sl (List.map eRDecl p0))), (6, (.ptr 0 0 0 0)), (37, (.sl (List.map eRSignature p1))), (38, (i64 (Sh.len p1))), (39, (i64 t10)), (62, (.sl (List.map eI c18.lent))), (63, (i64 (Sh.len c18.lent))), (64, (i64 t26)), (99, (.bool true))]) ⟨.rfl, .rfl, .rfl, .rfl, .rfl, .rfl, .rfl, .rfl, .rfl, trivial⟩))
                  · skip
                    refine ao_q (v := (i64 t26)) (go1 rfl rfl b42) rfl (aq_mv rfl) ?_
                    refine ao_q (v := (.bool (decide (0 < t26)))) (go1 rfl rfl b42) rfl (aq_gt rfl rfl) ?_
                    refine ao_q (v := (.bool (decide (0 < t26)))) (go1 rfl rfl b42) rfl (aq_mv rfl) ?_
                    rcases Sh.ite_some h3 with ⟨b43, h3⟩ | ⟨b43, h3⟩
                    · skip
                      refine ao_q (v := (i64 c33)) (go1 rfl rfl b43) rfl (aq_mv rfl) ?_
                      refine ao_q (v := (.ptr 0 0 0 1)) (go1 rfl rfl b43) rfl (aq_fap fi73_1 rfl rfl (show 0 + 1 ≤ 3 by decide) rfl) ?_
                      refine ao_q (v := (.sl (List.map eI c18.lent))) (go1 rfl rfl b43) rfl (aq_ldp ti44 rfl rfl rfl rfl) ?_
                      refine ao_q (v := (i64 t26)) (go1 rfl rfl b43) rfl (aq_mv rfl) ?_
                      refine ao_q (v := (i64 (Sh.w (t26 - 1)))) (go1 rfl rfl b43) rfl (aq_sub rfl rfl) ?_
                      obtain ⟨c44, gc44, h3⟩ := Sh.bind_some h3
                      refine ao_q (v := (.iptr (eI c44) 0)) (go1 rfl rfl b43) rfl (aq_ixs ei44 rfl rfl gc44 rfl) ?_
                      refine ao_q (v := (i64 c44)) (go1 rfl rfl b43) rfl (aq_ldi ti3 rfl rfl) ?_
                      refine ao_q (v := (.bool (decide (c33 ≤ c44)))) (go1 rfl rfl b43) rfl (aq_le rfl rfl) ?_
                      refine ao_q (v := (.bool (decide (c33 ≤ c44)))) (go1 rfl rfl b42) rfl (aq_pkt rfl b43 rfl) ?_
                      refine ao_q (v := (.bool (decide (c33 ≤ c44)))) go0 rfl (aq_pkf rfl b42 rfl) ?_
                      exact AO.done (M36 (decide (c33 ≤ c44)) (Sh.some_eq h3).symm _ (Wk.to (L := [(0, (.sl (List.map eRDecl p0))), (6, (.ptr 0 0 0 0)), (37, (.sl (List.map eRSignature p1))), (38, (i64 (Sh.len p1))), (39, (i64 t10)), (62, (.sl (List.map eI c18.lent))), (63, (i64 (Sh.len c18.lent))), (64, (i64 t26)), (99, (.bool (decide (c33 ≤ c44))))]) ⟨.rfl, .rfl, .rfl, .rfl, .rfl, .rfl, .rfl, .rfl, .rfl, trivial⟩))
                    · skip
                      refine ao_skip rfl rfl b43 ?_
                      refine ao_skip rfl rfl b43 ?_
                      refine ao_skip rfl rfl b43 ?_
                      refine ao_skip rfl rfl b43 ?_
                      refine ao_skip rfl rfl b43 ?_
                      refine ao_skip rfl rfl b43 ?_
                      refine ao_skip rfl rfl b43 ?_
                      refine ao_skip rfl rfl b43 ?_
                      refine ao_q (v := (.bool false)) (go1 rfl rfl b42) rfl (aq_pkf rfl b43 rfl) ?_
                      refine ao_q (v := (.bool false)) go0 rfl (aq_pkf rfl b42 rfl) ?_
                      exact AO.done (M36 false (Sh.some_eq h3).symm _ (Wk.to (L := [(0, (.sl (List.map eRDecl p0))), (6, (.ptr 0 0 0 0)), (37, (.sl (List.map eRSignature p1))), (38, (i64 (Sh.len p1))), (39, (i64 t10)), (62, (.sl (List.map eI c18.lent))), (63, (i64 (Sh.len c18.lent))), (64, (i64 t26)), (99, (.bool false))]) ⟨.rfl, .rfl, .rfl, .rfl, .rfl, .rfl, .rfl, .rfl, .rfl, trivial⟩))
            · replace h2 := Sh.ite_f b30 h2
              exact AW.exit (M27 () (Sh.some_eq h2).symm _ (by refine Wk.trans (Wk.permk (L := [(0, (.sl (List.map eRDecl p0))), (37, (.sl (List.map eRSignature p1))), (38, (i64 (Sh.len p1))), (39, (i64 t10))]) (st' := []) (st1 := []) [] rfl .nil (by decide) rfl rfl .nil ⟨.rfl, .rfl, .rfl, .rfl, trivial⟩) ?_; exact Wk.to (L := [(0, (.sl (List.map eRDecl p0))), (37, (.sl (List.map eRSignature p1))), (38, (i64 (Sh.len p1))), (39, (i64 t10))]) ⟨.rfl, .rfl, .rfl, .rfl, trivial⟩))
        refine AW.regionO (by rfl) ?_
        refine ao_q (v := (.ptr 0 0 0 0)) go0 rfl (aq_fap fi73_0 rfl rfl (show 0 + 0 ≤ 3 by decide) rfl) ?_
        refine ao_q (v := (.sl (List.map eI c18.params))) go0 rfl (aq_ldp ti44 rfl rfl rfl rfl) ?_
        refine ao_q (v := (i64 (Sh.len c18.params))) go0 rfl (aq_lens sl44 rfl) ?_
        refine ao_q (v := (.bool (decide (3 < (Sh.len c18.params))))) go0 rfl (aq_gt rfl rfl) ?_
        refine ao_q (v := (.bool (decide (3 < (Sh.len c18.params))))) go0 rfl (aq_mv rfl) ?_
        rcases Sh.ite_some h2 with ⟨b45, h2⟩ | ⟨b45, h2⟩
        · skip
          refine ao_skip rfl rfl b45 ?_
          refine ao_skip rfl rfl b45 ?_
          refine ao_skip rfl rfl b45 ?_
          refine ao_skip rfl rfl b45 ?_
          refine ao_skip rfl rfl b45 ?_
          refine ao_q (v := (.bool true)) go0 rfl (aq_pkt rfl b45 rfl) ?_
          refine ao_q (v := (.bool true)) go0 rfl (aq_mv rfl) ?_
          refine ao_skip rfl rfl rfl ?_
          refine ao_skip rfl rfl rfl ?_
          refine ao_skip rfl rfl rfl ?_
          refine ao_skip rfl rfl rfl ?_
          refine ao_skip rfl rfl rfl ?_
          refine ao_q (v := (.bool true)) go0 rfl (aq_pkt rfl rfl rfl) ?_
          exact AO.done (M22 true (Sh.some_eq h2).symm _ (Wk.to (L := [(0, (.sl (List.map eRDecl p0))), (6, (.ptr 0 0 0 0)), (37, (.sl (List.map eRSignature p1))), (38, (i64 (Sh.len p1))), (39, (i64 t10)), (60, (.bool true))]) ⟨.rfl, .rfl, .rfl, .rfl, .rfl, .rfl, trivial⟩))
        · skip
          refine ao_q (v := (.sl (List.map eRDecl p0))) (go1 rfl rfl b45) rfl (aq_mv rfl) ?_
          refine ao_q (v := (.ptr 0 0 0 0)) (go1 rfl rfl b45) rfl (aq_fap fi73_0 rfl rfl (show 0 + 0 ≤ 3 by decide) rfl) ?_
          refine ao_q (v := (.sl (List.map eI c18.params))) (go1 rfl rfl b45) rfl (aq_ldp ti44 rfl rfl rfl rfl) ?_
          obtain ⟨q46, gq46, h2⟩ := Sh.bind_some h2
          refine ao_call (v' := (.bool q46)) (st' := [⟨0, 73, 3, [[(.sl (List.map eI c18.params)), (.sl (List.map eI c18.lent)), (i64 c18.result)]]⟩]) (go1 rfl rfl b45) hb46 (impl_allTypes_ok gq46) rfl rfl trivial rfl rfl ?_
          refine ao_q (v := (.bool (!q46))) (go1 rfl rfl b45) rfl (aq_not rfl) ?_
          refine ao_q (v := (.bool (!q46))) go0 rfl (aq_pkf rfl b45 rfl) ?_
          refine ao_q (v := (.bool (!q46))) go0 rfl (aq_mv rfl) ?_
          rcases Sh.ite_some h2 with ⟨b47, h2⟩ | ⟨b47, h2⟩
          · skip
            refine ao_skip rfl rfl b47 ?_
            refine ao_skip rfl rfl b47 ?_
            refine ao_skip rfl rfl b47 ?_
            refine ao_skip rfl rfl b47 ?_
            refine ao_skip rfl rfl b47 ?_
            refine ao_q (v := (.bool true)) go0 rfl (aq_pkt rfl b47 rfl) ?_
            exact AO.done (M22 true (Sh.some_eq h2).symm _ (Wk.to (L := [(0, (.sl (List.map eRDecl p0))), (6, (.ptr 0 0 0 0)), (37, (.sl (List.map eRSignature p1))), (38, (i64 (Sh.len p1))), (39, (i64 t10)), (60, (.bool true))]) ⟨.rfl, .rfl, .rfl, .rfl, .rfl, .rfl, trivial⟩))
          · skip
            refine ao_q (v := (.sl (List.map eRDecl p0))) (go1 rfl rfl b47) rfl (aq_mv rfl) ?_
            refine ao_q (v := (.ptr 0 0 0 2)) (go1 rfl rfl b47) rfl (aq_fap fi73_2 rfl rfl (show 0 + 2 ≤ 3 by decide) rfl) ?_
            refine ao_q (v := (i64 c18.result)) (go1 rfl rfl b47) rfl (aq_ldp ti3 rfl rfl rfl rfl) ?_
            obtain ⟨q48, gq48, h2⟩ := Sh.bind_some h2
            refine ao_call (v' := (.bool q48)) (st' := [⟨0, 73, 3, [[(.sl (List.map eI c18.params)), (.sl (List.map eI c18.lent)), (i64 c18.result)]]⟩]) (go1 rfl rfl b47) hb47 (impl_isType_ok gq48) rfl rfl trivial rfl rfl ?_
            refine ao_q (v := (.bool (!q48))) (go1 rfl rfl b47) rfl (aq_not rfl) ?_
            refine ao_q (v := (.bool (!q48))) go0 rfl (aq_pkf rfl b47 rfl) ?_
            exact AO.done (M22 (!q48) (Sh.some_eq h2).symm _ (Wk.to (L := [(0, (.sl (List.map eRDecl p0))), (6, (.ptr 0 0 0 0)), (37, (.sl (List.map eRSignature p1))), (38, (i64 (Sh.len p1))), (39, (i64 t10)), (60, (.bool (!q48)))]) ⟨.rfl, .rfl, .rfl, .rfl, .rfl, .rfl, trivial⟩))
      · replace h1 := Sh.ite_f b15 h1
        exact AW.exit (M11 () (Sh.some_eq h1).symm _ (Wk.to (L := []) trivial))
  refine AW.regionO (by rfl) ?_
  refine ao_q (v := (.sl (List.map eRDecl p0))) go0 rfl (aq_mv rfl) ?_
  obtain ⟨q49, gq49, h1⟩ := Sh.bind_some h1
  refine ao_call (v' := (.bool q49)) (st' := []) go0 hb45 (impl_ValidTypes_ok gq49) rfl rfl trivial rfl rfl ?_
  refine ao_q (v := (.bool (!q49))) go0 rfl (aq_not rfl) ?_
  refine ao_q (v := (.bool (!q49))) go0 rfl (aq_mv rfl) ?_
  rcases Sh.ite_some h1 with ⟨b50, h1⟩ | ⟨b50, h1⟩
  · skip
    refine ao_skip rfl rfl b50 ?_
    refine ao_skip rfl rfl b50 ?_
    refine ao_skip rfl rfl b50 ?_
    refine ao_q (v := (.bool true)) go0 rfl (aq_pkt rfl b50 rfl) ?_
    refine ao_q (v := (.bool true)) go0 rfl (aq_mv rfl) ?_
    refine ao_skip rfl rfl rfl ?_
    refine ao_skip rfl rfl rfl ?_
    refine ao_skip rfl rfl rfl ?_
    refine ao_q (v := (.bool true)) go0 rfl (aq_pkt rfl rfl rfl) ?_
    refine ao_q (v := (.bool true)) go0 rfl (aq_mv rfl) ?_
    refine ao_skip rfl rfl rfl ?_
    refine ao_skip rfl rfl rfl ?_
    refine ao_skip rfl rfl rfl ?_
    refine ao_skip rfl rfl rfl ?_
    refine ao_skip rfl rfl rfl ?_
    refine ao_skip rfl rfl rfl ?_
    refine ao_q (v := (.bool true)) go0 rfl (aq_pkt rfl rfl rfl) ?_
    refine ao_q (v := (.bool true)) go0 rfl (aq_mv rfl) ?_
    refine ao_skip rfl rfl rfl ?_
    refine ao_skip rfl rfl rfl ?_
    refine ao_skip rfl rfl rfl ?_
    refine ao_skip rfl rfl rfl ?_
    refine ao_skip rfl rfl rfl ?_
    refine ao_q (v := (.bool true)) go0 rfl (aq_pkt rfl rfl rfl) ?_
    exact AO.done (M5 true (Sh.some_eq h1).symm _ (Wk.to (L := [(0, (.sl (List.map eRDecl p0))), (1, (.sl (List.map eRSignature p1))), (36, (.bool true))]) ⟨.rfl, .rfl, .rfl, trivial⟩))
  · skip
    refine ao_q (v := (.sl (List.map eRSignature p1))) (go1 rfl rfl b50) rfl (aq_mv rfl) ?_
    refine ao_q (v := (i64 (Sh.len p1))) (go1 rfl rfl b50) rfl (aq_lens sl39 rfl) ?_
    refine ao_q (v := (.bool (decide ((Sh.len p1) < 1)))) (go1 rfl rfl b50) rfl (aq_lt rfl rfl) ?_
    refine ao_q (v := (.bool (decide ((Sh.len p1) < 1)))) go0 rfl (aq_pkf rfl b50 rfl) ?_
    refine ao_q (v := (.bool (decide ((Sh.len p1) < 1)))) go0 rfl (aq_mv rfl) ?_
    rcases Sh.ite_some h1 with ⟨b51, h1⟩ | ⟨b51, h1⟩
    · skip
      refine ao_skip rfl rfl b51 ?_
      refine ao_skip rfl rfl b51 ?_
      refine ao_skip rfl rfl b51 ?_
      refine ao_q (v := (.bool true)) go0 rfl (aq_pkt rfl b51 rfl) ?_
      refine ao_q (v := (.bool true)) go0 rfl (aq_mv rfl) ?_
      refine ao_skip rfl rfl rfl ?_
      refine ao_skip rfl rfl rfl ?_
      refine ao_skip rfl rfl rfl ?_
      refine ao_skip rfl rfl rfl ?_
      refine ao_skip rfl rfl rfl ?_
      refine ao_skip rfl rfl rfl ?_
      refine ao_q (v := (.bool true)) go0 rfl (aq_pkt rfl rfl rfl) ?_
      refine ao_q (v := (.bool true)) go0 rfl (aq_mv rfl) ?_
      refine ao_skip rfl rfl rfl ?_
      refine ao_skip rfl rfl rfl ?_
      refine ao_skip rfl rfl rfl ?_
      refine ao_skip rfl rfl rfl ?_
      refine ao_skip rfl rfl rfl ?_
      refine ao_q (v := (.bool true)) go0 rfl (aq_pkt rfl rfl rfl) ?_
      exact AO.done (M5 true (Sh.some_eq h1).symm _ (Wk.to (L := [(0, (.sl (List.map eRDecl p0))), (1, (.sl (List.map eRSignature p1))), (36, (.bool true))]) ⟨.rfl, .rfl, .rfl, trivial⟩))
    · skip
      refine ao_q (v := (.sl (List.map eRSignature p1))) (go1 rfl rfl b51) rfl (aq_mv rfl) ?_
      refine ao_q (v := (i64 (Sh.len p1))) (go1 rfl rfl b51) rfl (aq_lens sl39 rfl) ?_
      refine ao_q (v := (.bool (decide (4 < (Sh.len p1))))) (go1 rfl rfl b51) rfl (aq_gt rfl rfl) ?_
      refine ao_q (v := (.bool (decide (4 < (Sh.len p1))))) go0 rfl (aq_pkf rfl b51 rfl) ?_
      refine ao_q (v := (.bool (decide (4 < (Sh.len p1))))) go0 rfl (aq_mv rfl) ?_
      rcases Sh.ite_some h1 with ⟨b52, h1⟩ | ⟨b52, h1⟩
      · skip
        refine ao_skip rfl rfl b52 ?_
        refine ao_skip rfl rfl b52 ?_
        refine ao_skip rfl rfl b52 ?_
        refine ao_skip rfl rfl b52 ?_
        refine ao_skip rfl rfl b52 ?_
        refine ao_skip rfl rfl b52 ?_
        refine ao_q (v := (.bool true)) go0 rfl (aq_pkt rfl b52 rfl) ?_
        refine ao_q (v := (.bool true)) go0 rfl (aq_mv rfl) ?_
        refine ao_skip rfl rfl rfl ?_
        refine ao_skip rfl rfl rfl ?_
        refine ao_skip rfl rfl rfl ?_
        refine ao_skip rfl rfl rfl ?_
        refine ao_skip rfl rfl rfl ?_
        refine ao_q (v := (.bool true)) go0 rfl (aq_pkt rfl rfl rfl) ?_
        exact AO.done (M5 true (Sh.some_eq h1).symm _ (Wk.to (L := [(0, (.sl (List.map eRDecl p0))), (1, (.sl (List.map eRSignature p1))), (36, (.bool true))]) ⟨.rfl, .rfl, .rfl, trivial⟩))
      · skip
        refine ao_q (v := (.sl (List.map eRSignature p1))) (go1 rfl rfl b52) rfl (aq_mv rfl) ?_
        obtain ⟨c53, gc53, h1⟩ := Sh.bind_some h1
        refine ao_q (v := (.iptr (eRSignature c53) 0)) (go1 rfl rfl b52) rfl (aq_ixs ei39 rfl rfl gc53 rfl) ?_
        refine ao_q (v := (.iptr (eRSignature c53) 0)) (go1 rfl rfl b52) rfl (aq_fai fi73_0 rfl rfl) ?_
        refine ao_q (v := (.sl (List.map eI c53.params))) (go1 rfl rfl b52) rfl (aq_ldi ti44 rfl rfl) ?_
        refine ao_q (v := (i64 (Sh.len c53.params))) (go1 rfl rfl b52) rfl (aq_lens sl44 rfl) ?_
        refine ao_q (v := (.bool (decide (0 < (Sh.len c53.params))))) (go1 rfl rfl b52) rfl (aq_gt rfl rfl) ?_
        refine ao_q (v := (.bool (decide (0 < (Sh.len c53.params))))) go0 rfl (aq_pkf rfl b52 rfl) ?_
        refine ao_q (v := (.bool (decide (0 < (Sh.len c53.params))))) go0 rfl (aq_mv rfl) ?_
        rcases Sh.ite_some h1 with ⟨b54, h1⟩ | ⟨b54, h1⟩
        · skip
          refine ao_skip rfl rfl b54 ?_
          refine ao_skip rfl rfl b54 ?_
          refine ao_skip rfl rfl b54 ?_
          refine ao_skip rfl rfl b54 ?_
          refine ao_skip rfl rfl b54 ?_
          refine ao_q (v := (.bool true)) go0 rfl (aq_pkt rfl b54 rfl) ?_
          exact AO.done (M5 true (Sh.some_eq h1).symm _ (Wk.to (L := [(0, (.sl (List.map eRDecl p0))), (1, (.sl (List.map eRSignature p1))), (36, (.bool true))]) ⟨.rfl, .rfl, .rfl, trivial⟩))
        · skip
          refine ao_q (v := (.sl (List.map eRSignature p1))) (go1 rfl rfl b54) rfl (aq_mv rfl) ?_
          refine ao_q (v := (.iptr (eRSignature c53) 0)) (go1 rfl rfl b54) rfl (aq_ixs ei39 rfl rfl gc53 rfl) ?_
          refine ao_q (v := (.iptr (eRSignature c53) 2)) (go1 rfl rfl b54) rfl (aq_fai fi73_2 rfl rfl) ?_
          refine ao_q (v := (i64 c53.result)) (go1 rfl rfl b54) rfl (aq_ldi ti3 rfl rfl) ?_
          refine ao_q (v := (.bool (!decide (c53.result = 0)))) (go1 rfl rfl b54) rfl (aq_ne rfl rfl) ?_
          refine ao_q (v := (.bool (!decide (c53.result = 0)))) go0 rfl (aq_pkf rfl b54 rfl) ?_
          exact AO.done (M5 (!decide (c53.result = 0)) (Sh.some_eq h1).symm _ (Wk.to (L := [(0, (.sl (List.map eRDecl p0))), (1, (.sl (List.map eRSignature p1))), (36, (.bool (!decide (c53.result = 0))))]) ⟨.rfl, .rfl, .rfl, trivial⟩))

set_option maxRecDepth 100000 in
set_option maxHeartbeats 4000000 in
theorem impl_imageSigs_ok {N : Nat} {p0 : RImage} {r : RSignatures × Bool} (h0 : impl_imageSigs N p0 = some r) : ACalls Try.prog 14 [(.agg [(.sl (List.map eRDecl p0.decls)), (.sl (List.map eRProc p0.procs))])] [] (fun v st => v = (.tup [(.agg [(.sl (List.map eRDecl r.1.decls)), (.sl (List.map eRSignature r.1.funcs))]), (.bool r.2)]) ∧ st = []) := by
  unfold impl_imageSigs at h0
  refine ACalls.flat rfl ?_
  refine ACalls.intro Try.func14 rfl (by show 1 ≤ 41; decide) ?_
  show AW _ 0 _ (aret _ 0 Try.f14 _) ⟨41, _, _⟩
  refine AW.weaken (Wk.to (L := [(0, (.agg [(.sl (List.map eRDecl p0.decls)), (.sl (List.map eRProc p0.procs))]))]) ⟨.rfl, trivial⟩) ?_
  refine AW.seq fun K1 hK1 => ?_
  refine AW.regionO (by rfl) ?_
  refine ao_box (m := 0) (st' := [⟨0, 31, 2, [[(.sl (List.map eRDecl p0.decls)), (.sl (List.map eRProc p0.procs))]]⟩]) go0 rfl rfl rfl rfl rfl ?_
  refine ao_alloc (m := 1) (st' := [⟨0, 31, 2, [[(.sl (List.map eRDecl p0.decls)), (.sl (List.map eRProc p0.procs))]]⟩, ⟨0, 41, 2, [[.zc, .zc]]⟩]) go0 zi41 rfl rfl ?_
  refine ao_q (v := (.bool false)) go0 rfl (aq_as rfl) ?_
  refine AO.done (hK1 _ ?_)
  refine AW.seq fun K2 hK2 => ?_
  refine AW.seq fun K3 hK3 => ?_
  refine AW.regionO (by rfl) ?_
  refine ao_q (v := (.ptr 0 0 0 1)) go0 rfl (aq_fap fi31_1 rfl rfl (show 0 + 1 ≤ 2 by decide) rfl) ?_
  refine ao_q (v := (.sl (List.map eRProc p0.procs))) go0 rfl (aq_ldp ti29 rfl rfl rfl rfl) ?_
  refine ao_q (v := (i64 (Sh.len p0.procs))) go0 rfl (aq_lens sl29 rfl) ?_
  refine ao_q (v := (.bool (decide (4 < (Sh.len p0.procs))))) go0 rfl (aq_gt rfl rfl) ?_
  refine AO.done (hK3 _ ?_)
  refine AW.cond' (b := decide (4 < (Sh.len p0.procs))) rfl (fun b4 => ?_) (fun b4 => ?_)
  · replace h0 := Sh.ite_t b4 h0
    refine AW.seq fun K5 hK5 => ?_
    refine AW.regionO (by rfl) ?_
    refine ao_q (v := (.agg [.zc, .zc])) go0 rfl (aq_bd ai41 bi41 zi41 rfl rfl) ?_
    refine ao_str (st' := [⟨0, 31, 2, [[(.sl (List.map eRDecl p0.decls)), (.sl (List.map eRProc p0.procs))]]⟩, ⟨0, 41, 2, [[.zc, .zc]]⟩]) go0 ti41 rfl rfl rfl rfl rfl rfl (show 0 + 2 ≤ 2 by decide) rfl ?_
    refine ao_q (v := (.bool false)) go0 rfl (aq_as rfl) ?_
    refine AO.done (hK5 _ ?_)
    replace h0 := Sh.some_eq h0
    subst r
    exact AW.ret (Exists.intro _ (And.intro ((((Wk.cellLe (id := 1) (cs := [.zc, .zc]) (cs' := [(.sl (List.map eRDecl [])), .zc]) (st' := [⟨0, 31, 2, [[(.sl (List.map eRDecl p0.decls)), (.sl (List.map eRProc p0.procs))]]⟩, ⟨0, 41, 2, [[(.sl (List.map eRDecl [])), .zc]]⟩]) rfl ⟨le.zc, le.rfl, trivial⟩ rfl rfl).trans (Wk.cellLe (id := 1) (cs := [(.sl (List.map eRDecl [])), .zc]) (cs' := [(.sl (List.map eRDecl [])), (.sl (List.map eRSignature []))]) (st' := [⟨0, 31, 2, [[(.sl (List.map eRDecl p0.decls)), (.sl (List.map eRProc p0.procs))]]⟩, ⟨0, 41, 2, [[(.sl (List.map eRDecl [])), (.sl (List.map eRSignature []))]]⟩]) rfl ⟨le.rfl, le.zc, trivial⟩ rfl rfl)).trans (Wk.permk (L := [(2, (.ptr 0 0 0 0)), (3, (.bool false))]) (st' := [⟨0, 41, 2, [[(.sl (List.map eRDecl [])), (.sl (List.map eRSignature []))]]⟩]) (st1 := [⟨0, 41, 2, [[(.sl (List.map eRDecl [])), (.sl (List.map eRSignature []))]]⟩]) [1] rfl .nil (by decide) rfl rfl (.raw rfl rfl .nil) ⟨.rfl, .rfl, trivial⟩)).trans (Wk.to (L := [(2, (.ptr 0 0 0 0)), (3, (.bool false))]) ⟨.rfl, .rfl, trivial⟩)) (aq_ldpa (x := .tmp 2) (off := 0) (cs := [(.sl (List.map eRDecl [])), (.sl (List.map eRSignature []))]) (vs := [(.sl (List.map eRDecl [])), (.sl (List.map eRSignature []))]) ti41 rfl rfl rfl (show 0 + 2 ≤ 2 by decide) rfl _ rfl)))
  · replace h0 := Sh.ite_f b4 h0
    refine AW.skip (hK2 _ ?_)
    refine AW.seq fun K6 hK6 => ?_
    refine AW.regionO (by rfl) ?_
    refine ao_q (v := (.ptr 0 0 0 0)) go0 rfl (aq_fap fi31_0 rfl rfl (show 0 + 0 ≤ 2 by decide) rfl) ?_
    refine ao_q (v := (.sl (List.map eRDecl p0.decls))) go0 rfl (aq_ldp ti28 rfl rfl rfl rfl) ?_
    refine ao_q (v := (.agg [(.sl (List.map eRDecl p0.decls)), .zc])) go0 rfl (aq_bd ai41 bi41 zi41 rfl rfl) ?_
    refine ao_alloc (m := 2) (st' := [⟨0, 31, 2, [[(.sl (List.map eRDecl p0.decls)), (.sl (List.map eRProc p0.procs))]]⟩, ⟨0, 41, 2, [[.zc, .zc]]⟩, ⟨0, 41, 2, [[.zc, .zc]]⟩]) go0 zi41 rfl rfl ?_
    refine ao_str (st' := [⟨0, 31, 2, [[(.sl (List.map eRDecl p0.decls)), (.sl (List.map eRProc p0.procs))]]⟩, ⟨0, 41, 2, [[.zc, .zc]]⟩, ⟨0, 41, 2, [[(.sl (List.map eRDecl p0.decls)), .zc]]⟩]) go0 ti41 rfl rfl rfl rfl rfl rfl (show 0 + 2 ≤ 2 by decide) rfl ?_
    refine AO.done (hK6 _ ?_)
    refine AW.seq fun K7 hK7 => ?_
    refine AW.seq fun K8 hK8 => ?_
    refine AW.regionO (by rfl) ?_
    refine ao_q (v := (.ptr 0 0 0 1)) go0 rfl (aq_fap fi31_1 rfl rfl (show 0 + 1 ≤ 2 by decide) rfl) ?_
    refine ao_q (v := (.sl (List.map eRProc p0.procs))) go0 rfl (aq_ldp ti29 rfl rfl rfl rfl) ?_
    refine ao_q (v := (i64 (Sh.len p0.procs))) go0 rfl (aq_lens sl29 rfl) ?_
    refine ao_q (v := (i64 0)) go0 rfl (aq_mv rfl) ?_
    refine AO.done (hK8 _ ?_)
    obtain ⟨o12, h1, h0⟩ := Sh.bind_some h0
    have M12 : ∀ (l11 : (List RSignature)), o12 = l11 → ∀ s, Wk 0 s ⟨41, envL [(1, (.ptr 0 0 0 0)), (2, (.ptr 1 0 0 0)), (4, (.ptr 2 0 0 0))], [⟨0, 31, 2, [[(.sl (List.map eRDecl p0.decls)), (.sl (List.map eRProc p0.procs))]]⟩, ⟨0, 41, 2, [[.zc, .zc]]⟩, ⟨0, 41, 2, [[(.sl (List.map eRDecl p0.decls)), (.own 3 0 (List.length l11))]]⟩, ⟨0, 73, 3, List.map eRSignature l11⟩]⟩ → K7 s := by
      intro l11 hq s hw
      subst o12
      try dsimp only at h0
      refine hK7 _ (AW.weaken hw ?_)
      refine AW.seq fun K13 hK13 => ?_
      refine AW.drawTailO 6 (by kernel_rfl) (by kernel_rfl) (by rfl) ?_
      refine d_q (v := (.agg [(.sl (List.map eRDecl p0.decls)), (.own 3 0 (List.length l11))])) go0 rfl (aq_ldpa ti41 rfl rfl rfl (show 0 + 2 ≤ 2 by decide) rfl) ?_
      refine d_q (v := (.ptr 0 0 0 0)) go0 rfl (aq_fap fi31_0 rfl rfl (show 0 + 0 ≤ 2 by decide) rfl) ?_
      refine d_q (v := (.sl (List.map eRDecl p0.decls))) go0 rfl (aq_ldp ti28 rfl rfl rfl rfl) ?_
      refine d_q (v := (.ptr 2 0 0 1)) go0 rfl (aq_fap fi41_1 rfl rfl (show 0 + 1 ≤ 2 by decide) rfl) ?_
      refine d_q (v := (.own 3 0 (List.length l11))) go0 rfl (aq_ldp ti39 rfl rfl rfl rfl) ?_
      obtain ⟨q14, gq14, h0⟩ := Sh.bind_some h0
      refine d_callb (v' := (.bool q14)) go0 hb25 (impl_validSigs_ok gq14) rfl (.val rfl (.own rfl rfl (fun _ => rfl) .nil)) rfl rfl ?_
      refine d_done ?_
      refine AO.weaken (Wk.frz (L := [(2, (.ptr 1 0 0 0)), (35, (.agg [(.sl (List.map eRDecl p0.decls)), (.sl (List.map eRSignature l11))])), (40, (.bool q14))]) (st' := [⟨0, 31, 2, [[(.sl (List.map eRDecl p0.decls)), (.sl (List.map eRProc p0.procs))]]⟩, ⟨0, 41, 2, [[.zc, .zc]]⟩, ⟨0, 41, 2, [[(.sl (List.map eRDecl p0.decls)), (.own 3 0 (List.length l11))]]⟩, ⟨1, 73, 3, []⟩]) (id := 3) rfl (show 0 ≤ 3 by decide) (pure_map fun _ => rfl) ⟨.rfl, (.agg ⟨.rfl, (.frz1 rfl), trivial⟩), .rfl, trivial⟩ rfl) ?_
      refine ao_str (st' := [⟨0, 31, 2, [[(.sl (List.map eRDecl p0.decls)), (.sl (List.map eRProc p0.procs))]]⟩, ⟨0, 41, 2, [[(.sl (List.map eRDecl p0.decls)), (.sl (List.map eRSignature l11))]]⟩, ⟨0, 41, 2, [[(.sl (List.map eRDecl p0.decls)), (.own 3 0 (List.length l11))]]⟩, ⟨1, 73, 3, []⟩]) go0 ti41 rfl rfl rfl rfl rfl rfl (show 0 + 2 ≤ 2 by decide) rfl ?_
      refine ao_q (v := (.bool q14)) go0 rfl (aq_as rfl) ?_
      refine AO.done (hK13 _ ?_)
      replace h0 := Sh.some_eq h0
      subst r
      exact AW.ret (Exists.intro _ (And.intro ((Wk.permk (L := [(2, (.ptr 0 0 0 0)), (3, (.bool q14))]) (st' := [⟨0, 41, 2, [[(.sl (List.map eRDecl p0.decls)), (.sl (List.map eRSignature l11))]]⟩]) (st1 := [⟨0, 41, 2, [[(.sl (List.map eRDecl p0.decls)), (.sl (List.map eRSignature l11))]]⟩]) [1] rfl .nil (by decide) rfl rfl (.raw rfl rfl .nil) ⟨.rfl, .rfl, trivial⟩).trans (Wk.to (L := [(2, (.ptr 0 0 0 0)), (3, (.bool q14))]) ⟨.rfl, .rfl, trivial⟩)) (aq_ldpa (x := .tmp 2) (off := 0) (cs := [(.sl (List.map eRDecl p0.decls)), (.sl (List.map eRSignature l11))]) (vs := [(.sl (List.map eRDecl p0.decls)), (.sl (List.map eRSignature l11))]) ti41 rfl rfl rfl (show 0 + 2 ≤ 2 by decide) rfl _ rfl)))
    refine AW.block (AW.loopF (σ := Int × (List RSignature)) (fun n v => impl_imageSigs_L1 p0 n v.1 v.2 = some o12) (fun (t9, l10) => ⟨41, envL [(1, (.ptr 0 0 0 0)), (2, (.ptr 1 0 0 0)), (4, (.ptr 2 0 0 0)), (16, (.sl (List.map eRProc p0.procs))), (17, (i64 (Sh.len p0.procs))), (18, (i64 t9))], [⟨0, 31, 2, [[(.sl (List.map eRDecl p0.decls)), (.sl (List.map eRProc p0.procs))]]⟩, ⟨0, 41, 2, [[.zc, .zc]]⟩, ⟨0, 41, 2, [[(.sl (List.map eRDecl p0.decls)), (.own 3 0 (List.length l10))]]⟩, ⟨0, 73, 3, List.map eRSignature l10⟩]⟩) N (0, []) h1 (by refine Wk.trans (Wk.adoptC (id := 2) (st' := [⟨0, 31, 2, [[(.sl (List.map eRDecl p0.decls)), (.sl (List.map eRProc p0.procs))]]⟩, ⟨0, 41, 2, [[.zc, .zc]]⟩, ⟨0, 41, 2, [[(.sl (List.map eRDecl p0.decls)), (.own 3 0 (List.length ([] : List RSignature)))]]⟩, ⟨0, 73, 3, List.map eRSignature ([] : List RSignature)⟩]) (j := 1) rfl rfl 73 (size' := 3) (by decide) rfl rfl rfl rfl) ?_; exact Wk.to (L := [(1, (.ptr 0 0 0 0)), (2, (.ptr 1 0 0 0)), (4, (.ptr 2 0 0 0)), (16, (.sl (List.map eRProc p0.procs))), (17, (i64 (Sh.len p0.procs))), (18, (i64 0))]) ⟨.rfl, .rfl, .rfl, .rfl, .rfl, .rfl, trivial⟩) (fun _ hv => by rw [impl_imageSigs_L1] at hv; cases hv) ?_)
    rintro n ⟨t9, l10⟩ h1
    try dsimp only at h1 ⊢
    rw [impl_imageSigs_L1] at h1
    refine AW.seq fun K15 hK15 => ?_
    refine AW.regionO (by rfl) ?_
    refine ao_q (v := (.bool (decide (t9 < (Sh.len p0.procs))))) go0 rfl (aq_lt rfl rfl) ?_
    refine AO.done (hK15 _ ?_)
    refine AW.seq fun K16 hK16 => ?_
    refine AW.cond' (b := decide (t9 < (Sh.len p0.procs))) rfl (fun b17 => ?_) (fun b17 => ?_)
    · replace h1 := Sh.ite_t b17 h1
      refine AW.skip (hK16 _ ?_)
      refine AW.seq fun K18 hK18 => ?_
      refine AW.block ?_
      refine AW.seq fun K19 hK19 => ?_
      refine AW.regionO (by rfl) ?_
      obtain ⟨c20, gc20, h1⟩ := Sh.bind_some h1
      refine ao_q (v := (.iptr (eRProc c20) 0)) go0 rfl (aq_ixs ei29 rfl rfl gc20 rfl) ?_
      refine ao_q (v := (.agg [(.sl (List.map eI c20.params)), (.sl (List.map eI c20.lent)), (i64 c20.result), (i64 c20.regs), (.sl (List.map eRInstr c20.code))])) go0 rfl (aq_ldia ti47 rfl (show 0 + 5 ≤ 5 by decide) rfl) ?_
      refine ao_alloc (m := 4) (st' := [⟨0, 31, 2, [[(.sl (List.map eRDecl p0.decls)), (.sl (List.map eRProc p0.procs))]]⟩, ⟨0, 41, 2, [[.zc, .zc]]⟩, ⟨0, 41, 2, [[(.sl (List.map eRDecl p0.decls)), (.own 3 0 (List.length l10))]]⟩, ⟨0, 73, 3, List.map eRSignature l10⟩, ⟨0, 47, 5, [[.zc, .zc, (i64 0), (i64 0), .zc]]⟩]) go0 zi47 rfl rfl ?_
      refine ao_str (st' := [⟨0, 31, 2, [[(.sl (List.map eRDecl p0.decls)), (.sl (List.map eRProc p0.procs))]]⟩, ⟨0, 41, 2, [[.zc, .zc]]⟩, ⟨0, 41, 2, [[(.sl (List.map eRDecl p0.decls)), (.own 3 0 (List.length l10))]]⟩, ⟨0, 73, 3, List.map eRSignature l10⟩, ⟨0, 47, 5, [[(.sl (List.map eI c20.params)), (.sl (List.map eI c20.lent)), (i64 c20.result), (i64 c20.regs), (.sl (List.map eRInstr c20.code))]]⟩]) go0 ti47 rfl rfl rfl rfl rfl rfl (show 0 + 5 ≤ 5 by decide) rfl ?_
      refine AO.done (hK19 _ ?_)
      refine AW.regionO (by rfl) ?_
      refine ao_q (v := (.ptr 2 0 0 1)) go0 rfl (aq_fap fi41_1 rfl rfl (show 0 + 1 ≤ 2 by decide) rfl) ?_
      refine ao_q (v := (.own 3 0 (List.length l10))) go0 rfl (aq_ldp ti39 rfl rfl rfl rfl) ?_
      refine ao_q (v := (.ptr 4 0 0 0)) go0 rfl (aq_fap fi47_0 rfl rfl (show 0 + 0 ≤ 5 by decide) rfl) ?_
      refine ao_q (v := (.sl (List.map eI c20.params))) go0 rfl (aq_ldp ti44 rfl rfl rfl rfl) ?_
      refine ao_q (v := (.ptr 4 0 0 1)) go0 rfl (aq_fap fi47_1 rfl rfl (show 0 + 1 ≤ 5 by decide) rfl) ?_
      refine ao_q (v := (.sl (List.map eI c20.lent))) go0 rfl (aq_ldp ti44 rfl rfl rfl rfl) ?_
      refine ao_q (v := (.ptr 4 0 0 2)) go0 rfl (aq_fap fi47_2 rfl rfl (show 0 + 2 ≤ 5 by decide) rfl) ?_
      refine ao_q (v := (i64 c20.result)) go0 rfl (aq_ldp ti3 rfl rfl rfl rfl) ?_
      refine ao_q (v := (.agg [(.sl (List.map eI c20.params)), (.sl (List.map eI c20.lent)), (i64 c20.result)])) go0 rfl (aq_bd ai73 bi73 zi73 rfl rfl) ?_
      refine ao_bs (m := 5) (st' := [⟨0, 31, 2, [[(.sl (List.map eRDecl p0.decls)), (.sl (List.map eRProc p0.procs))]]⟩, ⟨0, 41, 2, [[.zc, .zc]]⟩, ⟨0, 41, 2, [[(.sl (List.map eRDecl p0.decls)), (.own 3 0 (List.length l10))]]⟩, ⟨0, 73, 3, List.map eRSignature l10⟩, ⟨0, 47, 5, [[(.sl (List.map eI c20.params)), (.sl (List.map eI c20.lent)), (i64 c20.result), (i64 c20.regs), (.sl (List.map eRInstr c20.code))]]⟩, ⟨0, 73, 3, List.map eRSignature [(RSignature.mk c20.params c20.lent c20.result)]⟩]) (l := [(RSignature.mk c20.params c20.lent c20.result)]) (enc := eRSignature) go0 ei39 (by decide) rfl rfl rfl rfl rfl rfl ?_
      obtain ⟨l21, gl21, h1⟩ := Sh.bind_some h1
      refine ao_apo (st' := [⟨0, 31, 2, [[(.sl (List.map eRDecl p0.decls)), (.sl (List.map eRProc p0.procs))]]⟩, ⟨0, 41, 2, [[.zc, .zc]]⟩, ⟨0, 41, 2, [[(.sl (List.map eRDecl p0.decls)), (.own 3 0 (List.length l10))]]⟩, ⟨1, 73, 3, List.map eRSignature l21⟩, ⟨0, 47, 5, [[(.sl (List.map eI c20.params)), (.sl (List.map eI c20.lent)), (i64 c20.result), (i64 c20.regs), (.sl (List.map eRInstr c20.code))]]⟩, ⟨0, 73, 3, List.map eRSignature [(RSignature.mk c20.params c20.lent c20.result)]⟩]) (l2 := [(RSignature.mk c20.params c20.lent c20.result)]) go0 ei39 rfl rfl rfl rfl (el_o rfl rfl) (fun _ => rfl) gl21 rfl ?_
      refine ao_q (v := (.ptr 2 0 0 1)) go0 rfl (aq_fap fi41_1 rfl rfl (show 0 + 1 ≤ 2 by decide) rfl) ?_
      refine ao_str (st' := [⟨0, 31, 2, [[(.sl (List.map eRDecl p0.decls)), (.sl (List.map eRProc p0.procs))]]⟩, ⟨0, 41, 2, [[.zc, .zc]]⟩, ⟨0, 41, 2, [[(.sl (List.map eRDecl p0.decls)), (.own 3 1 (List.length l21))]]⟩, ⟨1, 73, 3, List.map eRSignature l21⟩, ⟨0, 47, 5, [[(.sl (List.map eI c20.params)), (.sl (List.map eI c20.lent)), (i64 c20.result), (i64 c20.regs), (.sl (List.map eRInstr c20.code))]]⟩, ⟨0, 73, 3, List.map eRSignature [(RSignature.mk c20.params c20.lent c20.result)]⟩]) go0 ti39 rfl rfl rfl rfl rfl rfl (show 1 + 1 ≤ 2 by decide) rfl ?_
      refine AO.done (hK18 _ ?_)
      refine AW.regionO (by rfl) ?_
      refine ao_q (v := (i64 (Sh.w (t9 + 1)))) go0 rfl (aq_add rfl rfl) ?_
      refine ao_q (v := (i64 (Sh.w (t9 + 1)))) go0 rfl (aq_mv rfl) ?_
      exact AO.done (Exists.intro (Sh.w (t9 + 1), l21) (And.intro h1 (by refine Wk.trans (Wk.rg (L := [(1, (.ptr 0 0 0 0)), (2, (.ptr 1 0 0 0)), (4, (.ptr 2 0 0 0)), (16, (.sl (List.map eRProc p0.procs))), (17, (i64 (Sh.len p0.procs))), (18, (i64 (Sh.w (t9 + 1))))]) (st' := [⟨0, 31, 2, [[(.sl (List.map eRDecl p0.decls)), (.sl (List.map eRProc p0.procs))]]⟩, ⟨0, 41, 2, [[.zc, .zc]]⟩, ⟨0, 41, 2, [[(.sl (List.map eRDecl p0.decls)), (.own 3 0 (List.length l21))]]⟩, ⟨0, 73, 3, List.map eRSignature l21⟩, ⟨0, 47, 5, [[(.sl (List.map eI c20.params)), (.sl (List.map eI c20.lent)), (i64 c20.result), (i64 c20.regs), (.sl (List.map eRInstr c20.code))]]⟩, ⟨0, 73, 3, List.map eRSignature [(RSignature.mk c20.params c20.lent c20.result)]⟩]) (.raw rfl rfl (.raw rfl rfl (.raw rfl rfl (.pure (pure_map fun _ => rfl) (.raw rfl rfl (.pure (pure_map fun _ => rfl) .nil)))))) ⟨.rfl, .rfl, .rfl, .rfl, .rfl, .rfl, trivial⟩) ?_; refine Wk.trans (Wk.permk (L := [(1, (.ptr 0 0 0 0)), (2, (.ptr 1 0 0 0)), (4, (.ptr 2 0 0 0)), (16, (.sl (List.map eRProc p0.procs))), (17, (i64 (Sh.len p0.procs))), (18, (i64 (Sh.w (t9 + 1))))]) (st' := [⟨0, 31, 2, [[(.sl (List.map eRDecl p0.decls)), (.sl (List.map eRProc p0.procs))]]⟩, ⟨0, 41, 2, [[.zc, .zc]]⟩, ⟨0, 41, 2, [[(.sl (List.map eRDecl p0.decls)), (.own 3 0 (List.length l21))]]⟩, ⟨0, 73, 3, List.map eRSignature l21⟩]) (st1 := [⟨0, 31, 2, [[(.sl (List.map eRDecl p0.decls)), (.sl (List.map eRProc p0.procs))]]⟩, ⟨0, 41, 2, [[.zc, .zc]]⟩, ⟨0, 41, 2, [[(.sl (List.map eRDecl p0.decls)), (.own 3 0 (List.length l21))]]⟩, ⟨0, 73, 3, List.map eRSignature l21⟩]) [0, 1, 2, 3] rfl .nil (by decide) rfl rfl (.raw rfl rfl (.raw rfl rfl (.raw rfl rfl (.pure (pure_map fun _ => rfl) .nil)))) ⟨.rfl, .rfl, .rfl, .rfl, .rfl, .rfl, trivial⟩) ?_; exact Wk.to (L := [(1, (.ptr 0 0 0 0)), (2, (.ptr 1 0 0 0)), (4, (.ptr 2 0 0 0)), (16, (.sl (List.map eRProc p0.procs))), (17, (i64 (Sh.len p0.procs))), (18, (i64 (Sh.w (t9 + 1))))]) ⟨.rfl, .rfl, .rfl, .rfl, .rfl, .rfl, trivial⟩)))
    · replace h1 := Sh.ite_f b17 h1
      exact AW.exit (M12 l10 (Sh.some_eq h1).symm _ (Wk.to (L := [(1, (.ptr 0 0 0 0)), (2, (.ptr 1 0 0 0)), (4, (.ptr 2 0 0 0))]) ⟨.rfl, .rfl, .rfl, trivial⟩))

set_option maxRecDepth 100000 in
set_option maxHeartbeats 4000000 in
theorem impl_setsRegister_ok {p0 : Int} {r : Bool} (h0 : impl_setsRegister p0 = some r) : ACalls Try.prog 26 [(i64 p0)] [] (fun v st => v = (.bool r) ∧ st = []) := by
  unfold impl_setsRegister at h0
  refine ACalls.intro Try.func26 rfl (by show 1 ≤ 17; decide) ?_
  show AW _ 0 _ (aret _ 0 Try.f26 _) ⟨17, _, _⟩
  refine AW.weaken (Wk.to (L := [(0, (i64 p0))]) ⟨.rfl, trivial⟩) ?_
  refine AW.seq fun K1 hK1 => ?_
  refine AW.regionO (by rfl) ?_
  refine ao_q (v := (.bool false)) go0 rfl (aq_as rfl) ?_
  refine AO.done (hK1 _ ?_)
  refine AW.seq fun K2 hK2 => ?_
  obtain ⟨o4, h1, h0⟩ := Sh.bind_some h0
  have M4 : ∀ (t3 : Bool), o4 = t3 → ∀ s, Wk 0 s ⟨17, envL [(2, (.bool t3))], []⟩ → K2 s := by
    intro t3 hq s hw
    subst o4
    try dsimp only at h0
    refine hK2 _ (AW.weaken hw ?_)
    replace h0 := Sh.some_eq h0
    subst r
    exact AW.ret (Exists.intro _ (And.intro (Wk.to (L := [(2, (.bool t3))]) ⟨.rfl, trivial⟩) (And.intro rfl rfl)))
  refine AW.regionO (by rfl) ?_
  refine ao_q (v := (i64 p0)) go0 rfl (aq_mv rfl) ?_
  refine ao_q (v := (.bool (decide (0 ≤ p0)))) go0 rfl (aq_ge rfl rfl) ?_
  refine ao_q (v := (.bool (decide (0 ≤ p0)))) go0 rfl (aq_mv rfl) ?_
  rcases Sh.ite_some h1 with ⟨b5, h1⟩ | ⟨b5, h1⟩
  · skip
    refine ao_q (v := (i64 p0)) (go1 rfl rfl b5) rfl (aq_mv rfl) ?_
    refine ao_q (v := (.bool (decide (p0 ≤ 11)))) (go1 rfl rfl b5) rfl (aq_le rfl rfl) ?_
    refine ao_q (v := (.bool (decide (p0 ≤ 11)))) go0 rfl (aq_pkt rfl b5 rfl) ?_
    refine ao_q (v := (.bool (decide (p0 ≤ 11)))) go0 rfl (aq_mv rfl) ?_
    rcases Sh.ite_some h1 with ⟨b6, h1⟩ | ⟨b6, h1⟩
    · skip
      refine ao_skip rfl rfl b6 ?_
      refine ao_skip rfl rfl b6 ?_
      refine ao_q (v := (.bool true)) go0 rfl (aq_pkt rfl b6 rfl) ?_
      refine ao_q (v := (.bool true)) go0 rfl (aq_mv rfl) ?_
      refine ao_skip rfl rfl rfl ?_
      refine ao_skip rfl rfl rfl ?_
      refine ao_q (v := (.bool true)) go0 rfl (aq_pkt rfl rfl rfl) ?_
      refine ao_q (v := (.bool true)) go0 rfl (aq_as rfl) ?_
      exact AO.done (M4 true (Sh.some_eq h1).symm _ (Wk.to (L := [(2, (.bool true))]) ⟨.rfl, trivial⟩))
    · skip
      refine ao_q (v := (i64 p0)) (go1 rfl rfl b6) rfl (aq_mv rfl) ?_
      refine ao_q (v := (.bool (decide (p0 = 18)))) (go1 rfl rfl b6) rfl (aq_eq rfl rfl) ?_
      refine ao_q (v := (.bool (decide (p0 = 18)))) go0 rfl (aq_pkf rfl b6 rfl) ?_
      refine ao_q (v := (.bool (decide (p0 = 18)))) go0 rfl (aq_mv rfl) ?_
      rcases Sh.ite_some h1 with ⟨b7, h1⟩ | ⟨b7, h1⟩
      · skip
        refine ao_skip rfl rfl b7 ?_
        refine ao_skip rfl rfl b7 ?_
        refine ao_q (v := (.bool true)) go0 rfl (aq_pkt rfl b7 rfl) ?_
        refine ao_q (v := (.bool true)) go0 rfl (aq_as rfl) ?_
        exact AO.done (M4 true (Sh.some_eq h1).symm _ (Wk.to (L := [(2, (.bool true))]) ⟨.rfl, trivial⟩))
      · skip
        refine ao_q (v := (i64 p0)) (go1 rfl rfl b7) rfl (aq_mv rfl) ?_
        refine ao_q (v := (.bool (decide (p0 = 19)))) (go1 rfl rfl b7) rfl (aq_eq rfl rfl) ?_
        refine ao_q (v := (.bool (decide (p0 = 19)))) go0 rfl (aq_pkf rfl b7 rfl) ?_
        refine ao_q (v := (.bool (decide (p0 = 19)))) go0 rfl (aq_as rfl) ?_
        exact AO.done (M4 (decide (p0 = 19)) (Sh.some_eq h1).symm _ (Wk.to (L := [(2, (.bool (decide (p0 = 19))))]) ⟨.rfl, trivial⟩))
  · skip
    refine ao_skip rfl rfl b5 ?_
    refine ao_skip rfl rfl b5 ?_
    refine ao_q (v := (.bool false)) go0 rfl (aq_pkf rfl b5 rfl) ?_
    refine ao_q (v := (.bool false)) go0 rfl (aq_mv rfl) ?_
    refine ao_q (v := (i64 p0)) (go1 rfl rfl rfl) rfl (aq_mv rfl) ?_
    refine ao_q (v := (.bool (decide (p0 = 18)))) (go1 rfl rfl rfl) rfl (aq_eq rfl rfl) ?_
    refine ao_q (v := (.bool (decide (p0 = 18)))) go0 rfl (aq_pkf rfl rfl rfl) ?_
    refine ao_q (v := (.bool (decide (p0 = 18)))) go0 rfl (aq_mv rfl) ?_
    rcases Sh.ite_some h1 with ⟨b8, h1⟩ | ⟨b8, h1⟩
    · skip
      refine ao_skip rfl rfl b8 ?_
      refine ao_skip rfl rfl b8 ?_
      refine ao_q (v := (.bool true)) go0 rfl (aq_pkt rfl b8 rfl) ?_
      refine ao_q (v := (.bool true)) go0 rfl (aq_as rfl) ?_
      exact AO.done (M4 true (Sh.some_eq h1).symm _ (Wk.to (L := [(2, (.bool true))]) ⟨.rfl, trivial⟩))
    · skip
      refine ao_q (v := (i64 p0)) (go1 rfl rfl b8) rfl (aq_mv rfl) ?_
      refine ao_q (v := (.bool (decide (p0 = 19)))) (go1 rfl rfl b8) rfl (aq_eq rfl rfl) ?_
      refine ao_q (v := (.bool (decide (p0 = 19)))) go0 rfl (aq_pkf rfl b8 rfl) ?_
      refine ao_q (v := (.bool (decide (p0 = 19)))) go0 rfl (aq_as rfl) ?_
      exact AO.done (M4 (decide (p0 = 19)) (Sh.some_eq h1).symm _ (Wk.to (L := [(2, (.bool (decide (p0 = 19))))]) ⟨.rfl, trivial⟩))

set_option maxRecDepth 100000 in
set_option maxHeartbeats 4000000 in
theorem impl_signatures_instrValid_1_ok {s0_0 : Int} {s1_0 : (List Int)} {s1_1 : (List Int)} {s1_2 : Int} {s1_3 : Int} {s1_4 : (List RInstr)} {p0 : Int} {r : Bool} (h0 : impl_signatures_instrValid_1 s0_0 s1_0 s1_1 s1_2 s1_3 s1_4 p0 = some r) : ACalls Try.prog 27 [(i64 p0), (.ptr 0 0 0 0), (.ptr 1 0 0 0)] [⟨0, 3, 1, [[(i64 s0_0)]]⟩, ⟨0, 47, 5, [[(.sl (List.map eI s1_0)), (.sl (List.map eI s1_1)), (i64 s1_2), (i64 s1_3), (.sl (List.map eRInstr s1_4))]]⟩] (fun v st => v = (.bool r) ∧ st = [⟨0, 3, 1, [[(i64 s0_0)]]⟩, ⟨0, 47, 5, [[(.sl (List.map eI s1_0)), (.sl (List.map eI s1_1)), (i64 s1_2), (i64 s1_3), (.sl (List.map eRInstr s1_4))]]⟩]) := by
  unfold impl_signatures_instrValid_1 at h0
  refine ACalls.intro Try.func27 rfl (by show 3 ≤ 15; decide) ?_
  show AW _ 2 _ (aret _ 2 Try.f27 _) ⟨15, _, _⟩
  refine AW.weaken (Wk.to (L := [(0, (i64 p0)), (1, (.ptr 0 0 0 0)), (2, (.ptr 1 0 0 0))]) ⟨.rfl, .rfl, .rfl, trivial⟩) ?_
  refine AW.seq fun K1 hK1 => ?_
  refine AW.regionO (by rfl) ?_
  refine ao_q (v := (.bool false)) go0 rfl (aq_as rfl) ?_
  refine AO.done (hK1 _ ?_)
  refine AW.seq fun K2 hK2 => ?_
  obtain ⟨o4, h1, h0⟩ := Sh.bind_some h0
  have M4 : ∀ (t3 : Bool), o4 = t3 → ∀ s, Wk 2 s ⟨15, envL [(4, (.bool t3))], [⟨0, 3, 1, [[(i64 s0_0)]]⟩, ⟨0, 47, 5, [[(.sl (List.map eI s1_0)), (.sl (List.map eI s1_1)), (i64 s1_2), (i64 s1_3), (.sl (List.map eRInstr s1_4))]]⟩]⟩ → K2 s := by
    intro t3 hq s hw
    subst o4
    try dsimp only at h0
    refine hK2 _ (AW.weaken hw ?_)
    replace h0 := Sh.some_eq h0
    subst r
    exact AW.ret (Exists.intro _ (And.intro (Wk.to (L := [(4, (.bool t3))]) ⟨.rfl, trivial⟩) (And.intro rfl rfl)))
  refine AW.regionO (by rfl) ?_
  refine ao_q (v := (i64 p0)) go0 rfl (aq_mv rfl) ?_
  refine ao_q (v := (i64 s0_0)) go0 rfl (aq_ldp ti3 rfl rfl rfl rfl) ?_
  refine ao_q (v := (.bool (decide (s0_0 < p0)))) go0 rfl (aq_gt rfl rfl) ?_
  refine ao_q (v := (.bool (decide (s0_0 < p0)))) go0 rfl (aq_mv rfl) ?_
  rcases Sh.ite_some h1 with ⟨b5, h1⟩ | ⟨b5, h1⟩
  · skip
    refine ao_q (v := (i64 p0)) (go1 rfl rfl b5) rfl (aq_mv rfl) ?_
    refine ao_q (v := (.ptr 1 0 0 4)) (go1 rfl rfl b5) rfl (aq_fap fi47_4 rfl rfl (show 0 + 4 ≤ 5 by decide) rfl) ?_
    refine ao_q (v := (.sl (List.map eRInstr s1_4))) (go1 rfl rfl b5) rfl (aq_ldp ti45 rfl rfl rfl rfl) ?_
    refine ao_q (v := (i64 (Sh.len s1_4))) (go1 rfl rfl b5) rfl (aq_lens sl45 rfl) ?_
    refine ao_q (v := (.bool (decide (p0 < (Sh.len s1_4))))) (go1 rfl rfl b5) rfl (aq_lt rfl rfl) ?_
    refine ao_q (v := (.bool (decide (p0 < (Sh.len s1_4))))) go0 rfl (aq_pkt rfl b5 rfl) ?_
    refine ao_q (v := (.bool (decide (p0 < (Sh.len s1_4))))) go0 rfl (aq_as rfl) ?_
    exact AO.done (M4 (decide (p0 < (Sh.len s1_4))) (Sh.some_eq h1).symm _ (Wk.to (L := [(4, (.bool (decide (p0 < (Sh.len s1_4)))))]) ⟨.rfl, trivial⟩))
  · skip
    refine ao_skip rfl rfl b5 ?_
    refine ao_skip rfl rfl b5 ?_
    refine ao_skip rfl rfl b5 ?_
    refine ao_skip rfl rfl b5 ?_
    refine ao_skip rfl rfl b5 ?_
    refine ao_q (v := (.bool false)) go0 rfl (aq_pkf rfl b5 rfl) ?_
    refine ao_q (v := (.bool false)) go0 rfl (aq_as rfl) ?_
    exact AO.done (M4 false (Sh.some_eq h1).symm _ (Wk.to (L := [(4, (.bool false))]) ⟨.rfl, trivial⟩))

set_option maxRecDepth 100000 in
set_option maxHeartbeats 4000000 in
theorem impl_signatures_instrValid_2_ok {s1_0 : Int} {s2_0 : (List Int)} {s2_1 : (List Int)} {s2_2 : Int} {s2_3 : Int} {s2_4 : (List RInstr)} {p0 : Int} {r : Bool} (h0 : impl_signatures_instrValid_2 s1_0 s2_0 s2_1 s2_2 s2_3 s2_4 p0 = some r) : ACalls Try.prog 29 [(i64 p0), (.ptr 0 0 0 0)] [⟨0, 75, 1, [[(.fn 27 [(.ptr 1 0 0 0), (.ptr 2 0 0 0)])]]⟩, ⟨0, 3, 1, [[(i64 s1_0)]]⟩, ⟨0, 47, 5, [[(.sl (List.map eI s2_0)), (.sl (List.map eI s2_1)), (i64 s2_2), (i64 s2_3), (.sl (List.map eRInstr s2_4))]]⟩] (fun v st => v = (.bool r) ∧ st = [⟨0, 75, 1, [[(.fn 27 [(.ptr 1 0 0 0), (.ptr 2 0 0 0)])]]⟩, ⟨0, 3, 1, [[(i64 s1_0)]]⟩, ⟨0, 47, 5, [[(.sl (List.map eI s2_0)), (.sl (List.map eI s2_1)), (i64 s2_2), (i64 s2_3), (.sl (List.map eRInstr s2_4))]]⟩]) := by
  unfold impl_signatures_instrValid_2 at h0
  refine ACalls.intro Try.func29 rfl (by show 2 ≤ 8; decide) ?_
  show AW _ 3 _ (aret _ 3 Try.f29 _) ⟨8, _, _⟩
  refine AW.weaken (Wk.to (L := [(0, (i64 p0)), (1, (.ptr 0 0 0 0))]) ⟨.rfl, .rfl, trivial⟩) ?_
  refine AW.seq fun K1 hK1 => ?_
  refine AW.regionO (by rfl) ?_
  refine ao_q (v := (.bool false)) go0 rfl (aq_as rfl) ?_
  refine AO.done (hK1 _ ?_)
  refine AW.seq fun K2 hK2 => ?_
  refine AW.regionO (by rfl) ?_
  refine ao_q (v := (.fn 27 [(.ptr 1 0 0 0), (.ptr 2 0 0 0)])) go0 rfl (aq_ldp ti75 rfl rfl rfl rfl) ?_
  refine ao_q (v := (i64 p0)) go0 rfl (aq_mv rfl) ?_
  obtain ⟨q3, gq3, h0⟩ := Sh.bind_some h0
  refine ao_callst (rowsP := [⟨0, 3, 1, [[(i64 s1_0)]]⟩, ⟨0, 47, 5, [[(.sl (List.map eI s2_0)), (.sl (List.map eI s2_1)), (i64 s2_2), (i64 s2_3), (.sl (List.map eRInstr s2_4))]]⟩]) (rows0 := [⟨0, 3, 1, [[(i64 s1_0)]]⟩, ⟨0, 47, 5, [[(.sl (List.map eI s2_0)), (.sl (List.map eI s2_1)), (i64 s2_2), (i64 s2_3), (.sl (List.map eRInstr s2_4))]]⟩]) (rows1 := [⟨0, 3, 1, [[(i64 s1_0)]]⟩, ⟨0, 47, 5, [[(.sl (List.map eI s2_0)), (.sl (List.map eI s2_1)), (i64 s2_2), (i64 s2_3), (.sl (List.map eRInstr s2_4))]]⟩]) (rows2 := []) (rows1' := [⟨0, 3, 1, [[(i64 s1_0)]]⟩, ⟨0, 47, 5, [[(.sl (List.map eI s2_0)), (.sl (List.map eI s2_1)), (i64 s2_2), (i64 s2_3), (.sl (List.map eRInstr s2_4))]]⟩]) (rows2' := []) (st' := [⟨0, 75, 1, [[(.fn 27 [(.ptr 1 0 0 0), (.ptr 2 0 0 0)])]]⟩, ⟨0, 3, 1, [[(i64 s1_0)]]⟩, ⟨0, 47, 5, [[(.sl (List.map eI s2_0)), (.sl (List.map eI s2_1)), (i64 s2_2), (i64 s2_3), (.sl (List.map eRInstr s2_4))]]⟩]) (v' := (.bool q3)) [1, 2] go0 rfl hb27 (impl_signatures_instrValid_1_ok gq3) rfl (by decide) rfl rfl (.raw rfl rfl (.raw rfl rfl .nil)) rfl rfl (.raw rfl rfl (.raw rfl rfl .nil)) .nil rfl rfl ?_
  refine ao_q (v := (.bool (!q3))) go0 rfl (aq_not rfl) ?_
  refine ao_q (v := (.bool (!q3))) go0 rfl (aq_as rfl) ?_
  refine AO.done (hK2 _ ?_)
  replace h0 := Sh.some_eq h0
  subst r
  exact AW.ret (Exists.intro _ (And.intro (Wk.to (L := [(3, (.bool (!q3)))]) ⟨.rfl, trivial⟩) (And.intro rfl rfl)))

set_option maxRecDepth 100000 in
set_option maxHeartbeats 4000000 in
theorem slices_IndexFunc_int_int_ok {N : Nat} {s1_0 : Int} {s2_0 : (List Int)} {s2_1 : (List Int)} {s2_2 : Int} {s2_3 : Int} {s2_4 : (List RInstr)} {p0 : (List Int)} {r : Int} (h0 : slices_IndexFunc_int_int N s1_0 s2_0 s2_1 s2_2 s2_3 s2_4 p0 = some r) : ACalls Try.prog 48 [(.sl (List.map eI p0)), (.fn 29 [(.ptr 0 0 0 0)])] [⟨0, 75, 1, [[(.fn 27 [(.ptr 1 0 0 0), (.ptr 2 0 0 0)])]]⟩, ⟨0, 3, 1, [[(i64 s1_0)]]⟩, ⟨0, 47, 5, [[(.sl (List.map eI s2_0)), (.sl (List.map eI s2_1)), (i64 s2_2), (i64 s2_3), (.sl (List.map eRInstr s2_4))]]⟩] (fun v st => v = (i64 r) ∧ st = [⟨0, 75, 1, [[(.fn 27 [(.ptr 1 0 0 0), (.ptr 2 0 0 0)])]]⟩, ⟨0, 3, 1, [[(i64 s1_0)]]⟩, ⟨0, 47, 5, [[(.sl (List.map eI s2_0)), (.sl (List.map eI s2_1)), (i64 s2_2), (i64 s2_3), (.sl (List.map eRInstr s2_4))]]⟩]) := by
  unfold slices_IndexFunc_int_int at h0
  refine ACalls.intro Try.func48 rfl (by show 2 ≤ 19; decide) ?_
  show AW _ 3 _ (aret _ 3 Try.f48 _) ⟨19, _, _⟩
  refine AW.weaken (Wk.to (L := [(0, (.sl (List.map eI p0))), (1, (.fn 29 [(.ptr 0 0 0 0)]))]) ⟨.rfl, .rfl, trivial⟩) ?_
  refine AW.seq fun K1 hK1 => ?_
  refine AW.regionO (by rfl) ?_
  refine ao_q (v := (i64 0)) go0 rfl (aq_as rfl) ?_
  refine AO.done (hK1 _ ?_)
  refine AW.seq fun K2 hK2 => ?_
  refine AW.seq fun K3 hK3 => ?_
  refine AW.regionO (by rfl) ?_
  refine ao_q (v := (.sl (List.map eI p0))) go0 rfl (aq_mv rfl) ?_
  refine ao_q (v := (i64 (Sh.len p0))) go0 rfl (aq_lens sl44 rfl) ?_
  refine ao_q (v := (i64 0)) go0 rfl (aq_mv rfl) ?_
  refine AO.done (hK3 _ ?_)
  obtain ⟨o5, h1, h0⟩ := Sh.cont_some h0
  have M5 : ∀ (_ : Unit), o5 = Sum.inr () → ∀ s, Wk 3 s ⟨19, envL [], [⟨0, 75, 1, [[(.fn 27 [(.ptr 1 0 0 0), (.ptr 2 0 0 0)])]]⟩, ⟨0, 3, 1, [[(i64 s1_0)]]⟩, ⟨0, 47, 5, [[(.sl (List.map eI s2_0)), (.sl (List.map eI s2_1)), (i64 s2_2), (i64 s2_3), (.sl (List.map eRInstr s2_4))]]⟩]⟩ → K2 s := by
    intro _ hq s hw
    subst o5
    try dsimp only at h0
    refine hK2 _ (AW.weaken hw ?_)
    refine AW.seq fun K6 hK6 => ?_
    refine AW.regionO (by rfl) ?_
    refine ao_q (v := (i64 (-1))) go0 rfl (aq_as rfl) ?_
    refine AO.done (hK6 _ ?_)
    replace h0 := Sh.some_eq h0
    subst r
    exact AW.ret (Exists.intro _ (And.intro (Wk.to (L := [(4, (i64 (-1)))]) ⟨.rfl, trivial⟩) (And.intro rfl rfl)))
  refine AW.block (AW.loopF (σ := Int) (fun n v => slices_IndexFunc_int_int_L1 s1_0 s2_0 s2_1 s2_2 s2_3 s2_4 p0 n v = some o5) (fun t4 => ⟨19, envL [(0, (.sl (List.map eI p0))), (1, (.fn 29 [(.ptr 0 0 0 0)])), (7, (i64 (Sh.len p0))), (8, (i64 t4))], [⟨0, 75, 1, [[(.fn 27 [(.ptr 1 0 0 0), (.ptr 2 0 0 0)])]]⟩, ⟨0, 3, 1, [[(i64 s1_0)]]⟩, ⟨0, 47, 5, [[(.sl (List.map eI s2_0)), (.sl (List.map eI s2_1)), (i64 s2_2), (i64 s2_3), (.sl (List.map eRInstr s2_4))]]⟩]⟩) N 0 h1 (Wk.to (L := [(0, (.sl (List.map eI p0))), (1, (.fn 29 [(.ptr 0 0 0 0)])), (7, (i64 (Sh.len p0))), (8, (i64 0))]) ⟨.rfl, .rfl, .rfl, .rfl, trivial⟩) (fun _ hv => by rw [slices_IndexFunc_int_int_L1] at hv; cases hv) ?_)
  rintro n t4 h1
  try dsimp only at h1 ⊢
  rw [slices_IndexFunc_int_int_L1] at h1
  refine AW.seq fun K7 hK7 => ?_
  refine AW.regionO (by rfl) ?_
  refine ao_q (v := (.bool (decide (t4 < (Sh.len p0))))) go0 rfl (aq_lt rfl rfl) ?_
  refine AO.done (hK7 _ ?_)
  refine AW.seq fun K8 hK8 => ?_
  refine AW.cond' (b := decide (t4 < (Sh.len p0))) rfl (fun b9 => ?_) (fun b9 => ?_)
  · replace h1 := Sh.ite_t b9 h1
    refine AW.skip (hK8 _ ?_)
    refine AW.seq fun K10 hK10 => ?_
    refine AW.block ?_
    refine AW.seq fun K11 hK11 => ?_
    refine AW.regionO (by rfl) ?_
    refine ao_q (v := (i64 t4)) go0 rfl (aq_mv rfl) ?_
    refine ao_q (v := (i64 t4)) go0 rfl (aq_as rfl) ?_
    refine AO.done (hK11 _ ?_)
    refine AW.seq fun K12 hK12 => ?_
    refine AW.regionO (by rfl) ?_
    refine ao_q (v := (.fn 29 [(.ptr 0 0 0 0)])) go0 rfl (aq_mv rfl) ?_
    refine ao_q (v := (.sl (List.map eI p0))) go0 rfl (aq_mv rfl) ?_
    refine ao_q (v := (i64 t4)) go0 rfl (aq_mv rfl) ?_
    obtain ⟨c13, gc13, h1⟩ := Sh.bind_some h1
    refine ao_q (v := (.iptr (eI c13) 0)) go0 rfl (aq_ixs ei44 rfl rfl gc13 rfl) ?_
    refine ao_q (v := (i64 c13)) go0 rfl (aq_ldi ti3 rfl rfl) ?_
    obtain ⟨q14, gq14, h1⟩ := Sh.bind_some h1
    refine ao_callst (rowsP := [⟨0, 75, 1, [[(.fn 27 [(.ptr 1 0 0 0), (.ptr 2 0 0 0)])]]⟩, ⟨0, 3, 1, [[(i64 s1_0)]]⟩, ⟨0, 47, 5, [[(.sl (List.map eI s2_0)), (.sl (List.map eI s2_1)), (i64 s2_2), (i64 s2_3), (.sl (List.map eRInstr s2_4))]]⟩]) (rows0 := [⟨0, 75, 1, [[(.fn 27 [(.ptr 1 0 0 0), (.ptr 2 0 0 0)])]]⟩, ⟨0, 3, 1, [[(i64 s1_0)]]⟩, ⟨0, 47, 5, [[(.sl (List.map eI s2_0)), (.sl (List.map eI s2_1)), (i64 s2_2), (i64 s2_3), (.sl (List.map eRInstr s2_4))]]⟩]) (rows1 := [⟨0, 75, 1, [[(.fn 27 [(.ptr 1 0 0 0), (.ptr 2 0 0 0)])]]⟩, ⟨0, 3, 1, [[(i64 s1_0)]]⟩, ⟨0, 47, 5, [[(.sl (List.map eI s2_0)), (.sl (List.map eI s2_1)), (i64 s2_2), (i64 s2_3), (.sl (List.map eRInstr s2_4))]]⟩]) (rows2 := []) (rows1' := [⟨0, 75, 1, [[(.fn 27 [(.ptr 1 0 0 0), (.ptr 2 0 0 0)])]]⟩, ⟨0, 3, 1, [[(i64 s1_0)]]⟩, ⟨0, 47, 5, [[(.sl (List.map eI s2_0)), (.sl (List.map eI s2_1)), (i64 s2_2), (i64 s2_3), (.sl (List.map eRInstr s2_4))]]⟩]) (rows2' := []) (st' := [⟨0, 75, 1, [[(.fn 27 [(.ptr 1 0 0 0), (.ptr 2 0 0 0)])]]⟩, ⟨0, 3, 1, [[(i64 s1_0)]]⟩, ⟨0, 47, 5, [[(.sl (List.map eI s2_0)), (.sl (List.map eI s2_1)), (i64 s2_2), (i64 s2_3), (.sl (List.map eRInstr s2_4))]]⟩]) (v' := (.bool q14)) [0, 1, 2] go0 rfl hb29 (impl_signatures_instrValid_2_ok gq14) rfl (by decide) rfl rfl (.raw rfl rfl (.raw rfl rfl (.raw rfl rfl .nil))) rfl rfl (.raw rfl rfl (.raw rfl rfl (.raw rfl rfl .nil))) .nil rfl rfl ?_
    refine AO.done (hK12 _ ?_)
    refine AW.cond' (b := q14) rfl (fun b15 => ?_) (fun b15 => ?_)
    · replace h1 := Sh.ite_t b15 h1
      refine AW.seq fun K16 hK16 => ?_
      refine AW.regionO (by rfl) ?_
      refine ao_q (v := (i64 t4)) go0 rfl (aq_mv rfl) ?_
      refine ao_q (v := (i64 t4)) go0 rfl (aq_as rfl) ?_
      refine AO.done (hK16 _ ?_)
      replace h1 := Sh.some_eq h1
      subst o5
      try dsimp only [id] at h0
      replace h0 := Sh.some_eq h0
      subst r
      exact AW.ret (Exists.intro _ (And.intro (Wk.to (L := [(4, (i64 t4))]) ⟨.rfl, trivial⟩) (And.intro rfl rfl)))
    · replace h1 := Sh.ite_f b15 h1
      refine AW.skip (hK10 _ ?_)
      refine AW.regionO (by rfl) ?_
      refine ao_q (v := (i64 (Sh.w (t4 + 1)))) go0 rfl (aq_add rfl rfl) ?_
      refine ao_q (v := (i64 (Sh.w (t4 + 1)))) go0 rfl (aq_mv rfl) ?_
      exact AO.done (Exists.intro (Sh.w (t4 + 1)) (And.intro h1 (Wk.to (L := [(0, (.sl (List.map eI p0))), (1, (.fn 29 [(.ptr 0 0 0 0)])), (7, (i64 (Sh.len p0))), (8, (i64 (Sh.w (t4 + 1))))]) ⟨.rfl, .rfl, .rfl, .rfl, trivial⟩)))
  · replace h1 := Sh.ite_f b9 h1
    exact AW.exit (M5 () (Sh.some_eq h1).symm _ (Wk.to (L := []) trivial))

set_option maxRecDepth 100000 in
set_option maxHeartbeats 4000000 in
theorem slices_ContainsFunc_int_int_ok {N : Nat} {s1_0 : Int} {s2_0 : (List Int)} {s2_1 : (List Int)} {s2_2 : Int} {s2_3 : Int} {s2_4 : (List RInstr)} {p0 : (List Int)} {r : Bool} (h0 : slices_ContainsFunc_int_int N s1_0 s2_0 s2_1 s2_2 s2_3 s2_4 p0 = some r) : ACalls Try.prog 28 [(.sl (List.map eI p0)), (.fn 29 [(.ptr 0 0 0 0)])] [⟨0, 75, 1, [[(.fn 27 [(.ptr 1 0 0 0), (.ptr 2 0 0 0)])]]⟩, ⟨0, 3, 1, [[(i64 s1_0)]]⟩, ⟨0, 47, 5, [[(.sl (List.map eI s2_0)), (.sl (List.map eI s2_1)), (i64 s2_2), (i64 s2_3), (.sl (List.map eRInstr s2_4))]]⟩] (fun v st => v = (.bool r) ∧ st = [⟨0, 75, 1, [[(.fn 27 [(.ptr 1 0 0 0), (.ptr 2 0 0 0)])]]⟩, ⟨0, 3, 1, [[(i64 s1_0)]]⟩, ⟨0, 47, 5, [[(.sl (List.map eI s2_0)), (.sl (List.map eI s2_1)), (i64 s2_2), (i64 s2_3), (.sl (List.map eRInstr s2_4))]]⟩]) := by
  unfold slices_ContainsFunc_int_int at h0
  refine ACalls.intro Try.func28 rfl (by show 2 ≤ 9; decide) ?_
  show AW _ 3 _ (aret _ 3 Try.f28 _) ⟨9, _, _⟩
  refine AW.weaken (Wk.to (L := [(0, (.sl (List.map eI p0))), (1, (.fn 29 [(.ptr 0 0 0 0)]))]) ⟨.rfl, .rfl, trivial⟩) ?_
  refine AW.seq fun K1 hK1 => ?_
  refine AW.regionO (by rfl) ?_
  refine ao_q (v := (.bool false)) go0 rfl (aq_as rfl) ?_
  refine AO.done (hK1 _ ?_)
  refine AW.seq fun K2 hK2 => ?_
  refine AW.regionO (by rfl) ?_
  refine ao_q (v := (.sl (List.map eI p0))) go0 rfl (aq_mv rfl) ?_
  refine ao_q (v := (.fn 29 [(.ptr 0 0 0 0)])) go0 rfl (aq_mv rfl) ?_
  obtain ⟨q3, gq3, h0⟩ := Sh.bind_some h0
  refine ao_calls (rowsP := [⟨0, 75, 1, [[(.fn 27 [(.ptr 1 0 0 0), (.ptr 2 0 0 0)])]]⟩, ⟨0, 3, 1, [[(i64 s1_0)]]⟩, ⟨0, 47, 5, [[(.sl (List.map eI s2_0)), (.sl (List.map eI s2_1)), (i64 s2_2), (i64 s2_3), (.sl (List.map eRInstr s2_4))]]⟩]) (rows0 := [⟨0, 75, 1, [[(.fn 27 [(.ptr 1 0 0 0), (.ptr 2 0 0 0)])]]⟩, ⟨0, 3, 1, [[(i64 s1_0)]]⟩, ⟨0, 47, 5, [[(.sl (List.map eI s2_0)), (.sl (List.map eI s2_1)), (i64 s2_2), (i64 s2_3), (.sl (List.map eRInstr s2_4))]]⟩]) (rows1 := [⟨0, 75, 1, [[(.fn 27 [(.ptr 1 0 0 0), (.ptr 2 0 0 0)])]]⟩, ⟨0, 3, 1, [[(i64 s1_0)]]⟩, ⟨0, 47, 5, [[(.sl (List.map eI s2_0)), (.sl (List.map eI s2_1)), (i64 s2_2), (i64 s2_3), (.sl (List.map eRInstr s2_4))]]⟩]) (rows2 := []) (rows1' := [⟨0, 75, 1, [[(.fn 27 [(.ptr 1 0 0 0), (.ptr 2 0 0 0)])]]⟩, ⟨0, 3, 1, [[(i64 s1_0)]]⟩, ⟨0, 47, 5, [[(.sl (List.map eI s2_0)), (.sl (List.map eI s2_1)), (i64 s2_2), (i64 s2_3), (.sl (List.map eRInstr s2_4))]]⟩]) (rows2' := []) (st' := [⟨0, 75, 1, [[(.fn 27 [(.ptr 1 0 0 0), (.ptr 2 0 0 0)])]]⟩, ⟨0, 3, 1, [[(i64 s1_0)]]⟩, ⟨0, 47, 5, [[(.sl (List.map eI s2_0)), (.sl (List.map eI s2_1)), (i64 s2_2), (i64 s2_3), (.sl (List.map eRInstr s2_4))]]⟩]) (v' := (i64 q3)) [0, 1, 2] go0 hb48 (slices_IndexFunc_int_int_ok gq3) rfl (by decide) rfl rfl (.raw rfl rfl (.raw rfl rfl (.raw rfl rfl .nil))) rfl rfl (.raw rfl rfl (.raw rfl rfl (.raw rfl rfl .nil))) .nil rfl rfl ?_
  refine ao_q (v := (.bool (decide (0 ≤ q3)))) go0 rfl (aq_ge rfl rfl) ?_
  refine ao_q (v := (.bool (decide (0 ≤ q3)))) go0 rfl (aq_as rfl) ?_
  refine AO.done (hK2 _ ?_)
  replace h0 := Sh.some_eq h0
  subst r
  exact AW.ret (Exists.intro _ (And.intro (Wk.to (L := [(4, (.bool (decide (0 ≤ q3))))]) ⟨.rfl, trivial⟩) (And.intro rfl rfl)))

set_option maxRecDepth 100000 in
set_option maxHeartbeats 4000000 in
theorem impl_conCount_ok {N : Nat} {p0 : (List RDecl)} {r : Int} (h0 : impl_conCount N p0 = some r) : ACalls Try.prog 49 [(.sl (List.map eRDecl p0))] [] (fun v st => v = (i64 r) ∧ st = []) := by
  unfold impl_conCount at h0
  refine ACalls.intro Try.func49 rfl (by show 1 ≤ 19; decide) ?_
  show AW _ 0 _ (aret _ 0 Try.f49 _) ⟨19, _, _⟩
  refine AW.weaken (Wk.to (L := [(0, (.sl (List.map eRDecl p0)))]) ⟨.rfl, trivial⟩) ?_
  refine AW.seq fun K1 hK1 => ?_
  refine AW.regionO (by rfl) ?_
  refine ao_q (v := (i64 0)) go0 rfl (aq_as rfl) ?_
  refine AO.done (hK1 _ ?_)
  refine AW.seq fun K2 hK2 => ?_
  refine AW.regionO (by rfl) ?_
  refine ao_q (v := (i64 0)) go0 rfl (aq_as rfl) ?_
  refine AO.done (hK2 _ ?_)
  refine AW.seq fun K3 hK3 => ?_
  refine AW.seq fun K4 hK4 => ?_
  refine AW.regionO (by rfl) ?_
  refine ao_q (v := (.sl (List.map eRDecl p0))) go0 rfl (aq_mv rfl) ?_
  refine ao_q (v := (i64 (Sh.len p0))) go0 rfl (aq_lens sl28 rfl) ?_
  refine ao_q (v := (i64 0)) go0 rfl (aq_mv rfl) ?_
  refine AO.done (hK4 _ ?_)
  obtain ⟨o8, h1, h0⟩ := Sh.bind_some h0
  have M8 : ∀ (n7 : Int), o8 = n7 → ∀ s, Wk 0 s ⟨19, envL [(3, (i64 n7))], []⟩ → K3 s := by
    intro n7 hq s hw
    subst o8
    try dsimp only at h0
    refine hK3 _ (AW.weaken hw ?_)
    refine AW.seq fun K9 hK9 => ?_
    refine AW.regionO (by rfl) ?_
    refine ao_q (v := (i64 n7)) go0 rfl (aq_mv rfl) ?_
    refine ao_q (v := (i64 n7)) go0 rfl (aq_as rfl) ?_
    refine AO.done (hK9 _ ?_)
    replace h0 := Sh.some_eq h0
    subst r
    exact AW.ret (Exists.intro _ (And.intro (Wk.to (L := [(2, (i64 n7))]) ⟨.rfl, trivial⟩) (And.intro rfl rfl)))
  refine AW.block (AW.loopF (σ := Int × Int) (fun n v => impl_conCount_L1 p0 n v.1 v.2 = some o8) (fun (n5, t6) => ⟨19, envL [(3, (i64 n5)), (6, (.sl (List.map eRDecl p0))), (7, (i64 (Sh.len p0))), (8, (i64 t6))], []⟩) N (0, 0) h1 (Wk.to (L := [(3, (i64 0)), (6, (.sl (List.map eRDecl p0))), (7, (i64 (Sh.len p0))), (8, (i64 0))]) ⟨.rfl, .rfl, .rfl, .rfl, trivial⟩) (fun _ hv => by rw [impl_conCount_L1] at hv; cases hv) ?_)
  rintro n ⟨n5, t6⟩ h1
  try dsimp only at h1 ⊢
  rw [impl_conCount_L1] at h1
  refine AW.seq fun K10 hK10 => ?_
  refine AW.regionO (by rfl) ?_
  refine ao_q (v := (.bool (decide (t6 < (Sh.len p0))))) go0 rfl (aq_lt rfl rfl) ?_
  refine AO.done (hK10 _ ?_)
  refine AW.seq fun K11 hK11 => ?_
  refine AW.cond' (b := decide (t6 < (Sh.len p0))) rfl (fun b12 => ?_) (fun b12 => ?_)
  · replace h1 := Sh.ite_t b12 h1
    refine AW.skip (hK11 _ ?_)
    refine AW.seq fun K13 hK13 => ?_
    refine AW.block ?_
    refine AW.seq fun K14 hK14 => ?_
    refine AW.regionO (by rfl) ?_
    obtain ⟨c15, gc15, h1⟩ := Sh.bind_some h1
    refine ao_q (v := (.iptr (eRDecl c15) 0)) go0 rfl (aq_ixs ei28 rfl rfl gc15 rfl) ?_
    refine ao_q (v := (.agg [(i64 c15.from_), (i64 c15.to), (.sl (List.map eRCon c15.cons))])) go0 rfl (aq_ldia ti69 rfl (show 0 + 3 ≤ 3 by decide) rfl) ?_
    refine ao_alloc (m := 0) (st' := [⟨0, 69, 3, [[(i64 0), (i64 0), .zc]]⟩]) go0 zi69 rfl rfl ?_
    refine ao_str (st' := [⟨0, 69, 3, [[(i64 c15.from_), (i64 c15.to), (.sl (List.map eRCon c15.cons))]]⟩]) go0 ti69 rfl rfl rfl rfl rfl rfl (show 0 + 3 ≤ 3 by decide) rfl ?_
    refine AO.done (hK14 _ ?_)
    refine AW.regionO (by rfl) ?_
    refine ao_q (v := (i64 n5)) go0 rfl (aq_mv rfl) ?_
    refine ao_q (v := (.ptr 0 0 0 2)) go0 rfl (aq_fap fi69_2 rfl rfl (show 0 + 2 ≤ 3 by decide) rfl) ?_
    refine ao_q (v := (.sl (List.map eRCon c15.cons))) go0 rfl (aq_ldp ti67 rfl rfl rfl rfl) ?_
    refine ao_q (v := (i64 (Sh.len c15.cons))) go0 rfl (aq_lens sl67 rfl) ?_
    refine ao_q (v := (i64 (Sh.w (n5 + (Sh.len c15.cons))))) go0 rfl (aq_add rfl rfl) ?_
    refine ao_q (v := (i64 (Sh.w (n5 + (Sh.len c15.cons))))) go0 rfl (aq_as rfl) ?_
    refine AO.done (hK13 _ ?_)
    refine AW.regionO (by rfl) ?_
    refine ao_q (v := (i64 (Sh.w (t6 + 1)))) go0 rfl (aq_add rfl rfl) ?_
    refine ao_q (v := (i64 (Sh.w (t6 + 1)))) go0 rfl (aq_mv rfl) ?_
    exact AO.done (Exists.intro (Sh.w (n5 + (Sh.len c15.cons)), Sh.w (t6 + 1)) (And.intro h1 (by refine Wk.trans (Wk.permk (L := [(3, (i64 (Sh.w (n5 + (Sh.len c15.cons))))), (6, (.sl (List.map eRDecl p0))), (7, (i64 (Sh.len p0))), (8, (i64 (Sh.w (t6 + 1))))]) (st' := []) (st1 := []) [] rfl .nil (by decide) rfl rfl .nil ⟨.rfl, .rfl, .rfl, .rfl, trivial⟩) ?_; exact Wk.to (L := [(3, (i64 (Sh.w (n5 + (Sh.len c15.cons))))), (6, (.sl (List.map eRDecl p0))), (7, (i64 (Sh.len p0))), (8, (i64 (Sh.w (t6 + 1))))]) ⟨.rfl, .rfl, .rfl, .rfl, trivial⟩)))
  · replace h1 := Sh.ite_f b12 h1
    exact AW.exit (M8 n5 (Sh.some_eq h1).symm _ (Wk.to (L := [(3, (i64 n5))]) ⟨.rfl, trivial⟩))

set_option maxRecDepth 100000 in
set_option maxHeartbeats 4000000 in
theorem impl_consOf_ok {N : Nat} {p0 : (List RDecl)} {p1 : Int} {r : (List Int)} (h0 : impl_consOf N p0 p1 = some r) : ACalls Try.prog 50 [(.sl (List.map eRDecl p0)), (i64 p1)] [] (fun v st => v = (.own 0 0 (List.length r)) ∧ st = [⟨0, 3, 1, List.map eI r⟩]) := by
  unfold impl_consOf at h0
  refine ACalls.intro Try.func50 rfl (by show 2 ≤ 39; decide) ?_
  show AW _ 0 _ (aret _ 0 Try.f50 _) ⟨39, _, _⟩
  refine AW.weaken (Wk.to (L := [(0, (.sl (List.map eRDecl p0))), (1, (i64 p1))]) ⟨.rfl, .rfl, trivial⟩) ?_
  refine AW.seq fun K1 hK1 => ?_
  refine AW.regionO (by rfl) ?_
  refine ao_q (v := .zc) go0 rfl (aq_as rfl) ?_
  refine AO.done (hK1 _ ?_)
  refine AW.seq fun K2 hK2 => ?_
  refine AW.seq fun K3 hK3 => ?_
  obtain ⟨o5, h1, h0⟩ := Sh.bind_some h0
  have M5 : ∀ (t4 : Bool), o5 = t4 → ∀ s, Wk 0 s ⟨39, envL [(0, (.sl (List.map eRDecl p0))), (1, (i64 p1)), (15, (.bool t4))], []⟩ → K3 s := by
    intro t4 hq s hw
    subst o5
    try dsimp only at h0
    refine hK3 _ (AW.weaken hw ?_)
    refine AW.cond' (b := t4) rfl (fun b6 => ?_) (fun b6 => ?_)
    · replace h0 := Sh.ite_t b6 h0
      refine AW.seq fun K7 hK7 => ?_
      refine AW.regionO (by rfl) ?_
      refine ao_q (v := .zc) go0 rfl (aq_as rfl) ?_
      refine AO.done (hK7 _ ?_)
      replace h0 := Sh.some_eq h0
      subst r
      exact AW.ret (Exists.intro _ (And.intro (((Wk.adopt (t := 4) rfl 3 (size := 1) (by decide)).trans (Wk.to (L := [(4, (.own 0 0 (List.length ([] : List Int))))]) ⟨.rfl, trivial⟩)).trans (Wk.to (L := [(4, (.own 0 0 (List.length ([] : List Int))))]) ⟨.rfl, trivial⟩)) (And.intro rfl rfl)))
    · replace h0 := Sh.ite_f b6 h0
      refine AW.skip (hK2 _ ?_)
      refine AW.seq fun K8 hK8 => ?_
      refine AW.regionO (by rfl) ?_
      refine ao_q (v := (.sl (List.map eRDecl p0))) go0 rfl (aq_mv rfl) ?_
      refine ao_q (v := (i64 p1)) go0 rfl (aq_mv rfl) ?_
      refine ao_q (v := (i64 (Sh.w (p1 - 1)))) go0 rfl (aq_sub rfl rfl) ?_
      obtain ⟨l9, gl9, h0⟩ := Sh.bind_some h0
      refine ao_sls (i := 0) (j := Sh.w (p1 - 1)) go0 ei28 rfl rfl rfl (fun _ => rfl) gl9 ?_
      obtain ⟨q10, gq10, h0⟩ := Sh.bind_some h0
      refine ao_call (v' := (i64 q10)) (st' := []) go0 hb49 (impl_conCount_ok gq10) rfl rfl trivial rfl rfl ?_
      refine ao_q (v := (i64 q10)) go0 rfl (aq_as rfl) ?_
      refine AO.done (hK8 _ ?_)
      refine AW.seq fun K11 hK11 => ?_
      refine AW.regionO (by rfl) ?_
      refine ao_q (v := .zc) go0 rfl (aq_as rfl) ?_
      refine AO.done (hK11 _ ?_)
      refine AW.seq fun K12 hK12 => ?_
      refine AW.seq fun K13 hK13 => ?_
      refine AW.regionO (by rfl) ?_
      refine ao_q (v := (.sl (List.map eRDecl p0))) go0 rfl (aq_mv rfl) ?_
      refine ao_q (v := (i64 p1)) go0 rfl (aq_mv rfl) ?_
      refine ao_q (v := (i64 (Sh.w (p1 - 1)))) go0 rfl (aq_sub rfl rfl) ?_
      obtain ⟨c14, gc14, h0⟩ := Sh.bind_some h0
      refine ao_q (v := (.iptr (eRDecl c14) 0)) go0 rfl (aq_ixs ei28 rfl rfl gc14 rfl) ?_
      refine ao_q (v := (.iptr (eRDecl c14) 2)) go0 rfl (aq_fai fi69_2 rfl rfl) ?_
      refine ao_q (v := (.sl (List.map eRCon c14.cons))) go0 rfl (aq_ldi ti67 rfl rfl) ?_
      refine ao_q (v := (i64 (Sh.len c14.cons))) go0 rfl (aq_lens sl67 rfl) ?_
      refine ao_q (v := (i64 0)) go0 rfl (aq_mv rfl) ?_
      refine AO.done (hK13 _ ?_)
      obtain ⟨o18, h1, h0⟩ := Sh.bind_some h0
      have M18 : ∀ (l17 : (List Int)), o18 = l17 → ∀ s, Wk 0 s ⟨39, envL [(6, (.own 0 0 (List.length l17)))], [⟨0, 3, 1, List.map eI l17⟩]⟩ → K12 s := by
        intro l17 hq s hw
        subst o18
        try dsimp only at h0
        refine hK12 _ (AW.weaken hw ?_)
        refine AW.seq fun K19 hK19 => ?_
        refine AW.regionO (by rfl) ?_
        refine ao_q (v := (.own 0 0 (List.length l17))) go0 rfl (aq_mv rfl) ?_
        refine ao_q (v := (.own 0 0 (List.length l17))) go0 rfl (aq_as rfl) ?_
        refine AO.done (hK19 _ ?_)
        replace h0 := Sh.some_eq h0
        subst r
        exact AW.ret (Exists.intro _ (And.intro (Wk.to (L := [(4, (.own 0 0 (List.length l17)))]) ⟨.rfl, trivial⟩) (And.intro rfl rfl)))
      refine AW.block (AW.loopF (σ := Int × (List Int)) (fun n v => impl_consOf_L1 c14 q10 n v.1 v.2 = some o18) (fun (t15, l16) => ⟨39, envL [(5, (i64 q10)), (6, (.own 0 0 (List.length l16))), (27, (i64 (Sh.len c14.cons))), (28, (i64 t15))], [⟨0, 3, 1, List.map eI l16⟩]⟩) N (0, []) h1 (by refine Wk.trans ((Wk.adopt (t := 6) rfl 3 (size := 1) (by decide)).trans (Wk.to (L := [(5, (i64 q10)), (6, (.own 0 0 (List.length ([] : List Int)))), (27, (i64 (Sh.len c14.cons))), (28, (i64 0))]) ⟨.rfl, .rfl, .rfl, .rfl, trivial⟩)) ?_; exact Wk.to (L := [(5, (i64 q10)), (6, (.own 0 0 (List.length ([] : List Int)))), (27, (i64 (Sh.len c14.cons))), (28, (i64 0))]) ⟨.rfl, .rfl, .rfl, .rfl, trivial⟩) (fun _ hv => by rw [impl_consOf_L1] at hv; cases hv) ?_)
      rintro n ⟨t15, l16⟩ h1
      try dsimp only at h1 ⊢
      rw [impl_consOf_L1] at h1
      refine AW.seq fun K20 hK20 => ?_
      refine AW.regionO (by rfl) ?_
      refine ao_q (v := (.bool (decide (t15 < (Sh.len c14.cons))))) go0 rfl (aq_lt rfl rfl) ?_
      refine AO.done (hK20 _ ?_)
      refine AW.seq fun K21 hK21 => ?_
      refine AW.cond' (b := decide (t15 < (Sh.len c14.cons))) rfl (fun b22 => ?_) (fun b22 => ?_)
      · replace h1 := Sh.ite_t b22 h1
        refine AW.skip (hK21 _ ?_)
        refine AW.seq fun K23 hK23 => ?_
        refine AW.block ?_
        refine AW.seq fun K24 hK24 => ?_
        refine AW.regionO (by rfl) ?_
        refine ao_q (v := (i64 t15)) go0 rfl (aq_mv rfl) ?_
        refine ao_q (v := (i64 t15)) go0 rfl (aq_as rfl) ?_
        refine AO.done (hK24 _ ?_)
        refine AW.regionO (by rfl) ?_
        refine ao_q (v := (.own 0 0 (List.length l16))) go0 rfl (aq_mv rfl) ?_
        refine ao_q (v := (i64 q10)) go0 rfl (aq_mv rfl) ?_
        refine ao_q (v := (i64 t15)) go0 rfl (aq_mv rfl) ?_
        refine ao_q (v := (i64 (Sh.w (q10 + t15)))) go0 rfl (aq_add rfl rfl) ?_
        refine ao_bs (m := 1) (st' := [⟨0, 3, 1, List.map eI l16⟩, ⟨0, 3, 1, List.map eI [Sh.w (q10 + t15)]⟩]) (l := [Sh.w (q10 + t15)]) (enc := eI) go0 ei44 (by decide) rfl rfl rfl rfl rfl rfl ?_
        obtain ⟨l25, gl25, h1⟩ := Sh.bind_some h1
        refine ao_apo (st' := [⟨1, 3, 1, List.map eI l25⟩, ⟨0, 3, 1, List.map eI [Sh.w (q10 + t15)]⟩]) (l2 := [Sh.w (q10 + t15)]) go0 ei44 rfl rfl rfl rfl (el_o rfl rfl) (fun _ => rfl) gl25 rfl ?_
        refine ao_q (v := (.own 0 1 (List.length l25))) go0 rfl (aq_as rfl) ?_
        refine AO.done (hK23 _ ?_)
        refine AW.regionO (by rfl) ?_
        refine ao_q (v := (i64 (Sh.w (t15 + 1)))) go0 rfl (aq_add rfl rfl) ?_
        refine ao_q (v := (i64 (Sh.w (t15 + 1)))) go0 rfl (aq_mv rfl) ?_
        exact AO.done (Exists.intro (Sh.w (t15 + 1), l25) (And.intro h1 (by refine Wk.trans (Wk.rg (L := [(5, (i64 q10)), (6, (.own 0 0 (List.length l25))), (27, (i64 (Sh.len c14.cons))), (28, (i64 (Sh.w (t15 + 1))))]) (st' := [⟨0, 3, 1, List.map eI l25⟩, ⟨0, 3, 1, List.map eI [Sh.w (q10 + t15)]⟩]) (.pure (pure_map fun _ => rfl) (.pure (pure_map fun _ => rfl) .nil)) ⟨.rfl, .rfl, .rfl, .rfl, trivial⟩) ?_; refine Wk.trans (Wk.permk (L := [(5, (i64 q10)), (6, (.own 0 0 (List.length l25))), (27, (i64 (Sh.len c14.cons))), (28, (i64 (Sh.w (t15 + 1))))]) (st' := [⟨0, 3, 1, List.map eI l25⟩]) (st1 := [⟨0, 3, 1, List.map eI l25⟩]) [0] rfl .nil (by decide) rfl rfl (.pure (pure_map fun _ => rfl) .nil) ⟨.rfl, .rfl, .rfl, .rfl, trivial⟩) ?_; exact Wk.to (L := [(5, (i64 q10)), (6, (.own 0 0 (List.length l25))), (27, (i64 (Sh.len c14.cons))), (28, (i64 (Sh.w (t15 + 1))))]) ⟨.rfl, .rfl, .rfl, .rfl, trivial⟩)))
      · replace h1 := Sh.ite_f b22 h1
        exact AW.exit (M18 l16 (Sh.some_eq h1).symm _ (Wk.to (L := [(6, (.own 0 0 (List.length l16)))]) ⟨.rfl, trivial⟩))
  refine AW.regionO (by rfl) ?_
  refine ao_q (v := (i64 p1)) go0 rfl (aq_mv rfl) ?_
  refine ao_q (v := (.bool (decide (p1 < 1)))) go0 rfl (aq_lt rfl rfl) ?_
  refine ao_q (v := (.bool (decide (p1 < 1)))) go0 rfl (aq_mv rfl) ?_
  rcases Sh.ite_some h1 with ⟨b26, h1⟩ | ⟨b26, h1⟩
  · skip
    refine ao_skip rfl rfl b26 ?_
    refine ao_skip rfl rfl b26 ?_
    refine ao_skip rfl rfl b26 ?_
    refine ao_skip rfl rfl b26 ?_
    refine ao_q (v := (.bool true)) go0 rfl (aq_pkt rfl b26 rfl) ?_
    exact AO.done (M5 true (Sh.some_eq h1).symm _ (Wk.to (L := [(0, (.sl (List.map eRDecl p0))), (1, (i64 p1)), (15, (.bool true))]) ⟨.rfl, .rfl, .rfl, trivial⟩))
  · skip
    refine ao_q (v := (i64 p1)) (go1 rfl rfl b26) rfl (aq_mv rfl) ?_
    refine ao_q (v := (.sl (List.map eRDecl p0))) (go1 rfl rfl b26) rfl (aq_mv rfl) ?_
    refine ao_q (v := (i64 (Sh.len p0))) (go1 rfl rfl b26) rfl (aq_lens sl28 rfl) ?_
    refine ao_q (v := (.bool (decide ((Sh.len p0) < p1)))) (go1 rfl rfl b26) rfl (aq_gt rfl rfl) ?_
    refine ao_q (v := (.bool (decide ((Sh.len p0) < p1)))) go0 rfl (aq_pkf rfl b26 rfl) ?_
    exact AO.done (M5 (decide ((Sh.len p0) < p1)) (Sh.some_eq h1).symm _ (Wk.to (L := [(0, (.sl (List.map eRDecl p0))), (1, (i64 p1)), (15, (.bool (decide ((Sh.len p0) < p1))))]) ⟨.rfl, .rfl, .rfl, trivial⟩))

set_option maxRecDepth 100000 in
set_option maxHeartbeats 4000000 in
theorem impl_signatures_numValid_ok {N : Nat} {s0_0 : Int} {s1_0 : (List Int)} {s1_1 : (List Int)} {s1_2 : Int} {s1_3 : Int} {s1_4 : (List RInstr)} {p0 : RSignatures} {p1 : RInstr} {r : Bool} (h0 : impl_signatures_numValid N s0_0 s1_0 s1_1 s1_2 s1_3 s1_4 p0 p1 = some r) : ACalls Try.prog 30 [(.agg [(.sl (List.map eRDecl p0.decls)), (.sl (List.map eRSignature p0.funcs))]), (.agg [(i64 p1.op), (i64 p1.dst), (i64 p1.num), (i64 p1.into), (.sl (List.map eI p1.args)), (.sl (List.map eI p1.jumps))]), (.fn 27 [(.ptr 0 0 0 0), (.ptr 1 0 0 0)])] [⟨0, 3, 1, [[(i64 s0_0)]]⟩, ⟨0, 47, 5, [[(.sl (List.map eI s1_0)), (.sl (List.map eI s1_1)), (i64 s1_2), (i64 s1_3), (.sl (List.map eRInstr s1_4))]]⟩] (fun v st => v = (.bool r) ∧ st = [⟨0, 3, 1, [[(i64 s0_0)]]⟩, ⟨0, 47, 5, [[(.sl (List.map eI s1_0)), (.sl (List.map eI s1_1)), (i64 s1_2), (i64 s1_3), (.sl (List.map eRInstr s1_4))]]⟩]) := by
  unfold impl_signatures_numValid at h0
  refine ACalls.intro Try.func30 rfl (by show 3 ≤ 109; decide) ?_
  show AW _ 2 _ (aret _ 2 Try.f30 _) ⟨109, _, _⟩
  refine AW.weaken (Wk.to (L := [(0, (.agg [(.sl (List.map eRDecl p0.decls)), (.sl (List.map eRSignature p0.funcs))])), (1, (.agg [(i64 p1.op), (i64 p1.dst), (i64 p1.num), (i64 p1.into), (.sl (List.map eI p1.args)), (.sl (List.map eI p1.jumps))])), (2, (.fn 27 [(.ptr 0 0 0 0), (.ptr 1 0 0 0)]))]) ⟨.rfl, .rfl, .rfl, trivial⟩) ?_
  refine AW.seq fun K1 hK1 => ?_
  refine AW.regionO (by rfl) ?_
  refine ao_box (m := 2) (st' := [⟨0, 3, 1, [[(i64 s0_0)]]⟩, ⟨0, 47, 5, [[(.sl (List.map eI s1_0)), (.sl (List.map eI s1_1)), (i64 s1_2), (i64 s1_3), (.sl (List.map eRInstr s1_4))]]⟩, ⟨0, 41, 2, [[(.sl (List.map eRDecl p0.decls)), (.sl (List.map eRSignature p0.funcs))]]⟩]) go0 rfl rfl rfl rfl rfl ?_
  refine ao_box (m := 3) (st' := [⟨0, 3, 1, [[(i64 s0_0)]]⟩, ⟨0, 47, 5, [[(.sl (List.map eI s1_0)), (.sl (List.map eI s1_1)), (i64 s1_2), (i64 s1_3), (.sl (List.map eRInstr s1_4))]]⟩, ⟨0, 41, 2, [[(.sl (List.map eRDecl p0.decls)), (.sl (List.map eRSignature p0.funcs))]]⟩, ⟨0, 49, 6, [[(i64 p1.op), (i64 p1.dst), (i64 p1.num), (i64 p1.into), (.sl (List.map eI p1.args)), (.sl (List.map eI p1.jumps))]]⟩]) go0 rfl rfl rfl rfl rfl ?_
  refine ao_q (v := (.bool false)) go0 rfl (aq_as rfl) ?_
  refine AO.done (hK1 _ ?_)
  refine AW.seq fun K2 hK2 => ?_
  refine AW.seq fun K3 hK3 => ?_
  refine AW.regionO (by rfl) ?_
  refine ao_q (v := (.ptr 3 0 0 0)) go0 rfl (aq_fap fi49_0 rfl rfl (show 0 + 0 ≤ 6 by decide) rfl) ?_
  refine ao_q (v := (i64 p1.op)) go0 rfl (aq_ldp ti3 rfl rfl rfl rfl) ?_
  refine AO.done (hK3 _ ?_)
  refine AW.block ?_
  refine AW.seq fun K4 hK4 => ?_
  refine AW.regionO (by rfl) ?_
  refine ao_q (v := (.bool (decide (p1.op = 0)))) go0 rfl (aq_eq rfl rfl) ?_
  refine ao_q (v := (.bool (decide (p1.op = 0)))) go0 rfl (aq_as rfl) ?_
  refine AO.done (hK4 _ ?_)
  refine AW.cond' (b := decide (p1.op = 0)) rfl (fun b5 => ?_) (fun b5 => ?_)
  · replace h0 := Sh.ite_t b5 h0
    refine AW.seq fun K6 hK6 => ?_
    obtain ⟨o8, h1, h0⟩ := Sh.bind_some h0
    have M8 : ∀ (t7 : Bool), o8 = t7 → ∀ s, Wk 2 s ⟨109, envL [(6, (.bool t7))], [⟨0, 3, 1, [[(i64 s0_0)]]⟩, ⟨0, 47, 5, [[(.sl (List.map eI s1_0)), (.sl (List.map eI s1_1)), (i64 s1_2), (i64 s1_3), (.sl (List.map eRInstr s1_4))]]⟩]⟩ → K6 s := by
      intro t7 hq s hw
      subst o8
      try dsimp only at h0
      refine hK6 _ (AW.weaken hw ?_)
      replace h0 := Sh.some_eq h0
      subst r
      exact AW.ret (Exists.intro _ (And.intro (Wk.to (L := [(6, (.bool t7))]) ⟨.rfl, trivial⟩) (And.intro rfl rfl)))
    refine AW.regionO (by rfl) ?_
    refine ao_q (v := (.ptr 3 0 0 2)) go0 rfl (aq_fap fi49_2 rfl rfl (show 0 + 2 ≤ 6 by decide) rfl) ?_
    refine ao_q (v := (i64 p1.num)) go0 rfl (aq_ldp ti3 rfl rfl rfl rfl) ?_
    refine ao_q (v := (.bool (decide ((-999) ≤ p1.num)))) go0 rfl (aq_ge rfl rfl) ?_
    refine ao_q (v := (.bool (decide ((-999) ≤ p1.num)))) go0 rfl (aq_mv rfl) ?_
    rcases Sh.ite_some h1 with ⟨b9, h1⟩ | ⟨b9, h1⟩
    · skip
      refine ao_q (v := (.ptr 3 0 0 2)) (go1 rfl rfl b9) rfl (aq_fap fi49_2 rfl rfl (show 0 + 2 ≤ 6 by decide) rfl) ?_
      refine ao_q (v := (i64 p1.num)) (go1 rfl rfl b9) rfl (aq_ldp ti3 rfl rfl rfl rfl) ?_
      refine ao_q (v := (.bool (decide (p1.num ≤ 999)))) (go1 rfl rfl b9) rfl (aq_le rfl rfl) ?_
      refine ao_q (v := (.bool (decide (p1.num ≤ 999)))) go0 rfl (aq_pkt rfl b9 rfl) ?_
      refine ao_q (v := (.bool (decide (p1.num ≤ 999)))) go0 rfl (aq_as rfl) ?_
      exact AO.done (M8 (decide (p1.num ≤ 999)) (Sh.some_eq h1).symm _ (by refine Wk.trans (Wk.permk (L := [(6, (.bool (decide (p1.num ≤ 999))))]) (st' := [⟨0, 3, 1, [[(i64 s0_0)]]⟩, ⟨0, 47, 5, [[(.sl (List.map eI s1_0)), (.sl (List.map eI s1_1)), (i64 s1_2), (i64 s1_3), (.sl (List.map eRInstr s1_4))]]⟩]) (st1 := [⟨0, 3, 1, [[(i64 s0_0)]]⟩, ⟨0, 47, 5, [[(.sl (List.map eI s1_0)), (.sl (List.map eI s1_1)), (i64 s1_2), (i64 s1_3), (.sl (List.map eRInstr s1_4))]]⟩]) [0, 1] rfl (.raw rfl rfl (.raw rfl rfl .nil)) (by decide) rfl rfl (.raw rfl rfl (.raw rfl rfl .nil)) ⟨.rfl, trivial⟩) ?_; exact Wk.to (L := [(6, (.bool (decide (p1.num ≤ 999))))]) ⟨.rfl, trivial⟩))
    · skip
      refine ao_skip rfl rfl b9 ?_
      refine ao_skip rfl rfl b9 ?_
      refine ao_skip rfl rfl b9 ?_
      refine ao_q (v := (.bool false)) go0 rfl (aq_pkf rfl b9 rfl) ?_
      refine ao_q (v := (.bool false)) go0 rfl (aq_as rfl) ?_
      exact AO.done (M8 false (Sh.some_eq h1).symm _ (by refine Wk.trans (Wk.permk (L := [(6, (.bool false))]) (st' := [⟨0, 3, 1, [[(i64 s0_0)]]⟩, ⟨0, 47, 5, [[(.sl (List.map eI s1_0)), (.sl (List.map eI s1_1)), (i64 s1_2), (i64 s1_3), (.sl (List.map eRInstr s1_4))]]⟩]) (st1 := [⟨0, 3, 1, [[(i64 s0_0)]]⟩, ⟨0, 47, 5, [[(.sl (List.map eI s1_0)), (.sl (List.map eI s1_1)), (i64 s1_2), (i64 s1_3), (.sl (List.map eRInstr s1_4))]]⟩]) [0, 1] rfl (.raw rfl rfl (.raw rfl rfl .nil)) (by decide) rfl rfl (.raw rfl rfl (.raw rfl rfl .nil)) ⟨.rfl, trivial⟩) ?_; exact Wk.to (L := [(6, (.bool false))]) ⟨.rfl, trivial⟩))
  · replace h0 := Sh.ite_f b5 h0
    refine AW.seq fun K10 hK10 => ?_
    refine AW.regionO (by rfl) ?_
    refine ao_q (v := (.bool (decide (p1.op = 6)))) go0 rfl (aq_eq rfl rfl) ?_
    refine ao_q (v := (.bool (decide (p1.op = 6)))) go0 rfl (aq_as rfl) ?_
    refine AO.done (hK10 _ ?_)
    refine AW.cond' (b := decide (p1.op = 6)) rfl (fun b11 => ?_) (fun b11 => ?_)
    · replace h0 := Sh.ite_t b11 h0
      refine AW.seq fun K12 hK12 => ?_
      obtain ⟨o14, h1, h0⟩ := Sh.bind_some h0
      have M14 : ∀ (t13 : Bool), o14 = t13 → ∀ s, Wk 2 s ⟨109, envL [(6, (.bool t13))], [⟨0, 3, 1, [[(i64 s0_0)]]⟩, ⟨0, 47, 5, [[(.sl (List.map eI s1_0)), (.sl (List.map eI s1_1)), (i64 s1_2), (i64 s1_3), (.sl (List.map eRInstr s1_4))]]⟩]⟩ → K12 s := by
        intro t13 hq s hw
        subst o14
        try dsimp only at h0
        refine hK12 _ (AW.weaken hw ?_)
        replace h0 := Sh.some_eq h0
        subst r
        exact AW.ret (Exists.intro _ (And.intro (Wk.to (L := [(6, (.bool t13))]) ⟨.rfl, trivial⟩) (And.intro rfl rfl)))
      refine AW.draw (by kernel_rfl) (by kernel_rfl) (by rfl) ?_
      refine d_q (v := (.ptr 3 0 0 2)) go0 rfl (aq_fap fi49_2 rfl rfl (show 0 + 2 ≤ 6 by decide) rfl) ?_
      refine d_q (v := (i64 p1.num)) go0 rfl (aq_ldp ti3 rfl rfl rfl rfl) ?_
      refine d_q (v := (.bool (decide (0 ≤ p1.num)))) go0 rfl (aq_ge rfl rfl) ?_
      refine d_q (v := (.bool (decide (0 ≤ p1.num)))) go0 rfl (aq_mv rfl) ?_
      rcases Sh.ite_some h1 with ⟨b15, h1⟩ | ⟨b15, h1⟩
      · skip
        refine d_q (v := (.ptr 3 0 0 2)) (go1 rfl rfl b15) rfl (aq_fap fi49_2 rfl rfl (show 0 + 2 ≤ 6 by decide) rfl) ?_
        refine d_q (v := (i64 p1.num)) (go1 rfl rfl b15) rfl (aq_ldp ti3 rfl rfl rfl rfl) ?_
        refine d_q (v := (.ptr 2 0 0 0)) (go1 rfl rfl b15) rfl (aq_fap fi41_0 rfl rfl (show 0 + 0 ≤ 2 by decide) rfl) ?_
        refine d_q (v := (.sl (List.map eRDecl p0.decls))) (go1 rfl rfl b15) rfl (aq_ldp ti28 rfl rfl rfl rfl) ?_
        obtain ⟨q16, gq16, h1⟩ := Sh.bind_some h1
        refine d_call (v := (i64 q16)) (go1 rfl rfl b15) hb49 (impl_conCount_ok gq16) rfl rfl rfl ?_
        refine d_q (v := (.bool (decide (p1.num < q16)))) (go1 rfl rfl b15) rfl (aq_lt rfl rfl) ?_
        refine d_q (v := (.bool (decide (p1.num < q16)))) go0 rfl (aq_pkt rfl b15 rfl) ?_
        refine d_q (v := (.bool (decide (p1.num < q16)))) go0 rfl (aq_as rfl) ?_
        exact d_done (M14 (decide (p1.num < q16)) (Sh.some_eq h1).symm _ (by refine Wk.trans (Wk.permk (L := [(6, (.bool (decide (p1.num < q16))))]) (st' := [⟨0, 3, 1, [[(i64 s0_0)]]⟩, ⟨0, 47, 5, [[(.sl (List.map eI s1_0)), (.sl (List.map eI s1_1)), (i64 s1_2), (i64 s1_3), (.sl (List.map eRInstr s1_4))]]⟩]) (st1 := [⟨0, 3, 1, [[(i64 s0_0)]]⟩, ⟨0, 47, 5, [[(.sl (List.map eI s1_0)), (.sl (List.map eI s1_1)), (i64 s1_2), (i64 s1_3), (.sl (List.map eRInstr s1_4))]]⟩]) [0, 1] rfl (.raw rfl rfl (.raw rfl rfl .nil)) (by decide) rfl rfl (.raw rfl rfl (.raw rfl rfl .nil)) ⟨.rfl, trivial⟩) ?_; exact Wk.to (L := [(6, (.bool (decide (p1.num < q16))))]) ⟨.rfl, trivial⟩))
      · skip
        refine d_skip rfl rfl b15 ?_
        refine d_skip rfl rfl b15 ?_
        refine d_skip rfl rfl b15 ?_
        refine d_skip rfl rfl b15 ?_
        refine d_skip rfl rfl b15 ?_
        refine d_skip rfl rfl b15 ?_
        refine d_q (v := (.bool false)) go0 rfl (aq_pkf rfl b15 rfl) ?_
        refine d_q (v := (.bool false)) go0 rfl (aq_as rfl) ?_
        exact d_done (M14 false (Sh.some_eq h1).symm _ (by refine Wk.trans (Wk.permk (L := [(6, (.bool false))]) (st' := [⟨0, 3, 1, [[(i64 s0_0)]]⟩, ⟨0, 47, 5, [[(.sl (List.map eI s1_0)), (.sl (List.map eI s1_1)), (i64 s1_2), (i64 s1_3), (.sl (List.map eRInstr s1_4))]]⟩]) (st1 := [⟨0, 3, 1, [[(i64 s0_0)]]⟩, ⟨0, 47, 5, [[(.sl (List.map eI s1_0)), (.sl (List.map eI s1_1)), (i64 s1_2), (i64 s1_3), (.sl (List.map eRInstr s1_4))]]⟩]) [0, 1] rfl (.raw rfl rfl (.raw rfl rfl .nil)) (by decide) rfl rfl (.raw rfl rfl (.raw rfl rfl .nil)) ⟨.rfl, trivial⟩) ?_; exact Wk.to (L := [(6, (.bool false))]) ⟨.rfl, trivial⟩))
    · replace h0 := Sh.ite_f b11 h0
      refine AW.seq fun K17 hK17 => ?_
      obtain ⟨o19, h1, h0⟩ := Sh.bind_some h0
      have M19 : ∀ (t18 : Bool), o19 = t18 → ∀ s, Wk 2 s ⟨109, envL [(2, (.fn 27 [(.ptr 0 0 0 0), (.ptr 1 0 0 0)])), (3, (.ptr 2 0 0 0)), (4, (.ptr 3 0 0 0)), (9, (i64 p1.op)), (33, (.bool t18))], [⟨0, 3, 1, [[(i64 s0_0)]]⟩, ⟨0, 47, 5, [[(.sl (List.map eI s1_0)), (.sl (List.map eI s1_1)), (i64 s1_2), (i64 s1_3), (.sl (List.map eRInstr s1_4))]]⟩, ⟨0, 41, 2, [[(.sl (List.map eRDecl p0.decls)), (.sl (List.map eRSignature p0.funcs))]]⟩, ⟨0, 49, 6, [[(i64 p1.op), (i64 p1.dst), (i64 p1.num), (i64 p1.into), (.sl (List.map eI p1.args)), (.sl (List.map eI p1.jumps))]]⟩]⟩ → K17 s := by
        intro t18 hq s hw
        subst o19
        try dsimp only at h0
        refine hK17 _ (AW.weaken hw ?_)
        refine AW.cond' (b := t18) rfl (fun b20 => ?_) (fun b20 => ?_)
        · replace h0 := Sh.ite_t b20 h0
          refine AW.seq fun K21 hK21 => ?_
          obtain ⟨o23, h1, h0⟩ := Sh.bind_some h0
          have M23 : ∀ (t22 : Bool), o23 = t22 → ∀ s, Wk 2 s ⟨109, envL [(6, (.bool t22))], [⟨0, 3, 1, [[(i64 s0_0)]]⟩, ⟨0, 47, 5, [[(.sl (List.map eI s1_0)), (.sl (List.map eI s1_1)), (i64 s1_2), (i64 s1_3), (.sl (List.map eRInstr s1_4))]]⟩]⟩ → K21 s := by
            intro t22 hq s hw
            subst o23
            try dsimp only at h0
            refine hK21 _ (AW.weaken hw ?_)
            replace h0 := Sh.some_eq h0
            subst r
            exact AW.ret (Exists.intro _ (And.intro (Wk.to (L := [(6, (.bool t22))]) ⟨.rfl, trivial⟩) (And.intro rfl rfl)))
          refine AW.regionO (by rfl) ?_
          refine ao_q (v := (.ptr 3 0 0 2)) go0 rfl (aq_fap fi49_2 rfl rfl (show 0 + 2 ≤ 6 by decide) rfl) ?_
          refine ao_q (v := (i64 p1.num)) go0 rfl (aq_ldp ti3 rfl rfl rfl rfl) ?_
          refine ao_q (v := (.bool (decide (0 ≤ p1.num)))) go0 rfl (aq_ge rfl rfl) ?_
          refine ao_q (v := (.bool (decide (0 ≤ p1.num)))) go0 rfl (aq_mv rfl) ?_
          rcases Sh.ite_some h1 with ⟨b24, h1⟩ | ⟨b24, h1⟩
          · skip
            refine ao_q (v := (.ptr 3 0 0 2)) (go1 rfl rfl b24) rfl (aq_fap fi49_2 rfl rfl (show 0 + 2 ≤ 6 by decide) rfl) ?_
            refine ao_q (v := (i64 p1.num)) (go1 rfl rfl b24) rfl (aq_ldp ti3 rfl rfl rfl rfl) ?_
            refine ao_q (v := (.ptr 2 0 0 1)) (go1 rfl rfl b24) rfl (aq_fap fi41_1 rfl rfl (show 0 + 1 ≤ 2 by decide) rfl) ?_
            refine ao_q (v := (.sl (List.map eRSignature p0.funcs))) (go1 rfl rfl b24) rfl (aq_ldp ti39 rfl rfl rfl rfl) ?_
            refine ao_q (v := (i64 (Sh.len p0.funcs))) (go1 rfl rfl b24) rfl (aq_lens sl39 rfl) ?_
            refine ao_q (v := (.bool (decide (p1.num < (Sh.len p0.funcs))))) (go1 rfl rfl b24) rfl (aq_lt rfl rfl) ?_
            refine ao_q (v := (.bool (decide (p1.num < (Sh.len p0.funcs))))) go0 rfl (aq_pkt rfl b24 rfl) ?_
            refine ao_q (v := (.bool (decide (p1.num < (Sh.len p0.funcs))))) go0 rfl (aq_as rfl) ?_
            exact AO.done (M23 (decide (p1.num < (Sh.len p0.funcs))) (Sh.some_eq h1).symm _ (by refine Wk.trans (Wk.permk (L := [(6, (.bool (decide (p1.num < (Sh.len p0.funcs)))))]) (st' := [⟨0, 3, 1, [[(i64 s0_0)]]⟩, ⟨0, 47, 5, [[(.sl (List.map eI s1_0)), (.sl (List.map eI s1_1)), (i64 s1_2), (i64 s1_3), (.sl (List.map eRInstr s1_4))]]⟩]) (st1 := [⟨0, 3, 1, [[(i64 s0_0)]]⟩, ⟨0, 47, 5, [[(.sl (List.map eI s1_0)), (.sl (List.map eI s1_1)), (i64 s1_2), (i64 s1_3), (.sl (List.map eRInstr s1_4))]]⟩]) [0, 1] rfl (.raw rfl rfl (.raw rfl rfl .nil)) (by decide) rfl rfl (.raw rfl rfl (.raw rfl rfl .nil)) ⟨.rfl, trivial⟩) ?_; exact Wk.to (L := [(6, (.bool (decide (p1.num < (Sh.len p0.funcs)))))]) ⟨.rfl, trivial⟩))
          · skip
            refine ao_skip rfl rfl b24 ?_
            refine ao_skip rfl rfl b24 ?_
            refine ao_skip rfl rfl b24 ?_
            refine ao_skip rfl rfl b24 ?_
            refine ao_skip rfl rfl b24 ?_
            refine ao_skip rfl rfl b24 ?_
            refine ao_q (v := (.bool false)) go0 rfl (aq_pkf rfl b24 rfl) ?_
            refine ao_q (v := (.bool false)) go0 rfl (aq_as rfl) ?_
            exact AO.done (M23 false (Sh.some_eq h1).symm _ (by refine Wk.trans (Wk.permk (L := [(6, (.bool false))]) (st' := [⟨0, 3, 1, [[(i64 s0_0)]]⟩, ⟨0, 47, 5, [[(.sl (List.map eI s1_0)), (.sl (List.map eI s1_1)), (i64 s1_2), (i64 s1_3), (.sl (List.map eRInstr s1_4))]]⟩]) (st1 := [⟨0, 3, 1, [[(i64 s0_0)]]⟩, ⟨0, 47, 5, [[(.sl (List.map eI s1_0)), (.sl (List.map eI s1_1)), (i64 s1_2), (i64 s1_3), (.sl (List.map eRInstr s1_4))]]⟩]) [0, 1] rfl (.raw rfl rfl (.raw rfl rfl .nil)) (by decide) rfl rfl (.raw rfl rfl (.raw rfl rfl .nil)) ⟨.rfl, trivial⟩) ?_; exact Wk.to (L := [(6, (.bool false))]) ⟨.rfl, trivial⟩))
        · replace h0 := Sh.ite_f b20 h0
          refine AW.seq fun K25 hK25 => ?_
          refine AW.regionO (by rfl) ?_
          refine ao_q (v := (.bool (decide (p1.op = 10)))) go0 rfl (aq_eq rfl rfl) ?_
          refine ao_q (v := (.bool (decide (p1.op = 10)))) go0 rfl (aq_as rfl) ?_
          refine AO.done (hK25 _ ?_)
          refine AW.cond' (b := decide (p1.op = 10)) rfl (fun b26 => ?_) (fun b26 => ?_)
          · replace h0 := Sh.ite_t b26 h0
            refine AW.seq fun K27 hK27 => ?_
            obtain ⟨o29, h1, h0⟩ := Sh.bind_some h0
            have M29 : ∀ (t28 : Bool), o29 = t28 → ∀ s, Wk 2 s ⟨109, envL [(6, (.bool t28))], [⟨0, 3, 1, [[(i64 s0_0)]]⟩, ⟨0, 47, 5, [[(.sl (List.map eI s1_0)), (.sl (List.map eI s1_1)), (i64 s1_2), (i64 s1_3), (.sl (List.map eRInstr s1_4))]]⟩]⟩ → K27 s := by
              intro t28 hq s hw
              subst o29
              try dsimp only at h0
              refine hK27 _ (AW.weaken hw ?_)
              replace h0 := Sh.some_eq h0
              subst r
              exact AW.ret (Exists.intro _ (And.intro (Wk.to (L := [(6, (.bool t28))]) ⟨.rfl, trivial⟩) (And.intro rfl rfl)))
            refine AW.regionO (by rfl) ?_
            refine ao_q (v := (.ptr 3 0 0 2)) go0 rfl (aq_fap fi49_2 rfl rfl (show 0 + 2 ≤ 6 by decide) rfl) ?_
            refine ao_q (v := (i64 p1.num)) go0 rfl (aq_ldp ti3 rfl rfl rfl rfl) ?_
            refine ao_q (v := (.bool (decide (0 ≤ p1.num)))) go0 rfl (aq_ge rfl rfl) ?_
            refine ao_q (v := (.bool (decide (0 ≤ p1.num)))) go0 rfl (aq_mv rfl) ?_
            rcases Sh.ite_some h1 with ⟨b30, h1⟩ | ⟨b30, h1⟩
            · skip
              refine ao_q (v := (.ptr 3 0 0 2)) (go1 rfl rfl b30) rfl (aq_fap fi49_2 rfl rfl (show 0 + 2 ≤ 6 by decide) rfl) ?_
              refine ao_q (v := (i64 p1.num)) (go1 rfl rfl b30) rfl (aq_ldp ti3 rfl rfl rfl rfl) ?_
              refine ao_q (v := (.ptr 2 0 0 1)) (go1 rfl rfl b30) rfl (aq_fap fi41_1 rfl rfl (show 0 + 1 ≤ 2 by decide) rfl) ?_
              refine ao_q (v := (.sl (List.map eRSignature p0.funcs))) (go1 rfl rfl b30) rfl (aq_ldp ti39 rfl rfl rfl rfl) ?_
              refine ao_q (v := (i64 (Sh.len p0.funcs))) (go1 rfl rfl b30) rfl (aq_lens sl39 rfl) ?_
              refine ao_q (v := (.bool (decide (p1.num < (Sh.len p0.funcs))))) (go1 rfl rfl b30) rfl (aq_lt rfl rfl) ?_
              refine ao_q (v := (.bool (decide (p1.num < (Sh.len p0.funcs))))) go0 rfl (aq_pkt rfl b30 rfl) ?_
              refine ao_q (v := (.bool (decide (p1.num < (Sh.len p0.funcs))))) go0 rfl (aq_mv rfl) ?_
              rcases Sh.ite_some h1 with ⟨b31, h1⟩ | ⟨b31, h1⟩
              · skip
                refine ao_q (v := (.ptr 2 0 0 1)) (go1 rfl rfl b31) rfl (aq_fap fi41_1 rfl rfl (show 0 + 1 ≤ 2 by decide) rfl) ?_
                refine ao_q (v := (.sl (List.map eRSignature p0.funcs))) (go1 rfl rfl b31) rfl (aq_ldp ti39 rfl rfl rfl rfl) ?_
                refine ao_q (v := (.ptr 3 0 0 2)) (go1 rfl rfl b31) rfl (aq_fap fi49_2 rfl rfl (show 0 + 2 ≤ 6 by decide) rfl) ?_
                refine ao_q (v := (i64 p1.num)) (go1 rfl rfl b31) rfl (aq_ldp ti3 rfl rfl rfl rfl) ?_
                obtain ⟨c32, gc32, h1⟩ := Sh.bind_some h1
                refine ao_q (v := (.iptr (eRSignature c32) 0)) (go1 rfl rfl b31) rfl (aq_ixs ei39 rfl rfl gc32 rfl) ?_
                refine ao_q (v := (.iptr (eRSignature c32) 1)) (go1 rfl rfl b31) rfl (aq_fai fi73_1 rfl rfl) ?_
                refine ao_q (v := (.sl (List.map eI c32.lent))) (go1 rfl rfl b31) rfl (aq_ldi ti44 rfl rfl) ?_
                refine ao_q (v := (i64 (Sh.len c32.lent))) (go1 rfl rfl b31) rfl (aq_lens sl44 rfl) ?_
                refine ao_q (v := (.bool (decide ((Sh.len c32.lent) = 0)))) (go1 rfl rfl b31) rfl (aq_eq rfl rfl) ?_
                refine ao_q (v := (.bool (decide ((Sh.len c32.lent) = 0)))) go0 rfl (aq_pkt rfl b31 rfl) ?_
                refine ao_q (v := (.bool (decide ((Sh.len c32.lent) = 0)))) go0 rfl (aq_as rfl) ?_
                exact AO.done (M29 (decide ((Sh.len c32.lent) = 0)) (Sh.some_eq h1).symm _ (by refine Wk.trans (Wk.permk (L := [(6, (.bool (decide ((Sh.len c32.lent) = 0))))]) (st' := [⟨0, 3, 1, [[(i64 s0_0)]]⟩, ⟨0, 47, 5, [[(.sl (List.map eI s1_0)), (.sl (List.map eI s1_1)), (i64 s1_2), (i64 s1_3), (.sl (List.map eRInstr s1_4))]]⟩]) (st1 := [⟨0, 3, 1, [[(i64 s0_0)]]⟩, ⟨0, 47, 5, [[(.sl (List.map eI s1_0)), (.sl (List.map eI s1_1)), (i64 s1_2), (i64 s1_3), (.sl (List.map eRInstr s1_4))]]⟩]) [0, 1] rfl (.raw rfl rfl (.raw rfl rfl .nil)) (by decide) rfl rfl (.raw rfl rfl (.raw rfl rfl .nil)) ⟨.rfl, trivial⟩) ?_; exact Wk.to (L := [(6, (.bool (decide ((Sh.len c32.lent) = 0))))]) ⟨.rfl, trivial⟩))
              · skip
                refine ao_skip rfl rfl b31 ?_
                refine ao_skip rfl rfl b31 ?_
                refine ao_skip rfl rfl b31 ?_
                refine ao_skip rfl rfl b31 ?_
                refine ao_skip rfl rfl b31 ?_
                refine ao_skip rfl rfl b31 ?_
                refine ao_skip rfl rfl b31 ?_
                refine ao_skip rfl rfl b31 ?_
                refine ao_skip rfl rfl b31 ?_
                refine ao_q (v := (.bool false)) go0 rfl (aq_pkf rfl b31 rfl) ?_
                refine ao_q (v := (.bool false)) go0 rfl (aq_as rfl) ?_
                exact AO.done (M29 false (Sh.some_eq h1).symm _ (by refine Wk.trans (Wk.permk (L := [(6, (.bool false))]) (st' := [⟨0, 3, 1, [[(i64 s0_0)]]⟩, ⟨0, 47, 5, [[(.sl (List.map eI s1_0)), (.sl (List.map eI s1_1)), (i64 s1_2), (i64 s1_3), (.sl (List.map eRInstr s1_4))]]⟩]) (st1 := [⟨0, 3, 1, [[(i64 s0_0)]]⟩, ⟨0, 47, 5, [[(.sl (List.map eI s1_0)), (.sl (List.map eI s1_1)), (i64 s1_2), (i64 s1_3), (.sl (List.map eRInstr s1_4))]]⟩]) [0, 1] rfl (.raw rfl rfl (.raw rfl rfl .nil)) (by decide) rfl rfl (.raw rfl rfl (.raw rfl rfl .nil)) ⟨.rfl, trivial⟩) ?_; exact Wk.to (L := [(6, (.bool false))]) ⟨.rfl, trivial⟩))
            · skip
              refine ao_skip rfl rfl b30 ?_
              refine ao_skip rfl rfl b30 ?_
              refine ao_skip rfl rfl b30 ?_
              refine ao_skip rfl rfl b30 ?_
              refine ao_skip rfl rfl b30 ?_
              refine ao_skip rfl rfl b30 ?_
              refine ao_q (v := (.bool false)) go0 rfl (aq_pkf rfl b30 rfl) ?_
              refine ao_q (v := (.bool false)) go0 rfl (aq_mv rfl) ?_
              refine ao_skip rfl rfl rfl ?_
              refine ao_skip rfl rfl rfl ?_
              refine ao_skip rfl rfl rfl ?_
              refine ao_skip rfl rfl rfl ?_
              refine ao_skip rfl rfl rfl ?_
              refine ao_skip rfl rfl rfl ?_
              refine ao_skip rfl rfl rfl ?_
              refine ao_skip rfl rfl rfl ?_
              refine ao_skip rfl rfl rfl ?_
              refine ao_q (v := (.bool false)) go0 rfl (aq_pkf rfl rfl rfl) ?_
              refine ao_q (v := (.bool false)) go0 rfl (aq_as rfl) ?_
              exact AO.done (M29 false (Sh.some_eq h1).symm _ (by refine Wk.trans (Wk.permk (L := [(6, (.bool false))]) (st' := [⟨0, 3, 1, [[(i64 s0_0)]]⟩, ⟨0, 47, 5, [[(.sl (List.map eI s1_0)), (.sl (List.map eI s1_1)), (i64 s1_2), (i64 s1_3), (.sl (List.map eRInstr s1_4))]]⟩]) (st1 := [⟨0, 3, 1, [[(i64 s0_0)]]⟩, ⟨0, 47, 5, [[(.sl (List.map eI s1_0)), (.sl (List.map eI s1_1)), (i64 s1_2), (i64 s1_3), (.sl (List.map eRInstr s1_4))]]⟩]) [0, 1] rfl (.raw rfl rfl (.raw rfl rfl .nil)) (by decide) rfl rfl (.raw rfl rfl (.raw rfl rfl .nil)) ⟨.rfl, trivial⟩) ?_; exact Wk.to (L := [(6, (.bool false))]) ⟨.rfl, trivial⟩))
          · replace h0 := Sh.ite_f b26 h0
            refine AW.seq fun K33 hK33 => ?_
            refine AW.regionO (by rfl) ?_
            refine ao_q (v := (.bool (decide (p1.op = 19)))) go0 rfl (aq_eq rfl rfl) ?_
            refine ao_q (v := (.bool (decide (p1.op = 19)))) go0 rfl (aq_as rfl) ?_
            refine AO.done (hK33 _ ?_)
            refine AW.cond' (b := decide (p1.op = 19)) rfl (fun b34 => ?_) (fun b34 => ?_)
            · replace h0 := Sh.ite_t b34 h0
              refine AW.seq fun K35 hK35 => ?_
              obtain ⟨o37, h1, h0⟩ := Sh.bind_some h0
              have M37 : ∀ (t36 : Bool), o37 = t36 → ∀ s, Wk 2 s ⟨109, envL [(6, (.bool t36))], [⟨0, 3, 1, [[(i64 s0_0)]]⟩, ⟨0, 47, 5, [[(.sl (List.map eI s1_0)), (.sl (List.map eI s1_1)), (i64 s1_2), (i64 s1_3), (.sl (List.map eRInstr s1_4))]]⟩]⟩ → K35 s := by
                intro t36 hq s hw
                subst o37
                try dsimp only at h0
                refine hK35 _ (AW.weaken hw ?_)
                replace h0 := Sh.some_eq h0
                subst r
                exact AW.ret (Exists.intro _ (And.intro (Wk.to (L := [(6, (.bool t36))]) ⟨.rfl, trivial⟩) (And.intro rfl rfl)))
              refine AW.regionO (by rfl) ?_
              refine ao_q (v := (.ptr 3 0 0 2)) go0 rfl (aq_fap fi49_2 rfl rfl (show 0 + 2 ≤ 6 by decide) rfl) ?_
              refine ao_q (v := (i64 p1.num)) go0 rfl (aq_ldp ti3 rfl rfl rfl rfl) ?_
              refine ao_q (v := (.bool (decide (0 ≤ p1.num)))) go0 rfl (aq_ge rfl rfl) ?_
              refine ao_q (v := (.bool (decide (0 ≤ p1.num)))) go0 rfl (aq_mv rfl) ?_
              rcases Sh.ite_some h1 with ⟨b38, h1⟩ | ⟨b38, h1⟩
              · skip
                refine ao_q (v := (.ptr 3 0 0 2)) (go1 rfl rfl b38) rfl (aq_fap fi49_2 rfl rfl (show 0 + 2 ≤ 6 by decide) rfl) ?_
                refine ao_q (v := (i64 p1.num)) (go1 rfl rfl b38) rfl (aq_ldp ti3 rfl rfl rfl rfl) ?_
                refine ao_q (v := (.bool (decide (p1.num < 3)))) (go1 rfl rfl b38) rfl (aq_lt rfl rfl) ?_
                refine ao_q (v := (.bool (decide (p1.num < 3)))) go0 rfl (aq_pkt rfl b38 rfl) ?_
                refine ao_q (v := (.bool (decide (p1.num < 3)))) go0 rfl (aq_as rfl) ?_
                exact AO.done (M37 (decide (p1.num < 3)) (Sh.some_eq h1).symm _ (by refine Wk.trans (Wk.permk (L := [(6, (.bool (decide (p1.num < 3))))]) (st' := [⟨0, 3, 1, [[(i64 s0_0)]]⟩, ⟨0, 47, 5, [[(.sl (List.map eI s1_0)), (.sl (List.map eI s1_1)), (i64 s1_2), (i64 s1_3), (.sl (List.map eRInstr s1_4))]]⟩]) (st1 := [⟨0, 3, 1, [[(i64 s0_0)]]⟩, ⟨0, 47, 5, [[(.sl (List.map eI s1_0)), (.sl (List.map eI s1_1)), (i64 s1_2), (i64 s1_3), (.sl (List.map eRInstr s1_4))]]⟩]) [0, 1] rfl (.raw rfl rfl (.raw rfl rfl .nil)) (by decide) rfl rfl (.raw rfl rfl (.raw rfl rfl .nil)) ⟨.rfl, trivial⟩) ?_; exact Wk.to (L := [(6, (.bool (decide (p1.num < 3))))]) ⟨.rfl, trivial⟩))
              · skip
                refine ao_skip rfl rfl b38 ?_
                refine ao_skip rfl rfl b38 ?_
                refine ao_skip rfl rfl b38 ?_
                refine ao_q (v := (.bool false)) go0 rfl (aq_pkf rfl b38 rfl) ?_
                refine ao_q (v := (.bool false)) go0 rfl (aq_as rfl) ?_
                exact AO.done (M37 false (Sh.some_eq h1).symm _ (by refine Wk.trans (Wk.permk (L := [(6, (.bool false))]) (st' := [⟨0, 3, 1, [[(i64 s0_0)]]⟩, ⟨0, 47, 5, [[(.sl (List.map eI s1_0)), (.sl (List.map eI s1_1)), (i64 s1_2), (i64 s1_3), (.sl (List.map eRInstr s1_4))]]⟩]) (st1 := [⟨0, 3, 1, [[(i64 s0_0)]]⟩, ⟨0, 47, 5, [[(.sl (List.map eI s1_0)), (.sl (List.map eI s1_1)), (i64 s1_2), (i64 s1_3), (.sl (List.map eRInstr s1_4))]]⟩]) [0, 1] rfl (.raw rfl rfl (.raw rfl rfl .nil)) (by decide) rfl rfl (.raw rfl rfl (.raw rfl rfl .nil)) ⟨.rfl, trivial⟩) ?_; exact Wk.to (L := [(6, (.bool false))]) ⟨.rfl, trivial⟩))
            · replace h0 := Sh.ite_f b34 h0
              refine AW.seq fun K39 hK39 => ?_
              obtain ⟨o41, h1, h0⟩ := Sh.bind_some h0
              have M41 : ∀ (t40 : Bool), o41 = t40 → ∀ s, Wk 2 s ⟨109, envL [(2, (.fn 27 [(.ptr 0 0 0 0), (.ptr 1 0 0 0)])), (3, (.ptr 2 0 0 0)), (4, (.ptr 3 0 0 0)), (9, (i64 p1.op)), (81, (.bool t40))], [⟨0, 3, 1, [[(i64 s0_0)]]⟩, ⟨0, 47, 5, [[(.sl (List.map eI s1_0)), (.sl (List.map eI s1_1)), (i64 s1_2), (i64 s1_3), (.sl (List.map eRInstr s1_4))]]⟩, ⟨0, 41, 2, [[(.sl (List.map eRDecl p0.decls)), (.sl (List.map eRSignature p0.funcs))]]⟩, ⟨0, 49, 6, [[(i64 p1.op), (i64 p1.dst), (i64 p1.num), (i64 p1.into), (.sl (List.map eI p1.args)), (.sl (List.map eI p1.jumps))]]⟩]⟩ → K39 s := by
                intro t40 hq s hw
                subst o41
                try dsimp only at h0
                refine hK39 _ (AW.weaken hw ?_)
                refine AW.cond' (b := t40) rfl (fun b42 => ?_) (fun b42 => ?_)
                · replace h0 := Sh.ite_t b42 h0
                  refine AW.seq fun K43 hK43 => ?_
                  refine AW.regionO (by rfl) ?_
                  refine ao_q (v := (.fn 27 [(.ptr 0 0 0 0), (.ptr 1 0 0 0)])) go0 rfl (aq_mv rfl) ?_
                  refine ao_q (v := (.ptr 3 0 0 2)) go0 rfl (aq_fap fi49_2 rfl rfl (show 0 + 2 ≤ 6 by decide) rfl) ?_
                  refine ao_q (v := (i64 p1.num)) go0 rfl (aq_ldp ti3 rfl rfl rfl rfl) ?_
                  obtain ⟨q44, gq44, h0⟩ := Sh.bind_some h0
                  refine ao_callst (rowsP := [⟨0, 3, 1, [[(i64 s0_0)]]⟩, ⟨0, 47, 5, [[(.sl (List.map eI s1_0)), (.sl (List.map eI s1_1)), (i64 s1_2), (i64 s1_3), (.sl (List.map eRInstr s1_4))]]⟩]) (rows0 := [⟨0, 3, 1, [[(i64 s0_0)]]⟩, ⟨0, 47, 5, [[(.sl (List.map eI s1_0)), (.sl (List.map eI s1_1)), (i64 s1_2), (i64 s1_3), (.sl (List.map eRInstr s1_4))]]⟩]) (rows1 := [⟨0, 3, 1, [[(i64 s0_0)]]⟩, ⟨0, 47, 5, [[(.sl (List.map eI s1_0)), (.sl (List.map eI s1_1)), (i64 s1_2), (i64 s1_3), (.sl (List.map eRInstr s1_4))]]⟩]) (rows2 := []) (rows1' := [⟨0, 3, 1, [[(i64 s0_0)]]⟩, ⟨0, 47, 5, [[(.sl (List.map eI s1_0)), (.sl (List.map eI s1_1)), (i64 s1_2), (i64 s1_3), (.sl (List.map eRInstr s1_4))]]⟩]) (rows2' := []) (st' := [⟨0, 3, 1, [[(i64 s0_0)]]⟩, ⟨0, 47, 5, [[(.sl (List.map eI s1_0)), (.sl (List.map eI s1_1)), (i64 s1_2), (i64 s1_3), (.sl (List.map eRInstr s1_4))]]⟩, ⟨0, 41, 2, [[(.sl (List.map eRDecl p0.decls)), (.sl (List.map eRSignature p0.funcs))]]⟩, ⟨0, 49, 6, [[(i64 p1.op), (i64 p1.dst), (i64 p1.num), (i64 p1.into), (.sl (List.map eI p1.args)), (.sl (List.map eI p1.jumps))]]⟩]) (v' := (.bool q44)) [0, 1] go0 rfl hb27 (impl_signatures_instrValid_1_ok gq44) rfl (by decide) rfl rfl (.raw rfl rfl (.raw rfl rfl .nil)) rfl rfl (.raw rfl rfl (.raw rfl rfl .nil)) .nil rfl rfl ?_
                  refine ao_q (v := (.bool q44)) go0 rfl (aq_as rfl) ?_
                  refine AO.done (hK43 _ ?_)
                  replace h0 := Sh.some_eq h0
                  subst r
                  exact AW.ret (Exists.intro _ (And.intro ((Wk.permk (L := [(6, (.bool q44))]) (st' := [⟨0, 3, 1, [[(i64 s0_0)]]⟩, ⟨0, 47, 5, [[(.sl (List.map eI s1_0)), (.sl (List.map eI s1_1)), (i64 s1_2), (i64 s1_3), (.sl (List.map eRInstr s1_4))]]⟩]) (st1 := [⟨0, 3, 1, [[(i64 s0_0)]]⟩, ⟨0, 47, 5, [[(.sl (List.map eI s1_0)), (.sl (List.map eI s1_1)), (i64 s1_2), (i64 s1_3), (.sl (List.map eRInstr s1_4))]]⟩]) [0, 1] rfl (.raw rfl rfl (.raw rfl rfl .nil)) (by decide) rfl rfl (.raw rfl rfl (.raw rfl rfl .nil)) ⟨.rfl, trivial⟩).trans (Wk.to (L := [(6, (.bool q44))]) ⟨.rfl, trivial⟩)) (And.intro rfl rfl)))
                · replace h0 := Sh.ite_f b42 h0
                  refine AW.seq fun K45 hK45 => ?_
                  refine AW.regionO (by rfl) ?_
                  refine ao_q (v := (.bool (decide (p1.op = 21)))) go0 rfl (aq_eq rfl rfl) ?_
                  refine ao_q (v := (.bool (decide (p1.op = 21)))) go0 rfl (aq_as rfl) ?_
                  refine AO.done (hK45 _ ?_)
                  refine AW.cond' (b := decide (p1.op = 21)) rfl (fun b46 => ?_) (fun b46 => ?_)
                  · replace h0 := Sh.ite_t b46 h0
                    refine AW.seq fun K47 hK47 => ?_
                    refine AW.regionO (by rfl) ?_
                    refine ao_q (v := (.ptr 2 0 0 0)) go0 rfl (aq_fap fi41_0 rfl rfl (show 0 + 0 ≤ 2 by decide) rfl) ?_
                    refine ao_q (v := (.sl (List.map eRDecl p0.decls))) go0 rfl (aq_ldp ti28 rfl rfl rfl rfl) ?_
                    refine ao_q (v := (.ptr 3 0 0 2)) go0 rfl (aq_fap fi49_2 rfl rfl (show 0 + 2 ≤ 6 by decide) rfl) ?_
                    refine ao_q (v := (i64 p1.num)) go0 rfl (aq_ldp ti3 rfl rfl rfl rfl) ?_
                    obtain ⟨q48, gq48, h0⟩ := Sh.bind_some h0
                    refine ao_call (v' := (.own 4 0 (List.length q48))) (st' := [⟨0, 3, 1, [[(i64 s0_0)]]⟩, ⟨0, 47, 5, [[(.sl (List.map eI s1_0)), (.sl (List.map eI s1_1)), (i64 s1_2), (i64 s1_3), (.sl (List.map eRInstr s1_4))]]⟩, ⟨0, 41, 2, [[(.sl (List.map eRDecl p0.decls)), (.sl (List.map eRSignature p0.funcs))]]⟩, ⟨0, 49, 6, [[(i64 p1.op), (i64 p1.dst), (i64 p1.num), (i64 p1.into), (.sl (List.map eI p1.args)), (.sl (List.map eI p1.jumps))]]⟩, ⟨0, 3, 1, List.map eI q48⟩]) go0 hb50 (impl_consOf_ok gq48) rfl rfl ⟨(pure_map' fun _ => rfl), trivial⟩ rfl rfl ?_
                    refine ao_q (v := (.own 4 0 (List.length q48))) go0 rfl (aq_as rfl) ?_
                    refine AO.done (hK47 _ ?_)
                    refine AW.seq fun K49 hK49 => ?_
                    obtain ⟨o51, h1, h0⟩ := Sh.bind_some h0
                    have M51 : ∀ (t50 : Bool), o51 = t50 → ∀ s, Wk 2 s ⟨109, envL [(6, (.bool t50))], [⟨0, 3, 1, [[(i64 s0_0)]]⟩, ⟨0, 47, 5, [[(.sl (List.map eI s1_0)), (.sl (List.map eI s1_1)), (i64 s1_2), (i64 s1_3), (.sl (List.map eRInstr s1_4))]]⟩]⟩ → K49 s := by
                      intro t50 hq s hw
                      subst o51
                      try dsimp only at h0
                      refine hK49 _ (AW.weaken hw ?_)
                      replace h0 := Sh.some_eq h0
                      subst r
                      exact AW.ret (Exists.intro _ (And.intro (Wk.to (L := [(6, (.bool t50))]) ⟨.rfl, trivial⟩) (And.intro rfl rfl)))
                    refine AW.regionO (by rfl) ?_
                    refine ao_q (v := (.own 4 0 (List.length q48))) go0 rfl (aq_mv rfl) ?_
                    refine ao_q (v := (i64 (Sh.len q48))) go0 rfl (aq_leno sl44 rfl rfl rfl) ?_
                    refine ao_q (v := (.bool (decide (0 < (Sh.len q48))))) go0 rfl (aq_gt rfl rfl) ?_
                    refine ao_q (v := (.bool (decide (0 < (Sh.len q48))))) go0 rfl (aq_mv rfl) ?_
                    rcases Sh.ite_some h1 with ⟨b52, h1⟩ | ⟨b52, h1⟩
                    · skip
                      refine ao_q (v := (.ptr 3 0 0 5)) (go1 rfl rfl b52) rfl (aq_fap fi49_5 rfl rfl (show 0 + 5 ≤ 6 by decide) rfl) ?_
                      refine ao_q (v := (.sl (List.map eI p1.jumps))) (go1 rfl rfl b52) rfl (aq_ldp ti44 rfl rfl rfl rfl) ?_
                      refine ao_q (v := (i64 (Sh.len p1.jumps))) (go1 rfl rfl b52) rfl (aq_lens sl44 rfl) ?_
                      refine ao_q (v := (.own 4 0 (List.length q48))) (go1 rfl rfl b52) rfl (aq_mv rfl) ?_
                      refine ao_q (v := (i64 (Sh.len q48))) (go1 rfl rfl b52) rfl (aq_leno sl44 rfl rfl rfl) ?_
                      refine ao_q (v := (.bool (decide ((Sh.len p1.jumps) = (Sh.len q48))))) (go1 rfl rfl b52) rfl (aq_eq rfl rfl) ?_
                      refine ao_q (v := (.bool (decide ((Sh.len p1.jumps) = (Sh.len q48))))) go0 rfl (aq_pkt rfl b52 rfl) ?_
                      refine ao_q (v := (.bool (decide ((Sh.len p1.jumps) = (Sh.len q48))))) go0 rfl (aq_as rfl) ?_
                      exact AO.done (M51 (decide ((Sh.len p1.jumps) = (Sh.len q48))) (Sh.some_eq h1).symm _ (by refine Wk.trans (Wk.permk (L := [(6, (.bool (decide ((Sh.len p1.jumps) = (Sh.len q48)))))]) (st' := [⟨0, 3, 1, [[(i64 s0_0)]]⟩, ⟨0, 47, 5, [[(.sl (List.map eI s1_0)), (.sl (List.map eI s1_1)), (i64 s1_2), (i64 s1_3), (.sl (List.map eRInstr s1_4))]]⟩]) (st1 := [⟨0, 3, 1, [[(i64 s0_0)]]⟩, ⟨0, 47, 5, [[(.sl (List.map eI s1_0)), (.sl (List.map eI s1_1)), (i64 s1_2), (i64 s1_3), (.sl (List.map eRInstr s1_4))]]⟩]) [0, 1] rfl (.raw rfl rfl (.raw rfl rfl .nil)) (by decide) rfl rfl (.raw rfl rfl (.raw rfl rfl .nil)) ⟨.rfl, trivial⟩) ?_; exact Wk.to (L := [(6, (.bool (decide ((Sh.len p1.jumps) = (Sh.len q48)))))]) ⟨.rfl, trivial⟩))
                    · skip
                      refine ao_skip rfl rfl b52 ?_
                      refine ao_skip rfl rfl b52 ?_
                      refine ao_skip rfl rfl b52 ?_
                      refine ao_skip rfl rfl b52 ?_
                      refine ao_skip rfl rfl b52 ?_
                      refine ao_skip rfl rfl b52 ?_
                      refine ao_q (v := (.bool false)) go0 rfl (aq_pkf rfl b52 rfl) ?_
                      refine ao_q (v := (.bool false)) go0 rfl (aq_as rfl) ?_
                      exact AO.done (M51 false (Sh.some_eq h1).symm _ (by refine Wk.trans (Wk.permk (L := [(6, (.bool false))]) (st' := [⟨0, 3, 1, [[(i64 s0_0)]]⟩, ⟨0, 47, 5, [[(.sl (List.map eI s1_0)), (.sl (List.map eI s1_1)), (i64 s1_2), (i64 s1_3), (.sl (List.map eRInstr s1_4))]]⟩]) (st1 := [⟨0, 3, 1, [[(i64 s0_0)]]⟩, ⟨0, 47, 5, [[(.sl (List.map eI s1_0)), (.sl (List.map eI s1_1)), (i64 s1_2), (i64 s1_3), (.sl (List.map eRInstr s1_4))]]⟩]) [0, 1] rfl (.raw rfl rfl (.raw rfl rfl .nil)) (by decide) rfl rfl (.raw rfl rfl (.raw rfl rfl .nil)) ⟨.rfl, trivial⟩) ?_; exact Wk.to (L := [(6, (.bool false))]) ⟨.rfl, trivial⟩))
                  · replace h0 := Sh.ite_f b46 h0
                    refine AW.skip (hK2 _ ?_)
                    refine AW.seq fun K53 hK53 => ?_
                    refine AW.regionO (by rfl) ?_
                    refine ao_q (v := (.ptr 3 0 0 2)) go0 rfl (aq_fap fi49_2 rfl rfl (show 0 + 2 ≤ 6 by decide) rfl) ?_
                    refine ao_q (v := (i64 p1.num)) go0 rfl (aq_ldp ti3 rfl rfl rfl rfl) ?_
                    refine ao_q (v := (.bool (decide (p1.num = 0)))) go0 rfl (aq_eq rfl rfl) ?_
                    refine ao_q (v := (.bool (decide (p1.num = 0)))) go0 rfl (aq_as rfl) ?_
                    refine AO.done (hK53 _ ?_)
                    replace h0 := Sh.some_eq h0
                    subst r
                    exact AW.ret (Exists.intro _ (And.intro ((Wk.permk (L := [(6, (.bool (decide (p1.num = 0))))]) (st' := [⟨0, 3, 1, [[(i64 s0_0)]]⟩, ⟨0, 47, 5, [[(.sl (List.map eI s1_0)), (.sl (List.map eI s1_1)), (i64 s1_2), (i64 s1_3), (.sl (List.map eRInstr s1_4))]]⟩]) (st1 := [⟨0, 3, 1, [[(i64 s0_0)]]⟩, ⟨0, 47, 5, [[(.sl (List.map eI s1_0)), (.sl (List.map eI s1_1)), (i64 s1_2), (i64 s1_3), (.sl (List.map eRInstr s1_4))]]⟩]) [0, 1] rfl (.raw rfl rfl (.raw rfl rfl .nil)) (by decide) rfl rfl (.raw rfl rfl (.raw rfl rfl .nil)) ⟨.rfl, trivial⟩).trans (Wk.to (L := [(6, (.bool (decide (p1.num = 0))))]) ⟨.rfl, trivial⟩)) (And.intro rfl rfl)))
              refine AW.seq fun K54 hK54 => ?_
              refine AW.regionO (by rfl) ?_
              refine ao_q (v := (.bool (decide (p1.op = 20)))) go0 rfl (aq_eq rfl rfl) ?_
              refine ao_q (v := (.bool (decide (p1.op = 20)))) go0 rfl (aq_as rfl) ?_
              refine AO.done (hK54 _ ?_)
              refine AW.cond' (b := decide (p1.op = 20)) rfl (fun b55 => ?_) (fun b55 => ?_)
              · replace h1 := Sh.ite_t b55 h1
                exact AW.skip (M41 true (Sh.some_eq h1).symm _ (Wk.to (L := [(2, (.fn 27 [(.ptr 0 0 0 0), (.ptr 1 0 0 0)])), (3, (.ptr 2 0 0 0)), (4, (.ptr 3 0 0 0)), (9, (i64 p1.op)), (81, (.bool true))]) ⟨.rfl, .rfl, .rfl, .rfl, (.of (congrArg AV.bool b55)), trivial⟩))
              · replace h1 := Sh.ite_f b55 h1
                refine AW.regionO (by rfl) ?_
                refine ao_q (v := (.bool (decide (p1.op = 22)))) go0 rfl (aq_eq rfl rfl) ?_
                refine ao_q (v := (.bool (decide (p1.op = 22)))) go0 rfl (aq_as rfl) ?_
                exact AO.done (M41 (decide (p1.op = 22)) (Sh.some_eq h1).symm _ (Wk.to (L := [(2, (.fn 27 [(.ptr 0 0 0 0), (.ptr 1 0 0 0)])), (3, (.ptr 2 0 0 0)), (4, (.ptr 3 0 0 0)), (9, (i64 p1.op)), (81, (.bool (decide (p1.op = 22))))]) ⟨.rfl, .rfl, .rfl, .rfl, .rfl, trivial⟩))
      refine AW.seq fun K56 hK56 => ?_
      refine AW.regionO (by rfl) ?_
      refine ao_q (v := (.bool (decide (p1.op = 9)))) go0 rfl (aq_eq rfl rfl) ?_
      refine ao_q (v := (.bool (decide (p1.op = 9)))) go0 rfl (aq_as rfl) ?_
      refine AO.done (hK56 _ ?_)
      refine AW.cond' (b := decide (p1.op = 9)) rfl (fun b57 => ?_) (fun b57 => ?_)
      · replace h1 := Sh.ite_t b57 h1
        exact AW.skip (M19 true (Sh.some_eq h1).symm _ (Wk.to (L := [(2, (.fn 27 [(.ptr 0 0 0 0), (.ptr 1 0 0 0)])), (3, (.ptr 2 0 0 0)), (4, (.ptr 3 0 0 0)), (9, (i64 p1.op)), (33, (.bool true))]) ⟨.rfl, .rfl, .rfl, .rfl, (.of (congrArg AV.bool b57)), trivial⟩))
      · replace h1 := Sh.ite_f b57 h1
        refine AW.regionO (by rfl) ?_
        refine ao_q (v := (.bool (decide (p1.op = 24)))) go0 rfl (aq_eq rfl rfl) ?_
        refine ao_q (v := (.bool (decide (p1.op = 24)))) go0 rfl (aq_as rfl) ?_
        exact AO.done (M19 (decide (p1.op = 24)) (Sh.some_eq h1).symm _ (Wk.to (L := [(2, (.fn 27 [(.ptr 0 0 0 0), (.ptr 1 0 0 0)])), (3, (.ptr 2 0 0 0)), (4, (.ptr 3 0 0 0)), (9, (i64 p1.op)), (33, (.bool (decide (p1.op = 24))))]) ⟨.rfl, .rfl, .rfl, .rfl, .rfl, trivial⟩))

set_option maxRecDepth 100000 in
set_option maxHeartbeats 4000000 in
theorem impl_conAt_ok {N : Nat} {p0 : (List RDecl)} {p1 : Int} {r : Int × RCon} (h0 : impl_conAt N p0 p1 = some r) : ACalls Try.prog 66 [(.sl (List.map eRDecl p0)), (i64 p1)] [] (fun v st => v = (.tup [(i64 r.1), (.agg [(.sl (List.map eI r.2.fields))])]) ∧ st = []) := by
  unfold impl_conAt at h0
  refine ACalls.flat rfl ?_
  refine ACalls.intro Try.func66 rfl (by show 2 ≤ 38; decide) ?_
  show AW _ 0 _ (aret _ 0 Try.f66 _) ⟨38, _, _⟩
  refine AW.weaken (Wk.to (L := [(0, (.sl (List.map eRDecl p0))), (1, (i64 p1))]) ⟨.rfl, .rfl, trivial⟩) ?_
  refine AW.seq fun K1 hK1 => ?_
  refine AW.regionO (by rfl) ?_
  refine ao_q (v := (i64 0)) go0 rfl (aq_as rfl) ?_
  refine ao_alloc (m := 0) (st' := [⟨0, 112, 1, [[.zc]]⟩]) go0 zi112 rfl rfl ?_
  refine AO.done (hK1 _ ?_)
  refine AW.seq fun K2 hK2 => ?_
  refine AW.seq fun K3 hK3 => ?_
  refine AW.regionO (by rfl) ?_
  refine ao_q (v := (.sl (List.map eRDecl p0))) go0 rfl (aq_mv rfl) ?_
  refine ao_q (v := (i64 (Sh.len p0))) go0 rfl (aq_lens sl28 rfl) ?_
  refine ao_q (v := (i64 0)) go0 rfl (aq_mv rfl) ?_
  refine AO.done (hK3 _ ?_)
  obtain ⟨o6, h1, h0⟩ := Sh.cont_some h0
  have M6 : ∀ (_ : Unit), o6 = Sum.inr () → ∀ s, Wk 0 s ⟨38, envL [(5, (.ptr 0 0 0 0))], [⟨0, 112, 1, [[.zc]]⟩]⟩ → K2 s := by
    intro _ hq s hw
    subst o6
    try dsimp only at h0
    refine hK2 _ (AW.weaken hw ?_)
    refine AW.seq fun K7 hK7 => ?_
    refine AW.regionO (by rfl) ?_
    refine ao_q (v := (.agg [.zc])) go0 rfl (aq_bd ai112 bi112 zi112 rfl rfl) ?_
    refine ao_q (v := (i64 (-1))) go0 rfl (aq_as rfl) ?_
    refine ao_str (st' := [⟨0, 112, 1, [[.zc]]⟩]) go0 ti112 rfl rfl rfl rfl rfl rfl (show 0 + 1 ≤ 1 by decide) rfl ?_
    refine AO.done (hK7 _ ?_)
    replace h0 := Sh.some_eq h0
    subst r
    exact AW.ret (Exists.intro _ (And.intro ((Wk.cellLe (id := 0) (cs := [.zc]) (cs' := [(.sl (List.map eI []))]) (st' := [⟨0, 112, 1, [[(.sl (List.map eI []))]]⟩]) rfl ⟨le.zc, trivial⟩ rfl rfl).trans (Wk.to (L := [(4, (i64 (-1))), (5, (.ptr 0 0 0 0))]) ⟨.rfl, .rfl, trivial⟩)) (aq_ldpa (x := .tmp 5) (off := 0) (cs := [(.sl (List.map eI []))]) (vs := [(.sl (List.map eI []))]) ti112 rfl rfl rfl (show 0 + 1 ≤ 1 by decide) rfl _ rfl)))
  refine AW.block (AW.loopF (σ := Int × Int) (fun n v => impl_conAt_L1 p0 n v.1 v.2 = some o6) (fun (c4, t5) => ⟨38, envL [(1, (i64 c4)), (5, (.ptr 0 0 0 0)), (8, (.sl (List.map eRDecl p0))), (9, (i64 (Sh.len p0))), (10, (i64 t5))], [⟨0, 112, 1, [[.zc]]⟩]⟩) N (p1, 0) h1 (Wk.to (L := [(1, (i64 p1)), (5, (.ptr 0 0 0 0)), (8, (.sl (List.map eRDecl p0))), (9, (i64 (Sh.len p0))), (10, (i64 0))]) ⟨.rfl, .rfl, .rfl, .rfl, .rfl, trivial⟩) (fun _ hv => by rw [impl_conAt_L1] at hv; cases hv) ?_)
  rintro n ⟨c4, t5⟩ h1
  try dsimp only at h1 ⊢
  rw [impl_conAt_L1] at h1
  refine AW.seq fun K8 hK8 => ?_
  refine AW.regionO (by rfl) ?_
  refine ao_q (v := (.bool (decide (t5 < (Sh.len p0))))) go0 rfl (aq_lt rfl rfl) ?_
  refine AO.done (hK8 _ ?_)
  refine AW.seq fun K9 hK9 => ?_
  refine AW.cond' (b := decide (t5 < (Sh.len p0))) rfl (fun b10 => ?_) (fun b10 => ?_)
  · replace h1 := Sh.ite_t b10 h1
    refine AW.skip (hK9 _ ?_)
    refine AW.seq fun K11 hK11 => ?_
    refine AW.block ?_
    refine AW.seq fun K12 hK12 => ?_
    refine AW.regionO (by rfl) ?_
    refine ao_q (v := (i64 t5)) go0 rfl (aq_mv rfl) ?_
    obtain ⟨c13, gc13, h1⟩ := Sh.bind_some h1
    refine ao_q (v := (.iptr (eRDecl c13) 0)) go0 rfl (aq_ixs ei28 rfl rfl gc13 rfl) ?_
    refine ao_q (v := (.agg [(i64 c13.from_), (i64 c13.to), (.sl (List.map eRCon c13.cons))])) go0 rfl (aq_ldia ti69 rfl (show 0 + 3 ≤ 3 by decide) rfl) ?_
    refine ao_alloc (m := 1) (st' := [⟨0, 112, 1, [[.zc]]⟩, ⟨0, 69, 3, [[(i64 0), (i64 0), .zc]]⟩]) go0 zi69 rfl rfl ?_
    refine ao_q (v := (i64 t5)) go0 rfl (aq_as rfl) ?_
    refine ao_str (st' := [⟨0, 112, 1, [[.zc]]⟩, ⟨0, 69, 3, [[(i64 c13.from_), (i64 c13.to), (.sl (List.map eRCon c13.cons))]]⟩]) go0 ti69 rfl rfl rfl rfl rfl rfl (show 0 + 3 ≤ 3 by decide) rfl ?_
    refine AO.done (hK12 _ ?_)
    refine AW.seq fun K14 hK14 => ?_
    refine AW.seq fun K15 hK15 => ?_
    obtain ⟨o17, h2, h1⟩ := Sh.bind_some h1
    have M17 : ∀ (t16 : Bool), o17 = t16 → ∀ s, Wk 0 s ⟨38, envL [(1, (i64 c4)), (5, (.ptr 0 0 0 0)), (6, (i64 t5)), (7, (.ptr 1 0 0 0)), (8, (.sl (List.map eRDecl p0))), (9, (i64 (Sh.len p0))), (10, (i64 t5)), (23, (.bool t16))], [⟨0, 112, 1, [[.zc]]⟩, ⟨0, 69, 3, [[(i64 c13.from_), (i64 c13.to), (.sl (List.map eRCon c13.cons))]]⟩]⟩ → K15 s := by
      intro t16 hq s hw
      subst o17
      try dsimp only at h1
      refine hK15 _ (AW.weaken hw ?_)
      refine AW.cond' (b := t16) rfl (fun b18 => ?_) (fun b18 => ?_)
      · replace h1 := Sh.ite_t b18 h1
        refine AW.seq fun K19 hK19 => ?_
        refine AW.drawTailO 8 (by kernel_rfl) (by kernel_rfl) (by rfl) ?_
        refine d_q (v := (i64 t5)) go0 rfl (aq_mv rfl) ?_
        refine d_q (v := (i64 (Sh.w (t5 + 1)))) go0 rfl (aq_add rfl rfl) ?_
        refine d_q (v := (.ptr 1 0 0 2)) go0 rfl (aq_fap fi69_2 rfl rfl (show 0 + 2 ≤ 3 by decide) rfl) ?_
        refine d_q (v := (.sl (List.map eRCon c13.cons))) go0 rfl (aq_ldp ti67 rfl rfl rfl rfl) ?_
        refine d_q (v := (i64 c4)) go0 rfl (aq_mv rfl) ?_
        obtain ⟨c20, gc20, h1⟩ := Sh.bind_some h1
        refine d_q (v := (.iptr (eRCon c20) 0)) go0 rfl (aq_ixs ei67 rfl rfl gc20 rfl) ?_
        refine d_q (v := (.agg [(.sl (List.map eI c20.fields))])) go0 rfl (aq_ldia ti112 rfl (show 0 + 1 ≤ 1 by decide) rfl) ?_
        refine d_q (v := (i64 (Sh.w (t5 + 1)))) go0 rfl (aq_as rfl) ?_
        refine d_done ?_
        refine ao_str (st' := [⟨0, 112, 1, [[(.sl (List.map eI c20.fields))]]⟩, ⟨0, 69, 3, [[(i64 c13.from_), (i64 c13.to), (.sl (List.map eRCon c13.cons))]]⟩]) go0 ti112 rfl rfl rfl rfl rfl rfl (show 0 + 1 ≤ 1 by decide) rfl ?_
        refine AO.done (hK19 _ ?_)
        replace h1 := Sh.some_eq h1
        subst o6
        try dsimp only [id] at h0
        replace h0 := Sh.some_eq h0
        subst r
        exact AW.ret (Exists.intro _ (And.intro ((Wk.permk (L := [(4, (i64 (Sh.w (t5 + 1)))), (5, (.ptr 0 0 0 0))]) (st' := [⟨0, 112, 1, [[(.sl (List.map eI c20.fields))]]⟩]) (st1 := [⟨0, 112, 1, [[(.sl (List.map eI c20.fields))]]⟩]) [0] rfl .nil (by decide) rfl rfl (.raw rfl rfl .nil) ⟨.rfl, .rfl, trivial⟩).trans (Wk.to (L := [(4, (i64 (Sh.w (t5 + 1)))), (5, (.ptr 0 0 0 0))]) ⟨.rfl, .rfl, trivial⟩)) (aq_ldpa (x := .tmp 5) (off := 0) (cs := [(.sl (List.map eI c20.fields))]) (vs := [(.sl (List.map eI c20.fields))]) ti112 rfl rfl rfl (show 0 + 1 ≤ 1 by decide) rfl _ rfl)))
      · replace h1 := Sh.ite_f b18 h1
        refine AW.skip (hK14 _ ?_)
        refine AW.regionO (by rfl) ?_
        refine ao_q (v := (i64 c4)) go0 rfl (aq_mv rfl) ?_
        refine ao_q (v := (.ptr 1 0 0 2)) go0 rfl (aq_fap fi69_2 rfl rfl (show 0 + 2 ≤ 3 by decide) rfl) ?_
        refine ao_q (v := (.sl (List.map eRCon c13.cons))) go0 rfl (aq_ldp ti67 rfl rfl rfl rfl) ?_
        refine ao_q (v := (i64 (Sh.len c13.cons))) go0 rfl (aq_lens sl67 rfl) ?_
        refine ao_q (v := (i64 (Sh.w (c4 - (Sh.len c13.cons))))) go0 rfl (aq_sub rfl rfl) ?_
        refine ao_q (v := (i64 (Sh.w (c4 - (Sh.len c13.cons))))) go0 rfl (aq_as rfl) ?_
        refine AO.done (hK11 _ ?_)
        refine AW.regionO (by rfl) ?_
        refine ao_q (v := (i64 (Sh.w (t5 + 1)))) go0 rfl (aq_add rfl rfl) ?_
        refine ao_q (v := (i64 (Sh.w (t5 + 1)))) go0 rfl (aq_mv rfl) ?_
        exact AO.done (Exists.intro (Sh.w (c4 - (Sh.len c13.cons)), Sh.w (t5 + 1)) (And.intro h1 (by refine Wk.trans (Wk.permk (L := [(1, (i64 (Sh.w (c4 - (Sh.len c13.cons))))), (5, (.ptr 0 0 0 0)), (8, (.sl (List.map eRDecl p0))), (9, (i64 (Sh.len p0))), (10, (i64 (Sh.w (t5 + 1))))]) (st' := [⟨0, 112, 1, [[.zc]]⟩]) (st1 := [⟨0, 112, 1, [[.zc]]⟩]) [0] rfl .nil (by decide) rfl rfl (.raw rfl rfl .nil) ⟨.rfl, .rfl, .rfl, .rfl, .rfl, trivial⟩) ?_; exact Wk.to (L := [(1, (i64 (Sh.w (c4 - (Sh.len c13.cons))))), (5, (.ptr 0 0 0 0)), (8, (.sl (List.map eRDecl p0))), (9, (i64 (Sh.len p0))), (10, (i64 (Sh.w (t5 + 1))))]) ⟨.rfl, .rfl, .rfl, .rfl, .rfl, trivial⟩)))
    refine AW.regionO (by rfl) ?_
    refine ao_q (v := (i64 c4)) go0 rfl (aq_mv rfl) ?_
    refine ao_q (v := (.bool (decide (0 ≤ c4)))) go0 rfl (aq_ge rfl rfl) ?_
    refine ao_q (v := (.bool (decide (0 ≤ c4)))) go0 rfl (aq_mv rfl) ?_
    rcases Sh.ite_some h2 with ⟨b21, h2⟩ | ⟨b21, h2⟩
    · skip
      refine ao_q (v := (i64 c4)) (go1 rfl rfl b21) rfl (aq_mv rfl) ?_
      refine ao_q (v := (.ptr 1 0 0 2)) (go1 rfl rfl b21) rfl (aq_fap fi69_2 rfl rfl (show 0 + 2 ≤ 3 by decide) rfl) ?_
      refine ao_q (v := (.sl (List.map eRCon c13.cons))) (go1 rfl rfl b21) rfl (aq_ldp ti67 rfl rfl rfl rfl) ?_
      refine ao_q (v := (i64 (Sh.len c13.cons))) (go1 rfl rfl b21) rfl (aq_lens sl67 rfl) ?_
      refine ao_q (v := (.bool (decide (c4 < (Sh.len c13.cons))))) (go1 rfl rfl b21) rfl (aq_lt rfl rfl) ?_
      refine ao_q (v := (.bool (decide (c4 < (Sh.len c13.cons))))) go0 rfl (aq_pkt rfl b21 rfl) ?_
      exact AO.done (M17 (decide (c4 < (Sh.len c13.cons))) (Sh.some_eq h2).symm _ (Wk.to (L := [(1, (i64 c4)), (5, (.ptr 0 0 0 0)), (6, (i64 t5)), (7, (.ptr 1 0 0 0)), (8, (.sl (List.map eRDecl p0))), (9, (i64 (Sh.len p0))), (10, (i64 t5)), (23, (.bool (decide (c4 < (Sh.len c13.cons)))))]) ⟨.rfl, .rfl, .rfl, .rfl, .rfl, .rfl, .rfl, .rfl, trivial⟩))
    · skip
      refine ao_skip rfl rfl b21 ?_
      refine ao_skip rfl rfl b21 ?_
      refine ao_skip rfl rfl b21 ?_
      refine ao_skip rfl rfl b21 ?_
      refine ao_skip rfl rfl b21 ?_
      refine ao_q (v := (.bool false)) go0 rfl (aq_pkf rfl b21 rfl) ?_
      exact AO.done (M17 false (Sh.some_eq h2).symm _ (Wk.to (L := [(1, (i64 c4)), (5, (.ptr 0 0 0 0)), (6, (i64 t5)), (7, (.ptr 1 0 0 0)), (8, (.sl (List.map eRDecl p0))), (9, (i64 (Sh.len p0))), (10, (i64 t5)), (23, (.bool false))]) ⟨.rfl, .rfl, .rfl, .rfl, .rfl, .rfl, .rfl, .rfl, trivial⟩))
  · replace h1 := Sh.ite_f b10 h1
    exact AW.exit (M6 () (Sh.some_eq h1).symm _ (Wk.to (L := [(5, (.ptr 0 0 0 0))]) ⟨.rfl, trivial⟩))

set_option maxRecDepth 100000 in
set_option maxHeartbeats 4000000 in
theorem impl_fieldsOf_ok {N : Nat} {p0 : (List RDecl)} {p1 : Int} {r : (List Int)} (h0 : impl_fieldsOf N p0 p1 = some r) : ACalls Try.prog 51 [(.sl (List.map eRDecl p0)), (i64 p1)] [] (fun v st => v = (.sl (List.map eI r)) ∧ st = []) := by
  unfold impl_fieldsOf at h0
  refine ACalls.intro Try.func51 rfl (by show 2 ≤ 15; decide) ?_
  show AW _ 0 _ (aret _ 0 Try.f51 _) ⟨15, _, _⟩
  refine AW.weaken (Wk.to (L := [(0, (.sl (List.map eRDecl p0))), (1, (i64 p1))]) ⟨.rfl, .rfl, trivial⟩) ?_
  refine AW.seq fun K1 hK1 => ?_
  refine AW.regionO (by rfl) ?_
  refine ao_q (v := .zc) go0 rfl (aq_as rfl) ?_
  refine AO.done (hK1 _ ?_)
  refine AW.seq fun K2 hK2 => ?_
  refine AW.regionO (by rfl) ?_
  refine ao_q (v := (.sl (List.map eRDecl p0))) go0 rfl (aq_mv rfl) ?_
  refine ao_q (v := (i64 p1)) go0 rfl (aq_mv rfl) ?_
  obtain ⟨q3, gq3, h0⟩ := Sh.bind_some h0
  refine ao_call (v' := (.tup [(i64 q3.1), (.agg [(.sl (List.map eI q3.2.fields))])])) (st' := []) go0 hb66 (impl_conAt_ok gq3) rfl rfl trivial rfl rfl ?_
  refine ao_q (v := (.tup [(i64 q3.1), (.agg [(.sl (List.map eI q3.2.fields))])])) go0 rfl (aq_mv rfl) ?_
  refine ao_q (v := (i64 q3.1)) go0 rfl (aq_ex rfl rfl) ?_
  refine ao_q (v := (.agg [(.sl (List.map eI q3.2.fields))])) go0 rfl (aq_ex rfl rfl) ?_
  refine ao_alloc (m := 0) (st' := [⟨0, 112, 1, [[.zc]]⟩]) go0 zi112 rfl rfl ?_
  refine ao_q (v := (i64 q3.1)) go0 rfl (aq_as rfl) ?_
  refine ao_str (st' := [⟨0, 112, 1, [[(.sl (List.map eI q3.2.fields))]]⟩]) go0 ti112 rfl rfl rfl rfl rfl rfl (show 0 + 1 ≤ 1 by decide) rfl ?_
  refine AO.done (hK2 _ ?_)
  refine AW.seq fun K4 hK4 => ?_
  refine AW.regionO (by rfl) ?_
  refine ao_q (v := (.ptr 0 0 0 0)) go0 rfl (aq_fap fi112_0 rfl rfl (show 0 + 0 ≤ 1 by decide) rfl) ?_
  refine ao_q (v := (.sl (List.map eI q3.2.fields))) go0 rfl (aq_ldp ti44 rfl rfl rfl rfl) ?_
  refine ao_q (v := (.sl (List.map eI q3.2.fields))) go0 rfl (aq_as rfl) ?_
  refine AO.done (hK4 _ ?_)
  replace h0 := Sh.some_eq h0
  subst r
  exact AW.ret (Exists.intro _ (And.intro ((Wk.permk (L := [(4, (.sl (List.map eI q3.2.fields)))]) (st' := []) (st1 := []) [] rfl .nil (by decide) rfl rfl .nil ⟨.rfl, trivial⟩).trans (Wk.to (L := [(4, (.sl (List.map eI q3.2.fields)))]) ⟨.rfl, trivial⟩)) (And.intro rfl rfl)))

set_option maxRecDepth 100000 in
set_option maxHeartbeats 4000000 in
theorem impl_signatures_argsOf_ok {N : Nat} {p0 : RSignatures} {p1 : RInstr} {r : Int × Int} (h0 : impl_signatures_argsOf N p0 p1 = some r) : ACalls Try.prog 31 [(.agg [(.sl (List.map eRDecl p0.decls)), (.sl (List.map eRSignature p0.funcs))]), (.agg [(i64 p1.op), (i64 p1.dst), (i64 p1.num), (i64 p1.into), (.sl (List.map eI p1.args)), (.sl (List.map eI p1.jumps))])] [] (fun v st => v = (.tup [(i64 r.1), (i64 r.2)]) ∧ st = []) := by
  unfold impl_signatures_argsOf at h0
  refine ACalls.intro Try.func31 rfl (by show 2 ≤ 53; decide) ?_
  show AW _ 0 _ (aret _ 0 Try.f31 _) ⟨53, _, _⟩
  refine AW.weaken (Wk.to (L := [(0, (.agg [(.sl (List.map eRDecl p0.decls)), (.sl (List.map eRSignature p0.funcs))])), (1, (.agg [(i64 p1.op), (i64 p1.dst), (i64 p1.num), (i64 p1.into), (.sl (List.map eI p1.args)), (.sl (List.map eI p1.jumps))]))]) ⟨.rfl, .rfl, trivial⟩) ?_
  refine AW.seq fun K1 hK1 => ?_
  refine AW.regionO (by rfl) ?_
  refine ao_box (m := 0) (st' := [⟨0, 41, 2, [[(.sl (List.map eRDecl p0.decls)), (.sl (List.map eRSignature p0.funcs))]]⟩]) go0 rfl rfl rfl rfl rfl ?_
  refine ao_box (m := 1) (st' := [⟨0, 41, 2, [[(.sl (List.map eRDecl p0.decls)), (.sl (List.map eRSignature p0.funcs))]]⟩, ⟨0, 49, 6, [[(i64 p1.op), (i64 p1.dst), (i64 p1.num), (i64 p1.into), (.sl (List.map eI p1.args)), (.sl (List.map eI p1.jumps))]]⟩]) go0 rfl rfl rfl rfl rfl ?_
  refine ao_q (v := (i64 0)) go0 rfl (aq_as rfl) ?_
  refine ao_q (v := (i64 0)) go0 rfl (aq_as rfl) ?_
  refine AO.done (hK1 _ ?_)
  refine AW.seq fun K2 hK2 => ?_
  refine AW.regionO (by rfl) ?_
  refine ao_q (v := (i64 1)) go0 rfl (aq_as rfl) ?_
  refine AO.done (hK2 _ ?_)
  refine AW.seq fun K3 hK3 => ?_
  obtain ⟨o5, h1, h0⟩ := Sh.cont_some h0
  have M5 : ∀ (n4 : Int), o5 = Sum.inr n4 → ∀ s, Wk 0 s ⟨53, envL [(6, (i64 n4))], []⟩ → K3 s := by
    intro n4 hq s hw
    subst o5
    try dsimp only at h0
    refine hK3 _ (AW.weaken hw ?_)
    refine AW.seq fun K6 hK6 => ?_
    refine AW.regionO (by rfl) ?_
    refine ao_q (v := (i64 n4)) go0 rfl (aq_mv rfl) ?_
    refine ao_q (v := (i64 n4)) go0 rfl (aq_mv rfl) ?_
    refine ao_q (v := (i64 n4)) go0 rfl (aq_as rfl) ?_
    refine ao_q (v := (i64 n4)) go0 rfl (aq_as rfl) ?_
    refine AO.done (hK6 _ ?_)
    replace h0 := Sh.some_eq h0
    subst r
    exact AW.ret (Exists.intro _ (And.intro (Wk.to (L := [(4, (i64 n4)), (5, (i64 n4))]) ⟨.rfl, .rfl, trivial⟩) (And.intro rfl rfl)))
  refine AW.seq fun K7 hK7 => ?_
  refine AW.regionO (by rfl) ?_
  refine ao_q (v := (.ptr 1 0 0 0)) go0 rfl (aq_fap fi49_0 rfl rfl (show 0 + 0 ≤ 6 by decide) rfl) ?_
  refine ao_q (v := (i64 p1.op)) go0 rfl (aq_ldp ti3 rfl rfl rfl rfl) ?_
  refine AO.done (hK7 _ ?_)
  refine AW.block ?_
  refine AW.seq fun K8 hK8 => ?_
  obtain ⟨o10, h2, h1⟩ := Sh.bind_some h1
  have M10 : ∀ (t9 : Bool), o10 = t9 → ∀ s, Wk 0 s ⟨53, envL [(2, (.ptr 0 0 0 0)), (3, (.ptr 1 0 0 0)), (6, (i64 1)), (8, (i64 p1.op)), (9, (.bool t9))], [⟨0, 41, 2, [[(.sl (List.map eRDecl p0.decls)), (.sl (List.map eRSignature p0.funcs))]]⟩, ⟨0, 49, 6, [[(i64 p1.op), (i64 p1.dst), (i64 p1.num), (i64 p1.into), (.sl (List.map eI p1.args)), (.sl (List.map eI p1.jumps))]]⟩]⟩ → K8 s := by
    intro t9 hq s hw
    subst o10
    try dsimp only at h1
    refine hK8 _ (AW.weaken hw ?_)
    refine AW.cond' (b := t9) rfl (fun b11 => ?_) (fun b11 => ?_)
    · replace h1 := Sh.ite_t b11 h1
      refine AW.regionO (by rfl) ?_
      refine ao_q (v := (i64 0)) go0 rfl (aq_as rfl) ?_
      exact AO.done (M5 0 (Sh.some_eq h1).symm _ (by refine Wk.trans (Wk.permk (L := [(6, (i64 0))]) (st' := []) (st1 := []) [] rfl .nil (by decide) rfl rfl .nil ⟨.rfl, trivial⟩) ?_; exact Wk.to (L := [(6, (i64 0))]) ⟨.rfl, trivial⟩))
    · replace h1 := Sh.ite_f b11 h1
      refine AW.seq fun K12 hK12 => ?_
      obtain ⟨o14, h2, h1⟩ := Sh.bind_some h1
      have M14 : ∀ (t13 : Bool), o14 = t13 → ∀ s, Wk 0 s ⟨53, envL [(2, (.ptr 0 0 0 0)), (3, (.ptr 1 0 0 0)), (6, (i64 1)), (8, (i64 p1.op)), (12, (.bool t13))], [⟨0, 41, 2, [[(.sl (List.map eRDecl p0.decls)), (.sl (List.map eRSignature p0.funcs))]]⟩, ⟨0, 49, 6, [[(i64 p1.op), (i64 p1.dst), (i64 p1.num), (i64 p1.into), (.sl (List.map eI p1.args)), (.sl (List.map eI p1.jumps))]]⟩]⟩ → K12 s := by
        intro t13 hq s hw
        subst o14
        try dsimp only at h1
        refine hK12 _ (AW.weaken hw ?_)
        refine AW.cond' (b := t13) rfl (fun b15 => ?_) (fun b15 => ?_)
        · replace h1 := Sh.ite_t b15 h1
          refine AW.regionO (by rfl) ?_
          refine ao_q (v := (i64 2)) go0 rfl (aq_as rfl) ?_
          exact AO.done (M5 2 (Sh.some_eq h1).symm _ (by refine Wk.trans (Wk.permk (L := [(6, (i64 2))]) (st' := []) (st1 := []) [] rfl .nil (by decide) rfl rfl .nil ⟨.rfl, trivial⟩) ?_; exact Wk.to (L := [(6, (i64 2))]) ⟨.rfl, trivial⟩))
        · replace h1 := Sh.ite_f b15 h1
          refine AW.seq fun K16 hK16 => ?_
          refine AW.regionO (by rfl) ?_
          refine ao_q (v := (.bool (decide (p1.op = 6)))) go0 rfl (aq_eq rfl rfl) ?_
          refine ao_q (v := (.bool (decide (p1.op = 6)))) go0 rfl (aq_as rfl) ?_
          refine AO.done (hK16 _ ?_)
          refine AW.cond' (b := decide (p1.op = 6)) rfl (fun b17 => ?_) (fun b17 => ?_)
          · replace h1 := Sh.ite_t b17 h1
            refine AW.regionO (by rfl) ?_
            refine ao_q (v := (.ptr 0 0 0 0)) go0 rfl (aq_fap fi41_0 rfl rfl (show 0 + 0 ≤ 2 by decide) rfl) ?_
            refine ao_q (v := (.sl (List.map eRDecl p0.decls))) go0 rfl (aq_ldp ti28 rfl rfl rfl rfl) ?_
            refine ao_q (v := (.ptr 1 0 0 2)) go0 rfl (aq_fap fi49_2 rfl rfl (show 0 + 2 ≤ 6 by decide) rfl) ?_
            refine ao_q (v := (i64 p1.num)) go0 rfl (aq_ldp ti3 rfl rfl rfl rfl) ?_
            obtain ⟨q18, gq18, h1⟩ := Sh.bind_some h1
            refine ao_call (v' := (.sl (List.map eI q18))) (st' := [⟨0, 41, 2, [[(.sl (List.map eRDecl p0.decls)), (.sl (List.map eRSignature p0.funcs))]]⟩, ⟨0, 49, 6, [[(i64 p1.op), (i64 p1.dst), (i64 p1.num), (i64 p1.into), (.sl (List.map eI p1.args)), (.sl (List.map eI p1.jumps))]]⟩]) go0 hb51 (impl_fieldsOf_ok gq18) rfl rfl trivial rfl rfl ?_
            refine ao_q (v := (i64 (Sh.len q18))) go0 rfl (aq_lens sl44 rfl) ?_
            refine ao_q (v := (i64 (Sh.len q18))) go0 rfl (aq_as rfl) ?_
            exact AO.done (M5 (Sh.len q18) (Sh.some_eq h1).symm _ (by refine Wk.trans (Wk.permk (L := [(6, (i64 (Sh.len q18)))]) (st' := []) (st1 := []) [] rfl .nil (by decide) rfl rfl .nil ⟨.rfl, trivial⟩) ?_; exact Wk.to (L := [(6, (i64 (Sh.len q18)))]) ⟨.rfl, trivial⟩))
          · replace h1 := Sh.ite_f b17 h1
            refine AW.seq fun K19 hK19 => ?_
            obtain ⟨o21, h2, h1⟩ := Sh.bind_some h1
            have M21 : ∀ (t20 : Bool), o21 = t20 → ∀ s, Wk 0 s ⟨53, envL [(2, (.ptr 0 0 0 0)), (3, (.ptr 1 0 0 0)), (6, (i64 1)), (8, (i64 p1.op)), (26, (.bool t20))], [⟨0, 41, 2, [[(.sl (List.map eRDecl p0.decls)), (.sl (List.map eRSignature p0.funcs))]]⟩, ⟨0, 49, 6, [[(i64 p1.op), (i64 p1.dst), (i64 p1.num), (i64 p1.into), (.sl (List.map eI p1.args)), (.sl (List.map eI p1.jumps))]]⟩]⟩ → K19 s := by
              intro t20 hq s hw
              subst o21
              try dsimp only at h1
              refine hK19 _ (AW.weaken hw ?_)
              refine AW.cond' (b := t20) rfl (fun b22 => ?_) (fun b22 => ?_)
              · replace h1 := Sh.ite_t b22 h1
                refine AW.regionO (by rfl) ?_
                refine ao_q (v := (.ptr 0 0 0 1)) go0 rfl (aq_fap fi41_1 rfl rfl (show 0 + 1 ≤ 2 by decide) rfl) ?_
                refine ao_q (v := (.sl (List.map eRSignature p0.funcs))) go0 rfl (aq_ldp ti39 rfl rfl rfl rfl) ?_
                refine ao_q (v := (.ptr 1 0 0 2)) go0 rfl (aq_fap fi49_2 rfl rfl (show 0 + 2 ≤ 6 by decide) rfl) ?_
                refine ao_q (v := (i64 p1.num)) go0 rfl (aq_ldp ti3 rfl rfl rfl rfl) ?_
                obtain ⟨c23, gc23, h1⟩ := Sh.bind_some h1
                refine ao_q (v := (.iptr (eRSignature c23) 0)) go0 rfl (aq_ixs ei39 rfl rfl gc23 rfl) ?_
                refine ao_q (v := (.iptr (eRSignature c23) 0)) go0 rfl (aq_fai fi73_0 rfl rfl) ?_
                refine ao_q (v := (.sl (List.map eI c23.params))) go0 rfl (aq_ldi ti44 rfl rfl) ?_
                refine ao_q (v := (i64 (Sh.len c23.params))) go0 rfl (aq_lens sl44 rfl) ?_
                refine ao_q (v := (i64 (Sh.len c23.params))) go0 rfl (aq_as rfl) ?_
                exact AO.done (M5 (Sh.len c23.params) (Sh.some_eq h1).symm _ (by refine Wk.trans (Wk.permk (L := [(6, (i64 (Sh.len c23.params)))]) (st' := []) (st1 := []) [] rfl .nil (by decide) rfl rfl .nil ⟨.rfl, trivial⟩) ?_; exact Wk.to (L := [(6, (i64 (Sh.len c23.params)))]) ⟨.rfl, trivial⟩))
              · replace h1 := Sh.ite_f b22 h1
                refine AW.seq fun K24 hK24 => ?_
                refine AW.regionO (by rfl) ?_
                refine ao_q (v := (.bool (decide (p1.op = 10)))) go0 rfl (aq_eq rfl rfl) ?_
                refine ao_q (v := (.bool (decide (p1.op = 10)))) go0 rfl (aq_as rfl) ?_
                refine AO.done (hK24 _ ?_)
                refine AW.cond' (b := decide (p1.op = 10)) rfl (fun b25 => ?_) (fun b25 => ?_)
                · replace h1 := Sh.ite_t b25 h1
                  refine AW.regionO (by rfl) ?_
                  refine ao_q (v := (.ptr 0 0 0 1)) go0 rfl (aq_fap fi41_1 rfl rfl (show 0 + 1 ≤ 2 by decide) rfl) ?_
                  refine ao_q (v := (.sl (List.map eRSignature p0.funcs))) go0 rfl (aq_ldp ti39 rfl rfl rfl rfl) ?_
                  refine ao_q (v := (.ptr 1 0 0 2)) go0 rfl (aq_fap fi49_2 rfl rfl (show 0 + 2 ≤ 6 by decide) rfl) ?_
                  refine ao_q (v := (i64 p1.num)) go0 rfl (aq_ldp ti3 rfl rfl rfl rfl) ?_
                  obtain ⟨c26, gc26, h1⟩ := Sh.bind_some h1
                  refine ao_q (v := (.iptr (eRSignature c26) 0)) go0 rfl (aq_ixs ei39 rfl rfl gc26 rfl) ?_
                  refine ao_q (v := (.iptr (eRSignature c26) 0)) go0 rfl (aq_fai fi73_0 rfl rfl) ?_
                  refine ao_q (v := (.sl (List.map eI c26.params))) go0 rfl (aq_ldi ti44 rfl rfl) ?_
                  refine ao_q (v := (i64 (Sh.len c26.params))) go0 rfl (aq_lens sl44 rfl) ?_
                  refine ao_q (v := (i64 (Sh.w ((Sh.len c26.params) - 1)))) go0 rfl (aq_sub rfl rfl) ?_
                  refine ao_q (v := (i64 (Sh.w ((Sh.len c26.params) - 1)))) go0 rfl (aq_as rfl) ?_
                  exact AO.done (M5 (Sh.w ((Sh.len c26.params) - 1)) (Sh.some_eq h1).symm _ (by refine Wk.trans (Wk.permk (L := [(6, (i64 (Sh.w ((Sh.len c26.params) - 1))))]) (st' := []) (st1 := []) [] rfl .nil (by decide) rfl rfl .nil ⟨.rfl, trivial⟩) ?_; exact Wk.to (L := [(6, (i64 (Sh.w ((Sh.len c26.params) - 1))))]) ⟨.rfl, trivial⟩))
                · replace h1 := Sh.ite_f b25 h1
                  refine AW.seq fun K27 hK27 => ?_
                  obtain ⟨o29, h2, h1⟩ := Sh.bind_some h1
                  have M29 : ∀ (t28 : Bool), o29 = t28 → ∀ s, Wk 0 s ⟨53, envL [(6, (i64 1)), (48, (.bool t28))], []⟩ → K27 s := by
                    intro t28 hq s hw
                    subst o29
                    try dsimp only at h1
                    refine hK27 _ (AW.weaken hw ?_)
                    refine AW.cond' (b := t28) rfl (fun b30 => ?_) (fun b30 => ?_)
                    · replace h1 := Sh.ite_t b30 h1
                      refine AW.seq fun K31 hK31 => ?_
                      refine AW.regionO (by rfl) ?_
                      refine ao_q (v := (i64 1)) go0 rfl (aq_as rfl) ?_
                      refine ao_q (v := (i64 4)) go0 rfl (aq_as rfl) ?_
                      refine AO.done (hK31 _ ?_)
                      replace h1 := Sh.some_eq h1
                      subst o5
                      try dsimp only [id] at h0
                      replace h0 := Sh.some_eq h0
                      subst r
                      exact AW.ret (Exists.intro _ (And.intro (Wk.to (L := [(4, (i64 1)), (5, (i64 4))]) ⟨.rfl, .rfl, trivial⟩) (And.intro rfl rfl)))
                    · replace h1 := Sh.ite_f b30 h1
                      exact AW.skip (M5 1 (Sh.some_eq h1).symm _ (Wk.to (L := [(6, (i64 1))]) ⟨.rfl, trivial⟩))
                  refine AW.seq fun K32 hK32 => ?_
                  refine AW.regionO (by rfl) ?_
                  refine ao_q (v := (.bool (decide (p1.op = 16)))) go0 rfl (aq_eq rfl rfl) ?_
                  refine ao_q (v := (.bool (decide (p1.op = 16)))) go0 rfl (aq_as rfl) ?_
                  refine AO.done (hK32 _ ?_)
                  refine AW.cond' (b := decide (p1.op = 16)) rfl (fun b33 => ?_) (fun b33 => ?_)
                  · replace h2 := Sh.ite_t b33 h2
                    exact AW.skip (M29 true (Sh.some_eq h2).symm _ (by refine Wk.trans (Wk.permk (L := [(6, (i64 1)), (48, (.bool (decide (p1.op = 16))))]) (st' := []) (st1 := []) [] rfl .nil (by decide) rfl rfl .nil ⟨.rfl, .rfl, trivial⟩) ?_; exact Wk.to (L := [(6, (i64 1)), (48, (.bool true))]) ⟨.rfl, (.of (congrArg AV.bool b33)), trivial⟩))
                  · replace h2 := Sh.ite_f b33 h2
                    refine AW.regionO (by rfl) ?_
                    refine ao_q (v := (.bool (decide (p1.op = 17)))) go0 rfl (aq_eq rfl rfl) ?_
                    refine ao_q (v := (.bool (decide (p1.op = 17)))) go0 rfl (aq_as rfl) ?_
                    exact AO.done (M29 (decide (p1.op = 17)) (Sh.some_eq h2).symm _ (by refine Wk.trans (Wk.permk (L := [(6, (i64 1)), (48, (.bool (decide (p1.op = 17))))]) (st' := []) (st1 := []) [] rfl .nil (by decide) rfl rfl .nil ⟨.rfl, .rfl, trivial⟩) ?_; exact Wk.to (L := [(6, (i64 1)), (48, (.bool (decide (p1.op = 17))))]) ⟨.rfl, .rfl, trivial⟩))
            refine AW.seq fun K34 hK34 => ?_
            refine AW.regionO (by rfl) ?_
            refine ao_q (v := (.bool (decide (p1.op = 9)))) go0 rfl (aq_eq rfl rfl) ?_
            refine ao_q (v := (.bool (decide (p1.op = 9)))) go0 rfl (aq_as rfl) ?_
            refine AO.done (hK34 _ ?_)
            refine AW.cond' (b := decide (p1.op = 9)) rfl (fun b35 => ?_) (fun b35 => ?_)
            · replace h2 := Sh.ite_t b35 h2
              exact AW.skip (M21 true (Sh.some_eq h2).symm _ (Wk.to (L := [(2, (.ptr 0 0 0 0)), (3, (.ptr 1 0 0 0)), (6, (i64 1)), (8, (i64 p1.op)), (26, (.bool true))]) ⟨.rfl, .rfl, .rfl, .rfl, (.of (congrArg AV.bool b35)), trivial⟩))
            · replace h2 := Sh.ite_f b35 h2
              refine AW.regionO (by rfl) ?_
              refine ao_q (v := (.bool (decide (p1.op = 24)))) go0 rfl (aq_eq rfl rfl) ?_
              refine ao_q (v := (.bool (decide (p1.op = 24)))) go0 rfl (aq_as rfl) ?_
              exact AO.done (M21 (decide (p1.op = 24)) (Sh.some_eq h2).symm _ (Wk.to (L := [(2, (.ptr 0 0 0 0)), (3, (.ptr 1 0 0 0)), (6, (i64 1)), (8, (i64 p1.op)), (26, (.bool (decide (p1.op = 24))))]) ⟨.rfl, .rfl, .rfl, .rfl, .rfl, trivial⟩))
      refine AW.seq fun K36 hK36 => ?_
      refine AW.regionO (by rfl) ?_
      refine ao_q (v := (.bool (decide (p1.op = 1)))) go0 rfl (aq_eq rfl rfl) ?_
      refine ao_q (v := (.bool (decide (p1.op = 1)))) go0 rfl (aq_as rfl) ?_
      refine AO.done (hK36 _ ?_)
      refine AW.cond' (b := decide (p1.op = 1)) rfl (fun b37 => ?_) (fun b37 => ?_)
      · replace h2 := Sh.ite_t b37 h2
        exact AW.skip (M14 true (Sh.some_eq h2).symm _ (Wk.to (L := [(2, (.ptr 0 0 0 0)), (3, (.ptr 1 0 0 0)), (6, (i64 1)), (8, (i64 p1.op)), (12, (.bool true))]) ⟨.rfl, .rfl, .rfl, .rfl, (.of (congrArg AV.bool b37)), trivial⟩))
      · replace h2 := Sh.ite_f b37 h2
        refine AW.seq fun K38 hK38 => ?_
        refine AW.regionO (by rfl) ?_
        refine ao_q (v := (.bool (decide (p1.op = 2)))) go0 rfl (aq_eq rfl rfl) ?_
        refine ao_q (v := (.bool (decide (p1.op = 2)))) go0 rfl (aq_as rfl) ?_
        refine AO.done (hK38 _ ?_)
        refine AW.cond' (b := decide (p1.op = 2)) rfl (fun b39 => ?_) (fun b39 => ?_)
        · replace h2 := Sh.ite_t b39 h2
          exact AW.skip (M14 true (Sh.some_eq h2).symm _ (Wk.to (L := [(2, (.ptr 0 0 0 0)), (3, (.ptr 1 0 0 0)), (6, (i64 1)), (8, (i64 p1.op)), (12, (.bool true))]) ⟨.rfl, .rfl, .rfl, .rfl, (.of (congrArg AV.bool b39)), trivial⟩))
        · replace h2 := Sh.ite_f b39 h2
          refine AW.seq fun K40 hK40 => ?_
          refine AW.regionO (by rfl) ?_
          refine ao_q (v := (.bool (decide (p1.op = 3)))) go0 rfl (aq_eq rfl rfl) ?_
          refine ao_q (v := (.bool (decide (p1.op = 3)))) go0 rfl (aq_as rfl) ?_
          refine AO.done (hK40 _ ?_)
          refine AW.cond' (b := decide (p1.op = 3)) rfl (fun b41 => ?_) (fun b41 => ?_)
          · replace h2 := Sh.ite_t b41 h2
            exact AW.skip (M14 true (Sh.some_eq h2).symm _ (Wk.to (L := [(2, (.ptr 0 0 0 0)), (3, (.ptr 1 0 0 0)), (6, (i64 1)), (8, (i64 p1.op)), (12, (.bool true))]) ⟨.rfl, .rfl, .rfl, .rfl, (.of (congrArg AV.bool b41)), trivial⟩))
          · replace h2 := Sh.ite_f b41 h2
            refine AW.seq fun K42 hK42 => ?_
            refine AW.regionO (by rfl) ?_
            refine ao_q (v := (.bool (decide (p1.op = 4)))) go0 rfl (aq_eq rfl rfl) ?_
            refine ao_q (v := (.bool (decide (p1.op = 4)))) go0 rfl (aq_as rfl) ?_
            refine AO.done (hK42 _ ?_)
            refine AW.cond' (b := decide (p1.op = 4)) rfl (fun b43 => ?_) (fun b43 => ?_)
            · replace h2 := Sh.ite_t b43 h2
              exact AW.skip (M14 true (Sh.some_eq h2).symm _ (Wk.to (L := [(2, (.ptr 0 0 0 0)), (3, (.ptr 1 0 0 0)), (6, (i64 1)), (8, (i64 p1.op)), (12, (.bool true))]) ⟨.rfl, .rfl, .rfl, .rfl, (.of (congrArg AV.bool b43)), trivial⟩))
            · replace h2 := Sh.ite_f b43 h2
              refine AW.regionO (by rfl) ?_
              refine ao_q (v := (.bool (decide (p1.op = 11)))) go0 rfl (aq_eq rfl rfl) ?_
              refine ao_q (v := (.bool (decide (p1.op = 11)))) go0 rfl (aq_as rfl) ?_
              exact AO.done (M14 (decide (p1.op = 11)) (Sh.some_eq h2).symm _ (Wk.to (L := [(2, (.ptr 0 0 0 0)), (3, (.ptr 1 0 0 0)), (6, (i64 1)), (8, (i64 p1.op)), (12, (.bool (decide (p1.op = 11))))]) ⟨.rfl, .rfl, .rfl, .rfl, .rfl, trivial⟩))
  refine AW.seq fun K44 hK44 => ?_
  refine AW.regionO (by rfl) ?_
  refine ao_q (v := (.bool (decide (p1.op = 0)))) go0 rfl (aq_eq rfl rfl) ?_
  refine ao_q (v := (.bool (decide (p1.op = 0)))) go0 rfl (aq_as rfl) ?_
  refine AO.done (hK44 _ ?_)
  refine AW.cond' (b := decide (p1.op = 0)) rfl (fun b45 => ?_) (fun b45 => ?_)
  · replace h2 := Sh.ite_t b45 h2
    exact AW.skip (M10 true (Sh.some_eq h2).symm _ (Wk.to (L := [(2, (.ptr 0 0 0 0)), (3, (.ptr 1 0 0 0)), (6, (i64 1)), (8, (i64 p1.op)), (9, (.bool true))]) ⟨.rfl, .rfl, .rfl, .rfl, (.of (congrArg AV.bool b45)), trivial⟩))
  · replace h2 := Sh.ite_f b45 h2
    refine AW.regionO (by rfl) ?_
    refine ao_q (v := (.bool (decide (p1.op = 22)))) go0 rfl (aq_eq rfl rfl) ?_
    refine ao_q (v := (.bool (decide (p1.op = 22)))) go0 rfl (aq_as rfl) ?_
    exact AO.done (M10 (decide (p1.op = 22)) (Sh.some_eq h2).symm _ (Wk.to (L := [(2, (.ptr 0 0 0 0)), (3, (.ptr 1 0 0 0)), (6, (i64 1)), (8, (i64 p1.op)), (9, (.bool (decide (p1.op = 22))))]) ⟨.rfl, .rfl, .rfl, .rfl, .rfl, trivial⟩))

end Go.Proofs.Ytbdefffffmejhaa
