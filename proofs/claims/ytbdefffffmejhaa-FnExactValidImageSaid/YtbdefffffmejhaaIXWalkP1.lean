import Derived.Test.YtbdefffffmejhaaProg
import Derived.Test.YtbdefffffmejhaaIADefs
import Derived.Test.YtbdefffffmejhaaIXWalkP0
namespace Go.Proofs.Ytbdefffffmejhaa
open Go Go.Abs RC

theorem hb11 : hasBody Try.prog 11 = true := by kernel_rfl
theorem hb20 : hasBody Try.prog 20 = true := by kernel_rfl
theorem hb21 : hasBody Try.prog 21 = true := by kernel_rfl
theorem hb22 : hasBody Try.prog 22 = true := by kernel_rfl
theorem hb40 : hasBody Try.prog 40 = true := by kernel_rfl
theorem hb41 : hasBody Try.prog 41 = true := by kernel_rfl
theorem hb46 : hasBody Try.prog 46 = true := by kernel_rfl
theorem hb47 : hasBody Try.prog 47 = true := by kernel_rfl
theorem hb58 : hasBody Try.prog 58 = true := by kernel_rfl
theorem hb59 : hasBody Try.prog 59 = true := by kernel_rfl
theorem hb60 : hasBody Try.prog 60 = true := by kernel_rfl
theorem hb61 : hasBody Try.prog 61 = true := by kernel_rfl
theorem hb62 : hasBody Try.prog 62 = true := by kernel_rfl
theorem hb63 : hasBody Try.prog 63 = true := by kernel_rfl
theorem hb70 : hasBody Try.prog 70 = true := by kernel_rfl
theorem sl45 : isSliceT Try.prog 45 = true := by kernel_rfl

set_option maxRecDepth 100000 in
set_option maxHeartbeats 4000000 in
theorem spec_conType_ok {N : Nat} {p0 : (List RDecl)} {p1 : Int} {r : Int} (h0 : spec_conType N p0 p1 = some r) : ACalls Try.prog 59 [(.sl (List.map eRDecl p0)), (i64 p1)] [] (fun v st => v = (i64 r) ∧ st = []) := by
  unfold spec_conType at h0
  refine ACalls.intro Try.func59 rfl (by show 2 ≤ 30; decide) ?_
  show AW _ 0 _ (aret _ 0 Try.f59 _) ⟨30, _, _⟩
  refine AW.weaken (Wk.to (L := [(0, (.sl (List.map eRDecl p0))), (1, (i64 p1))]) ⟨.rfl, .rfl, trivial⟩) ?_
  refine AW.seq fun K1 hK1 => ?_
  refine AW.regionO (by rfl) ?_
  refine ao_q (v := (i64 0)) go0 rfl (aq_as rfl) ?_
  refine AO.done (hK1 _ ?_)
  refine AW.seq fun K2 hK2 => ?_
  refine AW.seq fun K3 hK3 => ?_
  refine AW.regionO (by rfl) ?_
  refine ao_q (v := (i64 0)) go0 rfl (aq_as rfl) ?_
  refine AO.done (hK3 _ ?_)
  obtain ⟨o5, h1, h0⟩ := Sh.cont_some h0
  have M5 : ∀ (_ : Unit), o5 = Sum.inr () → ∀ s, Wk 0 s ⟨30, envL [], []⟩ → K2 s := by
    intro _ hq s hw
    subst o5
    try dsimp only at h0
    refine hK2 _ (AW.weaken hw ?_)
    refine AW.seq fun K6 hK6 => ?_
    refine AW.regionO (by rfl) ?_
    refine ao_q (v := (i64 (-1))) go0 rfl (aq_as rfl) ?_
    refine AO.done (hK6 _ ?_)
    replace h0 := Sh.some_eq h0
    subst r
    exact AW.ret (Exists.intro _ (And.intro (Wk.to (L := [(4, (i64 (-1)))]) ⟨.rfl, trivial⟩) (And.intro rfl rfl)))
  refine AW.block (AW.loopF (σ := Int) (fun n v => spec_conType_L1 N p0 p1 n v = some o5) (fun i4 => ⟨30, envL [(0, (.sl (List.map eRDecl p0))), (1, (i64 p1)), (5, (i64 i4))], []⟩) N 0 h1 (Wk.to (L := [(0, (.sl (List.map eRDecl p0))), (1, (i64 p1)), (5, (i64 0))]) ⟨.rfl, .rfl, .rfl, trivial⟩) (fun _ hv => by rw [spec_conType_L1] at hv; cases hv) ?_)
  rintro n i4 h1
  try dsimp only at h1 ⊢
  rw [spec_conType_L1] at h1
  refine AW.seq fun K7 hK7 => ?_
  refine AW.seq fun K8 hK8 => ?_
  refine AW.regionO (by rfl) ?_
  refine ao_q (v := (i64 i4)) go0 rfl (aq_mv rfl) ?_
  refine ao_q (v := (.sl (List.map eRDecl p0))) go0 rfl (aq_mv rfl) ?_
  refine ao_q (v := (i64 (Sh.len p0))) go0 rfl (aq_lens sl28 rfl) ?_
  refine ao_q (v := (.bool (decide (i4 < (Sh.len p0))))) go0 rfl (aq_lt rfl rfl) ?_
  refine AO.done (hK8 _ ?_)
  refine AW.cond' (b := decide (i4 < (Sh.len p0))) rfl (fun b9 => ?_) (fun b9 => ?_)
  · replace h1 := Sh.ite_t b9 h1
    refine AW.skip (hK7 _ ?_)
    refine AW.seq fun K10 hK10 => ?_
    refine AW.block ?_
    refine AW.seq fun K11 hK11 => ?_
    refine AW.regionO (by rfl) ?_
    refine ao_q (v := (.sl (List.map eRDecl p0))) go0 rfl (aq_mv rfl) ?_
    refine ao_q (v := (i64 i4)) go0 rfl (aq_mv rfl) ?_
    obtain ⟨q12, gq12, h1⟩ := Sh.bind_some h1
    refine ao_call (v' := (i64 q12)) (st' := []) go0 hb70 (spec_firstCon_ok gq12) rfl rfl trivial rfl rfl ?_
    refine ao_q (v := (i64 q12)) go0 rfl (aq_as rfl) ?_
    refine AO.done (hK11 _ ?_)
    refine AW.seq fun K13 hK13 => ?_
    refine AW.regionO (by rfl) ?_
    refine ao_q (v := (i64 p1)) go0 rfl (aq_mv rfl) ?_
    refine ao_q (v := (i64 q12)) go0 rfl (aq_mv rfl) ?_
    refine ao_q (v := (i64 q12)) go0 rfl (aq_mv rfl) ?_
    refine ao_q (v := (.sl (List.map eRDecl p0))) go0 rfl (aq_mv rfl) ?_
    refine ao_q (v := (i64 i4)) go0 rfl (aq_mv rfl) ?_
    obtain ⟨c14, gc14, h1⟩ := Sh.bind_some h1
    refine ao_q (v := (.iptr (eRDecl c14) 0)) go0 rfl (aq_ixs ei28 rfl rfl gc14 rfl) ?_
    refine ao_q (v := (.iptr (eRDecl c14) 2)) go0 rfl (aq_fai fi69_2 rfl rfl) ?_
    refine ao_q (v := (.sl (List.map eRCon c14.cons))) go0 rfl (aq_ldi ti67 rfl rfl) ?_
    refine ao_q (v := (i64 (Sh.len c14.cons))) go0 rfl (aq_lens sl67 rfl) ?_
    refine ao_q (v := (i64 (Sh.w (q12 + (Sh.len c14.cons))))) go0 rfl (aq_add rfl rfl) ?_
    refine ao_q (v := (i64 (Sh.w ((Sh.w (q12 + (Sh.len c14.cons))) - 1)))) go0 rfl (aq_sub rfl rfl) ?_
    obtain ⟨q15, gq15, h1⟩ := Sh.bind_some h1
    refine ao_call (v' := (.bool q15)) (st' := []) go0 hb38 (spec_inRange_ok gq15) rfl rfl trivial rfl rfl ?_
    refine AO.done (hK13 _ ?_)
    refine AW.cond' (b := q15) rfl (fun b16 => ?_) (fun b16 => ?_)
    · replace h1 := Sh.ite_t b16 h1
      refine AW.seq fun K17 hK17 => ?_
      refine AW.regionO (by rfl) ?_
      refine ao_q (v := (i64 i4)) go0 rfl (aq_mv rfl) ?_
      refine ao_q (v := (i64 (Sh.w (i4 + 1)))) go0 rfl (aq_add rfl rfl) ?_
      refine ao_q (v := (i64 (Sh.w (i4 + 1)))) go0 rfl (aq_as rfl) ?_
      refine AO.done (hK17 _ ?_)
      replace h1 := Sh.some_eq h1
      subst o5
      try dsimp only [id] at h0
      replace h0 := Sh.some_eq h0
      subst r
      exact AW.ret (Exists.intro _ (And.intro (Wk.to (L := [(4, (i64 (Sh.w (i4 + 1))))]) ⟨.rfl, trivial⟩) (And.intro rfl rfl)))
    · replace h1 := Sh.ite_f b16 h1
      refine AW.skip (hK10 _ ?_)
      refine AW.regionO (by rfl) ?_
      refine ao_q (v := (i64 i4)) go0 rfl (aq_mv rfl) ?_
      refine ao_q (v := (i64 (Sh.w (i4 + 1)))) go0 rfl (aq_add rfl rfl) ?_
      refine ao_q (v := (i64 (Sh.w (i4 + 1)))) go0 rfl (aq_as rfl) ?_
      exact AO.done (Exists.intro (Sh.w (i4 + 1)) (And.intro h1 (Wk.to (L := [(0, (.sl (List.map eRDecl p0))), (1, (i64 p1)), (5, (i64 (Sh.w (i4 + 1))))]) ⟨.rfl, .rfl, .rfl, trivial⟩)))
  · replace h1 := Sh.ite_f b9 h1
    exact AW.exit (M5 () (Sh.some_eq h1).symm _ (Wk.to (L := []) trivial))

set_option maxRecDepth 100000 in
set_option maxHeartbeats 4000000 in
theorem spec_conFields_ok {N : Nat} {p0 : (List RDecl)} {p1 : Int} {r : (List Int)} (h0 : spec_conFields N p0 p1 = some r) : ACalls Try.prog 60 [(.sl (List.map eRDecl p0)), (i64 p1)] [] (fun v st => v = (.sl (List.map eI r)) ∧ st = []) := by
  unfold spec_conFields at h0
  refine ACalls.intro Try.func60 rfl (by show 2 ≤ 27; decide) ?_
  show AW _ 0 _ (aret _ 0 Try.f60 _) ⟨27, _, _⟩
  refine AW.weaken (Wk.to (L := [(0, (.sl (List.map eRDecl p0))), (1, (i64 p1))]) ⟨.rfl, .rfl, trivial⟩) ?_
  refine AW.seq fun K1 hK1 => ?_
  refine AW.regionO (by rfl) ?_
  refine ao_q (v := .zc) go0 rfl (aq_as rfl) ?_
  refine AO.done (hK1 _ ?_)
  refine AW.seq fun K2 hK2 => ?_
  refine AW.regionO (by rfl) ?_
  refine ao_q (v := (.sl (List.map eRDecl p0))) go0 rfl (aq_mv rfl) ?_
  refine ao_q (v := (i64 p1)) go0 rfl (aq_mv rfl) ?_
  obtain ⟨q3, gq3, h0⟩ := Sh.bind_some h0
  refine ao_call (v' := (i64 q3)) (st' := []) go0 hb59 (spec_conType_ok gq3) rfl rfl trivial rfl rfl ?_
  refine ao_q (v := (i64 q3)) go0 rfl (aq_as rfl) ?_
  refine AO.done (hK2 _ ?_)
  refine AW.seq fun K4 hK4 => ?_
  refine AW.seq fun K5 hK5 => ?_
  refine AW.regionO (by rfl) ?_
  refine ao_q (v := (i64 q3)) go0 rfl (aq_mv rfl) ?_
  refine ao_q (v := (.bool (decide (q3 < 1)))) go0 rfl (aq_lt rfl rfl) ?_
  refine AO.done (hK5 _ ?_)
  refine AW.cond' (b := decide (q3 < 1)) rfl (fun b6 => ?_) (fun b6 => ?_)
  · replace h0 := Sh.ite_t b6 h0
    refine AW.seq fun K7 hK7 => ?_
    refine AW.regionO (by rfl) ?_
    refine ao_bs (m := 0) (st' := [⟨0, 3, 1, List.map eI ([] : List Int)⟩]) (l := ([] : List Int)) (enc := eI) go0 ei44 (by decide) rfl rfl rfl rfl rfl rfl ?_
    refine ao_q (v := (.own 0 0 (List.length ([] : List Int)))) go0 rfl (aq_as rfl) ?_
    refine AO.done (hK7 _ ?_)
    replace h0 := Sh.some_eq h0
    subst r
    exact AW.ret (Exists.intro ⟨27, envL [(4, (.sl (List.map eI [])))], []⟩ (And.intro (by refine Wk.trans (Wk.frz (L := [(4, (.sl (List.map eI [])))]) (st' := [⟨1, 3, 1, []⟩]) (id := 0) rfl (show 0 ≤ 0 by decide) (pure_map fun _ => rfl) ⟨(.frz rfl), trivial⟩ rfl) ?_; refine Wk.trans (Wk.permk (L := [(4, (.sl (List.map eI [])))]) (st' := []) (st1 := []) [] rfl .nil (by decide) rfl rfl .nil ⟨.rfl, trivial⟩) ?_; exact Wk.to (L := [(4, (.sl (List.map eI [])))]) ⟨.rfl, trivial⟩) (And.intro rfl rfl)))
  · replace h0 := Sh.ite_f b6 h0
    refine AW.skip (hK4 _ ?_)
    refine AW.seq fun K8 hK8 => ?_
    refine AW.draw (by kernel_rfl) (by kernel_rfl) (by rfl) ?_
    refine d_q (v := (.sl (List.map eRDecl p0))) go0 rfl (aq_mv rfl) ?_
    refine d_q (v := (i64 q3)) go0 rfl (aq_mv rfl) ?_
    refine d_q (v := (i64 (Sh.w (q3 - 1)))) go0 rfl (aq_sub rfl rfl) ?_
    obtain ⟨c9, gc9, h0⟩ := Sh.bind_some h0
    refine d_q (v := (.iptr (eRDecl c9) 0)) go0 rfl (aq_ixs ei28 rfl rfl gc9 rfl) ?_
    refine d_q (v := (.iptr (eRDecl c9) 2)) go0 rfl (aq_fai fi69_2 rfl rfl) ?_
    refine d_q (v := (.sl (List.map eRCon c9.cons))) go0 rfl (aq_ldi ti67 rfl rfl) ?_
    refine d_q (v := (i64 p1)) go0 rfl (aq_mv rfl) ?_
    refine d_q (v := (.sl (List.map eRDecl p0))) go0 rfl (aq_mv rfl) ?_
    refine d_q (v := (i64 q3)) go0 rfl (aq_mv rfl) ?_
    refine d_q (v := (i64 (Sh.w (q3 - 1)))) go0 rfl (aq_sub rfl rfl) ?_
    obtain ⟨q10, gq10, h0⟩ := Sh.bind_some h0
    refine d_call (v := (i64 q10)) go0 hb70 (spec_firstCon_ok gq10) rfl rfl rfl ?_
    refine d_q (v := (i64 (Sh.w (p1 - q10)))) go0 rfl (aq_sub rfl rfl) ?_
    obtain ⟨c11, gc11, h0⟩ := Sh.bind_some h0
    refine d_q (v := (.iptr (eRCon c11) 0)) go0 rfl (aq_ixs ei67 rfl rfl gc11 rfl) ?_
    refine d_q (v := (.iptr (eRCon c11) 0)) go0 rfl (aq_fai fi112_0 rfl rfl) ?_
    refine d_q (v := (.sl (List.map eI c11.fields))) go0 rfl (aq_ldi ti44 rfl rfl) ?_
    refine d_q (v := (.sl (List.map eI c11.fields))) go0 rfl (aq_as rfl) ?_
    refine d_done (hK8 _ ?_)
    replace h0 := Sh.some_eq h0
    subst r
    exact AW.ret (Exists.intro _ (And.intro (Wk.to (L := [(4, (.sl (List.map eI c11.fields)))]) ⟨.rfl, trivial⟩) (And.intro rfl rfl)))

set_option maxRecDepth 100000 in
set_option maxHeartbeats 4000000 in
theorem spec_procWith_ok {p0 : RImage} {p1 : Int} {p2 : Int} {p3 : Int} {r : Bool} (h0 : spec_procWith p0 p1 p2 p3 = some r) : ACalls Try.prog 61 [(.agg [(.sl (List.map eRDecl p0.decls)), (.sl (List.map eRProc p0.procs))]), (i64 p1), (i64 p2), (i64 p3)] [] (fun v st => v = (.bool r) ∧ st = []) := by
  unfold spec_procWith at h0
  refine ACalls.intro Try.func61 rfl (by show 4 ≤ 28; decide) ?_
  show AW _ 0 _ (aret _ 0 Try.f61 _) ⟨28, _, _⟩
  refine AW.weaken (Wk.to (L := [(0, (.agg [(.sl (List.map eRDecl p0.decls)), (.sl (List.map eRProc p0.procs))])), (1, (i64 p1)), (2, (i64 p2)), (3, (i64 p3))]) ⟨.rfl, .rfl, .rfl, .rfl, trivial⟩) ?_
  refine AW.seq fun K1 hK1 => ?_
  refine AW.regionO (by rfl) ?_
  refine ao_box (m := 0) (st' := [⟨0, 31, 2, [[(.sl (List.map eRDecl p0.decls)), (.sl (List.map eRProc p0.procs))]]⟩]) go0 rfl rfl rfl rfl rfl ?_
  refine ao_q (v := (.bool false)) go0 rfl (aq_as rfl) ?_
  refine AO.done (hK1 _ ?_)
  refine AW.seq fun K2 hK2 => ?_
  obtain ⟨o4, h1, h0⟩ := Sh.bind_some h0
  have M4 : ∀ (t3 : Bool), o4 = t3 → ∀ s, Wk 0 s ⟨28, envL [(8, (.bool t3))], []⟩ → K2 s := by
    intro t3 hq s hw
    subst o4
    try dsimp only at h0
    refine hK2 _ (AW.weaken hw ?_)
    replace h0 := Sh.some_eq h0
    subst r
    exact AW.ret (Exists.intro _ (And.intro (Wk.to (L := [(8, (.bool t3))]) ⟨.rfl, trivial⟩) (And.intro rfl rfl)))
  refine AW.regionO (by rfl) ?_
  refine ao_q (v := (i64 p1)) go0 rfl (aq_mv rfl) ?_
  refine ao_q (v := (.ptr 0 0 0 1)) go0 rfl (aq_fap fi31_1 rfl rfl (show 0 + 1 ≤ 2 by decide) rfl) ?_
  refine ao_q (v := (.sl (List.map eRProc p0.procs))) go0 rfl (aq_ldp ti29 rfl rfl rfl rfl) ?_
  refine ao_q (v := (i64 (Sh.len p0.procs))) go0 rfl (aq_lens sl29 rfl) ?_
  refine ao_q (v := (i64 (Sh.w ((Sh.len p0.procs) - 1)))) go0 rfl (aq_sub rfl rfl) ?_
  obtain ⟨q5, gq5, h1⟩ := Sh.bind_some h1
  refine ao_call (v' := (.bool q5)) (st' := [⟨0, 31, 2, [[(.sl (List.map eRDecl p0.decls)), (.sl (List.map eRProc p0.procs))]]⟩]) go0 hb38 (spec_inRange_ok gq5) rfl rfl trivial rfl rfl ?_
  refine ao_q (v := (.bool q5)) go0 rfl (aq_mv rfl) ?_
  rcases Sh.ite_some h1 with ⟨b6, h1⟩ | ⟨b6, h1⟩
  · skip
    refine ao_q (v := (.ptr 0 0 0 1)) (go1 rfl rfl b6) rfl (aq_fap fi31_1 rfl rfl (show 0 + 1 ≤ 2 by decide) rfl) ?_
    refine ao_q (v := (.sl (List.map eRProc p0.procs))) (go1 rfl rfl b6) rfl (aq_ldp ti29 rfl rfl rfl rfl) ?_
    refine ao_q (v := (i64 p1)) (go1 rfl rfl b6) rfl (aq_mv rfl) ?_
    obtain ⟨c7, gc7, h1⟩ := Sh.bind_some h1
    refine ao_q (v := (.iptr (eRProc c7) 0)) (go1 rfl rfl b6) rfl (aq_ixs ei29 rfl rfl gc7 rfl) ?_
    refine ao_q (v := (.iptr (eRProc c7) 0)) (go1 rfl rfl b6) rfl (aq_fai fi47_0 rfl rfl) ?_
    refine ao_q (v := (.sl (List.map eI c7.params))) (go1 rfl rfl b6) rfl (aq_ldi ti44 rfl rfl) ?_
    refine ao_q (v := (i64 (Sh.len c7.params))) (go1 rfl rfl b6) rfl (aq_lens sl44 rfl) ?_
    refine ao_q (v := (i64 p2)) (go1 rfl rfl b6) rfl (aq_mv rfl) ?_
    refine ao_q (v := (i64 p3)) (go1 rfl rfl b6) rfl (aq_mv rfl) ?_
    refine ao_q (v := (i64 (Sh.w (p2 + p3)))) (go1 rfl rfl b6) rfl (aq_add rfl rfl) ?_
    refine ao_q (v := (.bool (decide ((Sh.len c7.params) = (Sh.w (p2 + p3)))))) (go1 rfl rfl b6) rfl (aq_eq rfl rfl) ?_
    refine ao_q (v := (.bool (decide ((Sh.len c7.params) = (Sh.w (p2 + p3)))))) go0 rfl (aq_pkt rfl b6 rfl) ?_
    refine ao_q (v := (.bool (decide ((Sh.len c7.params) = (Sh.w (p2 + p3)))))) go0 rfl (aq_as rfl) ?_
    exact AO.done (M4 (decide ((Sh.len c7.params) = (Sh.w (p2 + p3)))) (Sh.some_eq h1).symm _ (by refine Wk.trans (Wk.permk (L := [(8, (.bool (decide ((Sh.len c7.params) = (Sh.w (p2 + p3))))))]) (st' := []) (st1 := []) [] rfl .nil (by decide) rfl rfl .nil ⟨.rfl, trivial⟩) ?_; exact Wk.to (L := [(8, (.bool (decide ((Sh.len c7.params) = (Sh.w (p2 + p3))))))]) ⟨.rfl, trivial⟩))
  · skip
    refine ao_skip rfl rfl b6 ?_
    refine ao_skip rfl rfl b6 ?_
    refine ao_skip rfl rfl b6 ?_
    refine ao_skip rfl rfl b6 ?_
    refine ao_skip rfl rfl b6 ?_
    refine ao_skip rfl rfl b6 ?_
    refine ao_skip rfl rfl b6 ?_
    refine ao_skip rfl rfl b6 ?_
    refine ao_skip rfl rfl b6 ?_
    refine ao_skip rfl rfl b6 ?_
    refine ao_skip rfl rfl b6 ?_
    refine ao_q (v := (.bool false)) go0 rfl (aq_pkf rfl b6 rfl) ?_
    refine ao_q (v := (.bool false)) go0 rfl (aq_as rfl) ?_
    exact AO.done (M4 false (Sh.some_eq h1).symm _ (by refine Wk.trans (Wk.permk (L := [(8, (.bool false))]) (st' := []) (st1 := []) [] rfl .nil (by decide) rfl rfl .nil ⟨.rfl, trivial⟩) ?_; exact Wk.to (L := [(8, (.bool false))]) ⟨.rfl, trivial⟩))

set_option maxRecDepth 100000 in
set_option maxHeartbeats 4000000 in
theorem spec_consOf_ok {N : Nat} {p0 : (List RDecl)} {p1 : Int} {r : (List Int)} (h0 : spec_consOf N p0 p1 = some r) : ACalls Try.prog 62 [(.sl (List.map eRDecl p0)), (i64 p1)] [] (fun v st => v = (.own 0 0 (List.length r)) ∧ st = [⟨0, 3, 1, List.map eI r⟩]) := by
  unfold spec_consOf at h0
  refine ACalls.intro Try.func62 rfl (by show 2 ≤ 35; decide) ?_
  show AW _ 0 _ (aret _ 0 Try.f62 _) ⟨35, _, _⟩
  refine AW.weaken (Wk.to (L := [(0, (.sl (List.map eRDecl p0))), (1, (i64 p1))]) ⟨.rfl, .rfl, trivial⟩) ?_
  refine AW.seq fun K1 hK1 => ?_
  refine AW.regionO (by rfl) ?_
  refine ao_q (v := .zc) go0 rfl (aq_as rfl) ?_
  refine AO.done (hK1 _ ?_)
  refine AW.seq fun K2 hK2 => ?_
  refine AW.regionO (by rfl) ?_
  refine ao_bs (m := 0) (st' := [⟨0, 3, 1, List.map eI ([] : List Int)⟩]) (l := ([] : List Int)) (enc := eI) go0 ei44 (by decide) rfl rfl rfl rfl rfl rfl ?_
  refine ao_q (v := (.own 0 0 (List.length ([] : List Int)))) go0 rfl (aq_as rfl) ?_
  refine AO.done (hK2 _ ?_)
  refine AW.seq fun K3 hK3 => ?_
  refine AW.seq fun K4 hK4 => ?_
  refine AW.regionO (by rfl) ?_
  refine ao_q (v := (i64 p1)) go0 rfl (aq_mv rfl) ?_
  refine ao_q (v := (.sl (List.map eRDecl p0))) go0 rfl (aq_mv rfl) ?_
  refine ao_q (v := (i64 (Sh.len p0))) go0 rfl (aq_lens sl28 rfl) ?_
  obtain ⟨q5, gq5, h0⟩ := Sh.bind_some h0
  refine ao_call (v' := (.bool q5)) (st' := [⟨0, 3, 1, List.map eI ([] : List Int)⟩]) go0 hb38 (spec_inRange_ok gq5) rfl rfl trivial rfl rfl ?_
  refine ao_q (v := (.bool (!q5))) go0 rfl (aq_not rfl) ?_
  refine AO.done (hK4 _ ?_)
  refine AW.cond' (b := !q5) rfl (fun b6 => ?_) (fun b6 => ?_)
  · replace h0 := Sh.ite_t b6 h0
    have b7 : q5 = false := by simpa using b6
    refine AW.seq fun K8 hK8 => ?_
    refine AW.regionO (by rfl) ?_
    refine ao_q (v := (.own 0 0 (List.length ([] : List Int)))) go0 rfl (aq_mv rfl) ?_
    refine ao_q (v := (.own 0 0 (List.length ([] : List Int)))) go0 rfl (aq_as rfl) ?_
    refine AO.done (hK8 _ ?_)
    replace h0 := Sh.some_eq h0
    subst r
    exact AW.ret (Exists.intro _ (And.intro (Wk.to (L := [(4, (.own 0 0 (List.length ([] : List Int))))]) ⟨.rfl, trivial⟩) (And.intro rfl rfl)))
  · replace h0 := Sh.ite_f b6 h0
    have b9 : q5 = true := by simpa using b6
    refine AW.skip (hK3 _ ?_)
    refine AW.seq fun K10 hK10 => ?_
    refine AW.seq fun K11 hK11 => ?_
    refine AW.regionO (by rfl) ?_
    refine ao_q (v := (i64 0)) go0 rfl (aq_as rfl) ?_
    refine AO.done (hK11 _ ?_)
    obtain ⟨o15, h1, h0⟩ := Sh.bind_some h0
    have M15 : ∀ (l14 : (List Int)), o15 = l14 → ∀ s, Wk 0 s ⟨35, envL [(5, (.own 0 0 (List.length l14)))], [⟨0, 3, 1, List.map eI l14⟩]⟩ → K10 s := by
      intro l14 hq s hw
      subst o15
      try dsimp only at h0
      refine hK10 _ (AW.weaken hw ?_)
      refine AW.seq fun K16 hK16 => ?_
      refine AW.regionO (by rfl) ?_
      refine ao_q (v := (.own 0 0 (List.length l14))) go0 rfl (aq_mv rfl) ?_
      refine ao_q (v := (.own 0 0 (List.length l14))) go0 rfl (aq_as rfl) ?_
      refine AO.done (hK16 _ ?_)
      replace h0 := Sh.some_eq h0
      subst r
      exact AW.ret (Exists.intro _ (And.intro (Wk.to (L := [(4, (.own 0 0 (List.length l14)))]) ⟨.rfl, trivial⟩) (And.intro rfl rfl)))
    refine AW.block (AW.loopF (σ := Int × (List Int)) (fun n v => spec_consOf_L1 N p0 p1 n v.1 v.2 = some o15) (fun (i12, l13) => ⟨35, envL [(0, (.sl (List.map eRDecl p0))), (1, (i64 p1)), (5, (.own 0 0 (List.length l13))), (6, (i64 i12))], [⟨0, 3, 1, List.map eI l13⟩]⟩) N (0, []) h1 (Wk.to (L := [(0, (.sl (List.map eRDecl p0))), (1, (i64 p1)), (5, (.own 0 0 (List.length ([] : List Int)))), (6, (i64 0))]) ⟨.rfl, .rfl, .rfl, .rfl, trivial⟩) (fun _ hv => by rw [spec_consOf_L1] at hv; cases hv) ?_)
    rintro n ⟨i12, l13⟩ h1
    try dsimp only at h1 ⊢
    rw [spec_consOf_L1] at h1
    refine AW.seq fun K17 hK17 => ?_
    refine AW.seq fun K18 hK18 => ?_
    refine AW.regionO (by rfl) ?_
    refine ao_q (v := (i64 i12)) go0 rfl (aq_mv rfl) ?_
    refine ao_q (v := (.sl (List.map eRDecl p0))) go0 rfl (aq_mv rfl) ?_
    refine ao_q (v := (i64 p1)) go0 rfl (aq_mv rfl) ?_
    refine ao_q (v := (i64 (Sh.w (p1 - 1)))) go0 rfl (aq_sub rfl rfl) ?_
    obtain ⟨c19, gc19, h1⟩ := Sh.bind_some h1
    refine ao_q (v := (.iptr (eRDecl c19) 0)) go0 rfl (aq_ixs ei28 rfl rfl gc19 rfl) ?_
    refine ao_q (v := (.iptr (eRDecl c19) 2)) go0 rfl (aq_fai fi69_2 rfl rfl) ?_
    refine ao_q (v := (.sl (List.map eRCon c19.cons))) go0 rfl (aq_ldi ti67 rfl rfl) ?_
    refine ao_q (v := (i64 (Sh.len c19.cons))) go0 rfl (aq_lens sl67 rfl) ?_
    refine ao_q (v := (.bool (decide (i12 < (Sh.len c19.cons))))) go0 rfl (aq_lt rfl rfl) ?_
    refine AO.done (hK18 _ ?_)
    refine AW.cond' (b := decide (i12 < (Sh.len c19.cons))) rfl (fun b20 => ?_) (fun b20 => ?_)
    · replace h1 := Sh.ite_t b20 h1
      refine AW.skip (hK17 _ ?_)
      refine AW.seq fun K21 hK21 => ?_
      refine AW.block ?_
      refine AW.regionO (by rfl) ?_
      refine ao_q (v := (.own 0 0 (List.length l13))) go0 rfl (aq_mv rfl) ?_
      refine ao_q (v := (.sl (List.map eRDecl p0))) go0 rfl (aq_mv rfl) ?_
      refine ao_q (v := (i64 p1)) go0 rfl (aq_mv rfl) ?_
      refine ao_q (v := (i64 (Sh.w (p1 - 1)))) go0 rfl (aq_sub rfl rfl) ?_
      obtain ⟨q22, gq22, h1⟩ := Sh.bind_some h1
      refine ao_call (v' := (i64 q22)) (st' := [⟨0, 3, 1, List.map eI l13⟩]) go0 hb70 (spec_firstCon_ok gq22) rfl rfl trivial rfl rfl ?_
      refine ao_q (v := (i64 i12)) go0 rfl (aq_mv rfl) ?_
      refine ao_q (v := (i64 (Sh.w (q22 + i12)))) go0 rfl (aq_add rfl rfl) ?_
      refine ao_bs (m := 1) (st' := [⟨0, 3, 1, List.map eI l13⟩, ⟨0, 3, 1, List.map eI [Sh.w (q22 + i12)]⟩]) (l := [Sh.w (q22 + i12)]) (enc := eI) go0 ei44 (by decide) rfl rfl rfl rfl rfl rfl ?_
      obtain ⟨l23, gl23, h1⟩ := Sh.bind_some h1
      refine ao_apo (st' := [⟨1, 3, 1, List.map eI l23⟩, ⟨0, 3, 1, List.map eI [Sh.w (q22 + i12)]⟩]) (l2 := [Sh.w (q22 + i12)]) go0 ei44 rfl rfl rfl rfl (el_o rfl rfl) (fun _ => rfl) gl23 rfl ?_
      refine ao_q (v := (.own 0 1 (List.length l23))) go0 rfl (aq_as rfl) ?_
      refine AO.done (hK21 _ ?_)
      refine AW.regionO (by rfl) ?_
      refine ao_q (v := (i64 i12)) go0 rfl (aq_mv rfl) ?_
      refine ao_q (v := (i64 (Sh.w (i12 + 1)))) go0 rfl (aq_add rfl rfl) ?_
      refine ao_q (v := (i64 (Sh.w (i12 + 1)))) go0 rfl (aq_as rfl) ?_
      exact AO.done (Exists.intro (Sh.w (i12 + 1), l23) (And.intro h1 (by refine Wk.trans (Wk.rg (L := [(0, (.sl (List.map eRDecl p0))), (1, (i64 p1)), (5, (.own 0 0 (List.length l23))), (6, (i64 (Sh.w (i12 + 1))))]) (st' := [⟨0, 3, 1, List.map eI l23⟩, ⟨0, 3, 1, List.map eI [Sh.w (q22 + i12)]⟩]) (.pure (pure_map fun _ => rfl) (.pure (pure_map fun _ => rfl) .nil)) ⟨.rfl, .rfl, .rfl, .rfl, trivial⟩) ?_; refine Wk.trans (Wk.permk (L := [(0, (.sl (List.map eRDecl p0))), (1, (i64 p1)), (5, (.own 0 0 (List.length l23))), (6, (i64 (Sh.w (i12 + 1))))]) (st' := [⟨0, 3, 1, List.map eI l23⟩]) (st1 := [⟨0, 3, 1, List.map eI l23⟩]) [0] rfl .nil (by decide) rfl rfl (.pure (pure_map fun _ => rfl) .nil) ⟨.rfl, .rfl, .rfl, .rfl, trivial⟩) ?_; exact Wk.to (L := [(0, (.sl (List.map eRDecl p0))), (1, (i64 p1)), (5, (.own 0 0 (List.length l23))), (6, (i64 (Sh.w (i12 + 1))))]) ⟨.rfl, .rfl, .rfl, .rfl, trivial⟩)))
    · replace h1 := Sh.ite_f b20 h1
      exact AW.exit (M15 l13 (Sh.some_eq h1).symm _ (Wk.to (L := [(5, (.own 0 0 (List.length l13)))]) ⟨.rfl, trivial⟩))

set_option maxRecDepth 100000 in
set_option maxHeartbeats 4000000 in
theorem spec_validJumps_ok {N : Nat} {p0 : (List Int)} {p1 : Int} {p2 : Int} {p3 : Int} {r : Bool} (h0 : spec_validJumps N p0 p1 p2 p3 = some r) : ACalls Try.prog 63 [(.sl (List.map eI p0)), (i64 p1), (i64 p2), (i64 p3)] [] (fun v st => v = (.bool r) ∧ st = []) := by
  unfold spec_validJumps at h0
  refine ACalls.intro Try.func63 rfl (by show 4 ≤ 29; decide) ?_
  show AW _ 0 _ (aret _ 0 Try.f63 _) ⟨29, _, _⟩
  refine AW.weaken (Wk.to (L := [(0, (.sl (List.map eI p0))), (1, (i64 p1)), (2, (i64 p2)), (3, (i64 p3))]) ⟨.rfl, .rfl, .rfl, .rfl, trivial⟩) ?_
  refine AW.seq fun K1 hK1 => ?_
  refine AW.regionO (by rfl) ?_
  refine ao_q (v := (.bool false)) go0 rfl (aq_as rfl) ?_
  refine AO.done (hK1 _ ?_)
  refine AW.seq fun K2 hK2 => ?_
  refine AW.seq fun K3 hK3 => ?_
  refine AW.regionO (by rfl) ?_
  refine ao_q (v := (.sl (List.map eI p0))) go0 rfl (aq_mv rfl) ?_
  refine ao_q (v := (i64 (Sh.len p0))) go0 rfl (aq_lens sl44 rfl) ?_
  refine ao_q (v := (i64 p1)) go0 rfl (aq_mv rfl) ?_
  refine ao_q (v := (.bool (!decide ((Sh.len p0) = p1)))) go0 rfl (aq_ne rfl rfl) ?_
  refine AO.done (hK3 _ ?_)
  refine AW.cond' (b := !decide ((Sh.len p0) = p1)) rfl (fun b4 => ?_) (fun b4 => ?_)
  · replace h0 := Sh.ite_t b4 h0
    have b5 : decide ((Sh.len p0) = p1) = false := by simpa using b4
    refine AW.seq fun K6 hK6 => ?_
    refine AW.regionO (by rfl) ?_
    refine ao_q (v := (.bool false)) go0 rfl (aq_as rfl) ?_
    refine AO.done (hK6 _ ?_)
    replace h0 := Sh.some_eq h0
    subst r
    exact AW.ret (Exists.intro _ (And.intro (Wk.to (L := [(8, (.bool false))]) ⟨.rfl, trivial⟩) (And.intro rfl rfl)))
  · replace h0 := Sh.ite_f b4 h0
    have b7 : decide ((Sh.len p0) = p1) = true := by simpa using b4
    refine AW.skip (hK2 _ ?_)
    refine AW.seq fun K8 hK8 => ?_
    refine AW.seq fun K9 hK9 => ?_
    refine AW.regionO (by rfl) ?_
    refine ao_q (v := (i64 0)) go0 rfl (aq_as rfl) ?_
    refine AO.done (hK9 _ ?_)
    obtain ⟨o11, h1, h0⟩ := Sh.cont_some h0
    have M11 : ∀ (_ : Unit), o11 = Sum.inr () → ∀ s, Wk 0 s ⟨29, envL [], []⟩ → K8 s := by
      intro _ hq s hw
      subst o11
      try dsimp only at h0
      refine hK8 _ (AW.weaken hw ?_)
      refine AW.seq fun K12 hK12 => ?_
      refine AW.regionO (by rfl) ?_
      refine ao_q (v := (.bool true)) go0 rfl (aq_as rfl) ?_
      refine AO.done (hK12 _ ?_)
      replace h0 := Sh.some_eq h0
      subst r
      exact AW.ret (Exists.intro _ (And.intro (Wk.to (L := [(8, (.bool true))]) ⟨.rfl, trivial⟩) (And.intro rfl rfl)))
    refine AW.block (AW.loopF (σ := Int) (fun n v => spec_validJumps_L1 p0 p1 p2 p3 n v = some o11) (fun i10 => ⟨29, envL [(0, (.sl (List.map eI p0))), (1, (i64 p1)), (2, (i64 p2)), (3, (i64 p3)), (9, (i64 i10))], []⟩) N 0 h1 (Wk.to (L := [(0, (.sl (List.map eI p0))), (1, (i64 p1)), (2, (i64 p2)), (3, (i64 p3)), (9, (i64 0))]) ⟨.rfl, .rfl, .rfl, .rfl, .rfl, trivial⟩) (fun _ hv => by rw [spec_validJumps_L1] at hv; cases hv) ?_)
    rintro n i10 h1
    try dsimp only at h1 ⊢
    rw [spec_validJumps_L1] at h1
    refine AW.seq fun K13 hK13 => ?_
    refine AW.seq fun K14 hK14 => ?_
    refine AW.regionO (by rfl) ?_
    refine ao_q (v := (i64 i10)) go0 rfl (aq_mv rfl) ?_
    refine ao_q (v := (i64 p1)) go0 rfl (aq_mv rfl) ?_
    refine ao_q (v := (.bool (decide (i10 < p1)))) go0 rfl (aq_lt rfl rfl) ?_
    refine AO.done (hK14 _ ?_)
    refine AW.cond' (b := decide (i10 < p1)) rfl (fun b15 => ?_) (fun b15 => ?_)
    · replace h1 := Sh.ite_t b15 h1
      refine AW.skip (hK13 _ ?_)
      refine AW.seq fun K16 hK16 => ?_
      refine AW.block ?_
      refine AW.seq fun K17 hK17 => ?_
      refine AW.regionO (by rfl) ?_
      refine ao_q (v := (.sl (List.map eI p0))) go0 rfl (aq_mv rfl) ?_
      refine ao_q (v := (i64 i10)) go0 rfl (aq_mv rfl) ?_
      obtain ⟨c18, gc18, h1⟩ := Sh.bind_some h1
      refine ao_q (v := (.iptr (eI c18) 0)) go0 rfl (aq_ixs ei44 rfl rfl gc18 rfl) ?_
      refine ao_q (v := (i64 c18)) go0 rfl (aq_ldi ti3 rfl rfl) ?_
      refine ao_q (v := (i64 p2)) go0 rfl (aq_mv rfl) ?_
      refine ao_q (v := (i64 (Sh.w (p2 + 1)))) go0 rfl (aq_add rfl rfl) ?_
      refine ao_q (v := (i64 p3)) go0 rfl (aq_mv rfl) ?_
      refine ao_q (v := (i64 (Sh.w (p3 - 1)))) go0 rfl (aq_sub rfl rfl) ?_
      obtain ⟨q19, gq19, h1⟩ := Sh.bind_some h1
      refine ao_call (v' := (.bool q19)) (st' := []) go0 hb38 (spec_inRange_ok gq19) rfl rfl trivial rfl rfl ?_
      refine ao_q (v := (.bool (!q19))) go0 rfl (aq_not rfl) ?_
      refine AO.done (hK17 _ ?_)
      refine AW.cond' (b := !q19) rfl (fun b20 => ?_) (fun b20 => ?_)
      · replace h1 := Sh.ite_t b20 h1
        have b21 : q19 = false := by simpa using b20
        refine AW.seq fun K22 hK22 => ?_
        refine AW.regionO (by rfl) ?_
        refine ao_q (v := (.bool false)) go0 rfl (aq_as rfl) ?_
        refine AO.done (hK22 _ ?_)
        replace h1 := Sh.some_eq h1
        subst o11
        try dsimp only [id] at h0
        replace h0 := Sh.some_eq h0
        subst r
        exact AW.ret (Exists.intro _ (And.intro (Wk.to (L := [(8, (.bool false))]) ⟨.rfl, trivial⟩) (And.intro rfl rfl)))
      · replace h1 := Sh.ite_f b20 h1
        have b23 : q19 = true := by simpa using b20
        refine AW.skip (hK16 _ ?_)
        refine AW.regionO (by rfl) ?_
        refine ao_q (v := (i64 i10)) go0 rfl (aq_mv rfl) ?_
        refine ao_q (v := (i64 (Sh.w (i10 + 1)))) go0 rfl (aq_add rfl rfl) ?_
        refine ao_q (v := (i64 (Sh.w (i10 + 1)))) go0 rfl (aq_as rfl) ?_
        exact AO.done (Exists.intro (Sh.w (i10 + 1)) (And.intro h1 (Wk.to (L := [(0, (.sl (List.map eI p0))), (1, (i64 p1)), (2, (i64 p2)), (3, (i64 p3)), (9, (i64 (Sh.w (i10 + 1))))]) ⟨.rfl, .rfl, .rfl, .rfl, .rfl, trivial⟩)))
    · replace h1 := Sh.ite_f b15 h1
      exact AW.exit (M11 () (Sh.some_eq h1).symm _ (Wk.to (L := []) trivial))

set_option maxRecDepth 100000 in
set_option maxHeartbeats 4000000 in
theorem spec_validInstr_ok {N : Nat} {p0 : RImage} {p1 : RProc} {p2 : Int} {r : Bool} (h0 : spec_validInstr N p0 p1 p2 = some r) : ACalls Try.prog 41 [(.agg [(.sl (List.map eRDecl p0.decls)), (.sl (List.map eRProc p0.procs))]), (.agg [(.sl (List.map eI p1.params)), (.sl (List.map eI p1.lent)), (i64 p1.result), (i64 p1.regs), (.sl (List.map eRInstr p1.code))]), (i64 p2)] [] (fun v st => v = (.bool r) ∧ st = []) := by
  unfold spec_validInstr at h0
  refine ACalls.intro Try.func41 rfl (by show 3 ≤ 234; decide) ?_
  show AW _ 0 _ (aret _ 0 Try.f41 _) ⟨234, _, _⟩
  refine AW.weaken (Wk.to (L := [(0, (.agg [(.sl (List.map eRDecl p0.decls)), (.sl (List.map eRProc p0.procs))])), (1, (.agg [(.sl (List.map eI p1.params)), (.sl (List.map eI p1.lent)), (i64 p1.result), (i64 p1.regs), (.sl (List.map eRInstr p1.code))])), (2, (i64 p2))]) ⟨.rfl, .rfl, .rfl, trivial⟩) ?_
  refine AW.seq fun K1 hK1 => ?_
  refine AW.regionO (by rfl) ?_
  refine ao_box (m := 0) (st' := [⟨0, 31, 2, [[(.sl (List.map eRDecl p0.decls)), (.sl (List.map eRProc p0.procs))]]⟩]) go0 rfl rfl rfl rfl rfl ?_
  refine ao_box (m := 1) (st' := [⟨0, 31, 2, [[(.sl (List.map eRDecl p0.decls)), (.sl (List.map eRProc p0.procs))]]⟩, ⟨0, 47, 5, [[(.sl (List.map eI p1.params)), (.sl (List.map eI p1.lent)), (i64 p1.result), (i64 p1.regs), (.sl (List.map eRInstr p1.code))]]⟩]) go0 rfl rfl rfl rfl rfl ?_
  refine ao_q (v := (.bool false)) go0 rfl (aq_as rfl) ?_
  refine AO.done (hK1 _ ?_)
  refine AW.seq fun K2 hK2 => ?_
  refine AW.regionO (by rfl) ?_
  refine ao_q (v := (.ptr 1 0 0 4)) go0 rfl (aq_fap fi47_4 rfl rfl (show 0 + 4 ≤ 5 by decide) rfl) ?_
  refine ao_q (v := (.sl (List.map eRInstr p1.code))) go0 rfl (aq_ldp ti45 rfl rfl rfl rfl) ?_
  refine ao_q (v := (i64 p2)) go0 rfl (aq_mv rfl) ?_
  obtain ⟨c3, gc3, h0⟩ := Sh.bind_some h0
  refine ao_q (v := (.iptr (eRInstr c3) 0)) go0 rfl (aq_ixs ei45 rfl rfl gc3 rfl) ?_
  refine ao_q (v := (.agg [(i64 c3.op), (i64 c3.dst), (i64 c3.num), (i64 c3.into), (.sl (List.map eI c3.args)), (.sl (List.map eI c3.jumps))])) go0 rfl (aq_ldia ti49 rfl (show 0 + 6 ≤ 6 by decide) rfl) ?_
  refine ao_alloc (m := 2) (st' := [⟨0, 31, 2, [[(.sl (List.map eRDecl p0.decls)), (.sl (List.map eRProc p0.procs))]]⟩, ⟨0, 47, 5, [[(.sl (List.map eI p1.params)), (.sl (List.map eI p1.lent)), (i64 p1.result), (i64 p1.regs), (.sl (List.map eRInstr p1.code))]]⟩, ⟨0, 49, 6, [[(i64 0), (i64 0), (i64 0), (i64 0), .zc, .zc]]⟩]) go0 zi49 rfl rfl ?_
  refine ao_str (st' := [⟨0, 31, 2, [[(.sl (List.map eRDecl p0.decls)), (.sl (List.map eRProc p0.procs))]]⟩, ⟨0, 47, 5, [[(.sl (List.map eI p1.params)), (.sl (List.map eI p1.lent)), (i64 p1.result), (i64 p1.regs), (.sl (List.map eRInstr p1.code))]]⟩, ⟨0, 49, 6, [[(i64 c3.op), (i64 c3.dst), (i64 c3.num), (i64 c3.into), (.sl (List.map eI c3.args)), (.sl (List.map eI c3.jumps))]]⟩]) go0 ti49 rfl rfl rfl rfl rfl rfl (show 0 + 6 ≤ 6 by decide) rfl ?_
  refine AO.done (hK2 _ ?_)
  refine AW.seq fun K4 hK4 => ?_
  refine AW.regionO (by rfl) ?_
  refine ao_q (v := (.ptr 2 0 0 4)) go0 rfl (aq_fap fi49_4 rfl rfl (show 0 + 4 ≤ 6 by decide) rfl) ?_
  refine ao_q (v := (.sl (List.map eI c3.args))) go0 rfl (aq_ldp ti44 rfl rfl rfl rfl) ?_
  refine ao_q (v := (i64 (Sh.len c3.args))) go0 rfl (aq_lens sl44 rfl) ?_
  refine ao_q (v := (i64 (Sh.len c3.args))) go0 rfl (aq_as rfl) ?_
  refine AO.done (hK4 _ ?_)
  refine AW.seq fun K5 hK5 => ?_
  refine AW.seq fun K6 hK6 => ?_
  refine AW.regionO (by rfl) ?_
  refine ao_q (v := (i64 0)) go0 rfl (aq_as rfl) ?_
  refine AO.done (hK6 _ ?_)
  obtain ⟨o8, h1, h0⟩ := Sh.cont_some h0
  have M8 : ∀ (_ : Unit), o8 = Sum.inr () → ∀ s, Wk 0 s ⟨234, envL [(2, (i64 p2)), (3, (.ptr 0 0 0 0)), (4, (.ptr 1 0 0 0)), (7, (.ptr 2 0 0 0)), (8, (i64 (Sh.len c3.args)))], [⟨0, 31, 2, [[(.sl (List.map eRDecl p0.decls)), (.sl (List.map eRProc p0.procs))]]⟩, ⟨0, 47, 5, [[(.sl (List.map eI p1.params)), (.sl (List.map eI p1.lent)), (i64 p1.result), (i64 p1.regs), (.sl (List.map eRInstr p1.code))]]⟩, ⟨0, 49, 6, [[(i64 c3.op), (i64 c3.dst), (i64 c3.num), (i64 c3.into), (.sl (List.map eI c3.args)), (.sl (List.map eI c3.jumps))]]⟩]⟩ → K5 s := by
    intro _ hq s hw
    subst o8
    try dsimp only at h0
    refine hK5 _ (AW.weaken hw ?_)
    refine AW.seq fun K9 hK9 => ?_
    refine AW.seq fun K10 hK10 => ?_
    obtain ⟨o12, h1, h0⟩ := Sh.bind_some h0
    have M12 : ∀ (t11 : Bool), o12 = t11 → ∀ s, Wk 0 s ⟨234, envL [(2, (i64 p2)), (3, (.ptr 0 0 0 0)), (4, (.ptr 1 0 0 0)), (7, (.ptr 2 0 0 0)), (8, (i64 (Sh.len c3.args))), (72, (.bool t11))], [⟨0, 31, 2, [[(.sl (List.map eRDecl p0.decls)), (.sl (List.map eRProc p0.procs))]]⟩, ⟨0, 47, 5, [[(.sl (List.map eI p1.params)), (.sl (List.map eI p1.lent)), (i64 p1.result), (i64 p1.regs), (.sl (List.map eRInstr p1.code))]]⟩, ⟨0, 49, 6, [[(i64 c3.op), (i64 c3.dst), (i64 c3.num), (i64 c3.into), (.sl (List.map eI c3.args)), (.sl (List.map eI c3.jumps))]]⟩]⟩ → K10 s := by
      intro t11 hq s hw
      subst o12
      try dsimp only at h0
      refine hK10 _ (AW.weaken hw ?_)
      refine AW.cond' (b := t11) rfl (fun b13 => ?_) (fun b13 => ?_)
      · replace h0 := Sh.ite_t b13 h0
        refine AW.seq fun K14 hK14 => ?_
        refine AW.regionO (by rfl) ?_
        refine ao_q (v := (.bool false)) go0 rfl (aq_as rfl) ?_
        refine AO.done (hK14 _ ?_)
        replace h0 := Sh.some_eq h0
        subst r
        exact AW.ret (Exists.intro _ (And.intro ((Wk.permk (L := [(6, (.bool false))]) (st' := []) (st1 := []) [] rfl .nil (by decide) rfl rfl .nil ⟨.rfl, trivial⟩).trans (Wk.to (L := [(6, (.bool false))]) ⟨.rfl, trivial⟩)) (And.intro rfl rfl)))
      · replace h0 := Sh.ite_f b13 h0
        refine AW.skip (hK9 _ ?_)
        refine AW.seq fun K15 hK15 => ?_
        refine AW.seq fun K16 hK16 => ?_
        refine AW.regionO (by rfl) ?_
        refine ao_q (v := (.ptr 2 0 0 0)) go0 rfl (aq_fap fi49_0 rfl rfl (show 0 + 0 ≤ 6 by decide) rfl) ?_
        refine ao_q (v := (i64 c3.op)) go0 rfl (aq_ldp ti3 rfl rfl rfl rfl) ?_
        refine AO.done (hK16 _ ?_)
        refine AW.block ?_
        refine AW.seq fun K17 hK17 => ?_
        refine AW.regionO (by rfl) ?_
        refine ao_q (v := (.bool (decide (c3.op = 0)))) go0 rfl (aq_eq rfl rfl) ?_
        refine ao_q (v := (.bool (decide (c3.op = 0)))) go0 rfl (aq_as rfl) ?_
        refine AO.done (hK17 _ ?_)
        refine AW.cond' (b := decide (c3.op = 0)) rfl (fun b18 => ?_) (fun b18 => ?_)
        · replace h0 := Sh.ite_t b18 h0
          refine AW.seq fun K19 hK19 => ?_
          obtain ⟨o21, h1, h0⟩ := Sh.bind_some h0
          have M21 : ∀ (t20 : Bool), o21 = t20 → ∀ s, Wk 0 s ⟨234, envL [(6, (.bool t20))], []⟩ → K19 s := by
            intro t20 hq s hw
            subst o21
            try dsimp only at h0
            refine hK19 _ (AW.weaken hw ?_)
            replace h0 := Sh.some_eq h0
            subst r
            exact AW.ret (Exists.intro _ (And.intro (Wk.to (L := [(6, (.bool t20))]) ⟨.rfl, trivial⟩) (And.intro rfl rfl)))
          refine AW.regionO (by rfl) ?_
          refine ao_q (v := (i64 (Sh.len c3.args))) go0 rfl (aq_mv rfl) ?_
          refine ao_q (v := (.bool (decide ((Sh.len c3.args) = 0)))) go0 rfl (aq_eq rfl rfl) ?_
          refine ao_q (v := (.bool (decide ((Sh.len c3.args) = 0)))) go0 rfl (aq_mv rfl) ?_
          rcases Sh.ite_some h1 with ⟨b22, h1⟩ | ⟨b22, h1⟩
          · skip
            refine ao_q (v := (.ptr 2 0 0 2)) (go1 rfl rfl b22) rfl (aq_fap fi49_2 rfl rfl (show 0 + 2 ≤ 6 by decide) rfl) ?_
            refine ao_q (v := (i64 c3.num)) (go1 rfl rfl b22) rfl (aq_ldp ti3 rfl rfl rfl rfl) ?_
            obtain ⟨q23, gq23, h1⟩ := Sh.bind_some h1
            refine ao_call (v' := (.bool q23)) (st' := [⟨0, 31, 2, [[(.sl (List.map eRDecl p0.decls)), (.sl (List.map eRProc p0.procs))]]⟩, ⟨0, 47, 5, [[(.sl (List.map eI p1.params)), (.sl (List.map eI p1.lent)), (i64 p1.result), (i64 p1.regs), (.sl (List.map eRInstr p1.code))]]⟩, ⟨0, 49, 6, [[(i64 c3.op), (i64 c3.dst), (i64 c3.num), (i64 c3.into), (.sl (List.map eI c3.args)), (.sl (List.map eI c3.jumps))]]⟩]) (go1 rfl rfl b22) hb38 (spec_inRange_ok gq23) rfl rfl trivial rfl rfl ?_
            refine ao_q (v := (.bool q23)) go0 rfl (aq_pkt rfl b22 rfl) ?_
            refine ao_q (v := (.bool q23)) go0 rfl (aq_as rfl) ?_
            exact AO.done (M21 q23 (Sh.some_eq h1).symm _ (by refine Wk.trans (Wk.permk (L := [(6, (.bool q23))]) (st' := []) (st1 := []) [] rfl .nil (by decide) rfl rfl .nil ⟨.rfl, trivial⟩) ?_; exact Wk.to (L := [(6, (.bool q23))]) ⟨.rfl, trivial⟩))
          · skip
            refine ao_skip rfl rfl b22 ?_
            refine ao_skip rfl rfl b22 ?_
            refine ao_skip rfl rfl b22 ?_
            refine ao_q (v := (.bool false)) go0 rfl (aq_pkf rfl b22 rfl) ?_
            refine ao_q (v := (.bool false)) go0 rfl (aq_as rfl) ?_
            exact AO.done (M21 false (Sh.some_eq h1).symm _ (by refine Wk.trans (Wk.permk (L := [(6, (.bool false))]) (st' := []) (st1 := []) [] rfl .nil (by decide) rfl rfl .nil ⟨.rfl, trivial⟩) ?_; exact Wk.to (L := [(6, (.bool false))]) ⟨.rfl, trivial⟩))
        · replace h0 := Sh.ite_f b18 h0
          refine AW.seq fun K24 hK24 => ?_
          obtain ⟨o26, h1, h0⟩ := Sh.bind_some h0
          have M26 : ∀ (t25 : Bool), o26 = t25 → ∀ s, Wk 0 s ⟨234, envL [(2, (i64 p2)), (3, (.ptr 0 0 0 0)), (4, (.ptr 1 0 0 0)), (7, (.ptr 2 0 0 0)), (8, (i64 (Sh.len c3.args))), (74, (i64 c3.op)), (84, (.bool t25))], [⟨0, 31, 2, [[(.sl (List.map eRDecl p0.decls)), (.sl (List.map eRProc p0.procs))]]⟩, ⟨0, 47, 5, [[(.sl (List.map eI p1.params)), (.sl (List.map eI p1.lent)), (i64 p1.result), (i64 p1.regs), (.sl (List.map eRInstr p1.code))]]⟩, ⟨0, 49, 6, [[(i64 c3.op), (i64 c3.dst), (i64 c3.num), (i64 c3.into), (.sl (List.map eI c3.args)), (.sl (List.map eI c3.jumps))]]⟩]⟩ → K24 s := by
            intro t25 hq s hw
            subst o26
            try dsimp only at h0
            refine hK24 _ (AW.weaken hw ?_)
            refine AW.cond' (b := t25) rfl (fun b27 => ?_) (fun b27 => ?_)
            · replace h0 := Sh.ite_t b27 h0
              refine AW.seq fun K28 hK28 => ?_
              obtain ⟨o30, h1, h0⟩ := Sh.bind_some h0
              have M30 : ∀ (t29 : Bool), o30 = t29 → ∀ s, Wk 0 s ⟨234, envL [(6, (.bool t29))], []⟩ → K28 s := by
                intro t29 hq s hw
                subst o30
                try dsimp only at h0
                refine hK28 _ (AW.weaken hw ?_)
                replace h0 := Sh.some_eq h0
                subst r
                exact AW.ret (Exists.intro _ (And.intro (Wk.to (L := [(6, (.bool t29))]) ⟨.rfl, trivial⟩) (And.intro rfl rfl)))
              refine AW.regionO (by rfl) ?_
              refine ao_q (v := (i64 (Sh.len c3.args))) go0 rfl (aq_mv rfl) ?_
              refine ao_q (v := (.bool (decide ((Sh.len c3.args) = 2)))) go0 rfl (aq_eq rfl rfl) ?_
              refine ao_q (v := (.bool (decide ((Sh.len c3.args) = 2)))) go0 rfl (aq_mv rfl) ?_
              rcases Sh.ite_some h1 with ⟨b31, h1⟩ | ⟨b31, h1⟩
              · skip
                refine ao_q (v := (.ptr 2 0 0 2)) (go1 rfl rfl b31) rfl (aq_fap fi49_2 rfl rfl (show 0 + 2 ≤ 6 by decide) rfl) ?_
                refine ao_q (v := (i64 c3.num)) (go1 rfl rfl b31) rfl (aq_ldp ti3 rfl rfl rfl rfl) ?_
                refine ao_q (v := (.bool (decide (c3.num = 0)))) (go1 rfl rfl b31) rfl (aq_eq rfl rfl) ?_
                refine ao_q (v := (.bool (decide (c3.num = 0)))) go0 rfl (aq_pkt rfl b31 rfl) ?_
                refine ao_q (v := (.bool (decide (c3.num = 0)))) go0 rfl (aq_as rfl) ?_
                exact AO.done (M30 (decide (c3.num = 0)) (Sh.some_eq h1).symm _ (by refine Wk.trans (Wk.permk (L := [(6, (.bool (decide (c3.num = 0))))]) (st' := []) (st1 := []) [] rfl .nil (by decide) rfl rfl .nil ⟨.rfl, trivial⟩) ?_; exact Wk.to (L := [(6, (.bool (decide (c3.num = 0))))]) ⟨.rfl, trivial⟩))
              · skip
                refine ao_skip rfl rfl b31 ?_
                refine ao_skip rfl rfl b31 ?_
                refine ao_skip rfl rfl b31 ?_
                refine ao_q (v := (.bool false)) go0 rfl (aq_pkf rfl b31 rfl) ?_
                refine ao_q (v := (.bool false)) go0 rfl (aq_as rfl) ?_
                exact AO.done (M30 false (Sh.some_eq h1).symm _ (by refine Wk.trans (Wk.permk (L := [(6, (.bool false))]) (st' := []) (st1 := []) [] rfl .nil (by decide) rfl rfl .nil ⟨.rfl, trivial⟩) ?_; exact Wk.to (L := [(6, (.bool false))]) ⟨.rfl, trivial⟩))
            · replace h0 := Sh.ite_f b27 h0
              refine AW.seq fun K32 hK32 => ?_
              obtain ⟨o34, h1, h0⟩ := Sh.bind_some h0
              have M34 : ∀ (t33 : Bool), o34 = t33 → ∀ s, Wk 0 s ⟨234, envL [(2, (i64 p2)), (3, (.ptr 0 0 0 0)), (4, (.ptr 1 0 0 0)), (7, (.ptr 2 0 0 0)), (8, (i64 (Sh.len c3.args))), (74, (i64 c3.op)), (97, (.bool t33))], [⟨0, 31, 2, [[(.sl (List.map eRDecl p0.decls)), (.sl (List.map eRProc p0.procs))]]⟩, ⟨0, 47, 5, [[(.sl (List.map eI p1.params)), (.sl (List.map eI p1.lent)), (i64 p1.result), (i64 p1.regs), (.sl (List.map eRInstr p1.code))]]⟩, ⟨0, 49, 6, [[(i64 c3.op), (i64 c3.dst), (i64 c3.num), (i64 c3.into), (.sl (List.map eI c3.args)), (.sl (List.map eI c3.jumps))]]⟩]⟩ → K32 s := by
                intro t33 hq s hw
                subst o34
                try dsimp only at h0
                refine hK32 _ (AW.weaken hw ?_)
                refine AW.cond' (b := t33) rfl (fun b35 => ?_) (fun b35 => ?_)
                · replace h0 := Sh.ite_t b35 h0
                  refine AW.seq fun K36 hK36 => ?_
                  obtain ⟨o38, h1, h0⟩ := Sh.bind_some h0
                  have M38 : ∀ (t37 : Bool), o38 = t37 → ∀ s, Wk 0 s ⟨234, envL [(6, (.bool t37))], []⟩ → K36 s := by
                    intro t37 hq s hw
                    subst o38
                    try dsimp only at h0
                    refine hK36 _ (AW.weaken hw ?_)
                    replace h0 := Sh.some_eq h0
                    subst r
                    exact AW.ret (Exists.intro _ (And.intro (Wk.to (L := [(6, (.bool t37))]) ⟨.rfl, trivial⟩) (And.intro rfl rfl)))
                  refine AW.regionO (by rfl) ?_
                  refine ao_q (v := (i64 (Sh.len c3.args))) go0 rfl (aq_mv rfl) ?_
                  refine ao_q (v := (.bool (decide ((Sh.len c3.args) = 1)))) go0 rfl (aq_eq rfl rfl) ?_
                  refine ao_q (v := (.bool (decide ((Sh.len c3.args) = 1)))) go0 rfl (aq_mv rfl) ?_
                  rcases Sh.ite_some h1 with ⟨b39, h1⟩ | ⟨b39, h1⟩
                  · skip
                    refine ao_q (v := (.ptr 2 0 0 2)) (go1 rfl rfl b39) rfl (aq_fap fi49_2 rfl rfl (show 0 + 2 ≤ 6 by decide) rfl) ?_
                    refine ao_q (v := (i64 c3.num)) (go1 rfl rfl b39) rfl (aq_ldp ti3 rfl rfl rfl rfl) ?_
                    refine ao_q (v := (.bool (decide (c3.num = 0)))) (go1 rfl rfl b39) rfl (aq_eq rfl rfl) ?_
                    refine ao_q (v := (.bool (decide (c3.num = 0)))) go0 rfl (aq_pkt rfl b39 rfl) ?_
                    refine ao_q (v := (.bool (decide (c3.num = 0)))) go0 rfl (aq_as rfl) ?_
                    exact AO.done (M38 (decide (c3.num = 0)) (Sh.some_eq h1).symm _ (by refine Wk.trans (Wk.permk (L := [(6, (.bool (decide (c3.num = 0))))]) (st' := []) (st1 := []) [] rfl .nil (by decide) rfl rfl .nil ⟨.rfl, trivial⟩) ?_; exact Wk.to (L := [(6, (.bool (decide (c3.num = 0))))]) ⟨.rfl, trivial⟩))
                  · skip
                    refine ao_skip rfl rfl b39 ?_
                    refine ao_skip rfl rfl b39 ?_
                    refine ao_skip rfl rfl b39 ?_
                    refine ao_q (v := (.bool false)) go0 rfl (aq_pkf rfl b39 rfl) ?_
                    refine ao_q (v := (.bool false)) go0 rfl (aq_as rfl) ?_
                    exact AO.done (M38 false (Sh.some_eq h1).symm _ (by refine Wk.trans (Wk.permk (L := [(6, (.bool false))]) (st' := []) (st1 := []) [] rfl .nil (by decide) rfl rfl .nil ⟨.rfl, trivial⟩) ?_; exact Wk.to (L := [(6, (.bool false))]) ⟨.rfl, trivial⟩))
                · replace h0 := Sh.ite_f b35 h0
                  refine AW.seq fun K40 hK40 => ?_
                  refine AW.regionO (by rfl) ?_
                  refine ao_q (v := (.bool (decide (c3.op = 6)))) go0 rfl (aq_eq rfl rfl) ?_
                  refine ao_q (v := (.bool (decide (c3.op = 6)))) go0 rfl (aq_as rfl) ?_
                  refine AO.done (hK40 _ ?_)
                  refine AW.cond' (b := decide (c3.op = 6)) rfl (fun b41 => ?_) (fun b41 => ?_)
                  · replace h0 := Sh.ite_t b41 h0
                    refine AW.seq fun K42 hK42 => ?_
                    obtain ⟨o44, h1, h0⟩ := Sh.bind_some h0
                    have M44 : ∀ (t43 : Bool), o44 = t43 → ∀ s, Wk 0 s ⟨234, envL [(6, (.bool t43))], []⟩ → K42 s := by
                      intro t43 hq s hw
                      subst o44
                      try dsimp only at h0
                      refine hK42 _ (AW.weaken hw ?_)
                      replace h0 := Sh.some_eq h0
                      subst r
                      exact AW.ret (Exists.intro _ (And.intro (Wk.to (L := [(6, (.bool t43))]) ⟨.rfl, trivial⟩) (And.intro rfl rfl)))
                    refine AW.regionO (by rfl) ?_
                    refine ao_q (v := (.ptr 0 0 0 0)) go0 rfl (aq_fap fi31_0 rfl rfl (show 0 + 0 ≤ 2 by decide) rfl) ?_
                    refine ao_q (v := (.sl (List.map eRDecl p0.decls))) go0 rfl (aq_ldp ti28 rfl rfl rfl rfl) ?_
                    refine ao_q (v := (.ptr 2 0 0 2)) go0 rfl (aq_fap fi49_2 rfl rfl (show 0 + 2 ≤ 6 by decide) rfl) ?_
                    refine ao_q (v := (i64 c3.num)) go0 rfl (aq_ldp ti3 rfl rfl rfl rfl) ?_
                    obtain ⟨q45, gq45, h1⟩ := Sh.bind_some h1
                    refine ao_call (v' := (i64 q45)) (st' := [⟨0, 31, 2, [[(.sl (List.map eRDecl p0.decls)), (.sl (List.map eRProc p0.procs))]]⟩, ⟨0, 47, 5, [[(.sl (List.map eI p1.params)), (.sl (List.map eI p1.lent)), (i64 p1.result), (i64 p1.regs), (.sl (List.map eRInstr p1.code))]]⟩, ⟨0, 49, 6, [[(i64 c3.op), (i64 c3.dst), (i64 c3.num), (i64 c3.into), (.sl (List.map eI c3.args)), (.sl (List.map eI c3.jumps))]]⟩]) go0 hb59 (spec_conType_ok gq45) rfl rfl trivial rfl rfl ?_
                    refine ao_q (v := (.bool (decide (0 < q45)))) go0 rfl (aq_gt rfl rfl) ?_
                    refine ao_q (v := (.bool (decide (0 < q45)))) go0 rfl (aq_mv rfl) ?_
                    rcases Sh.ite_some h1 with ⟨b46, h1⟩ | ⟨b46, h1⟩
                    · skip
                      refine ao_q (v := (i64 (Sh.len c3.args))) (go1 rfl rfl b46) rfl (aq_mv rfl) ?_
                      refine ao_q (v := (.ptr 0 0 0 0)) (go1 rfl rfl b46) rfl (aq_fap fi31_0 rfl rfl (show 0 + 0 ≤ 2 by decide) rfl) ?_
                      refine ao_q (v := (.sl (List.map eRDecl p0.decls))) (go1 rfl rfl b46) rfl (aq_ldp ti28 rfl rfl rfl rfl) ?_
                      refine ao_q (v := (.ptr 2 0 0 2)) (go1 rfl rfl b46) rfl (aq_fap fi49_2 rfl rfl (show 0 + 2 ≤ 6 by decide) rfl) ?_
                      refine ao_q (v := (i64 c3.num)) (go1 rfl rfl b46) rfl (aq_ldp ti3 rfl rfl rfl rfl) ?_
                      obtain ⟨q47, gq47, h1⟩ := Sh.bind_some h1
                      refine ao_call (v' := (.sl (List.map eI q47))) (st' := [⟨0, 31, 2, [[(.sl (List.map eRDecl p0.decls)), (.sl (List.map eRProc p0.procs))]]⟩, ⟨0, 47, 5, [[(.sl (List.map eI p1.params)), (.sl (List.map eI p1.lent)), (i64 p1.result), (i64 p1.regs), (.sl (List.map eRInstr p1.code))]]⟩, ⟨0, 49, 6, [[(i64 c3.op), (i64 c3.dst), (i64 c3.num), (i64 c3.into), (.sl (List.map eI c3.args)), (.sl (List.map eI c3.jumps))]]⟩]) (go1 rfl rfl b46) hb60 (spec_conFields_ok gq47) rfl rfl trivial rfl rfl ?_
                      refine ao_q (v := (i64 (Sh.len q47))) (go1 rfl rfl b46) rfl (aq_lens sl44 rfl) ?_
                      refine ao_q (v := (.bool (decide ((Sh.len c3.args) = (Sh.len q47))))) (go1 rfl rfl b46) rfl (aq_eq rfl rfl) ?_
                      refine ao_q (v := (.bool (decide ((Sh.len c3.args) = (Sh.len q47))))) go0 rfl (aq_pkt rfl b46 rfl) ?_
                      refine ao_q (v := (.bool (decide ((Sh.len c3.args) = (Sh.len q47))))) go0 rfl (aq_mv rfl) ?_
                      rcases Sh.ite_some h1 with ⟨b48, h1⟩ | ⟨b48, h1⟩
                      · skip
                        refine ao_q (v := (.ptr 2 0 0 3)) (go1 rfl rfl b48) rfl (aq_fap fi49_3 rfl rfl (show 0 + 3 ≤ 6 by decide) rfl) ?_
                        refine ao_q (v := (i64 c3.into)) (go1 rfl rfl b48) rfl (aq_ldp ti3 rfl rfl rfl rfl) ?_
                        refine ao_q (v := (.ptr 1 0 0 3)) (go1 rfl rfl b48) rfl (aq_fap fi47_3 rfl rfl (show 0 + 3 ≤ 5 by decide) rfl) ?_
                        refine ao_q (v := (i64 p1.regs)) (go1 rfl rfl b48) rfl (aq_ldp ti3 rfl rfl rfl rfl) ?_
                        obtain ⟨q49, gq49, h1⟩ := Sh.bind_some h1
                        refine ao_call (v' := (.bool q49)) (st' := [⟨0, 31, 2, [[(.sl (List.map eRDecl p0.decls)), (.sl (List.map eRProc p0.procs))]]⟩, ⟨0, 47, 5, [[(.sl (List.map eI p1.params)), (.sl (List.map eI p1.lent)), (i64 p1.result), (i64 p1.regs), (.sl (List.map eRInstr p1.code))]]⟩, ⟨0, 49, 6, [[(i64 c3.op), (i64 c3.dst), (i64 c3.num), (i64 c3.into), (.sl (List.map eI c3.args)), (.sl (List.map eI c3.jumps))]]⟩]) (go1 rfl rfl b48) hb38 (spec_inRange_ok gq49) rfl rfl trivial rfl rfl ?_
                        refine ao_q (v := (.bool q49)) go0 rfl (aq_pkt rfl b48 rfl) ?_
                        refine ao_q (v := (.bool q49)) go0 rfl (aq_as rfl) ?_
                        exact AO.done (M44 q49 (Sh.some_eq h1).symm _ (by refine Wk.trans (Wk.permk (L := [(6, (.bool q49))]) (st' := []) (st1 := []) [] rfl .nil (by decide) rfl rfl .nil ⟨.rfl, trivial⟩) ?_; exact Wk.to (L := [(6, (.bool q49))]) ⟨.rfl, trivial⟩))
                      · skip
                        refine ao_skip rfl rfl b48 ?_
                        refine ao_skip rfl rfl b48 ?_
                        refine ao_skip rfl rfl b48 ?_
                        refine ao_skip rfl rfl b48 ?_
                        refine ao_skip rfl rfl b48 ?_
                        refine ao_q (v := (.bool false)) go0 rfl (aq_pkf rfl b48 rfl) ?_
                        refine ao_q (v := (.bool false)) go0 rfl (aq_as rfl) ?_
                        exact AO.done (M44 false (Sh.some_eq h1).symm _ (by refine Wk.trans (Wk.permk (L := [(6, (.bool false))]) (st' := []) (st1 := []) [] rfl .nil (by decide) rfl rfl .nil ⟨.rfl, trivial⟩) ?_; exact Wk.to (L := [(6, (.bool false))]) ⟨.rfl, trivial⟩))
                    · skip
                      refine ao_skip rfl rfl b46 ?_
                      refine ao_skip rfl rfl b46 ?_
                      refine ao_skip rfl rfl b46 ?_
                      refine ao_skip rfl rfl b46 ?_
                      refine ao_skip rfl rfl b46 ?_
                      refine ao_skip rfl rfl b46 ?_
                      refine ao_skip rfl rfl b46 ?_
                      refine ao_skip rfl rfl b46 ?_
                      refine ao_q (v := (.bool false)) go0 rfl (aq_pkf rfl b46 rfl) ?_
                      refine ao_q (v := (.bool false)) go0 rfl (aq_mv rfl) ?_
                      refine ao_skip rfl rfl rfl ?_
                      refine ao_skip rfl rfl rfl ?_
                      refine ao_skip rfl rfl rfl ?_
                      refine ao_skip rfl rfl rfl ?_
                      refine ao_skip rfl rfl rfl ?_
                      refine ao_q (v := (.bool false)) go0 rfl (aq_pkf rfl rfl rfl) ?_
                      refine ao_q (v := (.bool false)) go0 rfl (aq_as rfl) ?_
                      exact AO.done (M44 false (Sh.some_eq h1).symm _ (by refine Wk.trans (Wk.permk (L := [(6, (.bool false))]) (st' := []) (st1 := []) [] rfl .nil (by decide) rfl rfl .nil ⟨.rfl, trivial⟩) ?_; exact Wk.to (L := [(6, (.bool false))]) ⟨.rfl, trivial⟩))
                  · replace h0 := Sh.ite_f b41 h0
                    refine AW.seq fun K50 hK50 => ?_
                    obtain ⟨o52, h1, h0⟩ := Sh.bind_some h0
                    have M52 : ∀ (t51 : Bool), o52 = t51 → ∀ s, Wk 0 s ⟨234, envL [(2, (i64 p2)), (3, (.ptr 0 0 0 0)), (4, (.ptr 1 0 0 0)), (7, (.ptr 2 0 0 0)), (8, (i64 (Sh.len c3.args))), (74, (i64 c3.op)), (135, (.bool t51))], [⟨0, 31, 2, [[(.sl (List.map eRDecl p0.decls)), (.sl (List.map eRProc p0.procs))]]⟩, ⟨0, 47, 5, [[(.sl (List.map eI p1.params)), (.sl (List.map eI p1.lent)), (i64 p1.result), (i64 p1.regs), (.sl (List.map eRInstr p1.code))]]⟩, ⟨0, 49, 6, [[(i64 c3.op), (i64 c3.dst), (i64 c3.num), (i64 c3.into), (.sl (List.map eI c3.args)), (.sl (List.map eI c3.jumps))]]⟩]⟩ → K50 s := by
                      intro t51 hq s hw
                      subst o52
                      try dsimp only at h0
                      refine hK50 _ (AW.weaken hw ?_)
                      refine AW.cond' (b := t51) rfl (fun b53 => ?_) (fun b53 => ?_)
                      · replace h0 := Sh.ite_t b53 h0
                        refine AW.seq fun K54 hK54 => ?_
                        refine AW.regionO (by rfl) ?_
                        refine ao_q (v := (.agg [(.sl (List.map eRDecl p0.decls)), (.sl (List.map eRProc p0.procs))])) go0 rfl (aq_ldpa ti31 rfl rfl rfl (show 0 + 2 ≤ 2 by decide) rfl) ?_
                        refine ao_q (v := (.ptr 2 0 0 2)) go0 rfl (aq_fap fi49_2 rfl rfl (show 0 + 2 ≤ 6 by decide) rfl) ?_
                        refine ao_q (v := (i64 c3.num)) go0 rfl (aq_ldp ti3 rfl rfl rfl rfl) ?_
                        refine ao_q (v := (i64 (Sh.len c3.args))) go0 rfl (aq_mv rfl) ?_
                        obtain ⟨q55, gq55, h0⟩ := Sh.bind_some h0
                        refine ao_call (v' := (.bool q55)) (st' := [⟨0, 31, 2, [[(.sl (List.map eRDecl p0.decls)), (.sl (List.map eRProc p0.procs))]]⟩, ⟨0, 47, 5, [[(.sl (List.map eI p1.params)), (.sl (List.map eI p1.lent)), (i64 p1.result), (i64 p1.regs), (.sl (List.map eRInstr p1.code))]]⟩, ⟨0, 49, 6, [[(i64 c3.op), (i64 c3.dst), (i64 c3.num), (i64 c3.into), (.sl (List.map eI c3.args)), (.sl (List.map eI c3.jumps))]]⟩]) go0 hb61 (spec_procWith_ok gq55) rfl rfl trivial rfl rfl ?_
                        refine ao_q (v := (.bool q55)) go0 rfl (aq_as rfl) ?_
                        refine AO.done (hK54 _ ?_)
                        replace h0 := Sh.some_eq h0
                        subst r
                        exact AW.ret (Exists.intro _ (And.intro ((Wk.permk (L := [(6, (.bool q55))]) (st' := []) (st1 := []) [] rfl .nil (by decide) rfl rfl .nil ⟨.rfl, trivial⟩).trans (Wk.to (L := [(6, (.bool q55))]) ⟨.rfl, trivial⟩)) (And.intro rfl rfl)))
                      · replace h0 := Sh.ite_f b53 h0
                        refine AW.seq fun K56 hK56 => ?_
                        refine AW.regionO (by rfl) ?_
                        refine ao_q (v := (.bool (decide (c3.op = 10)))) go0 rfl (aq_eq rfl rfl) ?_
                        refine ao_q (v := (.bool (decide (c3.op = 10)))) go0 rfl (aq_as rfl) ?_
                        refine AO.done (hK56 _ ?_)
                        refine AW.cond' (b := decide (c3.op = 10)) rfl (fun b57 => ?_) (fun b57 => ?_)
                        · replace h0 := Sh.ite_t b57 h0
                          refine AW.seq fun K58 hK58 => ?_
                          obtain ⟨o60, h1, h0⟩ := Sh.bind_some h0
                          have M60 : ∀ (t59 : Bool), o60 = t59 → ∀ s, Wk 0 s ⟨234, envL [(6, (.bool t59))], []⟩ → K58 s := by
                            intro t59 hq s hw
                            subst o60
                            try dsimp only at h0
                            refine hK58 _ (AW.weaken hw ?_)
                            replace h0 := Sh.some_eq h0
                            subst r
                            exact AW.ret (Exists.intro _ (And.intro (Wk.to (L := [(6, (.bool t59))]) ⟨.rfl, trivial⟩) (And.intro rfl rfl)))
                          refine AW.regionO (by rfl) ?_
                          refine ao_q (v := (.agg [(.sl (List.map eRDecl p0.decls)), (.sl (List.map eRProc p0.procs))])) go0 rfl (aq_ldpa ti31 rfl rfl rfl (show 0 + 2 ≤ 2 by decide) rfl) ?_
                          refine ao_q (v := (.ptr 2 0 0 2)) go0 rfl (aq_fap fi49_2 rfl rfl (show 0 + 2 ≤ 6 by decide) rfl) ?_
                          refine ao_q (v := (i64 c3.num)) go0 rfl (aq_ldp ti3 rfl rfl rfl rfl) ?_
                          refine ao_q (v := (i64 (Sh.len c3.args))) go0 rfl (aq_mv rfl) ?_
                          obtain ⟨q61, gq61, h1⟩ := Sh.bind_some h1
                          refine ao_call (v' := (.bool q61)) (st' := [⟨0, 31, 2, [[(.sl (List.map eRDecl p0.decls)), (.sl (List.map eRProc p0.procs))]]⟩, ⟨0, 47, 5, [[(.sl (List.map eI p1.params)), (.sl (List.map eI p1.lent)), (i64 p1.result), (i64 p1.regs), (.sl (List.map eRInstr p1.code))]]⟩, ⟨0, 49, 6, [[(i64 c3.op), (i64 c3.dst), (i64 c3.num), (i64 c3.into), (.sl (List.map eI c3.args)), (.sl (List.map eI c3.jumps))]]⟩]) go0 hb61 (spec_procWith_ok gq61) rfl rfl trivial rfl rfl ?_
                          refine ao_q (v := (.bool q61)) go0 rfl (aq_mv rfl) ?_
                          rcases Sh.ite_some h1 with ⟨b62, h1⟩ | ⟨b62, h1⟩
                          · skip
                            refine ao_q (v := (.ptr 0 0 0 1)) (go1 rfl rfl b62) rfl (aq_fap fi31_1 rfl rfl (show 0 + 1 ≤ 2 by decide) rfl) ?_
                            refine ao_q (v := (.sl (List.map eRProc p0.procs))) (go1 rfl rfl b62) rfl (aq_ldp ti29 rfl rfl rfl rfl) ?_
                            refine ao_q (v := (.ptr 2 0 0 2)) (go1 rfl rfl b62) rfl (aq_fap fi49_2 rfl rfl (show 0 + 2 ≤ 6 by decide) rfl) ?_
                            refine ao_q (v := (i64 c3.num)) (go1 rfl rfl b62) rfl (aq_ldp ti3 rfl rfl rfl rfl) ?_
                            obtain ⟨c63, gc63, h1⟩ := Sh.bind_some h1
                            refine ao_q (v := (.iptr (eRProc c63) 0)) (go1 rfl rfl b62) rfl (aq_ixs ei29 rfl rfl gc63 rfl) ?_
                            refine ao_q (v := (.iptr (eRProc c63) 1)) (go1 rfl rfl b62) rfl (aq_fai fi47_1 rfl rfl) ?_
                            refine ao_q (v := (.sl (List.map eI c63.lent))) (go1 rfl rfl b62) rfl (aq_ldi ti44 rfl rfl) ?_
                            refine ao_q (v := (i64 (Sh.len c63.lent))) (go1 rfl rfl b62) rfl (aq_lens sl44 rfl) ?_
                            refine ao_q (v := (.bool (decide ((Sh.len c63.lent) = 0)))) (go1 rfl rfl b62) rfl (aq_eq rfl rfl) ?_
                            refine ao_q (v := (.bool (decide ((Sh.len c63.lent) = 0)))) go0 rfl (aq_pkt rfl b62 rfl) ?_
                            refine ao_q (v := (.bool (decide ((Sh.len c63.lent) = 0)))) go0 rfl (aq_as rfl) ?_
                            exact AO.done (M60 (decide ((Sh.len c63.lent) = 0)) (Sh.some_eq h1).symm _ (by refine Wk.trans (Wk.permk (L := [(6, (.bool (decide ((Sh.len c63.lent) = 0))))]) (st' := []) (st1 := []) [] rfl .nil (by decide) rfl rfl .nil ⟨.rfl, trivial⟩) ?_; exact Wk.to (L := [(6, (.bool (decide ((Sh.len c63.lent) = 0))))]) ⟨.rfl, trivial⟩))
                          · skip
                            refine ao_skip rfl rfl b62 ?_
                            refine ao_skip rfl rfl b62 ?_
                            refine ao_skip rfl rfl b62 ?_
                            refine ao_skip rfl rfl b62 ?_
                            refine ao_skip rfl rfl b62 ?_
                            refine ao_skip rfl rfl b62 ?_
                            refine ao_skip rfl rfl b62 ?_
                            refine ao_skip rfl rfl b62 ?_
                            refine ao_skip rfl rfl b62 ?_
                            refine ao_q (v := (.bool false)) go0 rfl (aq_pkf rfl b62 rfl) ?_
                            refine ao_q (v := (.bool false)) go0 rfl (aq_as rfl) ?_
                            exact AO.done (M60 false (Sh.some_eq h1).symm _ (by refine Wk.trans (Wk.permk (L := [(6, (.bool false))]) (st' := []) (st1 := []) [] rfl .nil (by decide) rfl rfl .nil ⟨.rfl, trivial⟩) ?_; exact Wk.to (L := [(6, (.bool false))]) ⟨.rfl, trivial⟩))
                        · replace h0 := Sh.ite_f b57 h0
                          refine AW.seq fun K64 hK64 => ?_
                          obtain ⟨o66, h1, h0⟩ := Sh.bind_some h0
                          have M66 : ∀ (t65 : Bool), o66 = t65 → ∀ s, Wk 0 s ⟨234, envL [(2, (i64 p2)), (3, (.ptr 0 0 0 0)), (4, (.ptr 1 0 0 0)), (7, (.ptr 2 0 0 0)), (8, (i64 (Sh.len c3.args))), (74, (i64 c3.op)), (161, (.bool t65))], [⟨0, 31, 2, [[(.sl (List.map eRDecl p0.decls)), (.sl (List.map eRProc p0.procs))]]⟩, ⟨0, 47, 5, [[(.sl (List.map eI p1.params)), (.sl (List.map eI p1.lent)), (i64 p1.result), (i64 p1.regs), (.sl (List.map eRInstr p1.code))]]⟩, ⟨0, 49, 6, [[(i64 c3.op), (i64 c3.dst), (i64 c3.num), (i64 c3.into), (.sl (List.map eI c3.args)), (.sl (List.map eI c3.jumps))]]⟩]⟩ → K64 s := by
                            intro t65 hq s hw
                            subst o66
                            try dsimp only at h0
                            refine hK64 _ (AW.weaken hw ?_)
                            refine AW.cond' (b := t65) rfl (fun b67 => ?_) (fun b67 => ?_)
                            · replace h0 := Sh.ite_t b67 h0
                              refine AW.seq fun K68 hK68 => ?_
                              obtain ⟨o70, h1, h0⟩ := Sh.bind_some h0
                              have M70 : ∀ (t69 : Bool), o70 = t69 → ∀ s, Wk 0 s ⟨234, envL [(6, (.bool t69))], []⟩ → K68 s := by
                                intro t69 hq s hw
                                subst o70
                                try dsimp only at h0
                                refine hK68 _ (AW.weaken hw ?_)
                                replace h0 := Sh.some_eq h0
                                subst r
                                exact AW.ret (Exists.intro _ (And.intro (Wk.to (L := [(6, (.bool t69))]) ⟨.rfl, trivial⟩) (And.intro rfl rfl)))
                              refine AW.regionO (by rfl) ?_
                              refine ao_q (v := (i64 (Sh.len c3.args))) go0 rfl (aq_mv rfl) ?_
                              obtain ⟨q71, gq71, h1⟩ := Sh.bind_some h1
                              refine ao_call (v' := (.bool q71)) (st' := [⟨0, 31, 2, [[(.sl (List.map eRDecl p0.decls)), (.sl (List.map eRProc p0.procs))]]⟩, ⟨0, 47, 5, [[(.sl (List.map eI p1.params)), (.sl (List.map eI p1.lent)), (i64 p1.result), (i64 p1.regs), (.sl (List.map eRInstr p1.code))]]⟩, ⟨0, 49, 6, [[(i64 c3.op), (i64 c3.dst), (i64 c3.num), (i64 c3.into), (.sl (List.map eI c3.args)), (.sl (List.map eI c3.jumps))]]⟩]) go0 hb38 (spec_inRange_ok gq71) rfl rfl trivial rfl rfl ?_
                              refine ao_q (v := (.bool q71)) go0 rfl (aq_mv rfl) ?_
                              rcases Sh.ite_some h1 with ⟨b72, h1⟩ | ⟨b72, h1⟩
                              · skip
                                refine ao_q (v := (.ptr 2 0 0 2)) (go1 rfl rfl b72) rfl (aq_fap fi49_2 rfl rfl (show 0 + 2 ≤ 6 by decide) rfl) ?_
                                refine ao_q (v := (i64 c3.num)) (go1 rfl rfl b72) rfl (aq_ldp ti3 rfl rfl rfl rfl) ?_
                                refine ao_q (v := (.bool (decide (c3.num = 0)))) (go1 rfl rfl b72) rfl (aq_eq rfl rfl) ?_
                                refine ao_q (v := (.bool (decide (c3.num = 0)))) go0 rfl (aq_pkt rfl b72 rfl) ?_
                                refine ao_q (v := (.bool (decide (c3.num = 0)))) go0 rfl (aq_as rfl) ?_
                                exact AO.done (M70 (decide (c3.num = 0)) (Sh.some_eq h1).symm _ (by refine Wk.trans (Wk.permk (L := [(6, (.bool (decide (c3.num = 0))))]) (st' := []) (st1 := []) [] rfl .nil (by decide) rfl rfl .nil ⟨.rfl, trivial⟩) ?_; exact Wk.to (L := [(6, (.bool (decide (c3.num = 0))))]) ⟨.rfl, trivial⟩))
                              · skip
                                refine ao_skip rfl rfl b72 ?_
                                refine ao_skip rfl rfl b72 ?_
                                refine ao_skip rfl rfl b72 ?_
                                refine ao_q (v := (.bool false)) go0 rfl (aq_pkf rfl b72 rfl) ?_
                                refine ao_q (v := (.bool false)) go0 rfl (aq_as rfl) ?_
                                exact AO.done (M70 false (Sh.some_eq h1).symm _ (by refine Wk.trans (Wk.permk (L := [(6, (.bool false))]) (st' := []) (st1 := []) [] rfl .nil (by decide) rfl rfl .nil ⟨.rfl, trivial⟩) ?_; exact Wk.to (L := [(6, (.bool false))]) ⟨.rfl, trivial⟩))
                            · replace h0 := Sh.ite_f b67 h0
                              refine AW.seq fun K73 hK73 => ?_
                              refine AW.regionO (by rfl) ?_
                              refine ao_q (v := (.bool (decide (c3.op = 19)))) go0 rfl (aq_eq rfl rfl) ?_
                              refine ao_q (v := (.bool (decide (c3.op = 19)))) go0 rfl (aq_as rfl) ?_
                              refine AO.done (hK73 _ ?_)
                              refine AW.cond' (b := decide (c3.op = 19)) rfl (fun b74 => ?_) (fun b74 => ?_)
                              · replace h0 := Sh.ite_t b74 h0
                                refine AW.seq fun K75 hK75 => ?_
                                obtain ⟨o77, h1, h0⟩ := Sh.bind_some h0
                                have M77 : ∀ (t76 : Bool), o77 = t76 → ∀ s, Wk 0 s ⟨234, envL [(6, (.bool t76))], []⟩ → K75 s := by
                                  intro t76 hq s hw
                                  subst o77
                                  try dsimp only at h0
                                  refine hK75 _ (AW.weaken hw ?_)
                                  replace h0 := Sh.some_eq h0
                                  subst r
                                  exact AW.ret (Exists.intro _ (And.intro (Wk.to (L := [(6, (.bool t76))]) ⟨.rfl, trivial⟩) (And.intro rfl rfl)))
                                refine AW.regionO (by rfl) ?_
                                refine ao_q (v := (i64 (Sh.len c3.args))) go0 rfl (aq_mv rfl) ?_
                                refine ao_q (v := (.bool (decide ((Sh.len c3.args) = 1)))) go0 rfl (aq_eq rfl rfl) ?_
                                refine ao_q (v := (.bool (decide ((Sh.len c3.args) = 1)))) go0 rfl (aq_mv rfl) ?_
                                rcases Sh.ite_some h1 with ⟨b78, h1⟩ | ⟨b78, h1⟩
                                · skip
                                  refine ao_q (v := (.ptr 2 0 0 2)) (go1 rfl rfl b78) rfl (aq_fap fi49_2 rfl rfl (show 0 + 2 ≤ 6 by decide) rfl) ?_
                                  refine ao_q (v := (i64 c3.num)) (go1 rfl rfl b78) rfl (aq_ldp ti3 rfl rfl rfl rfl) ?_
                                  obtain ⟨q79, gq79, h1⟩ := Sh.bind_some h1
                                  refine ao_call (v' := (.bool q79)) (st' := [⟨0, 31, 2, [[(.sl (List.map eRDecl p0.decls)), (.sl (List.map eRProc p0.procs))]]⟩, ⟨0, 47, 5, [[(.sl (List.map eI p1.params)), (.sl (List.map eI p1.lent)), (i64 p1.result), (i64 p1.regs), (.sl (List.map eRInstr p1.code))]]⟩, ⟨0, 49, 6, [[(i64 c3.op), (i64 c3.dst), (i64 c3.num), (i64 c3.into), (.sl (List.map eI c3.args)), (.sl (List.map eI c3.jumps))]]⟩]) (go1 rfl rfl b78) hb38 (spec_inRange_ok gq79) rfl rfl trivial rfl rfl ?_
                                  refine ao_q (v := (.bool q79)) go0 rfl (aq_pkt rfl b78 rfl) ?_
                                  refine ao_q (v := (.bool q79)) go0 rfl (aq_as rfl) ?_
                                  exact AO.done (M77 q79 (Sh.some_eq h1).symm _ (by refine Wk.trans (Wk.permk (L := [(6, (.bool q79))]) (st' := []) (st1 := []) [] rfl .nil (by decide) rfl rfl .nil ⟨.rfl, trivial⟩) ?_; exact Wk.to (L := [(6, (.bool q79))]) ⟨.rfl, trivial⟩))
                                · skip
                                  refine ao_skip rfl rfl b78 ?_
                                  refine ao_skip rfl rfl b78 ?_
                                  refine ao_skip rfl rfl b78 ?_
                                  refine ao_q (v := (.bool false)) go0 rfl (aq_pkf rfl b78 rfl) ?_
                                  refine ao_q (v := (.bool false)) go0 rfl (aq_as rfl) ?_
                                  exact AO.done (M77 false (Sh.some_eq h1).symm _ (by refine Wk.trans (Wk.permk (L := [(6, (.bool false))]) (st' := []) (st1 := []) [] rfl .nil (by decide) rfl rfl .nil ⟨.rfl, trivial⟩) ?_; exact Wk.to (L := [(6, (.bool false))]) ⟨.rfl, trivial⟩))
                              · replace h0 := Sh.ite_f b74 h0
                                refine AW.seq fun K80 hK80 => ?_
                                refine AW.regionO (by rfl) ?_
                                refine ao_q (v := (.bool (decide (c3.op = 20)))) go0 rfl (aq_eq rfl rfl) ?_
                                refine ao_q (v := (.bool (decide (c3.op = 20)))) go0 rfl (aq_as rfl) ?_
                                refine AO.done (hK80 _ ?_)
                                refine AW.cond' (b := decide (c3.op = 20)) rfl (fun b81 => ?_) (fun b81 => ?_)
                                · replace h0 := Sh.ite_t b81 h0
                                  refine AW.seq fun K82 hK82 => ?_
                                  obtain ⟨o84, h1, h0⟩ := Sh.bind_some h0
                                  have M84 : ∀ (t83 : Bool), o84 = t83 → ∀ s, Wk 0 s ⟨234, envL [(6, (.bool t83))], []⟩ → K82 s := by
                                    intro t83 hq s hw
                                    subst o84
                                    try dsimp only at h0
                                    refine hK82 _ (AW.weaken hw ?_)
                                    replace h0 := Sh.some_eq h0
                                    subst r
                                    exact AW.ret (Exists.intro _ (And.intro (Wk.to (L := [(6, (.bool t83))]) ⟨.rfl, trivial⟩) (And.intro rfl rfl)))
                                  refine AW.regionO (by rfl) ?_
                                  refine ao_q (v := (i64 (Sh.len c3.args))) go0 rfl (aq_mv rfl) ?_
                                  refine ao_q (v := (.bool (decide ((Sh.len c3.args) = 1)))) go0 rfl (aq_eq rfl rfl) ?_
                                  refine ao_q (v := (.bool (decide ((Sh.len c3.args) = 1)))) go0 rfl (aq_mv rfl) ?_
                                  rcases Sh.ite_some h1 with ⟨b85, h1⟩ | ⟨b85, h1⟩
                                  · skip
                                    refine ao_q (v := (.ptr 2 0 0 2)) (go1 rfl rfl b85) rfl (aq_fap fi49_2 rfl rfl (show 0 + 2 ≤ 6 by decide) rfl) ?_
                                    refine ao_q (v := (i64 c3.num)) (go1 rfl rfl b85) rfl (aq_ldp ti3 rfl rfl rfl rfl) ?_
                                    refine ao_q (v := (i64 p2)) (go1 rfl rfl b85) rfl (aq_mv rfl) ?_
                                    refine ao_q (v := (i64 (Sh.w (p2 + 1)))) (go1 rfl rfl b85) rfl (aq_add rfl rfl) ?_
                                    refine ao_q (v := (.ptr 1 0 0 4)) (go1 rfl rfl b85) rfl (aq_fap fi47_4 rfl rfl (show 0 + 4 ≤ 5 by decide) rfl) ?_
                                    refine ao_q (v := (.sl (List.map eRInstr p1.code))) (go1 rfl rfl b85) rfl (aq_ldp ti45 rfl rfl rfl rfl) ?_
                                    refine ao_q (v := (i64 (Sh.len p1.code))) (go1 rfl rfl b85) rfl (aq_lens sl45 rfl) ?_
                                    refine ao_q (v := (i64 (Sh.w ((Sh.len p1.code) - 1)))) (go1 rfl rfl b85) rfl (aq_sub rfl rfl) ?_
                                    obtain ⟨q86, gq86, h1⟩ := Sh.bind_some h1
                                    refine ao_call (v' := (.bool q86)) (st' := [⟨0, 31, 2, [[(.sl (List.map eRDecl p0.decls)), (.sl (List.map eRProc p0.procs))]]⟩, ⟨0, 47, 5, [[(.sl (List.map eI p1.params)), (.sl (List.map eI p1.lent)), (i64 p1.result), (i64 p1.regs), (.sl (List.map eRInstr p1.code))]]⟩, ⟨0, 49, 6, [[(i64 c3.op), (i64 c3.dst), (i64 c3.num), (i64 c3.into), (.sl (List.map eI c3.args)), (.sl (List.map eI c3.jumps))]]⟩]) (go1 rfl rfl b85) hb38 (spec_inRange_ok gq86) rfl rfl trivial rfl rfl ?_
                                    refine ao_q (v := (.bool q86)) go0 rfl (aq_pkt rfl b85 rfl) ?_
                                    refine ao_q (v := (.bool q86)) go0 rfl (aq_as rfl) ?_
                                    exact AO.done (M84 q86 (Sh.some_eq h1).symm _ (by refine Wk.trans (Wk.permk (L := [(6, (.bool q86))]) (st' := []) (st1 := []) [] rfl .nil (by decide) rfl rfl .nil ⟨.rfl, trivial⟩) ?_; exact Wk.to (L := [(6, (.bool q86))]) ⟨.rfl, trivial⟩))
                                  · skip
                                    refine ao_skip rfl rfl b85 ?_
                                    refine ao_skip rfl rfl b85 ?_
                                    refine ao_skip rfl rfl b85 ?_
                                    refine ao_skip rfl rfl b85 ?_
                                    refine ao_skip rfl rfl b85 ?_
                                    refine ao_skip rfl rfl b85 ?_
                                    refine ao_skip rfl rfl b85 ?_
                                    refine ao_skip rfl rfl b85 ?_
                                    refine ao_skip rfl rfl b85 ?_
                                    refine ao_q (v := (.bool false)) go0 rfl (aq_pkf rfl b85 rfl) ?_
                                    refine ao_q (v := (.bool false)) go0 rfl (aq_as rfl) ?_
                                    exact AO.done (M84 false (Sh.some_eq h1).symm _ (by refine Wk.trans (Wk.permk (L := [(6, (.bool false))]) (st' := []) (st1 := []) [] rfl .nil (by decide) rfl rfl .nil ⟨.rfl, trivial⟩) ?_; exact Wk.to (L := [(6, (.bool false))]) ⟨.rfl, trivial⟩))
                                · replace h0 := Sh.ite_f b81 h0
                                  refine AW.seq fun K87 hK87 => ?_
                                  refine AW.regionO (by rfl) ?_
                                  refine ao_q (v := (.bool (decide (c3.op = 22)))) go0 rfl (aq_eq rfl rfl) ?_
                                  refine ao_q (v := (.bool (decide (c3.op = 22)))) go0 rfl (aq_as rfl) ?_
                                  refine AO.done (hK87 _ ?_)
                                  refine AW.cond' (b := decide (c3.op = 22)) rfl (fun b88 => ?_) (fun b88 => ?_)
                                  · replace h0 := Sh.ite_t b88 h0
                                    refine AW.seq fun K89 hK89 => ?_
                                    obtain ⟨o91, h1, h0⟩ := Sh.bind_some h0
                                    have M91 : ∀ (t90 : Bool), o91 = t90 → ∀ s, Wk 0 s ⟨234, envL [(6, (.bool t90))], []⟩ → K89 s := by
                                      intro t90 hq s hw
                                      subst o91
                                      try dsimp only at h0
                                      refine hK89 _ (AW.weaken hw ?_)
                                      replace h0 := Sh.some_eq h0
                                      subst r
                                      exact AW.ret (Exists.intro _ (And.intro (Wk.to (L := [(6, (.bool t90))]) ⟨.rfl, trivial⟩) (And.intro rfl rfl)))
                                    refine AW.regionO (by rfl) ?_
                                    refine ao_q (v := (i64 (Sh.len c3.args))) go0 rfl (aq_mv rfl) ?_
                                    refine ao_q (v := (.bool (decide ((Sh.len c3.args) = 0)))) go0 rfl (aq_eq rfl rfl) ?_
                                    refine ao_q (v := (.bool (decide ((Sh.len c3.args) = 0)))) go0 rfl (aq_mv rfl) ?_
                                    rcases Sh.ite_some h1 with ⟨b92, h1⟩ | ⟨b92, h1⟩
                                    · skip
                                      refine ao_q (v := (.ptr 2 0 0 2)) (go1 rfl rfl b92) rfl (aq_fap fi49_2 rfl rfl (show 0 + 2 ≤ 6 by decide) rfl) ?_
                                      refine ao_q (v := (i64 c3.num)) (go1 rfl rfl b92) rfl (aq_ldp ti3 rfl rfl rfl rfl) ?_
                                      refine ao_q (v := (i64 p2)) (go1 rfl rfl b92) rfl (aq_mv rfl) ?_
                                      refine ao_q (v := (i64 (Sh.w (p2 + 1)))) (go1 rfl rfl b92) rfl (aq_add rfl rfl) ?_
                                      refine ao_q (v := (.ptr 1 0 0 4)) (go1 rfl rfl b92) rfl (aq_fap fi47_4 rfl rfl (show 0 + 4 ≤ 5 by decide) rfl) ?_
                                      refine ao_q (v := (.sl (List.map eRInstr p1.code))) (go1 rfl rfl b92) rfl (aq_ldp ti45 rfl rfl rfl rfl) ?_
                                      refine ao_q (v := (i64 (Sh.len p1.code))) (go1 rfl rfl b92) rfl (aq_lens sl45 rfl) ?_
                                      refine ao_q (v := (i64 (Sh.w ((Sh.len p1.code) - 1)))) (go1 rfl rfl b92) rfl (aq_sub rfl rfl) ?_
                                      obtain ⟨q93, gq93, h1⟩ := Sh.bind_some h1
                                      refine ao_call (v' := (.bool q93)) (st' := [⟨0, 31, 2, [[(.sl (List.map eRDecl p0.decls)), (.sl (List.map eRProc p0.procs))]]⟩, ⟨0, 47, 5, [[(.sl (List.map eI p1.params)), (.sl (List.map eI p1.lent)), (i64 p1.result), (i64 p1.regs), (.sl (List.map eRInstr p1.code))]]⟩, ⟨0, 49, 6, [[(i64 c3.op), (i64 c3.dst), (i64 c3.num), (i64 c3.into), (.sl (List.map eI c3.args)), (.sl (List.map eI c3.jumps))]]⟩]) (go1 rfl rfl b92) hb38 (spec_inRange_ok gq93) rfl rfl trivial rfl rfl ?_
                                      refine ao_q (v := (.bool q93)) go0 rfl (aq_pkt rfl b92 rfl) ?_
                                      refine ao_q (v := (.bool q93)) go0 rfl (aq_as rfl) ?_
                                      exact AO.done (M91 q93 (Sh.some_eq h1).symm _ (by refine Wk.trans (Wk.permk (L := [(6, (.bool q93))]) (st' := []) (st1 := []) [] rfl .nil (by decide) rfl rfl .nil ⟨.rfl, trivial⟩) ?_; exact Wk.to (L := [(6, (.bool q93))]) ⟨.rfl, trivial⟩))
                                    · skip
                                      refine ao_skip rfl rfl b92 ?_
                                      refine ao_skip rfl rfl b92 ?_
                                      refine ao_skip rfl rfl b92 ?_
                                      refine ao_skip rfl rfl b92 ?_
                                      refine ao_skip rfl rfl b92 ?_
                                      refine ao_skip rfl rfl b92 ?_
                                      refine ao_skip rfl rfl b92 ?_
                                      refine ao_skip rfl rfl b92 ?_
                                      refine ao_skip rfl rfl b92 ?_
                                      refine ao_q (v := (.bool false)) go0 rfl (aq_pkf rfl b92 rfl) ?_
                                      refine ao_q (v := (.bool false)) go0 rfl (aq_as rfl) ?_
                                      exact AO.done (M91 false (Sh.some_eq h1).symm _ (by refine Wk.trans (Wk.permk (L := [(6, (.bool false))]) (st' := []) (st1 := []) [] rfl .nil (by decide) rfl rfl .nil ⟨.rfl, trivial⟩) ?_; exact Wk.to (L := [(6, (.bool false))]) ⟨.rfl, trivial⟩))
                                  · replace h0 := Sh.ite_f b88 h0
                                    refine AW.seq fun K94 hK94 => ?_
                                    refine AW.regionO (by rfl) ?_
                                    refine ao_q (v := (.bool (decide (c3.op = 21)))) go0 rfl (aq_eq rfl rfl) ?_
                                    refine ao_q (v := (.bool (decide (c3.op = 21)))) go0 rfl (aq_as rfl) ?_
                                    refine AO.done (hK94 _ ?_)
                                    refine AW.cond' (b := decide (c3.op = 21)) rfl (fun b95 => ?_) (fun b95 => ?_)
                                    · replace h0 := Sh.ite_t b95 h0
                                      refine AW.seq fun K96 hK96 => ?_
                                      refine AW.regionO (by rfl) ?_
                                      refine ao_q (v := (.ptr 0 0 0 0)) go0 rfl (aq_fap fi31_0 rfl rfl (show 0 + 0 ≤ 2 by decide) rfl) ?_
                                      refine ao_q (v := (.sl (List.map eRDecl p0.decls))) go0 rfl (aq_ldp ti28 rfl rfl rfl rfl) ?_
                                      refine ao_q (v := (.ptr 2 0 0 2)) go0 rfl (aq_fap fi49_2 rfl rfl (show 0 + 2 ≤ 6 by decide) rfl) ?_
                                      refine ao_q (v := (i64 c3.num)) go0 rfl (aq_ldp ti3 rfl rfl rfl rfl) ?_
                                      obtain ⟨q97, gq97, h0⟩ := Sh.bind_some h0
                                      refine ao_call (v' := (.own 3 0 (List.length q97))) (st' := [⟨0, 31, 2, [[(.sl (List.map eRDecl p0.decls)), (.sl (List.map eRProc p0.procs))]]⟩, ⟨0, 47, 5, [[(.sl (List.map eI p1.params)), (.sl (List.map eI p1.lent)), (i64 p1.result), (i64 p1.regs), (.sl (List.map eRInstr p1.code))]]⟩, ⟨0, 49, 6, [[(i64 c3.op), (i64 c3.dst), (i64 c3.num), (i64 c3.into), (.sl (List.map eI c3.args)), (.sl (List.map eI c3.jumps))]]⟩, ⟨0, 3, 1, List.map eI q97⟩]) go0 hb62 (spec_consOf_ok gq97) rfl rfl ⟨(pure_map' fun _ => rfl), trivial⟩ rfl rfl ?_
                                      refine ao_q (v := (i64 (Sh.len q97))) go0 rfl (aq_leno sl44 rfl rfl rfl) ?_
                                      refine ao_q (v := (i64 (Sh.len q97))) go0 rfl (aq_as rfl) ?_
                                      refine AO.done (hK96 _ ?_)
                                      refine AW.seq fun K98 hK98 => ?_
                                      obtain ⟨o100, h1, h0⟩ := Sh.bind_some h0
                                      have M100 : ∀ (t99 : Bool), o100 = t99 → ∀ s, Wk 0 s ⟨234, envL [(6, (.bool t99))], []⟩ → K98 s := by
                                        intro t99 hq s hw
                                        subst o100
                                        try dsimp only at h0
                                        refine hK98 _ (AW.weaken hw ?_)
                                        replace h0 := Sh.some_eq h0
                                        subst r
                                        exact AW.ret (Exists.intro _ (And.intro (Wk.to (L := [(6, (.bool t99))]) ⟨.rfl, trivial⟩) (And.intro rfl rfl)))
                                      refine AW.regionO (by rfl) ?_
                                      refine ao_q (v := (i64 (Sh.len c3.args))) go0 rfl (aq_mv rfl) ?_
                                      refine ao_q (v := (.bool (decide ((Sh.len c3.args) = 1)))) go0 rfl (aq_eq rfl rfl) ?_
                                      refine ao_q (v := (.bool (decide ((Sh.len c3.args) = 1)))) go0 rfl (aq_mv rfl) ?_
                                      rcases Sh.ite_some h1 with ⟨b101, h1⟩ | ⟨b101, h1⟩
                                      · skip
                                        refine ao_q (v := (i64 (Sh.len q97))) (go1 rfl rfl b101) rfl (aq_mv rfl) ?_
                                        refine ao_q (v := (.bool (decide (0 < (Sh.len q97))))) (go1 rfl rfl b101) rfl (aq_gt rfl rfl) ?_
                                        refine ao_q (v := (.bool (decide (0 < (Sh.len q97))))) go0 rfl (aq_pkt rfl b101 rfl) ?_
                                        refine ao_q (v := (.bool (decide (0 < (Sh.len q97))))) go0 rfl (aq_mv rfl) ?_
                                        rcases Sh.ite_some h1 with ⟨b102, h1⟩ | ⟨b102, h1⟩
                                        · skip
                                          refine ao_q (v := (.ptr 2 0 0 5)) (go1 rfl rfl b102) rfl (aq_fap fi49_5 rfl rfl (show 0 + 5 ≤ 6 by decide) rfl) ?_
                                          refine ao_q (v := (.sl (List.map eI c3.jumps))) (go1 rfl rfl b102) rfl (aq_ldp ti44 rfl rfl rfl rfl) ?_
                                          refine ao_q (v := (i64 (Sh.len q97))) (go1 rfl rfl b102) rfl (aq_mv rfl) ?_
                                          refine ao_q (v := (i64 p2)) (go1 rfl rfl b102) rfl (aq_mv rfl) ?_
                                          refine ao_q (v := (.ptr 1 0 0 4)) (go1 rfl rfl b102) rfl (aq_fap fi47_4 rfl rfl (show 0 + 4 ≤ 5 by decide) rfl) ?_
                                          refine ao_q (v := (.sl (List.map eRInstr p1.code))) (go1 rfl rfl b102) rfl (aq_ldp ti45 rfl rfl rfl rfl) ?_
                                          refine ao_q (v := (i64 (Sh.len p1.code))) (go1 rfl rfl b102) rfl (aq_lens sl45 rfl) ?_
                                          obtain ⟨q103, gq103, h1⟩ := Sh.bind_some h1
                                          refine ao_call (v' := (.bool q103)) (st' := [⟨0, 31, 2, [[(.sl (List.map eRDecl p0.decls)), (.sl (List.map eRProc p0.procs))]]⟩, ⟨0, 47, 5, [[(.sl (List.map eI p1.params)), (.sl (List.map eI p1.lent)), (i64 p1.result), (i64 p1.regs), (.sl (List.map eRInstr p1.code))]]⟩, ⟨0, 49, 6, [[(i64 c3.op), (i64 c3.dst), (i64 c3.num), (i64 c3.into), (.sl (List.map eI c3.args)), (.sl (List.map eI c3.jumps))]]⟩, ⟨0, 3, 1, List.map eI q97⟩]) (go1 rfl rfl b102) hb63 (spec_validJumps_ok gq103) rfl rfl trivial rfl rfl ?_
                                          refine ao_q (v := (.bool q103)) go0 rfl (aq_pkt rfl b102 rfl) ?_
                                          refine ao_q (v := (.bool q103)) go0 rfl (aq_as rfl) ?_
                                          exact AO.done (M100 q103 (Sh.some_eq h1).symm _ (by refine Wk.trans (Wk.permk (L := [(6, (.bool q103))]) (st' := []) (st1 := []) [] rfl .nil (by decide) rfl rfl .nil ⟨.rfl, trivial⟩) ?_; exact Wk.to (L := [(6, (.bool q103))]) ⟨.rfl, trivial⟩))
                                        · skip
                                          refine ao_skip rfl rfl b102 ?_
                                          refine ao_skip rfl rfl b102 ?_
                                          refine ao_skip rfl rfl b102 ?_
                                          refine ao_skip rfl rfl b102 ?_
                                          refine ao_skip rfl rfl b102 ?_
                                          refine ao_skip rfl rfl b102 ?_
                                          refine ao_skip rfl rfl b102 ?_
                                          refine ao_skip rfl rfl b102 ?_
                                          refine ao_q (v := (.bool false)) go0 rfl (aq_pkf rfl b102 rfl) ?_
                                          refine ao_q (v := (.bool false)) go0 rfl (aq_as rfl) ?_
                                          exact AO.done (M100 false (Sh.some_eq h1).symm _ (by refine Wk.trans (Wk.permk (L := [(6, (.bool false))]) (st' := []) (st1 := []) [] rfl .nil (by decide) rfl rfl .nil ⟨.rfl, trivial⟩) ?_; exact Wk.to (L := [(6, (.bool false))]) ⟨.rfl, trivial⟩))
                                      · skip
                                        refine ao_skip rfl rfl b101 ?_
                                        refine ao_skip rfl rfl b101 ?_
                                        refine ao_q (v := (.bool false)) go0 rfl (aq_pkf rfl b101 rfl) ?_
                                        refine ao_q (v := (.bool false)) go0 rfl (aq_mv rfl) ?_
                                        refine ao_skip rfl rfl rfl ?_
                                        refine ao_skip rfl rfl rfl ?_
                                        refine ao_skip rfl rfl rfl ?_
                                        refine ao_skip rfl rfl rfl ?_
                                        refine ao_skip rfl rfl rfl ?_
                                        refine ao_skip rfl rfl rfl ?_
                                        refine ao_skip rfl rfl rfl ?_
                                        refine ao_skip rfl rfl rfl ?_
                                        refine ao_q (v := (.bool false)) go0 rfl (aq_pkf rfl rfl rfl) ?_
                                        refine ao_q (v := (.bool false)) go0 rfl (aq_as rfl) ?_
                                        exact AO.done (M100 false (Sh.some_eq h1).symm _ (by refine Wk.trans (Wk.permk (L := [(6, (.bool false))]) (st' := []) (st1 := []) [] rfl .nil (by decide) rfl rfl .nil ⟨.rfl, trivial⟩) ?_; exact Wk.to (L := [(6, (.bool false))]) ⟨.rfl, trivial⟩))
                                    · replace h0 := Sh.ite_f b95 h0
                                      refine AW.skip (hK15 _ ?_)
                                      refine AW.seq fun K104 hK104 => ?_
                                      refine AW.regionO (by rfl) ?_
                                      refine ao_q (v := (.bool false)) go0 rfl (aq_as rfl) ?_
                                      refine AO.done (hK104 _ ?_)
                                      replace h0 := Sh.some_eq h0
                                      subst r
                                      exact AW.ret (Exists.intro _ (And.intro ((Wk.permk (L := [(6, (.bool false))]) (st' := []) (st1 := []) [] rfl .nil (by decide) rfl rfl .nil ⟨.rfl, trivial⟩).trans (Wk.to (L := [(6, (.bool false))]) ⟨.rfl, trivial⟩)) (And.intro rfl rfl)))
                          refine AW.seq fun K105 hK105 => ?_
                          refine AW.regionO (by rfl) ?_
                          refine ao_q (v := (.bool (decide (c3.op = 16)))) go0 rfl (aq_eq rfl rfl) ?_
                          refine ao_q (v := (.bool (decide (c3.op = 16)))) go0 rfl (aq_as rfl) ?_
                          refine AO.done (hK105 _ ?_)
                          refine AW.cond' (b := decide (c3.op = 16)) rfl (fun b106 => ?_) (fun b106 => ?_)
                          · replace h1 := Sh.ite_t b106 h1
                            exact AW.skip (M66 true (Sh.some_eq h1).symm _ (Wk.to (L := [(2, (i64 p2)), (3, (.ptr 0 0 0 0)), (4, (.ptr 1 0 0 0)), (7, (.ptr 2 0 0 0)), (8, (i64 (Sh.len c3.args))), (74, (i64 c3.op)), (161, (.bool true))]) ⟨.rfl, .rfl, .rfl, .rfl, .rfl, .rfl, (.of (congrArg AV.bool b106)), trivial⟩))
                          · replace h1 := Sh.ite_f b106 h1
                            refine AW.regionO (by rfl) ?_
                            refine ao_q (v := (.bool (decide (c3.op = 17)))) go0 rfl (aq_eq rfl rfl) ?_
                            refine ao_q (v := (.bool (decide (c3.op = 17)))) go0 rfl (aq_as rfl) ?_
                            exact AO.done (M66 (decide (c3.op = 17)) (Sh.some_eq h1).symm _ (Wk.to (L := [(2, (i64 p2)), (3, (.ptr 0 0 0 0)), (4, (.ptr 1 0 0 0)), (7, (.ptr 2 0 0 0)), (8, (i64 (Sh.len c3.args))), (74, (i64 c3.op)), (161, (.bool (decide (c3.op = 17))))]) ⟨.rfl, .rfl, .rfl, .rfl, .rfl, .rfl, .rfl, trivial⟩))
                    refine AW.seq fun K107 hK107 => ?_
                    refine AW.regionO (by rfl) ?_
                    refine ao_q (v := (.bool (decide (c3.op = 9)))) go0 rfl (aq_eq rfl rfl) ?_
                    refine ao_q (v := (.bool (decide (c3.op = 9)))) go0 rfl (aq_as rfl) ?_
                    refine AO.done (hK107 _ ?_)
                    refine AW.cond' (b := decide (c3.op = 9)) rfl (fun b108 => ?_) (fun b108 => ?_)
                    · replace h1 := Sh.ite_t b108 h1
                      exact AW.skip (M52 true (Sh.some_eq h1).symm _ (Wk.to (L := [(2, (i64 p2)), (3, (.ptr 0 0 0 0)), (4, (.ptr 1 0 0 0)), (7, (.ptr 2 0 0 0)), (8, (i64 (Sh.len c3.args))), (74, (i64 c3.op)), (135, (.bool true))]) ⟨.rfl, .rfl, .rfl, .rfl, .rfl, .rfl, (.of (congrArg AV.bool b108)), trivial⟩))
                    · replace h1 := Sh.ite_f b108 h1
                      refine AW.regionO (by rfl) ?_
                      refine ao_q (v := (.bool (decide (c3.op = 24)))) go0 rfl (aq_eq rfl rfl) ?_
                      refine ao_q (v := (.bool (decide (c3.op = 24)))) go0 rfl (aq_as rfl) ?_
                      exact AO.done (M52 (decide (c3.op = 24)) (Sh.some_eq h1).symm _ (Wk.to (L := [(2, (i64 p2)), (3, (.ptr 0 0 0 0)), (4, (.ptr 1 0 0 0)), (7, (.ptr 2 0 0 0)), (8, (i64 (Sh.len c3.args))), (74, (i64 c3.op)), (135, (.bool (decide (c3.op = 24))))]) ⟨.rfl, .rfl, .rfl, .rfl, .rfl, .rfl, .rfl, trivial⟩))
              refine AW.seq fun K109 hK109 => ?_
              refine AW.regionO (by rfl) ?_
              refine ao_q (v := (.bool (decide (c3.op = 5)))) go0 rfl (aq_eq rfl rfl) ?_
              refine ao_q (v := (.bool (decide (c3.op = 5)))) go0 rfl (aq_as rfl) ?_
              refine AO.done (hK109 _ ?_)
              refine AW.cond' (b := decide (c3.op = 5)) rfl (fun b110 => ?_) (fun b110 => ?_)
              · replace h1 := Sh.ite_t b110 h1
                exact AW.skip (M34 true (Sh.some_eq h1).symm _ (Wk.to (L := [(2, (i64 p2)), (3, (.ptr 0 0 0 0)), (4, (.ptr 1 0 0 0)), (7, (.ptr 2 0 0 0)), (8, (i64 (Sh.len c3.args))), (74, (i64 c3.op)), (97, (.bool true))]) ⟨.rfl, .rfl, .rfl, .rfl, .rfl, .rfl, (.of (congrArg AV.bool b110)), trivial⟩))
              · replace h1 := Sh.ite_f b110 h1
                refine AW.seq fun K111 hK111 => ?_
                refine AW.regionO (by rfl) ?_
                refine ao_q (v := (.bool (decide (c3.op = 14)))) go0 rfl (aq_eq rfl rfl) ?_
                refine ao_q (v := (.bool (decide (c3.op = 14)))) go0 rfl (aq_as rfl) ?_
                refine AO.done (hK111 _ ?_)
                refine AW.cond' (b := decide (c3.op = 14)) rfl (fun b112 => ?_) (fun b112 => ?_)
                · replace h1 := Sh.ite_t b112 h1
                  exact AW.skip (M34 true (Sh.some_eq h1).symm _ (Wk.to (L := [(2, (i64 p2)), (3, (.ptr 0 0 0 0)), (4, (.ptr 1 0 0 0)), (7, (.ptr 2 0 0 0)), (8, (i64 (Sh.len c3.args))), (74, (i64 c3.op)), (97, (.bool true))]) ⟨.rfl, .rfl, .rfl, .rfl, .rfl, .rfl, (.of (congrArg AV.bool b112)), trivial⟩))
                · replace h1 := Sh.ite_f b112 h1
                  refine AW.seq fun K113 hK113 => ?_
                  refine AW.regionO (by rfl) ?_
                  refine ao_q (v := (.bool (decide (c3.op = 15)))) go0 rfl (aq_eq rfl rfl) ?_
                  refine ao_q (v := (.bool (decide (c3.op = 15)))) go0 rfl (aq_as rfl) ?_
                  refine AO.done (hK113 _ ?_)
                  refine AW.cond' (b := decide (c3.op = 15)) rfl (fun b114 => ?_) (fun b114 => ?_)
                  · replace h1 := Sh.ite_t b114 h1
                    exact AW.skip (M34 true (Sh.some_eq h1).symm _ (Wk.to (L := [(2, (i64 p2)), (3, (.ptr 0 0 0 0)), (4, (.ptr 1 0 0 0)), (7, (.ptr 2 0 0 0)), (8, (i64 (Sh.len c3.args))), (74, (i64 c3.op)), (97, (.bool true))]) ⟨.rfl, .rfl, .rfl, .rfl, .rfl, .rfl, (.of (congrArg AV.bool b114)), trivial⟩))
                  · replace h1 := Sh.ite_f b114 h1
                    refine AW.seq fun K115 hK115 => ?_
                    refine AW.regionO (by rfl) ?_
                    refine ao_q (v := (.bool (decide (c3.op = 18)))) go0 rfl (aq_eq rfl rfl) ?_
                    refine ao_q (v := (.bool (decide (c3.op = 18)))) go0 rfl (aq_as rfl) ?_
                    refine AO.done (hK115 _ ?_)
                    refine AW.cond' (b := decide (c3.op = 18)) rfl (fun b116 => ?_) (fun b116 => ?_)
                    · replace h1 := Sh.ite_t b116 h1
                      exact AW.skip (M34 true (Sh.some_eq h1).symm _ (Wk.to (L := [(2, (i64 p2)), (3, (.ptr 0 0 0 0)), (4, (.ptr 1 0 0 0)), (7, (.ptr 2 0 0 0)), (8, (i64 (Sh.len c3.args))), (74, (i64 c3.op)), (97, (.bool true))]) ⟨.rfl, .rfl, .rfl, .rfl, .rfl, .rfl, (.of (congrArg AV.bool b116)), trivial⟩))
                    · replace h1 := Sh.ite_f b116 h1
                      refine AW.regionO (by rfl) ?_
                      refine ao_q (v := (.bool (decide (c3.op = 23)))) go0 rfl (aq_eq rfl rfl) ?_
                      refine ao_q (v := (.bool (decide (c3.op = 23)))) go0 rfl (aq_as rfl) ?_
                      exact AO.done (M34 (decide (c3.op = 23)) (Sh.some_eq h1).symm _ (Wk.to (L := [(2, (i64 p2)), (3, (.ptr 0 0 0 0)), (4, (.ptr 1 0 0 0)), (7, (.ptr 2 0 0 0)), (8, (i64 (Sh.len c3.args))), (74, (i64 c3.op)), (97, (.bool (decide (c3.op = 23))))]) ⟨.rfl, .rfl, .rfl, .rfl, .rfl, .rfl, .rfl, trivial⟩))
          refine AW.seq fun K117 hK117 => ?_
          refine AW.regionO (by rfl) ?_
          refine ao_q (v := (.bool (decide (c3.op = 1)))) go0 rfl (aq_eq rfl rfl) ?_
          refine ao_q (v := (.bool (decide (c3.op = 1)))) go0 rfl (aq_as rfl) ?_
          refine AO.done (hK117 _ ?_)
          refine AW.cond' (b := decide (c3.op = 1)) rfl (fun b118 => ?_) (fun b118 => ?_)
          · replace h1 := Sh.ite_t b118 h1
            exact AW.skip (M26 true (Sh.some_eq h1).symm _ (Wk.to (L := [(2, (i64 p2)), (3, (.ptr 0 0 0 0)), (4, (.ptr 1 0 0 0)), (7, (.ptr 2 0 0 0)), (8, (i64 (Sh.len c3.args))), (74, (i64 c3.op)), (84, (.bool true))]) ⟨.rfl, .rfl, .rfl, .rfl, .rfl, .rfl, (.of (congrArg AV.bool b118)), trivial⟩))
          · replace h1 := Sh.ite_f b118 h1
            refine AW.seq fun K119 hK119 => ?_
            refine AW.regionO (by rfl) ?_
            refine ao_q (v := (.bool (decide (c3.op = 2)))) go0 rfl (aq_eq rfl rfl) ?_
            refine ao_q (v := (.bool (decide (c3.op = 2)))) go0 rfl (aq_as rfl) ?_
            refine AO.done (hK119 _ ?_)
            refine AW.cond' (b := decide (c3.op = 2)) rfl (fun b120 => ?_) (fun b120 => ?_)
            · replace h1 := Sh.ite_t b120 h1
              exact AW.skip (M26 true (Sh.some_eq h1).symm _ (Wk.to (L := [(2, (i64 p2)), (3, (.ptr 0 0 0 0)), (4, (.ptr 1 0 0 0)), (7, (.ptr 2 0 0 0)), (8, (i64 (Sh.len c3.args))), (74, (i64 c3.op)), (84, (.bool true))]) ⟨.rfl, .rfl, .rfl, .rfl, .rfl, .rfl, (.of (congrArg AV.bool b120)), trivial⟩))
            · replace h1 := Sh.ite_f b120 h1
              refine AW.seq fun K121 hK121 => ?_
              refine AW.regionO (by rfl) ?_
              refine ao_q (v := (.bool (decide (c3.op = 3)))) go0 rfl (aq_eq rfl rfl) ?_
              refine ao_q (v := (.bool (decide (c3.op = 3)))) go0 rfl (aq_as rfl) ?_
              refine AO.done (hK121 _ ?_)
              refine AW.cond' (b := decide (c3.op = 3)) rfl (fun b122 => ?_) (fun b122 => ?_)
              · replace h1 := Sh.ite_t b122 h1
                exact AW.skip (M26 true (Sh.some_eq h1).symm _ (Wk.to (L := [(2, (i64 p2)), (3, (.ptr 0 0 0 0)), (4, (.ptr 1 0 0 0)), (7, (.ptr 2 0 0 0)), (8, (i64 (Sh.len c3.args))), (74, (i64 c3.op)), (84, (.bool true))]) ⟨.rfl, .rfl, .rfl, .rfl, .rfl, .rfl, (.of (congrArg AV.bool b122)), trivial⟩))
              · replace h1 := Sh.ite_f b122 h1
                refine AW.seq fun K123 hK123 => ?_
                refine AW.regionO (by rfl) ?_
                refine ao_q (v := (.bool (decide (c3.op = 4)))) go0 rfl (aq_eq rfl rfl) ?_
                refine ao_q (v := (.bool (decide (c3.op = 4)))) go0 rfl (aq_as rfl) ?_
                refine AO.done (hK123 _ ?_)
                refine AW.cond' (b := decide (c3.op = 4)) rfl (fun b124 => ?_) (fun b124 => ?_)
                · replace h1 := Sh.ite_t b124 h1
                  exact AW.skip (M26 true (Sh.some_eq h1).symm _ (Wk.to (L := [(2, (i64 p2)), (3, (.ptr 0 0 0 0)), (4, (.ptr 1 0 0 0)), (7, (.ptr 2 0 0 0)), (8, (i64 (Sh.len c3.args))), (74, (i64 c3.op)), (84, (.bool true))]) ⟨.rfl, .rfl, .rfl, .rfl, .rfl, .rfl, (.of (congrArg AV.bool b124)), trivial⟩))
                · replace h1 := Sh.ite_f b124 h1
                  refine AW.regionO (by rfl) ?_
                  refine ao_q (v := (.bool (decide (c3.op = 11)))) go0 rfl (aq_eq rfl rfl) ?_
                  refine ao_q (v := (.bool (decide (c3.op = 11)))) go0 rfl (aq_as rfl) ?_
                  exact AO.done (M26 (decide (c3.op = 11)) (Sh.some_eq h1).symm _ (Wk.to (L := [(2, (i64 p2)), (3, (.ptr 0 0 0 0)), (4, (.ptr 1 0 0 0)), (7, (.ptr 2 0 0 0)), (8, (i64 (Sh.len c3.args))), (74, (i64 c3.op)), (84, (.bool (decide (c3.op = 11))))]) ⟨.rfl, .rfl, .rfl, .rfl, .rfl, .rfl, .rfl, trivial⟩))
    refine AW.regionO (by rfl) ?_
    refine ao_q (v := (.ptr 2 0 0 1)) go0 rfl (aq_fap fi49_1 rfl rfl (show 0 + 1 ≤ 6 by decide) rfl) ?_
    refine ao_q (v := (i64 c3.dst)) go0 rfl (aq_ldp ti3 rfl rfl rfl rfl) ?_
    refine ao_q (v := (.ptr 1 0 0 3)) go0 rfl (aq_fap fi47_3 rfl rfl (show 0 + 3 ≤ 5 by decide) rfl) ?_
    refine ao_q (v := (i64 p1.regs)) go0 rfl (aq_ldp ti3 rfl rfl rfl rfl) ?_
    refine ao_q (v := (i64 (Sh.w (p1.regs - 1)))) go0 rfl (aq_sub rfl rfl) ?_
    obtain ⟨q125, gq125, h1⟩ := Sh.bind_some h1
    refine ao_call (v' := (.bool q125)) (st' := [⟨0, 31, 2, [[(.sl (List.map eRDecl p0.decls)), (.sl (List.map eRProc p0.procs))]]⟩, ⟨0, 47, 5, [[(.sl (List.map eI p1.params)), (.sl (List.map eI p1.lent)), (i64 p1.result), (i64 p1.regs), (.sl (List.map eRInstr p1.code))]]⟩, ⟨0, 49, 6, [[(i64 c3.op), (i64 c3.dst), (i64 c3.num), (i64 c3.into), (.sl (List.map eI c3.args)), (.sl (List.map eI c3.jumps))]]⟩]) go0 hb38 (spec_inRange_ok gq125) rfl rfl trivial rfl rfl ?_
    refine ao_q (v := (.bool (!q125))) go0 rfl (aq_not rfl) ?_
    refine ao_q (v := (.bool (!q125))) go0 rfl (aq_mv rfl) ?_
    rcases Sh.ite_some h1 with ⟨b126, h1⟩ | ⟨b126, h1⟩
    · skip
      refine ao_skip rfl rfl b126 ?_
      refine ao_skip rfl rfl b126 ?_
      refine ao_skip rfl rfl b126 ?_
      refine ao_skip rfl rfl b126 ?_
      refine ao_none rfl rfl ?_
      refine ao_none rfl rfl ?_
      refine ao_none rfl rfl ?_
      refine ao_none rfl rfl ?_
      refine ao_skip rfl rfl b126 ?_
      refine ao_q (v := (.bool true)) go0 rfl (aq_pkt rfl b126 rfl) ?_
      refine ao_q (v := (.bool true)) go0 rfl (aq_mv rfl) ?_
      refine ao_skip rfl rfl rfl ?_
      refine ao_skip rfl rfl rfl ?_
      refine ao_skip rfl rfl rfl ?_
      refine ao_skip rfl rfl rfl ?_
      refine ao_none rfl rfl ?_
      refine ao_none rfl rfl ?_
      refine ao_none rfl rfl ?_
      refine ao_skip rfl rfl rfl ?_
      refine ao_q (v := (.bool true)) go0 rfl (aq_pkt rfl rfl rfl) ?_
      refine ao_q (v := (.bool true)) go0 rfl (aq_mv rfl) ?_
      refine ao_skip rfl rfl rfl ?_
      refine ao_skip rfl rfl rfl ?_
      refine ao_skip rfl rfl rfl ?_
      refine ao_skip rfl rfl rfl ?_
      refine ao_none rfl rfl ?_
      refine ao_none rfl rfl ?_
      refine ao_none rfl rfl ?_
      refine ao_none rfl rfl ?_
      refine ao_skip rfl rfl rfl ?_
      refine ao_q (v := (.bool true)) go0 rfl (aq_pkt rfl rfl rfl) ?_
      exact AO.done (M12 true (Sh.some_eq h1).symm _ (Wk.to (L := [(2, (i64 p2)), (3, (.ptr 0 0 0 0)), (4, (.ptr 1 0 0 0)), (7, (.ptr 2 0 0 0)), (8, (i64 (Sh.len c3.args))), (72, (.bool true))]) ⟨.rfl, .rfl, .rfl, .rfl, .rfl, .rfl, trivial⟩))
    · skip
      refine ao_q (v := (.ptr 2 0 0 1)) (go1 rfl rfl b126) rfl (aq_fap fi49_1 rfl rfl (show 0 + 1 ≤ 6 by decide) rfl) ?_
      refine ao_q (v := (i64 c3.dst)) (go1 rfl rfl b126) rfl (aq_ldp ti3 rfl rfl rfl rfl) ?_
      refine ao_q (v := (.bool (!decide (c3.dst = 0)))) (go1 rfl rfl b126) rfl (aq_ne rfl rfl) ?_
      refine ao_q (v := (.bool (!decide (c3.dst = 0)))) (go1 rfl rfl b126) rfl (aq_mv rfl) ?_
      rcases Sh.ite_some h1 with ⟨b127, h1⟩ | ⟨b127, h1⟩
      · skip
        refine ao_q (v := (.ptr 2 0 0 0)) (go1 rfl rfl b127) rfl (aq_fap fi49_0 rfl rfl (show 0 + 0 ≤ 6 by decide) rfl) ?_
        refine ao_q (v := (i64 c3.op)) (go1 rfl rfl b127) rfl (aq_ldp ti3 rfl rfl rfl rfl) ?_
        obtain ⟨q128, gq128, h1⟩ := Sh.bind_some h1
        refine ao_call (v' := (.bool q128)) (st' := [⟨0, 31, 2, [[(.sl (List.map eRDecl p0.decls)), (.sl (List.map eRProc p0.procs))]]⟩, ⟨0, 47, 5, [[(.sl (List.map eI p1.params)), (.sl (List.map eI p1.lent)), (i64 p1.result), (i64 p1.regs), (.sl (List.map eRInstr p1.code))]]⟩, ⟨0, 49, 6, [[(i64 c3.op), (i64 c3.dst), (i64 c3.num), (i64 c3.into), (.sl (List.map eI c3.args)), (.sl (List.map eI c3.jumps))]]⟩]) (go1 rfl rfl b127) hb58 (spec_sets_ok gq128) rfl rfl trivial rfl rfl ?_
        refine ao_q (v := (.bool (!q128))) (go1 rfl rfl b127) rfl (aq_not rfl) ?_
        refine ao_q (v := (.bool (!q128))) (go1 rfl rfl b126) rfl (aq_pkt rfl b127 rfl) ?_
        refine ao_q (v := (.bool (!q128))) go0 rfl (aq_pkf rfl b126 rfl) ?_
        refine ao_q (v := (.bool (!q128))) go0 rfl (aq_mv rfl) ?_
        rcases Sh.ite_some h1 with ⟨b129, h1⟩ | ⟨b129, h1⟩
        · skip
          refine ao_skip rfl rfl b129 ?_
          refine ao_skip rfl rfl b129 ?_
          refine ao_skip rfl rfl b129 ?_
          refine ao_skip rfl rfl b129 ?_
          refine ao_none rfl rfl ?_
          refine ao_none rfl rfl ?_
          refine ao_none rfl rfl ?_
          refine ao_skip rfl rfl b129 ?_
          refine ao_q (v := (.bool true)) go0 rfl (aq_pkt rfl b129 rfl) ?_
          refine ao_q (v := (.bool true)) go0 rfl (aq_mv rfl) ?_
          refine ao_skip rfl rfl rfl ?_
          refine ao_skip rfl rfl rfl ?_
          refine ao_skip rfl rfl rfl ?_
          refine ao_skip rfl rfl rfl ?_
          refine ao_none rfl rfl ?_
          refine ao_none rfl rfl ?_
          refine ao_none rfl rfl ?_
          refine ao_none rfl rfl ?_
          refine ao_skip rfl rfl rfl ?_
          refine ao_q (v := (.bool true)) go0 rfl (aq_pkt rfl rfl rfl) ?_
          exact AO.done (M12 true (Sh.some_eq h1).symm _ (Wk.to (L := [(2, (i64 p2)), (3, (.ptr 0 0 0 0)), (4, (.ptr 1 0 0 0)), (7, (.ptr 2 0 0 0)), (8, (i64 (Sh.len c3.args))), (72, (.bool true))]) ⟨.rfl, .rfl, .rfl, .rfl, .rfl, .rfl, trivial⟩))
        · skip
          refine ao_q (v := (.ptr 2 0 0 3)) (go1 rfl rfl b129) rfl (aq_fap fi49_3 rfl rfl (show 0 + 3 ≤ 6 by decide) rfl) ?_
          refine ao_q (v := (i64 c3.into)) (go1 rfl rfl b129) rfl (aq_ldp ti3 rfl rfl rfl rfl) ?_
          refine ao_q (v := (.bool (!decide (c3.into = 0)))) (go1 rfl rfl b129) rfl (aq_ne rfl rfl) ?_
          refine ao_q (v := (.bool (!decide (c3.into = 0)))) (go1 rfl rfl b129) rfl (aq_mv rfl) ?_
          rcases Sh.ite_some h1 with ⟨b130, h1⟩ | ⟨b130, h1⟩
          · skip
            refine ao_q (v := (.ptr 2 0 0 0)) (go1 rfl rfl b130) rfl (aq_fap fi49_0 rfl rfl (show 0 + 0 ≤ 6 by decide) rfl) ?_
            refine ao_q (v := (i64 c3.op)) (go1 rfl rfl b130) rfl (aq_ldp ti3 rfl rfl rfl rfl) ?_
            refine ao_q (v := (.bool (!decide (c3.op = 6)))) (go1 rfl rfl b130) rfl (aq_ne rfl rfl) ?_
            refine ao_q (v := (.bool (!decide (c3.op = 6)))) (go1 rfl rfl b129) rfl (aq_pkt rfl b130 rfl) ?_
            refine ao_q (v := (.bool (!decide (c3.op = 6)))) go0 rfl (aq_pkf rfl b129 rfl) ?_
            refine ao_q (v := (.bool (!decide (c3.op = 6)))) go0 rfl (aq_mv rfl) ?_
            rcases Sh.ite_some h1 with ⟨b131, h1⟩ | ⟨b131, h1⟩
            · skip
              refine ao_skip rfl rfl b131 ?_
              refine ao_skip rfl rfl b131 ?_
              refine ao_skip rfl rfl b131 ?_
              refine ao_skip rfl rfl b131 ?_
              refine ao_none rfl rfl ?_
              refine ao_none rfl rfl ?_
              refine ao_none rfl rfl ?_
              refine ao_none rfl rfl ?_
              refine ao_skip rfl rfl b131 ?_
              refine ao_q (v := (.bool true)) go0 rfl (aq_pkt rfl b131 rfl) ?_
              exact AO.done (M12 true (Sh.some_eq h1).symm _ (Wk.to (L := [(2, (i64 p2)), (3, (.ptr 0 0 0 0)), (4, (.ptr 1 0 0 0)), (7, (.ptr 2 0 0 0)), (8, (i64 (Sh.len c3.args))), (72, (.bool true))]) ⟨.rfl, .rfl, .rfl, .rfl, .rfl, .rfl, trivial⟩))
            · skip
              refine ao_q (v := (.ptr 2 0 0 0)) (go1 rfl rfl b131) rfl (aq_fap fi49_0 rfl rfl (show 0 + 0 ≤ 6 by decide) rfl) ?_
              refine ao_q (v := (i64 c3.op)) (go1 rfl rfl b131) rfl (aq_ldp ti3 rfl rfl rfl rfl) ?_
              refine ao_q (v := (.bool (!decide (c3.op = 21)))) (go1 rfl rfl b131) rfl (aq_ne rfl rfl) ?_
              refine ao_q (v := (.bool (!decide (c3.op = 21)))) (go1 rfl rfl b131) rfl (aq_mv rfl) ?_
              rcases Sh.ite_some h1 with ⟨b132, h1⟩ | ⟨b132, h1⟩
              · skip
                refine ao_q (v := (.ptr 2 0 0 5)) (go1 rfl rfl b132) rfl (aq_fap fi49_5 rfl rfl (show 0 + 5 ≤ 6 by decide) rfl) ?_
                refine ao_q (v := (.sl (List.map eI c3.jumps))) (go1 rfl rfl b132) rfl (aq_ldp ti44 rfl rfl rfl rfl) ?_
                refine ao_q (v := (i64 (Sh.len c3.jumps))) (go1 rfl rfl b132) rfl (aq_lens sl44 rfl) ?_
                refine ao_q (v := (.bool (decide (0 < (Sh.len c3.jumps))))) (go1 rfl rfl b132) rfl (aq_gt rfl rfl) ?_
                refine ao_q (v := (.bool (decide (0 < (Sh.len c3.jumps))))) (go1 rfl rfl b131) rfl (aq_pkt rfl b132 rfl) ?_
                refine ao_q (v := (.bool (decide (0 < (Sh.len c3.jumps))))) go0 rfl (aq_pkf rfl b131 rfl) ?_
                exact AO.done (M12 (decide (0 < (Sh.len c3.jumps))) (Sh.some_eq h1).symm _ (Wk.to (L := [(2, (i64 p2)), (3, (.ptr 0 0 0 0)), (4, (.ptr 1 0 0 0)), (7, (.ptr 2 0 0 0)), (8, (i64 (Sh.len c3.args))), (72, (.bool (decide (0 < (Sh.len c3.jumps)))))]) ⟨.rfl, .rfl, .rfl, .rfl, .rfl, .rfl, trivial⟩))
              · skip
                refine ao_skip rfl rfl b132 ?_
                refine ao_skip rfl rfl b132 ?_
                refine ao_skip rfl rfl b132 ?_
                refine ao_skip rfl rfl b132 ?_
                refine ao_q (v := (.bool false)) (go1 rfl rfl b131) rfl (aq_pkf rfl b132 rfl) ?_
                refine ao_q (v := (.bool false)) go0 rfl (aq_pkf rfl b131 rfl) ?_
                exact AO.done (M12 false (Sh.some_eq h1).symm _ (Wk.to (L := [(2, (i64 p2)), (3, (.ptr 0 0 0 0)), (4, (.ptr 1 0 0 0)), (7, (.ptr 2 0 0 0)), (8, (i64 (Sh.len c3.args))), (72, (.bool false))]) ⟨.rfl, .rfl, .rfl, .rfl, .rfl, .rfl, trivial⟩))
          · skip
            refine ao_skip rfl rfl b130 ?_
            refine ao_skip rfl rfl b130 ?_
            refine ao_skip rfl rfl b130 ?_
            refine ao_q (v := (.bool false)) (go1 rfl rfl b129) rfl (aq_pkf rfl b130 rfl) ?_
            refine ao_q (v := (.bool false)) go0 rfl (aq_pkf rfl b129 rfl) ?_
            refine ao_q (v := (.bool false)) go0 rfl (aq_mv rfl) ?_
            refine ao_q (v := (.ptr 2 0 0 0)) (go1 rfl rfl rfl) rfl (aq_fap fi49_0 rfl rfl (show 0 + 0 ≤ 6 by decide) rfl) ?_
            refine ao_q (v := (i64 c3.op)) (go1 rfl rfl rfl) rfl (aq_ldp ti3 rfl rfl rfl rfl) ?_
            refine ao_q (v := (.bool (!decide (c3.op = 21)))) (go1 rfl rfl rfl) rfl (aq_ne rfl rfl) ?_
            refine ao_q (v := (.bool (!decide (c3.op = 21)))) (go1 rfl rfl rfl) rfl (aq_mv rfl) ?_
            rcases Sh.ite_some h1 with ⟨b133, h1⟩ | ⟨b133, h1⟩
            · skip
              refine ao_q (v := (.ptr 2 0 0 5)) (go1 rfl rfl b133) rfl (aq_fap fi49_5 rfl rfl (show 0 + 5 ≤ 6 by decide) rfl) ?_
              refine ao_q (v := (.sl (List.map eI c3.jumps))) (go1 rfl rfl b133) rfl (aq_ldp ti44 rfl rfl rfl rfl) ?_
              refine ao_q (v := (i64 (Sh.len c3.jumps))) (go1 rfl rfl b133) rfl (aq_lens sl44 rfl) ?_
              refine ao_q (v := (.bool (decide (0 < (Sh.len c3.jumps))))) (go1 rfl rfl b133) rfl (aq_gt rfl rfl) ?_
              refine ao_q (v := (.bool (decide (0 < (Sh.len c3.jumps))))) (go1 rfl rfl rfl) rfl (aq_pkt rfl b133 rfl) ?_
              refine ao_q (v := (.bool (decide (0 < (Sh.len c3.jumps))))) go0 rfl (aq_pkf rfl rfl rfl) ?_
              exact AO.done (M12 (decide (0 < (Sh.len c3.jumps))) (Sh.some_eq h1).symm _ (Wk.to (L := [(2, (i64 p2)), (3, (.ptr 0 0 0 0)), (4, (.ptr 1 0 0 0)), (7, (.ptr 2 0 0 0)), (8, (i64 (Sh.len c3.args))), (72, (.bool (decide (0 < (Sh.len c3.jumps)))))]) ⟨.rfl, .rfl, .rfl, .rfl, .rfl, .rfl, trivial⟩))
            · skip
              refine ao_skip rfl rfl b133 ?_
              refine ao_skip rfl rfl b133 ?_
              refine ao_skip rfl rfl b133 ?_
              refine ao_skip rfl rfl b133 ?_
              refine ao_q (v := (.bool false)) (go1 rfl rfl rfl) rfl (aq_pkf rfl b133 rfl) ?_
              refine ao_q (v := (.bool false)) go0 rfl (aq_pkf rfl rfl rfl) ?_
              exact AO.done (M12 false (Sh.some_eq h1).symm _ (Wk.to (L := [(2, (i64 p2)), (3, (.ptr 0 0 0 0)), (4, (.ptr 1 0 0 0)), (7, (.ptr 2 0 0 0)), (8, (i64 (Sh.len c3.args))), (72, (.bool false))]) ⟨.rfl, .rfl, .rfl, .rfl, .rfl, .rfl, trivial⟩))
      · skip
        refine ao_skip rfl rfl b127 ?_
        refine ao_skip rfl rfl b127 ?_
        refine ao_skip rfl rfl b127 ?_
        refine ao_skip rfl rfl b127 ?_
        refine ao_q (v := (.bool false)) (go1 rfl rfl b126) rfl (aq_pkf rfl b127 rfl) ?_
        refine ao_q (v := (.bool false)) go0 rfl (aq_pkf rfl b126 rfl) ?_
        refine ao_q (v := (.bool false)) go0 rfl (aq_mv rfl) ?_
        refine ao_q (v := (.ptr 2 0 0 3)) (go1 rfl rfl rfl) rfl (aq_fap fi49_3 rfl rfl (show 0 + 3 ≤ 6 by decide) rfl) ?_
        refine ao_q (v := (i64 c3.into)) (go1 rfl rfl rfl) rfl (aq_ldp ti3 rfl rfl rfl rfl) ?_
        refine ao_q (v := (.bool (!decide (c3.into = 0)))) (go1 rfl rfl rfl) rfl (aq_ne rfl rfl) ?_
        refine ao_q (v := (.bool (!decide (c3.into = 0)))) (go1 rfl rfl rfl) rfl (aq_mv rfl) ?_
        rcases Sh.ite_some h1 with ⟨b134, h1⟩ | ⟨b134, h1⟩
        · skip
          refine ao_q (v := (.ptr 2 0 0 0)) (go1 rfl rfl b134) rfl (aq_fap fi49_0 rfl rfl (show 0 + 0 ≤ 6 by decide) rfl) ?_
          refine ao_q (v := (i64 c3.op)) (go1 rfl rfl b134) rfl (aq_ldp ti3 rfl rfl rfl rfl) ?_
          refine ao_q (v := (.bool (!decide (c3.op = 6)))) (go1 rfl rfl b134) rfl (aq_ne rfl rfl) ?_
          refine ao_q (v := (.bool (!decide (c3.op = 6)))) (go1 rfl rfl rfl) rfl (aq_pkt rfl b134 rfl) ?_
          refine ao_q (v := (.bool (!decide (c3.op = 6)))) go0 rfl (aq_pkf rfl rfl rfl) ?_
          refine ao_q (v := (.bool (!decide (c3.op = 6)))) go0 rfl (aq_mv rfl) ?_
          rcases Sh.ite_some h1 with ⟨b135, h1⟩ | ⟨b135, h1⟩
          · skip
            refine ao_skip rfl rfl b135 ?_
            refine ao_skip rfl rfl b135 ?_
            refine ao_skip rfl rfl b135 ?_
            refine ao_skip rfl rfl b135 ?_
            refine ao_none rfl rfl ?_
            refine ao_none rfl rfl ?_
            refine ao_none rfl rfl ?_
            refine ao_none rfl rfl ?_
            refine ao_skip rfl rfl b135 ?_
            refine ao_q (v := (.bool true)) go0 rfl (aq_pkt rfl b135 rfl) ?_
            exact AO.done (M12 true (Sh.some_eq h1).symm _ (Wk.to (L := [(2, (i64 p2)), (3, (.ptr 0 0 0 0)), (4, (.ptr 1 0 0 0)), (7, (.ptr 2 0 0 0)), (8, (i64 (Sh.len c3.args))), (72, (.bool true))]) ⟨.rfl, .rfl, .rfl, .rfl, .rfl, .rfl, trivial⟩))
          · skip
            refine ao_q (v := (.ptr 2 0 0 0)) (go1 rfl rfl b135) rfl (aq_fap fi49_0 rfl rfl (show 0 + 0 ≤ 6 by decide) rfl) ?_
            refine ao_q (v := (i64 c3.op)) (go1 rfl rfl b135) rfl (aq_ldp ti3 rfl rfl rfl rfl) ?_
            refine ao_q (v := (.bool (!decide (c3.op = 21)))) (go1 rfl rfl b135) rfl (aq_ne rfl rfl) ?_
            refine ao_q (v := (.bool (!decide (c3.op = 21)))) (go1 rfl rfl b135) rfl (aq_mv rfl) ?_
            rcases Sh.ite_some h1 with ⟨b136, h1⟩ | ⟨b136, h1⟩
            · skip
              refine ao_q (v := (.ptr 2 0 0 5)) (go1 rfl rfl b136) rfl (aq_fap fi49_5 rfl rfl (show 0 + 5 ≤ 6 by decide) rfl) ?_
              refine ao_q (v := (.sl (List.map eI c3.jumps))) (go1 rfl rfl b136) rfl (aq_ldp ti44 rfl rfl rfl rfl) ?_
              refine ao_q (v := (i64 (Sh.len c3.jumps))) (go1 rfl rfl b136) rfl (aq_lens sl44 rfl) ?_
              refine ao_q (v := (.bool (decide (0 < (Sh.len c3.jumps))))) (go1 rfl rfl b136) rfl (aq_gt rfl rfl) ?_
              refine ao_q (v := (.bool (decide (0 < (Sh.len c3.jumps))))) (go1 rfl rfl b135) rfl (aq_pkt rfl b136 rfl) ?_
              refine ao_q (v := (.bool (decide (0 < (Sh.len c3.jumps))))) go0 rfl (aq_pkf rfl b135 rfl) ?_
              exact AO.done (M12 (decide (0 < (Sh.len c3.jumps))) (Sh.some_eq h1).symm _ (Wk.to (L := [(2, (i64 p2)), (3, (.ptr 0 0 0 0)), (4, (.ptr 1 0 0 0)), (7, (.ptr 2 0 0 0)), (8, (i64 (Sh.len c3.args))), (72, (.bool (decide (0 < (Sh.len c3.jumps)))))]) ⟨.rfl, .rfl, .rfl, .rfl, .rfl, .rfl, trivial⟩))
            · skip
              refine ao_skip rfl rfl b136 ?_
              refine ao_skip rfl rfl b136 ?_
              refine ao_skip rfl rfl b136 ?_
              refine ao_skip rfl rfl b136 ?_
              refine ao_q (v := (.bool false)) (go1 rfl rfl b135) rfl (aq_pkf rfl b136 rfl) ?_
              refine ao_q (v := (.bool false)) go0 rfl (aq_pkf rfl b135 rfl) ?_
              exact AO.done (M12 false (Sh.some_eq h1).symm _ (Wk.to (L := [(2, (i64 p2)), (3, (.ptr 0 0 0 0)), (4, (.ptr 1 0 0 0)), (7, (.ptr 2 0 0 0)), (8, (i64 (Sh.len c3.args))), (72, (.bool false))]) ⟨.rfl, .rfl, .rfl, .rfl, .rfl, .rfl, trivial⟩))
        · skip
          refine ao_skip rfl rfl b134 ?_
          refine ao_skip rfl rfl b134 ?_
          refine ao_skip rfl rfl b134 ?_
          refine ao_q (v := (.bool false)) (go1 rfl rfl rfl) rfl (aq_pkf rfl b134 rfl) ?_
          refine ao_q (v := (.bool false)) go0 rfl (aq_pkf rfl rfl rfl) ?_
          refine ao_q (v := (.bool false)) go0 rfl (aq_mv rfl) ?_
          refine ao_q (v := (.ptr 2 0 0 0)) (go1 rfl rfl rfl) rfl (aq_fap fi49_0 rfl rfl (show 0 + 0 ≤ 6 by decide) rfl) ?_
          refine ao_q (v := (i64 c3.op)) (go1 rfl rfl rfl) rfl (aq_ldp ti3 rfl rfl rfl rfl) ?_
          refine ao_q (v := (.bool (!decide (c3.op = 21)))) (go1 rfl rfl rfl) rfl (aq_ne rfl rfl) ?_
          refine ao_q (v := (.bool (!decide (c3.op = 21)))) (go1 rfl rfl rfl) rfl (aq_mv rfl) ?_
          rcases Sh.ite_some h1 with ⟨b137, h1⟩ | ⟨b137, h1⟩
          · skip
            refine ao_q (v := (.ptr 2 0 0 5)) (go1 rfl rfl b137) rfl (aq_fap fi49_5 rfl rfl (show 0 + 5 ≤ 6 by decide) rfl) ?_
            refine ao_q (v := (.sl (List.map eI c3.jumps))) (go1 rfl rfl b137) rfl (aq_ldp ti44 rfl rfl rfl rfl) ?_
            refine ao_q (v := (i64 (Sh.len c3.jumps))) (go1 rfl rfl b137) rfl (aq_lens sl44 rfl) ?_
            refine ao_q (v := (.bool (decide (0 < (Sh.len c3.jumps))))) (go1 rfl rfl b137) rfl (aq_gt rfl rfl) ?_
            refine ao_q (v := (.bool (decide (0 < (Sh.len c3.jumps))))) (go1 rfl rfl rfl) rfl (aq_pkt rfl b137 rfl) ?_
            refine ao_q (v := (.bool (decide (0 < (Sh.len c3.jumps))))) go0 rfl (aq_pkf rfl rfl rfl) ?_
            exact AO.done (M12 (decide (0 < (Sh.len c3.jumps))) (Sh.some_eq h1).symm _ (Wk.to (L := [(2, (i64 p2)), (3, (.ptr 0 0 0 0)), (4, (.ptr 1 0 0 0)), (7, (.ptr 2 0 0 0)), (8, (i64 (Sh.len c3.args))), (72, (.bool (decide (0 < (Sh.len c3.jumps)))))]) ⟨.rfl, .rfl, .rfl, .rfl, .rfl, .rfl, trivial⟩))
          · skip
            refine ao_skip rfl rfl b137 ?_
            refine ao_skip rfl rfl b137 ?_
            refine ao_skip rfl rfl b137 ?_
            refine ao_skip rfl rfl b137 ?_
            refine ao_q (v := (.bool false)) (go1 rfl rfl rfl) rfl (aq_pkf rfl b137 rfl) ?_
            refine ao_q (v := (.bool false)) go0 rfl (aq_pkf rfl rfl rfl) ?_
            exact AO.done (M12 false (Sh.some_eq h1).symm _ (Wk.to (L := [(2, (i64 p2)), (3, (.ptr 0 0 0 0)), (4, (.ptr 1 0 0 0)), (7, (.ptr 2 0 0 0)), (8, (i64 (Sh.len c3.args))), (72, (.bool false))]) ⟨.rfl, .rfl, .rfl, .rfl, .rfl, .rfl, trivial⟩))
  refine AW.block (AW.loopF (σ := Int) (fun n v => spec_validInstr_L1 c3 p1 n v = some o8) (fun k7 => ⟨234, envL [(2, (i64 p2)), (3, (.ptr 0 0 0 0)), (4, (.ptr 1 0 0 0)), (7, (.ptr 2 0 0 0)), (8, (i64 (Sh.len c3.args))), (9, (i64 k7))], [⟨0, 31, 2, [[(.sl (List.map eRDecl p0.decls)), (.sl (List.map eRProc p0.procs))]]⟩, ⟨0, 47, 5, [[(.sl (List.map eI p1.params)), (.sl (List.map eI p1.lent)), (i64 p1.result), (i64 p1.regs), (.sl (List.map eRInstr p1.code))]]⟩, ⟨0, 49, 6, [[(i64 c3.op), (i64 c3.dst), (i64 c3.num), (i64 c3.into), (.sl (List.map eI c3.args)), (.sl (List.map eI c3.jumps))]]⟩]⟩) N 0 h1 (Wk.to (L := [(2, (i64 p2)), (3, (.ptr 0 0 0 0)), (4, (.ptr 1 0 0 0)), (7, (.ptr 2 0 0 0)), (8, (i64 (Sh.len c3.args))), (9, (i64 0))]) ⟨.rfl, .rfl, .rfl, .rfl, .rfl, .rfl, trivial⟩) (fun _ hv => by rw [spec_validInstr_L1] at hv; cases hv) ?_)
  rintro n k7 h1
  try dsimp only at h1 ⊢
  rw [spec_validInstr_L1] at h1
  refine AW.seq fun K138 hK138 => ?_
  refine AW.seq fun K139 hK139 => ?_
  refine AW.regionO (by rfl) ?_
  refine ao_q (v := (i64 k7)) go0 rfl (aq_mv rfl) ?_
  refine ao_q (v := (i64 (Sh.len c3.args))) go0 rfl (aq_mv rfl) ?_
  refine ao_q (v := (.bool (decide (k7 < (Sh.len c3.args))))) go0 rfl (aq_lt rfl rfl) ?_
  refine AO.done (hK139 _ ?_)
  refine AW.cond' (b := decide (k7 < (Sh.len c3.args))) rfl (fun b140 => ?_) (fun b140 => ?_)
  · replace h1 := Sh.ite_t b140 h1
    refine AW.skip (hK138 _ ?_)
    refine AW.seq fun K141 hK141 => ?_
    refine AW.block ?_
    refine AW.seq fun K142 hK142 => ?_
    refine AW.draw (by kernel_rfl) (by kernel_rfl) (by rfl) ?_
    refine d_q (v := (.ptr 2 0 0 4)) go0 rfl (aq_fap fi49_4 rfl rfl (show 0 + 4 ≤ 6 by decide) rfl) ?_
    refine d_q (v := (.sl (List.map eI c3.args))) go0 rfl (aq_ldp ti44 rfl rfl rfl rfl) ?_
    refine d_q (v := (i64 k7)) go0 rfl (aq_mv rfl) ?_
    obtain ⟨c143, gc143, h1⟩ := Sh.bind_some h1
    refine d_q (v := (.iptr (eI c143) 0)) go0 rfl (aq_ixs ei44 rfl rfl gc143 rfl) ?_
    refine d_q (v := (i64 c143)) go0 rfl (aq_ldi ti3 rfl rfl) ?_
    refine d_q (v := (.ptr 1 0 0 3)) go0 rfl (aq_fap fi47_3 rfl rfl (show 0 + 3 ≤ 5 by decide) rfl) ?_
    refine d_q (v := (i64 p1.regs)) go0 rfl (aq_ldp ti3 rfl rfl rfl rfl) ?_
    refine d_q (v := (i64 (Sh.w (p1.regs - 1)))) go0 rfl (aq_sub rfl rfl) ?_
    obtain ⟨q144, gq144, h1⟩ := Sh.bind_some h1
    refine d_call (v := (.bool q144)) go0 hb38 (spec_inRange_ok gq144) rfl rfl rfl ?_
    refine d_q (v := (.bool (!q144))) go0 rfl (aq_not rfl) ?_
    refine d_done (hK142 _ ?_)
    refine AW.cond' (b := !q144) rfl (fun b145 => ?_) (fun b145 => ?_)
    · replace h1 := Sh.ite_t b145 h1
      have b146 : q144 = false := by simpa using b145
      refine AW.seq fun K147 hK147 => ?_
      refine AW.regionO (by rfl) ?_
      refine ao_q (v := (.bool false)) go0 rfl (aq_as rfl) ?_
      refine AO.done (hK147 _ ?_)
      replace h1 := Sh.some_eq h1
      subst o8
      try dsimp only [id] at h0
      replace h0 := Sh.some_eq h0
      subst r
      exact AW.ret (Exists.intro _ (And.intro ((Wk.permk (L := [(6, (.bool false))]) (st' := []) (st1 := []) [] rfl .nil (by decide) rfl rfl .nil ⟨.rfl, trivial⟩).trans (Wk.to (L := [(6, (.bool false))]) ⟨.rfl, trivial⟩)) (And.intro rfl rfl)))
    · replace h1 := Sh.ite_f b145 h1
      have b148 : q144 = true := by simpa using b145
      refine AW.skip (hK141 _ ?_)
      refine AW.regionO (by rfl) ?_
      refine ao_q (v := (i64 k7)) go0 rfl (aq_mv rfl) ?_
      refine ao_q (v := (i64 (Sh.w (k7 + 1)))) go0 rfl (aq_add rfl rfl) ?_
      refine ao_q (v := (i64 (Sh.w (k7 + 1)))) go0 rfl (aq_as rfl) ?_
      exact AO.done (Exists.intro (Sh.w (k7 + 1)) (And.intro h1 (Wk.to (L := [(2, (i64 p2)), (3, (.ptr 0 0 0 0)), (4, (.ptr 1 0 0 0)), (7, (.ptr 2 0 0 0)), (8, (i64 (Sh.len c3.args))), (9, (i64 (Sh.w (k7 + 1))))]) ⟨.rfl, .rfl, .rfl, .rfl, .rfl, .rfl, trivial⟩)))
  · replace h1 := Sh.ite_f b140 h1
    exact AW.exit (M8 () (Sh.some_eq h1).symm _ (Wk.to (L := [(2, (i64 p2)), (3, (.ptr 0 0 0 0)), (4, (.ptr 1 0 0 0)), (7, (.ptr 2 0 0 0)), (8, (i64 (Sh.len c3.args)))]) ⟨.rfl, .rfl, .rfl, .rfl, .rfl, trivial⟩))

set_option maxRecDepth 100000 in
set_option maxHeartbeats 4000000 in
theorem spec_validProc_ok {N : Nat} {p0 : RImage} {p1 : RProc} {r : Bool} (h0 : spec_validProc N p0 p1 = some r) : ACalls Try.prog 22 [(.agg [(.sl (List.map eRDecl p0.decls)), (.sl (List.map eRProc p0.procs))]), (.agg [(.sl (List.map eI p1.params)), (.sl (List.map eI p1.lent)), (i64 p1.result), (i64 p1.regs), (.sl (List.map eRInstr p1.code))])] [] (fun v st => v = (.bool r) ∧ st = []) := by
  unfold spec_validProc at h0
  refine ACalls.intro Try.func22 rfl (by show 2 ≤ 59; decide) ?_
  show AW _ 0 _ (aret _ 0 Try.f22 _) ⟨59, _, _⟩
  refine AW.weaken (Wk.to (L := [(0, (.agg [(.sl (List.map eRDecl p0.decls)), (.sl (List.map eRProc p0.procs))])), (1, (.agg [(.sl (List.map eI p1.params)), (.sl (List.map eI p1.lent)), (i64 p1.result), (i64 p1.regs), (.sl (List.map eRInstr p1.code))]))]) ⟨.rfl, .rfl, trivial⟩) ?_
  refine AW.seq fun K1 hK1 => ?_
  refine AW.regionO (by rfl) ?_
  refine ao_box (m := 0) (st' := [⟨0, 31, 2, [[(.sl (List.map eRDecl p0.decls)), (.sl (List.map eRProc p0.procs))]]⟩]) go0 rfl rfl rfl rfl rfl ?_
  refine ao_box (m := 1) (st' := [⟨0, 31, 2, [[(.sl (List.map eRDecl p0.decls)), (.sl (List.map eRProc p0.procs))]]⟩, ⟨0, 47, 5, [[(.sl (List.map eI p1.params)), (.sl (List.map eI p1.lent)), (i64 p1.result), (i64 p1.regs), (.sl (List.map eRInstr p1.code))]]⟩]) go0 rfl rfl rfl rfl rfl ?_
  refine ao_q (v := (.bool false)) go0 rfl (aq_as rfl) ?_
  refine AO.done (hK1 _ ?_)
  refine AW.seq fun K2 hK2 => ?_
  refine AW.regionO (by rfl) ?_
  refine ao_q (v := (.ptr 1 0 0 4)) go0 rfl (aq_fap fi47_4 rfl rfl (show 0 + 4 ≤ 5 by decide) rfl) ?_
  refine ao_q (v := (.sl (List.map eRInstr p1.code))) go0 rfl (aq_ldp ti45 rfl rfl rfl rfl) ?_
  refine ao_q (v := (i64 (Sh.len p1.code))) go0 rfl (aq_lens sl45 rfl) ?_
  refine ao_q (v := (i64 (Sh.len p1.code))) go0 rfl (aq_as rfl) ?_
  refine AO.done (hK2 _ ?_)
  refine AW.seq fun K3 hK3 => ?_
  refine AW.seq fun K4 hK4 => ?_
  obtain ⟨o6, h1, h0⟩ := Sh.bind_some h0
  have M6 : ∀ (t5 : Bool), o6 = t5 → ∀ s, Wk 0 s ⟨59, envL [(2, (.ptr 0 0 0 0)), (3, (.ptr 1 0 0 0)), (5, (i64 (Sh.len p1.code))), (30, (.bool t5))], [⟨0, 31, 2, [[(.sl (List.map eRDecl p0.decls)), (.sl (List.map eRProc p0.procs))]]⟩, ⟨0, 47, 5, [[(.sl (List.map eI p1.params)), (.sl (List.map eI p1.lent)), (i64 p1.result), (i64 p1.regs), (.sl (List.map eRInstr p1.code))]]⟩]⟩ → K4 s := by
    intro t5 hq s hw
    subst o6
    try dsimp only at h0
    refine hK4 _ (AW.weaken hw ?_)
    refine AW.cond' (b := t5) rfl (fun b7 => ?_) (fun b7 => ?_)
    · replace h0 := Sh.ite_t b7 h0
      refine AW.seq fun K8 hK8 => ?_
      refine AW.regionO (by rfl) ?_
      refine ao_q (v := (.bool false)) go0 rfl (aq_as rfl) ?_
      refine AO.done (hK8 _ ?_)
      replace h0 := Sh.some_eq h0
      subst r
      exact AW.ret (Exists.intro _ (And.intro ((Wk.permk (L := [(4, (.bool false))]) (st' := []) (st1 := []) [] rfl .nil (by decide) rfl rfl .nil ⟨.rfl, trivial⟩).trans (Wk.to (L := [(4, (.bool false))]) ⟨.rfl, trivial⟩)) (And.intro rfl rfl)))
    · replace h0 := Sh.ite_f b7 h0
      refine AW.skip (hK3 _ ?_)
      refine AW.seq fun K9 hK9 => ?_
      refine AW.seq fun K10 hK10 => ?_
      refine AW.regionO (by rfl) ?_
      refine ao_q (v := (i64 0)) go0 rfl (aq_as rfl) ?_
      refine AO.done (hK10 _ ?_)
      obtain ⟨o12, h1, h0⟩ := Sh.cont_some h0
      have M12 : ∀ (_ : Unit), o12 = Sum.inr () → ∀ s, Wk 0 s ⟨59, envL [(3, (.ptr 0 0 0 0)), (5, (i64 (Sh.len p1.code)))], [⟨0, 47, 5, [[(.sl (List.map eI p1.params)), (.sl (List.map eI p1.lent)), (i64 p1.result), (i64 p1.regs), (.sl (List.map eRInstr p1.code))]]⟩]⟩ → K9 s := by
        intro _ hq s hw
        subst o12
        try dsimp only at h0
        refine hK9 _ (AW.weaken hw ?_)
        refine AW.seq fun K13 hK13 => ?_
        obtain ⟨o15, h1, h0⟩ := Sh.bind_some h0
        have M15 : ∀ (t14 : Bool), o15 = t14 → ∀ s, Wk 0 s ⟨59, envL [(4, (.bool t14))], []⟩ → K13 s := by
          intro t14 hq s hw
          subst o15
          try dsimp only at h0
          refine hK13 _ (AW.weaken hw ?_)
          replace h0 := Sh.some_eq h0
          subst r
          exact AW.ret (Exists.intro _ (And.intro (Wk.to (L := [(4, (.bool t14))]) ⟨.rfl, trivial⟩) (And.intro rfl rfl)))
        refine AW.regionO (by rfl) ?_
        refine ao_q (v := (.ptr 0 0 0 4)) go0 rfl (aq_fap fi47_4 rfl rfl (show 0 + 4 ≤ 5 by decide) rfl) ?_
        refine ao_q (v := (.sl (List.map eRInstr p1.code))) go0 rfl (aq_ldp ti45 rfl rfl rfl rfl) ?_
        refine ao_q (v := (i64 (Sh.len p1.code))) go0 rfl (aq_mv rfl) ?_
        refine ao_q (v := (i64 (Sh.w ((Sh.len p1.code) - 1)))) go0 rfl (aq_sub rfl rfl) ?_
        obtain ⟨c16, gc16, h1⟩ := Sh.bind_some h1
        refine ao_q (v := (.iptr (eRInstr c16) 0)) go0 rfl (aq_ixs ei45 rfl rfl gc16 rfl) ?_
        refine ao_q (v := (.iptr (eRInstr c16) 0)) go0 rfl (aq_fai fi49_0 rfl rfl) ?_
        refine ao_q (v := (i64 c16.op)) go0 rfl (aq_ldi ti3 rfl rfl) ?_
        refine ao_q (v := (.bool (decide (c16.op = 23)))) go0 rfl (aq_eq rfl rfl) ?_
        refine ao_q (v := (.bool (decide (c16.op = 23)))) go0 rfl (aq_mv rfl) ?_
        rcases Sh.ite_some h1 with ⟨b17, h1⟩ | ⟨b17, h1⟩
        · skip
          refine ao_skip rfl rfl b17 ?_
          refine ao_skip rfl rfl b17 ?_
          refine ao_skip rfl rfl b17 ?_
          refine ao_skip rfl rfl b17 ?_
          refine ao_skip rfl rfl b17 ?_
          refine ao_skip rfl rfl b17 ?_
          refine ao_skip rfl rfl b17 ?_
          refine ao_skip rfl rfl b17 ?_
          refine ao_q (v := (.bool true)) go0 rfl (aq_pkt rfl b17 rfl) ?_
          refine ao_q (v := (.bool true)) go0 rfl (aq_as rfl) ?_
          exact AO.done (M15 true (Sh.some_eq h1).symm _ (by refine Wk.trans (Wk.permk (L := [(4, (.bool true))]) (st' := []) (st1 := []) [] rfl .nil (by decide) rfl rfl .nil ⟨.rfl, trivial⟩) ?_; exact Wk.to (L := [(4, (.bool true))]) ⟨.rfl, trivial⟩))
        · skip
          refine ao_q (v := (.ptr 0 0 0 4)) (go1 rfl rfl b17) rfl (aq_fap fi47_4 rfl rfl (show 0 + 4 ≤ 5 by decide) rfl) ?_
          refine ao_q (v := (.sl (List.map eRInstr p1.code))) (go1 rfl rfl b17) rfl (aq_ldp ti45 rfl rfl rfl rfl) ?_
          refine ao_q (v := (i64 (Sh.len p1.code))) (go1 rfl rfl b17) rfl (aq_mv rfl) ?_
          refine ao_q (v := (i64 (Sh.w ((Sh.len p1.code) - 1)))) (go1 rfl rfl b17) rfl (aq_sub rfl rfl) ?_
          refine ao_q (v := (.iptr (eRInstr c16) 0)) (go1 rfl rfl b17) rfl (aq_ixs ei45 rfl rfl gc16 rfl) ?_
          refine ao_q (v := (.iptr (eRInstr c16) 0)) (go1 rfl rfl b17) rfl (aq_fai fi49_0 rfl rfl) ?_
          refine ao_q (v := (i64 c16.op)) (go1 rfl rfl b17) rfl (aq_ldi ti3 rfl rfl) ?_
          refine ao_q (v := (.bool (decide (c16.op = 24)))) (go1 rfl rfl b17) rfl (aq_eq rfl rfl) ?_
          refine ao_q (v := (.bool (decide (c16.op = 24)))) go0 rfl (aq_pkf rfl b17 rfl) ?_
          refine ao_q (v := (.bool (decide (c16.op = 24)))) go0 rfl (aq_as rfl) ?_
          exact AO.done (M15 (decide (c16.op = 24)) (Sh.some_eq h1).symm _ (by refine Wk.trans (Wk.permk (L := [(4, (.bool (decide (c16.op = 24))))]) (st' := []) (st1 := []) [] rfl .nil (by decide) rfl rfl .nil ⟨.rfl, trivial⟩) ?_; exact Wk.to (L := [(4, (.bool (decide (c16.op = 24))))]) ⟨.rfl, trivial⟩))
      refine AW.block (AW.loopF (σ := Int) (fun n v => spec_validProc_L1 N p0 p1 n v = some o12) (fun at11 => ⟨59, envL [(2, (.ptr 0 0 0 0)), (3, (.ptr 1 0 0 0)), (5, (i64 (Sh.len p1.code))), (6, (i64 at11))], [⟨0, 31, 2, [[(.sl (List.map eRDecl p0.decls)), (.sl (List.map eRProc p0.procs))]]⟩, ⟨0, 47, 5, [[(.sl (List.map eI p1.params)), (.sl (List.map eI p1.lent)), (i64 p1.result), (i64 p1.regs), (.sl (List.map eRInstr p1.code))]]⟩]⟩) N 0 h1 (Wk.to (L := [(2, (.ptr 0 0 0 0)), (3, (.ptr 1 0 0 0)), (5, (i64 (Sh.len p1.code))), (6, (i64 0))]) ⟨.rfl, .rfl, .rfl, .rfl, trivial⟩) (fun _ hv => by rw [spec_validProc_L1] at hv; cases hv) ?_)
      rintro n at11 h1
      try dsimp only at h1 ⊢
      rw [spec_validProc_L1] at h1
      refine AW.seq fun K18 hK18 => ?_
      refine AW.seq fun K19 hK19 => ?_
      refine AW.regionO (by rfl) ?_
      refine ao_q (v := (i64 at11)) go0 rfl (aq_mv rfl) ?_
      refine ao_q (v := (i64 (Sh.len p1.code))) go0 rfl (aq_mv rfl) ?_
      refine ao_q (v := (.bool (decide (at11 < (Sh.len p1.code))))) go0 rfl (aq_lt rfl rfl) ?_
      refine AO.done (hK19 _ ?_)
      refine AW.cond' (b := decide (at11 < (Sh.len p1.code))) rfl (fun b20 => ?_) (fun b20 => ?_)
      · replace h1 := Sh.ite_t b20 h1
        refine AW.skip (hK18 _ ?_)
        refine AW.seq fun K21 hK21 => ?_
        refine AW.block ?_
        refine AW.seq fun K22 hK22 => ?_
        refine AW.regionO (by rfl) ?_
        refine ao_q (v := (.agg [(.sl (List.map eRDecl p0.decls)), (.sl (List.map eRProc p0.procs))])) go0 rfl (aq_ldpa ti31 rfl rfl rfl (show 0 + 2 ≤ 2 by decide) rfl) ?_
        refine ao_q (v := (.agg [(.sl (List.map eI p1.params)), (.sl (List.map eI p1.lent)), (i64 p1.result), (i64 p1.regs), (.sl (List.map eRInstr p1.code))])) go0 rfl (aq_ldpa ti47 rfl rfl rfl (show 0 + 5 ≤ 5 by decide) rfl) ?_
        refine ao_q (v := (i64 at11)) go0 rfl (aq_mv rfl) ?_
        obtain ⟨q23, gq23, h1⟩ := Sh.bind_some h1
        refine ao_call (v' := (.bool q23)) (st' := [⟨0, 31, 2, [[(.sl (List.map eRDecl p0.decls)), (.sl (List.map eRProc p0.procs))]]⟩, ⟨0, 47, 5, [[(.sl (List.map eI p1.params)), (.sl (List.map eI p1.lent)), (i64 p1.result), (i64 p1.regs), (.sl (List.map eRInstr p1.code))]]⟩]) go0 hb41 (spec_validInstr_ok gq23) rfl rfl trivial rfl rfl ?_
        refine ao_q (v := (.bool (!q23))) go0 rfl (aq_not rfl) ?_
        refine AO.done (hK22 _ ?_)
        refine AW.cond' (b := !q23) rfl (fun b24 => ?_) (fun b24 => ?_)
        · replace h1 := Sh.ite_t b24 h1
          have b25 : q23 = false := by simpa using b24
          refine AW.seq fun K26 hK26 => ?_
          refine AW.regionO (by rfl) ?_
          refine ao_q (v := (.bool false)) go0 rfl (aq_as rfl) ?_
          refine AO.done (hK26 _ ?_)
          replace h1 := Sh.some_eq h1
          subst o12
          try dsimp only [id] at h0
          replace h0 := Sh.some_eq h0
          subst r
          exact AW.ret (Exists.intro _ (And.intro ((Wk.permk (L := [(4, (.bool false))]) (st' := []) (st1 := []) [] rfl .nil (by decide) rfl rfl .nil ⟨.rfl, trivial⟩).trans (Wk.to (L := [(4, (.bool false))]) ⟨.rfl, trivial⟩)) (And.intro rfl rfl)))
        · replace h1 := Sh.ite_f b24 h1
          have b27 : q23 = true := by simpa using b24
          refine AW.skip (hK21 _ ?_)
          refine AW.regionO (by rfl) ?_
          refine ao_q (v := (i64 at11)) go0 rfl (aq_mv rfl) ?_
          refine ao_q (v := (i64 (Sh.w (at11 + 1)))) go0 rfl (aq_add rfl rfl) ?_
          refine ao_q (v := (i64 (Sh.w (at11 + 1)))) go0 rfl (aq_as rfl) ?_
          exact AO.done (Exists.intro (Sh.w (at11 + 1)) (And.intro h1 (Wk.to (L := [(2, (.ptr 0 0 0 0)), (3, (.ptr 1 0 0 0)), (5, (i64 (Sh.len p1.code))), (6, (i64 (Sh.w (at11 + 1))))]) ⟨.rfl, .rfl, .rfl, .rfl, trivial⟩)))
      · replace h1 := Sh.ite_f b20 h1
        exact AW.exit (M12 () (Sh.some_eq h1).symm _ (by refine Wk.trans (Wk.permk (L := [(3, (.ptr 0 0 0 0)), (5, (i64 (Sh.len p1.code)))]) (st' := [⟨0, 47, 5, [[(.sl (List.map eI p1.params)), (.sl (List.map eI p1.lent)), (i64 p1.result), (i64 p1.regs), (.sl (List.map eRInstr p1.code))]]⟩]) (st1 := [⟨0, 47, 5, [[(.sl (List.map eI p1.params)), (.sl (List.map eI p1.lent)), (i64 p1.result), (i64 p1.regs), (.sl (List.map eRInstr p1.code))]]⟩]) [1] rfl .nil (by decide) rfl rfl (.raw rfl rfl .nil) ⟨.rfl, .rfl, trivial⟩) ?_; exact Wk.to (L := [(3, (.ptr 0 0 0 0)), (5, (i64 (Sh.len p1.code)))]) ⟨.rfl, .rfl, trivial⟩))
  refine AW.regionO (by rfl) ?_
  refine ao_q (v := (.ptr 1 0 0 0)) go0 rfl (aq_fap fi47_0 rfl rfl (show 0 + 0 ≤ 5 by decide) rfl) ?_
  refine ao_q (v := (.sl (List.map eI p1.params))) go0 rfl (aq_ldp ti44 rfl rfl rfl rfl) ?_
  refine ao_q (v := (.ptr 1 0 0 1)) go0 rfl (aq_fap fi47_1 rfl rfl (show 0 + 1 ≤ 5 by decide) rfl) ?_
  refine ao_q (v := (.sl (List.map eI p1.lent))) go0 rfl (aq_ldp ti44 rfl rfl rfl rfl) ?_
  obtain ⟨q28, gq28, h1⟩ := Sh.bind_some h1
  refine ao_call (v' := (.bool q28)) (st' := [⟨0, 31, 2, [[(.sl (List.map eRDecl p0.decls)), (.sl (List.map eRProc p0.procs))]]⟩, ⟨0, 47, 5, [[(.sl (List.map eI p1.params)), (.sl (List.map eI p1.lent)), (i64 p1.result), (i64 p1.regs), (.sl (List.map eRInstr p1.code))]]⟩]) go0 hb40 (spec_validLent_ok gq28) rfl rfl trivial rfl rfl ?_
  refine ao_q (v := (.bool (!q28))) go0 rfl (aq_not rfl) ?_
  refine ao_q (v := (.bool (!q28))) go0 rfl (aq_mv rfl) ?_
  rcases Sh.ite_some h1 with ⟨b29, h1⟩ | ⟨b29, h1⟩
  · skip
    refine ao_skip rfl rfl b29 ?_
    refine ao_skip rfl rfl b29 ?_
    refine ao_skip rfl rfl b29 ?_
    refine ao_skip rfl rfl b29 ?_
    refine ao_skip rfl rfl b29 ?_
    refine ao_skip rfl rfl b29 ?_
    refine ao_skip rfl rfl b29 ?_
    refine ao_skip rfl rfl b29 ?_
    refine ao_q (v := (.bool true)) go0 rfl (aq_pkt rfl b29 rfl) ?_
    refine ao_q (v := (.bool true)) go0 rfl (aq_mv rfl) ?_
    refine ao_skip rfl rfl rfl ?_
    refine ao_skip rfl rfl rfl ?_
    refine ao_skip rfl rfl rfl ?_
    refine ao_q (v := (.bool true)) go0 rfl (aq_pkt rfl rfl rfl) ?_
    exact AO.done (M6 true (Sh.some_eq h1).symm _ (Wk.to (L := [(2, (.ptr 0 0 0 0)), (3, (.ptr 1 0 0 0)), (5, (i64 (Sh.len p1.code))), (30, (.bool true))]) ⟨.rfl, .rfl, .rfl, .rfl, trivial⟩))
  · skip
    refine ao_q (v := (.ptr 1 0 0 3)) (go1 rfl rfl b29) rfl (aq_fap fi47_3 rfl rfl (show 0 + 3 ≤ 5 by decide) rfl) ?_
    refine ao_q (v := (i64 p1.regs)) (go1 rfl rfl b29) rfl (aq_ldp ti3 rfl rfl rfl rfl) ?_
    refine ao_q (v := (.ptr 1 0 0 0)) (go1 rfl rfl b29) rfl (aq_fap fi47_0 rfl rfl (show 0 + 0 ≤ 5 by decide) rfl) ?_
    refine ao_q (v := (.sl (List.map eI p1.params))) (go1 rfl rfl b29) rfl (aq_ldp ti44 rfl rfl rfl rfl) ?_
    refine ao_q (v := (i64 (Sh.len p1.params))) (go1 rfl rfl b29) rfl (aq_lens sl44 rfl) ?_
    refine ao_q (v := (i64 (if (Sh.len p1.params) > 1 then (Sh.len p1.params) else 1))) (go1 rfl rfl b29) rfl (aq_max rfl rfl) ?_
    obtain ⟨q30, gq30, h1⟩ := Sh.bind_some h1
    refine ao_call (v' := (.bool q30)) (st' := [⟨0, 31, 2, [[(.sl (List.map eRDecl p0.decls)), (.sl (List.map eRProc p0.procs))]]⟩, ⟨0, 47, 5, [[(.sl (List.map eI p1.params)), (.sl (List.map eI p1.lent)), (i64 p1.result), (i64 p1.regs), (.sl (List.map eRInstr p1.code))]]⟩]) (go1 rfl rfl b29) hb38 (spec_inRange_ok gq30) rfl rfl trivial rfl rfl ?_
    refine ao_q (v := (.bool (!q30))) (go1 rfl rfl b29) rfl (aq_not rfl) ?_
    refine ao_q (v := (.bool (!q30))) go0 rfl (aq_pkf rfl b29 rfl) ?_
    refine ao_q (v := (.bool (!q30))) go0 rfl (aq_mv rfl) ?_
    rcases Sh.ite_some h1 with ⟨b31, h1⟩ | ⟨b31, h1⟩
    · skip
      refine ao_skip rfl rfl b31 ?_
      refine ao_skip rfl rfl b31 ?_
      refine ao_skip rfl rfl b31 ?_
      refine ao_q (v := (.bool true)) go0 rfl (aq_pkt rfl b31 rfl) ?_
      exact AO.done (M6 true (Sh.some_eq h1).symm _ (Wk.to (L := [(2, (.ptr 0 0 0 0)), (3, (.ptr 1 0 0 0)), (5, (i64 (Sh.len p1.code))), (30, (.bool true))]) ⟨.rfl, .rfl, .rfl, .rfl, trivial⟩))
    · skip
      refine ao_q (v := (i64 (Sh.len p1.code))) (go1 rfl rfl b31) rfl (aq_mv rfl) ?_
      obtain ⟨q32, gq32, h1⟩ := Sh.bind_some h1
      refine ao_call (v' := (.bool q32)) (st' := [⟨0, 31, 2, [[(.sl (List.map eRDecl p0.decls)), (.sl (List.map eRProc p0.procs))]]⟩, ⟨0, 47, 5, [[(.sl (List.map eI p1.params)), (.sl (List.map eI p1.lent)), (i64 p1.result), (i64 p1.regs), (.sl (List.map eRInstr p1.code))]]⟩]) (go1 rfl rfl b31) hb38 (spec_inRange_ok gq32) rfl rfl trivial rfl rfl ?_
      refine ao_q (v := (.bool (!q32))) (go1 rfl rfl b31) rfl (aq_not rfl) ?_
      refine ao_q (v := (.bool (!q32))) go0 rfl (aq_pkf rfl b31 rfl) ?_
      exact AO.done (M6 (!q32) (Sh.some_eq h1).symm _ (Wk.to (L := [(2, (.ptr 0 0 0 0)), (3, (.ptr 1 0 0 0)), (5, (i64 (Sh.len p1.code))), (30, (.bool (!q32)))]) ⟨.rfl, .rfl, .rfl, .rfl, trivial⟩))

set_option maxRecDepth 100000 in
set_option maxHeartbeats 4000000 in
theorem spec_validImage_ok {N : Nat} {p0 : RImage} {r : Bool} (h0 : spec_validImage N p0 = some r) : ACalls Try.prog 11 [(.agg [(.sl (List.map eRDecl p0.decls)), (.sl (List.map eRProc p0.procs))])] [] (fun v st => v = (.bool r) ∧ st = []) := by
  unfold spec_validImage at h0
  refine ACalls.intro Try.func11 rfl (by show 1 ≤ 29; decide) ?_
  show AW _ 0 _ (aret _ 0 Try.f11 _) ⟨29, _, _⟩
  refine AW.weaken (Wk.to (L := [(0, (.agg [(.sl (List.map eRDecl p0.decls)), (.sl (List.map eRProc p0.procs))]))]) ⟨.rfl, trivial⟩) ?_
  refine AW.seq fun K1 hK1 => ?_
  refine AW.regionO (by rfl) ?_
  refine ao_box (m := 0) (st' := [⟨0, 31, 2, [[(.sl (List.map eRDecl p0.decls)), (.sl (List.map eRProc p0.procs))]]⟩]) go0 rfl rfl rfl rfl rfl ?_
  refine ao_q (v := (.bool false)) go0 rfl (aq_as rfl) ?_
  refine AO.done (hK1 _ ?_)
  refine AW.seq fun K2 hK2 => ?_
  refine AW.seq fun K3 hK3 => ?_
  obtain ⟨o5, h1, h0⟩ := Sh.bind_some h0
  have M5 : ∀ (t4 : Bool), o5 = t4 → ∀ s, Wk 0 s ⟨29, envL [(1, (.ptr 0 0 0 0)), (13, (.bool t4))], [⟨0, 31, 2, [[(.sl (List.map eRDecl p0.decls)), (.sl (List.map eRProc p0.procs))]]⟩]⟩ → K3 s := by
    intro t4 hq s hw
    subst o5
    try dsimp only at h0
    refine hK3 _ (AW.weaken hw ?_)
    refine AW.cond' (b := t4) rfl (fun b6 => ?_) (fun b6 => ?_)
    · replace h0 := Sh.ite_t b6 h0
      refine AW.seq fun K7 hK7 => ?_
      refine AW.regionO (by rfl) ?_
      refine ao_q (v := (.bool false)) go0 rfl (aq_as rfl) ?_
      refine AO.done (hK7 _ ?_)
      replace h0 := Sh.some_eq h0
      subst r
      exact AW.ret (Exists.intro _ (And.intro ((Wk.permk (L := [(2, (.bool false))]) (st' := []) (st1 := []) [] rfl .nil (by decide) rfl rfl .nil ⟨.rfl, trivial⟩).trans (Wk.to (L := [(2, (.bool false))]) ⟨.rfl, trivial⟩)) (And.intro rfl rfl)))
    · replace h0 := Sh.ite_f b6 h0
      refine AW.skip (hK2 _ ?_)
      refine AW.seq fun K8 hK8 => ?_
      refine AW.seq fun K9 hK9 => ?_
      refine AW.regionO (by rfl) ?_
      refine ao_q (v := (i64 0)) go0 rfl (aq_as rfl) ?_
      refine AO.done (hK9 _ ?_)
      obtain ⟨o11, h1, h0⟩ := Sh.cont_some h0
      have M11 : ∀ (_ : Unit), o11 = Sum.inr () → ∀ s, Wk 0 s ⟨29, envL [], []⟩ → K8 s := by
        intro _ hq s hw
        subst o11
        try dsimp only at h0
        refine hK8 _ (AW.weaken hw ?_)
        refine AW.seq fun K12 hK12 => ?_
        refine AW.regionO (by rfl) ?_
        refine ao_q (v := (.bool true)) go0 rfl (aq_as rfl) ?_
        refine AO.done (hK12 _ ?_)
        replace h0 := Sh.some_eq h0
        subst r
        exact AW.ret (Exists.intro _ (And.intro (Wk.to (L := [(2, (.bool true))]) ⟨.rfl, trivial⟩) (And.intro rfl rfl)))
      refine AW.block (AW.loopF (σ := Int) (fun n v => spec_validImage_L1 N p0 n v = some o11) (fun i10 => ⟨29, envL [(1, (.ptr 0 0 0 0)), (3, (i64 i10))], [⟨0, 31, 2, [[(.sl (List.map eRDecl p0.decls)), (.sl (List.map eRProc p0.procs))]]⟩]⟩) N 0 h1 (Wk.to (L := [(1, (.ptr 0 0 0 0)), (3, (i64 0))]) ⟨.rfl, .rfl, trivial⟩) (fun _ hv => by rw [spec_validImage_L1] at hv; cases hv) ?_)
      rintro n i10 h1
      try dsimp only at h1 ⊢
      rw [spec_validImage_L1] at h1
      refine AW.seq fun K13 hK13 => ?_
      refine AW.seq fun K14 hK14 => ?_
      refine AW.regionO (by rfl) ?_
      refine ao_q (v := (i64 i10)) go0 rfl (aq_mv rfl) ?_
      refine ao_q (v := (.ptr 0 0 0 1)) go0 rfl (aq_fap fi31_1 rfl rfl (show 0 + 1 ≤ 2 by decide) rfl) ?_
      refine ao_q (v := (.sl (List.map eRProc p0.procs))) go0 rfl (aq_ldp ti29 rfl rfl rfl rfl) ?_
      refine ao_q (v := (i64 (Sh.len p0.procs))) go0 rfl (aq_lens sl29 rfl) ?_
      refine ao_q (v := (.bool (decide (i10 < (Sh.len p0.procs))))) go0 rfl (aq_lt rfl rfl) ?_
      refine AO.done (hK14 _ ?_)
      refine AW.cond' (b := decide (i10 < (Sh.len p0.procs))) rfl (fun b15 => ?_) (fun b15 => ?_)
      · replace h1 := Sh.ite_t b15 h1
        refine AW.skip (hK13 _ ?_)
        refine AW.seq fun K16 hK16 => ?_
        refine AW.block ?_
        refine AW.seq fun K17 hK17 => ?_
        refine AW.draw (by kernel_rfl) (by kernel_rfl) (by rfl) ?_
        refine d_q (v := (.agg [(.sl (List.map eRDecl p0.decls)), (.sl (List.map eRProc p0.procs))])) go0 rfl (aq_ldpa ti31 rfl rfl rfl (show 0 + 2 ≤ 2 by decide) rfl) ?_
        refine d_q (v := (.ptr 0 0 0 1)) go0 rfl (aq_fap fi31_1 rfl rfl (show 0 + 1 ≤ 2 by decide) rfl) ?_
        refine d_q (v := (.sl (List.map eRProc p0.procs))) go0 rfl (aq_ldp ti29 rfl rfl rfl rfl) ?_
        refine d_q (v := (i64 i10)) go0 rfl (aq_mv rfl) ?_
        obtain ⟨c18, gc18, h1⟩ := Sh.bind_some h1
        refine d_q (v := (.iptr (eRProc c18) 0)) go0 rfl (aq_ixs ei29 rfl rfl gc18 rfl) ?_
        refine d_q (v := (.agg [(.sl (List.map eI c18.params)), (.sl (List.map eI c18.lent)), (i64 c18.result), (i64 c18.regs), (.sl (List.map eRInstr c18.code))])) go0 rfl (aq_ldia ti47 rfl (show 0 + 5 ≤ 5 by decide) rfl) ?_
        obtain ⟨q19, gq19, h1⟩ := Sh.bind_some h1
        refine d_call (v := (.bool q19)) go0 hb22 (spec_validProc_ok gq19) rfl rfl rfl ?_
        refine d_q (v := (.bool (!q19))) go0 rfl (aq_not rfl) ?_
        refine d_done (hK17 _ ?_)
        refine AW.cond' (b := !q19) rfl (fun b20 => ?_) (fun b20 => ?_)
        · replace h1 := Sh.ite_t b20 h1
          have b21 : q19 = false := by simpa using b20
          refine AW.seq fun K22 hK22 => ?_
          refine AW.regionO (by rfl) ?_
          refine ao_q (v := (.bool false)) go0 rfl (aq_as rfl) ?_
          refine AO.done (hK22 _ ?_)
          replace h1 := Sh.some_eq h1
          subst o11
          try dsimp only [id] at h0
          replace h0 := Sh.some_eq h0
          subst r
          exact AW.ret (Exists.intro _ (And.intro ((Wk.permk (L := [(2, (.bool false))]) (st' := []) (st1 := []) [] rfl .nil (by decide) rfl rfl .nil ⟨.rfl, trivial⟩).trans (Wk.to (L := [(2, (.bool false))]) ⟨.rfl, trivial⟩)) (And.intro rfl rfl)))
        · replace h1 := Sh.ite_f b20 h1
          have b23 : q19 = true := by simpa using b20
          refine AW.skip (hK16 _ ?_)
          refine AW.regionO (by rfl) ?_
          refine ao_q (v := (i64 i10)) go0 rfl (aq_mv rfl) ?_
          refine ao_q (v := (i64 (Sh.w (i10 + 1)))) go0 rfl (aq_add rfl rfl) ?_
          refine ao_q (v := (i64 (Sh.w (i10 + 1)))) go0 rfl (aq_as rfl) ?_
          exact AO.done (Exists.intro (Sh.w (i10 + 1)) (And.intro h1 (Wk.to (L := [(1, (.ptr 0 0 0 0)), (3, (i64 (Sh.w (i10 + 1))))]) ⟨.rfl, .rfl, trivial⟩)))
      · replace h1 := Sh.ite_f b15 h1
        exact AW.exit (M11 () (Sh.some_eq h1).symm _ (by refine Wk.trans (Wk.permk (L := []) (st' := []) (st1 := []) [] rfl .nil (by decide) rfl rfl .nil trivial) ?_; exact Wk.to (L := []) trivial))
  refine AW.regionO (by rfl) ?_
  refine ao_q (v := (.ptr 0 0 0 1)) go0 rfl (aq_fap fi31_1 rfl rfl (show 0 + 1 ≤ 2 by decide) rfl) ?_
  refine ao_q (v := (.sl (List.map eRProc p0.procs))) go0 rfl (aq_ldp ti29 rfl rfl rfl rfl) ?_
  refine ao_q (v := (i64 (Sh.len p0.procs))) go0 rfl (aq_lens sl29 rfl) ?_
  refine ao_q (v := (.bool (decide (4 < (Sh.len p0.procs))))) go0 rfl (aq_gt rfl rfl) ?_
  refine ao_q (v := (.bool (decide (4 < (Sh.len p0.procs))))) go0 rfl (aq_mv rfl) ?_
  rcases Sh.ite_some h1 with ⟨b24, h1⟩ | ⟨b24, h1⟩
  · skip
    refine ao_skip rfl rfl b24 ?_
    refine ao_skip rfl rfl b24 ?_
    refine ao_skip rfl rfl b24 ?_
    refine ao_skip rfl rfl b24 ?_
    refine ao_q (v := (.bool true)) go0 rfl (aq_pkt rfl b24 rfl) ?_
    exact AO.done (M5 true (Sh.some_eq h1).symm _ (Wk.to (L := [(1, (.ptr 0 0 0 0)), (13, (.bool true))]) ⟨.rfl, .rfl, trivial⟩))
  · skip
    refine ao_q (v := (.agg [(.sl (List.map eRDecl p0.decls)), (.sl (List.map eRProc p0.procs))])) (go1 rfl rfl b24) rfl (aq_ldpa ti31 rfl rfl rfl (show 0 + 2 ≤ 2 by decide) rfl) ?_
    obtain ⟨q25, gq25, h1⟩ := Sh.bind_some h1
    refine ao_call (v' := (.agg [(.sl (List.map eRDecl q25.decls)), (.sl (List.map eRFunc q25.funcs))])) (st' := [⟨0, 31, 2, [[(.sl (List.map eRDecl p0.decls)), (.sl (List.map eRProc p0.procs))]]⟩]) (go1 rfl rfl b24) hb21 (spec_sigsOfImage_ok gq25) rfl rfl trivial rfl rfl ?_
    obtain ⟨q26, gq26, h1⟩ := Sh.bind_some h1
    refine ao_call (v' := (.bool q26)) (st' := [⟨0, 31, 2, [[(.sl (List.map eRDecl p0.decls)), (.sl (List.map eRProc p0.procs))]]⟩]) (go1 rfl rfl b24) hb20 (spec_validSigs_ok gq26) rfl rfl trivial rfl rfl ?_
    refine ao_q (v := (.bool (!q26))) (go1 rfl rfl b24) rfl (aq_not rfl) ?_
    refine ao_q (v := (.bool (!q26))) go0 rfl (aq_pkf rfl b24 rfl) ?_
    exact AO.done (M5 (!q26) (Sh.some_eq h1).symm _ (Wk.to (L := [(1, (.ptr 0 0 0 0)), (13, (.bool (!q26)))]) ⟨.rfl, .rfl, trivial⟩))

set_option maxRecDepth 100000 in
set_option maxHeartbeats 4000000 in
theorem spec_ValidImage_ok {N : Nat} {p0 : RImage} {r : Bool} (h0 : spec_ValidImage N p0 = some r) : ACalls Try.prog 5 [(.agg [(.sl (List.map eRDecl p0.decls)), (.sl (List.map eRProc p0.procs))])] [] (fun v st => v = (.bool r) ∧ st = []) := by
  unfold spec_ValidImage at h0
  refine ACalls.intro Try.func5 rfl (by show 1 ≤ 5; decide) ?_
  show AW _ 0 _ (aret _ 0 Try.f5 _) ⟨5, _, _⟩
  refine AW.weaken (Wk.to (L := [(0, (.agg [(.sl (List.map eRDecl p0.decls)), (.sl (List.map eRProc p0.procs))]))]) ⟨.rfl, trivial⟩) ?_
  refine AW.seq fun K1 hK1 => ?_
  refine AW.regionO (by rfl) ?_
  refine ao_box (m := 0) (st' := [⟨0, 31, 2, [[(.sl (List.map eRDecl p0.decls)), (.sl (List.map eRProc p0.procs))]]⟩]) go0 rfl rfl rfl rfl rfl ?_
  refine ao_q (v := (.bool false)) go0 rfl (aq_as rfl) ?_
  refine AO.done (hK1 _ ?_)
  refine AW.seq fun K2 hK2 => ?_
  refine AW.regionO (by rfl) ?_
  refine ao_q (v := (.agg [(.sl (List.map eRDecl p0.decls)), (.sl (List.map eRProc p0.procs))])) go0 rfl (aq_ldpa ti31 rfl rfl rfl (show 0 + 2 ≤ 2 by decide) rfl) ?_
  obtain ⟨q3, gq3, h0⟩ := Sh.bind_some h0
  refine ao_call (v' := (.bool q3)) (st' := [⟨0, 31, 2, [[(.sl (List.map eRDecl p0.decls)), (.sl (List.map eRProc p0.procs))]]⟩]) go0 hb11 (spec_validImage_ok gq3) rfl rfl trivial rfl rfl ?_
  refine ao_q (v := (.bool q3)) go0 rfl (aq_as rfl) ?_
  refine AO.done (hK2 _ ?_)
  replace h0 := Sh.some_eq h0
  subst r
  exact AW.ret (Exists.intro _ (And.intro ((Wk.permk (L := [(2, (.bool q3))]) (st' := []) (st1 := []) [] rfl .nil (by decide) rfl rfl .nil ⟨.rfl, trivial⟩).trans (Wk.to (L := [(2, (.bool q3))]) ⟨.rfl, trivial⟩)) (And.intro rfl rfl)))

set_option maxRecDepth 100000 in
set_option maxHeartbeats 4000000 in
theorem impl_isType_ok {p0 : (List RDecl)} {p1 : Int} {r : Bool} (h0 : impl_isType p0 p1 = some r) : ACalls Try.prog 47 [(.sl (List.map eRDecl p0)), (i64 p1)] [] (fun v st => v = (.bool r) ∧ st = []) := by
  unfold impl_isType at h0
  refine ACalls.intro Try.func47 rfl (by show 2 ≤ 13; decide) ?_
  show AW _ 0 _ (aret _ 0 Try.f47 _) ⟨13, _, _⟩
  refine AW.weaken (Wk.to (L := [(0, (.sl (List.map eRDecl p0))), (1, (i64 p1))]) ⟨.rfl, .rfl, trivial⟩) ?_
  refine AW.seq fun K1 hK1 => ?_
  refine AW.regionO (by rfl) ?_
  refine ao_q (v := (.bool false)) go0 rfl (aq_as rfl) ?_
  refine AO.done (hK1 _ ?_)
  refine AW.seq fun K2 hK2 => ?_
  obtain ⟨o4, h1, h0⟩ := Sh.bind_some h0
  have M4 : ∀ (t3 : Bool), o4 = t3 → ∀ s, Wk 0 s ⟨13, envL [(4, (.bool t3))], []⟩ → K2 s := by
    intro t3 hq s hw
    subst o4
    try dsimp only at h0
    refine hK2 _ (AW.weaken hw ?_)
    replace h0 := Sh.some_eq h0
    subst r
    exact AW.ret (Exists.intro _ (And.intro (Wk.to (L := [(4, (.bool t3))]) ⟨.rfl, trivial⟩) (And.intro rfl rfl)))
  refine AW.regionO (by rfl) ?_
  refine ao_q (v := (i64 p1)) go0 rfl (aq_mv rfl) ?_
  refine ao_q (v := (.bool (decide (0 ≤ p1)))) go0 rfl (aq_ge rfl rfl) ?_
  refine ao_q (v := (.bool (decide (0 ≤ p1)))) go0 rfl (aq_mv rfl) ?_
  rcases Sh.ite_some h1 with ⟨b5, h1⟩ | ⟨b5, h1⟩
  · skip
    refine ao_q (v := (i64 p1)) (go1 rfl rfl b5) rfl (aq_mv rfl) ?_
    refine ao_q (v := (.sl (List.map eRDecl p0))) (go1 rfl rfl b5) rfl (aq_mv rfl) ?_
    refine ao_q (v := (i64 (Sh.len p0))) (go1 rfl rfl b5) rfl (aq_lens sl28 rfl) ?_
    refine ao_q (v := (.bool (decide (p1 ≤ (Sh.len p0))))) (go1 rfl rfl b5) rfl (aq_le rfl rfl) ?_
    refine ao_q (v := (.bool (decide (p1 ≤ (Sh.len p0))))) go0 rfl (aq_pkt rfl b5 rfl) ?_
    refine ao_q (v := (.bool (decide (p1 ≤ (Sh.len p0))))) go0 rfl (aq_as rfl) ?_
    exact AO.done (M4 (decide (p1 ≤ (Sh.len p0))) (Sh.some_eq h1).symm _ (Wk.to (L := [(4, (.bool (decide (p1 ≤ (Sh.len p0)))))]) ⟨.rfl, trivial⟩))
  · skip
    refine ao_skip rfl rfl b5 ?_
    refine ao_skip rfl rfl b5 ?_
    refine ao_skip rfl rfl b5 ?_
    refine ao_skip rfl rfl b5 ?_
    refine ao_q (v := (.bool false)) go0 rfl (aq_pkf rfl b5 rfl) ?_
    refine ao_q (v := (.bool false)) go0 rfl (aq_as rfl) ?_
    exact AO.done (M4 false (Sh.some_eq h1).symm _ (Wk.to (L := [(4, (.bool false))]) ⟨.rfl, trivial⟩))

set_option maxRecDepth 100000 in
set_option maxHeartbeats 4000000 in
theorem impl_allTypes_ok {N : Nat} {p0 : (List RDecl)} {p1 : (List Int)} {r : Bool} (h0 : impl_allTypes N p0 p1 = some r) : ACalls Try.prog 46 [(.sl (List.map eRDecl p0)), (.sl (List.map eI p1))] [] (fun v st => v = (.bool r) ∧ st = []) := by
  unfold impl_allTypes at h0
  refine ACalls.intro Try.func46 rfl (by show 2 ≤ 18; decide) ?_
  show AW _ 0 _ (aret _ 0 Try.f46 _) ⟨18, _, _⟩
  refine AW.weaken (Wk.to (L := [(0, (.sl (List.map eRDecl p0))), (1, (.sl (List.map eI p1)))]) ⟨.rfl, .rfl, trivial⟩) ?_
  refine AW.seq fun K1 hK1 => ?_
  refine AW.regionO (by rfl) ?_
  refine ao_q (v := (.bool false)) go0 rfl (aq_as rfl) ?_
  refine AO.done (hK1 _ ?_)
  refine AW.seq fun K2 hK2 => ?_
  refine AW.seq fun K3 hK3 => ?_
  refine AW.regionO (by rfl) ?_
  refine ao_q (v := (.sl (List.map eI p1))) go0 rfl (aq_mv rfl) ?_
  refine ao_q (v := (i64 (Sh.len p1))) go0 rfl (aq_lens sl44 rfl) ?_
  refine ao_q (v := (i64 0)) go0 rfl (aq_mv rfl) ?_
  refine AO.done (hK3 _ ?_)
  obtain ⟨o5, h1, h0⟩ := Sh.cont_some h0
  have M5 : ∀ (_ : Unit), o5 = Sum.inr () → ∀ s, Wk 0 s ⟨18, envL [], []⟩ → K2 s := by
    intro _ hq s hw
    subst o5
    try dsimp only at h0
    refine hK2 _ (AW.weaken hw ?_)
    refine AW.seq fun K6 hK6 => ?_
    refine AW.regionO (by rfl) ?_
    refine ao_q (v := (.bool true)) go0 rfl (aq_as rfl) ?_
    refine AO.done (hK6 _ ?_)
    replace h0 := Sh.some_eq h0
    subst r
    exact AW.ret (Exists.intro _ (And.intro (Wk.to (L := [(4, (.bool true))]) ⟨.rfl, trivial⟩) (And.intro rfl rfl)))
  refine AW.block (AW.loopF (σ := Int) (fun n v => impl_allTypes_L1 p0 p1 n v = some o5) (fun t4 => ⟨18, envL [(0, (.sl (List.map eRDecl p0))), (7, (.sl (List.map eI p1))), (8, (i64 (Sh.len p1))), (9, (i64 t4))], []⟩) N 0 h1 (Wk.to (L := [(0, (.sl (List.map eRDecl p0))), (7, (.sl (List.map eI p1))), (8, (i64 (Sh.len p1))), (9, (i64 0))]) ⟨.rfl, .rfl, .rfl, .rfl, trivial⟩) (fun _ hv => by rw [impl_allTypes_L1] at hv; cases hv) ?_)
  rintro n t4 h1
  try dsimp only at h1 ⊢
  rw [impl_allTypes_L1] at h1
  refine AW.seq fun K7 hK7 => ?_
  refine AW.regionO (by rfl) ?_
  refine ao_q (v := (.bool (decide (t4 < (Sh.len p1))))) go0 rfl (aq_lt rfl rfl) ?_
  refine AO.done (hK7 _ ?_)
  refine AW.seq fun K8 hK8 => ?_
  refine AW.cond' (b := decide (t4 < (Sh.len p1))) rfl (fun b9 => ?_) (fun b9 => ?_)
  · replace h1 := Sh.ite_t b9 h1
    refine AW.skip (hK8 _ ?_)
    refine AW.seq fun K10 hK10 => ?_
    refine AW.block ?_
    refine AW.seq fun K11 hK11 => ?_
    refine AW.regionO (by rfl) ?_
    obtain ⟨c12, gc12, h1⟩ := Sh.bind_some h1
    refine ao_q (v := (.iptr (eI c12) 0)) go0 rfl (aq_ixs ei44 rfl rfl gc12 rfl) ?_
    refine ao_q (v := (i64 c12)) go0 rfl (aq_ldi ti3 rfl rfl) ?_
    refine ao_q (v := (i64 c12)) go0 rfl (aq_as rfl) ?_
    refine AO.done (hK11 _ ?_)
    refine AW.seq fun K13 hK13 => ?_
    refine AW.regionO (by rfl) ?_
    refine ao_q (v := (.sl (List.map eRDecl p0))) go0 rfl (aq_mv rfl) ?_
    refine ao_q (v := (i64 c12)) go0 rfl (aq_mv rfl) ?_
    obtain ⟨q14, gq14, h1⟩ := Sh.bind_some h1
    refine ao_call (v' := (.bool q14)) (st' := []) go0 hb47 (impl_isType_ok gq14) rfl rfl trivial rfl rfl ?_
    refine ao_q (v := (.bool (!q14))) go0 rfl (aq_not rfl) ?_
    refine AO.done (hK13 _ ?_)
    refine AW.cond' (b := !q14) rfl (fun b15 => ?_) (fun b15 => ?_)
    · replace h1 := Sh.ite_t b15 h1
      have b16 : q14 = false := by simpa using b15
      refine AW.seq fun K17 hK17 => ?_
      refine AW.regionO (by rfl) ?_
      refine ao_q (v := (.bool false)) go0 rfl (aq_as rfl) ?_
      refine AO.done (hK17 _ ?_)
      replace h1 := Sh.some_eq h1
      subst o5
      try dsimp only [id] at h0
      replace h0 := Sh.some_eq h0
      subst r
      exact AW.ret (Exists.intro _ (And.intro (Wk.to (L := [(4, (.bool false))]) ⟨.rfl, trivial⟩) (And.intro rfl rfl)))
    · replace h1 := Sh.ite_f b15 h1
      have b18 : q14 = true := by simpa using b15
      refine AW.skip (hK10 _ ?_)
      refine AW.regionO (by rfl) ?_
      refine ao_q (v := (i64 (Sh.w (t4 + 1)))) go0 rfl (aq_add rfl rfl) ?_
      refine ao_q (v := (i64 (Sh.w (t4 + 1)))) go0 rfl (aq_mv rfl) ?_
      exact AO.done (Exists.intro (Sh.w (t4 + 1)) (And.intro h1 (Wk.to (L := [(0, (.sl (List.map eRDecl p0))), (7, (.sl (List.map eI p1))), (8, (i64 (Sh.len p1))), (9, (i64 (Sh.w (t4 + 1))))]) ⟨.rfl, .rfl, .rfl, .rfl, trivial⟩)))
  · replace h1 := Sh.ite_f b9 h1
    exact AW.exit (M5 () (Sh.some_eq h1).symm _ (Wk.to (L := []) trivial))

set_option maxRecDepth 100000 in
set_option maxHeartbeats 4000000 in
theorem impl_ValidTypes_ok {N : Nat} {p0 : (List RDecl)} {r : Bool} (h0 : impl_ValidTypes N p0 = some r) : ACalls Try.prog 45 [(.sl (List.map eRDecl p0))] [] (fun v st => v = (.bool r) ∧ st = []) := by
  unfold impl_ValidTypes at h0
  refine ACalls.intro Try.func45 rfl (by show 1 ≤ 106; decide) ?_
  show AW _ 0 _ (aret _ 0 Try.f45 _) ⟨106, _, _⟩
  refine AW.weaken (Wk.to (L := [(0, (.sl (List.map eRDecl p0)))]) ⟨.rfl, trivial⟩) ?_
  refine AW.seq fun K1 hK1 => ?_
  refine AW.regionO (by rfl) ?_
  refine ao_q (v := (.bool false)) go0 rfl (aq_as rfl) ?_
  refine AO.done (hK1 _ ?_)
  refine AW.seq fun K2 hK2 => ?_
  refine AW.seq fun K3 hK3 => ?_
  refine AW.regionO (by rfl) ?_
  refine ao_q (v := (.sl (List.map eRDecl p0))) go0 rfl (aq_mv rfl) ?_
  refine ao_q (v := (i64 (Sh.len p0))) go0 rfl (aq_lens sl28 rfl) ?_
  refine ao_q (v := (.bool (decide (4 < (Sh.len p0))))) go0 rfl (aq_gt rfl rfl) ?_
  refine AO.done (hK3 _ ?_)
  refine AW.cond' (b := decide (4 < (Sh.len p0))) rfl (fun b4 => ?_) (fun b4 => ?_)
  · replace h0 := Sh.ite_t b4 h0
    refine AW.seq fun K5 hK5 => ?_
    refine AW.regionO (by rfl) ?_
    refine ao_q (v := (.bool false)) go0 rfl (aq_as rfl) ?_
    refine AO.done (hK5 _ ?_)
    replace h0 := Sh.some_eq h0
    subst r
    exact AW.ret (Exists.intro _ (And.intro (Wk.to (L := [(2, (.bool false))]) ⟨.rfl, trivial⟩) (And.intro rfl rfl)))
  · replace h0 := Sh.ite_f b4 h0
    refine AW.skip (hK2 _ ?_)
    refine AW.seq fun K6 hK6 => ?_
    refine AW.seq fun K7 hK7 => ?_
    refine AW.regionO (by rfl) ?_
    refine ao_q (v := (.sl (List.map eRDecl p0))) go0 rfl (aq_mv rfl) ?_
    refine ao_q (v := (i64 (Sh.len p0))) go0 rfl (aq_lens sl28 rfl) ?_
    refine ao_q (v := (i64 0)) go0 rfl (aq_mv rfl) ?_
    refine AO.done (hK7 _ ?_)
    obtain ⟨o9, h1, h0⟩ := Sh.cont_some h0
    have M9 : ∀ (_ : Unit), o9 = Sum.inr () → ∀ s, Wk 0 s ⟨106, envL [], []⟩ → K6 s := by
      intro _ hq s hw
      subst o9
      try dsimp only at h0
      refine hK6 _ (AW.weaken hw ?_)
      refine AW.seq fun K10 hK10 => ?_
      refine AW.regionO (by rfl) ?_
      refine ao_q (v := (.bool true)) go0 rfl (aq_as rfl) ?_
      refine AO.done (hK10 _ ?_)
      replace h0 := Sh.some_eq h0
      subst r
      exact AW.ret (Exists.intro _ (And.intro (Wk.to (L := [(2, (.bool true))]) ⟨.rfl, trivial⟩) (And.intro rfl rfl)))
    refine AW.block (AW.loopF (σ := Int) (fun n v => impl_ValidTypes_L1 N p0 n v = some o9) (fun t8 => ⟨106, envL [(0, (.sl (List.map eRDecl p0))), (12, (.sl (List.map eRDecl p0))), (13, (i64 (Sh.len p0))), (14, (i64 t8))], []⟩) N 0 h1 (Wk.to (L := [(0, (.sl (List.map eRDecl p0))), (12, (.sl (List.map eRDecl p0))), (13, (i64 (Sh.len p0))), (14, (i64 0))]) ⟨.rfl, .rfl, .rfl, .rfl, trivial⟩) (fun _ hv => by rw [impl_ValidTypes_L1] at hv; cases hv) ?_)
    rintro n t8 h1
    try dsimp only at h1 ⊢
    rw [impl_ValidTypes_L1] at h1
    refine AW.seq fun K11 hK11 => ?_
    refine AW.regionO (by rfl) ?_
    refine ao_q (v := (.bool (decide (t8 < (Sh.len p0))))) go0 rfl (aq_lt rfl rfl) ?_
    refine AO.done (hK11 _ ?_)
    refine AW.seq fun K12 hK12 => ?_
    refine AW.cond' (b := decide (t8 < (Sh.len p0))) rfl (fun b13 => ?_) (fun b13 => ?_)
    · replace h1 := Sh.ite_t b13 h1
      refine AW.skip (hK12 _ ?_)
      refine AW.seq fun K14 hK14 => ?_
      refine AW.block ?_
      refine AW.seq fun K15 hK15 => ?_
      refine AW.regionO (by rfl) ?_
      refine ao_q (v := (i64 t8)) go0 rfl (aq_mv rfl) ?_
      obtain ⟨c16, gc16, h1⟩ := Sh.bind_some h1
      refine ao_q (v := (.iptr (eRDecl c16) 0)) go0 rfl (aq_ixs ei28 rfl rfl gc16 rfl) ?_
      refine ao_q (v := (.agg [(i64 c16.from_), (i64 c16.to), (.sl (List.map eRCon c16.cons))])) go0 rfl (aq_ldia ti69 rfl (show 0 + 3 ≤ 3 by decide) rfl) ?_
      refine ao_alloc (m := 0) (st' := [⟨0, 69, 3, [[(i64 0), (i64 0), .zc]]⟩]) go0 zi69 rfl rfl ?_
      refine ao_q (v := (i64 t8)) go0 rfl (aq_as rfl) ?_
      refine ao_str (st' := [⟨0, 69, 3, [[(i64 c16.from_), (i64 c16.to), (.sl (List.map eRCon c16.cons))]]⟩]) go0 ti69 rfl rfl rfl rfl rfl rfl (show 0 + 3 ≤ 3 by decide) rfl ?_
      refine AO.done (hK15 _ ?_)
      refine AW.seq fun K17 hK17 => ?_
      refine AW.seq fun K18 hK18 => ?_
      obtain ⟨o20, h2, h1⟩ := Sh.bind_some h1
      have M20 : ∀ (t19 : Bool), o20 = t19 → ∀ s, Wk 0 s ⟨106, envL [(0, (.sl (List.map eRDecl p0))), (3, (i64 t8)), (4, (.ptr 0 0 0 0)), (12, (.sl (List.map eRDecl p0))), (13, (i64 (Sh.len p0))), (14, (i64 t8)), (52, (.bool t19))], [⟨0, 69, 3, [[(i64 c16.from_), (i64 c16.to), (.sl (List.map eRCon c16.cons))]]⟩]⟩ → K18 s := by
        intro t19 hq s hw
        subst o20
        try dsimp only at h1
        refine hK18 _ (AW.weaken hw ?_)
        refine AW.cond' (b := t19) rfl (fun b21 => ?_) (fun b21 => ?_)
        · replace h1 := Sh.ite_t b21 h1
          refine AW.seq fun K22 hK22 => ?_
          refine AW.regionO (by rfl) ?_
          refine ao_q (v := (.bool false)) go0 rfl (aq_as rfl) ?_
          refine AO.done (hK22 _ ?_)
          replace h1 := Sh.some_eq h1
          subst o9
          try dsimp only [id] at h0
          replace h0 := Sh.some_eq h0
          subst r
          exact AW.ret (Exists.intro _ (And.intro ((Wk.permk (L := [(2, (.bool false))]) (st' := []) (st1 := []) [] rfl .nil (by decide) rfl rfl .nil ⟨.rfl, trivial⟩).trans (Wk.to (L := [(2, (.bool false))]) ⟨.rfl, trivial⟩)) (And.intro rfl rfl)))
        · replace h1 := Sh.ite_f b21 h1
          refine AW.skip (hK17 _ ?_)
          refine AW.seq fun K23 hK23 => ?_
          refine AW.seq fun K24 hK24 => ?_
          refine AW.regionO (by rfl) ?_
          refine ao_q (v := (.ptr 0 0 0 2)) go0 rfl (aq_fap fi69_2 rfl rfl (show 0 + 2 ≤ 3 by decide) rfl) ?_
          refine ao_q (v := (.sl (List.map eRCon c16.cons))) go0 rfl (aq_ldp ti67 rfl rfl rfl rfl) ?_
          refine ao_q (v := (i64 (Sh.len c16.cons))) go0 rfl (aq_lens sl67 rfl) ?_
          refine ao_q (v := (i64 0)) go0 rfl (aq_mv rfl) ?_
          refine AO.done (hK24 _ ?_)
          obtain ⟨o26, h2, h1⟩ := Sh.cont_some h1
          have M26 : ∀ (_ : Unit), o26 = Sum.inr () → ∀ s, Wk 0 s ⟨106, envL [(0, (.sl (List.map eRDecl p0))), (3, (i64 t8)), (4, (.ptr 0 0 0 0)), (12, (.sl (List.map eRDecl p0))), (13, (i64 (Sh.len p0))), (14, (i64 t8))], [⟨0, 69, 3, [[(i64 c16.from_), (i64 c16.to), (.sl (List.map eRCon c16.cons))]]⟩]⟩ → K23 s := by
            intro _ hq s hw
            subst o26
            try dsimp only at h1
            refine hK23 _ (AW.weaken hw ?_)
            refine AW.seq fun K27 hK27 => ?_
            refine AW.regionO (by rfl) ?_
            refine ao_q (v := (.sl (List.map eRDecl p0))) go0 rfl (aq_mv rfl) ?_
            refine ao_q (v := (i64 t8)) go0 rfl (aq_mv rfl) ?_
            obtain ⟨l28, gl28, h1⟩ := Sh.bind_some h1
            refine ao_sls (i := 0) (j := t8) go0 ei28 rfl rfl rfl (fun _ => rfl) gl28 ?_
            refine ao_q (v := (i64 (Sh.len l28))) go0 rfl (aq_lens sl28 rfl) ?_
            refine ao_q (v := (i64 0)) go0 rfl (aq_mv rfl) ?_
            refine AO.done (hK27 _ ?_)
            obtain ⟨o30, h2, h1⟩ := Sh.cont_some h1
            have M30 : ∀ (_ : Unit), o30 = Sum.inr () → ∀ s, Wk 0 s ⟨106, envL [(0, (.sl (List.map eRDecl p0))), (12, (.sl (List.map eRDecl p0))), (13, (i64 (Sh.len p0))), (14, (i64 t8))], []⟩ → K14 s := by
              intro _ hq s hw
              subst o30
              try dsimp only at h1
              refine hK14 _ (AW.weaken hw ?_)
              refine AW.regionO (by rfl) ?_
              refine ao_q (v := (i64 (Sh.w (t8 + 1)))) go0 rfl (aq_add rfl rfl) ?_
              refine ao_q (v := (i64 (Sh.w (t8 + 1)))) go0 rfl (aq_mv rfl) ?_
              exact AO.done (Exists.intro (Sh.w (t8 + 1)) (And.intro h1 (Wk.to (L := [(0, (.sl (List.map eRDecl p0))), (12, (.sl (List.map eRDecl p0))), (13, (i64 (Sh.len p0))), (14, (i64 (Sh.w (t8 + 1))))]) ⟨.rfl, .rfl, .rfl, .rfl, trivial⟩)))
            refine AW.block (AW.loopF (σ := Int) (fun n v => impl_ValidTypes_L3 c16 l28 n v = some o30) (fun t29 => ⟨106, envL [(0, (.sl (List.map eRDecl p0))), (4, (.ptr 0 0 0 0)), (12, (.sl (List.map eRDecl p0))), (13, (i64 (Sh.len p0))), (14, (i64 t8)), (74, (.sl (List.map eRDecl l28))), (75, (i64 (Sh.len l28))), (76, (i64 t29))], [⟨0, 69, 3, [[(i64 c16.from_), (i64 c16.to), (.sl (List.map eRCon c16.cons))]]⟩]⟩) N 0 h2 (Wk.to (L := [(0, (.sl (List.map eRDecl p0))), (4, (.ptr 0 0 0 0)), (12, (.sl (List.map eRDecl p0))), (13, (i64 (Sh.len p0))), (14, (i64 t8)), (74, (.sl (List.map eRDecl l28))), (75, (i64 (Sh.len l28))), (76, (i64 0))]) ⟨.rfl, .rfl, .rfl, .rfl, .rfl, .rfl, .rfl, .rfl, trivial⟩) (fun _ hv => by rw [impl_ValidTypes_L3] at hv; cases hv) ?_)
            rintro n t29 h2
            try dsimp only at h2 ⊢
            rw [impl_ValidTypes_L3] at h2
            refine AW.seq fun K31 hK31 => ?_
            refine AW.regionO (by rfl) ?_
            refine ao_q (v := (.bool (decide (t29 < (Sh.len l28))))) go0 rfl (aq_lt rfl rfl) ?_
            refine AO.done (hK31 _ ?_)
            refine AW.seq fun K32 hK32 => ?_
            refine AW.cond' (b := decide (t29 < (Sh.len l28))) rfl (fun b33 => ?_) (fun b33 => ?_)
            · replace h2 := Sh.ite_t b33 h2
              refine AW.skip (hK32 _ ?_)
              refine AW.seq fun K34 hK34 => ?_
              refine AW.block ?_
              refine AW.seq fun K35 hK35 => ?_
              refine AW.regionO (by rfl) ?_
              obtain ⟨c36, gc36, h2⟩ := Sh.bind_some h2
              refine ao_q (v := (.iptr (eRDecl c36) 0)) go0 rfl (aq_ixs ei28 rfl rfl gc36 rfl) ?_
              refine ao_q (v := (.agg [(i64 c36.from_), (i64 c36.to), (.sl (List.map eRCon c36.cons))])) go0 rfl (aq_ldia ti69 rfl (show 0 + 3 ≤ 3 by decide) rfl) ?_
              refine ao_alloc (m := 1) (st' := [⟨0, 69, 3, [[(i64 c16.from_), (i64 c16.to), (.sl (List.map eRCon c16.cons))]]⟩, ⟨0, 69, 3, [[(i64 0), (i64 0), .zc]]⟩]) go0 zi69 rfl rfl ?_
              refine ao_str (st' := [⟨0, 69, 3, [[(i64 c16.from_), (i64 c16.to), (.sl (List.map eRCon c16.cons))]]⟩, ⟨0, 69, 3, [[(i64 c36.from_), (i64 c36.to), (.sl (List.map eRCon c36.cons))]]⟩]) go0 ti69 rfl rfl rfl rfl rfl rfl (show 0 + 3 ≤ 3 by decide) rfl ?_
              refine AO.done (hK35 _ ?_)
              refine AW.seq fun K37 hK37 => ?_
              obtain ⟨o39, h3, h2⟩ := Sh.bind_some h2
              have M39 : ∀ (t38 : Bool), o39 = t38 → ∀ s, Wk 0 s ⟨106, envL [(0, (.sl (List.map eRDecl p0))), (4, (.ptr 0 0 0 0)), (12, (.sl (List.map eRDecl p0))), (13, (i64 (Sh.len p0))), (14, (i64 t8)), (74, (.sl (List.map eRDecl l28))), (75, (i64 (Sh.len l28))), (76, (i64 t29)), (103, (.bool t38))], [⟨0, 69, 3, [[(i64 c16.from_), (i64 c16.to), (.sl (List.map eRCon c16.cons))]]⟩]⟩ → K37 s := by
                intro t38 hq s hw
                subst o39
                try dsimp only at h2
                refine hK37 _ (AW.weaken hw ?_)
                refine AW.cond' (b := t38) rfl (fun b40 => ?_) (fun b40 => ?_)
                · replace h2 := Sh.ite_t b40 h2
                  refine AW.seq fun K41 hK41 => ?_
                  refine AW.regionO (by rfl) ?_
                  refine ao_q (v := (.bool false)) go0 rfl (aq_as rfl) ?_
                  refine AO.done (hK41 _ ?_)
                  replace h2 := Sh.some_eq h2
                  subst o30
                  try dsimp only [id] at h1
                  replace h1 := Sh.some_eq h1
                  subst o9
                  try dsimp only [id] at h0
                  replace h0 := Sh.some_eq h0
                  subst r
                  exact AW.ret (Exists.intro _ (And.intro ((Wk.permk (L := [(2, (.bool false))]) (st' := []) (st1 := []) [] rfl .nil (by decide) rfl rfl .nil ⟨.rfl, trivial⟩).trans (Wk.to (L := [(2, (.bool false))]) ⟨.rfl, trivial⟩)) (And.intro rfl rfl)))
                · replace h2 := Sh.ite_f b40 h2
                  refine AW.skip (hK34 _ ?_)
                  refine AW.regionO (by rfl) ?_
                  refine ao_q (v := (i64 (Sh.w (t29 + 1)))) go0 rfl (aq_add rfl rfl) ?_
                  refine ao_q (v := (i64 (Sh.w (t29 + 1)))) go0 rfl (aq_mv rfl) ?_
                  exact AO.done (Exists.intro (Sh.w (t29 + 1)) (And.intro h2 (Wk.to (L := [(0, (.sl (List.map eRDecl p0))), (4, (.ptr 0 0 0 0)), (12, (.sl (List.map eRDecl p0))), (13, (i64 (Sh.len p0))), (14, (i64 t8)), (74, (.sl (List.map eRDecl l28))), (75, (i64 (Sh.len l28))), (76, (i64 (Sh.w (t29 + 1))))]) ⟨.rfl, .rfl, .rfl, .rfl, .rfl, .rfl, .rfl, .rfl, trivial⟩)))
              refine AW.regionO (by rfl) ?_
              refine ao_q (v := (.ptr 0 0 0 2)) go0 rfl (aq_fap fi69_2 rfl rfl (show 0 + 2 ≤ 3 by decide) rfl) ?_
              refine ao_q (v := (.sl (List.map eRCon c16.cons))) go0 rfl (aq_ldp ti67 rfl rfl rfl rfl) ?_
              refine ao_q (v := (i64 (Sh.len c16.cons))) go0 rfl (aq_lens sl67 rfl) ?_
              refine ao_q (v := (.bool (decide ((Sh.len c16.cons) = 0)))) go0 rfl (aq_eq rfl rfl) ?_
              refine ao_q (v := (.bool (decide ((Sh.len c16.cons) = 0)))) go0 rfl (aq_mv rfl) ?_
              rcases Sh.ite_some h3 with ⟨b42, h3⟩ | ⟨b42, h3⟩
              · skip
                refine ao_q (v := (.ptr 1 0 0 2)) (go1 rfl rfl b42) rfl (aq_fap fi69_2 rfl rfl (show 0 + 2 ≤ 3 by decide) rfl) ?_
                refine ao_q (v := (.sl (List.map eRCon c36.cons))) (go1 rfl rfl b42) rfl (aq_ldp ti67 rfl rfl rfl rfl) ?_
                refine ao_q (v := (i64 (Sh.len c36.cons))) (go1 rfl rfl b42) rfl (aq_lens sl67 rfl) ?_
                refine ao_q (v := (.bool (decide ((Sh.len c36.cons) = 0)))) (go1 rfl rfl b42) rfl (aq_eq rfl rfl) ?_
                refine ao_q (v := (.bool (decide ((Sh.len c36.cons) = 0)))) go0 rfl (aq_pkt rfl b42 rfl) ?_
                refine ao_q (v := (.bool (decide ((Sh.len c36.cons) = 0)))) go0 rfl (aq_mv rfl) ?_
                rcases Sh.ite_some h3 with ⟨b43, h3⟩ | ⟨b43, h3⟩
                · skip
                  refine ao_q (v := (.ptr 1 0 0 0)) (go1 rfl rfl b43) rfl (aq_fap fi69_0 rfl rfl (show 0 + 0 ≤ 3 by decide) rfl) ?_
                  refine ao_q (v := (i64 c36.from_)) (go1 rfl rfl b43) rfl (aq_ldp ti3 rfl rfl rfl rfl) ?_
                  refine ao_q (v := (.ptr 0 0 0 0)) (go1 rfl rfl b43) rfl (aq_fap fi69_0 rfl rfl (show 0 + 0 ≤ 3 by decide) rfl) ?_
                  refine ao_q (v := (i64 c16.from_)) (go1 rfl rfl b43) rfl (aq_ldp ti3 rfl rfl rfl rfl) ?_
                  refine ao_q (v := (.bool (decide (c36.from_ = c16.from_)))) (go1 rfl rfl b43) rfl (aq_eq rfl rfl) ?_
                  refine ao_q (v := (.bool (decide (c36.from_ = c16.from_)))) go0 rfl (aq_pkt rfl b43 rfl) ?_
                  refine ao_q (v := (.bool (decide (c36.from_ = c16.from_)))) go0 rfl (aq_mv rfl) ?_
                  rcases Sh.ite_some h3 with ⟨b44, h3⟩ | ⟨b44, h3⟩
                  · skip
                    refine ao_q (v := (.ptr 1 0 0 1)) (go1 rfl rfl b44) rfl (aq_fap fi69_1 rfl rfl (show 0 + 1 ≤ 3 by decide) rfl) ?_
                    refine ao_q (v := (i64 c36.to)) (go1 rfl rfl b44) rfl (aq_ldp ti3 rfl rfl rfl rfl) ?_
                    refine ao_q (v := (.ptr 0 0 0 1)) (go1 rfl rfl b44) rfl (aq_fap fi69_1 rfl rfl (show 0 + 1 ≤ 3 by decide) rfl) ?_
                    refine ao_q (v := (i64 c16.to)) (go1 rfl rfl b44) rfl (aq_ldp ti3 rfl rfl rfl rfl) ?_
                    refine ao_q (v := (.bool (decide (c36.to = c16.to)))) (go1 rfl rfl b44) rfl (aq_eq rfl rfl) ?_
                    refine ao_q (v := (.bool (decide (c36.to = c16.to)))) go0 rfl (aq_pkt rfl b44 rfl) ?_
                    exact AO.done (M39 (decide (c36.to = c16.to)) (Sh.some_eq h3).symm _ (by refine Wk.trans (Wk.permk (L := [(0, (.sl (List.map eRDecl p0))), (4, (.ptr 0 0 0 0)), (12, (.sl (List.map eRDecl p0))), (13, (i64 (Sh.len p0))), (14, (i64 t8)), (74, (.sl (List.map eRDecl l28))), (75, (i64 (Sh.len l28))), (76, (i64 t29)), (103, (.bool (decide (c36.to = c16.to))))]) (st' := [⟨0, 69, 3, [[(i64 c16.from_), (i64 c16.to), (.sl (List.map eRCon c16.cons))]]⟩]) (st1 := [⟨0, 69, 3, [[(i64 c16.from_), (i64 c16.to), (.sl (List.map eRCon c16.cons))]]⟩]) [0] rfl .nil (by decide) rfl rfl (.raw rfl rfl .nil) ⟨.rfl, .rfl, .rfl, .rfl, .rfl, .rfl, .rfl, .rfl, .rfl, trivial⟩) ?_; exact Wk.to (L := [(0, (.sl (List.map eRDecl p0))), (4, (.ptr 0 0 0 0)), (12, (.sl (List.map eRDecl p0))), (13, (i64 (Sh.len p0))), (14, (i64 t8)), (74, (.sl (List.map eRDecl l28))), (75, (i64 (Sh.len l28))), (76, (i64 t29)), (103, (.bool (decide (c36.to = c16.to))))]) ⟨.rfl, .rfl, .rfl, .rfl, .rfl, .rfl, .rfl, .rfl, .rfl, trivial⟩))
                  · skip
                    refine ao_skip rfl rfl b44 ?_
                    refine ao_skip rfl rfl b44 ?_
                    refine ao_skip rfl rfl b44 ?_
                    refine ao_skip rfl rfl b44 ?_
                    refine ao_skip rfl rfl b44 ?_
                    refine ao_q (v := (.bool false)) go0 rfl (aq_pkf rfl b44 rfl) ?_
                    exact AO.done (M39 false (Sh.some_eq h3).symm _ (by refine Wk.trans (Wk.permk (L := [(0, (.sl (List.map eRDecl p0))), (4, (.ptr 0 0 0 0)), (12, (.sl (List.map eRDecl p0))), (13, (i64 (Sh.len p0))), (14, (i64 t8)), (74, (.sl (List.map eRDecl l28))), (75, (i64 (Sh.len l28))), (76, (i64 t29)), (103, (.bool false))]) (st' := [⟨0, 69, 3, [[(i64 c16.from_), (i64 c16.to), (.sl (List.map eRCon c16.cons))]]⟩]) (st1 := [⟨0, 69, 3, [[(i64 c16.from_), (i64 c16.to), (.sl (List.map eRCon c16.cons))]]⟩]) [0] rfl .nil (by decide) rfl rfl (.raw rfl rfl .nil) ⟨.rfl, .rfl, .rfl, .rfl, .rfl, .rfl, .rfl, .rfl, .rfl, trivial⟩) ?_; exact Wk.to (L := [(0, (.sl (List.map eRDecl p0))), (4, (.ptr 0 0 0 0)), (12, (.sl (List.map eRDecl p0))), (13, (i64 (Sh.len p0))), (14, (i64 t8)), (74, (.sl (List.map eRDecl l28))), (75, (i64 (Sh.len l28))), (76, (i64 t29)), (103, (.bool false))]) ⟨.rfl, .rfl, .rfl, .rfl, .rfl, .rfl, .rfl, .rfl, .rfl, trivial⟩))
                · skip
                  refine ao_skip rfl rfl b43 ?_
                  refine ao_skip rfl rfl b43 ?_
                  refine ao_skip rfl rfl b43 ?_
                  refine ao_skip rfl rfl b43 ?_
                  refine ao_skip rfl rfl b43 ?_
                  refine ao_q (v := (.bool false)) go0 rfl (aq_pkf rfl b43 rfl) ?_
                  refine ao_q (v := (.bool false)) go0 rfl (aq_mv rfl) ?_
                  refine ao_skip rfl rfl rfl ?_
                  refine ao_skip rfl rfl rfl ?_
                  refine ao_skip rfl rfl rfl ?_
                  refine ao_skip rfl rfl rfl ?_
                  refine ao_skip rfl rfl rfl ?_
                  refine ao_q (v := (.bool false)) go0 rfl (aq_pkf rfl rfl rfl) ?_
                  exact AO.done (M39 false (Sh.some_eq h3).symm _ (by refine Wk.trans (Wk.permk (L := [(0, (.sl (List.map eRDecl p0))), (4, (.ptr 0 0 0 0)), (12, (.sl (List.map eRDecl p0))), (13, (i64 (Sh.len p0))), (14, (i64 t8)), (74, (.sl (List.map eRDecl l28))), (75, (i64 (Sh.len l28))), (76, (i64 t29)), (103, (.bool false))]) (st' := [⟨0, 69, 3, [[(i64 c16.from_), (i64 c16.to), (.sl (List.map eRCon c16.cons))]]⟩]) (st1 := [⟨0, 69, 3, [[(i64 c16.from_), (i64 c16.to), (.sl (List.map eRCon c16.cons))]]⟩]) [0] rfl .nil (by decide) rfl rfl (.raw rfl rfl .nil) ⟨.rfl, .rfl, .rfl, .rfl, .rfl, .rfl, .rfl, .rfl, .rfl, trivial⟩) ?_; exact Wk.to (L := [(0, (.sl (List.map eRDecl p0))), (4, (.ptr 0 0 0 0)), (12, (.sl (List.map eRDecl p0))), (13, (i64 (Sh.len p0))), (14, (i64 t8)), (74, (.sl (List.map eRDecl l28))), (75, (i64 (Sh.len l28))), (76, (i64 t29)), (103, (.bool false))]) ⟨.rfl, .rfl, .rfl, .rfl, .rfl, .rfl, .rfl, .rfl, .rfl, trivial⟩))
              · skip
                refine ao_skip rfl rfl b42 ?_
                refine ao_skip rfl rfl b42 ?_
                refine ao_skip rfl rfl b42 ?_
                refine ao_skip rfl rfl b42 ?_
                refine ao_q (v := (.bool false)) go0 rfl (aq_pkf rfl b42 rfl) ?_
                refine ao_q (v := (.bool false)) go0 rfl (aq_mv rfl) ?_
                refine ao_skip rfl rfl rfl ?_
                refine ao_skip rfl rfl rfl ?_
                refine ao_skip rfl rfl rfl ?_
                refine ao_skip rfl rfl rfl ?_
                refine ao_skip rfl rfl rfl ?_
                refine ao_q (v := (.bool false)) go0 rfl (aq_pkf rfl rfl rfl) ?_
                refine ao_q (v := (.bool false)) go0 rfl (aq_mv rfl) ?_
                refine ao_skip rfl rfl rfl ?_
                refine ao_skip rfl rfl rfl ?_
                refine ao_skip rfl rfl rfl ?_
                refine ao_skip rfl rfl rfl ?_
                refine ao_skip rfl rfl rfl ?_
                refine ao_q (v := (.bool false)) go0 rfl (aq_pkf rfl rfl rfl) ?_
                exact AO.done (M39 false (Sh.some_eq h3).symm _ (by refine Wk.trans (Wk.permk (L := [(0, (.sl (List.map eRDecl p0))), (4, (.ptr 0 0 0 0)), (12, (.sl (List.map eRDecl p0))), (13, (i64 (Sh.len p0))), (14, (i64 t8)), (74, (.sl (List.map eRDecl l28))), (75, (i64 (Sh.len l28))), (76, (i64 t29)), (103, (.bool false))]) (st' := [⟨0, 69, 3, [[(i64 c16.from_), (i64 c16.to), (.sl (List.map eRCon c16.cons))]]⟩]) (st1 := [⟨0, 69, 3, [[(i64 c16.from_), (i64 c16.to), (.sl (List.map eRCon c16.cons))]]⟩]) [0] rfl .nil (by decide) rfl rfl (.raw rfl rfl .nil) ⟨.rfl, .rfl, .rfl, .rfl, .rfl, .rfl, .rfl, .rfl, .rfl, trivial⟩) ?_; exact Wk.to (L := [(0, (.sl (List.map eRDecl p0))), (4, (.ptr 0 0 0 0)), (12, (.sl (List.map eRDecl p0))), (13, (i64 (Sh.len p0))), (14, (i64 t8)), (74, (.sl (List.map eRDecl l28))), (75, (i64 (Sh.len l28))), (76, (i64 t29)), (103, (.bool false))]) ⟨.rfl, .rfl, .rfl, .rfl, .rfl, .rfl, .rfl, .rfl, .rfl, trivial⟩))
            · replace h2 := Sh.ite_f b33 h2
              exact AW.exit (M30 () (Sh.some_eq h2).symm _ (by refine Wk.trans (Wk.permk (L := [(0, (.sl (List.map eRDecl p0))), (12, (.sl (List.map eRDecl p0))), (13, (i64 (Sh.len p0))), (14, (i64 t8))]) (st' := []) (st1 := []) [] rfl .nil (by decide) rfl rfl .nil ⟨.rfl, .rfl, .rfl, .rfl, trivial⟩) ?_; exact Wk.to (L := [(0, (.sl (List.map eRDecl p0))), (12, (.sl (List.map eRDecl p0))), (13, (i64 (Sh.len p0))), (14, (i64 t8))]) ⟨.rfl, .rfl, .rfl, .rfl, trivial⟩))
          refine AW.block (AW.loopF (σ := Int) (fun n v => impl_ValidTypes_L2 N c16 p0 n v = some o26) (fun t25 => ⟨106, envL [(0, (.sl (List.map eRDecl p0))), (3, (i64 t8)), (4, (.ptr 0 0 0 0)), (12, (.sl (List.map eRDecl p0))), (13, (i64 (Sh.len p0))), (14, (i64 t8)), (54, (.sl (List.map eRCon c16.cons))), (55, (i64 (Sh.len c16.cons))), (56, (i64 t25))], [⟨0, 69, 3, [[(i64 c16.from_), (i64 c16.to), (.sl (List.map eRCon c16.cons))]]⟩]⟩) N 0 h2 (Wk.to (L := [(0, (.sl (List.map eRDecl p0))), (3, (i64 t8)), (4, (.ptr 0 0 0 0)), (12, (.sl (List.map eRDecl p0))), (13, (i64 (Sh.len p0))), (14, (i64 t8)), (54, (.sl (List.map eRCon c16.cons))), (55, (i64 (Sh.len c16.cons))), (56, (i64 0))]) ⟨.rfl, .rfl, .rfl, .rfl, .rfl, .rfl, .rfl, .rfl, .rfl, trivial⟩) (fun _ hv => by rw [impl_ValidTypes_L2] at hv; cases hv) ?_)
          rintro n t25 h2
          try dsimp only at h2 ⊢
          rw [impl_ValidTypes_L2] at h2
          refine AW.seq fun K45 hK45 => ?_
          refine AW.regionO (by rfl) ?_
          refine ao_q (v := (.bool (decide (t25 < (Sh.len c16.cons))))) go0 rfl (aq_lt rfl rfl) ?_
          refine AO.done (hK45 _ ?_)
          refine AW.seq fun K46 hK46 => ?_
          refine AW.cond' (b := decide (t25 < (Sh.len c16.cons))) rfl (fun b47 => ?_) (fun b47 => ?_)
          · replace h2 := Sh.ite_t b47 h2
            refine AW.skip (hK46 _ ?_)
            refine AW.seq fun K48 hK48 => ?_
            refine AW.block ?_
            refine AW.seq fun K49 hK49 => ?_
            refine AW.regionO (by rfl) ?_
            obtain ⟨c50, gc50, h2⟩ := Sh.bind_some h2
            refine ao_q (v := (.iptr (eRCon c50) 0)) go0 rfl (aq_ixs ei67 rfl rfl gc50 rfl) ?_
            refine ao_q (v := (.agg [(.sl (List.map eI c50.fields))])) go0 rfl (aq_ldia ti112 rfl (show 0 + 1 ≤ 1 by decide) rfl) ?_
            refine ao_alloc (m := 1) (st' := [⟨0, 69, 3, [[(i64 c16.from_), (i64 c16.to), (.sl (List.map eRCon c16.cons))]]⟩, ⟨0, 112, 1, [[.zc]]⟩]) go0 zi112 rfl rfl ?_
            refine ao_str (st' := [⟨0, 69, 3, [[(i64 c16.from_), (i64 c16.to), (.sl (List.map eRCon c16.cons))]]⟩, ⟨0, 112, 1, [[(.sl (List.map eI c50.fields))]]⟩]) go0 ti112 rfl rfl rfl rfl rfl rfl (show 0 + 1 ≤ 1 by decide) rfl ?_
            refine AO.done (hK49 _ ?_)
            refine AW.seq fun K51 hK51 => ?_
            obtain ⟨o53, h3, h2⟩ := Sh.bind_some h2
            have M53 : ∀ (t52 : Bool), o53 = t52 → ∀ s, Wk 0 s ⟨106, envL [(0, (.sl (List.map eRDecl p0))), (3, (i64 t8)), (4, (.ptr 0 0 0 0)), (12, (.sl (List.map eRDecl p0))), (13, (i64 (Sh.len p0))), (14, (i64 t8)), (54, (.sl (List.map eRCon c16.cons))), (55, (i64 (Sh.len c16.cons))), (56, (i64 t25)), (70, (.bool t52))], [⟨0, 69, 3, [[(i64 c16.from_), (i64 c16.to), (.sl (List.map eRCon c16.cons))]]⟩]⟩ → K51 s := by
              intro t52 hq s hw
              subst o53
              try dsimp only at h2
              refine hK51 _ (AW.weaken hw ?_)
              refine AW.cond' (b := t52) rfl (fun b54 => ?_) (fun b54 => ?_)
              · replace h2 := Sh.ite_t b54 h2
                refine AW.seq fun K55 hK55 => ?_
                refine AW.regionO (by rfl) ?_
                refine ao_q (v := (.bool false)) go0 rfl (aq_as rfl) ?_
                refine AO.done (hK55 _ ?_)
                replace h2 := Sh.some_eq h2
                subst o26
                try dsimp only [id] at h1
                replace h1 := Sh.some_eq h1
                subst o9
                try dsimp only [id] at h0
                replace h0 := Sh.some_eq h0
                subst r
                exact AW.ret (Exists.intro _ (And.intro ((Wk.permk (L := [(2, (.bool false))]) (st' := []) (st1 := []) [] rfl .nil (by decide) rfl rfl .nil ⟨.rfl, trivial⟩).trans (Wk.to (L := [(2, (.bool false))]) ⟨.rfl, trivial⟩)) (And.intro rfl rfl)))
              · replace h2 := Sh.ite_f b54 h2
                refine AW.skip (hK48 _ ?_)
                refine AW.regionO (by rfl) ?_
                refine ao_q (v := (i64 (Sh.w (t25 + 1)))) go0 rfl (aq_add rfl rfl) ?_
                refine ao_q (v := (i64 (Sh.w (t25 + 1)))) go0 rfl (aq_mv rfl) ?_
                exact AO.done (Exists.intro (Sh.w (t25 + 1)) (And.intro h2 (Wk.to (L := [(0, (.sl (List.map eRDecl p0))), (3, (i64 t8)), (4, (.ptr 0 0 0 0)), (12, (.sl (List.map eRDecl p0))), (13, (i64 (Sh.len p0))), (14, (i64 t8)), (54, (.sl (List.map eRCon c16.cons))), (55, (i64 (Sh.len c16.cons))), (56, (i64 (Sh.w (t25 + 1))))]) ⟨.rfl, .rfl, .rfl, .rfl, .rfl, .rfl, .rfl, .rfl, .rfl, trivial⟩)))
            refine AW.regionO (by rfl) ?_
            refine ao_q (v := (.ptr 1 0 0 0)) go0 rfl (aq_fap fi112_0 rfl rfl (show 0 + 0 ≤ 1 by decide) rfl) ?_
            refine ao_q (v := (.sl (List.map eI c50.fields))) go0 rfl (aq_ldp ti44 rfl rfl rfl rfl) ?_
            refine ao_q (v := (i64 (Sh.len c50.fields))) go0 rfl (aq_lens sl44 rfl) ?_
            refine ao_q (v := (.bool (decide (3 < (Sh.len c50.fields))))) go0 rfl (aq_gt rfl rfl) ?_
            refine ao_q (v := (.bool (decide (3 < (Sh.len c50.fields))))) go0 rfl (aq_mv rfl) ?_
            rcases Sh.ite_some h3 with ⟨b56, h3⟩ | ⟨b56, h3⟩
            · skip
              refine ao_skip rfl rfl b56 ?_
              refine ao_skip rfl rfl b56 ?_
              refine ao_skip rfl rfl b56 ?_
              refine ao_skip rfl rfl b56 ?_
              refine ao_skip rfl rfl b56 ?_
              refine ao_q (v := (.bool true)) go0 rfl (aq_pkt rfl b56 rfl) ?_
              exact AO.done (M53 true (Sh.some_eq h3).symm _ (by refine Wk.trans (Wk.permk (L := [(0, (.sl (List.map eRDecl p0))), (3, (i64 t8)), (4, (.ptr 0 0 0 0)), (12, (.sl (List.map eRDecl p0))), (13, (i64 (Sh.len p0))), (14, (i64 t8)), (54, (.sl (List.map eRCon c16.cons))), (55, (i64 (Sh.len c16.cons))), (56, (i64 t25)), (70, (.bool true))]) (st' := [⟨0, 69, 3, [[(i64 c16.from_), (i64 c16.to), (.sl (List.map eRCon c16.cons))]]⟩]) (st1 := [⟨0, 69, 3, [[(i64 c16.from_), (i64 c16.to), (.sl (List.map eRCon c16.cons))]]⟩]) [0] rfl .nil (by decide) rfl rfl (.raw rfl rfl .nil) ⟨.rfl, .rfl, .rfl, .rfl, .rfl, .rfl, .rfl, .rfl, .rfl, .rfl, trivial⟩) ?_; exact Wk.to (L := [(0, (.sl (List.map eRDecl p0))), (3, (i64 t8)), (4, (.ptr 0 0 0 0)), (12, (.sl (List.map eRDecl p0))), (13, (i64 (Sh.len p0))), (14, (i64 t8)), (54, (.sl (List.map eRCon c16.cons))), (55, (i64 (Sh.len c16.cons))), (56, (i64 t25)), (70, (.bool true))]) ⟨.rfl, .rfl, .rfl, .rfl, .rfl, .rfl, .rfl, .rfl, .rfl, .rfl, trivial⟩))
            · skip
              refine ao_q (v := (.sl (List.map eRDecl p0))) (go1 rfl rfl b56) rfl (aq_mv rfl) ?_
              refine ao_q (v := (.ptr 1 0 0 0)) (go1 rfl rfl b56) rfl (aq_fap fi112_0 rfl rfl (show 0 + 0 ≤ 1 by decide) rfl) ?_
              refine ao_q (v := (.sl (List.map eI c50.fields))) (go1 rfl rfl b56) rfl (aq_ldp ti44 rfl rfl rfl rfl) ?_
              obtain ⟨q57, gq57, h3⟩ := Sh.bind_some h3
              refine ao_call (v' := (.bool q57)) (st' := [⟨0, 69, 3, [[(i64 c16.from_), (i64 c16.to), (.sl (List.map eRCon c16.cons))]]⟩, ⟨0, 112, 1, [[(.sl (List.map eI c50.fields))]]⟩]) (go1 rfl rfl b56) hb46 (impl_allTypes_ok gq57) rfl rfl trivial rfl rfl ?_
              refine ao_q (v := (.bool (!q57))) (go1 rfl rfl b56) rfl (aq_not rfl) ?_
              refine ao_q (v := (.bool (!q57))) go0 rfl (aq_pkf rfl b56 rfl) ?_
              exact AO.done (M53 (!q57) (Sh.some_eq h3).symm _ (by refine Wk.trans (Wk.permk (L := [(0, (.sl (List.map eRDecl p0))), (3, (i64 t8)), (4, (.ptr 0 0 0 0)), (12, (.sl (List.map eRDecl p0))), (13, (i64 (Sh.len p0))), (14, (i64 t8)), (54, (.sl (List.map eRCon c16.cons))), (55, (i64 (Sh.len c16.cons))), (56, (i64 t25)), (70, (.bool (!q57)))]) (st' := [⟨0, 69, 3, [[(i64 c16.from_), (i64 c16.to), (.sl (List.map eRCon c16.cons))]]⟩]) (st1 := [⟨0, 69, 3, [[(i64 c16.from_), (i64 c16.to), (.sl (List.map eRCon c16.cons))]]⟩]) [0] rfl .nil (by decide) rfl rfl (.raw rfl rfl .nil) ⟨.rfl, .rfl, .rfl, .rfl, .rfl, .rfl, .rfl, .rfl, .rfl, .rfl, trivial⟩) ?_; exact Wk.to (L := [(0, (.sl (List.map eRDecl p0))), (3, (i64 t8)), (4, (.ptr 0 0 0 0)), (12, (.sl (List.map eRDecl p0))), (13, (i64 (Sh.len p0))), (14, (i64 t8)), (54, (.sl (List.map eRCon c16.cons))), (55, (i64 (Sh.len c16.cons))), (56, (i64 t25)), (70, (.bool (!q57)))]) ⟨.rfl, .rfl, .rfl, .rfl, .rfl, .rfl, .rfl, .rfl, .rfl, .rfl, trivial⟩))
          · replace h2 := Sh.ite_f b47 h2
            exact AW.exit (M26 () (Sh.some_eq h2).symm _ (Wk.to (L := [(0, (.sl (List.map eRDecl p0))), (3, (i64 t8)), (4, (.ptr 0 0 0 0)), (12, (.sl (List.map eRDecl p0))), (13, (i64 (Sh.len p0))), (14, (i64 t8))]) ⟨.rfl, .rfl, .rfl, .rfl, .rfl, .rfl, trivial⟩))
      refine AW.regionO (by rfl) ?_
      refine ao_q (v := (.sl (List.map eRDecl p0))) go0 rfl (aq_mv rfl) ?_
      refine ao_q (v := (.ptr 0 0 0 0)) go0 rfl (aq_fap fi69_0 rfl rfl (show 0 + 0 ≤ 3 by decide) rfl) ?_
      refine ao_q (v := (i64 c16.from_)) go0 rfl (aq_ldp ti3 rfl rfl rfl rfl) ?_
      obtain ⟨q58, gq58, h2⟩ := Sh.bind_some h2
      refine ao_call (v' := (.bool q58)) (st' := [⟨0, 69, 3, [[(i64 c16.from_), (i64 c16.to), (.sl (List.map eRCon c16.cons))]]⟩]) go0 hb47 (impl_isType_ok gq58) rfl rfl trivial rfl rfl ?_
      refine ao_q (v := (.bool (!q58))) go0 rfl (aq_not rfl) ?_
      refine ao_q (v := (.bool (!q58))) go0 rfl (aq_mv rfl) ?_
      rcases Sh.ite_some h2 with ⟨b59, h2⟩ | ⟨b59, h2⟩
      · skip
        refine ao_skip rfl rfl b59 ?_
        refine ao_skip rfl rfl b59 ?_
        refine ao_skip rfl rfl b59 ?_
        refine ao_skip rfl rfl b59 ?_
        refine ao_skip rfl rfl b59 ?_
        refine ao_q (v := (.bool true)) go0 rfl (aq_pkt rfl b59 rfl) ?_
        refine ao_q (v := (.bool true)) go0 rfl (aq_mv rfl) ?_
        refine ao_skip rfl rfl rfl ?_
        refine ao_skip rfl rfl rfl ?_
        refine ao_skip rfl rfl rfl ?_
        refine ao_skip rfl rfl rfl ?_
        refine ao_q (v := (.bool true)) go0 rfl (aq_pkt rfl rfl rfl) ?_
        refine ao_q (v := (.bool true)) go0 rfl (aq_mv rfl) ?_
        refine ao_skip rfl rfl rfl ?_
        refine ao_skip rfl rfl rfl ?_
        refine ao_skip rfl rfl rfl ?_
        refine ao_skip rfl rfl rfl ?_
        refine ao_skip rfl rfl rfl ?_
        refine ao_none rfl rfl ?_
        refine ao_none rfl rfl ?_
        refine ao_none rfl rfl ?_
        refine ao_none rfl rfl ?_
        refine ao_none rfl rfl ?_
        refine ao_none rfl rfl ?_
        refine ao_none rfl rfl ?_
        refine ao_none rfl rfl ?_
        refine ao_skip rfl rfl rfl ?_
        refine ao_q (v := (.bool true)) go0 rfl (aq_pkt rfl rfl rfl) ?_
        exact AO.done (M20 true (Sh.some_eq h2).symm _ (Wk.to (L := [(0, (.sl (List.map eRDecl p0))), (3, (i64 t8)), (4, (.ptr 0 0 0 0)), (12, (.sl (List.map eRDecl p0))), (13, (i64 (Sh.len p0))), (14, (i64 t8)), (52, (.bool true))]) ⟨.rfl, .rfl, .rfl, .rfl, .rfl, .rfl, .rfl, trivial⟩))
      · skip
        refine ao_q (v := (.sl (List.map eRDecl p0))) (go1 rfl rfl b59) rfl (aq_mv rfl) ?_
        refine ao_q (v := (.ptr 0 0 0 1)) (go1 rfl rfl b59) rfl (aq_fap fi69_1 rfl rfl (show 0 + 1 ≤ 3 by decide) rfl) ?_
        refine ao_q (v := (i64 c16.to)) (go1 rfl rfl b59) rfl (aq_ldp ti3 rfl rfl rfl rfl) ?_
        obtain ⟨q60, gq60, h2⟩ := Sh.bind_some h2
        refine ao_call (v' := (.bool q60)) (st' := [⟨0, 69, 3, [[(i64 c16.from_), (i64 c16.to), (.sl (List.map eRCon c16.cons))]]⟩]) (go1 rfl rfl b59) hb47 (impl_isType_ok gq60) rfl rfl trivial rfl rfl ?_
        refine ao_q (v := (.bool (!q60))) (go1 rfl rfl b59) rfl (aq_not rfl) ?_
        refine ao_q (v := (.bool (!q60))) go0 rfl (aq_pkf rfl b59 rfl) ?_
        refine ao_q (v := (.bool (!q60))) go0 rfl (aq_mv rfl) ?_
        rcases Sh.ite_some h2 with ⟨b61, h2⟩ | ⟨b61, h2⟩
        · skip
          refine ao_skip rfl rfl b61 ?_
          refine ao_skip rfl rfl b61 ?_
          refine ao_skip rfl rfl b61 ?_
          refine ao_skip rfl rfl b61 ?_
          refine ao_q (v := (.bool true)) go0 rfl (aq_pkt rfl b61 rfl) ?_
          refine ao_q (v := (.bool true)) go0 rfl (aq_mv rfl) ?_
          refine ao_skip rfl rfl rfl ?_
          refine ao_skip rfl rfl rfl ?_
          refine ao_skip rfl rfl rfl ?_
          refine ao_skip rfl rfl rfl ?_
          refine ao_skip rfl rfl rfl ?_
          refine ao_none rfl rfl ?_
          refine ao_none rfl rfl ?_
          refine ao_none rfl rfl ?_
          refine ao_none rfl rfl ?_
          refine ao_none rfl rfl ?_
          refine ao_none rfl rfl ?_
          refine ao_none rfl rfl ?_
          refine ao_none rfl rfl ?_
          refine ao_skip rfl rfl rfl ?_
          refine ao_q (v := (.bool true)) go0 rfl (aq_pkt rfl rfl rfl) ?_
          exact AO.done (M20 true (Sh.some_eq h2).symm _ (Wk.to (L := [(0, (.sl (List.map eRDecl p0))), (3, (i64 t8)), (4, (.ptr 0 0 0 0)), (12, (.sl (List.map eRDecl p0))), (13, (i64 (Sh.len p0))), (14, (i64 t8)), (52, (.bool true))]) ⟨.rfl, .rfl, .rfl, .rfl, .rfl, .rfl, .rfl, trivial⟩))
        · skip
          refine ao_q (v := (.ptr 0 0 0 2)) (go1 rfl rfl b61) rfl (aq_fap fi69_2 rfl rfl (show 0 + 2 ≤ 3 by decide) rfl) ?_
          refine ao_q (v := (.sl (List.map eRCon c16.cons))) (go1 rfl rfl b61) rfl (aq_ldp ti67 rfl rfl rfl rfl) ?_
          refine ao_q (v := (i64 (Sh.len c16.cons))) (go1 rfl rfl b61) rfl (aq_lens sl67 rfl) ?_
          refine ao_q (v := (.bool (decide (3 < (Sh.len c16.cons))))) (go1 rfl rfl b61) rfl (aq_gt rfl rfl) ?_
          refine ao_q (v := (.bool (decide (3 < (Sh.len c16.cons))))) go0 rfl (aq_pkf rfl b61 rfl) ?_
          refine ao_q (v := (.bool (decide (3 < (Sh.len c16.cons))))) go0 rfl (aq_mv rfl) ?_
          rcases Sh.ite_some h2 with ⟨b62, h2⟩ | ⟨b62, h2⟩
          · skip
            refine ao_skip rfl rfl b62 ?_
            refine ao_skip rfl rfl b62 ?_
            refine ao_skip rfl rfl b62 ?_
            refine ao_skip rfl rfl b62 ?_
            refine ao_skip rfl rfl b62 ?_
            refine ao_none rfl rfl ?_
            refine ao_none rfl rfl ?_
            refine ao_none rfl rfl ?_
            refine ao_none rfl rfl ?_
            refine ao_none rfl rfl ?_
            refine ao_none rfl rfl ?_
            refine ao_none rfl rfl ?_
            refine ao_none rfl rfl ?_
            refine ao_skip rfl rfl b62 ?_
            refine ao_q (v := (.bool true)) go0 rfl (aq_pkt rfl b62 rfl) ?_
            exact AO.done (M20 true (Sh.some_eq h2).symm _ (Wk.to (L := [(0, (.sl (List.map eRDecl p0))), (3, (i64 t8)), (4, (.ptr 0 0 0 0)), (12, (.sl (List.map eRDecl p0))), (13, (i64 (Sh.len p0))), (14, (i64 t8)), (52, (.bool true))]) ⟨.rfl, .rfl, .rfl, .rfl, .rfl, .rfl, .rfl, trivial⟩))
          · skip
            refine ao_q (v := (.ptr 0 0 0 2)) (go1 rfl rfl b62) rfl (aq_fap fi69_2 rfl rfl (show 0 + 2 ≤ 3 by decide) rfl) ?_
            refine ao_q (v := (.sl (List.map eRCon c16.cons))) (go1 rfl rfl b62) rfl (aq_ldp ti67 rfl rfl rfl rfl) ?_
            refine ao_q (v := (i64 (Sh.len c16.cons))) (go1 rfl rfl b62) rfl (aq_lens sl67 rfl) ?_
            refine ao_q (v := (.bool (decide (0 < (Sh.len c16.cons))))) (go1 rfl rfl b62) rfl (aq_gt rfl rfl) ?_
            refine ao_q (v := (.bool (decide (0 < (Sh.len c16.cons))))) (go1 rfl rfl b62) rfl (aq_mv rfl) ?_
            rcases Sh.ite_some h2 with ⟨b63, h2⟩ | ⟨b63, h2⟩
            · skip
              refine ao_q (v := (.ptr 0 0 0 0)) (go1 rfl rfl b63) rfl (aq_fap fi69_0 rfl rfl (show 0 + 0 ≤ 3 by decide) rfl) ?_
              refine ao_q (v := (i64 c16.from_)) (go1 rfl rfl b63) rfl (aq_ldp ti3 rfl rfl rfl rfl) ?_
              refine ao_q (v := (.bool (!decide (c16.from_ = 0)))) (go1 rfl rfl b63) rfl (aq_ne rfl rfl) ?_
              refine ao_q (v := (.bool (!decide (c16.from_ = 0)))) (go1 rfl rfl b63) rfl (aq_mv rfl) ?_
              rcases Sh.ite_some h2 with ⟨b64, h2⟩ | ⟨b64, h2⟩
              · skip
                refine ao_skip rfl rfl b64 ?_
                refine ao_skip rfl rfl b64 ?_
                refine ao_skip rfl rfl b64 ?_
                refine ao_q (v := (.bool true)) (go1 rfl rfl b63) rfl (aq_pkt rfl b64 rfl) ?_
                refine ao_q (v := (.bool true)) (go1 rfl rfl b62) rfl (aq_pkt rfl b63 rfl) ?_
                refine ao_q (v := (.bool true)) go0 rfl (aq_pkf rfl b62 rfl) ?_
                exact AO.done (M20 true (Sh.some_eq h2).symm _ (Wk.to (L := [(0, (.sl (List.map eRDecl p0))), (3, (i64 t8)), (4, (.ptr 0 0 0 0)), (12, (.sl (List.map eRDecl p0))), (13, (i64 (Sh.len p0))), (14, (i64 t8)), (52, (.bool true))]) ⟨.rfl, .rfl, .rfl, .rfl, .rfl, .rfl, .rfl, trivial⟩))
              · skip
                refine ao_q (v := (.ptr 0 0 0 1)) (go1 rfl rfl b64) rfl (aq_fap fi69_1 rfl rfl (show 0 + 1 ≤ 3 by decide) rfl) ?_
                refine ao_q (v := (i64 c16.to)) (go1 rfl rfl b64) rfl (aq_ldp ti3 rfl rfl rfl rfl) ?_
                refine ao_q (v := (.bool (!decide (c16.to = 0)))) (go1 rfl rfl b64) rfl (aq_ne rfl rfl) ?_
                refine ao_q (v := (.bool (!decide (c16.to = 0)))) (go1 rfl rfl b63) rfl (aq_pkf rfl b64 rfl) ?_
                refine ao_q (v := (.bool (!decide (c16.to = 0)))) (go1 rfl rfl b62) rfl (aq_pkt rfl b63 rfl) ?_
                refine ao_q (v := (.bool (!decide (c16.to = 0)))) go0 rfl (aq_pkf rfl b62 rfl) ?_
                exact AO.done (M20 (!decide (c16.to = 0)) (Sh.some_eq h2).symm _ (Wk.to (L := [(0, (.sl (List.map eRDecl p0))), (3, (i64 t8)), (4, (.ptr 0 0 0 0)), (12, (.sl (List.map eRDecl p0))), (13, (i64 (Sh.len p0))), (14, (i64 t8)), (52, (.bool (!decide (c16.to = 0))))]) ⟨.rfl, .rfl, .rfl, .rfl, .rfl, .rfl, .rfl, trivial⟩))
            · skip
              refine ao_skip rfl rfl b63 ?_
              refine ao_skip rfl rfl b63 ?_
              refine ao_skip rfl rfl b63 ?_
              refine ao_skip rfl rfl b63 ?_
              refine ao_none rfl rfl ?_
              refine ao_none rfl rfl ?_
              refine ao_none rfl rfl ?_
              refine ao_skip rfl rfl b63 ?_
              refine ao_q (v := (.bool false)) (go1 rfl rfl b62) rfl (aq_pkf rfl b63 rfl) ?_
              refine ao_q (v := (.bool false)) go0 rfl (aq_pkf rfl b62 rfl) ?_
              exact AO.done (M20 false (Sh.some_eq h2).symm _ (Wk.to (L := [(0, (.sl (List.map eRDecl p0))), (3, (i64 t8)), (4, (.ptr 0 0 0 0)), (12, (.sl (List.map eRDecl p0))), (13, (i64 (Sh.len p0))), (14, (i64 t8)), (52, (.bool false))]) ⟨.rfl, .rfl, .rfl, .rfl, .rfl, .rfl, .rfl, trivial⟩))
    · replace h1 := Sh.ite_f b13 h1
      exact AW.exit (M9 () (Sh.some_eq h1).symm _ (Wk.to (L := []) trivial))

end Go.Proofs.Ytbdefffffmejhaa
