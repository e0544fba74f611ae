import Derived.Test.YtbdefffffmejhaaProg
import Derived.Test.YtbdefffffmejhaaIADefs
import Derived.Test.YtbdefffffmejhaaIXWalkP2
namespace Go.Proofs.Ytbdefffffmejhaa
open Go Go.Abs RC

theorem bo4 : isBoolT Try.prog 4 = true := by kernel_rfl
theorem hb14 : hasBody Try.prog 14 = true := by kernel_rfl
theorem hb15 : hasBody Try.prog 15 = true := by kernel_rfl
theorem hb16 : hasBody Try.prog 16 = true := by kernel_rfl
theorem hb17 : hasBody Try.prog 17 = true := by kernel_rfl
theorem hb26 : hasBody Try.prog 26 = true := by kernel_rfl
theorem hb28 : hasBody Try.prog 28 = true := by kernel_rfl
theorem hb30 : hasBody Try.prog 30 = true := by kernel_rfl
theorem hb31 : hasBody Try.prog 31 = true := by kernel_rfl
theorem hb32 : hasBody Try.prog 32 = true := by kernel_rfl
theorem hb33 : hasBody Try.prog 33 = true := by kernel_rfl
theorem hb4 : hasBody Try.prog 4 = true := by kernel_rfl
theorem hb5 : hasBody Try.prog 5 = true := by kernel_rfl
theorem hb52 : hasBody Try.prog 52 = true := by kernel_rfl
theorem hb53 : hasBody Try.prog 53 = true := by kernel_rfl
theorem hb54 : hasBody Try.prog 54 = true := by kernel_rfl
theorem hb6 : hasBody Try.prog 6 = true := by kernel_rfl
theorem hb67 : hasBody Try.prog 67 = true := by kernel_rfl
theorem hb68 : hasBody Try.prog 68 = true := by kernel_rfl
theorem hb7 : hasBody Try.prog 7 = true := by kernel_rfl
theorem hb8 : hasBody Try.prog 8 = true := by kernel_rfl
theorem ti25 : tinfo Try.prog 25 = some (true, 2) := by kernel_rfl
theorem zi75 : zinfo Try.prog 75 = some [.nilf] := by kernel_rfl

set_option maxRecDepth 100000 in
set_option maxHeartbeats 4000000 in
theorem impl_signatures_instrValid_ok {N : Nat} {p0 : RSignatures} {p1 : RProc} {p2 : Int} {p3 : RInstr} {r : Bool} (h0 : impl_signatures_instrValid N p0 p1 p2 p3 = some r) : ACalls Try.prog 15 [(.agg [(.sl (List.map eRDecl p0.decls)), (.sl (List.map eRSignature p0.funcs))]), (.agg [(.sl (List.map eI p1.params)), (.sl (List.map eI p1.lent)), (i64 p1.result), (i64 p1.regs), (.sl (List.map eRInstr p1.code))]), (i64 p2), (.agg [(i64 p3.op), (i64 p3.dst), (i64 p3.num), (i64 p3.into), (.sl (List.map eI p3.args)), (.sl (List.map eI p3.jumps))])] [] (fun v st => v = (.bool r) ∧ st = []) := by
  unfold impl_signatures_instrValid at h0
  refine ACalls.intro Try.func15 rfl (by show 4 ≤ 140; decide) ?_
  show AW _ 0 _ (aret _ 0 Try.f15 _) ⟨140, _, _⟩
  refine AW.weaken (Wk.to (L := [(0, (.agg [(.sl (List.map eRDecl p0.decls)), (.sl (List.map eRSignature p0.funcs))])), (1, (.agg [(.sl (List.map eI p1.params)), (.sl (List.map eI p1.lent)), (i64 p1.result), (i64 p1.regs), (.sl (List.map eRInstr p1.code))])), (2, (i64 p2)), (3, (.agg [(i64 p3.op), (i64 p3.dst), (i64 p3.num), (i64 p3.into), (.sl (List.map eI p3.args)), (.sl (List.map eI p3.jumps))]))]) ⟨.rfl, .rfl, .rfl, .rfl, trivial⟩) ?_
  refine AW.seq fun K1 hK1 => ?_
  refine AW.regionO (by rfl) ?_
  refine ao_box (m := 0) (st' := [⟨0, 41, 2, [[(.sl (List.map eRDecl p0.decls)), (.sl (List.map eRSignature p0.funcs))]]⟩]) go0 rfl rfl rfl rfl rfl ?_
  refine ao_box (m := 1) (st' := [⟨0, 41, 2, [[(.sl (List.map eRDecl p0.decls)), (.sl (List.map eRSignature p0.funcs))]]⟩, ⟨0, 47, 5, [[(.sl (List.map eI p1.params)), (.sl (List.map eI p1.lent)), (i64 p1.result), (i64 p1.regs), (.sl (List.map eRInstr p1.code))]]⟩]) go0 rfl rfl rfl rfl rfl ?_
  refine ao_box (m := 2) (st' := [⟨0, 41, 2, [[(.sl (List.map eRDecl p0.decls)), (.sl (List.map eRSignature p0.funcs))]]⟩, ⟨0, 47, 5, [[(.sl (List.map eI p1.params)), (.sl (List.map eI p1.lent)), (i64 p1.result), (i64 p1.regs), (.sl (List.map eRInstr p1.code))]]⟩, ⟨0, 3, 1, [[(i64 p2)]]⟩]) go0 rfl rfl rfl rfl rfl ?_
  refine ao_box (m := 3) (st' := [⟨0, 41, 2, [[(.sl (List.map eRDecl p0.decls)), (.sl (List.map eRSignature p0.funcs))]]⟩, ⟨0, 47, 5, [[(.sl (List.map eI p1.params)), (.sl (List.map eI p1.lent)), (i64 p1.result), (i64 p1.regs), (.sl (List.map eRInstr p1.code))]]⟩, ⟨0, 3, 1, [[(i64 p2)]]⟩, ⟨0, 49, 6, [[(i64 p3.op), (i64 p3.dst), (i64 p3.num), (i64 p3.into), (.sl (List.map eI p3.args)), (.sl (List.map eI p3.jumps))]]⟩]) go0 rfl rfl rfl rfl rfl ?_
  refine ao_q (v := (.bool false)) go0 rfl (aq_as rfl) ?_
  refine AO.done (hK1 _ ?_)
  refine AW.seq fun K2 hK2 => ?_
  refine AW.seq fun K3 hK3 => ?_
  obtain ⟨o5, h1, h0⟩ := Sh.bind_some h0
  have M5 : ∀ (t4 : Bool), o5 = t4 → ∀ s, Wk 0 s ⟨140, envL [(4, (.ptr 0 0 0 0)), (5, (.ptr 1 0 0 0)), (6, (.ptr 2 0 0 0)), (7, (.ptr 3 0 0 0)), (41, (.bool t4))], [⟨0, 41, 2, [[(.sl (List.map eRDecl p0.decls)), (.sl (List.map eRSignature p0.funcs))]]⟩, ⟨0, 47, 5, [[(.sl (List.map eI p1.params)), (.sl (List.map eI p1.lent)), (i64 p1.result), (i64 p1.regs), (.sl (List.map eRInstr p1.code))]]⟩, ⟨0, 3, 1, [[(i64 p2)]]⟩, ⟨0, 49, 6, [[(i64 p3.op), (i64 p3.dst), (i64 p3.num), (i64 p3.into), (.sl (List.map eI p3.args)), (.sl (List.map eI p3.jumps))]]⟩]⟩ → K3 s := by
    intro t4 hq s hw
    subst o5
    try dsimp only at h0
    refine hK3 _ (AW.weaken hw ?_)
    refine AW.cond' (b := t4) rfl (fun b6 => ?_) (fun b6 => ?_)
    · replace h0 := Sh.ite_t b6 h0
      refine AW.seq fun K7 hK7 => ?_
      refine AW.regionO (by rfl) ?_
      refine ao_q (v := (.bool false)) go0 rfl (aq_as rfl) ?_
      refine AO.done (hK7 _ ?_)
      replace h0 := Sh.some_eq h0
      subst r
      exact AW.ret (Exists.intro _ (And.intro ((Wk.permk (L := [(8, (.bool false))]) (st' := []) (st1 := []) [] rfl .nil (by decide) rfl rfl .nil ⟨.rfl, trivial⟩).trans (Wk.to (L := [(8, (.bool false))]) ⟨.rfl, trivial⟩)) (And.intro rfl rfl)))
    · replace h0 := Sh.ite_f b6 h0
      refine AW.skip (hK2 _ ?_)
      refine AW.seq fun K8 hK8 => ?_
      refine AW.seq fun K9 hK9 => ?_
      obtain ⟨o11, h1, h0⟩ := Sh.bind_some h0
      have M11 : ∀ (t10 : Bool), o11 = t10 → ∀ s, Wk 0 s ⟨140, envL [(4, (.ptr 0 0 0 0)), (5, (.ptr 1 0 0 0)), (6, (.ptr 2 0 0 0)), (7, (.ptr 3 0 0 0)), (84, (.bool t10))], [⟨0, 41, 2, [[(.sl (List.map eRDecl p0.decls)), (.sl (List.map eRSignature p0.funcs))]]⟩, ⟨0, 47, 5, [[(.sl (List.map eI p1.params)), (.sl (List.map eI p1.lent)), (i64 p1.result), (i64 p1.regs), (.sl (List.map eRInstr p1.code))]]⟩, ⟨0, 3, 1, [[(i64 p2)]]⟩, ⟨0, 49, 6, [[(i64 p3.op), (i64 p3.dst), (i64 p3.num), (i64 p3.into), (.sl (List.map eI p3.args)), (.sl (List.map eI p3.jumps))]]⟩]⟩ → K9 s := by
        intro t10 hq s hw
        subst o11
        try dsimp only at h0
        refine hK9 _ (AW.weaken hw ?_)
        refine AW.cond' (b := t10) rfl (fun b12 => ?_) (fun b12 => ?_)
        · replace h0 := Sh.ite_t b12 h0
          refine AW.seq fun K13 hK13 => ?_
          refine AW.regionO (by rfl) ?_
          refine ao_q (v := (.bool false)) go0 rfl (aq_as rfl) ?_
          refine AO.done (hK13 _ ?_)
          replace h0 := Sh.some_eq h0
          subst r
          exact AW.ret (Exists.intro _ (And.intro ((Wk.permk (L := [(8, (.bool false))]) (st' := []) (st1 := []) [] rfl .nil (by decide) rfl rfl .nil ⟨.rfl, trivial⟩).trans (Wk.to (L := [(8, (.bool false))]) ⟨.rfl, trivial⟩)) (And.intro rfl rfl)))
        · replace h0 := Sh.ite_f b12 h0
          refine AW.skip (hK8 _ ?_)
          refine AW.seq fun K14 hK14 => ?_
          refine AW.seq fun K15 hK15 => ?_
          refine AW.regionO (by rfl) ?_
          refine ao_q (v := (.ptr 3 0 0 4)) go0 rfl (aq_fap fi49_4 rfl rfl (show 0 + 4 ≤ 6 by decide) rfl) ?_
          refine ao_q (v := (.sl (List.map eI p3.args))) go0 rfl (aq_ldp ti44 rfl rfl rfl rfl) ?_
          refine ao_q (v := (i64 (Sh.len p3.args))) go0 rfl (aq_lens sl44 rfl) ?_
          refine ao_q (v := (i64 0)) go0 rfl (aq_mv rfl) ?_
          refine AO.done (hK15 _ ?_)
          obtain ⟨o17, h1, h0⟩ := Sh.cont_some h0
          have M17 : ∀ (_ : Unit), o17 = Sum.inr () → ∀ s, Wk 0 s ⟨140, envL [(4, (.ptr 0 0 0 0)), (5, (.ptr 1 0 0 0)), (6, (.ptr 2 0 0 0)), (7, (.ptr 3 0 0 0))], [⟨0, 41, 2, [[(.sl (List.map eRDecl p0.decls)), (.sl (List.map eRSignature p0.funcs))]]⟩, ⟨0, 47, 5, [[(.sl (List.map eI p1.params)), (.sl (List.map eI p1.lent)), (i64 p1.result), (i64 p1.regs), (.sl (List.map eRInstr p1.code))]]⟩, ⟨0, 3, 1, [[(i64 p2)]]⟩, ⟨0, 49, 6, [[(i64 p3.op), (i64 p3.dst), (i64 p3.num), (i64 p3.into), (.sl (List.map eI p3.args)), (.sl (List.map eI p3.jumps))]]⟩]⟩ → K14 s := by
            intro _ hq s hw
            subst o17
            try dsimp only at h0
            refine hK14 _ (AW.weaken hw ?_)
            refine AW.seq fun K18 hK18 => ?_
            refine AW.regionO (by rfl) ?_
            refine ao_q (v := (.fn 27 [(.ptr 2 0 0 0), (.ptr 1 0 0 0)])) go0 rfl (aq_fn rfl) ?_
            refine ao_alloc (m := 4) (st' := [⟨0, 41, 2, [[(.sl (List.map eRDecl p0.decls)), (.sl (List.map eRSignature p0.funcs))]]⟩, ⟨0, 47, 5, [[(.sl (List.map eI p1.params)), (.sl (List.map eI p1.lent)), (i64 p1.result), (i64 p1.regs), (.sl (List.map eRInstr p1.code))]]⟩, ⟨0, 3, 1, [[(i64 p2)]]⟩, ⟨0, 49, 6, [[(i64 p3.op), (i64 p3.dst), (i64 p3.num), (i64 p3.into), (.sl (List.map eI p3.args)), (.sl (List.map eI p3.jumps))]]⟩, ⟨0, 75, 1, [[.nilf]]⟩]) go0 zi75 rfl rfl ?_
            refine ao_str (st' := [⟨0, 41, 2, [[(.sl (List.map eRDecl p0.decls)), (.sl (List.map eRSignature p0.funcs))]]⟩, ⟨0, 47, 5, [[(.sl (List.map eI p1.params)), (.sl (List.map eI p1.lent)), (i64 p1.result), (i64 p1.regs), (.sl (List.map eRInstr p1.code))]]⟩, ⟨0, 3, 1, [[(i64 p2)]]⟩, ⟨0, 49, 6, [[(i64 p3.op), (i64 p3.dst), (i64 p3.num), (i64 p3.into), (.sl (List.map eI p3.args)), (.sl (List.map eI p3.jumps))]]⟩, ⟨0, 75, 1, [[(.fn 27 [(.ptr 2 0 0 0), (.ptr 1 0 0 0)])]]⟩]) go0 ti75 rfl rfl rfl rfl rfl rfl (show 0 + 1 ≤ 1 by decide) rfl ?_
            refine AO.done (hK18 _ ?_)
            refine AW.seq fun K19 hK19 => ?_
            refine AW.seq fun K20 hK20 => ?_
            obtain ⟨o22, h1, h0⟩ := Sh.bind_some h0
            have M22 : ∀ (t21 : Bool), o22 = t21 → ∀ s, Wk 0 s ⟨140, envL [(4, (.ptr 0 0 0 0)), (7, (.ptr 3 0 0 0)), (11, (.ptr 4 0 0 0)), (116, (.bool t21))], [⟨0, 41, 2, [[(.sl (List.map eRDecl p0.decls)), (.sl (List.map eRSignature p0.funcs))]]⟩, ⟨0, 47, 5, [[(.sl (List.map eI p1.params)), (.sl (List.map eI p1.lent)), (i64 p1.result), (i64 p1.regs), (.sl (List.map eRInstr p1.code))]]⟩, ⟨0, 3, 1, [[(i64 p2)]]⟩, ⟨0, 49, 6, [[(i64 p3.op), (i64 p3.dst), (i64 p3.num), (i64 p3.into), (.sl (List.map eI p3.args)), (.sl (List.map eI p3.jumps))]]⟩, ⟨0, 75, 1, [[(.fn 27 [(.ptr 2 0 0 0), (.ptr 1 0 0 0)])]]⟩]⟩ → K20 s := by
              intro t21 hq s hw
              subst o22
              try dsimp only at h0
              refine hK20 _ (AW.weaken hw ?_)
              refine AW.cond' (b := t21) rfl (fun b23 => ?_) (fun b23 => ?_)
              · replace h0 := Sh.ite_t b23 h0
                refine AW.seq fun K24 hK24 => ?_
                refine AW.regionO (by rfl) ?_
                refine ao_q (v := (.bool false)) go0 rfl (aq_as rfl) ?_
                refine AO.done (hK24 _ ?_)
                replace h0 := Sh.some_eq h0
                subst r
                exact AW.ret (Exists.intro _ (And.intro ((Wk.permk (L := [(8, (.bool false))]) (st' := []) (st1 := []) [] rfl .nil (by decide) rfl rfl .nil ⟨.rfl, trivial⟩).trans (Wk.to (L := [(8, (.bool false))]) ⟨.rfl, trivial⟩)) (And.intro rfl rfl)))
              · replace h0 := Sh.ite_f b23 h0
                refine AW.skip (hK19 _ ?_)
                refine AW.seq fun K25 hK25 => ?_
                refine AW.seq fun K26 hK26 => ?_
                refine AW.regionO (by rfl) ?_
                refine ao_q (v := (.agg [(.sl (List.map eRDecl p0.decls)), (.sl (List.map eRSignature p0.funcs))])) go0 rfl (aq_ldpa ti41 rfl rfl rfl (show 0 + 2 ≤ 2 by decide) rfl) ?_
                refine ao_q (v := (.agg [(i64 p3.op), (i64 p3.dst), (i64 p3.num), (i64 p3.into), (.sl (List.map eI p3.args)), (.sl (List.map eI p3.jumps))])) go0 rfl (aq_ldpa ti49 rfl rfl rfl (show 0 + 6 ≤ 6 by decide) rfl) ?_
                refine ao_q (v := (.fn 27 [(.ptr 2 0 0 0), (.ptr 1 0 0 0)])) go0 rfl (aq_ldp ti75 rfl rfl rfl rfl) ?_
                obtain ⟨q27, gq27, h0⟩ := Sh.bind_some h0
                refine ao_calls (rowsP := [⟨0, 3, 1, [[(i64 p2)]]⟩, ⟨0, 47, 5, [[(.sl (List.map eI p1.params)), (.sl (List.map eI p1.lent)), (i64 p1.result), (i64 p1.regs), (.sl (List.map eRInstr p1.code))]]⟩]) (rows0 := [⟨0, 3, 1, [[(i64 p2)]]⟩, ⟨0, 47, 5, [[(.sl (List.map eI p1.params)), (.sl (List.map eI p1.lent)), (i64 p1.result), (i64 p1.regs), (.sl (List.map eRInstr p1.code))]]⟩]) (rows1 := [⟨0, 3, 1, [[(i64 p2)]]⟩, ⟨0, 47, 5, [[(.sl (List.map eI p1.params)), (.sl (List.map eI p1.lent)), (i64 p1.result), (i64 p1.regs), (.sl (List.map eRInstr p1.code))]]⟩]) (rows2 := []) (rows1' := [⟨0, 3, 1, [[(i64 p2)]]⟩, ⟨0, 47, 5, [[(.sl (List.map eI p1.params)), (.sl (List.map eI p1.lent)), (i64 p1.result), (i64 p1.regs), (.sl (List.map eRInstr p1.code))]]⟩]) (rows2' := []) (st' := [⟨0, 41, 2, [[(.sl (List.map eRDecl p0.decls)), (.sl (List.map eRSignature p0.funcs))]]⟩, ⟨0, 47, 5, [[(.sl (List.map eI p1.params)), (.sl (List.map eI p1.lent)), (i64 p1.result), (i64 p1.regs), (.sl (List.map eRInstr p1.code))]]⟩, ⟨0, 3, 1, [[(i64 p2)]]⟩, ⟨0, 49, 6, [[(i64 p3.op), (i64 p3.dst), (i64 p3.num), (i64 p3.into), (.sl (List.map eI p3.args)), (.sl (List.map eI p3.jumps))]]⟩, ⟨0, 75, 1, [[(.fn 27 [(.ptr 2 0 0 0), (.ptr 1 0 0 0)])]]⟩]) (v' := (.bool q27)) [2, 1] go0 hb30 (impl_signatures_numValid_ok gq27) rfl (by decide) rfl rfl (.raw rfl rfl (.raw rfl rfl .nil)) rfl rfl (.raw rfl rfl (.raw rfl rfl .nil)) .nil rfl rfl ?_
                refine ao_q (v := (.bool (!q27))) go0 rfl (aq_not rfl) ?_
                refine AO.done (hK26 _ ?_)
                refine AW.cond' (b := !q27) rfl (fun b28 => ?_) (fun b28 => ?_)
                · replace h0 := Sh.ite_t b28 h0
                  have b29 : q27 = false := by simpa using b28
                  refine AW.seq fun K30 hK30 => ?_
                  refine AW.regionO (by rfl) ?_
                  refine ao_q (v := (.bool false)) go0 rfl (aq_as rfl) ?_
                  refine AO.done (hK30 _ ?_)
                  replace h0 := Sh.some_eq h0
                  subst r
                  exact AW.ret (Exists.intro _ (And.intro ((Wk.permk (L := [(8, (.bool false))]) (st' := []) (st1 := []) [] rfl .nil (by decide) rfl rfl .nil ⟨.rfl, trivial⟩).trans (Wk.to (L := [(8, (.bool false))]) ⟨.rfl, trivial⟩)) (And.intro rfl rfl)))
                · replace h0 := Sh.ite_f b28 h0
                  have b31 : q27 = true := by simpa using b28
                  refine AW.skip (hK25 _ ?_)
                  refine AW.seq fun K32 hK32 => ?_
                  refine AW.regionO (by rfl) ?_
                  refine ao_q (v := (.agg [(.sl (List.map eRDecl p0.decls)), (.sl (List.map eRSignature p0.funcs))])) go0 rfl (aq_ldpa ti41 rfl rfl rfl (show 0 + 2 ≤ 2 by decide) rfl) ?_
                  refine ao_q (v := (.agg [(i64 p3.op), (i64 p3.dst), (i64 p3.num), (i64 p3.into), (.sl (List.map eI p3.args)), (.sl (List.map eI p3.jumps))])) go0 rfl (aq_ldpa ti49 rfl rfl rfl (show 0 + 6 ≤ 6 by decide) rfl) ?_
                  obtain ⟨q33, gq33, h0⟩ := Sh.bind_some h0
                  refine ao_call (v' := (.tup [(i64 q33.1), (i64 q33.2)])) (st' := [⟨0, 41, 2, [[(.sl (List.map eRDecl p0.decls)), (.sl (List.map eRSignature p0.funcs))]]⟩, ⟨0, 47, 5, [[(.sl (List.map eI p1.params)), (.sl (List.map eI p1.lent)), (i64 p1.result), (i64 p1.regs), (.sl (List.map eRInstr p1.code))]]⟩, ⟨0, 3, 1, [[(i64 p2)]]⟩, ⟨0, 49, 6, [[(i64 p3.op), (i64 p3.dst), (i64 p3.num), (i64 p3.into), (.sl (List.map eI p3.args)), (.sl (List.map eI p3.jumps))]]⟩, ⟨0, 75, 1, [[(.fn 27 [(.ptr 2 0 0 0), (.ptr 1 0 0 0)])]]⟩]) go0 hb31 (impl_signatures_argsOf_ok gq33) rfl rfl trivial rfl rfl ?_
                  refine ao_q (v := (.tup [(i64 q33.1), (i64 q33.2)])) go0 rfl (aq_mv rfl) ?_
                  refine ao_q (v := (i64 q33.1)) go0 rfl (aq_ex rfl rfl) ?_
                  refine ao_q (v := (i64 q33.2)) go0 rfl (aq_ex rfl rfl) ?_
                  refine ao_q (v := (i64 q33.1)) go0 rfl (aq_as rfl) ?_
                  refine ao_q (v := (i64 q33.2)) go0 rfl (aq_as rfl) ?_
                  refine AO.done (hK32 _ ?_)
                  refine AW.seq fun K34 hK34 => ?_
                  obtain ⟨o36, h1, h0⟩ := Sh.bind_some h0
                  have M36 : ∀ (t35 : Bool), o36 = t35 → ∀ s, Wk 0 s ⟨140, envL [(8, (.bool t35))], []⟩ → K34 s := by
                    intro t35 hq s hw
                    subst o36
                    try dsimp only at h0
                    refine hK34 _ (AW.weaken hw ?_)
                    replace h0 := Sh.some_eq h0
                    subst r
                    exact AW.ret (Exists.intro _ (And.intro (Wk.to (L := [(8, (.bool t35))]) ⟨.rfl, trivial⟩) (And.intro rfl rfl)))
                  refine AW.regionO (by rfl) ?_
                  refine ao_q (v := (.ptr 3 0 0 4)) go0 rfl (aq_fap fi49_4 rfl rfl (show 0 + 4 ≤ 6 by decide) rfl) ?_
                  refine ao_q (v := (.sl (List.map eI p3.args))) go0 rfl (aq_ldp ti44 rfl rfl rfl rfl) ?_
                  refine ao_q (v := (i64 (Sh.len p3.args))) go0 rfl (aq_lens sl44 rfl) ?_
                  refine ao_q (v := (i64 q33.1)) go0 rfl (aq_mv rfl) ?_
                  refine ao_q (v := (.bool (decide (q33.1 ≤ (Sh.len p3.args))))) go0 rfl (aq_ge rfl rfl) ?_
                  refine ao_q (v := (.bool (decide (q33.1 ≤ (Sh.len p3.args))))) go0 rfl (aq_mv rfl) ?_
                  rcases Sh.ite_some h1 with ⟨b37, h1⟩ | ⟨b37, h1⟩
                  · skip
                    refine ao_q (v := (.ptr 3 0 0 4)) (go1 rfl rfl b37) rfl (aq_fap fi49_4 rfl rfl (show 0 + 4 ≤ 6 by decide) rfl) ?_
                    refine ao_q (v := (.sl (List.map eI p3.args))) (go1 rfl rfl b37) rfl (aq_ldp ti44 rfl rfl rfl rfl) ?_
                    refine ao_q (v := (i64 (Sh.len p3.args))) (go1 rfl rfl b37) rfl (aq_lens sl44 rfl) ?_
                    refine ao_q (v := (i64 q33.2)) (go1 rfl rfl b37) rfl (aq_mv rfl) ?_
                    refine ao_q (v := (.bool (decide ((Sh.len p3.args) ≤ q33.2)))) (go1 rfl rfl b37) rfl (aq_le rfl rfl) ?_
                    refine ao_q (v := (.bool (decide ((Sh.len p3.args) ≤ q33.2)))) go0 rfl (aq_pkt rfl b37 rfl) ?_
                    refine ao_q (v := (.bool (decide ((Sh.len p3.args) ≤ q33.2)))) go0 rfl (aq_as rfl) ?_
                    exact AO.done (M36 (decide ((Sh.len p3.args) ≤ q33.2)) (Sh.some_eq h1).symm _ (by refine Wk.trans (Wk.permk (L := [(8, (.bool (decide ((Sh.len p3.args) ≤ q33.2))))]) (st' := []) (st1 := []) [] rfl .nil (by decide) rfl rfl .nil ⟨.rfl, trivial⟩) ?_; exact Wk.to (L := [(8, (.bool (decide ((Sh.len p3.args) ≤ q33.2))))]) ⟨.rfl, trivial⟩))
                  · skip
                    refine ao_skip rfl rfl b37 ?_
                    refine ao_skip rfl rfl b37 ?_
                    refine ao_skip rfl rfl b37 ?_
                    refine ao_skip rfl rfl b37 ?_
                    refine ao_skip rfl rfl b37 ?_
                    refine ao_q (v := (.bool false)) go0 rfl (aq_pkf rfl b37 rfl) ?_
                    refine ao_q (v := (.bool false)) go0 rfl (aq_as rfl) ?_
                    exact AO.done (M36 false (Sh.some_eq h1).symm _ (by refine Wk.trans (Wk.permk (L := [(8, (.bool false))]) (st' := []) (st1 := []) [] rfl .nil (by decide) rfl rfl .nil ⟨.rfl, trivial⟩) ?_; exact Wk.to (L := [(8, (.bool false))]) ⟨.rfl, trivial⟩))
            refine AW.regionO (by rfl) ?_
            refine ao_q (v := (.ptr 3 0 0 5)) go0 rfl (aq_fap fi49_5 rfl rfl (show 0 + 5 ≤ 6 by decide) rfl) ?_
            refine ao_q (v := (.sl (List.map eI p3.jumps))) go0 rfl (aq_ldp ti44 rfl rfl rfl rfl) ?_
            refine ao_q (v := (i64 (Sh.len p3.jumps))) go0 rfl (aq_lens sl44 rfl) ?_
            refine ao_q (v := (.bool (decide (0 < (Sh.len p3.jumps))))) go0 rfl (aq_gt rfl rfl) ?_
            refine ao_q (v := (.bool (decide (0 < (Sh.len p3.jumps))))) go0 rfl (aq_mv rfl) ?_
            rcases Sh.ite_some h1 with ⟨b38, h1⟩ | ⟨b38, h1⟩
            · skip
              refine ao_q (v := (.ptr 3 0 0 0)) (go1 rfl rfl b38) rfl (aq_fap fi49_0 rfl rfl (show 0 + 0 ≤ 6 by decide) rfl) ?_
              refine ao_q (v := (i64 p3.op)) (go1 rfl rfl b38) rfl (aq_ldp ti3 rfl rfl rfl rfl) ?_
              refine ao_q (v := (.bool (!decide (p3.op = 21)))) (go1 rfl rfl b38) rfl (aq_ne rfl rfl) ?_
              refine ao_q (v := (.bool (!decide (p3.op = 21)))) go0 rfl (aq_pkt rfl b38 rfl) ?_
              refine ao_q (v := (.bool (!decide (p3.op = 21)))) go0 rfl (aq_mv rfl) ?_
              rcases Sh.ite_some h1 with ⟨b39, h1⟩ | ⟨b39, h1⟩
              · skip
                refine ao_skip rfl rfl b39 ?_
                refine ao_skip rfl rfl b39 ?_
                refine ao_skip rfl rfl b39 ?_
                refine ao_skip rfl rfl b39 ?_
                refine ao_q (v := (.bool true)) go0 rfl (aq_pkt rfl b39 rfl) ?_
                exact AO.done (M22 true (Sh.some_eq h1).symm _ (Wk.to (L := [(4, (.ptr 0 0 0 0)), (7, (.ptr 3 0 0 0)), (11, (.ptr 4 0 0 0)), (116, (.bool true))]) ⟨.rfl, .rfl, .rfl, .rfl, trivial⟩))
              · skip
                refine ao_q (v := (.ptr 3 0 0 5)) (go1 rfl rfl b39) rfl (aq_fap fi49_5 rfl rfl (show 0 + 5 ≤ 6 by decide) rfl) ?_
                refine ao_q (v := (.sl (List.map eI p3.jumps))) (go1 rfl rfl b39) rfl (aq_ldp ti44 rfl rfl rfl rfl) ?_
                refine ao_q (v := (.fn 29 [(.ptr 4 0 0 0)])) (go1 rfl rfl b39) rfl (aq_fn rfl) ?_
                obtain ⟨q40, gq40, h1⟩ := Sh.bind_some h1
                refine ao_calls (rowsP := [⟨0, 75, 1, [[(.fn 27 [(.ptr 2 0 0 0), (.ptr 1 0 0 0)])]]⟩, ⟨0, 3, 1, [[(i64 p2)]]⟩, ⟨0, 47, 5, [[(.sl (List.map eI p1.params)), (.sl (List.map eI p1.lent)), (i64 p1.result), (i64 p1.regs), (.sl (List.map eRInstr p1.code))]]⟩]) (rows0 := [⟨0, 75, 1, [[(.fn 27 [(.ptr 1 0 0 0), (.ptr 2 0 0 0)])]]⟩, ⟨0, 3, 1, [[(i64 p2)]]⟩, ⟨0, 47, 5, [[(.sl (List.map eI p1.params)), (.sl (List.map eI p1.lent)), (i64 p1.result), (i64 p1.regs), (.sl (List.map eRInstr p1.code))]]⟩]) (rows1 := [⟨0, 75, 1, [[(.fn 27 [(.ptr 1 0 0 0), (.ptr 2 0 0 0)])]]⟩, ⟨0, 3, 1, [[(i64 p2)]]⟩, ⟨0, 47, 5, [[(.sl (List.map eI p1.params)), (.sl (List.map eI p1.lent)), (i64 p1.result), (i64 p1.regs), (.sl (List.map eRInstr p1.code))]]⟩]) (rows2 := []) (rows1' := [⟨0, 75, 1, [[(.fn 27 [(.ptr 2 0 0 0), (.ptr 1 0 0 0)])]]⟩, ⟨0, 3, 1, [[(i64 p2)]]⟩, ⟨0, 47, 5, [[(.sl (List.map eI p1.params)), (.sl (List.map eI p1.lent)), (i64 p1.result), (i64 p1.regs), (.sl (List.map eRInstr p1.code))]]⟩]) (rows2' := []) (st' := [⟨0, 41, 2, [[(.sl (List.map eRDecl p0.decls)), (.sl (List.map eRSignature p0.funcs))]]⟩, ⟨0, 47, 5, [[(.sl (List.map eI p1.params)), (.sl (List.map eI p1.lent)), (i64 p1.result), (i64 p1.regs), (.sl (List.map eRInstr p1.code))]]⟩, ⟨0, 3, 1, [[(i64 p2)]]⟩, ⟨0, 49, 6, [[(i64 p3.op), (i64 p3.dst), (i64 p3.num), (i64 p3.into), (.sl (List.map eI p3.args)), (.sl (List.map eI p3.jumps))]]⟩, ⟨0, 75, 1, [[(.fn 27 [(.ptr 2 0 0 0), (.ptr 1 0 0 0)])]]⟩]) (v' := (.bool q40)) [4, 2, 1] (go1 rfl rfl b39) hb28 (slices_ContainsFunc_int_int_ok gq40) rfl (by decide) rfl rfl (.raw rfl rfl (.raw rfl rfl (.raw rfl rfl .nil))) rfl rfl (.raw rfl rfl (.raw rfl rfl (.raw rfl rfl .nil))) .nil rfl rfl ?_
                refine ao_q (v := (.bool q40)) go0 rfl (aq_pkf rfl b39 rfl) ?_
                exact AO.done (M22 q40 (Sh.some_eq h1).symm _ (Wk.to (L := [(4, (.ptr 0 0 0 0)), (7, (.ptr 3 0 0 0)), (11, (.ptr 4 0 0 0)), (116, (.bool q40))]) ⟨.rfl, .rfl, .rfl, .rfl, trivial⟩))
            · skip
              refine ao_skip rfl rfl b38 ?_
              refine ao_skip rfl rfl b38 ?_
              refine ao_skip rfl rfl b38 ?_
              refine ao_q (v := (.bool false)) go0 rfl (aq_pkf rfl b38 rfl) ?_
              refine ao_q (v := (.bool false)) go0 rfl (aq_mv rfl) ?_
              refine ao_q (v := (.ptr 3 0 0 5)) (go1 rfl rfl rfl) rfl (aq_fap fi49_5 rfl rfl (show 0 + 5 ≤ 6 by decide) rfl) ?_
              refine ao_q (v := (.sl (List.map eI p3.jumps))) (go1 rfl rfl rfl) rfl (aq_ldp ti44 rfl rfl rfl rfl) ?_
              refine ao_q (v := (.fn 29 [(.ptr 4 0 0 0)])) (go1 rfl rfl rfl) rfl (aq_fn rfl) ?_
              obtain ⟨q41, gq41, h1⟩ := Sh.bind_some h1
              refine ao_calls (rowsP := [⟨0, 75, 1, [[(.fn 27 [(.ptr 2 0 0 0), (.ptr 1 0 0 0)])]]⟩, ⟨0, 3, 1, [[(i64 p2)]]⟩, ⟨0, 47, 5, [[(.sl (List.map eI p1.params)), (.sl (List.map eI p1.lent)), (i64 p1.result), (i64 p1.regs), (.sl (List.map eRInstr p1.code))]]⟩]) (rows0 := [⟨0, 75, 1, [[(.fn 27 [(.ptr 1 0 0 0), (.ptr 2 0 0 0)])]]⟩, ⟨0, 3, 1, [[(i64 p2)]]⟩, ⟨0, 47, 5, [[(.sl (List.map eI p1.params)), (.sl (List.map eI p1.lent)), (i64 p1.result), (i64 p1.regs), (.sl (List.map eRInstr p1.code))]]⟩]) (rows1 := [⟨0, 75, 1, [[(.fn 27 [(.ptr 1 0 0 0), (.ptr 2 0 0 0)])]]⟩, ⟨0, 3, 1, [[(i64 p2)]]⟩, ⟨0, 47, 5, [[(.sl (List.map eI p1.params)), (.sl (List.map eI p1.lent)), (i64 p1.result), (i64 p1.regs), (.sl (List.map eRInstr p1.code))]]⟩]) (rows2 := []) (rows1' := [⟨0, 75, 1, [[(.fn 27 [(.ptr 2 0 0 0), (.ptr 1 0 0 0)])]]⟩, ⟨0, 3, 1, [[(i64 p2)]]⟩, ⟨0, 47, 5, [[(.sl (List.map eI p1.params)), (.sl (List.map eI p1.lent)), (i64 p1.result), (i64 p1.regs), (.sl (List.map eRInstr p1.code))]]⟩]) (rows2' := []) (st' := [⟨0, 41, 2, [[(.sl (List.map eRDecl p0.decls)), (.sl (List.map eRSignature p0.funcs))]]⟩, ⟨0, 47, 5, [[(.sl (List.map eI p1.params)), (.sl (List.map eI p1.lent)), (i64 p1.result), (i64 p1.regs), (.sl (List.map eRInstr p1.code))]]⟩, ⟨0, 3, 1, [[(i64 p2)]]⟩, ⟨0, 49, 6, [[(i64 p3.op), (i64 p3.dst), (i64 p3.num), (i64 p3.into), (.sl (List.map eI p3.args)), (.sl (List.map eI p3.jumps))]]⟩, ⟨0, 75, 1, [[(.fn 27 [(.ptr 2 0 0 0), (.ptr 1 0 0 0)])]]⟩]) (v' := (.bool q41)) [4, 2, 1] (go1 rfl rfl rfl) hb28 (slices_ContainsFunc_int_int_ok gq41) rfl (by decide) rfl rfl (.raw rfl rfl (.raw rfl rfl (.raw rfl rfl .nil))) rfl rfl (.raw rfl rfl (.raw rfl rfl (.raw rfl rfl .nil))) .nil rfl rfl ?_
              refine ao_q (v := (.bool q41)) go0 rfl (aq_pkf rfl rfl rfl) ?_
              exact AO.done (M22 q41 (Sh.some_eq h1).symm _ (Wk.to (L := [(4, (.ptr 0 0 0 0)), (7, (.ptr 3 0 0 0)), (11, (.ptr 4 0 0 0)), (116, (.bool q41))]) ⟨.rfl, .rfl, .rfl, .rfl, trivial⟩))
          refine AW.block (AW.loopF (σ := Int) (fun n v => impl_signatures_instrValid_L1 p1 p3 n v = some o17) (fun t16 => ⟨140, envL [(4, (.ptr 0 0 0 0)), (5, (.ptr 1 0 0 0)), (6, (.ptr 2 0 0 0)), (7, (.ptr 3 0 0 0)), (86, (.sl (List.map eI p3.args))), (87, (i64 (Sh.len p3.args))), (88, (i64 t16))], [⟨0, 41, 2, [[(.sl (List.map eRDecl p0.decls)), (.sl (List.map eRSignature p0.funcs))]]⟩, ⟨0, 47, 5, [[(.sl (List.map eI p1.params)), (.sl (List.map eI p1.lent)), (i64 p1.result), (i64 p1.regs), (.sl (List.map eRInstr p1.code))]]⟩, ⟨0, 3, 1, [[(i64 p2)]]⟩, ⟨0, 49, 6, [[(i64 p3.op), (i64 p3.dst), (i64 p3.num), (i64 p3.into), (.sl (List.map eI p3.args)), (.sl (List.map eI p3.jumps))]]⟩]⟩) N 0 h1 (Wk.to (L := [(4, (.ptr 0 0 0 0)), (5, (.ptr 1 0 0 0)), (6, (.ptr 2 0 0 0)), (7, (.ptr 3 0 0 0)), (86, (.sl (List.map eI p3.args))), (87, (i64 (Sh.len p3.args))), (88, (i64 0))]) ⟨.rfl, .rfl, .rfl, .rfl, .rfl, .rfl, .rfl, trivial⟩) (fun _ hv => by rw [impl_signatures_instrValid_L1] at hv; cases hv) ?_)
          rintro n t16 h1
          try dsimp only at h1 ⊢
          rw [impl_signatures_instrValid_L1] at h1
          refine AW.seq fun K42 hK42 => ?_
          refine AW.regionO (by rfl) ?_
          refine ao_q (v := (.bool (decide (t16 < (Sh.len p3.args))))) go0 rfl (aq_lt rfl rfl) ?_
          refine AO.done (hK42 _ ?_)
          refine AW.seq fun K43 hK43 => ?_
          refine AW.cond' (b := decide (t16 < (Sh.len p3.args))) rfl (fun b44 => ?_) (fun b44 => ?_)
          · replace h1 := Sh.ite_t b44 h1
            refine AW.skip (hK43 _ ?_)
            refine AW.seq fun K45 hK45 => ?_
            refine AW.block ?_
            refine AW.seq fun K46 hK46 => ?_
            refine AW.regionO (by rfl) ?_
            obtain ⟨c47, gc47, h1⟩ := Sh.bind_some h1
            refine ao_q (v := (.iptr (eI c47) 0)) go0 rfl (aq_ixs ei44 rfl rfl gc47 rfl) ?_
            refine ao_q (v := (i64 c47)) go0 rfl (aq_ldi ti3 rfl rfl) ?_
            refine ao_q (v := (i64 c47)) go0 rfl (aq_as rfl) ?_
            refine AO.done (hK46 _ ?_)
            refine AW.seq fun K48 hK48 => ?_
            obtain ⟨o50, h2, h1⟩ := Sh.bind_some h1
            have M50 : ∀ (t49 : Bool), o50 = t49 → ∀ s, Wk 0 s ⟨140, envL [(4, (.ptr 0 0 0 0)), (5, (.ptr 1 0 0 0)), (6, (.ptr 2 0 0 0)), (7, (.ptr 3 0 0 0)), (86, (.sl (List.map eI p3.args))), (87, (i64 (Sh.len p3.args))), (88, (i64 t16)), (99, (.bool t49))], [⟨0, 41, 2, [[(.sl (List.map eRDecl p0.decls)), (.sl (List.map eRSignature p0.funcs))]]⟩, ⟨0, 47, 5, [[(.sl (List.map eI p1.params)), (.sl (List.map eI p1.lent)), (i64 p1.result), (i64 p1.regs), (.sl (List.map eRInstr p1.code))]]⟩, ⟨0, 3, 1, [[(i64 p2)]]⟩, ⟨0, 49, 6, [[(i64 p3.op), (i64 p3.dst), (i64 p3.num), (i64 p3.into), (.sl (List.map eI p3.args)), (.sl (List.map eI p3.jumps))]]⟩]⟩ → K48 s := by
              intro t49 hq s hw
              subst o50
              try dsimp only at h1
              refine hK48 _ (AW.weaken hw ?_)
              refine AW.cond' (b := t49) rfl (fun b51 => ?_) (fun b51 => ?_)
              · replace h1 := Sh.ite_t b51 h1
                refine AW.seq fun K52 hK52 => ?_
                refine AW.regionO (by rfl) ?_
                refine ao_q (v := (.bool false)) go0 rfl (aq_as rfl) ?_
                refine AO.done (hK52 _ ?_)
                replace h1 := Sh.some_eq h1
                subst o17
                try dsimp only [id] at h0
                replace h0 := Sh.some_eq h0
                subst r
                exact AW.ret (Exists.intro _ (And.intro ((Wk.permk (L := [(8, (.bool false))]) (st' := []) (st1 := []) [] rfl .nil (by decide) rfl rfl .nil ⟨.rfl, trivial⟩).trans (Wk.to (L := [(8, (.bool false))]) ⟨.rfl, trivial⟩)) (And.intro rfl rfl)))
              · replace h1 := Sh.ite_f b51 h1
                refine AW.skip (hK45 _ ?_)
                refine AW.regionO (by rfl) ?_
                refine ao_q (v := (i64 (Sh.w (t16 + 1)))) go0 rfl (aq_add rfl rfl) ?_
                refine ao_q (v := (i64 (Sh.w (t16 + 1)))) go0 rfl (aq_mv rfl) ?_
                exact AO.done (Exists.intro (Sh.w (t16 + 1)) (And.intro h1 (Wk.to (L := [(4, (.ptr 0 0 0 0)), (5, (.ptr 1 0 0 0)), (6, (.ptr 2 0 0 0)), (7, (.ptr 3 0 0 0)), (86, (.sl (List.map eI p3.args))), (87, (i64 (Sh.len p3.args))), (88, (i64 (Sh.w (t16 + 1))))]) ⟨.rfl, .rfl, .rfl, .rfl, .rfl, .rfl, .rfl, trivial⟩)))
            refine AW.regionO (by rfl) ?_
            refine ao_q (v := (i64 c47)) go0 rfl (aq_mv rfl) ?_
            refine ao_q (v := (.bool (decide (c47 < 0)))) go0 rfl (aq_lt rfl rfl) ?_
            refine ao_q (v := (.bool (decide (c47 < 0)))) go0 rfl (aq_mv rfl) ?_
            rcases Sh.ite_some h2 with ⟨b53, h2⟩ | ⟨b53, h2⟩
            · skip
              refine ao_skip rfl rfl b53 ?_
              refine ao_skip rfl rfl b53 ?_
              refine ao_skip rfl rfl b53 ?_
              refine ao_skip rfl rfl b53 ?_
              refine ao_q (v := (.bool true)) go0 rfl (aq_pkt rfl b53 rfl) ?_
              exact AO.done (M50 true (Sh.some_eq h2).symm _ (Wk.to (L := [(4, (.ptr 0 0 0 0)), (5, (.ptr 1 0 0 0)), (6, (.ptr 2 0 0 0)), (7, (.ptr 3 0 0 0)), (86, (.sl (List.map eI p3.args))), (87, (i64 (Sh.len p3.args))), (88, (i64 t16)), (99, (.bool true))]) ⟨.rfl, .rfl, .rfl, .rfl, .rfl, .rfl, .rfl, .rfl, trivial⟩))
            · skip
              refine ao_q (v := (i64 c47)) (go1 rfl rfl b53) rfl (aq_mv rfl) ?_
              refine ao_q (v := (.ptr 1 0 0 3)) (go1 rfl rfl b53) rfl (aq_fap fi47_3 rfl rfl (show 0 + 3 ≤ 5 by decide) rfl) ?_
              refine ao_q (v := (i64 p1.regs)) (go1 rfl rfl b53) rfl (aq_ldp ti3 rfl rfl rfl rfl) ?_
              refine ao_q (v := (.bool (decide (p1.regs ≤ c47)))) (go1 rfl rfl b53) rfl (aq_ge rfl rfl) ?_
              refine ao_q (v := (.bool (decide (p1.regs ≤ c47)))) go0 rfl (aq_pkf rfl b53 rfl) ?_
              exact AO.done (M50 (decide (p1.regs ≤ c47)) (Sh.some_eq h2).symm _ (Wk.to (L := [(4, (.ptr 0 0 0 0)), (5, (.ptr 1 0 0 0)), (6, (.ptr 2 0 0 0)), (7, (.ptr 3 0 0 0)), (86, (.sl (List.map eI p3.args))), (87, (i64 (Sh.len p3.args))), (88, (i64 t16)), (99, (.bool (decide (p1.regs ≤ c47))))]) ⟨.rfl, .rfl, .rfl, .rfl, .rfl, .rfl, .rfl, .rfl, trivial⟩))
          · replace h1 := Sh.ite_f b44 h1
            exact AW.exit (M17 () (Sh.some_eq h1).symm _ (Wk.to (L := [(4, (.ptr 0 0 0 0)), (5, (.ptr 1 0 0 0)), (6, (.ptr 2 0 0 0)), (7, (.ptr 3 0 0 0))]) ⟨.rfl, .rfl, .rfl, .rfl, trivial⟩))
      refine AW.regionO (by rfl) ?_
      refine ao_q (v := (.ptr 3 0 0 1)) go0 rfl (aq_fap fi49_1 rfl rfl (show 0 + 1 ≤ 6 by decide) rfl) ?_
      refine ao_q (v := (i64 p3.dst)) go0 rfl (aq_ldp ti3 rfl rfl rfl rfl) ?_
      refine ao_q (v := (.bool (decide (p3.dst < 0)))) go0 rfl (aq_lt rfl rfl) ?_
      refine ao_q (v := (.bool (decide (p3.dst < 0)))) go0 rfl (aq_mv rfl) ?_
      rcases Sh.ite_some h1 with ⟨b54, h1⟩ | ⟨b54, h1⟩
      · skip
        refine ao_skip rfl rfl b54 ?_
        refine ao_skip rfl rfl b54 ?_
        refine ao_skip rfl rfl b54 ?_
        refine ao_skip rfl rfl b54 ?_
        refine ao_skip rfl rfl b54 ?_
        refine ao_q (v := (.bool true)) go0 rfl (aq_pkt rfl b54 rfl) ?_
        refine ao_q (v := (.bool true)) go0 rfl (aq_mv rfl) ?_
        refine ao_skip rfl rfl rfl ?_
        refine ao_skip rfl rfl rfl ?_
        refine ao_skip rfl rfl rfl ?_
        refine ao_skip rfl rfl rfl ?_
        refine ao_none rfl rfl ?_
        refine ao_none rfl rfl ?_
        refine ao_none rfl rfl ?_
        refine ao_none rfl rfl ?_
        refine ao_skip rfl rfl rfl ?_
        refine ao_q (v := (.bool true)) go0 rfl (aq_pkt rfl rfl rfl) ?_
        refine ao_q (v := (.bool true)) go0 rfl (aq_mv rfl) ?_
        refine ao_skip rfl rfl rfl ?_
        refine ao_skip rfl rfl rfl ?_
        refine ao_skip rfl rfl rfl ?_
        refine ao_q (v := (.bool true)) go0 rfl (aq_pkt rfl rfl rfl) ?_
        refine ao_q (v := (.bool true)) go0 rfl (aq_mv rfl) ?_
        refine ao_skip rfl rfl rfl ?_
        refine ao_skip rfl rfl rfl ?_
        refine ao_skip rfl rfl rfl ?_
        refine ao_skip rfl rfl rfl ?_
        refine ao_skip rfl rfl rfl ?_
        refine ao_q (v := (.bool true)) go0 rfl (aq_pkt rfl rfl rfl) ?_
        refine ao_q (v := (.bool true)) go0 rfl (aq_mv rfl) ?_
        refine ao_skip rfl rfl rfl ?_
        refine ao_skip rfl rfl rfl ?_
        refine ao_skip rfl rfl rfl ?_
        refine ao_skip rfl rfl rfl ?_
        refine ao_none rfl rfl ?_
        refine ao_none rfl rfl ?_
        refine ao_none rfl rfl ?_
        refine ao_skip rfl rfl rfl ?_
        refine ao_q (v := (.bool true)) go0 rfl (aq_pkt rfl rfl rfl) ?_
        exact AO.done (M11 true (Sh.some_eq h1).symm _ (Wk.to (L := [(4, (.ptr 0 0 0 0)), (5, (.ptr 1 0 0 0)), (6, (.ptr 2 0 0 0)), (7, (.ptr 3 0 0 0)), (84, (.bool true))]) ⟨.rfl, .rfl, .rfl, .rfl, .rfl, trivial⟩))
      · skip
        refine ao_q (v := (.ptr 3 0 0 1)) (go1 rfl rfl b54) rfl (aq_fap fi49_1 rfl rfl (show 0 + 1 ≤ 6 by decide) rfl) ?_
        refine ao_q (v := (i64 p3.dst)) (go1 rfl rfl b54) rfl (aq_ldp ti3 rfl rfl rfl rfl) ?_
        refine ao_q (v := (.ptr 1 0 0 3)) (go1 rfl rfl b54) rfl (aq_fap fi47_3 rfl rfl (show 0 + 3 ≤ 5 by decide) rfl) ?_
        refine ao_q (v := (i64 p1.regs)) (go1 rfl rfl b54) rfl (aq_ldp ti3 rfl rfl rfl rfl) ?_
        refine ao_q (v := (.bool (decide (p1.regs ≤ p3.dst)))) (go1 rfl rfl b54) rfl (aq_ge rfl rfl) ?_
        refine ao_q (v := (.bool (decide (p1.regs ≤ p3.dst)))) go0 rfl (aq_pkf rfl b54 rfl) ?_
        refine ao_q (v := (.bool (decide (p1.regs ≤ p3.dst)))) go0 rfl (aq_mv rfl) ?_
        rcases Sh.ite_some h1 with ⟨b55, h1⟩ | ⟨b55, h1⟩
        · skip
          refine ao_skip rfl rfl b55 ?_
          refine ao_skip rfl rfl b55 ?_
          refine ao_skip rfl rfl b55 ?_
          refine ao_skip rfl rfl b55 ?_
          refine ao_none rfl rfl ?_
          refine ao_none rfl rfl ?_
          refine ao_none rfl rfl ?_
          refine ao_none rfl rfl ?_
          refine ao_skip rfl rfl b55 ?_
          refine ao_q (v := (.bool true)) go0 rfl (aq_pkt rfl b55 rfl) ?_
          refine ao_q (v := (.bool true)) go0 rfl (aq_mv rfl) ?_
          refine ao_skip rfl rfl rfl ?_
          refine ao_skip rfl rfl rfl ?_
          refine ao_skip rfl rfl rfl ?_
          refine ao_q (v := (.bool true)) go0 rfl (aq_pkt rfl rfl rfl) ?_
          refine ao_q (v := (.bool true)) go0 rfl (aq_mv rfl) ?_
          refine ao_skip rfl rfl rfl ?_
          refine ao_skip rfl rfl rfl ?_
          refine ao_skip rfl rfl rfl ?_
          refine ao_skip rfl rfl rfl ?_
          refine ao_skip rfl rfl rfl ?_
          refine ao_q (v := (.bool true)) go0 rfl (aq_pkt rfl rfl rfl) ?_
          refine ao_q (v := (.bool true)) go0 rfl (aq_mv rfl) ?_
          refine ao_skip rfl rfl rfl ?_
          refine ao_skip rfl rfl rfl ?_
          refine ao_skip rfl rfl rfl ?_
          refine ao_skip rfl rfl rfl ?_
          refine ao_none rfl rfl ?_
          refine ao_none rfl rfl ?_
          refine ao_none rfl rfl ?_
          refine ao_skip rfl rfl rfl ?_
          refine ao_q (v := (.bool true)) go0 rfl (aq_pkt rfl rfl rfl) ?_
          exact AO.done (M11 true (Sh.some_eq h1).symm _ (Wk.to (L := [(4, (.ptr 0 0 0 0)), (5, (.ptr 1 0 0 0)), (6, (.ptr 2 0 0 0)), (7, (.ptr 3 0 0 0)), (84, (.bool true))]) ⟨.rfl, .rfl, .rfl, .rfl, .rfl, trivial⟩))
        · skip
          refine ao_q (v := (.ptr 3 0 0 1)) (go1 rfl rfl b55) rfl (aq_fap fi49_1 rfl rfl (show 0 + 1 ≤ 6 by decide) rfl) ?_
          refine ao_q (v := (i64 p3.dst)) (go1 rfl rfl b55) rfl (aq_ldp ti3 rfl rfl rfl rfl) ?_
          refine ao_q (v := (.bool (!decide (p3.dst = 0)))) (go1 rfl rfl b55) rfl (aq_ne rfl rfl) ?_
          refine ao_q (v := (.bool (!decide (p3.dst = 0)))) (go1 rfl rfl b55) rfl (aq_mv rfl) ?_
          rcases Sh.ite_some h1 with ⟨b56, h1⟩ | ⟨b56, h1⟩
          · skip
            refine ao_q (v := (.ptr 3 0 0 0)) (go1 rfl rfl b56) rfl (aq_fap fi49_0 rfl rfl (show 0 + 0 ≤ 6 by decide) rfl) ?_
            refine ao_q (v := (i64 p3.op)) (go1 rfl rfl b56) rfl (aq_ldp ti3 rfl rfl rfl rfl) ?_
            obtain ⟨q57, gq57, h1⟩ := Sh.bind_some h1
            refine ao_call (v' := (.bool q57)) (st' := [⟨0, 41, 2, [[(.sl (List.map eRDecl p0.decls)), (.sl (List.map eRSignature p0.funcs))]]⟩, ⟨0, 47, 5, [[(.sl (List.map eI p1.params)), (.sl (List.map eI p1.lent)), (i64 p1.result), (i64 p1.regs), (.sl (List.map eRInstr p1.code))]]⟩, ⟨0, 3, 1, [[(i64 p2)]]⟩, ⟨0, 49, 6, [[(i64 p3.op), (i64 p3.dst), (i64 p3.num), (i64 p3.into), (.sl (List.map eI p3.args)), (.sl (List.map eI p3.jumps))]]⟩]) (go1 rfl rfl b56) hb26 (impl_setsRegister_ok gq57) rfl rfl trivial rfl rfl ?_
            refine ao_q (v := (.bool (!q57))) (go1 rfl rfl b56) rfl (aq_not rfl) ?_
            refine ao_q (v := (.bool (!q57))) (go1 rfl rfl b55) rfl (aq_pkt rfl b56 rfl) ?_
            refine ao_q (v := (.bool (!q57))) go0 rfl (aq_pkf rfl b55 rfl) ?_
            refine ao_q (v := (.bool (!q57))) go0 rfl (aq_mv rfl) ?_
            rcases Sh.ite_some h1 with ⟨b58, h1⟩ | ⟨b58, h1⟩
            · skip
              refine ao_skip rfl rfl b58 ?_
              refine ao_skip rfl rfl b58 ?_
              refine ao_skip rfl rfl b58 ?_
              refine ao_q (v := (.bool true)) go0 rfl (aq_pkt rfl b58 rfl) ?_
              refine ao_q (v := (.bool true)) go0 rfl (aq_mv rfl) ?_
              refine ao_skip rfl rfl rfl ?_
              refine ao_skip rfl rfl rfl ?_
              refine ao_skip rfl rfl rfl ?_
              refine ao_skip rfl rfl rfl ?_
              refine ao_skip rfl rfl rfl ?_
              refine ao_q (v := (.bool true)) go0 rfl (aq_pkt rfl rfl rfl) ?_
              refine ao_q (v := (.bool true)) go0 rfl (aq_mv rfl) ?_
              refine ao_skip rfl rfl rfl ?_
              refine ao_skip rfl rfl rfl ?_
              refine ao_skip rfl rfl rfl ?_
              refine ao_skip rfl rfl rfl ?_
              refine ao_none rfl rfl ?_
              refine ao_none rfl rfl ?_
              refine ao_none rfl rfl ?_
              refine ao_skip rfl rfl rfl ?_
              refine ao_q (v := (.bool true)) go0 rfl (aq_pkt rfl rfl rfl) ?_
              exact AO.done (M11 true (Sh.some_eq h1).symm _ (Wk.to (L := [(4, (.ptr 0 0 0 0)), (5, (.ptr 1 0 0 0)), (6, (.ptr 2 0 0 0)), (7, (.ptr 3 0 0 0)), (84, (.bool true))]) ⟨.rfl, .rfl, .rfl, .rfl, .rfl, trivial⟩))
            · skip
              refine ao_q (v := (.ptr 3 0 0 3)) (go1 rfl rfl b58) rfl (aq_fap fi49_3 rfl rfl (show 0 + 3 ≤ 6 by decide) rfl) ?_
              refine ao_q (v := (i64 p3.into)) (go1 rfl rfl b58) rfl (aq_ldp ti3 rfl rfl rfl rfl) ?_
              refine ao_q (v := (.bool (decide (p3.into < 0)))) (go1 rfl rfl b58) rfl (aq_lt rfl rfl) ?_
              refine ao_q (v := (.bool (decide (p3.into < 0)))) go0 rfl (aq_pkf rfl b58 rfl) ?_
              refine ao_q (v := (.bool (decide (p3.into < 0)))) go0 rfl (aq_mv rfl) ?_
              rcases Sh.ite_some h1 with ⟨b59, h1⟩ | ⟨b59, h1⟩
              · skip
                refine ao_skip rfl rfl b59 ?_
                refine ao_skip rfl rfl b59 ?_
                refine ao_skip rfl rfl b59 ?_
                refine ao_skip rfl rfl b59 ?_
                refine ao_skip rfl rfl b59 ?_
                refine ao_q (v := (.bool true)) go0 rfl (aq_pkt rfl b59 rfl) ?_
                refine ao_q (v := (.bool true)) go0 rfl (aq_mv rfl) ?_
                refine ao_skip rfl rfl rfl ?_
                refine ao_skip rfl rfl rfl ?_
                refine ao_skip rfl rfl rfl ?_
                refine ao_skip rfl rfl rfl ?_
                refine ao_none rfl rfl ?_
                refine ao_none rfl rfl ?_
                refine ao_none rfl rfl ?_
                refine ao_skip rfl rfl rfl ?_
                refine ao_q (v := (.bool true)) go0 rfl (aq_pkt rfl rfl rfl) ?_
                exact AO.done (M11 true (Sh.some_eq h1).symm _ (Wk.to (L := [(4, (.ptr 0 0 0 0)), (5, (.ptr 1 0 0 0)), (6, (.ptr 2 0 0 0)), (7, (.ptr 3 0 0 0)), (84, (.bool true))]) ⟨.rfl, .rfl, .rfl, .rfl, .rfl, trivial⟩))
              · skip
                refine ao_q (v := (.ptr 3 0 0 3)) (go1 rfl rfl b59) rfl (aq_fap fi49_3 rfl rfl (show 0 + 3 ≤ 6 by decide) rfl) ?_
                refine ao_q (v := (i64 p3.into)) (go1 rfl rfl b59) rfl (aq_ldp ti3 rfl rfl rfl rfl) ?_
                refine ao_q (v := (.ptr 1 0 0 3)) (go1 rfl rfl b59) rfl (aq_fap fi47_3 rfl rfl (show 0 + 3 ≤ 5 by decide) rfl) ?_
                refine ao_q (v := (i64 p1.regs)) (go1 rfl rfl b59) rfl (aq_ldp ti3 rfl rfl rfl rfl) ?_
                refine ao_q (v := (.bool (decide (p1.regs < p3.into)))) (go1 rfl rfl b59) rfl (aq_gt rfl rfl) ?_
                refine ao_q (v := (.bool (decide (p1.regs < p3.into)))) go0 rfl (aq_pkf rfl b59 rfl) ?_
                refine ao_q (v := (.bool (decide (p1.regs < p3.into)))) go0 rfl (aq_mv rfl) ?_
                rcases Sh.ite_some h1 with ⟨b60, h1⟩ | ⟨b60, h1⟩
                · skip
                  refine ao_skip rfl rfl b60 ?_
                  refine ao_skip rfl rfl b60 ?_
                  refine ao_skip rfl rfl b60 ?_
                  refine ao_skip rfl rfl b60 ?_
                  refine ao_none rfl rfl ?_
                  refine ao_none rfl rfl ?_
                  refine ao_none rfl rfl ?_
                  refine ao_skip rfl rfl b60 ?_
                  refine ao_q (v := (.bool true)) go0 rfl (aq_pkt rfl b60 rfl) ?_
                  exact AO.done (M11 true (Sh.some_eq h1).symm _ (Wk.to (L := [(4, (.ptr 0 0 0 0)), (5, (.ptr 1 0 0 0)), (6, (.ptr 2 0 0 0)), (7, (.ptr 3 0 0 0)), (84, (.bool true))]) ⟨.rfl, .rfl, .rfl, .rfl, .rfl, trivial⟩))
                · skip
                  refine ao_q (v := (.ptr 3 0 0 3)) (go1 rfl rfl b60) rfl (aq_fap fi49_3 rfl rfl (show 0 + 3 ≤ 6 by decide) rfl) ?_
                  refine ao_q (v := (i64 p3.into)) (go1 rfl rfl b60) rfl (aq_ldp ti3 rfl rfl rfl rfl) ?_
                  refine ao_q (v := (.bool (!decide (p3.into = 0)))) (go1 rfl rfl b60) rfl (aq_ne rfl rfl) ?_
                  refine ao_q (v := (.bool (!decide (p3.into = 0)))) (go1 rfl rfl b60) rfl (aq_mv rfl) ?_
                  rcases Sh.ite_some h1 with ⟨b61, h1⟩ | ⟨b61, h1⟩
                  · skip
                    refine ao_q (v := (.ptr 3 0 0 0)) (go1 rfl rfl b61) rfl (aq_fap fi49_0 rfl rfl (show 0 + 0 ≤ 6 by decide) rfl) ?_
                    refine ao_q (v := (i64 p3.op)) (go1 rfl rfl b61) rfl (aq_ldp ti3 rfl rfl rfl rfl) ?_
                    refine ao_q (v := (.bool (!decide (p3.op = 6)))) (go1 rfl rfl b61) rfl (aq_ne rfl rfl) ?_
                    refine ao_q (v := (.bool (!decide (p3.op = 6)))) (go1 rfl rfl b60) rfl (aq_pkt rfl b61 rfl) ?_
                    refine ao_q (v := (.bool (!decide (p3.op = 6)))) go0 rfl (aq_pkf rfl b60 rfl) ?_
                    exact AO.done (M11 (!decide (p3.op = 6)) (Sh.some_eq h1).symm _ (Wk.to (L := [(4, (.ptr 0 0 0 0)), (5, (.ptr 1 0 0 0)), (6, (.ptr 2 0 0 0)), (7, (.ptr 3 0 0 0)), (84, (.bool (!decide (p3.op = 6))))]) ⟨.rfl, .rfl, .rfl, .rfl, .rfl, trivial⟩))
                  · skip
                    refine ao_skip rfl rfl b61 ?_
                    refine ao_skip rfl rfl b61 ?_
                    refine ao_skip rfl rfl b61 ?_
                    refine ao_q (v := (.bool false)) (go1 rfl rfl b60) rfl (aq_pkf rfl b61 rfl) ?_
                    refine ao_q (v := (.bool false)) go0 rfl (aq_pkf rfl b60 rfl) ?_
                    exact AO.done (M11 false (Sh.some_eq h1).symm _ (Wk.to (L := [(4, (.ptr 0 0 0 0)), (5, (.ptr 1 0 0 0)), (6, (.ptr 2 0 0 0)), (7, (.ptr 3 0 0 0)), (84, (.bool false))]) ⟨.rfl, .rfl, .rfl, .rfl, .rfl, trivial⟩))
          · skip
            refine ao_skip rfl rfl b56 ?_
            refine ao_skip rfl rfl b56 ?_
            refine ao_skip rfl rfl b56 ?_
            refine ao_skip rfl rfl b56 ?_
            refine ao_q (v := (.bool false)) (go1 rfl rfl b55) rfl (aq_pkf rfl b56 rfl) ?_
            refine ao_q (v := (.bool false)) go0 rfl (aq_pkf rfl b55 rfl) ?_
            refine ao_q (v := (.bool false)) go0 rfl (aq_mv rfl) ?_
            refine ao_q (v := (.ptr 3 0 0 3)) (go1 rfl rfl rfl) rfl (aq_fap fi49_3 rfl rfl (show 0 + 3 ≤ 6 by decide) rfl) ?_
            refine ao_q (v := (i64 p3.into)) (go1 rfl rfl rfl) rfl (aq_ldp ti3 rfl rfl rfl rfl) ?_
            refine ao_q (v := (.bool (decide (p3.into < 0)))) (go1 rfl rfl rfl) rfl (aq_lt rfl rfl) ?_
            refine ao_q (v := (.bool (decide (p3.into < 0)))) go0 rfl (aq_pkf rfl rfl rfl) ?_
            refine ao_q (v := (.bool (decide (p3.into < 0)))) go0 rfl (aq_mv rfl) ?_
            rcases Sh.ite_some h1 with ⟨b62, h1⟩ | ⟨b62, h1⟩
            · skip
              refine ao_skip rfl rfl b62 ?_
              refine ao_skip rfl rfl b62 ?_
              refine ao_skip rfl rfl b62 ?_
              refine ao_skip rfl rfl b62 ?_
              refine ao_skip rfl rfl b62 ?_
              refine ao_q (v := (.bool true)) go0 rfl (aq_pkt rfl b62 rfl) ?_
              refine ao_q (v := (.bool true)) go0 rfl (aq_mv rfl) ?_
              refine ao_skip rfl rfl rfl ?_
              refine ao_skip rfl rfl rfl ?_
              refine ao_skip rfl rfl rfl ?_
              refine ao_skip rfl rfl rfl ?_
              refine ao_none rfl rfl ?_
              refine ao_none rfl rfl ?_
              refine ao_none rfl rfl ?_
              refine ao_skip rfl rfl rfl ?_
              refine ao_q (v := (.bool true)) go0 rfl (aq_pkt rfl rfl rfl) ?_
              exact AO.done (M11 true (Sh.some_eq h1).symm _ (Wk.to (L := [(4, (.ptr 0 0 0 0)), (5, (.ptr 1 0 0 0)), (6, (.ptr 2 0 0 0)), (7, (.ptr 3 0 0 0)), (84, (.bool true))]) ⟨.rfl, .rfl, .rfl, .rfl, .rfl, trivial⟩))
            · skip
              refine ao_q (v := (.ptr 3 0 0 3)) (go1 rfl rfl b62) rfl (aq_fap fi49_3 rfl rfl (show 0 + 3 ≤ 6 by decide) rfl) ?_
              refine ao_q (v := (i64 p3.into)) (go1 rfl rfl b62) rfl (aq_ldp ti3 rfl rfl rfl rfl) ?_
              refine ao_q (v := (.ptr 1 0 0 3)) (go1 rfl rfl b62) rfl (aq_fap fi47_3 rfl rfl (show 0 + 3 ≤ 5 by decide) rfl) ?_
              refine ao_q (v := (i64 p1.regs)) (go1 rfl rfl b62) rfl (aq_ldp ti3 rfl rfl rfl rfl) ?_
              refine ao_q (v := (.bool (decide (p1.regs < p3.into)))) (go1 rfl rfl b62) rfl (aq_gt rfl rfl) ?_
              refine ao_q (v := (.bool (decide (p1.regs < p3.into)))) go0 rfl (aq_pkf rfl b62 rfl) ?_
              refine ao_q (v := (.bool (decide (p1.regs < p3.into)))) go0 rfl (aq_mv rfl) ?_
              rcases Sh.ite_some h1 with ⟨b63, h1⟩ | ⟨b63, h1⟩
              · skip
                refine ao_skip rfl rfl b63 ?_
                refine ao_skip rfl rfl b63 ?_
                refine ao_skip rfl rfl b63 ?_
                refine ao_skip rfl rfl b63 ?_
                refine ao_none rfl rfl ?_
                refine ao_none rfl rfl ?_
                refine ao_none rfl rfl ?_
                refine ao_skip rfl rfl b63 ?_
                refine ao_q (v := (.bool true)) go0 rfl (aq_pkt rfl b63 rfl) ?_
                exact AO.done (M11 true (Sh.some_eq h1).symm _ (Wk.to (L := [(4, (.ptr 0 0 0 0)), (5, (.ptr 1 0 0 0)), (6, (.ptr 2 0 0 0)), (7, (.ptr 3 0 0 0)), (84, (.bool true))]) ⟨.rfl, .rfl, .rfl, .rfl, .rfl, trivial⟩))
              · skip
                refine ao_q (v := (.ptr 3 0 0 3)) (go1 rfl rfl b63) rfl (aq_fap fi49_3 rfl rfl (show 0 + 3 ≤ 6 by decide) rfl) ?_
                refine ao_q (v := (i64 p3.into)) (go1 rfl rfl b63) rfl (aq_ldp ti3 rfl rfl rfl rfl) ?_
                refine ao_q (v := (.bool (!decide (p3.into = 0)))) (go1 rfl rfl b63) rfl (aq_ne rfl rfl) ?_
                refine ao_q (v := (.bool (!decide (p3.into = 0)))) (go1 rfl rfl b63) rfl (aq_mv rfl) ?_
                rcases Sh.ite_some h1 with ⟨b64, h1⟩ | ⟨b64, h1⟩
                · skip
                  refine ao_q (v := (.ptr 3 0 0 0)) (go1 rfl rfl b64) rfl (aq_fap fi49_0 rfl rfl (show 0 + 0 ≤ 6 by decide) rfl) ?_
                  refine ao_q (v := (i64 p3.op)) (go1 rfl rfl b64) rfl (aq_ldp ti3 rfl rfl rfl rfl) ?_
                  refine ao_q (v := (.bool (!decide (p3.op = 6)))) (go1 rfl rfl b64) rfl (aq_ne rfl rfl) ?_
                  refine ao_q (v := (.bool (!decide (p3.op = 6)))) (go1 rfl rfl b63) rfl (aq_pkt rfl b64 rfl) ?_
                  refine ao_q (v := (.bool (!decide (p3.op = 6)))) go0 rfl (aq_pkf rfl b63 rfl) ?_
                  exact AO.done (M11 (!decide (p3.op = 6)) (Sh.some_eq h1).symm _ (Wk.to (L := [(4, (.ptr 0 0 0 0)), (5, (.ptr 1 0 0 0)), (6, (.ptr 2 0 0 0)), (7, (.ptr 3 0 0 0)), (84, (.bool (!decide (p3.op = 6))))]) ⟨.rfl, .rfl, .rfl, .rfl, .rfl, trivial⟩))
                · skip
                  refine ao_skip rfl rfl b64 ?_
                  refine ao_skip rfl rfl b64 ?_
                  refine ao_skip rfl rfl b64 ?_
                  refine ao_q (v := (.bool false)) (go1 rfl rfl b63) rfl (aq_pkf rfl b64 rfl) ?_
                  refine ao_q (v := (.bool false)) go0 rfl (aq_pkf rfl b63 rfl) ?_
                  exact AO.done (M11 false (Sh.some_eq h1).symm _ (Wk.to (L := [(4, (.ptr 0 0 0 0)), (5, (.ptr 1 0 0 0)), (6, (.ptr 2 0 0 0)), (7, (.ptr 3 0 0 0)), (84, (.bool false))]) ⟨.rfl, .rfl, .rfl, .rfl, .rfl, trivial⟩))
  refine AW.regionO (by rfl) ?_
  refine ao_q (v := (.ptr 3 0 0 0)) go0 rfl (aq_fap fi49_0 rfl rfl (show 0 + 0 ≤ 6 by decide) rfl) ?_
  refine ao_q (v := (i64 p3.op)) go0 rfl (aq_ldp ti3 rfl rfl rfl rfl) ?_
  refine ao_q (v := (.bool (decide (p3.op < 0)))) go0 rfl (aq_lt rfl rfl) ?_
  refine ao_q (v := (.bool (decide (p3.op < 0)))) go0 rfl (aq_mv rfl) ?_
  rcases Sh.ite_some h1 with ⟨b65, h1⟩ | ⟨b65, h1⟩
  · skip
    refine ao_skip rfl rfl b65 ?_
    refine ao_skip rfl rfl b65 ?_
    refine ao_skip rfl rfl b65 ?_
    refine ao_q (v := (.bool true)) go0 rfl (aq_pkt rfl b65 rfl) ?_
    refine ao_q (v := (.bool true)) go0 rfl (aq_mv rfl) ?_
    refine ao_skip rfl rfl rfl ?_
    refine ao_skip rfl rfl rfl ?_
    refine ao_skip rfl rfl rfl ?_
    refine ao_q (v := (.bool true)) go0 rfl (aq_pkt rfl rfl rfl) ?_
    refine ao_q (v := (.bool true)) go0 rfl (aq_mv rfl) ?_
    refine ao_skip rfl rfl rfl ?_
    refine ao_skip rfl rfl rfl ?_
    refine ao_skip rfl rfl rfl ?_
    refine ao_q (v := (.bool true)) go0 rfl (aq_pkt rfl rfl rfl) ?_
    refine ao_q (v := (.bool true)) go0 rfl (aq_mv rfl) ?_
    refine ao_skip rfl rfl rfl ?_
    refine ao_skip rfl rfl rfl ?_
    refine ao_skip rfl rfl rfl ?_
    refine ao_q (v := (.bool true)) go0 rfl (aq_pkt rfl rfl rfl) ?_
    refine ao_q (v := (.bool true)) go0 rfl (aq_mv rfl) ?_
    refine ao_skip rfl rfl rfl ?_
    refine ao_skip rfl rfl rfl ?_
    refine ao_skip rfl rfl rfl ?_
    refine ao_q (v := (.bool true)) go0 rfl (aq_pkt rfl rfl rfl) ?_
    exact AO.done (M5 true (Sh.some_eq h1).symm _ (Wk.to (L := [(4, (.ptr 0 0 0 0)), (5, (.ptr 1 0 0 0)), (6, (.ptr 2 0 0 0)), (7, (.ptr 3 0 0 0)), (41, (.bool true))]) ⟨.rfl, .rfl, .rfl, .rfl, .rfl, trivial⟩))
  · skip
    refine ao_q (v := (.ptr 3 0 0 0)) (go1 rfl rfl b65) rfl (aq_fap fi49_0 rfl rfl (show 0 + 0 ≤ 6 by decide) rfl) ?_
    refine ao_q (v := (i64 p3.op)) (go1 rfl rfl b65) rfl (aq_ldp ti3 rfl rfl rfl rfl) ?_
    refine ao_q (v := (.bool (decide (24 < p3.op)))) (go1 rfl rfl b65) rfl (aq_gt rfl rfl) ?_
    refine ao_q (v := (.bool (decide (24 < p3.op)))) go0 rfl (aq_pkf rfl b65 rfl) ?_
    refine ao_q (v := (.bool (decide (24 < p3.op)))) go0 rfl (aq_mv rfl) ?_
    rcases Sh.ite_some h1 with ⟨b66, h1⟩ | ⟨b66, h1⟩
    · skip
      refine ao_skip rfl rfl b66 ?_
      refine ao_skip rfl rfl b66 ?_
      refine ao_skip rfl rfl b66 ?_
      refine ao_q (v := (.bool true)) go0 rfl (aq_pkt rfl b66 rfl) ?_
      refine ao_q (v := (.bool true)) go0 rfl (aq_mv rfl) ?_
      refine ao_skip rfl rfl rfl ?_
      refine ao_skip rfl rfl rfl ?_
      refine ao_skip rfl rfl rfl ?_
      refine ao_q (v := (.bool true)) go0 rfl (aq_pkt rfl rfl rfl) ?_
      refine ao_q (v := (.bool true)) go0 rfl (aq_mv rfl) ?_
      refine ao_skip rfl rfl rfl ?_
      refine ao_skip rfl rfl rfl ?_
      refine ao_skip rfl rfl rfl ?_
      refine ao_q (v := (.bool true)) go0 rfl (aq_pkt rfl rfl rfl) ?_
      refine ao_q (v := (.bool true)) go0 rfl (aq_mv rfl) ?_
      refine ao_skip rfl rfl rfl ?_
      refine ao_skip rfl rfl rfl ?_
      refine ao_skip rfl rfl rfl ?_
      refine ao_q (v := (.bool true)) go0 rfl (aq_pkt rfl rfl rfl) ?_
      exact AO.done (M5 true (Sh.some_eq h1).symm _ (Wk.to (L := [(4, (.ptr 0 0 0 0)), (5, (.ptr 1 0 0 0)), (6, (.ptr 2 0 0 0)), (7, (.ptr 3 0 0 0)), (41, (.bool true))]) ⟨.rfl, .rfl, .rfl, .rfl, .rfl, trivial⟩))
    · skip
      refine ao_q (v := (.ptr 3 0 0 0)) (go1 rfl rfl b66) rfl (aq_fap fi49_0 rfl rfl (show 0 + 0 ≤ 6 by decide) rfl) ?_
      refine ao_q (v := (i64 p3.op)) (go1 rfl rfl b66) rfl (aq_ldp ti3 rfl rfl rfl rfl) ?_
      refine ao_q (v := (.bool (decide (p3.op = 7)))) (go1 rfl rfl b66) rfl (aq_eq rfl rfl) ?_
      refine ao_q (v := (.bool (decide (p3.op = 7)))) go0 rfl (aq_pkf rfl b66 rfl) ?_
      refine ao_q (v := (.bool (decide (p3.op = 7)))) go0 rfl (aq_mv rfl) ?_
      rcases Sh.ite_some h1 with ⟨b67, h1⟩ | ⟨b67, h1⟩
      · skip
        refine ao_skip rfl rfl b67 ?_
        refine ao_skip rfl rfl b67 ?_
        refine ao_skip rfl rfl b67 ?_
        refine ao_q (v := (.bool true)) go0 rfl (aq_pkt rfl b67 rfl) ?_
        refine ao_q (v := (.bool true)) go0 rfl (aq_mv rfl) ?_
        refine ao_skip rfl rfl rfl ?_
        refine ao_skip rfl rfl rfl ?_
        refine ao_skip rfl rfl rfl ?_
        refine ao_q (v := (.bool true)) go0 rfl (aq_pkt rfl rfl rfl) ?_
        refine ao_q (v := (.bool true)) go0 rfl (aq_mv rfl) ?_
        refine ao_skip rfl rfl rfl ?_
        refine ao_skip rfl rfl rfl ?_
        refine ao_skip rfl rfl rfl ?_
        refine ao_q (v := (.bool true)) go0 rfl (aq_pkt rfl rfl rfl) ?_
        exact AO.done (M5 true (Sh.some_eq h1).symm _ (Wk.to (L := [(4, (.ptr 0 0 0 0)), (5, (.ptr 1 0 0 0)), (6, (.ptr 2 0 0 0)), (7, (.ptr 3 0 0 0)), (41, (.bool true))]) ⟨.rfl, .rfl, .rfl, .rfl, .rfl, trivial⟩))
      · skip
        refine ao_q (v := (.ptr 3 0 0 0)) (go1 rfl rfl b67) rfl (aq_fap fi49_0 rfl rfl (show 0 + 0 ≤ 6 by decide) rfl) ?_
        refine ao_q (v := (i64 p3.op)) (go1 rfl rfl b67) rfl (aq_ldp ti3 rfl rfl rfl rfl) ?_
        refine ao_q (v := (.bool (decide (p3.op = 8)))) (go1 rfl rfl b67) rfl (aq_eq rfl rfl) ?_
        refine ao_q (v := (.bool (decide (p3.op = 8)))) go0 rfl (aq_pkf rfl b67 rfl) ?_
        refine ao_q (v := (.bool (decide (p3.op = 8)))) go0 rfl (aq_mv rfl) ?_
        rcases Sh.ite_some h1 with ⟨b68, h1⟩ | ⟨b68, h1⟩
        · skip
          refine ao_skip rfl rfl b68 ?_
          refine ao_skip rfl rfl b68 ?_
          refine ao_skip rfl rfl b68 ?_
          refine ao_q (v := (.bool true)) go0 rfl (aq_pkt rfl b68 rfl) ?_
          refine ao_q (v := (.bool true)) go0 rfl (aq_mv rfl) ?_
          refine ao_skip rfl rfl rfl ?_
          refine ao_skip rfl rfl rfl ?_
          refine ao_skip rfl rfl rfl ?_
          refine ao_q (v := (.bool true)) go0 rfl (aq_pkt rfl rfl rfl) ?_
          exact AO.done (M5 true (Sh.some_eq h1).symm _ (Wk.to (L := [(4, (.ptr 0 0 0 0)), (5, (.ptr 1 0 0 0)), (6, (.ptr 2 0 0 0)), (7, (.ptr 3 0 0 0)), (41, (.bool true))]) ⟨.rfl, .rfl, .rfl, .rfl, .rfl, trivial⟩))
        · skip
          refine ao_q (v := (.ptr 3 0 0 0)) (go1 rfl rfl b68) rfl (aq_fap fi49_0 rfl rfl (show 0 + 0 ≤ 6 by decide) rfl) ?_
          refine ao_q (v := (i64 p3.op)) (go1 rfl rfl b68) rfl (aq_ldp ti3 rfl rfl rfl rfl) ?_
          refine ao_q (v := (.bool (decide (p3.op = 12)))) (go1 rfl rfl b68) rfl (aq_eq rfl rfl) ?_
          refine ao_q (v := (.bool (decide (p3.op = 12)))) go0 rfl (aq_pkf rfl b68 rfl) ?_
          refine ao_q (v := (.bool (decide (p3.op = 12)))) go0 rfl (aq_mv rfl) ?_
          rcases Sh.ite_some h1 with ⟨b69, h1⟩ | ⟨b69, h1⟩
          · skip
            refine ao_skip rfl rfl b69 ?_
            refine ao_skip rfl rfl b69 ?_
            refine ao_skip rfl rfl b69 ?_
            refine ao_q (v := (.bool true)) go0 rfl (aq_pkt rfl b69 rfl) ?_
            exact AO.done (M5 true (Sh.some_eq h1).symm _ (Wk.to (L := [(4, (.ptr 0 0 0 0)), (5, (.ptr 1 0 0 0)), (6, (.ptr 2 0 0 0)), (7, (.ptr 3 0 0 0)), (41, (.bool true))]) ⟨.rfl, .rfl, .rfl, .rfl, .rfl, trivial⟩))
          · skip
            refine ao_q (v := (.ptr 3 0 0 0)) (go1 rfl rfl b69) rfl (aq_fap fi49_0 rfl rfl (show 0 + 0 ≤ 6 by decide) rfl) ?_
            refine ao_q (v := (i64 p3.op)) (go1 rfl rfl b69) rfl (aq_ldp ti3 rfl rfl rfl rfl) ?_
            refine ao_q (v := (.bool (decide (p3.op = 13)))) (go1 rfl rfl b69) rfl (aq_eq rfl rfl) ?_
            refine ao_q (v := (.bool (decide (p3.op = 13)))) go0 rfl (aq_pkf rfl b69 rfl) ?_
            exact AO.done (M5 (decide (p3.op = 13)) (Sh.some_eq h1).symm _ (Wk.to (L := [(4, (.ptr 0 0 0 0)), (5, (.ptr 1 0 0 0)), (6, (.ptr 2 0 0 0)), (7, (.ptr 3 0 0 0)), (41, (.bool (decide (p3.op = 13))))]) ⟨.rfl, .rfl, .rfl, .rfl, .rfl, trivial⟩))

set_option maxRecDepth 100000 in
set_option maxHeartbeats 4000000 in
theorem impl_ValidImage_ok {N : Nat} {p0 : RImage} {r : Bool} (h0 : impl_ValidImage N p0 = some r) : ACalls Try.prog 7 [(.agg [(.sl (List.map eRDecl p0.decls)), (.sl (List.map eRProc p0.procs))])] [] (fun v st => v = (.bool r) ∧ st = []) := by
  unfold impl_ValidImage at h0
  refine ACalls.intro Try.func7 rfl (by show 1 ≤ 79; decide) ?_
  show AW _ 0 _ (aret _ 0 Try.f7 _) ⟨79, _, _⟩
  refine AW.weaken (Wk.to (L := [(0, (.agg [(.sl (List.map eRDecl p0.decls)), (.sl (List.map eRProc p0.procs))]))]) ⟨.rfl, trivial⟩) ?_
  refine AW.seq fun K1 hK1 => ?_
  refine AW.regionO (by rfl) ?_
  refine ao_box (m := 0) (st' := [⟨0, 31, 2, [[(.sl (List.map eRDecl p0.decls)), (.sl (List.map eRProc p0.procs))]]⟩]) go0 rfl rfl rfl rfl rfl ?_
  refine ao_q (v := (.bool false)) go0 rfl (aq_as rfl) ?_
  refine AO.done (hK1 _ ?_)
  refine AW.seq fun K2 hK2 => ?_
  refine AW.regionO (by rfl) ?_
  refine ao_q (v := (.agg [(.sl (List.map eRDecl p0.decls)), (.sl (List.map eRProc p0.procs))])) go0 rfl (aq_ldpa ti31 rfl rfl rfl (show 0 + 2 ≤ 2 by decide) rfl) ?_
  obtain ⟨q3, gq3, h0⟩ := Sh.bind_some h0
  refine ao_call (v' := (.tup [(.agg [(.sl (List.map eRDecl q3.1.decls)), (.sl (List.map eRSignature q3.1.funcs))]), (.bool q3.2)])) (st' := [⟨0, 31, 2, [[(.sl (List.map eRDecl p0.decls)), (.sl (List.map eRProc p0.procs))]]⟩]) go0 hb14 (impl_imageSigs_ok gq3) rfl rfl trivial rfl rfl ?_
  refine ao_q (v := (.tup [(.agg [(.sl (List.map eRDecl q3.1.decls)), (.sl (List.map eRSignature q3.1.funcs))]), (.bool q3.2)])) go0 rfl (aq_mv rfl) ?_
  refine ao_q (v := (.agg [(.sl (List.map eRDecl q3.1.decls)), (.sl (List.map eRSignature q3.1.funcs))])) go0 rfl (aq_ex rfl rfl) ?_
  refine ao_q (v := (.bool q3.2)) go0 rfl (aq_ex rfl rfl) ?_
  refine ao_alloc (m := 1) (st' := [⟨0, 31, 2, [[(.sl (List.map eRDecl p0.decls)), (.sl (List.map eRProc p0.procs))]]⟩, ⟨0, 41, 2, [[.zc, .zc]]⟩]) go0 zi41 rfl rfl ?_
  refine ao_str (st' := [⟨0, 31, 2, [[(.sl (List.map eRDecl p0.decls)), (.sl (List.map eRProc p0.procs))]]⟩, ⟨0, 41, 2, [[(.sl (List.map eRDecl q3.1.decls)), (.sl (List.map eRSignature q3.1.funcs))]]⟩]) go0 ti41 rfl rfl rfl rfl rfl rfl (show 0 + 2 ≤ 2 by decide) rfl ?_
  refine ao_q (v := (.bool q3.2)) go0 rfl (aq_as rfl) ?_
  refine AO.done (hK2 _ ?_)
  refine AW.seq fun K4 hK4 => ?_
  refine AW.seq fun K5 hK5 => ?_
  refine AW.regionO (by rfl) ?_
  refine ao_q (v := (.bool q3.2)) go0 rfl (aq_mv rfl) ?_
  refine ao_q (v := (.bool (!q3.2))) go0 rfl (aq_not rfl) ?_
  refine AO.done (hK5 _ ?_)
  refine AW.cond' (b := !q3.2) rfl (fun b6 => ?_) (fun b6 => ?_)
  · replace h0 := Sh.ite_t b6 h0
    have b7 : q3.2 = false := by simpa using b6
    refine AW.seq fun K8 hK8 => ?_
    refine AW.regionO (by rfl) ?_
    refine ao_q (v := (.bool false)) go0 rfl (aq_as rfl) ?_
    refine AO.done (hK8 _ ?_)
    replace h0 := Sh.some_eq h0
    subst r
    exact AW.ret (Exists.intro _ (And.intro ((Wk.permk (L := [(2, (.bool false))]) (st' := []) (st1 := []) [] rfl .nil (by decide) rfl rfl .nil ⟨.rfl, trivial⟩).trans (Wk.to (L := [(2, (.bool false))]) ⟨.rfl, trivial⟩)) (And.intro rfl rfl)))
  · replace h0 := Sh.ite_f b6 h0
    have b9 : q3.2 = true := by simpa using b6
    refine AW.skip (hK4 _ ?_)
    refine AW.seq fun K10 hK10 => ?_
    refine AW.seq fun K11 hK11 => ?_
    refine AW.regionO (by rfl) ?_
    refine ao_q (v := (.ptr 0 0 0 1)) go0 rfl (aq_fap fi31_1 rfl rfl (show 0 + 1 ≤ 2 by decide) rfl) ?_
    refine ao_q (v := (.sl (List.map eRProc p0.procs))) go0 rfl (aq_ldp ti29 rfl rfl rfl rfl) ?_
    refine ao_q (v := (i64 (Sh.len p0.procs))) go0 rfl (aq_lens sl29 rfl) ?_
    refine ao_q (v := (i64 0)) go0 rfl (aq_mv rfl) ?_
    refine AO.done (hK11 _ ?_)
    obtain ⟨o13, h1, h0⟩ := Sh.cont_some h0
    have M13 : ∀ (_ : Unit), o13 = Sum.inr () → ∀ s, Wk 0 s ⟨79, envL [], []⟩ → K10 s := by
      intro _ hq s hw
      subst o13
      try dsimp only at h0
      refine hK10 _ (AW.weaken hw ?_)
      refine AW.seq fun K14 hK14 => ?_
      refine AW.regionO (by rfl) ?_
      refine ao_q (v := (.bool true)) go0 rfl (aq_as rfl) ?_
      refine AO.done (hK14 _ ?_)
      replace h0 := Sh.some_eq h0
      subst r
      exact AW.ret (Exists.intro _ (And.intro (Wk.to (L := [(2, (.bool true))]) ⟨.rfl, trivial⟩) (And.intro rfl rfl)))
    refine AW.block (AW.loopF (σ := Int) (fun n v => impl_ValidImage_L1 N p0 q3 n v = some o13) (fun t12 => ⟨79, envL [(3, (.ptr 0 0 0 0)), (18, (.sl (List.map eRProc p0.procs))), (19, (i64 (Sh.len p0.procs))), (20, (i64 t12))], [⟨0, 41, 2, [[(.sl (List.map eRDecl q3.1.decls)), (.sl (List.map eRSignature q3.1.funcs))]]⟩]⟩) N 0 h1 (by refine Wk.trans (Wk.permk (L := [(3, (.ptr 0 0 0 0)), (18, (.sl (List.map eRProc p0.procs))), (19, (i64 (Sh.len p0.procs))), (20, (i64 0))]) (st' := [⟨0, 41, 2, [[(.sl (List.map eRDecl q3.1.decls)), (.sl (List.map eRSignature q3.1.funcs))]]⟩]) (st1 := [⟨0, 41, 2, [[(.sl (List.map eRDecl q3.1.decls)), (.sl (List.map eRSignature q3.1.funcs))]]⟩]) [1] rfl .nil (by decide) rfl rfl (.raw rfl rfl .nil) ⟨.rfl, .rfl, .rfl, .rfl, trivial⟩) ?_; exact Wk.to (L := [(3, (.ptr 0 0 0 0)), (18, (.sl (List.map eRProc p0.procs))), (19, (i64 (Sh.len p0.procs))), (20, (i64 0))]) ⟨.rfl, .rfl, .rfl, .rfl, trivial⟩) (fun _ hv => by rw [impl_ValidImage_L1] at hv; cases hv) ?_)
    rintro n t12 h1
    try dsimp only at h1 ⊢
    rw [impl_ValidImage_L1] at h1
    refine AW.seq fun K15 hK15 => ?_
    refine AW.regionO (by rfl) ?_
    refine ao_q (v := (.bool (decide (t12 < (Sh.len p0.procs))))) go0 rfl (aq_lt rfl rfl) ?_
    refine AO.done (hK15 _ ?_)
    refine AW.seq fun K16 hK16 => ?_
    refine AW.cond' (b := decide (t12 < (Sh.len p0.procs))) rfl (fun b17 => ?_) (fun b17 => ?_)
    · replace h1 := Sh.ite_t b17 h1
      refine AW.skip (hK16 _ ?_)
      refine AW.seq fun K18 hK18 => ?_
      refine AW.block ?_
      refine AW.seq fun K19 hK19 => ?_
      refine AW.regionO (by rfl) ?_
      obtain ⟨c20, gc20, h1⟩ := Sh.bind_some h1
      refine ao_q (v := (.iptr (eRProc c20) 0)) go0 rfl (aq_ixs ei29 rfl rfl gc20 rfl) ?_
      refine ao_q (v := (.agg [(.sl (List.map eI c20.params)), (.sl (List.map eI c20.lent)), (i64 c20.result), (i64 c20.regs), (.sl (List.map eRInstr c20.code))])) go0 rfl (aq_ldia ti47 rfl (show 0 + 5 ≤ 5 by decide) rfl) ?_
      refine ao_alloc (m := 1) (st' := [⟨0, 41, 2, [[(.sl (List.map eRDecl q3.1.decls)), (.sl (List.map eRSignature q3.1.funcs))]]⟩, ⟨0, 47, 5, [[.zc, .zc, (i64 0), (i64 0), .zc]]⟩]) go0 zi47 rfl rfl ?_
      refine ao_str (st' := [⟨0, 41, 2, [[(.sl (List.map eRDecl q3.1.decls)), (.sl (List.map eRSignature q3.1.funcs))]]⟩, ⟨0, 47, 5, [[(.sl (List.map eI c20.params)), (.sl (List.map eI c20.lent)), (i64 c20.result), (i64 c20.regs), (.sl (List.map eRInstr c20.code))]]⟩]) go0 ti47 rfl rfl rfl rfl rfl rfl (show 0 + 5 ≤ 5 by decide) rfl ?_
      refine AO.done (hK19 _ ?_)
      refine AW.seq fun K21 hK21 => ?_
      refine AW.seq fun K22 hK22 => ?_
      obtain ⟨o24, h2, h1⟩ := Sh.bind_some h1
      have M24 : ∀ (t23 : Bool), o24 = t23 → ∀ s, Wk 0 s ⟨79, envL [(3, (.ptr 0 0 0 0)), (6, (.ptr 1 0 0 0)), (18, (.sl (List.map eRProc p0.procs))), (19, (i64 (Sh.len p0.procs))), (20, (i64 t12)), (47, (.bool t23))], [⟨0, 41, 2, [[(.sl (List.map eRDecl q3.1.decls)), (.sl (List.map eRSignature q3.1.funcs))]]⟩, ⟨0, 47, 5, [[(.sl (List.map eI c20.params)), (.sl (List.map eI c20.lent)), (i64 c20.result), (i64 c20.regs), (.sl (List.map eRInstr c20.code))]]⟩]⟩ → K22 s := by
        intro t23 hq s hw
        subst o24
        try dsimp only at h1
        refine hK22 _ (AW.weaken hw ?_)
        refine AW.cond' (b := t23) rfl (fun b25 => ?_) (fun b25 => ?_)
        · replace h1 := Sh.ite_t b25 h1
          refine AW.seq fun K26 hK26 => ?_
          refine AW.regionO (by rfl) ?_
          refine ao_q (v := (.bool false)) go0 rfl (aq_as rfl) ?_
          refine AO.done (hK26 _ ?_)
          replace h1 := Sh.some_eq h1
          subst o13
          try dsimp only [id] at h0
          replace h0 := Sh.some_eq h0
          subst r
          exact AW.ret (Exists.intro _ (And.intro ((Wk.permk (L := [(2, (.bool false))]) (st' := []) (st1 := []) [] rfl .nil (by decide) rfl rfl .nil ⟨.rfl, trivial⟩).trans (Wk.to (L := [(2, (.bool false))]) ⟨.rfl, trivial⟩)) (And.intro rfl rfl)))
        · replace h1 := Sh.ite_f b25 h1
          refine AW.skip (hK21 _ ?_)
          refine AW.seq fun K27 hK27 => ?_
          refine AW.seq fun K28 hK28 => ?_
          refine AW.regionO (by rfl) ?_
          refine ao_q (v := (.ptr 1 0 0 4)) go0 rfl (aq_fap fi47_4 rfl rfl (show 0 + 4 ≤ 5 by decide) rfl) ?_
          refine ao_q (v := (.sl (List.map eRInstr c20.code))) go0 rfl (aq_ldp ti45 rfl rfl rfl rfl) ?_
          refine ao_q (v := (.ptr 1 0 0 4)) go0 rfl (aq_fap fi47_4 rfl rfl (show 0 + 4 ≤ 5 by decide) rfl) ?_
          refine ao_q (v := (.sl (List.map eRInstr c20.code))) go0 rfl (aq_ldp ti45 rfl rfl rfl rfl) ?_
          refine ao_q (v := (i64 (Sh.len c20.code))) go0 rfl (aq_lens sl45 rfl) ?_
          refine ao_q (v := (i64 (Sh.w ((Sh.len c20.code) - 1)))) go0 rfl (aq_sub rfl rfl) ?_
          obtain ⟨c29, gc29, h1⟩ := Sh.bind_some h1
          refine ao_q (v := (.iptr (eRInstr c29) 0)) go0 rfl (aq_ixs ei45 rfl rfl gc29 rfl) ?_
          refine ao_q (v := (.iptr (eRInstr c29) 0)) go0 rfl (aq_fai fi49_0 rfl rfl) ?_
          refine ao_q (v := (i64 c29.op)) go0 rfl (aq_ldi ti3 rfl rfl) ?_
          refine ao_q (v := (i64 c29.op)) go0 rfl (aq_as rfl) ?_
          refine AO.done (hK28 _ ?_)
          refine AW.seq fun K30 hK30 => ?_
          obtain ⟨o32, h2, h1⟩ := Sh.bind_some h1
          have M32 : ∀ (t31 : Bool), o32 = t31 → ∀ s, Wk 0 s ⟨79, envL [(3, (.ptr 0 0 0 0)), (6, (.ptr 1 0 0 0)), (18, (.sl (List.map eRProc p0.procs))), (19, (i64 (Sh.len p0.procs))), (20, (i64 t12)), (62, (.bool t31))], [⟨0, 41, 2, [[(.sl (List.map eRDecl q3.1.decls)), (.sl (List.map eRSignature q3.1.funcs))]]⟩, ⟨0, 47, 5, [[(.sl (List.map eI c20.params)), (.sl (List.map eI c20.lent)), (i64 c20.result), (i64 c20.regs), (.sl (List.map eRInstr c20.code))]]⟩]⟩ → K30 s := by
            intro t31 hq s hw
            subst o32
            try dsimp only at h1
            refine hK30 _ (AW.weaken hw ?_)
            refine AW.cond' (b := t31) rfl (fun b33 => ?_) (fun b33 => ?_)
            · replace h1 := Sh.ite_t b33 h1
              refine AW.seq fun K34 hK34 => ?_
              refine AW.regionO (by rfl) ?_
              refine ao_q (v := (.bool false)) go0 rfl (aq_as rfl) ?_
              refine AO.done (hK34 _ ?_)
              replace h1 := Sh.some_eq h1
              subst o13
              try dsimp only [id] at h0
              replace h0 := Sh.some_eq h0
              subst r
              exact AW.ret (Exists.intro _ (And.intro ((Wk.permk (L := [(2, (.bool false))]) (st' := []) (st1 := []) [] rfl .nil (by decide) rfl rfl .nil ⟨.rfl, trivial⟩).trans (Wk.to (L := [(2, (.bool false))]) ⟨.rfl, trivial⟩)) (And.intro rfl rfl)))
            · replace h1 := Sh.ite_f b33 h1
              refine AW.skip (hK27 _ ?_)
              refine AW.seq fun K35 hK35 => ?_
              refine AW.regionO (by rfl) ?_
              refine ao_q (v := (.ptr 1 0 0 4)) go0 rfl (aq_fap fi47_4 rfl rfl (show 0 + 4 ≤ 5 by decide) rfl) ?_
              refine ao_q (v := (.sl (List.map eRInstr c20.code))) go0 rfl (aq_ldp ti45 rfl rfl rfl rfl) ?_
              refine ao_q (v := (i64 (Sh.len c20.code))) go0 rfl (aq_lens sl45 rfl) ?_
              refine ao_q (v := (i64 0)) go0 rfl (aq_mv rfl) ?_
              refine AO.done (hK35 _ ?_)
              obtain ⟨o37, h2, h1⟩ := Sh.cont_some h1
              have M37 : ∀ (_ : Unit), o37 = Sum.inr () → ∀ s, Wk 0 s ⟨79, envL [(3, (.ptr 0 0 0 0)), (18, (.sl (List.map eRProc p0.procs))), (19, (i64 (Sh.len p0.procs))), (20, (i64 t12))], [⟨0, 41, 2, [[(.sl (List.map eRDecl q3.1.decls)), (.sl (List.map eRSignature q3.1.funcs))]]⟩]⟩ → K18 s := by
                intro _ hq s hw
                subst o37
                try dsimp only at h1
                refine hK18 _ (AW.weaken hw ?_)
                refine AW.regionO (by rfl) ?_
                refine ao_q (v := (i64 (Sh.w (t12 + 1)))) go0 rfl (aq_add rfl rfl) ?_
                refine ao_q (v := (i64 (Sh.w (t12 + 1)))) go0 rfl (aq_mv rfl) ?_
                exact AO.done (Exists.intro (Sh.w (t12 + 1)) (And.intro h1 (Wk.to (L := [(3, (.ptr 0 0 0 0)), (18, (.sl (List.map eRProc p0.procs))), (19, (i64 (Sh.len p0.procs))), (20, (i64 (Sh.w (t12 + 1))))]) ⟨.rfl, .rfl, .rfl, .rfl, trivial⟩)))
              refine AW.block (AW.loopF (σ := Int) (fun n v => impl_ValidImage_L2 N c20 q3 n v = some o37) (fun t36 => ⟨79, envL [(3, (.ptr 0 0 0 0)), (6, (.ptr 1 0 0 0)), (18, (.sl (List.map eRProc p0.procs))), (19, (i64 (Sh.len p0.procs))), (20, (i64 t12)), (64, (.sl (List.map eRInstr c20.code))), (65, (i64 (Sh.len c20.code))), (66, (i64 t36))], [⟨0, 41, 2, [[(.sl (List.map eRDecl q3.1.decls)), (.sl (List.map eRSignature q3.1.funcs))]]⟩, ⟨0, 47, 5, [[(.sl (List.map eI c20.params)), (.sl (List.map eI c20.lent)), (i64 c20.result), (i64 c20.regs), (.sl (List.map eRInstr c20.code))]]⟩]⟩) N 0 h2 (Wk.to (L := [(3, (.ptr 0 0 0 0)), (6, (.ptr 1 0 0 0)), (18, (.sl (List.map eRProc p0.procs))), (19, (i64 (Sh.len p0.procs))), (20, (i64 t12)), (64, (.sl (List.map eRInstr c20.code))), (65, (i64 (Sh.len c20.code))), (66, (i64 0))]) ⟨.rfl, .rfl, .rfl, .rfl, .rfl, .rfl, .rfl, .rfl, trivial⟩) (fun _ hv => by rw [impl_ValidImage_L2] at hv; cases hv) ?_)
              rintro n t36 h2
              try dsimp only at h2 ⊢
              rw [impl_ValidImage_L2] at h2
              refine AW.seq fun K38 hK38 => ?_
              refine AW.regionO (by rfl) ?_
              refine ao_q (v := (.bool (decide (t36 < (Sh.len c20.code))))) go0 rfl (aq_lt rfl rfl) ?_
              refine AO.done (hK38 _ ?_)
              refine AW.seq fun K39 hK39 => ?_
              refine AW.cond' (b := decide (t36 < (Sh.len c20.code))) rfl (fun b40 => ?_) (fun b40 => ?_)
              · replace h2 := Sh.ite_t b40 h2
                refine AW.skip (hK39 _ ?_)
                refine AW.seq fun K41 hK41 => ?_
                refine AW.block ?_
                refine AW.seq fun K42 hK42 => ?_
                refine AW.regionO (by rfl) ?_
                refine ao_q (v := (i64 t36)) go0 rfl (aq_mv rfl) ?_
                obtain ⟨c43, gc43, h2⟩ := Sh.bind_some h2
                refine ao_q (v := (.iptr (eRInstr c43) 0)) go0 rfl (aq_ixs ei45 rfl rfl gc43 rfl) ?_
                refine ao_q (v := (.agg [(i64 c43.op), (i64 c43.dst), (i64 c43.num), (i64 c43.into), (.sl (List.map eI c43.args)), (.sl (List.map eI c43.jumps))])) go0 rfl (aq_ldia ti49 rfl (show 0 + 6 ≤ 6 by decide) rfl) ?_
                refine ao_alloc (m := 2) (st' := [⟨0, 41, 2, [[(.sl (List.map eRDecl q3.1.decls)), (.sl (List.map eRSignature q3.1.funcs))]]⟩, ⟨0, 47, 5, [[(.sl (List.map eI c20.params)), (.sl (List.map eI c20.lent)), (i64 c20.result), (i64 c20.regs), (.sl (List.map eRInstr c20.code))]]⟩, ⟨0, 49, 6, [[(i64 0), (i64 0), (i64 0), (i64 0), .zc, .zc]]⟩]) go0 zi49 rfl rfl ?_
                refine ao_q (v := (i64 t36)) go0 rfl (aq_as rfl) ?_
                refine ao_str (st' := [⟨0, 41, 2, [[(.sl (List.map eRDecl q3.1.decls)), (.sl (List.map eRSignature q3.1.funcs))]]⟩, ⟨0, 47, 5, [[(.sl (List.map eI c20.params)), (.sl (List.map eI c20.lent)), (i64 c20.result), (i64 c20.regs), (.sl (List.map eRInstr c20.code))]]⟩, ⟨0, 49, 6, [[(i64 c43.op), (i64 c43.dst), (i64 c43.num), (i64 c43.into), (.sl (List.map eI c43.args)), (.sl (List.map eI c43.jumps))]]⟩]) go0 ti49 rfl rfl rfl rfl rfl rfl (show 0 + 6 ≤ 6 by decide) rfl ?_
                refine AO.done (hK42 _ ?_)
                refine AW.seq fun K44 hK44 => ?_
                refine AW.regionO (by rfl) ?_
                refine ao_q (v := (.agg [(.sl (List.map eRDecl q3.1.decls)), (.sl (List.map eRSignature q3.1.funcs))])) go0 rfl (aq_ldpa ti41 rfl rfl rfl (show 0 + 2 ≤ 2 by decide) rfl) ?_
                refine ao_q (v := (.agg [(.sl (List.map eI c20.params)), (.sl (List.map eI c20.lent)), (i64 c20.result), (i64 c20.regs), (.sl (List.map eRInstr c20.code))])) go0 rfl (aq_ldpa ti47 rfl rfl rfl (show 0 + 5 ≤ 5 by decide) rfl) ?_
                refine ao_q (v := (i64 t36)) go0 rfl (aq_mv rfl) ?_
                refine ao_q (v := (.agg [(i64 c43.op), (i64 c43.dst), (i64 c43.num), (i64 c43.into), (.sl (List.map eI c43.args)), (.sl (List.map eI c43.jumps))])) go0 rfl (aq_ldpa ti49 rfl rfl rfl (show 0 + 6 ≤ 6 by decide) rfl) ?_
                obtain ⟨q45, gq45, h2⟩ := Sh.bind_some h2
                refine ao_call (v' := (.bool q45)) (st' := [⟨0, 41, 2, [[(.sl (List.map eRDecl q3.1.decls)), (.sl (List.map eRSignature q3.1.funcs))]]⟩, ⟨0, 47, 5, [[(.sl (List.map eI c20.params)), (.sl (List.map eI c20.lent)), (i64 c20.result), (i64 c20.regs), (.sl (List.map eRInstr c20.code))]]⟩, ⟨0, 49, 6, [[(i64 c43.op), (i64 c43.dst), (i64 c43.num), (i64 c43.into), (.sl (List.map eI c43.args)), (.sl (List.map eI c43.jumps))]]⟩]) go0 hb15 (impl_signatures_instrValid_ok gq45) rfl rfl trivial rfl rfl ?_
                refine ao_q (v := (.bool (!q45))) go0 rfl (aq_not rfl) ?_
                refine AO.done (hK44 _ ?_)
                refine AW.cond' (b := !q45) rfl (fun b46 => ?_) (fun b46 => ?_)
                · replace h2 := Sh.ite_t b46 h2
                  have b47 : q45 = false := by simpa using b46
                  refine AW.seq fun K48 hK48 => ?_
                  refine AW.regionO (by rfl) ?_
                  refine ao_q (v := (.bool false)) go0 rfl (aq_as rfl) ?_
                  refine AO.done (hK48 _ ?_)
                  replace h2 := Sh.some_eq h2
                  subst o37
                  try dsimp only [id] at h1
                  replace h1 := Sh.some_eq h1
                  subst o13
                  try dsimp only [id] at h0
                  replace h0 := Sh.some_eq h0
                  subst r
                  exact AW.ret (Exists.intro _ (And.intro ((Wk.permk (L := [(2, (.bool false))]) (st' := []) (st1 := []) [] rfl .nil (by decide) rfl rfl .nil ⟨.rfl, trivial⟩).trans (Wk.to (L := [(2, (.bool false))]) ⟨.rfl, trivial⟩)) (And.intro rfl rfl)))
                · replace h2 := Sh.ite_f b46 h2
                  have b49 : q45 = true := by simpa using b46
                  refine AW.skip (hK41 _ ?_)
                  refine AW.regionO (by rfl) ?_
                  refine ao_q (v := (i64 (Sh.w (t36 + 1)))) go0 rfl (aq_add rfl rfl) ?_
                  refine ao_q (v := (i64 (Sh.w (t36 + 1)))) go0 rfl (aq_mv rfl) ?_
                  exact AO.done (Exists.intro (Sh.w (t36 + 1)) (And.intro h2 (by refine Wk.trans (Wk.permk (L := [(3, (.ptr 0 0 0 0)), (6, (.ptr 1 0 0 0)), (18, (.sl (List.map eRProc p0.procs))), (19, (i64 (Sh.len p0.procs))), (20, (i64 t12)), (64, (.sl (List.map eRInstr c20.code))), (65, (i64 (Sh.len c20.code))), (66, (i64 (Sh.w (t36 + 1))))]) (st' := [⟨0, 41, 2, [[(.sl (List.map eRDecl q3.1.decls)), (.sl (List.map eRSignature q3.1.funcs))]]⟩, ⟨0, 47, 5, [[(.sl (List.map eI c20.params)), (.sl (List.map eI c20.lent)), (i64 c20.result), (i64 c20.regs), (.sl (List.map eRInstr c20.code))]]⟩]) (st1 := [⟨0, 41, 2, [[(.sl (List.map eRDecl q3.1.decls)), (.sl (List.map eRSignature q3.1.funcs))]]⟩, ⟨0, 47, 5, [[(.sl (List.map eI c20.params)), (.sl (List.map eI c20.lent)), (i64 c20.result), (i64 c20.regs), (.sl (List.map eRInstr c20.code))]]⟩]) [0, 1] rfl .nil (by decide) rfl rfl (.raw rfl rfl (.raw rfl rfl .nil)) ⟨.rfl, .rfl, .rfl, .rfl, .rfl, .rfl, .rfl, .rfl, trivial⟩) ?_; exact Wk.to (L := [(3, (.ptr 0 0 0 0)), (6, (.ptr 1 0 0 0)), (18, (.sl (List.map eRProc p0.procs))), (19, (i64 (Sh.len p0.procs))), (20, (i64 t12)), (64, (.sl (List.map eRInstr c20.code))), (65, (i64 (Sh.len c20.code))), (66, (i64 (Sh.w (t36 + 1))))]) ⟨.rfl, .rfl, .rfl, .rfl, .rfl, .rfl, .rfl, .rfl, trivial⟩)))
              · replace h2 := Sh.ite_f b40 h2
                exact AW.exit (M37 () (Sh.some_eq h2).symm _ (by refine Wk.trans (Wk.permk (L := [(3, (.ptr 0 0 0 0)), (18, (.sl (List.map eRProc p0.procs))), (19, (i64 (Sh.len p0.procs))), (20, (i64 t12))]) (st' := [⟨0, 41, 2, [[(.sl (List.map eRDecl q3.1.decls)), (.sl (List.map eRSignature q3.1.funcs))]]⟩]) (st1 := [⟨0, 41, 2, [[(.sl (List.map eRDecl q3.1.decls)), (.sl (List.map eRSignature q3.1.funcs))]]⟩]) [0] rfl .nil (by decide) rfl rfl (.raw rfl rfl .nil) ⟨.rfl, .rfl, .rfl, .rfl, trivial⟩) ?_; exact Wk.to (L := [(3, (.ptr 0 0 0 0)), (18, (.sl (List.map eRProc p0.procs))), (19, (i64 (Sh.len p0.procs))), (20, (i64 t12))]) ⟨.rfl, .rfl, .rfl, .rfl, trivial⟩))
          refine AW.regionO (by rfl) ?_
          refine ao_q (v := (i64 c29.op)) go0 rfl (aq_mv rfl) ?_
          refine ao_q (v := (.bool (!decide (c29.op = 23)))) go0 rfl (aq_ne rfl rfl) ?_
          refine ao_q (v := (.bool (!decide (c29.op = 23)))) go0 rfl (aq_mv rfl) ?_
          rcases Sh.ite_some h2 with ⟨b50, h2⟩ | ⟨b50, h2⟩
          · skip
            refine ao_q (v := (i64 c29.op)) (go1 rfl rfl b50) rfl (aq_mv rfl) ?_
            refine ao_q (v := (.bool (!decide (c29.op = 24)))) (go1 rfl rfl b50) rfl (aq_ne rfl rfl) ?_
            refine ao_q (v := (.bool (!decide (c29.op = 24)))) go0 rfl (aq_pkt rfl b50 rfl) ?_
            exact AO.done (M32 (!decide (c29.op = 24)) (Sh.some_eq h2).symm _ (Wk.to (L := [(3, (.ptr 0 0 0 0)), (6, (.ptr 1 0 0 0)), (18, (.sl (List.map eRProc p0.procs))), (19, (i64 (Sh.len p0.procs))), (20, (i64 t12)), (62, (.bool (!decide (c29.op = 24))))]) ⟨.rfl, .rfl, .rfl, .rfl, .rfl, .rfl, trivial⟩))
          · skip
            refine ao_skip rfl rfl b50 ?_
            refine ao_skip rfl rfl b50 ?_
            refine ao_q (v := (.bool false)) go0 rfl (aq_pkf rfl b50 rfl) ?_
            exact AO.done (M32 false (Sh.some_eq h2).symm _ (Wk.to (L := [(3, (.ptr 0 0 0 0)), (6, (.ptr 1 0 0 0)), (18, (.sl (List.map eRProc p0.procs))), (19, (i64 (Sh.len p0.procs))), (20, (i64 t12)), (62, (.bool false))]) ⟨.rfl, .rfl, .rfl, .rfl, .rfl, .rfl, trivial⟩))
      refine AW.regionO (by rfl) ?_
      refine ao_q (v := (.ptr 1 0 0 3)) go0 rfl (aq_fap fi47_3 rfl rfl (show 0 + 3 ≤ 5 by decide) rfl) ?_
      refine ao_q (v := (i64 c20.regs)) go0 rfl (aq_ldp ti3 rfl rfl rfl rfl) ?_
      refine ao_q (v := (.ptr 1 0 0 0)) go0 rfl (aq_fap fi47_0 rfl rfl (show 0 + 0 ≤ 5 by decide) rfl) ?_
      refine ao_q (v := (.sl (List.map eI c20.params))) go0 rfl (aq_ldp ti44 rfl rfl rfl rfl) ?_
      refine ao_q (v := (i64 (Sh.len c20.params))) go0 rfl (aq_lens sl44 rfl) ?_
      refine ao_q (v := (i64 (if (Sh.len c20.params) > 1 then (Sh.len c20.params) else 1))) go0 rfl (aq_max rfl rfl) ?_
      refine ao_q (v := (.bool (decide (c20.regs < (if (Sh.len c20.params) > 1 then (Sh.len c20.params) else 1))))) go0 rfl (aq_lt rfl rfl) ?_
      refine ao_q (v := (.bool (decide (c20.regs < (if (Sh.len c20.params) > 1 then (Sh.len c20.params) else 1))))) go0 rfl (aq_mv rfl) ?_
      rcases Sh.ite_some h2 with ⟨b51, h2⟩ | ⟨b51, h2⟩
      · skip
        refine ao_skip rfl rfl b51 ?_
        refine ao_skip rfl rfl b51 ?_
        refine ao_skip rfl rfl b51 ?_
        refine ao_q (v := (.bool true)) go0 rfl (aq_pkt rfl b51 rfl) ?_
        refine ao_q (v := (.bool true)) go0 rfl (aq_mv rfl) ?_
        refine ao_skip rfl rfl rfl ?_
        refine ao_skip rfl rfl rfl ?_
        refine ao_skip rfl rfl rfl ?_
        refine ao_skip rfl rfl rfl ?_
        refine ao_q (v := (.bool true)) go0 rfl (aq_pkt rfl rfl rfl) ?_
        refine ao_q (v := (.bool true)) go0 rfl (aq_mv rfl) ?_
        refine ao_skip rfl rfl rfl ?_
        refine ao_skip rfl rfl rfl ?_
        refine ao_skip rfl rfl rfl ?_
        refine ao_skip rfl rfl rfl ?_
        refine ao_q (v := (.bool true)) go0 rfl (aq_pkt rfl rfl rfl) ?_
        exact AO.done (M24 true (Sh.some_eq h2).symm _ (Wk.to (L := [(3, (.ptr 0 0 0 0)), (6, (.ptr 1 0 0 0)), (18, (.sl (List.map eRProc p0.procs))), (19, (i64 (Sh.len p0.procs))), (20, (i64 t12)), (47, (.bool true))]) ⟨.rfl, .rfl, .rfl, .rfl, .rfl, .rfl, trivial⟩))
      · skip
        refine ao_q (v := (.ptr 1 0 0 3)) (go1 rfl rfl b51) rfl (aq_fap fi47_3 rfl rfl (show 0 + 3 ≤ 5 by decide) rfl) ?_
        refine ao_q (v := (i64 c20.regs)) (go1 rfl rfl b51) rfl (aq_ldp ti3 rfl rfl rfl rfl) ?_
        refine ao_q (v := (.bool (decide (2000 < c20.regs)))) (go1 rfl rfl b51) rfl (aq_gt rfl rfl) ?_
        refine ao_q (v := (.bool (decide (2000 < c20.regs)))) go0 rfl (aq_pkf rfl b51 rfl) ?_
        refine ao_q (v := (.bool (decide (2000 < c20.regs)))) go0 rfl (aq_mv rfl) ?_
        rcases Sh.ite_some h2 with ⟨b52, h2⟩ | ⟨b52, h2⟩
        · skip
          refine ao_skip rfl rfl b52 ?_
          refine ao_skip rfl rfl b52 ?_
          refine ao_skip rfl rfl b52 ?_
          refine ao_skip rfl rfl b52 ?_
          refine ao_q (v := (.bool true)) go0 rfl (aq_pkt rfl b52 rfl) ?_
          refine ao_q (v := (.bool true)) go0 rfl (aq_mv rfl) ?_
          refine ao_skip rfl rfl rfl ?_
          refine ao_skip rfl rfl rfl ?_
          refine ao_skip rfl rfl rfl ?_
          refine ao_skip rfl rfl rfl ?_
          refine ao_q (v := (.bool true)) go0 rfl (aq_pkt rfl rfl rfl) ?_
          exact AO.done (M24 true (Sh.some_eq h2).symm _ (Wk.to (L := [(3, (.ptr 0 0 0 0)), (6, (.ptr 1 0 0 0)), (18, (.sl (List.map eRProc p0.procs))), (19, (i64 (Sh.len p0.procs))), (20, (i64 t12)), (47, (.bool true))]) ⟨.rfl, .rfl, .rfl, .rfl, .rfl, .rfl, trivial⟩))
        · skip
          refine ao_q (v := (.ptr 1 0 0 4)) (go1 rfl rfl b52) rfl (aq_fap fi47_4 rfl rfl (show 0 + 4 ≤ 5 by decide) rfl) ?_
          refine ao_q (v := (.sl (List.map eRInstr c20.code))) (go1 rfl rfl b52) rfl (aq_ldp ti45 rfl rfl rfl rfl) ?_
          refine ao_q (v := (i64 (Sh.len c20.code))) (go1 rfl rfl b52) rfl (aq_lens sl45 rfl) ?_
          refine ao_q (v := (.bool (decide ((Sh.len c20.code) < 1)))) (go1 rfl rfl b52) rfl (aq_lt rfl rfl) ?_
          refine ao_q (v := (.bool (decide ((Sh.len c20.code) < 1)))) go0 rfl (aq_pkf rfl b52 rfl) ?_
          refine ao_q (v := (.bool (decide ((Sh.len c20.code) < 1)))) go0 rfl (aq_mv rfl) ?_
          rcases Sh.ite_some h2 with ⟨b53, h2⟩ | ⟨b53, h2⟩
          · skip
            refine ao_skip rfl rfl b53 ?_
            refine ao_skip rfl rfl b53 ?_
            refine ao_skip rfl rfl b53 ?_
            refine ao_skip rfl rfl b53 ?_
            refine ao_q (v := (.bool true)) go0 rfl (aq_pkt rfl b53 rfl) ?_
            exact AO.done (M24 true (Sh.some_eq h2).symm _ (Wk.to (L := [(3, (.ptr 0 0 0 0)), (6, (.ptr 1 0 0 0)), (18, (.sl (List.map eRProc p0.procs))), (19, (i64 (Sh.len p0.procs))), (20, (i64 t12)), (47, (.bool true))]) ⟨.rfl, .rfl, .rfl, .rfl, .rfl, .rfl, trivial⟩))
          · skip
            refine ao_q (v := (.ptr 1 0 0 4)) (go1 rfl rfl b53) rfl (aq_fap fi47_4 rfl rfl (show 0 + 4 ≤ 5 by decide) rfl) ?_
            refine ao_q (v := (.sl (List.map eRInstr c20.code))) (go1 rfl rfl b53) rfl (aq_ldp ti45 rfl rfl rfl rfl) ?_
            refine ao_q (v := (i64 (Sh.len c20.code))) (go1 rfl rfl b53) rfl (aq_lens sl45 rfl) ?_
            refine ao_q (v := (.bool (decide (2000 < (Sh.len c20.code))))) (go1 rfl rfl b53) rfl (aq_gt rfl rfl) ?_
            refine ao_q (v := (.bool (decide (2000 < (Sh.len c20.code))))) go0 rfl (aq_pkf rfl b53 rfl) ?_
            exact AO.done (M24 (decide (2000 < (Sh.len c20.code))) (Sh.some_eq h2).symm _ (Wk.to (L := [(3, (.ptr 0 0 0 0)), (6, (.ptr 1 0 0 0)), (18, (.sl (List.map eRProc p0.procs))), (19, (i64 (Sh.len p0.procs))), (20, (i64 t12)), (47, (.bool (decide (2000 < (Sh.len c20.code)))))]) ⟨.rfl, .rfl, .rfl, .rfl, .rfl, .rfl, trivial⟩))
    · replace h1 := Sh.ite_f b17 h1
      exact AW.exit (M13 () (Sh.some_eq h1).symm _ (by refine Wk.trans (Wk.permk (L := []) (st' := []) (st1 := []) [] rfl .nil (by decide) rfl rfl .nil trivial) ?_; exact Wk.to (L := []) trivial))

set_option maxRecDepth 100000 in
set_option maxHeartbeats 4000000 in
theorem laws_eqIntS_ok {N : Nat} {p0 : (List Int)} {p1 : (List Int)} {r : Bool} (h0 : laws_eqIntS N p0 p1 = some r) : ACalls Try.prog 53 [(.sl (List.map eI p0)), (.sl (List.map eI p1))] [] (fun v st => v = (.bool r) ∧ st = []) := by
  unfold laws_eqIntS at h0
  refine ACalls.intro Try.func53 rfl (by show 2 ≤ 26; decide) ?_
  show AW _ 0 _ (aret _ 0 Try.f53 _) ⟨26, _, _⟩
  refine AW.weaken (Wk.to (L := [(0, (.sl (List.map eI p0))), (1, (.sl (List.map eI p1)))]) ⟨.rfl, .rfl, trivial⟩) ?_
  refine AW.seq fun K1 hK1 => ?_
  refine AW.regionO (by rfl) ?_
  refine ao_q (v := (.bool false)) go0 rfl (aq_as rfl) ?_
  refine AO.done (hK1 _ ?_)
  refine AW.seq fun K2 hK2 => ?_
  refine AW.seq fun K3 hK3 => ?_
  refine AW.regionO (by rfl) ?_
  refine ao_q (v := (.sl (List.map eI p0))) go0 rfl (aq_mv rfl) ?_
  refine ao_q (v := (i64 (Sh.len p0))) go0 rfl (aq_lens sl44 rfl) ?_
  refine ao_q (v := (.sl (List.map eI p1))) go0 rfl (aq_mv rfl) ?_
  refine ao_q (v := (i64 (Sh.len p1))) go0 rfl (aq_lens sl44 rfl) ?_
  refine ao_q (v := (.bool (!decide ((Sh.len p0) = (Sh.len p1))))) go0 rfl (aq_ne rfl rfl) ?_
  refine AO.done (hK3 _ ?_)
  refine AW.cond' (b := !decide ((Sh.len p0) = (Sh.len p1))) rfl (fun b4 => ?_) (fun b4 => ?_)
  · replace h0 := Sh.ite_t b4 h0
    have b5 : decide ((Sh.len p0) = (Sh.len p1)) = false := by simpa using b4
    refine AW.seq fun K6 hK6 => ?_
    refine AW.regionO (by rfl) ?_
    refine ao_q (v := (.bool false)) go0 rfl (aq_as rfl) ?_
    refine AO.done (hK6 _ ?_)
    replace h0 := Sh.some_eq h0
    subst r
    exact AW.ret (Exists.intro _ (And.intro (Wk.to (L := [(4, (.bool false))]) ⟨.rfl, trivial⟩) (And.intro rfl rfl)))
  · replace h0 := Sh.ite_f b4 h0
    have b7 : decide ((Sh.len p0) = (Sh.len p1)) = true := by simpa using b4
    refine AW.skip (hK2 _ ?_)
    refine AW.seq fun K8 hK8 => ?_
    refine AW.seq fun K9 hK9 => ?_
    refine AW.regionO (by rfl) ?_
    refine ao_q (v := (i64 0)) go0 rfl (aq_as rfl) ?_
    refine AO.done (hK9 _ ?_)
    obtain ⟨o11, h1, h0⟩ := Sh.cont_some h0
    have M11 : ∀ (_ : Unit), o11 = Sum.inr () → ∀ s, Wk 0 s ⟨26, envL [], []⟩ → K8 s := by
      intro _ hq s hw
      subst o11
      try dsimp only at h0
      refine hK8 _ (AW.weaken hw ?_)
      refine AW.seq fun K12 hK12 => ?_
      refine AW.regionO (by rfl) ?_
      refine ao_q (v := (.bool true)) go0 rfl (aq_as rfl) ?_
      refine AO.done (hK12 _ ?_)
      replace h0 := Sh.some_eq h0
      subst r
      exact AW.ret (Exists.intro _ (And.intro (Wk.to (L := [(4, (.bool true))]) ⟨.rfl, trivial⟩) (And.intro rfl rfl)))
    refine AW.block (AW.loopF (σ := Int) (fun n v => laws_eqIntS_L1 p0 p1 n v = some o11) (fun i10 => ⟨26, envL [(0, (.sl (List.map eI p0))), (1, (.sl (List.map eI p1))), (5, (i64 i10))], []⟩) N 0 h1 (Wk.to (L := [(0, (.sl (List.map eI p0))), (1, (.sl (List.map eI p1))), (5, (i64 0))]) ⟨.rfl, .rfl, .rfl, trivial⟩) (fun _ hv => by rw [laws_eqIntS_L1] at hv; cases hv) ?_)
    rintro n i10 h1
    try dsimp only at h1 ⊢
    rw [laws_eqIntS_L1] at h1
    refine AW.seq fun K13 hK13 => ?_
    refine AW.seq fun K14 hK14 => ?_
    refine AW.regionO (by rfl) ?_
    refine ao_q (v := (i64 i10)) go0 rfl (aq_mv rfl) ?_
    refine ao_q (v := (.sl (List.map eI p0))) go0 rfl (aq_mv rfl) ?_
    refine ao_q (v := (i64 (Sh.len p0))) go0 rfl (aq_lens sl44 rfl) ?_
    refine ao_q (v := (.bool (decide (i10 < (Sh.len p0))))) go0 rfl (aq_lt rfl rfl) ?_
    refine AO.done (hK14 _ ?_)
    refine AW.cond' (b := decide (i10 < (Sh.len p0))) rfl (fun b15 => ?_) (fun b15 => ?_)
    · replace h1 := Sh.ite_t b15 h1
      refine AW.skip (hK13 _ ?_)
      refine AW.seq fun K16 hK16 => ?_
      refine AW.block ?_
      refine AW.seq fun K17 hK17 => ?_
      refine AW.draw (by kernel_rfl) (by kernel_rfl) (by rfl) ?_
      refine d_q (v := (.sl (List.map eI p0))) go0 rfl (aq_mv rfl) ?_
      refine d_q (v := (i64 i10)) go0 rfl (aq_mv rfl) ?_
      obtain ⟨c18, gc18, h1⟩ := Sh.bind_some h1
      refine d_q (v := (.iptr (eI c18) 0)) go0 rfl (aq_ixs ei44 rfl rfl gc18 rfl) ?_
      refine d_q (v := (i64 c18)) go0 rfl (aq_ldi ti3 rfl rfl) ?_
      refine d_q (v := (.sl (List.map eI p1))) go0 rfl (aq_mv rfl) ?_
      refine d_q (v := (i64 i10)) go0 rfl (aq_mv rfl) ?_
      obtain ⟨c19, gc19, h1⟩ := Sh.bind_some h1
      refine d_q (v := (.iptr (eI c19) 0)) go0 rfl (aq_ixs ei44 rfl rfl gc19 rfl) ?_
      refine d_q (v := (i64 c19)) go0 rfl (aq_ldi ti3 rfl rfl) ?_
      refine d_q (v := (.bool (!decide (c18 = c19)))) go0 rfl (aq_ne rfl rfl) ?_
      refine d_done (hK17 _ ?_)
      refine AW.cond' (b := !decide (c18 = c19)) rfl (fun b20 => ?_) (fun b20 => ?_)
      · replace h1 := Sh.ite_t b20 h1
        have b21 : decide (c18 = c19) = false := by simpa using b20
        refine AW.seq fun K22 hK22 => ?_
        refine AW.regionO (by rfl) ?_
        refine ao_q (v := (.bool false)) go0 rfl (aq_as rfl) ?_
        refine AO.done (hK22 _ ?_)
        replace h1 := Sh.some_eq h1
        subst o11
        try dsimp only [id] at h0
        replace h0 := Sh.some_eq h0
        subst r
        exact AW.ret (Exists.intro _ (And.intro (Wk.to (L := [(4, (.bool false))]) ⟨.rfl, trivial⟩) (And.intro rfl rfl)))
      · replace h1 := Sh.ite_f b20 h1
        have b23 : decide (c18 = c19) = true := by simpa using b20
        refine AW.skip (hK16 _ ?_)
        refine AW.regionO (by rfl) ?_
        refine ao_q (v := (i64 i10)) go0 rfl (aq_mv rfl) ?_
        refine ao_q (v := (i64 (Sh.w (i10 + 1)))) go0 rfl (aq_add rfl rfl) ?_
        refine ao_q (v := (i64 (Sh.w (i10 + 1)))) go0 rfl (aq_as rfl) ?_
        exact AO.done (Exists.intro (Sh.w (i10 + 1)) (And.intro h1 (Wk.to (L := [(0, (.sl (List.map eI p0))), (1, (.sl (List.map eI p1))), (5, (i64 (Sh.w (i10 + 1))))]) ⟨.rfl, .rfl, .rfl, trivial⟩)))
    · replace h1 := Sh.ite_f b15 h1
      exact AW.exit (M11 () (Sh.some_eq h1).symm _ (Wk.to (L := []) trivial))

set_option maxRecDepth 100000 in
set_option maxHeartbeats 4000000 in
theorem laws_eqCon_ok {N : Nat} {p0 : RCon} {p1 : RCon} {r : Bool} (h0 : laws_eqCon N p0 p1 = some r) : ACalls Try.prog 67 [(.agg [(.sl (List.map eI p0.fields))]), (.agg [(.sl (List.map eI p1.fields))])] [] (fun v st => v = (.bool r) ∧ st = []) := by
  unfold laws_eqCon at h0
  refine ACalls.intro Try.func67 rfl (by show 2 ≤ 11; decide) ?_
  show AW _ 0 _ (aret _ 0 Try.f67 _) ⟨11, _, _⟩
  refine AW.weaken (Wk.to (L := [(0, (.agg [(.sl (List.map eI p0.fields))])), (1, (.agg [(.sl (List.map eI p1.fields))]))]) ⟨.rfl, .rfl, trivial⟩) ?_
  refine AW.seq fun K1 hK1 => ?_
  refine AW.regionO (by rfl) ?_
  refine ao_box (m := 0) (st' := [⟨0, 112, 1, [[(.sl (List.map eI p0.fields))]]⟩]) go0 rfl rfl rfl rfl rfl ?_
  refine ao_box (m := 1) (st' := [⟨0, 112, 1, [[(.sl (List.map eI p0.fields))]]⟩, ⟨0, 112, 1, [[(.sl (List.map eI p1.fields))]]⟩]) go0 rfl rfl rfl rfl rfl ?_
  refine ao_q (v := (.bool false)) go0 rfl (aq_as rfl) ?_
  refine AO.done (hK1 _ ?_)
  refine AW.seq fun K2 hK2 => ?_
  refine AW.seq fun K3 hK3 => ?_
  refine AW.regionO (by rfl) ?_
  refine ao_q (v := (.ptr 0 0 0 0)) go0 rfl (aq_fap fi112_0 rfl rfl (show 0 + 0 ≤ 1 by decide) rfl) ?_
  refine ao_q (v := (.sl (List.map eI p0.fields))) go0 rfl (aq_ldp ti44 rfl rfl rfl rfl) ?_
  refine ao_q (v := (.ptr 1 0 0 0)) go0 rfl (aq_fap fi112_0 rfl rfl (show 0 + 0 ≤ 1 by decide) rfl) ?_
  refine ao_q (v := (.sl (List.map eI p1.fields))) go0 rfl (aq_ldp ti44 rfl rfl rfl rfl) ?_
  obtain ⟨q4, gq4, h0⟩ := Sh.bind_some h0
  refine ao_call (v' := (.bool q4)) (st' := [⟨0, 112, 1, [[(.sl (List.map eI p0.fields))]]⟩, ⟨0, 112, 1, [[(.sl (List.map eI p1.fields))]]⟩]) go0 hb53 (laws_eqIntS_ok gq4) rfl rfl trivial rfl rfl ?_
  refine ao_q (v := (.bool (!q4))) go0 rfl (aq_not rfl) ?_
  refine AO.done (hK3 _ ?_)
  refine AW.cond' (b := !q4) rfl (fun b5 => ?_) (fun b5 => ?_)
  · replace h0 := Sh.ite_t b5 h0
    have b6 : q4 = false := by simpa using b5
    refine AW.seq fun K7 hK7 => ?_
    refine AW.regionO (by rfl) ?_
    refine ao_q (v := (.bool false)) go0 rfl (aq_as rfl) ?_
    refine AO.done (hK7 _ ?_)
    replace h0 := Sh.some_eq h0
    subst r
    exact AW.ret (Exists.intro _ (And.intro ((Wk.permk (L := [(4, (.bool false))]) (st' := []) (st1 := []) [] rfl .nil (by decide) rfl rfl .nil ⟨.rfl, trivial⟩).trans (Wk.to (L := [(4, (.bool false))]) ⟨.rfl, trivial⟩)) (And.intro rfl rfl)))
  · replace h0 := Sh.ite_f b5 h0
    have b8 : q4 = true := by simpa using b5
    refine AW.skip (hK2 _ ?_)
    refine AW.seq fun K9 hK9 => ?_
    refine AW.regionO (by rfl) ?_
    refine ao_q (v := (.bool true)) go0 rfl (aq_as rfl) ?_
    refine AO.done (hK9 _ ?_)
    replace h0 := Sh.some_eq h0
    subst r
    exact AW.ret (Exists.intro _ (And.intro ((Wk.permk (L := [(4, (.bool true))]) (st' := []) (st1 := []) [] rfl .nil (by decide) rfl rfl .nil ⟨.rfl, trivial⟩).trans (Wk.to (L := [(4, (.bool true))]) ⟨.rfl, trivial⟩)) (And.intro rfl rfl)))

set_option maxRecDepth 100000 in
set_option maxHeartbeats 4000000 in
theorem laws_eqConS_ok {N : Nat} {p0 : (List RCon)} {p1 : (List RCon)} {r : Bool} (h0 : laws_eqConS N p0 p1 = some r) : ACalls Try.prog 52 [(.sl (List.map eRCon p0)), (.sl (List.map eRCon p1))] [] (fun v st => v = (.bool r) ∧ st = []) := by
  unfold laws_eqConS at h0
  refine ACalls.intro Try.func52 rfl (by show 2 ≤ 27; decide) ?_
  show AW _ 0 _ (aret _ 0 Try.f52 _) ⟨27, _, _⟩
  refine AW.weaken (Wk.to (L := [(0, (.sl (List.map eRCon p0))), (1, (.sl (List.map eRCon p1)))]) ⟨.rfl, .rfl, trivial⟩) ?_
  refine AW.seq fun K1 hK1 => ?_
  refine AW.regionO (by rfl) ?_
  refine ao_q (v := (.bool false)) go0 rfl (aq_as rfl) ?_
  refine AO.done (hK1 _ ?_)
  refine AW.seq fun K2 hK2 => ?_
  refine AW.seq fun K3 hK3 => ?_
  refine AW.regionO (by rfl) ?_
  refine ao_q (v := (.sl (List.map eRCon p0))) go0 rfl (aq_mv rfl) ?_
  refine ao_q (v := (i64 (Sh.len p0))) go0 rfl (aq_lens sl67 rfl) ?_
  refine ao_q (v := (.sl (List.map eRCon p1))) go0 rfl (aq_mv rfl) ?_
  refine ao_q (v := (i64 (Sh.len p1))) go0 rfl (aq_lens sl67 rfl) ?_
  refine ao_q (v := (.bool (!decide ((Sh.len p0) = (Sh.len p1))))) go0 rfl (aq_ne rfl rfl) ?_
  refine AO.done (hK3 _ ?_)
  refine AW.cond' (b := !decide ((Sh.len p0) = (Sh.len p1))) rfl (fun b4 => ?_) (fun b4 => ?_)
  · replace h0 := Sh.ite_t b4 h0
    have b5 : decide ((Sh.len p0) = (Sh.len p1)) = false := by simpa using b4
    refine AW.seq fun K6 hK6 => ?_
    refine AW.regionO (by rfl) ?_
    refine ao_q (v := (.bool false)) go0 rfl (aq_as rfl) ?_
    refine AO.done (hK6 _ ?_)
    replace h0 := Sh.some_eq h0
    subst r
    exact AW.ret (Exists.intro _ (And.intro (Wk.to (L := [(4, (.bool false))]) ⟨.rfl, trivial⟩) (And.intro rfl rfl)))
  · replace h0 := Sh.ite_f b4 h0
    have b7 : decide ((Sh.len p0) = (Sh.len p1)) = true := by simpa using b4
    refine AW.skip (hK2 _ ?_)
    refine AW.seq fun K8 hK8 => ?_
    refine AW.seq fun K9 hK9 => ?_
    refine AW.regionO (by rfl) ?_
    refine ao_q (v := (i64 0)) go0 rfl (aq_as rfl) ?_
    refine AO.done (hK9 _ ?_)
    obtain ⟨o11, h1, h0⟩ := Sh.cont_some h0
    have M11 : ∀ (_ : Unit), o11 = Sum.inr () → ∀ s, Wk 0 s ⟨27, envL [], []⟩ → K8 s := by
      intro _ hq s hw
      subst o11
      try dsimp only at h0
      refine hK8 _ (AW.weaken hw ?_)
      refine AW.seq fun K12 hK12 => ?_
      refine AW.regionO (by rfl) ?_
      refine ao_q (v := (.bool true)) go0 rfl (aq_as rfl) ?_
      refine AO.done (hK12 _ ?_)
      replace h0 := Sh.some_eq h0
      subst r
      exact AW.ret (Exists.intro _ (And.intro (Wk.to (L := [(4, (.bool true))]) ⟨.rfl, trivial⟩) (And.intro rfl rfl)))
    refine AW.block (AW.loopF (σ := Int) (fun n v => laws_eqConS_L1 N p0 p1 n v = some o11) (fun i10 => ⟨27, envL [(0, (.sl (List.map eRCon p0))), (1, (.sl (List.map eRCon p1))), (5, (i64 i10))], []⟩) N 0 h1 (Wk.to (L := [(0, (.sl (List.map eRCon p0))), (1, (.sl (List.map eRCon p1))), (5, (i64 0))]) ⟨.rfl, .rfl, .rfl, trivial⟩) (fun _ hv => by rw [laws_eqConS_L1] at hv; cases hv) ?_)
    rintro n i10 h1
    try dsimp only at h1 ⊢
    rw [laws_eqConS_L1] at h1
    refine AW.seq fun K13 hK13 => ?_
    refine AW.seq fun K14 hK14 => ?_
    refine AW.regionO (by rfl) ?_
    refine ao_q (v := (i64 i10)) go0 rfl (aq_mv rfl) ?_
    refine ao_q (v := (.sl (List.map eRCon p0))) go0 rfl (aq_mv rfl) ?_
    refine ao_q (v := (i64 (Sh.len p0))) go0 rfl (aq_lens sl67 rfl) ?_
    refine ao_q (v := (.bool (decide (i10 < (Sh.len p0))))) go0 rfl (aq_lt rfl rfl) ?_
    refine AO.done (hK14 _ ?_)
    refine AW.cond' (b := decide (i10 < (Sh.len p0))) rfl (fun b15 => ?_) (fun b15 => ?_)
    · replace h1 := Sh.ite_t b15 h1
      refine AW.skip (hK13 _ ?_)
      refine AW.seq fun K16 hK16 => ?_
      refine AW.block ?_
      refine AW.seq fun K17 hK17 => ?_
      refine AW.draw (by kernel_rfl) (by kernel_rfl) (by rfl) ?_
      refine d_q (v := (.sl (List.map eRCon p0))) go0 rfl (aq_mv rfl) ?_
      refine d_q (v := (i64 i10)) go0 rfl (aq_mv rfl) ?_
      obtain ⟨c18, gc18, h1⟩ := Sh.bind_some h1
      refine d_q (v := (.iptr (eRCon c18) 0)) go0 rfl (aq_ixs ei67 rfl rfl gc18 rfl) ?_
      refine d_q (v := (.agg [(.sl (List.map eI c18.fields))])) go0 rfl (aq_ldia ti112 rfl (show 0 + 1 ≤ 1 by decide) rfl) ?_
      refine d_q (v := (.sl (List.map eRCon p1))) go0 rfl (aq_mv rfl) ?_
      refine d_q (v := (i64 i10)) go0 rfl (aq_mv rfl) ?_
      obtain ⟨c19, gc19, h1⟩ := Sh.bind_some h1
      refine d_q (v := (.iptr (eRCon c19) 0)) go0 rfl (aq_ixs ei67 rfl rfl gc19 rfl) ?_
      refine d_q (v := (.agg [(.sl (List.map eI c19.fields))])) go0 rfl (aq_ldia ti112 rfl (show 0 + 1 ≤ 1 by decide) rfl) ?_
      obtain ⟨q20, gq20, h1⟩ := Sh.bind_some h1
      refine d_call (v := (.bool q20)) go0 hb67 (laws_eqCon_ok gq20) rfl rfl rfl ?_
      refine d_q (v := (.bool (!q20))) go0 rfl (aq_not rfl) ?_
      refine d_done (hK17 _ ?_)
      refine AW.cond' (b := !q20) rfl (fun b21 => ?_) (fun b21 => ?_)
      · replace h1 := Sh.ite_t b21 h1
        have b22 : q20 = false := by simpa using b21
        refine AW.seq fun K23 hK23 => ?_
        refine AW.regionO (by rfl) ?_
        refine ao_q (v := (.bool false)) go0 rfl (aq_as rfl) ?_
        refine AO.done (hK23 _ ?_)
        replace h1 := Sh.some_eq h1
        subst o11
        try dsimp only [id] at h0
        replace h0 := Sh.some_eq h0
        subst r
        exact AW.ret (Exists.intro _ (And.intro (Wk.to (L := [(4, (.bool false))]) ⟨.rfl, trivial⟩) (And.intro rfl rfl)))
      · replace h1 := Sh.ite_f b21 h1
        have b24 : q20 = true := by simpa using b21
        refine AW.skip (hK16 _ ?_)
        refine AW.regionO (by rfl) ?_
        refine ao_q (v := (i64 i10)) go0 rfl (aq_mv rfl) ?_
        refine ao_q (v := (i64 (Sh.w (i10 + 1)))) go0 rfl (aq_add rfl rfl) ?_
        refine ao_q (v := (i64 (Sh.w (i10 + 1)))) go0 rfl (aq_as rfl) ?_
        exact AO.done (Exists.intro (Sh.w (i10 + 1)) (And.intro h1 (Wk.to (L := [(0, (.sl (List.map eRCon p0))), (1, (.sl (List.map eRCon p1))), (5, (i64 (Sh.w (i10 + 1))))]) ⟨.rfl, .rfl, .rfl, trivial⟩)))
    · replace h1 := Sh.ite_f b15 h1
      exact AW.exit (M11 () (Sh.some_eq h1).symm _ (Wk.to (L := []) trivial))

set_option maxRecDepth 100000 in
set_option maxHeartbeats 4000000 in
theorem laws_eqDecl_ok {N : Nat} {p0 : RDecl} {p1 : RDecl} {r : Bool} (h0 : laws_eqDecl N p0 p1 = some r) : ACalls Try.prog 32 [(.agg [(i64 p0.from_), (i64 p0.to), (.sl (List.map eRCon p0.cons))]), (.agg [(i64 p1.from_), (i64 p1.to), (.sl (List.map eRCon p1.cons))])] [] (fun v st => v = (.bool r) ∧ st = []) := by
  unfold laws_eqDecl at h0
  refine ACalls.intro Try.func32 rfl (by show 2 ≤ 21; decide) ?_
  show AW _ 0 _ (aret _ 0 Try.f32 _) ⟨21, _, _⟩
  refine AW.weaken (Wk.to (L := [(0, (.agg [(i64 p0.from_), (i64 p0.to), (.sl (List.map eRCon p0.cons))])), (1, (.agg [(i64 p1.from_), (i64 p1.to), (.sl (List.map eRCon p1.cons))]))]) ⟨.rfl, .rfl, trivial⟩) ?_
  refine AW.seq fun K1 hK1 => ?_
  refine AW.regionO (by rfl) ?_
  refine ao_box (m := 0) (st' := [⟨0, 69, 3, [[(i64 p0.from_), (i64 p0.to), (.sl (List.map eRCon p0.cons))]]⟩]) go0 rfl rfl rfl rfl rfl ?_
  refine ao_box (m := 1) (st' := [⟨0, 69, 3, [[(i64 p0.from_), (i64 p0.to), (.sl (List.map eRCon p0.cons))]]⟩, ⟨0, 69, 3, [[(i64 p1.from_), (i64 p1.to), (.sl (List.map eRCon p1.cons))]]⟩]) go0 rfl rfl rfl rfl rfl ?_
  refine ao_q (v := (.bool false)) go0 rfl (aq_as rfl) ?_
  refine AO.done (hK1 _ ?_)
  refine AW.seq fun K2 hK2 => ?_
  refine AW.seq fun K3 hK3 => ?_
  refine AW.regionO (by rfl) ?_
  refine ao_q (v := (.ptr 0 0 0 0)) go0 rfl (aq_fap fi69_0 rfl rfl (show 0 + 0 ≤ 3 by decide) rfl) ?_
  refine ao_q (v := (i64 p0.from_)) go0 rfl (aq_ldp ti3 rfl rfl rfl rfl) ?_
  refine ao_q (v := (.ptr 1 0 0 0)) go0 rfl (aq_fap fi69_0 rfl rfl (show 0 + 0 ≤ 3 by decide) rfl) ?_
  refine ao_q (v := (i64 p1.from_)) go0 rfl (aq_ldp ti3 rfl rfl rfl rfl) ?_
  refine ao_q (v := (.bool (!decide (p0.from_ = p1.from_)))) go0 rfl (aq_ne rfl rfl) ?_
  refine AO.done (hK3 _ ?_)
  refine AW.cond' (b := !decide (p0.from_ = p1.from_)) rfl (fun b4 => ?_) (fun b4 => ?_)
  · replace h0 := Sh.ite_t b4 h0
    have b5 : decide (p0.from_ = p1.from_) = false := by simpa using b4
    refine AW.seq fun K6 hK6 => ?_
    refine AW.regionO (by rfl) ?_
    refine ao_q (v := (.bool false)) go0 rfl (aq_as rfl) ?_
    refine AO.done (hK6 _ ?_)
    replace h0 := Sh.some_eq h0
    subst r
    exact AW.ret (Exists.intro _ (And.intro ((Wk.permk (L := [(4, (.bool false))]) (st' := []) (st1 := []) [] rfl .nil (by decide) rfl rfl .nil ⟨.rfl, trivial⟩).trans (Wk.to (L := [(4, (.bool false))]) ⟨.rfl, trivial⟩)) (And.intro rfl rfl)))
  · replace h0 := Sh.ite_f b4 h0
    have b7 : decide (p0.from_ = p1.from_) = true := by simpa using b4
    refine AW.skip (hK2 _ ?_)
    refine AW.seq fun K8 hK8 => ?_
    refine AW.seq fun K9 hK9 => ?_
    refine AW.regionO (by rfl) ?_
    refine ao_q (v := (.ptr 0 0 0 1)) go0 rfl (aq_fap fi69_1 rfl rfl (show 0 + 1 ≤ 3 by decide) rfl) ?_
    refine ao_q (v := (i64 p0.to)) go0 rfl (aq_ldp ti3 rfl rfl rfl rfl) ?_
    refine ao_q (v := (.ptr 1 0 0 1)) go0 rfl (aq_fap fi69_1 rfl rfl (show 0 + 1 ≤ 3 by decide) rfl) ?_
    refine ao_q (v := (i64 p1.to)) go0 rfl (aq_ldp ti3 rfl rfl rfl rfl) ?_
    refine ao_q (v := (.bool (!decide (p0.to = p1.to)))) go0 rfl (aq_ne rfl rfl) ?_
    refine AO.done (hK9 _ ?_)
    refine AW.cond' (b := !decide (p0.to = p1.to)) rfl (fun b10 => ?_) (fun b10 => ?_)
    · replace h0 := Sh.ite_t b10 h0
      have b11 : decide (p0.to = p1.to) = false := by simpa using b10
      refine AW.seq fun K12 hK12 => ?_
      refine AW.regionO (by rfl) ?_
      refine ao_q (v := (.bool false)) go0 rfl (aq_as rfl) ?_
      refine AO.done (hK12 _ ?_)
      replace h0 := Sh.some_eq h0
      subst r
      exact AW.ret (Exists.intro _ (And.intro ((Wk.permk (L := [(4, (.bool false))]) (st' := []) (st1 := []) [] rfl .nil (by decide) rfl rfl .nil ⟨.rfl, trivial⟩).trans (Wk.to (L := [(4, (.bool false))]) ⟨.rfl, trivial⟩)) (And.intro rfl rfl)))
    · replace h0 := Sh.ite_f b10 h0
      have b13 : decide (p0.to = p1.to) = true := by simpa using b10
      refine AW.skip (hK8 _ ?_)
      refine AW.seq fun K14 hK14 => ?_
      refine AW.seq fun K15 hK15 => ?_
      refine AW.regionO (by rfl) ?_
      refine ao_q (v := (.ptr 0 0 0 2)) go0 rfl (aq_fap fi69_2 rfl rfl (show 0 + 2 ≤ 3 by decide) rfl) ?_
      refine ao_q (v := (.sl (List.map eRCon p0.cons))) go0 rfl (aq_ldp ti67 rfl rfl rfl rfl) ?_
      refine ao_q (v := (.ptr 1 0 0 2)) go0 rfl (aq_fap fi69_2 rfl rfl (show 0 + 2 ≤ 3 by decide) rfl) ?_
      refine ao_q (v := (.sl (List.map eRCon p1.cons))) go0 rfl (aq_ldp ti67 rfl rfl rfl rfl) ?_
      obtain ⟨q16, gq16, h0⟩ := Sh.bind_some h0
      refine ao_call (v' := (.bool q16)) (st' := [⟨0, 69, 3, [[(i64 p0.from_), (i64 p0.to), (.sl (List.map eRCon p0.cons))]]⟩, ⟨0, 69, 3, [[(i64 p1.from_), (i64 p1.to), (.sl (List.map eRCon p1.cons))]]⟩]) go0 hb52 (laws_eqConS_ok gq16) rfl rfl trivial rfl rfl ?_
      refine ao_q (v := (.bool (!q16))) go0 rfl (aq_not rfl) ?_
      refine AO.done (hK15 _ ?_)
      refine AW.cond' (b := !q16) rfl (fun b17 => ?_) (fun b17 => ?_)
      · replace h0 := Sh.ite_t b17 h0
        have b18 : q16 = false := by simpa using b17
        refine AW.seq fun K19 hK19 => ?_
        refine AW.regionO (by rfl) ?_
        refine ao_q (v := (.bool false)) go0 rfl (aq_as rfl) ?_
        refine AO.done (hK19 _ ?_)
        replace h0 := Sh.some_eq h0
        subst r
        exact AW.ret (Exists.intro _ (And.intro ((Wk.permk (L := [(4, (.bool false))]) (st' := []) (st1 := []) [] rfl .nil (by decide) rfl rfl .nil ⟨.rfl, trivial⟩).trans (Wk.to (L := [(4, (.bool false))]) ⟨.rfl, trivial⟩)) (And.intro rfl rfl)))
      · replace h0 := Sh.ite_f b17 h0
        have b20 : q16 = true := by simpa using b17
        refine AW.skip (hK14 _ ?_)
        refine AW.seq fun K21 hK21 => ?_
        refine AW.regionO (by rfl) ?_
        refine ao_q (v := (.bool true)) go0 rfl (aq_as rfl) ?_
        refine AO.done (hK21 _ ?_)
        replace h0 := Sh.some_eq h0
        subst r
        exact AW.ret (Exists.intro _ (And.intro ((Wk.permk (L := [(4, (.bool true))]) (st' := []) (st1 := []) [] rfl .nil (by decide) rfl rfl .nil ⟨.rfl, trivial⟩).trans (Wk.to (L := [(4, (.bool true))]) ⟨.rfl, trivial⟩)) (And.intro rfl rfl)))

set_option maxRecDepth 100000 in
set_option maxHeartbeats 4000000 in
theorem laws_eqDeclS_ok {N : Nat} {p0 : (List RDecl)} {p1 : (List RDecl)} {r : Bool} (h0 : laws_eqDeclS N p0 p1 = some r) : ACalls Try.prog 16 [(.sl (List.map eRDecl p0)), (.sl (List.map eRDecl p1))] [] (fun v st => v = (.bool r) ∧ st = []) := by
  unfold laws_eqDeclS at h0
  refine ACalls.intro Try.func16 rfl (by show 2 ≤ 27; decide) ?_
  show AW _ 0 _ (aret _ 0 Try.f16 _) ⟨27, _, _⟩
  refine AW.weaken (Wk.to (L := [(0, (.sl (List.map eRDecl p0))), (1, (.sl (List.map eRDecl p1)))]) ⟨.rfl, .rfl, trivial⟩) ?_
  refine AW.seq fun K1 hK1 => ?_
  refine AW.regionO (by rfl) ?_
  refine ao_q (v := (.bool false)) go0 rfl (aq_as rfl) ?_
  refine AO.done (hK1 _ ?_)
  refine AW.seq fun K2 hK2 => ?_
  refine AW.seq fun K3 hK3 => ?_
  refine AW.regionO (by rfl) ?_
  refine ao_q (v := (.sl (List.map eRDecl p0))) go0 rfl (aq_mv rfl) ?_
  refine ao_q (v := (i64 (Sh.len p0))) go0 rfl (aq_lens sl28 rfl) ?_
  refine ao_q (v := (.sl (List.map eRDecl p1))) go0 rfl (aq_mv rfl) ?_
  refine ao_q (v := (i64 (Sh.len p1))) go0 rfl (aq_lens sl28 rfl) ?_
  refine ao_q (v := (.bool (!decide ((Sh.len p0) = (Sh.len p1))))) go0 rfl (aq_ne rfl rfl) ?_
  refine AO.done (hK3 _ ?_)
  refine AW.cond' (b := !decide ((Sh.len p0) = (Sh.len p1))) rfl (fun b4 => ?_) (fun b4 => ?_)
  · replace h0 := Sh.ite_t b4 h0
    have b5 : decide ((Sh.len p0) = (Sh.len p1)) = false := by simpa using b4
    refine AW.seq fun K6 hK6 => ?_
    refine AW.regionO (by rfl) ?_
    refine ao_q (v := (.bool false)) go0 rfl (aq_as rfl) ?_
    refine AO.done (hK6 _ ?_)
    replace h0 := Sh.some_eq h0
    subst r
    exact AW.ret (Exists.intro _ (And.intro (Wk.to (L := [(4, (.bool false))]) ⟨.rfl, trivial⟩) (And.intro rfl rfl)))
  · replace h0 := Sh.ite_f b4 h0
    have b7 : decide ((Sh.len p0) = (Sh.len p1)) = true := by simpa using b4
    refine AW.skip (hK2 _ ?_)
    refine AW.seq fun K8 hK8 => ?_
    refine AW.seq fun K9 hK9 => ?_
    refine AW.regionO (by rfl) ?_
    refine ao_q (v := (i64 0)) go0 rfl (aq_as rfl) ?_
    refine AO.done (hK9 _ ?_)
    obtain ⟨o11, h1, h0⟩ := Sh.cont_some h0
    have M11 : ∀ (_ : Unit), o11 = Sum.inr () → ∀ s, Wk 0 s ⟨27, envL [], []⟩ → K8 s := by
      intro _ hq s hw
      subst o11
      try dsimp only at h0
      refine hK8 _ (AW.weaken hw ?_)
      refine AW.seq fun K12 hK12 => ?_
      refine AW.regionO (by rfl) ?_
      refine ao_q (v := (.bool true)) go0 rfl (aq_as rfl) ?_
      refine AO.done (hK12 _ ?_)
      replace h0 := Sh.some_eq h0
      subst r
      exact AW.ret (Exists.intro _ (And.intro (Wk.to (L := [(4, (.bool true))]) ⟨.rfl, trivial⟩) (And.intro rfl rfl)))
    refine AW.block (AW.loopF (σ := Int) (fun n v => laws_eqDeclS_L1 N p0 p1 n v = some o11) (fun i10 => ⟨27, envL [(0, (.sl (List.map eRDecl p0))), (1, (.sl (List.map eRDecl p1))), (5, (i64 i10))], []⟩) N 0 h1 (Wk.to (L := [(0, (.sl (List.map eRDecl p0))), (1, (.sl (List.map eRDecl p1))), (5, (i64 0))]) ⟨.rfl, .rfl, .rfl, trivial⟩) (fun _ hv => by rw [laws_eqDeclS_L1] at hv; cases hv) ?_)
    rintro n i10 h1
    try dsimp only at h1 ⊢
    rw [laws_eqDeclS_L1] at h1
    refine AW.seq fun K13 hK13 => ?_
    refine AW.seq fun K14 hK14 => ?_
    refine AW.regionO (by rfl) ?_
    refine ao_q (v := (i64 i10)) go0 rfl (aq_mv rfl) ?_
    refine ao_q (v := (.sl (List.map eRDecl p0))) go0 rfl (aq_mv rfl) ?_
    refine ao_q (v := (i64 (Sh.len p0))) go0 rfl (aq_lens sl28 rfl) ?_
    refine ao_q (v := (.bool (decide (i10 < (Sh.len p0))))) go0 rfl (aq_lt rfl rfl) ?_
    refine AO.done (hK14 _ ?_)
    refine AW.cond' (b := decide (i10 < (Sh.len p0))) rfl (fun b15 => ?_) (fun b15 => ?_)
    · replace h1 := Sh.ite_t b15 h1
      refine AW.skip (hK13 _ ?_)
      refine AW.seq fun K16 hK16 => ?_
      refine AW.block ?_
      refine AW.seq fun K17 hK17 => ?_
      refine AW.draw (by kernel_rfl) (by kernel_rfl) (by rfl) ?_
      refine d_q (v := (.sl (List.map eRDecl p0))) go0 rfl (aq_mv rfl) ?_
      refine d_q (v := (i64 i10)) go0 rfl (aq_mv rfl) ?_
      obtain ⟨c18, gc18, h1⟩ := Sh.bind_some h1
      refine d_q (v := (.iptr (eRDecl c18) 0)) go0 rfl (aq_ixs ei28 rfl rfl gc18 rfl) ?_
      refine d_q (v := (.agg [(i64 c18.from_), (i64 c18.to), (.sl (List.map eRCon c18.cons))])) go0 rfl (aq_ldia ti69 rfl (show 0 + 3 ≤ 3 by decide) rfl) ?_
      refine d_q (v := (.sl (List.map eRDecl p1))) go0 rfl (aq_mv rfl) ?_
      refine d_q (v := (i64 i10)) go0 rfl (aq_mv rfl) ?_
      obtain ⟨c19, gc19, h1⟩ := Sh.bind_some h1
      refine d_q (v := (.iptr (eRDecl c19) 0)) go0 rfl (aq_ixs ei28 rfl rfl gc19 rfl) ?_
      refine d_q (v := (.agg [(i64 c19.from_), (i64 c19.to), (.sl (List.map eRCon c19.cons))])) go0 rfl (aq_ldia ti69 rfl (show 0 + 3 ≤ 3 by decide) rfl) ?_
      obtain ⟨q20, gq20, h1⟩ := Sh.bind_some h1
      refine d_call (v := (.bool q20)) go0 hb32 (laws_eqDecl_ok gq20) rfl rfl rfl ?_
      refine d_q (v := (.bool (!q20))) go0 rfl (aq_not rfl) ?_
      refine d_done (hK17 _ ?_)
      refine AW.cond' (b := !q20) rfl (fun b21 => ?_) (fun b21 => ?_)
      · replace h1 := Sh.ite_t b21 h1
        have b22 : q20 = false := by simpa using b21
        refine AW.seq fun K23 hK23 => ?_
        refine AW.regionO (by rfl) ?_
        refine ao_q (v := (.bool false)) go0 rfl (aq_as rfl) ?_
        refine AO.done (hK23 _ ?_)
        replace h1 := Sh.some_eq h1
        subst o11
        try dsimp only [id] at h0
        replace h0 := Sh.some_eq h0
        subst r
        exact AW.ret (Exists.intro _ (And.intro (Wk.to (L := [(4, (.bool false))]) ⟨.rfl, trivial⟩) (And.intro rfl rfl)))
      · replace h1 := Sh.ite_f b21 h1
        have b24 : q20 = true := by simpa using b21
        refine AW.skip (hK16 _ ?_)
        refine AW.regionO (by rfl) ?_
        refine ao_q (v := (i64 i10)) go0 rfl (aq_mv rfl) ?_
        refine ao_q (v := (i64 (Sh.w (i10 + 1)))) go0 rfl (aq_add rfl rfl) ?_
        refine ao_q (v := (i64 (Sh.w (i10 + 1)))) go0 rfl (aq_as rfl) ?_
        exact AO.done (Exists.intro (Sh.w (i10 + 1)) (And.intro h1 (Wk.to (L := [(0, (.sl (List.map eRDecl p0))), (1, (.sl (List.map eRDecl p1))), (5, (i64 (Sh.w (i10 + 1))))]) ⟨.rfl, .rfl, .rfl, trivial⟩)))
    · replace h1 := Sh.ite_f b15 h1
      exact AW.exit (M11 () (Sh.some_eq h1).symm _ (Wk.to (L := []) trivial))

set_option maxRecDepth 100000 in
set_option maxHeartbeats 4000000 in
theorem laws_eqInstr_ok {N : Nat} {p0 : RInstr} {p1 : RInstr} {r : Bool} (h0 : laws_eqInstr N p0 p1 = some r) : ACalls Try.prog 68 [(.agg [(i64 p0.op), (i64 p0.dst), (i64 p0.num), (i64 p0.into), (.sl (List.map eI p0.args)), (.sl (List.map eI p0.jumps))]), (.agg [(i64 p1.op), (i64 p1.dst), (i64 p1.num), (i64 p1.into), (.sl (List.map eI p1.args)), (.sl (List.map eI p1.jumps))])] [] (fun v st => v = (.bool r) ∧ st = []) := by
  unfold laws_eqInstr at h0
  refine ACalls.intro Try.func68 rfl (by show 2 ≤ 37; decide) ?_
  show AW _ 0 _ (aret _ 0 Try.f68 _) ⟨37, _, _⟩
  refine AW.weaken (Wk.to (L := [(0, (.agg [(i64 p0.op), (i64 p0.dst), (i64 p0.num), (i64 p0.into), (.sl (List.map eI p0.args)), (.sl (List.map eI p0.jumps))])), (1, (.agg [(i64 p1.op), (i64 p1.dst), (i64 p1.num), (i64 p1.into), (.sl (List.map eI p1.args)), (.sl (List.map eI p1.jumps))]))]) ⟨.rfl, .rfl, trivial⟩) ?_
  refine AW.seq fun K1 hK1 => ?_
  refine AW.regionO (by rfl) ?_
  refine ao_box (m := 0) (st' := [⟨0, 49, 6, [[(i64 p0.op), (i64 p0.dst), (i64 p0.num), (i64 p0.into), (.sl (List.map eI p0.args)), (.sl (List.map eI p0.jumps))]]⟩]) go0 rfl rfl rfl rfl rfl ?_
  refine ao_box (m := 1) (st' := [⟨0, 49, 6, [[(i64 p0.op), (i64 p0.dst), (i64 p0.num), (i64 p0.into), (.sl (List.map eI p0.args)), (.sl (List.map eI p0.jumps))]]⟩, ⟨0, 49, 6, [[(i64 p1.op), (i64 p1.dst), (i64 p1.num), (i64 p1.into), (.sl (List.map eI p1.args)), (.sl (List.map eI p1.jumps))]]⟩]) go0 rfl rfl rfl rfl rfl ?_
  refine ao_q (v := (.bool false)) go0 rfl (aq_as rfl) ?_
  refine AO.done (hK1 _ ?_)
  refine AW.seq fun K2 hK2 => ?_
  refine AW.seq fun K3 hK3 => ?_
  refine AW.regionO (by rfl) ?_
  refine ao_q (v := (.ptr 0 0 0 0)) go0 rfl (aq_fap fi49_0 rfl rfl (show 0 + 0 ≤ 6 by decide) rfl) ?_
  refine ao_q (v := (i64 p0.op)) go0 rfl (aq_ldp ti3 rfl rfl rfl rfl) ?_
  refine ao_q (v := (.ptr 1 0 0 0)) go0 rfl (aq_fap fi49_0 rfl rfl (show 0 + 0 ≤ 6 by decide) rfl) ?_
  refine ao_q (v := (i64 p1.op)) go0 rfl (aq_ldp ti3 rfl rfl rfl rfl) ?_
  refine ao_q (v := (.bool (!decide (p0.op = p1.op)))) go0 rfl (aq_ne rfl rfl) ?_
  refine AO.done (hK3 _ ?_)
  refine AW.cond' (b := !decide (p0.op = p1.op)) rfl (fun b4 => ?_) (fun b4 => ?_)
  · replace h0 := Sh.ite_t b4 h0
    have b5 : decide (p0.op = p1.op) = false := by simpa using b4
    refine AW.seq fun K6 hK6 => ?_
    refine AW.regionO (by rfl) ?_
    refine ao_q (v := (.bool false)) go0 rfl (aq_as rfl) ?_
    refine AO.done (hK6 _ ?_)
    replace h0 := Sh.some_eq h0
    subst r
    exact AW.ret (Exists.intro _ (And.intro ((Wk.permk (L := [(4, (.bool false))]) (st' := []) (st1 := []) [] rfl .nil (by decide) rfl rfl .nil ⟨.rfl, trivial⟩).trans (Wk.to (L := [(4, (.bool false))]) ⟨.rfl, trivial⟩)) (And.intro rfl rfl)))
  · replace h0 := Sh.ite_f b4 h0
    have b7 : decide (p0.op = p1.op) = true := by simpa using b4
    refine AW.skip (hK2 _ ?_)
    refine AW.seq fun K8 hK8 => ?_
    refine AW.seq fun K9 hK9 => ?_
    refine AW.regionO (by rfl) ?_
    refine ao_q (v := (.ptr 0 0 0 1)) go0 rfl (aq_fap fi49_1 rfl rfl (show 0 + 1 ≤ 6 by decide) rfl) ?_
    refine ao_q (v := (i64 p0.dst)) go0 rfl (aq_ldp ti3 rfl rfl rfl rfl) ?_
    refine ao_q (v := (.ptr 1 0 0 1)) go0 rfl (aq_fap fi49_1 rfl rfl (show 0 + 1 ≤ 6 by decide) rfl) ?_
    refine ao_q (v := (i64 p1.dst)) go0 rfl (aq_ldp ti3 rfl rfl rfl rfl) ?_
    refine ao_q (v := (.bool (!decide (p0.dst = p1.dst)))) go0 rfl (aq_ne rfl rfl) ?_
    refine AO.done (hK9 _ ?_)
    refine AW.cond' (b := !decide (p0.dst = p1.dst)) rfl (fun b10 => ?_) (fun b10 => ?_)
    · replace h0 := Sh.ite_t b10 h0
      have b11 : decide (p0.dst = p1.dst) = false := by simpa using b10
      refine AW.seq fun K12 hK12 => ?_
      refine AW.regionO (by rfl) ?_
      refine ao_q (v := (.bool false)) go0 rfl (aq_as rfl) ?_
      refine AO.done (hK12 _ ?_)
      replace h0 := Sh.some_eq h0
      subst r
      exact AW.ret (Exists.intro _ (And.intro ((Wk.permk (L := [(4, (.bool false))]) (st' := []) (st1 := []) [] rfl .nil (by decide) rfl rfl .nil ⟨.rfl, trivial⟩).trans (Wk.to (L := [(4, (.bool false))]) ⟨.rfl, trivial⟩)) (And.intro rfl rfl)))
    · replace h0 := Sh.ite_f b10 h0
      have b13 : decide (p0.dst = p1.dst) = true := by simpa using b10
      refine AW.skip (hK8 _ ?_)
      refine AW.seq fun K14 hK14 => ?_
      refine AW.seq fun K15 hK15 => ?_
      refine AW.regionO (by rfl) ?_
      refine ao_q (v := (.ptr 0 0 0 2)) go0 rfl (aq_fap fi49_2 rfl rfl (show 0 + 2 ≤ 6 by decide) rfl) ?_
      refine ao_q (v := (i64 p0.num)) go0 rfl (aq_ldp ti3 rfl rfl rfl rfl) ?_
      refine ao_q (v := (.ptr 1 0 0 2)) go0 rfl (aq_fap fi49_2 rfl rfl (show 0 + 2 ≤ 6 by decide) rfl) ?_
      refine ao_q (v := (i64 p1.num)) go0 rfl (aq_ldp ti3 rfl rfl rfl rfl) ?_
      refine ao_q (v := (.bool (!decide (p0.num = p1.num)))) go0 rfl (aq_ne rfl rfl) ?_
      refine AO.done (hK15 _ ?_)
      refine AW.cond' (b := !decide (p0.num = p1.num)) rfl (fun b16 => ?_) (fun b16 => ?_)
      · replace h0 := Sh.ite_t b16 h0
        have b17 : decide (p0.num = p1.num) = false := by simpa using b16
        refine AW.seq fun K18 hK18 => ?_
        refine AW.regionO (by rfl) ?_
        refine ao_q (v := (.bool false)) go0 rfl (aq_as rfl) ?_
        refine AO.done (hK18 _ ?_)
        replace h0 := Sh.some_eq h0
        subst r
        exact AW.ret (Exists.intro _ (And.intro ((Wk.permk (L := [(4, (.bool false))]) (st' := []) (st1 := []) [] rfl .nil (by decide) rfl rfl .nil ⟨.rfl, trivial⟩).trans (Wk.to (L := [(4, (.bool false))]) ⟨.rfl, trivial⟩)) (And.intro rfl rfl)))
      · replace h0 := Sh.ite_f b16 h0
        have b19 : decide (p0.num = p1.num) = true := by simpa using b16
        refine AW.skip (hK14 _ ?_)
        refine AW.seq fun K20 hK20 => ?_
        refine AW.seq fun K21 hK21 => ?_
        refine AW.regionO (by rfl) ?_
        refine ao_q (v := (.ptr 0 0 0 3)) go0 rfl (aq_fap fi49_3 rfl rfl (show 0 + 3 ≤ 6 by decide) rfl) ?_
        refine ao_q (v := (i64 p0.into)) go0 rfl (aq_ldp ti3 rfl rfl rfl rfl) ?_
        refine ao_q (v := (.ptr 1 0 0 3)) go0 rfl (aq_fap fi49_3 rfl rfl (show 0 + 3 ≤ 6 by decide) rfl) ?_
        refine ao_q (v := (i64 p1.into)) go0 rfl (aq_ldp ti3 rfl rfl rfl rfl) ?_
        refine ao_q (v := (.bool (!decide (p0.into = p1.into)))) go0 rfl (aq_ne rfl rfl) ?_
        refine AO.done (hK21 _ ?_)
        refine AW.cond' (b := !decide (p0.into = p1.into)) rfl (fun b22 => ?_) (fun b22 => ?_)
        · replace h0 := Sh.ite_t b22 h0
          have b23 : decide (p0.into = p1.into) = false := by simpa using b22
          refine AW.seq fun K24 hK24 => ?_
          refine AW.regionO (by rfl) ?_
          refine ao_q (v := (.bool false)) go0 rfl (aq_as rfl) ?_
          refine AO.done (hK24 _ ?_)
          replace h0 := Sh.some_eq h0
          subst r
          exact AW.ret (Exists.intro _ (And.intro ((Wk.permk (L := [(4, (.bool false))]) (st' := []) (st1 := []) [] rfl .nil (by decide) rfl rfl .nil ⟨.rfl, trivial⟩).trans (Wk.to (L := [(4, (.bool false))]) ⟨.rfl, trivial⟩)) (And.intro rfl rfl)))
        · replace h0 := Sh.ite_f b22 h0
          have b25 : decide (p0.into = p1.into) = true := by simpa using b22
          refine AW.skip (hK20 _ ?_)
          refine AW.seq fun K26 hK26 => ?_
          refine AW.seq fun K27 hK27 => ?_
          refine AW.regionO (by rfl) ?_
          refine ao_q (v := (.ptr 0 0 0 4)) go0 rfl (aq_fap fi49_4 rfl rfl (show 0 + 4 ≤ 6 by decide) rfl) ?_
          refine ao_q (v := (.sl (List.map eI p0.args))) go0 rfl (aq_ldp ti44 rfl rfl rfl rfl) ?_
          refine ao_q (v := (.ptr 1 0 0 4)) go0 rfl (aq_fap fi49_4 rfl rfl (show 0 + 4 ≤ 6 by decide) rfl) ?_
          refine ao_q (v := (.sl (List.map eI p1.args))) go0 rfl (aq_ldp ti44 rfl rfl rfl rfl) ?_
          obtain ⟨q28, gq28, h0⟩ := Sh.bind_some h0
          refine ao_call (v' := (.bool q28)) (st' := [⟨0, 49, 6, [[(i64 p0.op), (i64 p0.dst), (i64 p0.num), (i64 p0.into), (.sl (List.map eI p0.args)), (.sl (List.map eI p0.jumps))]]⟩, ⟨0, 49, 6, [[(i64 p1.op), (i64 p1.dst), (i64 p1.num), (i64 p1.into), (.sl (List.map eI p1.args)), (.sl (List.map eI p1.jumps))]]⟩]) go0 hb53 (laws_eqIntS_ok gq28) rfl rfl trivial rfl rfl ?_
          refine ao_q (v := (.bool (!q28))) go0 rfl (aq_not rfl) ?_
          refine AO.done (hK27 _ ?_)
          refine AW.cond' (b := !q28) rfl (fun b29 => ?_) (fun b29 => ?_)
          · replace h0 := Sh.ite_t b29 h0
            have b30 : q28 = false := by simpa using b29
            refine AW.seq fun K31 hK31 => ?_
            refine AW.regionO (by rfl) ?_
            refine ao_q (v := (.bool false)) go0 rfl (aq_as rfl) ?_
            refine AO.done (hK31 _ ?_)
            replace h0 := Sh.some_eq h0
            subst r
            exact AW.ret (Exists.intro _ (And.intro ((Wk.permk (L := [(4, (.bool false))]) (st' := []) (st1 := []) [] rfl .nil (by decide) rfl rfl .nil ⟨.rfl, trivial⟩).trans (Wk.to (L := [(4, (.bool false))]) ⟨.rfl, trivial⟩)) (And.intro rfl rfl)))
          · replace h0 := Sh.ite_f b29 h0
            have b32 : q28 = true := by simpa using b29
            refine AW.skip (hK26 _ ?_)
            refine AW.seq fun K33 hK33 => ?_
            refine AW.seq fun K34 hK34 => ?_
            refine AW.regionO (by rfl) ?_
            refine ao_q (v := (.ptr 0 0 0 5)) go0 rfl (aq_fap fi49_5 rfl rfl (show 0 + 5 ≤ 6 by decide) rfl) ?_
            refine ao_q (v := (.sl (List.map eI p0.jumps))) go0 rfl (aq_ldp ti44 rfl rfl rfl rfl) ?_
            refine ao_q (v := (.ptr 1 0 0 5)) go0 rfl (aq_fap fi49_5 rfl rfl (show 0 + 5 ≤ 6 by decide) rfl) ?_
            refine ao_q (v := (.sl (List.map eI p1.jumps))) go0 rfl (aq_ldp ti44 rfl rfl rfl rfl) ?_
            obtain ⟨q35, gq35, h0⟩ := Sh.bind_some h0
            refine ao_call (v' := (.bool q35)) (st' := [⟨0, 49, 6, [[(i64 p0.op), (i64 p0.dst), (i64 p0.num), (i64 p0.into), (.sl (List.map eI p0.args)), (.sl (List.map eI p0.jumps))]]⟩, ⟨0, 49, 6, [[(i64 p1.op), (i64 p1.dst), (i64 p1.num), (i64 p1.into), (.sl (List.map eI p1.args)), (.sl (List.map eI p1.jumps))]]⟩]) go0 hb53 (laws_eqIntS_ok gq35) rfl rfl trivial rfl rfl ?_
            refine ao_q (v := (.bool (!q35))) go0 rfl (aq_not rfl) ?_
            refine AO.done (hK34 _ ?_)
            refine AW.cond' (b := !q35) rfl (fun b36 => ?_) (fun b36 => ?_)
            · replace h0 := Sh.ite_t b36 h0
              have b37 : q35 = false := by simpa using b36
              refine AW.seq fun K38 hK38 => ?_
              refine AW.regionO (by rfl) ?_
              refine ao_q (v := (.bool false)) go0 rfl (aq_as rfl) ?_
              refine AO.done (hK38 _ ?_)
              replace h0 := Sh.some_eq h0
              subst r
              exact AW.ret (Exists.intro _ (And.intro ((Wk.permk (L := [(4, (.bool false))]) (st' := []) (st1 := []) [] rfl .nil (by decide) rfl rfl .nil ⟨.rfl, trivial⟩).trans (Wk.to (L := [(4, (.bool false))]) ⟨.rfl, trivial⟩)) (And.intro rfl rfl)))
            · replace h0 := Sh.ite_f b36 h0
              have b39 : q35 = true := by simpa using b36
              refine AW.skip (hK33 _ ?_)
              refine AW.seq fun K40 hK40 => ?_
              refine AW.regionO (by rfl) ?_
              refine ao_q (v := (.bool true)) go0 rfl (aq_as rfl) ?_
              refine AO.done (hK40 _ ?_)
              replace h0 := Sh.some_eq h0
              subst r
              exact AW.ret (Exists.intro _ (And.intro ((Wk.permk (L := [(4, (.bool true))]) (st' := []) (st1 := []) [] rfl .nil (by decide) rfl rfl .nil ⟨.rfl, trivial⟩).trans (Wk.to (L := [(4, (.bool true))]) ⟨.rfl, trivial⟩)) (And.intro rfl rfl)))

set_option maxRecDepth 100000 in
set_option maxHeartbeats 4000000 in
theorem laws_eqInstrS_ok {N : Nat} {p0 : (List RInstr)} {p1 : (List RInstr)} {r : Bool} (h0 : laws_eqInstrS N p0 p1 = some r) : ACalls Try.prog 54 [(.sl (List.map eRInstr p0)), (.sl (List.map eRInstr p1))] [] (fun v st => v = (.bool r) ∧ st = []) := by
  unfold laws_eqInstrS at h0
  refine ACalls.intro Try.func54 rfl (by show 2 ≤ 27; decide) ?_
  show AW _ 0 _ (aret _ 0 Try.f54 _) ⟨27, _, _⟩
  refine AW.weaken (Wk.to (L := [(0, (.sl (List.map eRInstr p0))), (1, (.sl (List.map eRInstr p1)))]) ⟨.rfl, .rfl, trivial⟩) ?_
  refine AW.seq fun K1 hK1 => ?_
  refine AW.regionO (by rfl) ?_
  refine ao_q (v := (.bool false)) go0 rfl (aq_as rfl) ?_
  refine AO.done (hK1 _ ?_)
  refine AW.seq fun K2 hK2 => ?_
  refine AW.seq fun K3 hK3 => ?_
  refine AW.regionO (by rfl) ?_
  refine ao_q (v := (.sl (List.map eRInstr p0))) go0 rfl (aq_mv rfl) ?_
  refine ao_q (v := (i64 (Sh.len p0))) go0 rfl (aq_lens sl45 rfl) ?_
  refine ao_q (v := (.sl (List.map eRInstr p1))) go0 rfl (aq_mv rfl) ?_
  refine ao_q (v := (i64 (Sh.len p1))) go0 rfl (aq_lens sl45 rfl) ?_
  refine ao_q (v := (.bool (!decide ((Sh.len p0) = (Sh.len p1))))) go0 rfl (aq_ne rfl rfl) ?_
  refine AO.done (hK3 _ ?_)
  refine AW.cond' (b := !decide ((Sh.len p0) = (Sh.len p1))) rfl (fun b4 => ?_) (fun b4 => ?_)
  · replace h0 := Sh.ite_t b4 h0
    have b5 : decide ((Sh.len p0) = (Sh.len p1)) = false := by simpa using b4
    refine AW.seq fun K6 hK6 => ?_
    refine AW.regionO (by rfl) ?_
    refine ao_q (v := (.bool false)) go0 rfl (aq_as rfl) ?_
    refine AO.done (hK6 _ ?_)
    replace h0 := Sh.some_eq h0
    subst r
    exact AW.ret (Exists.intro _ (And.intro (Wk.to (L := [(4, (.bool false))]) ⟨.rfl, trivial⟩) (And.intro rfl rfl)))
  · replace h0 := Sh.ite_f b4 h0
    have b7 : decide ((Sh.len p0) = (Sh.len p1)) = true := by simpa using b4
    refine AW.skip (hK2 _ ?_)
    refine AW.seq fun K8 hK8 => ?_
    refine AW.seq fun K9 hK9 => ?_
    refine AW.regionO (by rfl) ?_
    refine ao_q (v := (i64 0)) go0 rfl (aq_as rfl) ?_
    refine AO.done (hK9 _ ?_)
    obtain ⟨o11, h1, h0⟩ := Sh.cont_some h0
    have M11 : ∀ (_ : Unit), o11 = Sum.inr () → ∀ s, Wk 0 s ⟨27, envL [], []⟩ → K8 s := by
      intro _ hq s hw
      subst o11
      try dsimp only at h0
      refine hK8 _ (AW.weaken hw ?_)
      refine AW.seq fun K12 hK12 => ?_
      refine AW.regionO (by rfl) ?_
      refine ao_q (v := (.bool true)) go0 rfl (aq_as rfl) ?_
      refine AO.done (hK12 _ ?_)
      replace h0 := Sh.some_eq h0
      subst r
      exact AW.ret (Exists.intro _ (And.intro (Wk.to (L := [(4, (.bool true))]) ⟨.rfl, trivial⟩) (And.intro rfl rfl)))
    refine AW.block (AW.loopF (σ := Int) (fun n v => laws_eqInstrS_L1 N p0 p1 n v = some o11) (fun i10 => ⟨27, envL [(0, (.sl (List.map eRInstr p0))), (1, (.sl (List.map eRInstr p1))), (5, (i64 i10))], []⟩) N 0 h1 (Wk.to (L := [(0, (.sl (List.map eRInstr p0))), (1, (.sl (List.map eRInstr p1))), (5, (i64 0))]) ⟨.rfl, .rfl, .rfl, trivial⟩) (fun _ hv => by rw [laws_eqInstrS_L1] at hv; cases hv) ?_)
    rintro n i10 h1
    try dsimp only at h1 ⊢
    rw [laws_eqInstrS_L1] at h1
    refine AW.seq fun K13 hK13 => ?_
    refine AW.seq fun K14 hK14 => ?_
    refine AW.regionO (by rfl) ?_
    refine ao_q (v := (i64 i10)) go0 rfl (aq_mv rfl) ?_
    refine ao_q (v := (.sl (List.map eRInstr p0))) go0 rfl (aq_mv rfl) ?_
    refine ao_q (v := (i64 (Sh.len p0))) go0 rfl (aq_lens sl45 rfl) ?_
    refine ao_q (v := (.bool (decide (i10 < (Sh.len p0))))) go0 rfl (aq_lt rfl rfl) ?_
    refine AO.done (hK14 _ ?_)
    refine AW.cond' (b := decide (i10 < (Sh.len p0))) rfl (fun b15 => ?_) (fun b15 => ?_)
    · replace h1 := Sh.ite_t b15 h1
      refine AW.skip (hK13 _ ?_)
      refine AW.seq fun K16 hK16 => ?_
      refine AW.block ?_
      refine AW.seq fun K17 hK17 => ?_
      refine AW.draw (by kernel_rfl) (by kernel_rfl) (by rfl) ?_
      refine d_q (v := (.sl (List.map eRInstr p0))) go0 rfl (aq_mv rfl) ?_
      refine d_q (v := (i64 i10)) go0 rfl (aq_mv rfl) ?_
      obtain ⟨c18, gc18, h1⟩ := Sh.bind_some h1
      refine d_q (v := (.iptr (eRInstr c18) 0)) go0 rfl (aq_ixs ei45 rfl rfl gc18 rfl) ?_
      refine d_q (v := (.agg [(i64 c18.op), (i64 c18.dst), (i64 c18.num), (i64 c18.into), (.sl (List.map eI c18.args)), (.sl (List.map eI c18.jumps))])) go0 rfl (aq_ldia ti49 rfl (show 0 + 6 ≤ 6 by decide) rfl) ?_
      refine d_q (v := (.sl (List.map eRInstr p1))) go0 rfl (aq_mv rfl) ?_
      refine d_q (v := (i64 i10)) go0 rfl (aq_mv rfl) ?_
      obtain ⟨c19, gc19, h1⟩ := Sh.bind_some h1
      refine d_q (v := (.iptr (eRInstr c19) 0)) go0 rfl (aq_ixs ei45 rfl rfl gc19 rfl) ?_
      refine d_q (v := (.agg [(i64 c19.op), (i64 c19.dst), (i64 c19.num), (i64 c19.into), (.sl (List.map eI c19.args)), (.sl (List.map eI c19.jumps))])) go0 rfl (aq_ldia ti49 rfl (show 0 + 6 ≤ 6 by decide) rfl) ?_
      obtain ⟨q20, gq20, h1⟩ := Sh.bind_some h1
      refine d_call (v := (.bool q20)) go0 hb68 (laws_eqInstr_ok gq20) rfl rfl rfl ?_
      refine d_q (v := (.bool (!q20))) go0 rfl (aq_not rfl) ?_
      refine d_done (hK17 _ ?_)
      refine AW.cond' (b := !q20) rfl (fun b21 => ?_) (fun b21 => ?_)
      · replace h1 := Sh.ite_t b21 h1
        have b22 : q20 = false := by simpa using b21
        refine AW.seq fun K23 hK23 => ?_
        refine AW.regionO (by rfl) ?_
        refine ao_q (v := (.bool false)) go0 rfl (aq_as rfl) ?_
        refine AO.done (hK23 _ ?_)
        replace h1 := Sh.some_eq h1
        subst o11
        try dsimp only [id] at h0
        replace h0 := Sh.some_eq h0
        subst r
        exact AW.ret (Exists.intro _ (And.intro (Wk.to (L := [(4, (.bool false))]) ⟨.rfl, trivial⟩) (And.intro rfl rfl)))
      · replace h1 := Sh.ite_f b21 h1
        have b24 : q20 = true := by simpa using b21
        refine AW.skip (hK16 _ ?_)
        refine AW.regionO (by rfl) ?_
        refine ao_q (v := (i64 i10)) go0 rfl (aq_mv rfl) ?_
        refine ao_q (v := (i64 (Sh.w (i10 + 1)))) go0 rfl (aq_add rfl rfl) ?_
        refine ao_q (v := (i64 (Sh.w (i10 + 1)))) go0 rfl (aq_as rfl) ?_
        exact AO.done (Exists.intro (Sh.w (i10 + 1)) (And.intro h1 (Wk.to (L := [(0, (.sl (List.map eRInstr p0))), (1, (.sl (List.map eRInstr p1))), (5, (i64 (Sh.w (i10 + 1))))]) ⟨.rfl, .rfl, .rfl, trivial⟩)))
    · replace h1 := Sh.ite_f b15 h1
      exact AW.exit (M11 () (Sh.some_eq h1).symm _ (Wk.to (L := []) trivial))

set_option maxRecDepth 100000 in
set_option maxHeartbeats 4000000 in
theorem laws_eqProc_ok {N : Nat} {p0 : RProc} {p1 : RProc} {r : Bool} (h0 : laws_eqProc N p0 p1 = some r) : ACalls Try.prog 33 [(.agg [(.sl (List.map eI p0.params)), (.sl (List.map eI p0.lent)), (i64 p0.result), (i64 p0.regs), (.sl (List.map eRInstr p0.code))]), (.agg [(.sl (List.map eI p1.params)), (.sl (List.map eI p1.lent)), (i64 p1.result), (i64 p1.regs), (.sl (List.map eRInstr p1.code))])] [] (fun v st => v = (.bool r) ∧ st = []) := by
  unfold laws_eqProc at h0
  refine ACalls.intro Try.func33 rfl (by show 2 ≤ 33; decide) ?_
  show AW _ 0 _ (aret _ 0 Try.f33 _) ⟨33, _, _⟩
  refine AW.weaken (Wk.to (L := [(0, (.agg [(.sl (List.map eI p0.params)), (.sl (List.map eI p0.lent)), (i64 p0.result), (i64 p0.regs), (.sl (List.map eRInstr p0.code))])), (1, (.agg [(.sl (List.map eI p1.params)), (.sl (List.map eI p1.lent)), (i64 p1.result), (i64 p1.regs), (.sl (List.map eRInstr p1.code))]))]) ⟨.rfl, .rfl, trivial⟩) ?_
  refine AW.seq fun K1 hK1 => ?_
  refine AW.regionO (by rfl) ?_
  refine ao_box (m := 0) (st' := [⟨0, 47, 5, [[(.sl (List.map eI p0.params)), (.sl (List.map eI p0.lent)), (i64 p0.result), (i64 p0.regs), (.sl (List.map eRInstr p0.code))]]⟩]) go0 rfl rfl rfl rfl rfl ?_
  refine ao_box (m := 1) (st' := [⟨0, 47, 5, [[(.sl (List.map eI p0.params)), (.sl (List.map eI p0.lent)), (i64 p0.result), (i64 p0.regs), (.sl (List.map eRInstr p0.code))]]⟩, ⟨0, 47, 5, [[(.sl (List.map eI p1.params)), (.sl (List.map eI p1.lent)), (i64 p1.result), (i64 p1.regs), (.sl (List.map eRInstr p1.code))]]⟩]) go0 rfl rfl rfl rfl rfl ?_
  refine ao_q (v := (.bool false)) go0 rfl (aq_as rfl) ?_
  refine AO.done (hK1 _ ?_)
  refine AW.seq fun K2 hK2 => ?_
  refine AW.seq fun K3 hK3 => ?_
  refine AW.regionO (by rfl) ?_
  refine ao_q (v := (.ptr 0 0 0 0)) go0 rfl (aq_fap fi47_0 rfl rfl (show 0 + 0 ≤ 5 by decide) rfl) ?_
  refine ao_q (v := (.sl (List.map eI p0.params))) go0 rfl (aq_ldp ti44 rfl rfl rfl rfl) ?_
  refine ao_q (v := (.ptr 1 0 0 0)) go0 rfl (aq_fap fi47_0 rfl rfl (show 0 + 0 ≤ 5 by decide) rfl) ?_
  refine ao_q (v := (.sl (List.map eI p1.params))) go0 rfl (aq_ldp ti44 rfl rfl rfl rfl) ?_
  obtain ⟨q4, gq4, h0⟩ := Sh.bind_some h0
  refine ao_call (v' := (.bool q4)) (st' := [⟨0, 47, 5, [[(.sl (List.map eI p0.params)), (.sl (List.map eI p0.lent)), (i64 p0.result), (i64 p0.regs), (.sl (List.map eRInstr p0.code))]]⟩, ⟨0, 47, 5, [[(.sl (List.map eI p1.params)), (.sl (List.map eI p1.lent)), (i64 p1.result), (i64 p1.regs), (.sl (List.map eRInstr p1.code))]]⟩]) go0 hb53 (laws_eqIntS_ok gq4) rfl rfl trivial rfl rfl ?_
  refine ao_q (v := (.bool (!q4))) go0 rfl (aq_not rfl) ?_
  refine AO.done (hK3 _ ?_)
  refine AW.cond' (b := !q4) rfl (fun b5 => ?_) (fun b5 => ?_)
  · replace h0 := Sh.ite_t b5 h0
    have b6 : q4 = false := by simpa using b5
    refine AW.seq fun K7 hK7 => ?_
    refine AW.regionO (by rfl) ?_
    refine ao_q (v := (.bool false)) go0 rfl (aq_as rfl) ?_
    refine AO.done (hK7 _ ?_)
    replace h0 := Sh.some_eq h0
    subst r
    exact AW.ret (Exists.intro _ (And.intro ((Wk.permk (L := [(4, (.bool false))]) (st' := []) (st1 := []) [] rfl .nil (by decide) rfl rfl .nil ⟨.rfl, trivial⟩).trans (Wk.to (L := [(4, (.bool false))]) ⟨.rfl, trivial⟩)) (And.intro rfl rfl)))
  · replace h0 := Sh.ite_f b5 h0
    have b8 : q4 = true := by simpa using b5
    refine AW.skip (hK2 _ ?_)
    refine AW.seq fun K9 hK9 => ?_
    refine AW.seq fun K10 hK10 => ?_
    refine AW.regionO (by rfl) ?_
    refine ao_q (v := (.ptr 0 0 0 1)) go0 rfl (aq_fap fi47_1 rfl rfl (show 0 + 1 ≤ 5 by decide) rfl) ?_
    refine ao_q (v := (.sl (List.map eI p0.lent))) go0 rfl (aq_ldp ti44 rfl rfl rfl rfl) ?_
    refine ao_q (v := (.ptr 1 0 0 1)) go0 rfl (aq_fap fi47_1 rfl rfl (show 0 + 1 ≤ 5 by decide) rfl) ?_
    refine ao_q (v := (.sl (List.map eI p1.lent))) go0 rfl (aq_ldp ti44 rfl rfl rfl rfl) ?_
    obtain ⟨q11, gq11, h0⟩ := Sh.bind_some h0
    refine ao_call (v' := (.bool q11)) (st' := [⟨0, 47, 5, [[(.sl (List.map eI p0.params)), (.sl (List.map eI p0.lent)), (i64 p0.result), (i64 p0.regs), (.sl (List.map eRInstr p0.code))]]⟩, ⟨0, 47, 5, [[(.sl (List.map eI p1.params)), (.sl (List.map eI p1.lent)), (i64 p1.result), (i64 p1.regs), (.sl (List.map eRInstr p1.code))]]⟩]) go0 hb53 (laws_eqIntS_ok gq11) rfl rfl trivial rfl rfl ?_
    refine ao_q (v := (.bool (!q11))) go0 rfl (aq_not rfl) ?_
    refine AO.done (hK10 _ ?_)
    refine AW.cond' (b := !q11) rfl (fun b12 => ?_) (fun b12 => ?_)
    · replace h0 := Sh.ite_t b12 h0
      have b13 : q11 = false := by simpa using b12
      refine AW.seq fun K14 hK14 => ?_
      refine AW.regionO (by rfl) ?_
      refine ao_q (v := (.bool false)) go0 rfl (aq_as rfl) ?_
      refine AO.done (hK14 _ ?_)
      replace h0 := Sh.some_eq h0
      subst r
      exact AW.ret (Exists.intro _ (And.intro ((Wk.permk (L := [(4, (.bool false))]) (st' := []) (st1 := []) [] rfl .nil (by decide) rfl rfl .nil ⟨.rfl, trivial⟩).trans (Wk.to (L := [(4, (.bool false))]) ⟨.rfl, trivial⟩)) (And.intro rfl rfl)))
    · replace h0 := Sh.ite_f b12 h0
      have b15 : q11 = true := by simpa using b12
      refine AW.skip (hK9 _ ?_)
      refine AW.seq fun K16 hK16 => ?_
      refine AW.seq fun K17 hK17 => ?_
      refine AW.regionO (by rfl) ?_
      refine ao_q (v := (.ptr 0 0 0 2)) go0 rfl (aq_fap fi47_2 rfl rfl (show 0 + 2 ≤ 5 by decide) rfl) ?_
      refine ao_q (v := (i64 p0.result)) go0 rfl (aq_ldp ti3 rfl rfl rfl rfl) ?_
      refine ao_q (v := (.ptr 1 0 0 2)) go0 rfl (aq_fap fi47_2 rfl rfl (show 0 + 2 ≤ 5 by decide) rfl) ?_
      refine ao_q (v := (i64 p1.result)) go0 rfl (aq_ldp ti3 rfl rfl rfl rfl) ?_
      refine ao_q (v := (.bool (!decide (p0.result = p1.result)))) go0 rfl (aq_ne rfl rfl) ?_
      refine AO.done (hK17 _ ?_)
      refine AW.cond' (b := !decide (p0.result = p1.result)) rfl (fun b18 => ?_) (fun b18 => ?_)
      · replace h0 := Sh.ite_t b18 h0
        have b19 : decide (p0.result = p1.result) = false := by simpa using b18
        refine AW.seq fun K20 hK20 => ?_
        refine AW.regionO (by rfl) ?_
        refine ao_q (v := (.bool false)) go0 rfl (aq_as rfl) ?_
        refine AO.done (hK20 _ ?_)
        replace h0 := Sh.some_eq h0
        subst r
        exact AW.ret (Exists.intro _ (And.intro ((Wk.permk (L := [(4, (.bool false))]) (st' := []) (st1 := []) [] rfl .nil (by decide) rfl rfl .nil ⟨.rfl, trivial⟩).trans (Wk.to (L := [(4, (.bool false))]) ⟨.rfl, trivial⟩)) (And.intro rfl rfl)))
      · replace h0 := Sh.ite_f b18 h0
        have b21 : decide (p0.result = p1.result) = true := by simpa using b18
        refine AW.skip (hK16 _ ?_)
        refine AW.seq fun K22 hK22 => ?_
        refine AW.seq fun K23 hK23 => ?_
        refine AW.regionO (by rfl) ?_
        refine ao_q (v := (.ptr 0 0 0 3)) go0 rfl (aq_fap fi47_3 rfl rfl (show 0 + 3 ≤ 5 by decide) rfl) ?_
        refine ao_q (v := (i64 p0.regs)) go0 rfl (aq_ldp ti3 rfl rfl rfl rfl) ?_
        refine ao_q (v := (.ptr 1 0 0 3)) go0 rfl (aq_fap fi47_3 rfl rfl (show 0 + 3 ≤ 5 by decide) rfl) ?_
        refine ao_q (v := (i64 p1.regs)) go0 rfl (aq_ldp ti3 rfl rfl rfl rfl) ?_
        refine ao_q (v := (.bool (!decide (p0.regs = p1.regs)))) go0 rfl (aq_ne rfl rfl) ?_
        refine AO.done (hK23 _ ?_)
        refine AW.cond' (b := !decide (p0.regs = p1.regs)) rfl (fun b24 => ?_) (fun b24 => ?_)
        · replace h0 := Sh.ite_t b24 h0
          have b25 : decide (p0.regs = p1.regs) = false := by simpa using b24
          refine AW.seq fun K26 hK26 => ?_
          refine AW.regionO (by rfl) ?_
          refine ao_q (v := (.bool false)) go0 rfl (aq_as rfl) ?_
          refine AO.done (hK26 _ ?_)
          replace h0 := Sh.some_eq h0
          subst r
          exact AW.ret (Exists.intro _ (And.intro ((Wk.permk (L := [(4, (.bool false))]) (st' := []) (st1 := []) [] rfl .nil (by decide) rfl rfl .nil ⟨.rfl, trivial⟩).trans (Wk.to (L := [(4, (.bool false))]) ⟨.rfl, trivial⟩)) (And.intro rfl rfl)))
        · replace h0 := Sh.ite_f b24 h0
          have b27 : decide (p0.regs = p1.regs) = true := by simpa using b24
          refine AW.skip (hK22 _ ?_)
          refine AW.seq fun K28 hK28 => ?_
          refine AW.seq fun K29 hK29 => ?_
          refine AW.regionO (by rfl) ?_
          refine ao_q (v := (.ptr 0 0 0 4)) go0 rfl (aq_fap fi47_4 rfl rfl (show 0 + 4 ≤ 5 by decide) rfl) ?_
          refine ao_q (v := (.sl (List.map eRInstr p0.code))) go0 rfl (aq_ldp ti45 rfl rfl rfl rfl) ?_
          refine ao_q (v := (.ptr 1 0 0 4)) go0 rfl (aq_fap fi47_4 rfl rfl (show 0 + 4 ≤ 5 by decide) rfl) ?_
          refine ao_q (v := (.sl (List.map eRInstr p1.code))) go0 rfl (aq_ldp ti45 rfl rfl rfl rfl) ?_
          obtain ⟨q30, gq30, h0⟩ := Sh.bind_some h0
          refine ao_call (v' := (.bool q30)) (st' := [⟨0, 47, 5, [[(.sl (List.map eI p0.params)), (.sl (List.map eI p0.lent)), (i64 p0.result), (i64 p0.regs), (.sl (List.map eRInstr p0.code))]]⟩, ⟨0, 47, 5, [[(.sl (List.map eI p1.params)), (.sl (List.map eI p1.lent)), (i64 p1.result), (i64 p1.regs), (.sl (List.map eRInstr p1.code))]]⟩]) go0 hb54 (laws_eqInstrS_ok gq30) rfl rfl trivial rfl rfl ?_
          refine ao_q (v := (.bool (!q30))) go0 rfl (aq_not rfl) ?_
          refine AO.done (hK29 _ ?_)
          refine AW.cond' (b := !q30) rfl (fun b31 => ?_) (fun b31 => ?_)
          · replace h0 := Sh.ite_t b31 h0
            have b32 : q30 = false := by simpa using b31
            refine AW.seq fun K33 hK33 => ?_
            refine AW.regionO (by rfl) ?_
            refine ao_q (v := (.bool false)) go0 rfl (aq_as rfl) ?_
            refine AO.done (hK33 _ ?_)
            replace h0 := Sh.some_eq h0
            subst r
            exact AW.ret (Exists.intro _ (And.intro ((Wk.permk (L := [(4, (.bool false))]) (st' := []) (st1 := []) [] rfl .nil (by decide) rfl rfl .nil ⟨.rfl, trivial⟩).trans (Wk.to (L := [(4, (.bool false))]) ⟨.rfl, trivial⟩)) (And.intro rfl rfl)))
          · replace h0 := Sh.ite_f b31 h0
            have b34 : q30 = true := by simpa using b31
            refine AW.skip (hK28 _ ?_)
            refine AW.seq fun K35 hK35 => ?_
            refine AW.regionO (by rfl) ?_
            refine ao_q (v := (.bool true)) go0 rfl (aq_as rfl) ?_
            refine AO.done (hK35 _ ?_)
            replace h0 := Sh.some_eq h0
            subst r
            exact AW.ret (Exists.intro _ (And.intro ((Wk.permk (L := [(4, (.bool true))]) (st' := []) (st1 := []) [] rfl .nil (by decide) rfl rfl .nil ⟨.rfl, trivial⟩).trans (Wk.to (L := [(4, (.bool true))]) ⟨.rfl, trivial⟩)) (And.intro rfl rfl)))

set_option maxRecDepth 100000 in
set_option maxHeartbeats 4000000 in
theorem laws_eqProcS_ok {N : Nat} {p0 : (List RProc)} {p1 : (List RProc)} {r : Bool} (h0 : laws_eqProcS N p0 p1 = some r) : ACalls Try.prog 17 [(.sl (List.map eRProc p0)), (.sl (List.map eRProc p1))] [] (fun v st => v = (.bool r) ∧ st = []) := by
  unfold laws_eqProcS at h0
  refine ACalls.intro Try.func17 rfl (by show 2 ≤ 27; decide) ?_
  show AW _ 0 _ (aret _ 0 Try.f17 _) ⟨27, _, _⟩
  refine AW.weaken (Wk.to (L := [(0, (.sl (List.map eRProc p0))), (1, (.sl (List.map eRProc p1)))]) ⟨.rfl, .rfl, trivial⟩) ?_
  refine AW.seq fun K1 hK1 => ?_
  refine AW.regionO (by rfl) ?_
  refine ao_q (v := (.bool false)) go0 rfl (aq_as rfl) ?_
  refine AO.done (hK1 _ ?_)
  refine AW.seq fun K2 hK2 => ?_
  refine AW.seq fun K3 hK3 => ?_
  refine AW.regionO (by rfl) ?_
  refine ao_q (v := (.sl (List.map eRProc p0))) go0 rfl (aq_mv rfl) ?_
  refine ao_q (v := (i64 (Sh.len p0))) go0 rfl (aq_lens sl29 rfl) ?_
  refine ao_q (v := (.sl (List.map eRProc p1))) go0 rfl (aq_mv rfl) ?_
  refine ao_q (v := (i64 (Sh.len p1))) go0 rfl (aq_lens sl29 rfl) ?_
  refine ao_q (v := (.bool (!decide ((Sh.len p0) = (Sh.len p1))))) go0 rfl (aq_ne rfl rfl) ?_
  refine AO.done (hK3 _ ?_)
  refine AW.cond' (b := !decide ((Sh.len p0) = (Sh.len p1))) rfl (fun b4 => ?_) (fun b4 => ?_)
  · replace h0 := Sh.ite_t b4 h0
    have b5 : decide ((Sh.len p0) = (Sh.len p1)) = false := by simpa using b4
    refine AW.seq fun K6 hK6 => ?_
    refine AW.regionO (by rfl) ?_
    refine ao_q (v := (.bool false)) go0 rfl (aq_as rfl) ?_
    refine AO.done (hK6 _ ?_)
    replace h0 := Sh.some_eq h0
    subst r
    exact AW.ret (Exists.intro _ (And.intro (Wk.to (L := [(4, (.bool false))]) ⟨.rfl, trivial⟩) (And.intro rfl rfl)))
  · replace h0 := Sh.ite_f b4 h0
    have b7 : decide ((Sh.len p0) = (Sh.len p1)) = true := by simpa using b4
    refine AW.skip (hK2 _ ?_)
    refine AW.seq fun K8 hK8 => ?_
    refine AW.seq fun K9 hK9 => ?_
    refine AW.regionO (by rfl) ?_
    refine ao_q (v := (i64 0)) go0 rfl (aq_as rfl) ?_
    refine AO.done (hK9 _ ?_)
    obtain ⟨o11, h1, h0⟩ := Sh.cont_some h0
    have M11 : ∀ (_ : Unit), o11 = Sum.inr () → ∀ s, Wk 0 s ⟨27, envL [], []⟩ → K8 s := by
      intro _ hq s hw
      subst o11
      try dsimp only at h0
      refine hK8 _ (AW.weaken hw ?_)
      refine AW.seq fun K12 hK12 => ?_
      refine AW.regionO (by rfl) ?_
      refine ao_q (v := (.bool true)) go0 rfl (aq_as rfl) ?_
      refine AO.done (hK12 _ ?_)
      replace h0 := Sh.some_eq h0
      subst r
      exact AW.ret (Exists.intro _ (And.intro (Wk.to (L := [(4, (.bool true))]) ⟨.rfl, trivial⟩) (And.intro rfl rfl)))
    refine AW.block (AW.loopF (σ := Int) (fun n v => laws_eqProcS_L1 N p0 p1 n v = some o11) (fun i10 => ⟨27, envL [(0, (.sl (List.map eRProc p0))), (1, (.sl (List.map eRProc p1))), (5, (i64 i10))], []⟩) N 0 h1 (Wk.to (L := [(0, (.sl (List.map eRProc p0))), (1, (.sl (List.map eRProc p1))), (5, (i64 0))]) ⟨.rfl, .rfl, .rfl, trivial⟩) (fun _ hv => by rw [laws_eqProcS_L1] at hv; cases hv) ?_)
    rintro n i10 h1
    try dsimp only at h1 ⊢
    rw [laws_eqProcS_L1] at h1
    refine AW.seq fun K13 hK13 => ?_
    refine AW.seq fun K14 hK14 => ?_
    refine AW.regionO (by rfl) ?_
    refine ao_q (v := (i64 i10)) go0 rfl (aq_mv rfl) ?_
    refine ao_q (v := (.sl (List.map eRProc p0))) go0 rfl (aq_mv rfl) ?_
    refine ao_q (v := (i64 (Sh.len p0))) go0 rfl (aq_lens sl29 rfl) ?_
    refine ao_q (v := (.bool (decide (i10 < (Sh.len p0))))) go0 rfl (aq_lt rfl rfl) ?_
    refine AO.done (hK14 _ ?_)
    refine AW.cond' (b := decide (i10 < (Sh.len p0))) rfl (fun b15 => ?_) (fun b15 => ?_)
    · replace h1 := Sh.ite_t b15 h1
      refine AW.skip (hK13 _ ?_)
      refine AW.seq fun K16 hK16 => ?_
      refine AW.block ?_
      refine AW.seq fun K17 hK17 => ?_
      refine AW.draw (by kernel_rfl) (by kernel_rfl) (by rfl) ?_
      refine d_q (v := (.sl (List.map eRProc p0))) go0 rfl (aq_mv rfl) ?_
      refine d_q (v := (i64 i10)) go0 rfl (aq_mv rfl) ?_
      obtain ⟨c18, gc18, h1⟩ := Sh.bind_some h1
      refine d_q (v := (.iptr (eRProc c18) 0)) go0 rfl (aq_ixs ei29 rfl rfl gc18 rfl) ?_
      refine d_q (v := (.agg [(.sl (List.map eI c18.params)), (.sl (List.map eI c18.lent)), (i64 c18.result), (i64 c18.regs), (.sl (List.map eRInstr c18.code))])) go0 rfl (aq_ldia ti47 rfl (show 0 + 5 ≤ 5 by decide) rfl) ?_
      refine d_q (v := (.sl (List.map eRProc p1))) go0 rfl (aq_mv rfl) ?_
      refine d_q (v := (i64 i10)) go0 rfl (aq_mv rfl) ?_
      obtain ⟨c19, gc19, h1⟩ := Sh.bind_some h1
      refine d_q (v := (.iptr (eRProc c19) 0)) go0 rfl (aq_ixs ei29 rfl rfl gc19 rfl) ?_
      refine d_q (v := (.agg [(.sl (List.map eI c19.params)), (.sl (List.map eI c19.lent)), (i64 c19.result), (i64 c19.regs), (.sl (List.map eRInstr c19.code))])) go0 rfl (aq_ldia ti47 rfl (show 0 + 5 ≤ 5 by decide) rfl) ?_
      obtain ⟨q20, gq20, h1⟩ := Sh.bind_some h1
      refine d_call (v := (.bool q20)) go0 hb33 (laws_eqProc_ok gq20) rfl rfl rfl ?_
      refine d_q (v := (.bool (!q20))) go0 rfl (aq_not rfl) ?_
      refine d_done (hK17 _ ?_)
      refine AW.cond' (b := !q20) rfl (fun b21 => ?_) (fun b21 => ?_)
      · replace h1 := Sh.ite_t b21 h1
        have b22 : q20 = false := by simpa using b21
        refine AW.seq fun K23 hK23 => ?_
        refine AW.regionO (by rfl) ?_
        refine ao_q (v := (.bool false)) go0 rfl (aq_as rfl) ?_
        refine AO.done (hK23 _ ?_)
        replace h1 := Sh.some_eq h1
        subst o11
        try dsimp only [id] at h0
        replace h0 := Sh.some_eq h0
        subst r
        exact AW.ret (Exists.intro _ (And.intro (Wk.to (L := [(4, (.bool false))]) ⟨.rfl, trivial⟩) (And.intro rfl rfl)))
      · replace h1 := Sh.ite_f b21 h1
        have b24 : q20 = true := by simpa using b21
        refine AW.skip (hK16 _ ?_)
        refine AW.regionO (by rfl) ?_
        refine ao_q (v := (i64 i10)) go0 rfl (aq_mv rfl) ?_
        refine ao_q (v := (i64 (Sh.w (i10 + 1)))) go0 rfl (aq_add rfl rfl) ?_
        refine ao_q (v := (i64 (Sh.w (i10 + 1)))) go0 rfl (aq_as rfl) ?_
        exact AO.done (Exists.intro (Sh.w (i10 + 1)) (And.intro h1 (Wk.to (L := [(0, (.sl (List.map eRProc p0))), (1, (.sl (List.map eRProc p1))), (5, (i64 (Sh.w (i10 + 1))))]) ⟨.rfl, .rfl, .rfl, trivial⟩)))
    · replace h1 := Sh.ite_f b15 h1
      exact AW.exit (M11 () (Sh.some_eq h1).symm _ (Wk.to (L := []) trivial))

set_option maxRecDepth 100000 in
set_option maxHeartbeats 4000000 in
theorem laws_eqImage_ok {N : Nat} {p0 : RImage} {p1 : RImage} {r : Bool} (h0 : laws_eqImage N p0 p1 = some r) : ACalls Try.prog 8 [(.agg [(.sl (List.map eRDecl p0.decls)), (.sl (List.map eRProc p0.procs))]), (.agg [(.sl (List.map eRDecl p1.decls)), (.sl (List.map eRProc p1.procs))])] [] (fun v st => v = (.bool r) ∧ st = []) := by
  unfold laws_eqImage at h0
  refine ACalls.intro Try.func8 rfl (by show 2 ≤ 17; decide) ?_
  show AW _ 0 _ (aret _ 0 Try.f8 _) ⟨17, _, _⟩
  refine AW.weaken (Wk.to (L := [(0, (.agg [(.sl (List.map eRDecl p0.decls)), (.sl (List.map eRProc p0.procs))])), (1, (.agg [(.sl (List.map eRDecl p1.decls)), (.sl (List.map eRProc p1.procs))]))]) ⟨.rfl, .rfl, trivial⟩) ?_
  refine AW.seq fun K1 hK1 => ?_
  refine AW.regionO (by rfl) ?_
  refine ao_box (m := 0) (st' := [⟨0, 31, 2, [[(.sl (List.map eRDecl p0.decls)), (.sl (List.map eRProc p0.procs))]]⟩]) go0 rfl rfl rfl rfl rfl ?_
  refine ao_box (m := 1) (st' := [⟨0, 31, 2, [[(.sl (List.map eRDecl p0.decls)), (.sl (List.map eRProc p0.procs))]]⟩, ⟨0, 31, 2, [[(.sl (List.map eRDecl p1.decls)), (.sl (List.map eRProc p1.procs))]]⟩]) go0 rfl rfl rfl rfl rfl ?_
  refine ao_q (v := (.bool false)) go0 rfl (aq_as rfl) ?_
  refine AO.done (hK1 _ ?_)
  refine AW.seq fun K2 hK2 => ?_
  refine AW.seq fun K3 hK3 => ?_
  refine AW.regionO (by rfl) ?_
  refine ao_q (v := (.ptr 0 0 0 0)) go0 rfl (aq_fap fi31_0 rfl rfl (show 0 + 0 ≤ 2 by decide) rfl) ?_
  refine ao_q (v := (.sl (List.map eRDecl p0.decls))) go0 rfl (aq_ldp ti28 rfl rfl rfl rfl) ?_
  refine ao_q (v := (.ptr 1 0 0 0)) go0 rfl (aq_fap fi31_0 rfl rfl (show 0 + 0 ≤ 2 by decide) rfl) ?_
  refine ao_q (v := (.sl (List.map eRDecl p1.decls))) go0 rfl (aq_ldp ti28 rfl rfl rfl rfl) ?_
  obtain ⟨q4, gq4, h0⟩ := Sh.bind_some h0
  refine ao_call (v' := (.bool q4)) (st' := [⟨0, 31, 2, [[(.sl (List.map eRDecl p0.decls)), (.sl (List.map eRProc p0.procs))]]⟩, ⟨0, 31, 2, [[(.sl (List.map eRDecl p1.decls)), (.sl (List.map eRProc p1.procs))]]⟩]) go0 hb16 (laws_eqDeclS_ok gq4) rfl rfl trivial rfl rfl ?_
  refine ao_q (v := (.bool (!q4))) go0 rfl (aq_not rfl) ?_
  refine AO.done (hK3 _ ?_)
  refine AW.cond' (b := !q4) rfl (fun b5 => ?_) (fun b5 => ?_)
  · replace h0 := Sh.ite_t b5 h0
    have b6 : q4 = false := by simpa using b5
    refine AW.seq fun K7 hK7 => ?_
    refine AW.regionO (by rfl) ?_
    refine ao_q (v := (.bool false)) go0 rfl (aq_as rfl) ?_
    refine AO.done (hK7 _ ?_)
    replace h0 := Sh.some_eq h0
    subst r
    exact AW.ret (Exists.intro _ (And.intro ((Wk.permk (L := [(4, (.bool false))]) (st' := []) (st1 := []) [] rfl .nil (by decide) rfl rfl .nil ⟨.rfl, trivial⟩).trans (Wk.to (L := [(4, (.bool false))]) ⟨.rfl, trivial⟩)) (And.intro rfl rfl)))
  · replace h0 := Sh.ite_f b5 h0
    have b8 : q4 = true := by simpa using b5
    refine AW.skip (hK2 _ ?_)
    refine AW.seq fun K9 hK9 => ?_
    refine AW.seq fun K10 hK10 => ?_
    refine AW.regionO (by rfl) ?_
    refine ao_q (v := (.ptr 0 0 0 1)) go0 rfl (aq_fap fi31_1 rfl rfl (show 0 + 1 ≤ 2 by decide) rfl) ?_
    refine ao_q (v := (.sl (List.map eRProc p0.procs))) go0 rfl (aq_ldp ti29 rfl rfl rfl rfl) ?_
    refine ao_q (v := (.ptr 1 0 0 1)) go0 rfl (aq_fap fi31_1 rfl rfl (show 0 + 1 ≤ 2 by decide) rfl) ?_
    refine ao_q (v := (.sl (List.map eRProc p1.procs))) go0 rfl (aq_ldp ti29 rfl rfl rfl rfl) ?_
    obtain ⟨q11, gq11, h0⟩ := Sh.bind_some h0
    refine ao_call (v' := (.bool q11)) (st' := [⟨0, 31, 2, [[(.sl (List.map eRDecl p0.decls)), (.sl (List.map eRProc p0.procs))]]⟩, ⟨0, 31, 2, [[(.sl (List.map eRDecl p1.decls)), (.sl (List.map eRProc p1.procs))]]⟩]) go0 hb17 (laws_eqProcS_ok gq11) rfl rfl trivial rfl rfl ?_
    refine ao_q (v := (.bool (!q11))) go0 rfl (aq_not rfl) ?_
    refine AO.done (hK10 _ ?_)
    refine AW.cond' (b := !q11) rfl (fun b12 => ?_) (fun b12 => ?_)
    · replace h0 := Sh.ite_t b12 h0
      have b13 : q11 = false := by simpa using b12
      refine AW.seq fun K14 hK14 => ?_
      refine AW.regionO (by rfl) ?_
      refine ao_q (v := (.bool false)) go0 rfl (aq_as rfl) ?_
      refine AO.done (hK14 _ ?_)
      replace h0 := Sh.some_eq h0
      subst r
      exact AW.ret (Exists.intro _ (And.intro ((Wk.permk (L := [(4, (.bool false))]) (st' := []) (st1 := []) [] rfl .nil (by decide) rfl rfl .nil ⟨.rfl, trivial⟩).trans (Wk.to (L := [(4, (.bool false))]) ⟨.rfl, trivial⟩)) (And.intro rfl rfl)))
    · replace h0 := Sh.ite_f b12 h0
      have b15 : q11 = true := by simpa using b12
      refine AW.skip (hK9 _ ?_)
      refine AW.seq fun K16 hK16 => ?_
      refine AW.regionO (by rfl) ?_
      refine ao_q (v := (.bool true)) go0 rfl (aq_as rfl) ?_
      refine AO.done (hK16 _ ?_)
      replace h0 := Sh.some_eq h0
      subst r
      exact AW.ret (Exists.intro _ (And.intro ((Wk.permk (L := [(4, (.bool true))]) (st' := []) (st1 := []) [] rfl .nil (by decide) rfl rfl .nil ⟨.rfl, trivial⟩).trans (Wk.to (L := [(4, (.bool true))]) ⟨.rfl, trivial⟩)) (And.intro rfl rfl)))

set_option maxRecDepth 100000 in
set_option maxHeartbeats 4000000 in
theorem laws_FnExactValidImage_ok {N : Nat} {p0 : RImage} {r : Bool} (h0 : laws_FnExactValidImage N p0 = some r) : ACalls Try.prog 3 [(.agg [(.sl (List.map eRDecl p0.decls)), (.sl (List.map eRProc p0.procs))])] [] (fun v st => v = (.bool r) ∧ st = []) := by
  unfold laws_FnExactValidImage at h0
  refine ACalls.intro Try.func3 rfl (by show 1 ≤ 27; decide) ?_
  show AW _ 0 _ (aret _ 0 Try.f3 _) ⟨27, _, _⟩
  refine AW.weaken (Wk.to (L := [(0, (.agg [(.sl (List.map eRDecl p0.decls)), (.sl (List.map eRProc p0.procs))]))]) ⟨.rfl, trivial⟩) ?_
  refine AW.seq fun K1 hK1 => ?_
  refine AW.regionO (by rfl) ?_
  refine ao_box (m := 0) (st' := [⟨0, 25, 2, [[(.sl (List.map eRDecl p0.decls)), (.sl (List.map eRProc p0.procs))]]⟩]) go0 rfl rfl rfl rfl rfl ?_
  refine ao_q (v := (.bool false)) go0 rfl (aq_as rfl) ?_
  refine AO.done (hK1 _ ?_)
  refine AW.seq fun K2 hK2 => ?_
  refine AW.regionO (by rfl) ?_
  refine ao_q (v := (i64 1048576)) go0 rfl (aq_as rfl) ?_
  refine AO.done (hK2 _ ?_)
  refine AW.seq fun K3 hK3 => ?_
  refine AW.regionO (by rfl) ?_
  refine ao_q (v := (.agg [(.sl (List.map eRDecl p0.decls)), (.sl (List.map eRProc p0.procs))])) go0 rfl (aq_ldpa ti25 rfl rfl rfl (show 0 + 2 ≤ 2 by decide) rfl) ?_
  refine ao_q (v := (i64 1048576)) go0 rfl (aq_mv rfl) ?_
  obtain ⟨q4, gq4, h0⟩ := Sh.bind_some h0
  refine ao_call (v' := (i64 q4)) (st' := [⟨0, 25, 2, [[(.sl (List.map eRDecl p0.decls)), (.sl (List.map eRProc p0.procs))]]⟩]) go0 hb4 (laws_szImage_ok gq4) rfl rfl trivial rfl rfl ?_
  refine ao_q (v := (i64 q4)) go0 rfl (aq_as rfl) ?_
  refine AO.done (hK3 _ ?_)
  refine AW.seq fun K5 hK5 => ?_
  refine AW.seq fun K6 hK6 => ?_
  refine AW.regionO (by rfl) ?_
  refine ao_q (v := (i64 q4)) go0 rfl (aq_mv rfl) ?_
  refine ao_q (v := (.bool (decide (q4 < 0)))) go0 rfl (aq_lt rfl rfl) ?_
  refine AO.done (hK6 _ ?_)
  refine AW.cond' (b := decide (q4 < 0)) rfl (fun b7 => ?_) (fun b7 => ?_)
  · replace h0 := Sh.ite_t b7 h0
    refine AW.seq fun K8 hK8 => ?_
    refine AW.regionO (by rfl) ?_
    refine ao_q (v := (.bool true)) go0 rfl (aq_as rfl) ?_
    refine AO.done (hK8 _ ?_)
    replace h0 := Sh.some_eq h0
    subst r
    exact AW.ret (Exists.intro _ (And.intro ((Wk.permk (L := [(2, (.bool true))]) (st' := []) (st1 := []) [] rfl .nil (by decide) rfl rfl .nil ⟨.rfl, trivial⟩).trans (Wk.to (L := [(2, (.bool true))]) ⟨.rfl, trivial⟩)) (And.intro rfl rfl)))
  · replace h0 := Sh.ite_f b7 h0
    refine AW.skip (hK5 _ ?_)
    refine AW.seq fun K9 hK9 => ?_
    refine AW.regionO (by rfl) ?_
    refine ao_q (v := (.agg [(.sl (List.map eRDecl p0.decls)), (.sl (List.map eRProc p0.procs))])) go0 rfl (aq_ldpa ti25 rfl rfl rfl (show 0 + 2 ≤ 2 by decide) rfl) ?_
    obtain ⟨q10, gq10, h0⟩ := Sh.bind_some h0
    refine ao_call (v' := (.agg [(.sl (List.map eRDecl q10.decls)), (.sl (List.map eRProc q10.procs))])) (st' := [⟨0, 25, 2, [[(.sl (List.map eRDecl p0.decls)), (.sl (List.map eRProc p0.procs))]]⟩]) go0 hb6 (laws_toImage_ok gq10) rfl rfl trivial rfl rfl ?_
    obtain ⟨q11, gq11, h0⟩ := Sh.bind_some h0
    refine ao_call (v' := (.bool q11)) (st' := [⟨0, 25, 2, [[(.sl (List.map eRDecl p0.decls)), (.sl (List.map eRProc p0.procs))]]⟩]) go0 hb5 (spec_ValidImage_ok gq11) rfl rfl trivial rfl rfl ?_
    refine ao_q (v := (.bool q11)) go0 rfl (aq_as rfl) ?_
    refine AO.done (hK9 _ ?_)
    refine AW.seq fun K12 hK12 => ?_
    refine AW.regionO (by rfl) ?_
    refine ao_q (v := (.agg [(.sl (List.map eRDecl p0.decls)), (.sl (List.map eRProc p0.procs))])) go0 rfl (aq_ldpa ti25 rfl rfl rfl (show 0 + 2 ≤ 2 by decide) rfl) ?_
    obtain ⟨q13, gq13, h0⟩ := Sh.bind_some h0
    refine ao_call (v' := (.agg [(.sl (List.map eRDecl q13.decls)), (.sl (List.map eRProc q13.procs))])) (st' := [⟨0, 25, 2, [[(.sl (List.map eRDecl p0.decls)), (.sl (List.map eRProc p0.procs))]]⟩]) go0 hb6 (laws_toImage_ok gq13) rfl rfl trivial rfl rfl ?_
    refine ao_alloc (m := 1) (st' := [⟨0, 25, 2, [[(.sl (List.map eRDecl p0.decls)), (.sl (List.map eRProc p0.procs))]]⟩, ⟨0, 31, 2, [[.zc, .zc]]⟩]) go0 zi31 rfl rfl ?_
    refine ao_str (st' := [⟨0, 25, 2, [[(.sl (List.map eRDecl p0.decls)), (.sl (List.map eRProc p0.procs))]]⟩, ⟨0, 31, 2, [[(.sl (List.map eRDecl q13.decls)), (.sl (List.map eRProc q13.procs))]]⟩]) go0 ti31 rfl rfl rfl rfl rfl rfl (show 0 + 2 ≤ 2 by decide) rfl ?_
    refine AO.done (hK12 _ ?_)
    refine AW.seq fun K14 hK14 => ?_
    refine AW.regionO (by rfl) ?_
    refine ao_q (v := (.agg [(.sl (List.map eRDecl q13.decls)), (.sl (List.map eRProc q13.procs))])) go0 rfl (aq_ldpa ti31 rfl rfl rfl (show 0 + 2 ≤ 2 by decide) rfl) ?_
    obtain ⟨q15, gq15, h0⟩ := Sh.bind_some h0
    refine ao_call (v' := (.bool q15)) (st' := [⟨0, 25, 2, [[(.sl (List.map eRDecl p0.decls)), (.sl (List.map eRProc p0.procs))]]⟩, ⟨0, 31, 2, [[(.sl (List.map eRDecl q13.decls)), (.sl (List.map eRProc q13.procs))]]⟩]) go0 hb7 (impl_ValidImage_ok gq15) rfl rfl trivial rfl rfl ?_
    refine ao_q (v := (.bool q15)) go0 rfl (aq_as rfl) ?_
    refine AO.done (hK14 _ ?_)
    refine AW.seq fun K16 hK16 => ?_
    refine AW.seq fun K17 hK17 => ?_
    refine AW.regionO (by rfl) ?_
    refine ao_q (v := (.bool q15)) go0 rfl (aq_mv rfl) ?_
    refine ao_q (v := (.bool q11)) go0 rfl (aq_mv rfl) ?_
    refine ao_q (v := (.bool (q15 != q11))) go0 rfl (aq_bne bo4 rfl rfl) ?_
    refine AO.done (hK17 _ ?_)
    refine AW.cond' (b := (q15 != q11)) rfl (fun b18 => ?_) (fun b18 => ?_)
    · replace h0 := Sh.ite_t b18 h0
      refine AW.seq fun K19 hK19 => ?_
      refine AW.regionO (by rfl) ?_
      refine ao_q (v := (.bool false)) go0 rfl (aq_as rfl) ?_
      refine AO.done (hK19 _ ?_)
      replace h0 := Sh.some_eq h0
      subst r
      exact AW.ret (Exists.intro _ (And.intro ((Wk.permk (L := [(2, (.bool false))]) (st' := []) (st1 := []) [] rfl .nil (by decide) rfl rfl .nil ⟨.rfl, trivial⟩).trans (Wk.to (L := [(2, (.bool false))]) ⟨.rfl, trivial⟩)) (And.intro rfl rfl)))
    · replace h0 := Sh.ite_f b18 h0
      refine AW.skip (hK16 _ ?_)
      refine AW.seq fun K20 hK20 => ?_
      refine AW.seq fun K21 hK21 => ?_
      refine AW.draw (by kernel_rfl) (by kernel_rfl) (by rfl) ?_
      refine d_q (v := (.agg [(.sl (List.map eRDecl q13.decls)), (.sl (List.map eRProc q13.procs))])) go0 rfl (aq_ldpa ti31 rfl rfl rfl (show 0 + 2 ≤ 2 by decide) rfl) ?_
      refine d_q (v := (.agg [(.sl (List.map eRDecl p0.decls)), (.sl (List.map eRProc p0.procs))])) go0 rfl (aq_ldpa ti25 rfl rfl rfl (show 0 + 2 ≤ 2 by decide) rfl) ?_
      obtain ⟨q22, gq22, h0⟩ := Sh.bind_some h0
      refine d_call (v := (.agg [(.sl (List.map eRDecl q22.decls)), (.sl (List.map eRProc q22.procs))])) go0 hb6 (laws_toImage_ok gq22) rfl rfl rfl ?_
      obtain ⟨q23, gq23, h0⟩ := Sh.bind_some h0
      refine d_call (v := (.bool q23)) go0 hb8 (laws_eqImage_ok gq23) rfl rfl rfl ?_
      refine d_q (v := (.bool (!q23))) go0 rfl (aq_not rfl) ?_
      refine d_done (hK21 _ ?_)
      refine AW.cond' (b := !q23) rfl (fun b24 => ?_) (fun b24 => ?_)
      · replace h0 := Sh.ite_t b24 h0
        have b25 : q23 = false := by simpa using b24
        refine AW.seq fun K26 hK26 => ?_
        refine AW.regionO (by rfl) ?_
        refine ao_q (v := (.bool false)) go0 rfl (aq_as rfl) ?_
        refine AO.done (hK26 _ ?_)
        replace h0 := Sh.some_eq h0
        subst r
        exact AW.ret (Exists.intro _ (And.intro ((Wk.permk (L := [(2, (.bool false))]) (st' := []) (st1 := []) [] rfl .nil (by decide) rfl rfl .nil ⟨.rfl, trivial⟩).trans (Wk.to (L := [(2, (.bool false))]) ⟨.rfl, trivial⟩)) (And.intro rfl rfl)))
      · replace h0 := Sh.ite_f b24 h0
        have b27 : q23 = true := by simpa using b24
        refine AW.skip (hK20 _ ?_)
        refine AW.seq fun K28 hK28 => ?_
        refine AW.regionO (by rfl) ?_
        refine ao_q (v := (.bool true)) go0 rfl (aq_as rfl) ?_
        refine AO.done (hK28 _ ?_)
        replace h0 := Sh.some_eq h0
        subst r
        exact AW.ret (Exists.intro _ (And.intro ((Wk.permk (L := [(2, (.bool true))]) (st' := []) (st1 := []) [] rfl .nil (by decide) rfl rfl .nil ⟨.rfl, trivial⟩).trans (Wk.to (L := [(2, (.bool true))]) ⟨.rfl, trivial⟩)) (And.intro rfl rfl)))

end Go.Proofs.Ytbdefffffmejhaa
