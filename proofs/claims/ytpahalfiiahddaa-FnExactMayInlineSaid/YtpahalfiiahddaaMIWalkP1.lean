import Derived.Test.YtpahalfiiahddaaProg
import Derived.Test.YtpahalfiiahddaaGHADefsToMIDefs
import Derived.Test.YtpahalfiiahddaaMIWalkP0
namespace Go.Proofs.Ytpahalfiiahddaa
open Go Go.Abs RC
attribute [local irreducible] Go.Abs.dops
set_option maxRecDepth 100000
set_option maxHeartbeats 4000000

theorem ai130 : allInfo Try.prog 130 = true := by kernel_rfl
theorem ai80 : allInfo Try.prog 80 = true := by kernel_rfl
theorem ai93 : allInfo Try.prog 93 = true := by kernel_rfl
theorem ai97 : allInfo Try.prog 97 = true := by kernel_rfl
theorem bi130 : finfos Try.prog 130 = some [(0, 1)] := by kernel_rfl
theorem bi80 : finfos Try.prog 80 = some [(0, 1), (1, 1), (2, 1)] := by kernel_rfl
theorem bi93 : finfos Try.prog 93 = some [(0, 1), (1, 1), (2, 1)] := by kernel_rfl
theorem bi97 : finfos Try.prog 97 = some [(0, 1), (1, 1)] := by kernel_rfl
theorem ei123 : einfo Try.prog 123 = some ⟨40, 1, 24, [.sl []]⟩ := by kernel_rfl
theorem ei91 : einfo Try.prog 91 = some ⟨93, 3, 56, [.sl [], .sl [], .int .i64 0]⟩ := by kernel_rfl
theorem hb118 : hasBody Try.prog 118 = true := by kernel_rfl
theorem hb119 : hasBody Try.prog 119 = true := by kernel_rfl
theorem hb120 : hasBody Try.prog 120 = true := by kernel_rfl
theorem hb121 : hasBody Try.prog 121 = true := by kernel_rfl
theorem hb122 : hasBody Try.prog 122 = true := by kernel_rfl
theorem hb123 : hasBody Try.prog 123 = true := by kernel_rfl
theorem hb128 : hasBody Try.prog 128 = true := by kernel_rfl
theorem hb57 : hasBody Try.prog 57 = true := by kernel_rfl
theorem hb59 : hasBody Try.prog 59 = true := by kernel_rfl
theorem hb61 : hasBody Try.prog 61 = true := by kernel_rfl
theorem hb89 : hasBody Try.prog 89 = true := by kernel_rfl
theorem hb91 : hasBody Try.prog 91 = true := by kernel_rfl
theorem iT3 : Program.underlying Try.prog 3 = some (.int .i64) := by kernel_rfl
theorem sl91 : isSliceT Try.prog 91 = true := by kernel_rfl
theorem ti91 : tinfo Try.prog 91 = some (false, 1) := by kernel_rfl
theorem ti93 : tinfo Try.prog 93 = some (true, 3) := by kernel_rfl
theorem ti97 : tinfo Try.prog 97 = some (true, 2) := by kernel_rfl
theorem zi3 : zinfo Try.prog 3 = some [.int .i64 0] := by kernel_rfl
theorem zi93 : zinfo Try.prog 93 = some [.zc, .zc, .int .i64 0] := by kernel_rfl
theorem zi97 : zinfo Try.prog 97 = some [.zc, .zc] := by kernel_rfl

theorem impl_ValidTypes_ok {N : Nat} {p0 : (List RDecl)} {r : Bool} (h0 : impl_ValidTypes N p0 = some r) : ACalls Try.prog 89 [(ls eRDecl p0)] [] (fun v st => v = (.bool r) ∧ st = []) := by
 unfold impl_ValidTypes at h0
 refine ai Try.func89 rfl rfl rfl rfl ?_
 refine zr tb rfl rfl ?_
 refine AW.seq fun K2 hK2 => ?_
 refine sr rfl fun K3 hK3 => ?_
 refine zq tb rfl ?_
 refine zl tb rfl rfl ?_
 refine zq tb rfl ?_
 refine dn hK3 rfl ?_
 refine ci h0 rfl ?_ ?_ <;> clear h0
 ·intro b4 h0
  refine zr tb rfl rfl ?_
  replace h0 := Sh.some_eq h0
  subst r
  exact AW.ret (xr (Wk.to (L := [(2, (.bool false))]) ⟨.rfl, trivial⟩))
 ·intro b4 h0
  refine AW.skip (hK2 _ ?_)
  refine AW.seq fun K6 hK6 => ?_
  refine sr rfl fun K7 hK7 => ?_
  refine zq tb rfl ?_
  refine zl tb rfl rfl ?_
  refine zq tb rfl ?_
  refine dn hK7 rfl ?_
  obtain ⟨o9, h1, h0⟩ := Sh.cont_some h0
  have M9 : ∀ (_ : Unit), o9 = Sum.inr () → ∀ s, Wk 0 s ⟨106, envL [], []⟩ → K6 s := by
   intro _ hq s hw
   subst o9
   try dsimp only at h0
   refine hK6 _ (AW.weaken hw ?_)
   refine zr tb rfl rfl ?_
   replace h0 := Sh.some_eq h0
   subst r
   exact AW.ret (xr (Wk.to (L := [(2, (.bool true))]) ⟨.rfl, trivial⟩))
  refine AW.block (AW.loopF (σ := Int) (fun n v => impl_ValidTypes_L1 N p0 n v = some o9) (fun t8 => ⟨106, envL [(0, (ls eRDecl p0)), (12, (ls eRDecl p0)), (13, (i64 (Sh.len p0))), (14, (i64 t8))], []⟩) N 0 h1 (Wk.tr rfl) (fun _ hv => by rw [impl_ValidTypes_L1] at hv; cases hv) ?_)
  rintro n t8 h1
  try dsimp only at h1 ⊢
  rw [impl_ValidTypes_L1] at h1
  refine zr tb rfl rfl ?_
  refine AW.seq fun K12 hK12 => ?_
  refine ci h1 rfl ?_ ?_ <;> clear h1
  ·intro b13 h1
   refine AW.skip (hK12 _ ?_)
   refine AW.seq fun K14 hK14 => ?_
   refine AW.block ?_
   refine sr rfl fun K15 hK15 => ?_
   refine zq tb rfl ?_
   obtain ⟨c16, gc16, h1⟩ := Sh.bind_some h1
   refine zx ei28 gc16 rfl rfl rfl ?_
   refine zq tb rfl ?_
   refine ao_alloc (m := 0) (st' := [⟨0, 80, 3, [[(i64 0), (i64 0), .zc]]⟩]) go0 zi80 rfl rfl ?_
   refine zq tb rfl ?_
   refine ao_str (st' := [⟨0, 80, 3, [(eRDecl c16)]⟩]) go0 ti80 rfl rfl rfl rfl rfl rfl (show 0 + 3 ≤ 3 by decide) rfl ?_
   refine dn hK15 rfl ?_
   refine AW.seq fun K17 hK17 => ?_
   refine AW.seq fun K18 hK18 => ?_
   obtain ⟨o20, h2, h1⟩ := Sh.bind_some h1
   have M20 : ∀ (t19 : Bool), o20 = t19 → ∀ s, Wk 0 s ⟨106, envL [(0, (ls eRDecl p0)), (3, (i64 t8)), (4, (.ptr 0 0 0 0)), (12, (ls eRDecl p0)), (13, (i64 (Sh.len p0))), (14, (i64 t8)), (52, (.bool t19))], [⟨0, 80, 3, [(eRDecl c16)]⟩]⟩ → K18 s := by
    intro t19 hq s hw
    subst o20
    try dsimp only at h1
    refine hK18 _ (AW.weaken hw ?_)
    refine ci h1 rfl ?_ ?_ <;> clear h1
    ·intro b21 h1
     refine zr tb rfl rfl ?_
     replace h1 := Sh.some_eq h1
     subst o9
     try dsimp only [id] at h0
     replace h0 := Sh.some_eq h0
     subst r
     exact AW.ret (xr (Wk.d0 [(2, (.bool false))] rfl))
    ·intro b21 h1
     refine AW.skip (hK17 _ ?_)
     refine AW.seq fun K23 hK23 => ?_
     refine sr rfl fun K24 hK24 => ?_
     refine zm tb 2 rfl ?_
     refine zl tb rfl rfl ?_
     refine zq tb rfl ?_
     refine dn hK24 rfl ?_
     obtain ⟨o26, h2, h1⟩ := Sh.cont_some h1
     have M26 : ∀ (_ : Unit), o26 = Sum.inr () → ∀ s, Wk 0 s ⟨106, envL [(0, (ls eRDecl p0)), (3, (i64 t8)), (4, (.ptr 0 0 0 0)), (12, (ls eRDecl p0)), (13, (i64 (Sh.len p0))), (14, (i64 t8))], [⟨0, 80, 3, [(eRDecl c16)]⟩]⟩ → K23 s := by
      intro _ hq s hw
      subst o26
      try dsimp only at h1
      refine hK23 _ (AW.weaken hw ?_)
      refine sr rfl fun K27 hK27 => ?_
      refine zm tb 2 rfl ?_
      obtain ⟨l28, gl28, h1⟩ := Sh.bind_some h1
      refine ao_sls (i := 0) (j := t8) go0 ei28 rfl rfl rfl (fun _ => rfl) gl28 ?_
      refine zl tb rfl rfl ?_
      refine zq tb rfl ?_
      refine dn hK27 rfl ?_
      obtain ⟨o30, h2, h1⟩ := Sh.cont_some h1
      have M30 : ∀ (_ : Unit), o30 = Sum.inr () → ∀ s, Wk 0 s ⟨106, envL [(0, (ls eRDecl p0)), (12, (ls eRDecl p0)), (13, (i64 (Sh.len p0))), (14, (i64 t8))], []⟩ → K14 s := by
       intro _ hq s hw
       subst o30
       try dsimp only at h1
       refine hK14 _ (AW.weaken hw ?_)
       refine AW.regionO (by rfl) ?_
       refine zm tb 2 rfl ?_
       exact AO.done (xi (Sh.w (t8 + 1)) h1 (Wk.tr rfl))
      refine AW.block (AW.loopF (σ := Int) (fun n v => impl_ValidTypes_L3 c16 l28 n v = some o30) (fun t29 => ⟨106, envL [(0, (ls eRDecl p0)), (4, (.ptr 0 0 0 0)), (12, (ls eRDecl p0)), (13, (i64 (Sh.len p0))), (14, (i64 t8)), (74, (ls eRDecl l28)), (75, (i64 (Sh.len l28))), (76, (i64 t29))], [⟨0, 80, 3, [(eRDecl c16)]⟩]⟩) N 0 h2 (Wk.tr rfl) (fun _ hv => by rw [impl_ValidTypes_L3] at hv; cases hv) ?_)
      rintro n t29 h2
      try dsimp only at h2 ⊢
      rw [impl_ValidTypes_L3] at h2
      refine zr tb rfl rfl ?_
      refine AW.seq fun K32 hK32 => ?_
      refine ci h2 rfl ?_ ?_ <;> clear h2
      ·intro b33 h2
       refine AW.skip (hK32 _ ?_)
       refine AW.seq fun K34 hK34 => ?_
       refine AW.block ?_
       refine sr rfl fun K35 hK35 => ?_
       obtain ⟨c36, gc36, h2⟩ := Sh.bind_some h2
       refine zx ei28 gc36 rfl rfl rfl ?_
       refine zq tb rfl ?_
       refine ao_alloc (m := 1) (st' := [⟨0, 80, 3, [(eRDecl c16)]⟩, ⟨0, 80, 3, [[(i64 0), (i64 0), .zc]]⟩]) go0 zi80 rfl rfl ?_
       refine ao_str (st' := [⟨0, 80, 3, [(eRDecl c16)]⟩, ⟨0, 80, 3, [(eRDecl c36)]⟩]) go0 ti80 rfl rfl rfl rfl rfl rfl (show 0 + 3 ≤ 3 by decide) rfl ?_
       refine dn hK35 rfl ?_
       refine AW.seq fun K37 hK37 => ?_
       obtain ⟨o39, h3, h2⟩ := Sh.bind_some h2
       have M39 : ∀ (t38 : Bool), o39 = t38 → ∀ s, Wk 0 s ⟨106, envL [(0, (ls eRDecl p0)), (4, (.ptr 0 0 0 0)), (12, (ls eRDecl p0)), (13, (i64 (Sh.len p0))), (14, (i64 t8)), (74, (ls eRDecl l28)), (75, (i64 (Sh.len l28))), (76, (i64 t29)), (103, (.bool t38))], [⟨0, 80, 3, [(eRDecl c16)]⟩]⟩ → K37 s := by
        intro t38 hq s hw
        subst o39
        try dsimp only at h2
        refine hK37 _ (AW.weaken hw ?_)
        refine ci h2 rfl ?_ ?_ <;> clear h2
        ·intro b40 h2
         refine zr tb rfl rfl ?_
         replace h2 := Sh.some_eq h2
         subst o30
         try dsimp only [id] at h1
         replace h1 := Sh.some_eq h1
         subst o9
         try dsimp only [id] at h0
         replace h0 := Sh.some_eq h0
         subst r
         exact AW.ret (xr (Wk.d0 [(2, (.bool false))] rfl))
        ·intro b40 h2
         refine AW.skip (hK34 _ ?_)
         refine AW.regionO (by rfl) ?_
         refine zm tb 2 rfl ?_
         exact AO.done (xi (Sh.w (t29 + 1)) h2 (Wk.tr rfl))
       refine AW.regionO (by rfl) ?_
       refine zm tb 2 rfl ?_
       refine zl tb rfl rfl ?_
       refine zm tb 2 rfl ?_
       rcases Sh.ite_some h3 with ⟨b42, h3⟩ | ⟨b42, h3⟩
       ·refine zg tb b42 rfl ?_
        refine zg tb b42 rfl ?_
        refine ao_q (v := (i64 (Sh.len c36.cons))) (go1 rfl rfl b42) rfl (aq_lens sl78 rfl) ?_
        refine zg tb b42 rfl ?_
        refine zt b42 rfl ?_
        refine zq tb rfl ?_
        rcases Sh.ite_some h3 with ⟨b43, h3⟩ | ⟨b43, h3⟩
        ·refine zg tb b43 rfl ?_
         iterate 4 refine zg tb b43 rfl ?_
         refine zt b43 rfl ?_
         refine zq tb rfl ?_
         rcases Sh.ite_some h3 with ⟨b44, h3⟩ | ⟨b44, h3⟩
         ·refine zg tb b44 rfl ?_
          iterate 4 refine zg tb b44 rfl ?_
          refine zt b44 rfl ?_
          exact AO.done (M39 (decide (c36.to = c16.to)) (Sh.some_eq h3).symm _ (Wk.permk (L := [(0, (ls eRDecl p0)), (4, (.ptr 0 0 0 0)), (12, (ls eRDecl p0)), (13, (i64 (Sh.len p0))), (14, (i64 t8)), (74, (ls eRDecl l28)), (75, (i64 (Sh.len l28))), (76, (i64 t29)), (103, (.bool (decide (c36.to = c16.to))))]) (st' := [⟨0, 80, 3, [(eRDecl c16)]⟩]) (st1 := [⟨0, 80, 3, [(eRDecl c16)]⟩]) [0] rfl .nil (by decide) rfl rfl (.raw rfl rfl .nil) ⟨.rfl, .rfl, .rfl, .rfl, .rfl, .rfl, .rfl, .rfl, .rfl, trivial⟩))
         ·refine zs b44 rfl ?_
          iterate 4 refine zs b44 rfl ?_
          refine zf b44 rfl ?_
          exact AO.done (M39 false (Sh.some_eq h3).symm _ (Wk.permk (L := [(0, (ls eRDecl p0)), (4, (.ptr 0 0 0 0)), (12, (ls eRDecl p0)), (13, (i64 (Sh.len p0))), (14, (i64 t8)), (74, (ls eRDecl l28)), (75, (i64 (Sh.len l28))), (76, (i64 t29)), (103, (.bool false))]) (st' := [⟨0, 80, 3, [(eRDecl c16)]⟩]) (st1 := [⟨0, 80, 3, [(eRDecl c16)]⟩]) [0] rfl .nil (by decide) rfl rfl (.raw rfl rfl .nil) ⟨.rfl, .rfl, .rfl, .rfl, .rfl, .rfl, .rfl, .rfl, .rfl, trivial⟩))
        ·refine zs b43 rfl ?_
         iterate 4 refine zs b43 rfl ?_
         refine zf b43 rfl ?_
         refine zq tb rfl ?_
         iterate 5 refine zs rfl rfl ?_
         refine zf rfl rfl ?_
         exact AO.done (M39 false (Sh.some_eq h3).symm _ (Wk.permk (L := [(0, (ls eRDecl p0)), (4, (.ptr 0 0 0 0)), (12, (ls eRDecl p0)), (13, (i64 (Sh.len p0))), (14, (i64 t8)), (74, (ls eRDecl l28)), (75, (i64 (Sh.len l28))), (76, (i64 t29)), (103, (.bool false))]) (st' := [⟨0, 80, 3, [(eRDecl c16)]⟩]) (st1 := [⟨0, 80, 3, [(eRDecl c16)]⟩]) [0] rfl .nil (by decide) rfl rfl (.raw rfl rfl .nil) ⟨.rfl, .rfl, .rfl, .rfl, .rfl, .rfl, .rfl, .rfl, .rfl, trivial⟩))
       ·refine zs b42 rfl ?_
        iterate 3 refine zs b42 rfl ?_
        refine zf b42 rfl ?_
        refine zq tb rfl ?_
        iterate 5 refine zs rfl rfl ?_
        refine zf rfl rfl ?_
        refine zq tb rfl ?_
        iterate 5 refine zs rfl rfl ?_
        refine zf rfl rfl ?_
        exact AO.done (M39 false (Sh.some_eq h3).symm _ (Wk.permk (L := [(0, (ls eRDecl p0)), (4, (.ptr 0 0 0 0)), (12, (ls eRDecl p0)), (13, (i64 (Sh.len p0))), (14, (i64 t8)), (74, (ls eRDecl l28)), (75, (i64 (Sh.len l28))), (76, (i64 t29)), (103, (.bool false))]) (st' := [⟨0, 80, 3, [(eRDecl c16)]⟩]) (st1 := [⟨0, 80, 3, [(eRDecl c16)]⟩]) [0] rfl .nil (by decide) rfl rfl (.raw rfl rfl .nil) ⟨.rfl, .rfl, .rfl, .rfl, .rfl, .rfl, .rfl, .rfl, .rfl, trivial⟩))
      ·intro b33 h2
       exact AW.exit (M30 () (Sh.some_eq h2).symm _ (Wk.d0 _ rfl))
     refine AW.block (AW.loopF (σ := Int) (fun n v => impl_ValidTypes_L2 N c16 p0 n v = some o26) (fun t25 => ⟨106, envL [(0, (ls eRDecl p0)), (3, (i64 t8)), (4, (.ptr 0 0 0 0)), (12, (ls eRDecl p0)), (13, (i64 (Sh.len p0))), (14, (i64 t8)), (54, (ls eRCon c16.cons)), (55, (i64 (Sh.len c16.cons))), (56, (i64 t25))], [⟨0, 80, 3, [(eRDecl c16)]⟩]⟩) N 0 h2 (Wk.tr rfl) (fun _ hv => by rw [impl_ValidTypes_L2] at hv; cases hv) ?_)
     rintro n t25 h2
     try dsimp only at h2 ⊢
     rw [impl_ValidTypes_L2] at h2
     refine zr tb rfl rfl ?_
     refine AW.seq fun K46 hK46 => ?_
     refine ci h2 rfl ?_ ?_ <;> clear h2
     ·intro b47 h2
      refine AW.skip (hK46 _ ?_)
      refine AW.seq fun K48 hK48 => ?_
      refine AW.block ?_
      refine sr rfl fun K49 hK49 => ?_
      obtain ⟨c50, gc50, h2⟩ := Sh.bind_some h2
      refine zx ei78 gc50 rfl rfl rfl ?_
      refine zq tb rfl ?_
      refine ao_alloc (m := 1) (st' := [⟨0, 80, 3, [(eRDecl c16)]⟩, ⟨0, 130, 1, [[.zc]]⟩]) go0 zi130 rfl rfl ?_
      refine ao_str (st' := [⟨0, 80, 3, [(eRDecl c16)]⟩, ⟨0, 130, 1, [(eRCon c50)]⟩]) go0 ti130 rfl rfl rfl rfl rfl rfl (show 0 + 1 ≤ 1 by decide) rfl ?_
      refine dn hK49 rfl ?_
      refine AW.seq fun K51 hK51 => ?_
      obtain ⟨o53, h3, h2⟩ := Sh.bind_some h2
      have M53 : ∀ (t52 : Bool), o53 = t52 → ∀ s, Wk 0 s ⟨106, envL [(0, (ls eRDecl p0)), (3, (i64 t8)), (4, (.ptr 0 0 0 0)), (12, (ls eRDecl p0)), (13, (i64 (Sh.len p0))), (14, (i64 t8)), (54, (ls eRCon c16.cons)), (55, (i64 (Sh.len c16.cons))), (56, (i64 t25)), (70, (.bool t52))], [⟨0, 80, 3, [(eRDecl c16)]⟩]⟩ → K51 s := by
       intro t52 hq s hw
       subst o53
       try dsimp only at h2
       refine hK51 _ (AW.weaken hw ?_)
       refine ci h2 rfl ?_ ?_ <;> clear h2
       ·intro b54 h2
        refine zr tb rfl rfl ?_
        replace h2 := Sh.some_eq h2
        subst o26
        try dsimp only [id] at h1
        replace h1 := Sh.some_eq h1
        subst o9
        try dsimp only [id] at h0
        replace h0 := Sh.some_eq h0
        subst r
        exact AW.ret (xr (Wk.d0 [(2, (.bool false))] rfl))
       ·intro b54 h2
        refine AW.skip (hK48 _ ?_)
        refine AW.regionO (by rfl) ?_
        refine zm tb 2 rfl ?_
        exact AO.done (xi (Sh.w (t25 + 1)) h2 (Wk.tr rfl))
      refine AW.regionO (by rfl) ?_
      refine zm tb 2 rfl ?_
      refine zl tb rfl rfl ?_
      refine zm tb 2 rfl ?_
      rcases Sh.ite_some h3 with ⟨b56, h3⟩ | ⟨b56, h3⟩
      ·refine zs b56 rfl ?_
       iterate 4 refine zs b56 rfl ?_
       refine zt b56 rfl ?_
       exact AO.done (M53 true (Sh.some_eq h3).symm _ (Wk.permk (L := [(0, (ls eRDecl p0)), (3, (i64 t8)), (4, (.ptr 0 0 0 0)), (12, (ls eRDecl p0)), (13, (i64 (Sh.len p0))), (14, (i64 t8)), (54, (ls eRCon c16.cons)), (55, (i64 (Sh.len c16.cons))), (56, (i64 t25)), (70, (.bool true))]) (st' := [⟨0, 80, 3, [(eRDecl c16)]⟩]) (st1 := [⟨0, 80, 3, [(eRDecl c16)]⟩]) [0] rfl .nil (by decide) rfl rfl (.raw rfl rfl .nil) ⟨.rfl, .rfl, .rfl, .rfl, .rfl, .rfl, .rfl, .rfl, .rfl, .rfl, trivial⟩))
      ·refine zg tb b56 rfl ?_
       iterate 2 refine zg tb b56 rfl ?_
       obtain ⟨q57, gq57, h3⟩ := Sh.bind_some h3
       refine zd b56 hb59 (impl_allTypes_ok gq57) rfl rfl rfl rfl ?_
       refine zg tb b56 rfl ?_
       refine zf b56 rfl ?_
       exact AO.done (M53 (!q57) (Sh.some_eq h3).symm _ (Wk.permk (L := [(0, (ls eRDecl p0)), (3, (i64 t8)), (4, (.ptr 0 0 0 0)), (12, (ls eRDecl p0)), (13, (i64 (Sh.len p0))), (14, (i64 t8)), (54, (ls eRCon c16.cons)), (55, (i64 (Sh.len c16.cons))), (56, (i64 t25)), (70, (.bool (!q57)))]) (st' := [⟨0, 80, 3, [(eRDecl c16)]⟩]) (st1 := [⟨0, 80, 3, [(eRDecl c16)]⟩]) [0] rfl .nil (by decide) rfl rfl (.raw rfl rfl .nil) ⟨.rfl, .rfl, .rfl, .rfl, .rfl, .rfl, .rfl, .rfl, .rfl, .rfl, trivial⟩))
     ·intro b47 h2
      exact AW.exit (M26 () (Sh.some_eq h2).symm _ (Wk.tr rfl))
   refine AW.regionO (by rfl) ?_
   refine zm tb 3 rfl ?_
   obtain ⟨q58, gq58, h2⟩ := Sh.bind_some h2
   refine zc hb90 (impl_isType_ok gq58) rfl rfl rfl ?_
   refine zm tb 2 rfl ?_
   rcases Sh.ite_some h2 with ⟨b59, h2⟩ | ⟨b59, h2⟩
   ·refine zs b59 rfl ?_
    iterate 4 refine zs b59 rfl ?_
    refine zt b59 rfl ?_
    refine zq tb rfl ?_
    iterate 4 refine zs rfl rfl ?_
    refine zt rfl rfl ?_
    refine zq tb rfl ?_
    iterate 5 refine zs rfl rfl ?_
    iterate 8 refine zn rfl ?_
    refine zs rfl rfl ?_
    refine zt rfl rfl ?_
    exact AO.done (M20 true (Sh.some_eq h2).symm _ (Wk.tr rfl))
   ·refine zg tb b59 rfl ?_
    iterate 2 refine zg tb b59 rfl ?_
    obtain ⟨q60, gq60, h2⟩ := Sh.bind_some h2
    refine zd b59 hb90 (impl_isType_ok gq60) rfl rfl rfl rfl ?_
    refine zg tb b59 rfl ?_
    refine zf b59 rfl ?_
    refine zq tb rfl ?_
    rcases Sh.ite_some h2 with ⟨b61, h2⟩ | ⟨b61, h2⟩
    ·refine zs b61 rfl ?_
     iterate 3 refine zs b61 rfl ?_
     refine zt b61 rfl ?_
     refine zq tb rfl ?_
     iterate 5 refine zs rfl rfl ?_
     iterate 8 refine zn rfl ?_
     refine zs rfl rfl ?_
     refine zt rfl rfl ?_
     exact AO.done (M20 true (Sh.some_eq h2).symm _ (Wk.tr rfl))
    ·refine zg tb b61 rfl ?_
     refine zg tb b61 rfl ?_
     refine ao_q (v := (i64 (Sh.len c16.cons))) (go1 rfl rfl b61) rfl (aq_lens sl78 rfl) ?_
     refine zg tb b61 rfl ?_
     refine zf b61 rfl ?_
     refine zq tb rfl ?_
     rcases Sh.ite_some h2 with ⟨b62, h2⟩ | ⟨b62, h2⟩
     ·refine zs b62 rfl ?_
      iterate 4 refine zs b62 rfl ?_
      iterate 8 refine zn rfl ?_
      refine zs b62 rfl ?_
      refine zt b62 rfl ?_
      exact AO.done (M20 true (Sh.some_eq h2).symm _ (Wk.tr rfl))
     ·refine zg tb b62 rfl ?_
      refine zg tb b62 rfl ?_
      refine ao_q (v := (i64 (Sh.len c16.cons))) (go1 rfl rfl b62) rfl (aq_lens sl78 rfl) ?_
      iterate 2 refine zg tb b62 rfl ?_
      rcases Sh.ite_some h2 with ⟨b63, h2⟩ | ⟨b63, h2⟩
      ·refine zg tb b63 rfl ?_
       iterate 3 refine zg tb b63 rfl ?_
       rcases Sh.ite_some h2 with ⟨b64, h2⟩ | ⟨b64, h2⟩
       ·refine zs b64 rfl ?_
        iterate 2 refine zs b64 rfl ?_
        refine ao_q (v := (.bool true)) (go1 rfl rfl b63) rfl (aq_pkt rfl b64 rfl) ?_
        refine ao_q (v := (.bool true)) (go1 rfl rfl b62) rfl (aq_pkt rfl b63 rfl) ?_
        refine zf b62 rfl ?_
        exact AO.done (M20 true (Sh.some_eq h2).symm _ (Wk.tr rfl))
       ·refine zg tb b64 rfl ?_
        iterate 2 refine zg tb b64 rfl ?_
        refine ao_q (v := (.bool (!decide (c16.to = 0)))) (go1 rfl rfl b63) rfl (aq_pkf rfl b64 rfl) ?_
        refine ao_q (v := (.bool (!decide (c16.to = 0)))) (go1 rfl rfl b62) rfl (aq_pkt rfl b63 rfl) ?_
        refine zf b62 rfl ?_
        exact AO.done (M20 (!decide (c16.to = 0)) (Sh.some_eq h2).symm _ (Wk.tr rfl))
      ·refine zs b63 rfl ?_
       iterate 3 refine zs b63 rfl ?_
       iterate 3 refine zn rfl ?_
       refine zs b63 rfl ?_
       refine ao_q (v := (.bool false)) (go1 rfl rfl b62) rfl (aq_pkf rfl b63 rfl) ?_
       refine zf b62 rfl ?_
       exact AO.done (M20 false (Sh.some_eq h2).symm _ (Wk.tr rfl))
  ·intro b13 h1
   exact AW.exit (M9 () (Sh.some_eq h1).symm _ (Wk.tr rfl))
theorem impl_validSigs_ok {N : Nat} {p0 : (List RDecl)} {p1 : (List RSignature)} {r : Bool} (h0 : impl_validSigs N p0 p1 = some r) : ACalls Try.prog 57 [(ls eRDecl p0), (ls eRSignature p1)] [] (fun v st => v = (.bool r) ∧ st = []) := by
 unfold impl_validSigs at h0
 refine ai Try.func57 rfl rfl rfl rfl ?_
 refine zr tb rfl rfl ?_
 refine AW.seq fun K2 hK2 => ?_
 refine AW.seq fun K3 hK3 => ?_
 obtain ⟨o5, h1, h0⟩ := Sh.bind_some h0
 have M5 : ∀ (t4 : Bool), o5 = t4 → ∀ s, Wk 0 s ⟨102, envL [(0, (ls eRDecl p0)), (1, (ls eRSignature p1)), (36, (.bool t4))], []⟩ → K3 s := by
  intro t4 hq s hw
  subst o5
  try dsimp only at h0
  refine hK3 _ (AW.weaken hw ?_)
  refine ci h0 rfl ?_ ?_ <;> clear h0
  ·intro b6 h0
   refine zr tb rfl rfl ?_
   replace h0 := Sh.some_eq h0
   subst r
   exact AW.ret (xr (Wk.to (L := [(4, (.bool false))]) ⟨.rfl, trivial⟩))
  ·intro b6 h0
   refine AW.skip (hK2 _ ?_)
   refine AW.seq fun K8 hK8 => ?_
   refine sr rfl fun K9 hK9 => ?_
   refine zq tb rfl ?_
   refine zl tb rfl rfl ?_
   refine zq tb rfl ?_
   refine dn hK9 rfl ?_
   obtain ⟨o11, h1, h0⟩ := Sh.cont_some h0
   have M11 : ∀ (_ : Unit), o11 = Sum.inr () → ∀ s, Wk 0 s ⟨102, envL [], []⟩ → K8 s := by
    intro _ hq s hw
    subst o11
    try dsimp only at h0
    refine hK8 _ (AW.weaken hw ?_)
    refine zr tb rfl rfl ?_
    replace h0 := Sh.some_eq h0
    subst r
    exact AW.ret (xr (Wk.to (L := [(4, (.bool true))]) ⟨.rfl, trivial⟩))
   refine AW.block (AW.loopF (σ := Int) (fun n v => impl_validSigs_L1 N p0 p1 n v = some o11) (fun t10 => ⟨102, envL [(0, (ls eRDecl p0)), (37, (ls eRSignature p1)), (38, (i64 (Sh.len p1))), (39, (i64 t10))], []⟩) N 0 h1 (Wk.tr rfl) (fun _ hv => by rw [impl_validSigs_L1] at hv; cases hv) ?_)
   rintro n t10 h1
   try dsimp only at h1 ⊢
   rw [impl_validSigs_L1] at h1
   refine zr tb rfl rfl ?_
   refine AW.seq fun K14 hK14 => ?_
   refine ci h1 rfl ?_ ?_ <;> clear h1
   ·intro b15 h1
    refine AW.skip (hK14 _ ?_)
    refine AW.seq fun K16 hK16 => ?_
    refine AW.block ?_
    refine sr rfl fun K17 hK17 => ?_
    obtain ⟨c18, gc18, h1⟩ := Sh.bind_some h1
    refine zx ei91 gc18 rfl rfl rfl ?_
    refine zq tb rfl ?_
    refine ao_alloc (m := 0) (st' := [⟨0, 93, 3, [[.zc, .zc, (i64 0)]]⟩]) go0 zi93 rfl rfl ?_
    refine ao_str (st' := [⟨0, 93, 3, [[(ls eI c18.params), (ls eI c18.lent), (i64 c18.result)]]⟩]) go0 ti93 rfl rfl rfl rfl rfl rfl (show 0 + 3 ≤ 3 by decide) rfl ?_
    refine dn hK17 rfl ?_
    refine AW.seq fun K19 hK19 => ?_
    refine AW.seq fun K20 hK20 => ?_
    obtain ⟨o22, h2, h1⟩ := Sh.bind_some h1
    have M22 : ∀ (t21 : Bool), o22 = t21 → ∀ s, Wk 0 s ⟨102, envL [(0, (ls eRDecl p0)), (6, (.ptr 0 0 0 0)), (37, (ls eRSignature p1)), (38, (i64 (Sh.len p1))), (39, (i64 t10)), (60, (.bool t21))], [⟨0, 93, 3, [[(ls eI c18.params), (ls eI c18.lent), (i64 c18.result)]]⟩]⟩ → K20 s := by
     intro t21 hq s hw
     subst o22
     try dsimp only at h1
     refine hK20 _ (AW.weaken hw ?_)
     refine ci h1 rfl ?_ ?_ <;> clear h1
     ·intro b23 h1
      refine zr tb rfl rfl ?_
      replace h1 := Sh.some_eq h1
      subst o11
      try dsimp only [id] at h0
      replace h0 := Sh.some_eq h0
      subst r
      exact AW.ret (xr (Wk.d0 [(4, (.bool false))] rfl))
     ·intro b23 h1
      refine AW.skip (hK19 _ ?_)
      refine sr rfl fun K25 hK25 => ?_
      refine zm tb 2 rfl ?_
      refine zl tb rfl rfl ?_
      refine zq tb rfl ?_
      refine dn hK25 rfl ?_
      obtain ⟨o27, h2, h1⟩ := Sh.cont_some h1
      have M27 : ∀ (_ : Unit), o27 = Sum.inr () → ∀ s, Wk 0 s ⟨102, envL [(0, (ls eRDecl p0)), (37, (ls eRSignature p1)), (38, (i64 (Sh.len p1))), (39, (i64 t10))], []⟩ → K16 s := by
       intro _ hq s hw
       subst o27
       try dsimp only at h1
       refine hK16 _ (AW.weaken hw ?_)
       refine AW.regionO (by rfl) ?_
       refine zm tb 2 rfl ?_
       exact AO.done (xi (Sh.w (t10 + 1)) h1 (Wk.tr rfl))
      refine AW.block (AW.loopF (σ := Int) (fun n v => impl_validSigs_L2 c18 n v = some o27) (fun t26 => ⟨102, envL [(0, (ls eRDecl p0)), (6, (.ptr 0 0 0 0)), (37, (ls eRSignature p1)), (38, (i64 (Sh.len p1))), (39, (i64 t10)), (62, (ls eI c18.lent)), (63, (i64 (Sh.len c18.lent))), (64, (i64 t26))], [⟨0, 93, 3, [[(ls eI c18.params), (ls eI c18.lent), (i64 c18.result)]]⟩]⟩) N 0 h2 (Wk.tr rfl) (fun _ hv => by rw [impl_validSigs_L2] at hv; cases hv) ?_)
      rintro n t26 h2
      try dsimp only at h2 ⊢
      rw [impl_validSigs_L2] at h2
      refine zr tb rfl rfl ?_
      refine AW.seq fun K29 hK29 => ?_
      refine ci h2 rfl ?_ ?_ <;> clear h2
      ·intro b30 h2
       refine AW.skip (hK29 _ ?_)
       refine AW.seq fun K31 hK31 => ?_
       refine AW.block ?_
       refine sr rfl fun K32 hK32 => ?_
       refine zq tb rfl ?_
       obtain ⟨c33, gc33, h2⟩ := Sh.bind_some h2
       refine zx ei40 gc33 rfl rfl rfl ?_
       refine zm tb 3 rfl ?_
       refine dn hK32 rfl ?_
       refine AW.seq fun K34 hK34 => ?_
       obtain ⟨o36, h3, h2⟩ := Sh.bind_some h2
       have M36 : ∀ (t35 : Bool), o36 = t35 → ∀ s, Wk 0 s ⟨102, envL [(0, (ls eRDecl p0)), (6, (.ptr 0 0 0 0)), (37, (ls eRSignature p1)), (38, (i64 (Sh.len p1))), (39, (i64 t10)), (62, (ls eI c18.lent)), (63, (i64 (Sh.len c18.lent))), (64, (i64 t26)), (99, (.bool t35))], [⟨0, 93, 3, [[(ls eI c18.params), (ls eI c18.lent), (i64 c18.result)]]⟩]⟩ → K34 s := by
        intro t35 hq s hw
        subst o36
        try dsimp only at h2
        refine hK34 _ (AW.weaken hw ?_)
        refine ci h2 rfl ?_ ?_ <;> clear h2
        ·intro b37 h2
         refine zr tb rfl rfl ?_
         replace h2 := Sh.some_eq h2
         subst o27
         try dsimp only [id] at h1
         replace h1 := Sh.some_eq h1
         subst o11
         try dsimp only [id] at h0
         replace h0 := Sh.some_eq h0
         subst r
         exact AW.ret (xr (Wk.d0 [(4, (.bool false))] rfl))
        ·intro b37 h2
         refine AW.skip (hK31 _ ?_)
         refine AW.regionO (by rfl) ?_
         refine zm tb 2 rfl ?_
         exact AO.done (xi (Sh.w (t26 + 1)) h2 (Wk.tr rfl))
       refine AW.regionO (by rfl) ?_
       refine zm tb 3 rfl ?_
       rcases Sh.ite_some h3 with ⟨b39, h3⟩ | ⟨b39, h3⟩
       ·refine zs b39 rfl ?_
        iterate 4 refine zs b39 rfl ?_
        refine zt b39 rfl ?_
        refine zq tb rfl ?_
        iterate 6 refine zs rfl rfl ?_
        refine zt rfl rfl ?_
        refine zq tb rfl ?_
        iterate 3 refine zs rfl rfl ?_
        iterate 8 refine zn rfl ?_
        refine zs rfl rfl ?_
        refine zt rfl rfl ?_
        exact AO.done (M36 true (Sh.some_eq h3).symm _ (Wk.tr rfl))
       ·refine zg tb b39 rfl ?_
        iterate 2 refine zg tb b39 rfl ?_
        refine ao_q (v := (i64 (Sh.len c18.params))) (go1 rfl rfl b39) rfl (aq_lens sl40 rfl) ?_
        refine zg tb b39 rfl ?_
        refine zf b39 rfl ?_
        refine zq tb rfl ?_
        rcases Sh.ite_some h3 with ⟨b40, h3⟩ | ⟨b40, h3⟩
        ·refine zs b40 rfl ?_
         iterate 5 refine zs b40 rfl ?_
         refine zt b40 rfl ?_
         refine zq tb rfl ?_
         iterate 3 refine zs rfl rfl ?_
         iterate 8 refine zn rfl ?_
         refine zs rfl rfl ?_
         refine zt rfl rfl ?_
         exact AO.done (M36 true (Sh.some_eq h3).symm _ (Wk.tr rfl))
        ·refine zg tb b40 rfl ?_
         iterate 2 refine zg tb b40 rfl ?_
         obtain ⟨c41, gc41, h3⟩ := Sh.bind_some h3
         refine ao_q (v := (.iptr (eI c41) 0)) (go1 rfl rfl b40) rfl (aq_ixs ei40 rfl rfl gc41 rfl) ?_
         iterate 2 refine zg tb b40 rfl ?_
         refine zf b40 rfl ?_
         refine zq tb rfl ?_
         rcases Sh.ite_some h3 with ⟨b42, h3⟩ | ⟨b42, h3⟩
         ·refine zs b42 rfl ?_
          iterate 2 refine zs b42 rfl ?_
          iterate 8 refine zn rfl ?_
          refine zs b42 rfl ?_
          refine zt b42 rfl ?_
          exact AO.done (M36 true (Sh.some_eq h3).symm _ (Wk.tr rfl))
         ·refine zg tb b42 rfl ?_
          iterate 2 refine zg tb b42 rfl ?_
          rcases Sh.ite_some h3 with ⟨b43, h3⟩ | ⟨b43, h3⟩
          ·refine zg tb b43 rfl ?_
           iterate 4 refine zg tb b43 rfl ?_
           obtain ⟨c44, gc44, h3⟩ := Sh.bind_some h3
           refine ao_q (v := (.iptr (eI c44) 0)) (go1 rfl rfl b43) rfl (aq_ixs ei40 rfl rfl gc44 rfl) ?_
           iterate 2 refine zg tb b43 rfl ?_
           refine ao_q (v := (.bool (decide (c33 ≤ c44)))) (go1 rfl rfl b42) rfl (aq_pkt rfl b43 rfl) ?_
           refine zf b42 rfl ?_
           exact AO.done (M36 (decide (c33 ≤ c44)) (Sh.some_eq h3).symm _ (Wk.tr rfl))
          ·refine zs b43 rfl ?_
           iterate 7 refine zs b43 rfl ?_
           refine ao_q (v := (.bool false)) (go1 rfl rfl b42) rfl (aq_pkf rfl b43 rfl) ?_
           refine zf b42 rfl ?_
           exact AO.done (M36 false (Sh.some_eq h3).symm _ (Wk.tr rfl))
      ·intro b30 h2
       exact AW.exit (M27 () (Sh.some_eq h2).symm _ (Wk.d0 _ rfl))
    refine AW.regionO (by rfl) ?_
    refine zm tb 2 rfl ?_
    refine zl tb rfl rfl ?_
    refine zm tb 2 rfl ?_
    rcases Sh.ite_some h2 with ⟨b45, h2⟩ | ⟨b45, h2⟩
    ·refine zs b45 rfl ?_
     iterate 4 refine zs b45 rfl ?_
     refine zt b45 rfl ?_
     refine zq tb rfl ?_
     iterate 5 refine zs rfl rfl ?_
     refine zt rfl rfl ?_
     exact AO.done (M22 true (Sh.some_eq h2).symm _ (Wk.tr rfl))
    ·refine zg tb b45 rfl ?_
     iterate 2 refine zg tb b45 rfl ?_
     obtain ⟨q46, gq46, h2⟩ := Sh.bind_some h2
     refine zd b45 hb59 (impl_allTypes_ok gq46) rfl rfl rfl rfl ?_
     refine zg tb b45 rfl ?_
     refine zf b45 rfl ?_
     refine zq tb rfl ?_
     rcases Sh.ite_some h2 with ⟨b47, h2⟩ | ⟨b47, h2⟩
     ·refine zs b47 rfl ?_
      iterate 4 refine zs b47 rfl ?_
      refine zt b47 rfl ?_
      exact AO.done (M22 true (Sh.some_eq h2).symm _ (Wk.tr rfl))
     ·refine zg tb b47 rfl ?_
      iterate 2 refine zg tb b47 rfl ?_
      obtain ⟨q48, gq48, h2⟩ := Sh.bind_some h2
      refine zd b47 hb90 (impl_isType_ok gq48) rfl rfl rfl rfl ?_
      refine zg tb b47 rfl ?_
      refine zf b47 rfl ?_
      exact AO.done (M22 (!q48) (Sh.some_eq h2).symm _ (Wk.tr rfl))
   ·intro b15 h1
    exact AW.exit (M11 () (Sh.some_eq h1).symm _ (Wk.tr rfl))
 refine AW.regionO (by rfl) ?_
 refine zq tb rfl ?_
 obtain ⟨q49, gq49, h1⟩ := Sh.bind_some h1
 refine zc hb89 (impl_ValidTypes_ok gq49) rfl rfl rfl ?_
 refine zm tb 2 rfl ?_
 rcases Sh.ite_some h1 with ⟨b50, h1⟩ | ⟨b50, h1⟩
 ·refine zs b50 rfl ?_
  iterate 2 refine zs b50 rfl ?_
  refine zt b50 rfl ?_
  refine zq tb rfl ?_
  iterate 3 refine zs rfl rfl ?_
  refine zt rfl rfl ?_
  refine zq tb rfl ?_
  iterate 6 refine zs rfl rfl ?_
  refine zt rfl rfl ?_
  refine zq tb rfl ?_
  iterate 5 refine zs rfl rfl ?_
  refine zt rfl rfl ?_
  exact AO.done (M5 true (Sh.some_eq h1).symm _ (Wk.tr rfl))
 ·refine zg tb b50 rfl ?_
  refine ao_q (v := (i64 (Sh.len p1))) (go1 rfl rfl b50) rfl (aq_lens sl91 rfl) ?_
  refine zg tb b50 rfl ?_
  refine zf b50 rfl ?_
  refine zq tb rfl ?_
  rcases Sh.ite_some h1 with ⟨b51, h1⟩ | ⟨b51, h1⟩
  ·refine zs b51 rfl ?_
   iterate 2 refine zs b51 rfl ?_
   refine zt b51 rfl ?_
   refine zq tb rfl ?_
   iterate 6 refine zs rfl rfl ?_
   refine zt rfl rfl ?_
   refine zq tb rfl ?_
   iterate 5 refine zs rfl rfl ?_
   refine zt rfl rfl ?_
   exact AO.done (M5 true (Sh.some_eq h1).symm _ (Wk.tr rfl))
  ·refine zg tb b51 rfl ?_
   refine ao_q (v := (i64 (Sh.len p1))) (go1 rfl rfl b51) rfl (aq_lens sl91 rfl) ?_
   refine zg tb b51 rfl ?_
   refine zf b51 rfl ?_
   refine zq tb rfl ?_
   rcases Sh.ite_some h1 with ⟨b52, h1⟩ | ⟨b52, h1⟩
   ·refine zs b52 rfl ?_
    iterate 5 refine zs b52 rfl ?_
    refine zt b52 rfl ?_
    refine zq tb rfl ?_
    iterate 5 refine zs rfl rfl ?_
    refine zt rfl rfl ?_
    exact AO.done (M5 true (Sh.some_eq h1).symm _ (Wk.tr rfl))
   ·refine zg tb b52 rfl ?_
    obtain ⟨c53, gc53, h1⟩ := Sh.bind_some h1
    refine ao_q (v := (.iptr (eRSignature c53) 0)) (go1 rfl rfl b52) rfl (aq_ixs ei91 rfl rfl gc53 rfl) ?_
    iterate 2 refine zg tb b52 rfl ?_
    refine ao_q (v := (i64 (Sh.len c53.params))) (go1 rfl rfl b52) rfl (aq_lens sl40 rfl) ?_
    refine zg tb b52 rfl ?_
    refine zf b52 rfl ?_
    refine zq tb rfl ?_
    rcases Sh.ite_some h1 with ⟨b54, h1⟩ | ⟨b54, h1⟩
    ·refine zs b54 rfl ?_
     iterate 4 refine zs b54 rfl ?_
     refine zt b54 rfl ?_
     exact AO.done (M5 true (Sh.some_eq h1).symm _ (Wk.tr rfl))
    ·refine zg tb b54 rfl ?_
     refine ao_q (v := (.iptr (eRSignature c53) 0)) (go1 rfl rfl b54) rfl (aq_ixs ei91 rfl rfl gc53 rfl) ?_
     iterate 3 refine zg tb b54 rfl ?_
     refine zf b54 rfl ?_
     exact AO.done (M5 (!decide (c53.result = 0)) (Sh.some_eq h1).symm _ (Wk.tr rfl))
theorem impl_ValidSigs_ok {N : Nat} {p0 : RProgram} {r : Bool} (h0 : impl_ValidSigs N p0 = some r) : ACalls Try.prog 38 [(.agg [(ls eRDecl p0.decls), (ls eRFunc p0.funcs)])] [] (fun v st => v = (.bool r) ∧ st = []) := by
 unfold impl_ValidSigs at h0
 refine ai Try.func38 rfl rfl rfl rfl ?_
 refine sr rfl fun K1 hK1 => ?_
 refine ao_box (m := 0) (st' := [⟨0, 31, 2, [[(ls eRDecl p0.decls), (ls eRFunc p0.funcs)]]⟩]) go0 rfl rfl rfl rfl rfl ?_
 refine zq tb rfl ?_
 refine dn hK1 rfl ?_
 refine sr rfl fun K2 hK2 => ?_
 refine ao_make0 (c := 4) (m := 1) (st' := [⟨0, 31, 2, [[(ls eRDecl p0.decls), (ls eRFunc p0.funcs)]]⟩, (ro 0 93 3 eRSignature ([] : List RSignature))]) ei91 rfl rfl rfl rfl rfl ?_
 refine zq tb rfl ?_
 refine dn hK2 rfl ?_
 refine AW.seq fun K3 hK3 => ?_
 refine sr rfl fun K4 hK4 => ?_
 refine zm tb 2 rfl ?_
 refine zl tb rfl rfl ?_
 refine zq tb rfl ?_
 refine dn hK4 rfl ?_
 refine ci h0 rfl ?_ ?_ <;> clear h0
 ·intro b5 h0
  refine zr tb rfl rfl ?_
  replace h0 := Sh.some_eq h0
  subst r
  exact AW.ret (xr (Wk.d0 [(2, (.bool false))] rfl))
 ·intro b5 h0
  refine AW.skip (hK3 _ ?_)
  refine AW.seq fun K7 hK7 => ?_
  refine sr rfl fun K8 hK8 => ?_
  refine zm tb 2 rfl ?_
  refine zl tb rfl rfl ?_
  refine zq tb rfl ?_
  refine dn hK8 rfl ?_
  obtain ⟨o12, h1, h0⟩ := Sh.bind_some h0
  have M12 : ∀ (l11 : (List RSignature)), o12 = l11 → ∀ s, Wk 0 s ⟨31, envL [(1, (.ptr 0 0 0 0)), (3, (ow 1 0 l11))], [⟨0, 31, 2, [[(ls eRDecl p0.decls), (ls eRFunc p0.funcs)]]⟩, (ro 0 93 3 eRSignature l11)]⟩ → K7 s := by
   intro l11 hq s hw
   subst o12
   try dsimp only at h0
   refine hK7 _ (AW.weaken hw ?_)
   refine sr rfl fun K13 hK13 => ?_
   refine zm tb 3 rfl ?_
   refine AO.weaken (Wk.frz (L := [(28, (ls eRDecl p0.decls)), (29, (ls eRSignature l11))]) (st' := [⟨0, 31, 2, [[(ls eRDecl p0.decls), (ls eRFunc p0.funcs)]]⟩, ⟨1, 93, 3, []⟩]) (id := 1) rfl (show 0 ≤ 1 by decide) (pure_map fun _ => rfl) ⟨.rfl, (.frz rfl), trivial⟩ rfl) ?_
   obtain ⟨q14, gq14, h0⟩ := Sh.bind_some h0
   refine zc hb57 (impl_validSigs_ok gq14) rfl rfl rfl ?_
   refine zq tb rfl ?_
   refine dn hK13 rfl ?_
   replace h0 := Sh.some_eq h0
   subst r
   exact AW.ret (xr (Wk.d0 [(2, (.bool q14))] rfl))
  refine AW.block (AW.loopF (σ := Int × (List RSignature)) (fun n v => impl_ValidSigs_L1 p0 n v.1 v.2 = some o12) (fun (t9, l10) => ⟨31, envL [(1, (.ptr 0 0 0 0)), (3, (ow 1 0 l10)), (12, (ls eRFunc p0.funcs)), (13, (i64 (Sh.len p0.funcs))), (14, (i64 t9))], [⟨0, 31, 2, [[(ls eRDecl p0.decls), (ls eRFunc p0.funcs)]]⟩, (ro 0 93 3 eRSignature l10)]⟩) N (0, []) h1 (Wk.tr rfl) (fun _ hv => by rw [impl_ValidSigs_L1] at hv; cases hv) ?_)
  rintro n ⟨t9, l10⟩ h1
  try dsimp only at h1 ⊢
  rw [impl_ValidSigs_L1] at h1
  refine zr tb rfl rfl ?_
  refine AW.seq fun K16 hK16 => ?_
  refine ci h1 rfl ?_ ?_ <;> clear h1
  ·intro b17 h1
   refine AW.skip (hK16 _ ?_)
   refine AW.seq fun K18 hK18 => ?_
   refine AW.block ?_
   refine sr rfl fun K19 hK19 => ?_
   obtain ⟨c20, gc20, h1⟩ := Sh.bind_some h1
   refine zx ei29 gc20 rfl rfl rfl ?_
   refine zq tb rfl ?_
   refine ao_alloc (m := 2) (st' := [⟨0, 31, 2, [[(ls eRDecl p0.decls), (ls eRFunc p0.funcs)]]⟩, (ro 0 93 3 eRSignature l10), ⟨0, 52, 5, [[.zc, (i64 0), (i64 0), (i64 0), .zc]]⟩]) go0 zi52 rfl rfl ?_
   refine ao_str (st' := [⟨0, 31, 2, [[(ls eRDecl p0.decls), (ls eRFunc p0.funcs)]]⟩, (ro 0 93 3 eRSignature l10), ⟨0, 52, 5, [[(ls eI c20.params), (i64 c20.result), (i64 c20.body.op), (i64 c20.body.num), (ls eRExpr c20.body.kids)]]⟩]) go0 ti52 rfl rfl rfl rfl rfl rfl (show 0 + 5 ≤ 5 by decide) rfl ?_
   refine dn hK19 rfl ?_
   refine AW.regionO (by rfl) ?_
   refine zm tb 5 rfl ?_
   refine zz (.agg [(ls eI c20.params), .zc, (i64 c20.result)]) (aq_bd ai93 bi93 zi93 rfl rfl) rfl ?_
   refine AO.weaken (Wk.to (L := [(1, (.ptr 0 0 0 0)), (12, (ls eRFunc p0.funcs)), (13, (i64 (Sh.len p0.funcs))), (14, (i64 t9)), (18, (ow 1 0 l10)), (23, (.agg [(ls eI c20.params), (.sl (List.map eI [])), (i64 c20.result)]))]) ⟨.rfl, .rfl, .rfl, .rfl, .rfl, (.agg ⟨.rfl, .zc, .rfl, trivial⟩), trivial⟩) ?_
   refine ao_bs (m := 3) (st' := [⟨0, 31, 2, [[(ls eRDecl p0.decls), (ls eRFunc p0.funcs)]]⟩, (ro 0 93 3 eRSignature l10), ⟨0, 52, 5, [[(ls eI c20.params), (i64 c20.result), (i64 c20.body.op), (i64 c20.body.num), (ls eRExpr c20.body.kids)]]⟩, (ro 0 93 3 eRSignature ([(RSignature.mk c20.params [] c20.result)]))]) (l := ([(RSignature.mk c20.params [] c20.result)])) (enc := eRSignature) go0 ei91 (by decide) rfl rfl rfl rfl rfl rfl ?_
   obtain ⟨l21, gl21, h1⟩ := Sh.bind_some h1
   refine ao_apo (st' := [⟨0, 31, 2, [[(ls eRDecl p0.decls), (ls eRFunc p0.funcs)]]⟩, (ro 1 93 3 eRSignature l21), ⟨0, 52, 5, [[(ls eI c20.params), (i64 c20.result), (i64 c20.body.op), (i64 c20.body.num), (ls eRExpr c20.body.kids)]]⟩, (ro 0 93 3 eRSignature ([(RSignature.mk c20.params [] c20.result)]))]) (l2 := ([(RSignature.mk c20.params [] c20.result)])) go0 ei91 rfl rfl rfl rfl (el_o rfl rfl) (fun _ => rfl) gl21 rfl ?_
   refine zq tb rfl ?_
   refine dn hK18 rfl ?_
   refine AW.regionO (by rfl) ?_
   refine zm tb 2 rfl ?_
   exact AO.done (xi (Sh.w (t9 + 1), l21) h1 (by refine Wk.trans (Wk.rg (L := [(1, (.ptr 0 0 0 0)), (3, (ow 1 0 l21)), (12, (ls eRFunc p0.funcs)), (13, (i64 (Sh.len p0.funcs))), (14, (i64 (Sh.w (t9 + 1))))]) (st' := [⟨0, 31, 2, [[(ls eRDecl p0.decls), (ls eRFunc p0.funcs)]]⟩, (ro 0 93 3 eRSignature l21), ⟨0, 52, 5, [[(ls eI c20.params), (i64 c20.result), (i64 c20.body.op), (i64 c20.body.num), (ls eRExpr c20.body.kids)]]⟩, (ro 0 93 3 eRSignature ([(RSignature.mk c20.params [] c20.result)]))]) (.raw rfl rfl (.pure (pure_map fun _ => rfl) (.raw rfl rfl (.pure (pure_map fun _ => rfl) .nil)))) ⟨.rfl, .rfl, .rfl, .rfl, .rfl, trivial⟩) ?_; exact Wk.permk (L := [(1, (.ptr 0 0 0 0)), (3, (ow 1 0 l21)), (12, (ls eRFunc p0.funcs)), (13, (i64 (Sh.len p0.funcs))), (14, (i64 (Sh.w (t9 + 1))))]) (st' := [⟨0, 31, 2, [[(ls eRDecl p0.decls), (ls eRFunc p0.funcs)]]⟩, (ro 0 93 3 eRSignature l21)]) (st1 := [⟨0, 31, 2, [[(ls eRDecl p0.decls), (ls eRFunc p0.funcs)]]⟩, (ro 0 93 3 eRSignature l21)]) [0, 1] rfl .nil (by decide) rfl rfl (.raw rfl rfl (.pure (pure_map fun _ => rfl) .nil)) ⟨.rfl, .rfl, .rfl, .rfl, .rfl, trivial⟩))
  ·intro b17 h1
   exact AW.exit (M12 l10 (Sh.some_eq h1).symm _ (Wk.tr rfl))
theorem impl_countNodes_B_ok {N : Nat} {rec_impl_countNodes : Int → RExpr → Option (Bool × Int)} (hrec_impl_countNodes : ∀ {s0_0 : Int} {p0 : RExpr} {r : Bool × Int}, rec_impl_countNodes s0_0 p0 = some r → ACalls Try.prog 91 [(.agg [(i64 p0.op), (i64 p0.num), (ls eRExpr p0.kids)]), (.ptr 0 0 0 0)] [⟨0, 3, 1, [[(i64 s0_0)]]⟩] (fun v st => v = (.bool r.1) ∧ st = [⟨0, 3, 1, [[(i64 r.2)]]⟩])) {s0_0 : Int} {p0 : RExpr} {r : Bool × Int} (h0 : impl_countNodes_B N rec_impl_countNodes s0_0 p0 = some r) : ACalls Try.prog 91 [(.agg [(i64 p0.op), (i64 p0.num), (ls eRExpr p0.kids)]), (.ptr 0 0 0 0)] [⟨0, 3, 1, [[(i64 s0_0)]]⟩] (fun v st => v = (.bool r.1) ∧ st = [⟨0, 3, 1, [[(i64 r.2)]]⟩]) := by
 unfold impl_countNodes_B at h0
 refine ai Try.func91 rfl rfl rfl rfl ?_
 refine sr rfl fun K1 hK1 => ?_
 refine ao_box (m := 1) (st' := [⟨0, 3, 1, [[(i64 s0_0)]]⟩, ⟨0, 50, 3, [[(i64 p0.op), (i64 p0.num), (ls eRExpr p0.kids)]]⟩]) go0 rfl rfl rfl rfl rfl ?_
 refine zq tb rfl ?_
 refine dn hK1 rfl ?_
 refine AW.seq fun K2 hK2 => ?_
 refine sr rfl fun K3 hK3 => ?_
 refine zm tb 5 rfl ?_
 refine ao_str (st' := [⟨0, 3, 1, [[(i64 (Sh.w (s0_0 + 1)))]]⟩, ⟨0, 50, 3, [[(i64 p0.op), (i64 p0.num), (ls eRExpr p0.kids)]]⟩]) go0 ti3 rfl rfl rfl rfl rfl rfl (show 0 + 1 ≤ 1 by decide) rfl ?_
 refine dn hK3 rfl ?_
 refine zr tb rfl rfl ?_
 refine ci h0 rfl ?_ ?_ <;> clear h0
 ·intro b5 h0
  refine zr tb rfl rfl ?_
  replace h0 := Sh.some_eq h0
  subst r
  exact AW.ret (xr (Wk.permk (L := [(4, (.bool false))]) (st' := [⟨0, 3, 1, [[(i64 (Sh.w (s0_0 + 1)))]]⟩]) (st1 := [⟨0, 3, 1, [[(i64 (Sh.w (s0_0 + 1)))]]⟩]) [0] rfl (.raw rfl rfl .nil) (by decide) rfl rfl (.raw rfl rfl .nil) ⟨.rfl, trivial⟩))
 ·intro b5 h0
  refine AW.skip (hK2 _ ?_)
  refine AW.seq fun K7 hK7 => ?_
  refine sr rfl fun K8 hK8 => ?_
  refine zm tb 2 rfl ?_
  refine zl tb rfl rfl ?_
  refine zq tb rfl ?_
  refine dn hK8 rfl ?_
  obtain ⟨o12, h1, h0⟩ := Sh.cont_some h0
  have M12 : ∀ (f11 : Int), o12 = Sum.inr f11 → ∀ s, Wk 1 s ⟨28, envL [], [⟨0, 3, 1, [[(i64 f11)]]⟩]⟩ → K7 s := by
   intro f11 hq s hw
   subst o12
   try dsimp only at h0
   refine hK7 _ (AW.weaken hw ?_)
   refine zr tb rfl rfl ?_
   replace h0 := Sh.some_eq h0
   subst r
   exact AW.ret (xr (Wk.to (L := [(4, (.bool true))]) ⟨.rfl, trivial⟩))
  refine AW.block (AW.loopF (σ := Int × Int) (fun n v => impl_countNodes_B_L1 p0 rec_impl_countNodes n v.1 v.2 = some o12) (fun (t9, f10) => ⟨28, envL [(1, (.ptr 0 0 0 0)), (17, (ls eRExpr p0.kids)), (18, (i64 (Sh.len p0.kids))), (19, (i64 t9))], [⟨0, 3, 1, [[(i64 f10)]]⟩]⟩) N (0, Sh.w (s0_0 + 1)) h1 (Wk.permk (L := [(1, (.ptr 0 0 0 0)), (17, (ls eRExpr p0.kids)), (18, (i64 (Sh.len p0.kids))), (19, (i64 0))]) (st' := [⟨0, 3, 1, [[(i64 (Sh.w (s0_0 + 1)))]]⟩]) (st1 := [⟨0, 3, 1, [[(i64 (Sh.w (s0_0 + 1)))]]⟩]) [0] rfl (.raw rfl rfl .nil) (by decide) rfl rfl (.raw rfl rfl .nil) ⟨.rfl, .rfl, .rfl, .rfl, trivial⟩) (fun _ hv => by rw [impl_countNodes_B_L1] at hv; cases hv) ?_)
  rintro n ⟨t9, f10⟩ h1
  try dsimp only at h1 ⊢
  rw [impl_countNodes_B_L1] at h1
  refine zr tb rfl rfl ?_
  refine AW.seq fun K15 hK15 => ?_
  refine ci h1 rfl ?_ ?_ <;> clear h1
  ·intro b16 h1
   refine AW.skip (hK15 _ ?_)
   refine AW.seq fun K17 hK17 => ?_
   refine AW.block ?_
   refine sr rfl fun K18 hK18 => ?_
   obtain ⟨c19, gc19, h1⟩ := Sh.bind_some h1
   refine zz (.iptr [(i64 c19.op), (i64 c19.num), (ls eRExpr c19.kids)] 0) (aq_ixsE ei48 rfl rfl gc19 (eRExpr_eq _) rfl) rfl ?_
   refine zq tb rfl ?_
   refine ao_alloc (m := 1) (st' := [⟨0, 3, 1, [[(i64 f10)]]⟩, ⟨0, 50, 3, [[(i64 0), (i64 0), .zc]]⟩]) go0 zi50 rfl rfl ?_
   refine ao_str (st' := [⟨0, 3, 1, [[(i64 f10)]]⟩, ⟨0, 50, 3, [[(i64 c19.op), (i64 c19.num), (ls eRExpr c19.kids)]]⟩]) go0 ti50 rfl rfl rfl rfl rfl rfl (show 0 + 3 ≤ 3 by decide) rfl ?_
   refine dn hK18 rfl ?_
   refine sr rfl fun K20 hK20 => ?_
   refine zm tb 2 rfl ?_
   obtain ⟨q21, gq21, h1⟩ := Sh.bind_some h1
   refine ao_calls (rowsP := [⟨0, 3, 1, [[(i64 f10)]]⟩]) (rows0 := [⟨0, 3, 1, [[(i64 f10)]]⟩]) (rows1 := [⟨0, 3, 1, [[(i64 q21.2)]]⟩]) (rows2 := []) (rows1' := [⟨0, 3, 1, [[(i64 q21.2)]]⟩]) (rows2' := []) (st' := [⟨0, 3, 1, [[(i64 q21.2)]]⟩, ⟨0, 50, 3, [[(i64 c19.op), (i64 c19.num), (ls eRExpr c19.kids)]]⟩]) (v' := (.bool q21.1)) [0] go0 hb91 (hrec_impl_countNodes gq21) rfl (by decide) rfl rfl (.raw rfl rfl .nil) rfl rfl (.raw rfl rfl .nil) .nil rfl rfl ?_
   refine zq tb rfl ?_
   refine dn hK20 rfl ?_
   refine ci h1 rfl ?_ ?_ <;> clear h1
   ·intro b22 h1
    have b23 : q21.1 = false := by simpa using b22
    refine zr tb rfl rfl ?_
    replace h1 := Sh.some_eq h1
    subst o12
    try dsimp only [id] at h0
    replace h0 := Sh.some_eq h0
    subst r
    exact AW.ret (xr (Wk.permk (L := [(4, (.bool false))]) (st' := [⟨0, 3, 1, [[(i64 q21.2)]]⟩]) (st1 := [⟨0, 3, 1, [[(i64 q21.2)]]⟩]) [0] rfl (.raw rfl rfl .nil) (by decide) rfl rfl (.raw rfl rfl .nil) ⟨.rfl, trivial⟩))
   ·intro b22 h1
    have b25 : q21.1 = true := by simpa using b22
    refine AW.skip (hK17 _ ?_)
    refine AW.regionO (by rfl) ?_
    refine zm tb 2 rfl ?_
    exact AO.done (xi (Sh.w (t9 + 1), q21.2) h1 (Wk.permk (L := [(1, (.ptr 0 0 0 0)), (17, (ls eRExpr p0.kids)), (18, (i64 (Sh.len p0.kids))), (19, (i64 (Sh.w (t9 + 1))))]) (st' := [⟨0, 3, 1, [[(i64 q21.2)]]⟩]) (st1 := [⟨0, 3, 1, [[(i64 q21.2)]]⟩]) [0] rfl (.raw rfl rfl .nil) (by decide) rfl rfl (.raw rfl rfl .nil) ⟨.rfl, .rfl, .rfl, .rfl, trivial⟩))
  ·intro b16 h1
   exact AW.exit (M12 f10 (Sh.some_eq h1).symm _ (Wk.tr rfl))

theorem impl_countNodes_F_ok {N : Nat} : ∀ (n : Nat), ∀ {s0_0 : Int} {p0 : RExpr} {r : Bool × Int}, impl_countNodes_F N n s0_0 p0 = some r → ACalls Try.prog 91 [(.agg [(i64 p0.op), (i64 p0.num), (ls eRExpr p0.kids)]), (.ptr 0 0 0 0)] [⟨0, 3, 1, [[(i64 s0_0)]]⟩] (fun v st => v = (.bool r.1) ∧ st = [⟨0, 3, 1, [[(i64 r.2)]]⟩]) := by
 intro n
 induction n with
 | zero => intro s0_0 p0 r h0; cases h0
 | succ n ih =>
  intro s0_0 p0 r h0
  rw [impl_countNodes_F] at h0
  exact impl_countNodes_B_ok (fun h => ih h) h0
theorem impl_countNodes_ok {N : Nat} : ∀ {s0_0 : Int} {p0 : RExpr} {r : Bool × Int}, impl_countNodes N s0_0 p0 = some r → ACalls Try.prog 91 [(.agg [(i64 p0.op), (i64 p0.num), (ls eRExpr p0.kids)]), (.ptr 0 0 0 0)] [⟨0, 3, 1, [[(i64 s0_0)]]⟩] (fun v st => v = (.bool r.1) ∧ st = [⟨0, 3, 1, [[(i64 r.2)]]⟩]) := by
 intro s0_0 p0 r h0
 exact impl_countNodes_F_ok N h0
theorem impl_NodesOf_ok {N : Nat} {p0 : RExpr} {r : Int} (h0 : impl_NodesOf N p0 = some r) : ACalls Try.prog 58 [(.agg [(i64 p0.op), (i64 p0.num), (ls eRExpr p0.kids)])] [] (fun v st => v = (i64 r) ∧ st = []) := by
 unfold impl_NodesOf at h0
 refine ai Try.func58 rfl rfl rfl rfl ?_
 refine sr rfl fun K1 hK1 => ?_
 refine ao_box (m := 0) (st' := [⟨0, 50, 3, [[(i64 p0.op), (i64 p0.num), (ls eRExpr p0.kids)]]⟩]) go0 rfl rfl rfl rfl rfl ?_
 refine zq tb rfl ?_
 refine dn hK1 rfl ?_
 refine sr rfl fun K2 hK2 => ?_
 refine ao_alloc (m := 1) (st' := [⟨0, 50, 3, [[(i64 p0.op), (i64 p0.num), (ls eRExpr p0.kids)]]⟩, ⟨0, 3, 1, [[(i64 0)]]⟩]) go0 zi3 rfl rfl ?_
 refine ao_str (st' := [⟨0, 50, 3, [[(i64 p0.op), (i64 p0.num), (ls eRExpr p0.kids)]]⟩, ⟨0, 3, 1, [[(i64 0)]]⟩]) go0 ti3 rfl rfl rfl rfl rfl rfl (show 0 + 1 ≤ 1 by decide) rfl ?_
 refine dn hK2 rfl ?_
 refine AW.seq fun K3 hK3 => ?_
 refine sr rfl fun K4 hK4 => ?_
 refine zq tb rfl ?_
 obtain ⟨q5, gq5, h0⟩ := Sh.bind_some h0
 refine ao_calls (rowsP := [⟨0, 3, 1, [[(i64 0)]]⟩]) (rows0 := [⟨0, 3, 1, [[(i64 0)]]⟩]) (rows1 := [⟨0, 3, 1, [[(i64 q5.2)]]⟩]) (rows2 := []) (rows1' := [⟨0, 3, 1, [[(i64 q5.2)]]⟩]) (rows2' := []) (st' := [⟨0, 50, 3, [[(i64 p0.op), (i64 p0.num), (ls eRExpr p0.kids)]]⟩, ⟨0, 3, 1, [[(i64 q5.2)]]⟩]) (v' := (.bool q5.1)) [1] go0 hb91 (impl_countNodes_ok gq5) rfl (by decide) rfl rfl (.raw rfl rfl .nil) rfl rfl (.raw rfl rfl .nil) .nil rfl rfl ?_
 refine zq tb rfl ?_
 refine dn hK4 rfl ?_
 refine ci h0 rfl ?_ ?_ <;> clear h0
 ·intro b6 h0
  have b7 : q5.1 = false := by simpa using b6
  refine zr tb rfl rfl ?_
  replace h0 := Sh.some_eq h0
  subst r
  exact AW.ret (xr (Wk.d0 [(2, (i64 (-1)))] rfl))
 ·intro b6 h0
  have b9 : q5.1 = true := by simpa using b6
  refine AW.skip (hK3 _ ?_)
  refine zr tb rfl rfl ?_
  replace h0 := Sh.some_eq h0
  subst r
  exact AW.ret (xr (Wk.d0 [(2, (i64 q5.2))] rfl))
theorem impl_sigsOf_ok {N : Nat} {p0 : RProgram} {r : RSignatures} (h0 : impl_sigsOf N p0 = some r) : ACalls Try.prog 60 [(.agg [(ls eRDecl p0.decls), (ls eRFunc p0.funcs)])] [] (fun v st => v = (.agg (eRSignatures r)) ∧ st = []) := by
 unfold impl_sigsOf at h0
 refine ACalls.flat rfl ?_
 refine ai Try.func60 rfl rfl rfl rfl ?_
 refine sr rfl fun K1 hK1 => ?_
 refine ao_box (m := 0) (st' := [⟨0, 31, 2, [[(ls eRDecl p0.decls), (ls eRFunc p0.funcs)]]⟩]) go0 rfl rfl rfl rfl rfl ?_
 refine ao_alloc (m := 1) (st' := [⟨0, 31, 2, [[(ls eRDecl p0.decls), (ls eRFunc p0.funcs)]]⟩, ⟨0, 97, 2, [[.zc, .zc]]⟩]) go0 zi97 rfl rfl ?_
 refine dn hK1 rfl ?_
 refine sr rfl fun K2 hK2 => ?_
 refine zm tb 2 rfl ?_
 refine zz (.agg [(ls eRDecl p0.decls), .zc]) (aq_bd ai97 bi97 zi97 rfl rfl) rfl ?_
 refine ao_alloc (m := 2) (st' := [⟨0, 31, 2, [[(ls eRDecl p0.decls), (ls eRFunc p0.funcs)]]⟩, ⟨0, 97, 2, [[.zc, .zc]]⟩, ⟨0, 97, 2, [[.zc, .zc]]⟩]) go0 zi97 rfl rfl ?_
 refine ao_str (st' := [⟨0, 31, 2, [[(ls eRDecl p0.decls), (ls eRFunc p0.funcs)]]⟩, ⟨0, 97, 2, [[.zc, .zc]]⟩, ⟨0, 97, 2, [[(ls eRDecl p0.decls), .zc]]⟩]) go0 ti97 rfl rfl rfl rfl rfl rfl (show 0 + 2 ≤ 2 by decide) rfl ?_
 refine dn hK2 rfl ?_
 refine AW.seq fun K3 hK3 => ?_
 refine sr rfl fun K4 hK4 => ?_
 refine zm tb 2 rfl ?_
 refine zl tb rfl rfl ?_
 refine zq tb rfl ?_
 refine dn hK4 rfl ?_
 obtain ⟨o8, h1, h0⟩ := Sh.bind_some h0
 have M8 : ∀ (l7 : (List RSignature)), o8 = l7 → ∀ s, Wk 0 s ⟨28, envL [(2, (.ptr 0 0 0 0)), (3, (.ptr 1 0 0 0))], [⟨0, 97, 2, [[.zc, .zc]]⟩, ⟨0, 97, 2, [[(ls eRDecl p0.decls), (ow 2 0 l7)]]⟩, (ro 0 93 3 eRSignature l7)]⟩ → K3 s := by
  intro l7 hq s hw
  subst o8
  try dsimp only at h0
  refine hK3 _ (AW.weaken hw ?_)
  refine sr rfl fun K9 hK9 => ?_
  refine zq tb rfl ?_
  refine AO.weaken (Wk.frz (L := [(2, (.ptr 0 0 0 0)), (27, (.agg [(ls eRDecl p0.decls), (ls eRSignature l7)]))]) (st' := [⟨0, 97, 2, [[.zc, .zc]]⟩, ⟨0, 97, 2, [[(ls eRDecl p0.decls), (ow 2 0 l7)]]⟩, ⟨1, 93, 3, []⟩]) (id := 2) rfl (show 0 ≤ 2 by decide) (pure_map fun _ => rfl) ⟨.rfl, (.agg ⟨.rfl, (.frz1 rfl), trivial⟩), trivial⟩ rfl) ?_
  refine ao_str (st' := [⟨0, 97, 2, [[(ls eRDecl p0.decls), (ls eRSignature l7)]]⟩, ⟨0, 97, 2, [[(ls eRDecl p0.decls), (ow 2 0 l7)]]⟩, ⟨1, 93, 3, []⟩]) go0 ti97 rfl rfl rfl rfl rfl rfl (show 0 + 2 ≤ 2 by decide) rfl ?_
  refine dn hK9 rfl ?_
  replace h0 := Sh.some_eq h0
  subst r
  exact AW.ret (Exists.intro _ (And.intro (Wk.refl _ _) (aq_ldpa (x := .tmp 2) (off := 0) (cs := [(ls eRDecl p0.decls), (ls eRSignature l7)]) (vs := [(ls eRDecl p0.decls), (ls eRSignature l7)]) ti97 rfl rfl rfl (show 0 + 2 ≤ 2 by decide) rfl _ rfl)))
 refine AW.block (AW.loopF (σ := Int × (List RSignature)) (fun n v => impl_sigsOf_L1 p0 n v.1 v.2 = some o8) (fun (t5, l6) => ⟨28, envL [(2, (.ptr 0 0 0 0)), (3, (.ptr 1 0 0 0)), (10, (ls eRFunc p0.funcs)), (11, (i64 (Sh.len p0.funcs))), (12, (i64 t5))], [⟨0, 97, 2, [[.zc, .zc]]⟩, ⟨0, 97, 2, [[(ls eRDecl p0.decls), (ow 2 0 l6)]]⟩, (ro 0 93 3 eRSignature l6)]⟩) N (0, []) h1 (by refine Wk.trans (Wk.adoptC (id := 2) (st' := [⟨0, 31, 2, [[(ls eRDecl p0.decls), (ls eRFunc p0.funcs)]]⟩, ⟨0, 97, 2, [[.zc, .zc]]⟩, ⟨0, 97, 2, [[(ls eRDecl p0.decls), (.own 3 0 (List.length ([] : List RSignature)))]]⟩, (ro 0 93 3 eRSignature ([] : List RSignature))]) (j := 1) rfl rfl 93 (size' := 3) (by decide) rfl rfl rfl rfl) ?_; exact Wk.permk (L := [(2, (.ptr 0 0 0 0)), (3, (.ptr 1 0 0 0)), (10, (ls eRFunc p0.funcs)), (11, (i64 (Sh.len p0.funcs))), (12, (i64 0))]) (st' := [⟨0, 97, 2, [[.zc, .zc]]⟩, ⟨0, 97, 2, [[(ls eRDecl p0.decls), (.own 2 0 (List.length ([] : List RSignature)))]]⟩, (ro 0 93 3 eRSignature ([] : List RSignature))]) (st1 := [⟨0, 97, 2, [[.zc, .zc]]⟩, ⟨0, 97, 2, [[(ls eRDecl p0.decls), (.own 3 0 (List.length ([] : List RSignature)))]]⟩, (ro 0 93 3 eRSignature ([] : List RSignature))]) [1, 2, 3] rfl .nil (by decide) rfl rfl (.raw rfl rfl (.raw rfl rfl (.pure (pure_map fun _ => rfl) .nil))) ⟨.rfl, .rfl, .rfl, .rfl, .rfl, trivial⟩) (fun _ hv => by rw [impl_sigsOf_L1] at hv; cases hv) ?_)
 rintro n ⟨t5, l6⟩ h1
 try dsimp only at h1 ⊢
 rw [impl_sigsOf_L1] at h1
 refine zr tb rfl rfl ?_
 refine AW.seq fun K11 hK11 => ?_
 refine ci h1 rfl ?_ ?_ <;> clear h1
 ·intro b12 h1
  refine AW.skip (hK11 _ ?_)
  refine AW.seq fun K13 hK13 => ?_
  refine AW.block ?_
  refine sr rfl fun K14 hK14 => ?_
  obtain ⟨c15, gc15, h1⟩ := Sh.bind_some h1
  refine zx ei29 gc15 rfl rfl rfl ?_
  refine zq tb rfl ?_
  refine ao_alloc (m := 3) (st' := [⟨0, 97, 2, [[.zc, .zc]]⟩, ⟨0, 97, 2, [[(ls eRDecl p0.decls), (ow 2 0 l6)]]⟩, (ro 0 93 3 eRSignature l6), ⟨0, 52, 5, [[.zc, (i64 0), (i64 0), (i64 0), .zc]]⟩]) go0 zi52 rfl rfl ?_
  refine ao_str (st' := [⟨0, 97, 2, [[.zc, .zc]]⟩, ⟨0, 97, 2, [[(ls eRDecl p0.decls), (ow 2 0 l6)]]⟩, (ro 0 93 3 eRSignature l6), ⟨0, 52, 5, [[(ls eI c15.params), (i64 c15.result), (i64 c15.body.op), (i64 c15.body.num), (ls eRExpr c15.body.kids)]]⟩]) go0 ti52 rfl rfl rfl rfl rfl rfl (show 0 + 5 ≤ 5 by decide) rfl ?_
  refine dn hK14 rfl ?_
  refine AW.regionO (by rfl) ?_
  refine zm tb 6 rfl ?_
  refine zz (.agg [(ls eI c15.params), .zc, (i64 c15.result)]) (aq_bd ai93 bi93 zi93 rfl rfl) rfl ?_
  refine AO.weaken (Wk.to (L := [(2, (.ptr 0 0 0 0)), (3, (.ptr 1 0 0 0)), (10, (ls eRFunc p0.funcs)), (11, (i64 (Sh.len p0.funcs))), (12, (i64 t5)), (17, (ow 2 0 l6)), (22, (.agg [(ls eI c15.params), (.sl (List.map eI [])), (i64 c15.result)]))]) ⟨.rfl, .rfl, .rfl, .rfl, .rfl, .rfl, (.agg ⟨.rfl, .zc, .rfl, trivial⟩), trivial⟩) ?_
  refine ao_bs (m := 4) (st' := [⟨0, 97, 2, [[.zc, .zc]]⟩, ⟨0, 97, 2, [[(ls eRDecl p0.decls), (ow 2 0 l6)]]⟩, (ro 0 93 3 eRSignature l6), ⟨0, 52, 5, [[(ls eI c15.params), (i64 c15.result), (i64 c15.body.op), (i64 c15.body.num), (ls eRExpr c15.body.kids)]]⟩, (ro 0 93 3 eRSignature ([(RSignature.mk c15.params [] c15.result)]))]) (l := ([(RSignature.mk c15.params [] c15.result)])) (enc := eRSignature) go0 ei91 (by decide) rfl rfl rfl rfl rfl rfl ?_
  obtain ⟨l16, gl16, h1⟩ := Sh.bind_some h1
  refine ao_apo (st' := [⟨0, 97, 2, [[.zc, .zc]]⟩, ⟨0, 97, 2, [[(ls eRDecl p0.decls), (ow 2 0 l6)]]⟩, (ro 1 93 3 eRSignature l16), ⟨0, 52, 5, [[(ls eI c15.params), (i64 c15.result), (i64 c15.body.op), (i64 c15.body.num), (ls eRExpr c15.body.kids)]]⟩, (ro 0 93 3 eRSignature ([(RSignature.mk c15.params [] c15.result)]))]) (l2 := ([(RSignature.mk c15.params [] c15.result)])) go0 ei91 rfl rfl rfl rfl (el_o rfl rfl) (fun _ => rfl) gl16 rfl ?_
  refine zq tb rfl ?_
  refine ao_str (st' := [⟨0, 97, 2, [[.zc, .zc]]⟩, ⟨0, 97, 2, [[(ls eRDecl p0.decls), (ow 2 1 l16)]]⟩, (ro 1 93 3 eRSignature l16), ⟨0, 52, 5, [[(ls eI c15.params), (i64 c15.result), (i64 c15.body.op), (i64 c15.body.num), (ls eRExpr c15.body.kids)]]⟩, (ro 0 93 3 eRSignature ([(RSignature.mk c15.params [] c15.result)]))]) go0 ti91 rfl rfl rfl rfl rfl rfl (show 1 + 1 ≤ 2 by decide) rfl ?_
  refine dn hK13 rfl ?_
  refine AW.regionO (by rfl) ?_
  refine zm tb 2 rfl ?_
  exact AO.done (xi (Sh.w (t5 + 1), l16) h1 (by refine Wk.trans (Wk.rg (L := [(2, (.ptr 0 0 0 0)), (3, (.ptr 1 0 0 0)), (10, (ls eRFunc p0.funcs)), (11, (i64 (Sh.len p0.funcs))), (12, (i64 (Sh.w (t5 + 1))))]) (st' := [⟨0, 97, 2, [[.zc, .zc]]⟩, ⟨0, 97, 2, [[(ls eRDecl p0.decls), (ow 2 0 l16)]]⟩, (ro 0 93 3 eRSignature l16), ⟨0, 52, 5, [[(ls eI c15.params), (i64 c15.result), (i64 c15.body.op), (i64 c15.body.num), (ls eRExpr c15.body.kids)]]⟩, (ro 0 93 3 eRSignature ([(RSignature.mk c15.params [] c15.result)]))]) (.raw rfl rfl (.raw rfl rfl (.pure (pure_map fun _ => rfl) (.raw rfl rfl (.pure (pure_map fun _ => rfl) .nil))))) ⟨.rfl, .rfl, .rfl, .rfl, .rfl, trivial⟩) ?_; exact Wk.permk (L := [(2, (.ptr 0 0 0 0)), (3, (.ptr 1 0 0 0)), (10, (ls eRFunc p0.funcs)), (11, (i64 (Sh.len p0.funcs))), (12, (i64 (Sh.w (t5 + 1))))]) (st' := [⟨0, 97, 2, [[.zc, .zc]]⟩, ⟨0, 97, 2, [[(ls eRDecl p0.decls), (ow 2 0 l16)]]⟩, (ro 0 93 3 eRSignature l16)]) (st1 := [⟨0, 97, 2, [[.zc, .zc]]⟩, ⟨0, 97, 2, [[(ls eRDecl p0.decls), (ow 2 0 l16)]]⟩, (ro 0 93 3 eRSignature l16)]) [0, 1, 2] rfl .nil (by decide) rfl rfl (.raw rfl rfl (.raw rfl rfl (.pure (pure_map fun _ => rfl) .nil))) ⟨.rfl, .rfl, .rfl, .rfl, .rfl, trivial⟩))
 ·intro b12 h1
  exact AW.exit (M8 l6 (Sh.some_eq h1).symm _ (Wk.tr rfl))
theorem slices_Clone_int_int_ok {p0 : (List Int)} {r : (List Int)} (h0 : slices_Clone_int_int p0 = some r) : ACalls Try.prog 62 [(ls eI p0)] [] (fun v st => v = (ow 0 0 r) ∧ st = [(ro 0 3 1 eI r)]) := by
 unfold slices_Clone_int_int at h0
 refine ai Try.func62 rfl rfl rfl rfl ?_
 refine zr tb rfl rfl ?_
 refine AW.seq fun K2 hK2 => ?_
 refine sr rfl fun K3 hK3 => ?_
 refine zq tb rfl ?_
 refine ao_nil go0 sl40 rfl (fun hn => ?_) ?_
 ·subst hn
  replace h0 : some [] = some r := by rw [← h0]; first | rfl | simp [Sh.app]
  refine dn hK3 rfl ?_
  refine AW.cond' (b := true) rfl (fun _ => ?_) (fun q => nomatch (show true = false from (rfl : true = true).symm.trans q))
  refine zr tb rfl rfl ?_
  replace h0 := Sh.some_eq h0
  subst r
  exact AW.ret (Exists.intro _ (And.intro (((Wk.adopt (t := 2) rfl 3 (size := 1) (by decide)).trans (Wk.to (L := [(2, (.own 0 0 (List.length ([] : List Int))))]) ⟨.rfl, trivial⟩)).trans (Wk.to (L := [(2, (.own 0 0 (List.length ([] : List Int))))]) ⟨.rfl, trivial⟩)) (And.intro rfl rfl)))
 ·refine dn hK3 rfl ?_
  refine AW.cond' (b := false) rfl (fun q => nomatch (show false = true from (rfl : false = false).symm.trans q)) (fun _ => ?_)
  refine AW.skip (hK2 _ ?_)
  refine sr rfl fun K5 hK5 => ?_
  refine ao_bs (m := 0) (st' := [(ro 0 3 1 eI ([] : List Int))]) (l := ([] : List Int)) (enc := eI) go0 ei40 (by decide) rfl rfl rfl rfl rfl rfl ?_
  refine zq tb rfl ?_
  obtain ⟨l6, gl6, h0⟩ := Sh.bind_some h0
  refine ao_apo (st' := [(ro 1 3 1 eI l6)]) (l2 := p0) go0 ei40 rfl rfl rfl rfl el_s (fun _ => rfl) gl6 rfl ?_
  refine zq tb rfl ?_
  refine dn hK5 rfl ?_
  replace h0 := Sh.some_eq h0
  subst r
  exact AW.ret (xr (Wk.rg (L := [(2, (ow 0 0 l6))]) (st' := [(ro 0 3 1 eI l6)]) (.pure (pure_map fun _ => rfl) .nil) ⟨.rfl, trivial⟩))
theorem slices_Grow_int_int_ok {p1 : Int} {r : (List Int)} (h0 : slices_Grow_int_int p1 = some r) : ACalls Try.prog 128 [.zc, (i64 p1)] [] (fun v st => v = (ow 0 0 r) ∧ st = [(ro 0 3 1 eI r)]) := by
 unfold slices_Grow_int_int at h0
 refine ai Try.func128 rfl rfl rfl rfl ?_
 refine zr tb rfl rfl ?_
 refine AW.seq fun K2 hK2 => ?_
 refine zr tb rfl rfl ?_
 refine ci h0 rfl ?_ ?_ <;> clear h0
 ·intro b4 h0
  refine AW.regionO (by rfl) ?_
  cases h0
 ·intro b4 h0
  refine AW.skip (hK2 _ ?_)
  refine AW.seq fun K5 hK5 => ?_
  obtain ⟨o7, h1, h0⟩ := Sh.bind_some h0
  have M7 : ∀ (l6 : (List Int)), o7 = l6 → ∀ s, Wk 0 s ⟨27, envL [(0, (ow 0 0 l6))], [(ro 0 3 1 eI l6)]⟩ → K5 s := by
   intro l6 hq s hw
   subst o7
   try dsimp only at h0
   refine hK5 _ (AW.weaken hw ?_)
   refine zr tb rfl rfl ?_
   replace h0 := Sh.some_eq h0
   subst r
   exact AW.ret (xr (Wk.to (L := [(4, (ow 0 0 l6))]) ⟨.rfl, trivial⟩))
  refine sr rfl fun K9 hK9 => ?_
  refine zm tb 2 rfl ?_
  refine ao_capz sl40 rfl ?_
  refine zq tb rfl ?_
  refine zz (i64 0) (aq_lenz sl40 rfl) rfl ?_
  refine zm tb 3 rfl ?_
  refine dn hK9 rfl ?_
  refine zr tb rfl rfl ?_
  refine ci h1 rfl ?_ ?_ <;> clear h1
  ·intro b11 h1
   refine AW.regionO (by rfl) ?_
   refine zm tb 2 rfl ?_
   refine ao_capz sl40 rfl ?_
   refine ao_slz ei40 rfl rfl ?_
   refine zq tb rfl ?_
   obtain ⟨l12, gl12, h1⟩ := Sh.bind_some h1
   refine ao_apmk (u := 0) (enc := eI) (m := 0) (st' := [(ro 0 3 1 eI l12)]) ei40 iT3 rfl rfl b11 rfl gl12 rfl rfl ?_
   refine zq tb rfl ?_
   refine zz (i64 0) (aq_lenz sl40 rfl) rfl ?_
   obtain ⟨l13, gl13, h1⟩ := Sh.bind_some h1
   refine ao_hio (st' := [(ro 1 3 1 eI l13)]) go0 ei40 rfl rfl rfl rfl gl13 rfl ?_
   refine zq tb rfl ?_
   exact AO.done (M7 l13 (Sh.some_eq h1).symm _ (Wk.rg (L := [(0, (ow 0 0 l13))]) (st' := [(ro 0 3 1 eI l13)]) (.pure (pure_map fun _ => rfl) .nil) ⟨.rfl, trivial⟩))
  ·intro b11 h1
   exact AW.skip (M7 [] (Sh.some_eq h1).symm _ ((Wk.adopt (t := 0) rfl 3 (size := 1) (by decide)).trans (Wk.to (L := [(0, (.own 0 0 (List.length ([] : List Int))))]) ⟨.rfl, trivial⟩)))
theorem slices_Concat_int_int_ok {N : Nat} {p0 : (List (List Int))} {r : (List Int)} (h0 : slices_Concat_int_int N p0 = some r) : ACalls Try.prog 118 [(ls (eS eI) p0)] [] (fun v st => v = (ow 0 0 r) ∧ st = [(ro 0 3 1 eI r)]) := by
 unfold slices_Concat_int_int at h0
 refine ai Try.func118 rfl rfl rfl rfl ?_
 iterate 2 refine zr tb rfl rfl ?_
 refine AW.seq fun K3 hK3 => ?_
 refine sr rfl fun K4 hK4 => ?_
 refine zq tb rfl ?_
 refine zl tb rfl rfl ?_
 refine zq tb rfl ?_
 refine dn hK4 rfl ?_
 obtain ⟨o8, h1, h0⟩ := Sh.bind_some h0
 have M8 : ∀ (size7 : Int), o8 = size7 → ∀ s, Wk 0 s ⟨36, envL [(0, (ls (eS eI) p0)), (3, (i64 size7))], []⟩ → K3 s := by
  intro size7 hq s hw
  subst o8
  try dsimp only at h0
  refine hK3 _ (AW.weaken hw ?_)
  refine sr rfl fun K9 hK9 => ?_
  refine zq tb rfl ?_
  obtain ⟨q10, gq10, h0⟩ := Sh.bind_some h0
  refine ao_call (v' := (ow 0 0 q10)) (st' := [(ro 0 3 1 eI q10)]) go0 hb128 (slices_Grow_int_int_ok gq10) rfl rfl ⟨(pure_map' fun _ => rfl), trivial⟩ rfl rfl ?_
  refine zq tb rfl ?_
  refine dn hK9 rfl ?_
  refine AW.seq fun K11 hK11 => ?_
  refine sr rfl fun K12 hK12 => ?_
  refine zq tb rfl ?_
  refine zl tb rfl rfl ?_
  refine zq tb rfl ?_
  refine dn hK12 rfl ?_
  obtain ⟨o16, h1, h0⟩ := Sh.bind_some h0
  have M16 : ∀ (l15 : (List Int)), o16 = l15 → ∀ s, Wk 0 s ⟨36, envL [(6, (ow 0 0 l15))], [(ro 0 3 1 eI l15)]⟩ → K11 s := by
   intro l15 hq s hw
   subst o16
   try dsimp only at h0
   refine hK11 _ (AW.weaken hw ?_)
   refine zr tb rfl rfl ?_
   replace h0 := Sh.some_eq h0
   subst r
   exact AW.ret (xr (Wk.to (L := [(2, (ow 0 0 l15))]) ⟨.rfl, trivial⟩))
  refine AW.block (AW.loopF (σ := Int × (List Int)) (fun n v => slices_Concat_int_int_L2 p0 n v.1 v.2 = some o16) (fun (t13, l14) => ⟨36, envL [(6, (ow 0 0 l14)), (25, (ls (eS eI) p0)), (26, (i64 (Sh.len p0))), (27, (i64 t13))], [(ro 0 3 1 eI l14)]⟩) N (0, q10) h1 (Wk.tr rfl) (fun _ hv => by rw [slices_Concat_int_int_L2] at hv; cases hv) ?_)
  rintro n ⟨t13, l14⟩ h1
  try dsimp only at h1 ⊢
  rw [slices_Concat_int_int_L2] at h1
  refine zr tb rfl rfl ?_
  refine AW.seq fun K19 hK19 => ?_
  refine ci h1 rfl ?_ ?_ <;> clear h1
  ·intro b20 h1
   refine AW.skip (hK19 _ ?_)
   refine AW.seq fun K21 hK21 => ?_
   refine AW.block ?_
   refine sr rfl fun K22 hK22 => ?_
   obtain ⟨c23, gc23, h1⟩ := Sh.bind_some h1
   refine zx ei123 gc23 rfl rfl rfl ?_
   refine zm tb 2 rfl ?_
   refine dn hK22 rfl ?_
   refine AW.regionO (by rfl) ?_
   refine zm tb 2 rfl ?_
   obtain ⟨l24, gl24, h1⟩ := Sh.bind_some h1
   refine ao_apo (st' := [(ro 1 3 1 eI l24)]) (l2 := c23) go0 ei40 rfl rfl rfl rfl el_s (fun _ => rfl) gl24 rfl ?_
   refine zq tb rfl ?_
   refine dn hK21 rfl ?_
   refine AW.regionO (by rfl) ?_
   refine zm tb 2 rfl ?_
   exact AO.done (xi (Sh.w (t13 + 1), l24) h1 (Wk.rg (L := [(6, (ow 0 0 l24)), (25, (ls (eS eI) p0)), (26, (i64 (Sh.len p0))), (27, (i64 (Sh.w (t13 + 1))))]) (st' := [(ro 0 3 1 eI l24)]) (.pure (pure_map fun _ => rfl) .nil) ⟨.rfl, .rfl, .rfl, .rfl, trivial⟩))
  ·intro b20 h1
   exact AW.exit (M16 l14 (Sh.some_eq h1).symm _ (Wk.tr rfl))
 refine AW.block (AW.loopF (σ := Int × Int) (fun n v => slices_Concat_int_int_L1 p0 n v.1 v.2 = some o8) (fun (size5, t6) => ⟨36, envL [(0, (ls (eS eI) p0)), (3, (i64 size5)), (9, (ls (eS eI) p0)), (10, (i64 (Sh.len p0))), (11, (i64 t6))], []⟩) N (0, 0) h1 (Wk.tr rfl) (fun _ hv => by rw [slices_Concat_int_int_L1] at hv; cases hv) ?_)
 rintro n ⟨size5, t6⟩ h1
 try dsimp only at h1 ⊢
 rw [slices_Concat_int_int_L1] at h1
 refine zr tb rfl rfl ?_
 refine AW.seq fun K26 hK26 => ?_
 refine ci h1 rfl ?_ ?_ <;> clear h1
 ·intro b27 h1
  refine AW.skip (hK26 _ ?_)
  refine AW.seq fun K28 hK28 => ?_
  refine AW.block ?_
  refine sr rfl fun K29 hK29 => ?_
  obtain ⟨c30, gc30, h1⟩ := Sh.bind_some h1
  refine zx ei123 gc30 rfl rfl rfl ?_
  refine zm tb 2 rfl ?_
  refine dn hK29 rfl ?_
  refine sr rfl fun K31 hK31 => ?_
  refine zm tb 2 rfl ?_
  refine zl tb rfl rfl ?_
  refine zm tb 2 rfl ?_
  refine dn hK31 rfl ?_
  refine zr tb rfl rfl ?_
  refine ci h1 rfl ?_ ?_ <;> clear h1
  ·intro b33 h1
   refine AW.regionO (by rfl) ?_
   cases h1
  ·intro b33 h1
   refine AW.skip (hK28 _ ?_)
   refine AW.regionO (by rfl) ?_
   refine zm tb 2 rfl ?_
   exact AO.done (xi (Sh.w (size5 + (Sh.len c30)), Sh.w (t6 + 1)) h1 (Wk.tr rfl))
 ·intro b27 h1
  exact AW.exit (M8 size5 (Sh.some_eq h1).symm _ (Wk.tr rfl))
theorem impl_signatures_oneType_ok {N : Nat} {rec_impl_signatures_typeOf : (List Int) → RSignatures → RExpr → Option (Int)} (hrec_impl_signatures_typeOf : ∀ {s0 : (List Int)} {p0 : RSignatures} {p2 : RExpr} {r : Int}, rec_impl_signatures_typeOf s0 p0 p2 = some r → ACalls Try.prog 61 [(.agg (eRSignatures p0)), (ow 0 0 s0), (.agg [(i64 p2.op), (i64 p2.num), (ls eRExpr p2.kids)])] [(ro 0 3 1 eI s0)] (fun v st => v = (i64 r) ∧ st = [(ro 0 3 1 eI s0)])) {p0 : RSignatures} {p1 : (List Int)} {p2 : (List RExpr)} {p3 : (List (List Int))} {r : Int} (h0 : impl_signatures_oneType N rec_impl_signatures_typeOf p0 p1 p2 p3 = some r) : ACalls Try.prog 92 [(.agg (eRSignatures p0)), (ls eI p1), (ls eRExpr p2), (ls (eS eI) p3)] [] (fun v st => v = (i64 r) ∧ st = []) := by
 unfold impl_signatures_oneType at h0
 refine ai Try.func92 rfl rfl rfl rfl ?_
 refine sr rfl fun K1 hK1 => ?_
 refine ao_box (m := 0) (st' := [⟨0, 97, 2, [(eRSignatures p0)]⟩]) go0 rfl rfl rfl rfl rfl ?_
 refine zq tb rfl ?_
 refine dn hK1 rfl ?_
 refine zr tb rfl rfl ?_
 refine AW.seq fun K3 hK3 => ?_
 refine sr rfl fun K4 hK4 => ?_
 refine zq tb rfl ?_
 refine zl tb rfl rfl ?_
 refine zq tb rfl ?_
 refine dn hK4 rfl ?_
 obtain ⟨o8, h1, h0⟩ := Sh.cont_some h0
 have M8 : ∀ (result7 : Int), o8 = Sum.inr result7 → ∀ s, Wk 0 s ⟨44, envL [(9, (i64 result7))], []⟩ → K3 s := by
  intro result7 hq s hw
  subst o8
  try dsimp only at h0
  refine hK3 _ (AW.weaken hw ?_)
  refine zr tb rfl rfl ?_
  replace h0 := Sh.some_eq h0
  subst r
  exact AW.ret (xr (Wk.to (L := [(8, (i64 result7))]) ⟨.rfl, trivial⟩))
 refine AW.block (AW.loopF (σ := Int × Int) (fun n v => impl_signatures_oneType_L1 N p0 p1 p2 p3 rec_impl_signatures_typeOf n v.1 v.2 = some o8) (fun (result5, t6) => ⟨44, envL [(1, (ls eI p1)), (3, (ls (eS eI) p3)), (4, (.ptr 0 0 0 0)), (9, (i64 result5)), (13, (ls eRExpr p2)), (14, (i64 (Sh.len p2))), (15, (i64 t6))], [⟨0, 97, 2, [(eRSignatures p0)]⟩]⟩) N (-1, 0) h1 (Wk.tr rfl) (fun _ hv => by rw [impl_signatures_oneType_L1] at hv; cases hv) ?_)
 rintro n ⟨result5, t6⟩ h1
 try dsimp only at h1 ⊢
 rw [impl_signatures_oneType_L1] at h1
 refine zr tb rfl rfl ?_
 refine AW.seq fun K11 hK11 => ?_
 refine ci h1 rfl ?_ ?_ <;> clear h1
 ·intro b12 h1
  refine AW.skip (hK11 _ ?_)
  refine AW.seq fun K13 hK13 => ?_
  refine AW.block ?_
  refine sr rfl fun K14 hK14 => ?_
  refine zq tb rfl ?_
  obtain ⟨c15, gc15, h1⟩ := Sh.bind_some h1
  refine zz (.iptr [(i64 c15.op), (i64 c15.num), (ls eRExpr c15.kids)] 0) (aq_ixsE ei48 rfl rfl gc15 (eRExpr_eq _) rfl) rfl ?_
  refine zq tb rfl ?_
  refine ao_alloc (m := 1) (st' := [⟨0, 97, 2, [(eRSignatures p0)]⟩, ⟨0, 50, 3, [[(i64 0), (i64 0), .zc]]⟩]) go0 zi50 rfl rfl ?_
  refine zq tb rfl ?_
  refine ao_str (st' := [⟨0, 97, 2, [(eRSignatures p0)]⟩, ⟨0, 50, 3, [[(i64 c15.op), (i64 c15.num), (ls eRExpr c15.kids)]]⟩]) go0 ti50 rfl rfl rfl rfl rfl rfl (show 0 + 3 ≤ 3 by decide) rfl ?_
  refine dn hK14 rfl ?_
  refine AW.seq fun K16 hK16 => ?_
  refine AW.drawX (by kernel_rfl) ?_
  obtain ⟨c17, gc17, h1⟩ := Sh.bind_some h1
  obtain ⟨q18, gq18, h1⟩ := Sh.bind_some h1
  obtain ⟨q19, gq19, h1⟩ := Sh.bind_some h1
  refine AX.one fun A20 hA20 => ?_
  have A20_0123456789a : A20 0 #[true, true, true, true, true, true, true, true, true, true, true] ⟨44, envL [(1, (ls eI p1)), (3, (ls (eS eI) p3)), (4, (.ptr 0 0 0 0)), (9, (i64 result5)), (10, (i64 t6)), (12, (i64 q19)), (13, (ls eRExpr p2)), (14, (i64 (Sh.len p2))), (15, (i64 t6))], [⟨0, 97, 2, [(eRSignatures p0)]⟩]⟩ := (hA20 _ _ _).2 (by
   refine AX.done rfl (by kernel_rfl) ?_
   refine hK16 _ ?_
   refine AW.seq fun K21 hK21 => ?_
   refine AW.seq fun K22 hK22 => ?_
   obtain ⟨o24, h2, h1⟩ := Sh.bind_some h1
   have M24 : ∀ (t23 : Bool), o24 = t23 → ∀ s, Wk 0 s ⟨44, envL [(1, (ls eI p1)), (3, (ls (eS eI) p3)), (4, (.ptr 0 0 0 0)), (12, (i64 q19)), (13, (ls eRExpr p2)), (14, (i64 (Sh.len p2))), (15, (i64 t6)), (40, (.bool t23))], [⟨0, 97, 2, [(eRSignatures p0)]⟩]⟩ → K22 s := by
    intro t23 hq s hw
    subst o24
    try dsimp only at h1
    refine hK22 _ (AW.weaken hw ?_)
    refine ci h1 rfl ?_ ?_ <;> clear h1
    ·intro b25 h1
     refine zr tb rfl rfl ?_
     replace h1 := Sh.some_eq h1
     subst o8
     try dsimp only [id] at h0
     replace h0 := Sh.some_eq h0
     subst r
     exact AW.ret (xr (Wk.d0 [(8, (i64 (-1)))] rfl))
    ·intro b25 h1
     refine AW.skip (hK21 _ ?_)
     refine AW.regionO (by rfl) ?_
     refine zm tb 2 rfl ?_
     refine dn hK13 rfl ?_
     refine AW.regionO (by rfl) ?_
     refine zm tb 2 rfl ?_
     exact AO.done (xi (q19, Sh.w (t6 + 1)) h1 (Wk.tr rfl))
   refine AW.regionO (by rfl) ?_
   refine zm tb 3 rfl ?_
   rcases Sh.ite_some h2 with ⟨b27, h2⟩ | ⟨b27, h2⟩
   ·refine zs b27 rfl ?_
    iterate 2 refine zs b27 rfl ?_
    iterate 3 refine zn rfl ?_
    refine zs b27 rfl ?_
    refine zt b27 rfl ?_
    exact AO.done (M24 true (Sh.some_eq h2).symm _ (Wk.tr rfl))
   ·refine zg tb b27 rfl ?_
    iterate 2 refine zg tb b27 rfl ?_
    rcases Sh.ite_some h2 with ⟨b28, h2⟩ | ⟨b28, h2⟩
    ·refine zg tb b28 rfl ?_
     iterate 2 refine zg tb b28 rfl ?_
     refine ao_q (v := (.bool (!decide (q19 = result5)))) (go1 rfl rfl b27) rfl (aq_pkt rfl b28 rfl) ?_
     refine zf b27 rfl ?_
     exact AO.done (M24 (!decide (q19 = result5)) (Sh.some_eq h2).symm _ (Wk.tr rfl))
    ·refine zs b28 rfl ?_
     iterate 2 refine zs b28 rfl ?_
     refine ao_q (v := (.bool false)) (go1 rfl rfl b27) rfl (aq_pkf rfl b28 rfl) ?_
     refine zf b27 rfl ?_
     exact AO.done (M24 false (Sh.some_eq h2).symm _ (Wk.to (L := [(1, (ls eI p1)), (3, (ls (eS eI) p3)), (4, (.ptr 0 0 0 0)), (12, (i64 q19)), (13, (ls eRExpr p2)), (14, (i64 (Sh.len p2))), (15, (i64 t6)), (40, (.bool false))]) ⟨.rfl, .rfl, .rfl, .rfl, .rfl, .rfl, .rfl, .rfl, trivial⟩)))
  have A20_0123456789 : A20 1 #[true, true, true, true, true, true, true, true, true, true, false] ⟨44, envL [(1, (ls eI p1)), (3, (ls (eS eI) p3)), (4, (.ptr 0 0 0 0)), (9, (i64 result5)), (10, (i64 t6)), (13, (ls eRExpr p2)), (14, (i64 (Sh.len p2))), (15, (i64 t6)), (29, (i64 q19))], [⟨0, 97, 2, [(eRSignatures p0)]⟩]⟩ := (hA20 _ _ _).2 (by
   refine AX.hoist 10 (v := (i64 q19)) rfl rfl (by kernel_rfl) (by kernel_rfl) (by kernel_rfl) rfl (hoist_as rfl) ?_
   exact AX.weaken (Wk.to (L := [(1, (ls eI p1)), (3, (ls (eS eI) p3)), (4, (.ptr 0 0 0 0)), (9, (i64 result5)), (10, (i64 t6)), (12, (i64 q19)), (13, (ls eRExpr p2)), (14, (i64 (Sh.len p2))), (15, (i64 t6))]) ⟨.rfl, .rfl, .rfl, .rfl, .rfl, .rfl, .rfl, .rfl, .rfl, trivial⟩) (AX.lst (by kernel_rfl) ((hA20 _ _ _).1 A20_0123456789a)) rfl)
  have A20_012345678 : A20 2 #[true, true, true, true, true, true, true, true, true, false, false] ⟨44, envL [(1, (ls eI p1)), (3, (ls (eS eI) p3)), (4, (.ptr 0 0 0 0)), (9, (i64 result5)), (10, (i64 t6)), (13, (ls eRExpr p2)), (14, (i64 (Sh.len p2))), (15, (i64 t6)), (20, (.agg (eRSignatures p0))), (27, (ow 1 0 q18)), (28, (.agg [(i64 c15.op), (i64 c15.num), (ls eRExpr c15.kids)]))], [⟨0, 97, 2, [(eRSignatures p0)]⟩, (ro 0 3 1 eI q18)]⟩ := (hA20 _ _ _).2 (by
   refine AX.all [9] rfl (by kernel_rfl) (by decide) ⟨?_, trivial⟩
   ·refine AXs.of (i := 9) rfl rfl (by rfl) ?_
    refine ao_calls (rowsP := [(ro 0 3 1 eI q18)]) (rows0 := [(ro 0 3 1 eI q18)]) (rows1 := [(ro 0 3 1 eI q18)]) (rows2 := []) (rows1' := [(ro 0 3 1 eI q18)]) (rows2' := []) (st' := [⟨0, 97, 2, [(eRSignatures p0)]⟩, (ro 0 3 1 eI q18)]) (v' := (i64 q19)) [1] go0 hb61 (hrec_impl_signatures_typeOf gq19) rfl (by decide) rfl rfl (.pure (pure_map fun _ => rfl) .nil) rfl rfl (.pure (pure_map fun _ => rfl) .nil) .nil rfl rfl ?_
    refine AO.done ⟨rfl, ?_⟩
    exact AX.weaken (by refine Wk.trans (Wk.permk (L := [(1, (ls eI p1)), (3, (ls (eS eI) p3)), (4, (.ptr 0 0 0 0)), (9, (i64 result5)), (10, (i64 t6)), (13, (ls eRExpr p2)), (14, (i64 (Sh.len p2))), (15, (i64 t6)), (29, (i64 q19))]) (st' := [⟨0, 97, 2, [(eRSignatures p0)]⟩]) (st1 := [⟨0, 97, 2, [(eRSignatures p0)]⟩]) [0] rfl .nil (by decide) rfl rfl (.raw rfl rfl .nil) ⟨.rfl, .rfl, .rfl, .rfl, .rfl, .rfl, .rfl, .rfl, .rfl, trivial⟩) ?_; exact Wk.to (L := [(1, (ls eI p1)), (3, (ls (eS eI) p3)), (4, (.ptr 0 0 0 0)), (9, (i64 result5)), (10, (i64 t6)), (13, (ls eRExpr p2)), (14, (i64 (Sh.len p2))), (15, (i64 t6)), (29, (i64 q19))]) ⟨.rfl, .rfl, .rfl, .rfl, .rfl, .rfl, .rfl, .rfl, .rfl, trivial⟩) (AX.lst (by kernel_rfl) ((hA20 _ _ _).1 A20_0123456789)) rfl)
  have A20_01234567 : A20 3 #[true, true, true, true, true, true, true, true, false, false, false] ⟨44, envL [(1, (ls eI p1)), (3, (ls (eS eI) p3)), (4, (.ptr 0 0 0 0)), (9, (i64 result5)), (10, (i64 t6)), (11, (.ptr 1 0 0 0)), (13, (ls eRExpr p2)), (14, (i64 (Sh.len p2))), (15, (i64 t6)), (20, (.agg (eRSignatures p0))), (27, (ow 2 0 q18))], [⟨0, 97, 2, [(eRSignatures p0)]⟩, ⟨0, 50, 3, [[(i64 c15.op), (i64 c15.num), (ls eRExpr c15.kids)]]⟩, (ro 0 3 1 eI q18)]⟩ := (hA20 _ _ _).2 (by
   refine AX.all [8] rfl (by kernel_rfl) (by decide) ⟨?_, trivial⟩
   ·refine AXs.of (i := 8) rfl rfl (by rfl) ?_
    refine zq tb rfl ?_
    refine AO.done ⟨rfl, ?_⟩
    exact AX.weaken (by refine Wk.trans (Wk.permk (L := [(1, (ls eI p1)), (3, (ls (eS eI) p3)), (4, (.ptr 0 0 0 0)), (9, (i64 result5)), (10, (i64 t6)), (13, (ls eRExpr p2)), (14, (i64 (Sh.len p2))), (15, (i64 t6)), (20, (.agg (eRSignatures p0))), (27, (ow 1 0 q18)), (28, (.agg [(i64 c15.op), (i64 c15.num), (ls eRExpr c15.kids)]))]) (st' := [⟨0, 97, 2, [(eRSignatures p0)]⟩, (ro 0 3 1 eI q18)]) (st1 := [⟨0, 97, 2, [(eRSignatures p0)]⟩, (ro 0 3 1 eI q18)]) [0, 2] rfl .nil (by decide) rfl rfl (.raw rfl rfl (.pure (pure_map fun _ => rfl) .nil)) ⟨.rfl, .rfl, .rfl, .rfl, .rfl, .rfl, .rfl, .rfl, .rfl, .rfl, .rfl, trivial⟩) ?_; exact Wk.to (L := [(1, (ls eI p1)), (3, (ls (eS eI) p3)), (4, (.ptr 0 0 0 0)), (9, (i64 result5)), (10, (i64 t6)), (13, (ls eRExpr p2)), (14, (i64 (Sh.len p2))), (15, (i64 t6)), (20, (.agg (eRSignatures p0))), (27, (ow 1 0 q18)), (28, (.agg [(i64 c15.op), (i64 c15.num), (ls eRExpr c15.kids)]))]) ⟨.rfl, .rfl, .rfl, .rfl, .rfl, .rfl, .rfl, .rfl, .rfl, .rfl, .rfl, trivial⟩) (AX.lst (by kernel_rfl) ((hA20 _ _ _).1 A20_012345678)) rfl)
  have A20_01234568 : A20 3 #[true, true, true, true, true, true, true, false, true, false, false] ⟨44, envL [(1, (ls eI p1)), (3, (ls (eS eI) p3)), (4, (.ptr 0 0 0 0)), (9, (i64 result5)), (10, (i64 t6)), (13, (ls eRExpr p2)), (14, (i64 (Sh.len p2))), (15, (i64 t6)), (20, (.agg (eRSignatures p0))), (26, (ow 1 0 [p1, c17])), (28, (.agg [(i64 c15.op), (i64 c15.num), (ls eRExpr c15.kids)]))], [⟨0, 97, 2, [(eRSignatures p0)]⟩, (ro 0 40 1 (eS eI) [p1, c17])]⟩ := (hA20 _ _ _).2 (by
   refine AX.all [7] rfl (by kernel_rfl) (by decide) ⟨?_, trivial⟩
   ·refine AXs.of (i := 7) rfl rfl (by rfl) ?_
    refine AO.weaken (Wk.frz (L := [(1, (ls eI p1)), (3, (ls (eS eI) p3)), (4, (.ptr 0 0 0 0)), (9, (i64 result5)), (10, (i64 t6)), (13, (ls eRExpr p2)), (14, (i64 (Sh.len p2))), (15, (i64 t6)), (20, (.agg (eRSignatures p0))), (26, (ls (eS eI) [p1, c17])), (28, (.agg [(i64 c15.op), (i64 c15.num), (ls eRExpr c15.kids)]))]) (st' := [⟨0, 97, 2, [(eRSignatures p0)]⟩, ⟨1, 40, 1, []⟩]) (id := 1) rfl (show 0 ≤ 1 by decide) (pure_map fun _ => rfl) ⟨.rfl, .rfl, .rfl, .rfl, .rfl, .rfl, .rfl, .rfl, .rfl, (.frz rfl), .rfl, trivial⟩ rfl) ?_
    refine ao_call (v' := (ow 2 0 q18)) (st' := [⟨0, 97, 2, [(eRSignatures p0)]⟩, ⟨1, 40, 1, []⟩, (ro 0 3 1 eI q18)]) go0 hb118 (slices_Concat_int_int_ok gq18) rfl rfl ⟨(pure_map' fun _ => rfl), trivial⟩ rfl rfl ?_
    refine AO.done ⟨rfl, ?_⟩
    exact AX.weaken (by refine Wk.trans (Wk.permk (L := [(1, (ls eI p1)), (3, (ls (eS eI) p3)), (4, (.ptr 0 0 0 0)), (9, (i64 result5)), (10, (i64 t6)), (13, (ls eRExpr p2)), (14, (i64 (Sh.len p2))), (15, (i64 t6)), (20, (.agg (eRSignatures p0))), (27, (ow 1 0 q18)), (28, (.agg [(i64 c15.op), (i64 c15.num), (ls eRExpr c15.kids)]))]) (st' := [⟨0, 97, 2, [(eRSignatures p0)]⟩, (ro 0 3 1 eI q18)]) (st1 := [⟨0, 97, 2, [(eRSignatures p0)]⟩, (ro 0 3 1 eI q18)]) [0, 2] rfl .nil (by decide) rfl rfl (.raw rfl rfl (.pure (pure_map fun _ => rfl) .nil)) ⟨.rfl, .rfl, .rfl, .rfl, .rfl, .rfl, .rfl, .rfl, .rfl, .rfl, .rfl, trivial⟩) ?_; exact Wk.to (L := [(1, (ls eI p1)), (3, (ls (eS eI) p3)), (4, (.ptr 0 0 0 0)), (9, (i64 result5)), (10, (i64 t6)), (13, (ls eRExpr p2)), (14, (i64 (Sh.len p2))), (15, (i64 t6)), (20, (.agg (eRSignatures p0))), (27, (ow 1 0 q18)), (28, (.agg [(i64 c15.op), (i64 c15.num), (ls eRExpr c15.kids)]))]) ⟨.rfl, .rfl, .rfl, .rfl, .rfl, .rfl, .rfl, .rfl, .rfl, .rfl, .rfl, trivial⟩) (AX.lst (by kernel_rfl) ((hA20 _ _ _).1 A20_012345678)) rfl)
  have A20_0123456 : A20 4 #[true, true, true, true, true, true, true, false, false, false, false] ⟨44, envL [(1, (ls eI p1)), (3, (ls (eS eI) p3)), (4, (.ptr 0 0 0 0)), (9, (i64 result5)), (10, (i64 t6)), (11, (.ptr 1 0 0 0)), (13, (ls eRExpr p2)), (14, (i64 (Sh.len p2))), (15, (i64 t6)), (20, (.agg (eRSignatures p0))), (26, (ow 2 0 [p1, c17]))], [⟨0, 97, 2, [(eRSignatures p0)]⟩, ⟨0, 50, 3, [[(i64 c15.op), (i64 c15.num), (ls eRExpr c15.kids)]]⟩, (ro 0 40 1 (eS eI) [p1, c17])]⟩ := (hA20 _ _ _).2 (by
   refine AX.all [7, 8] rfl (by kernel_rfl) (by decide) ⟨?_, ?_, trivial⟩
   ·refine AXs.of (i := 7) rfl rfl (by rfl) ?_
    refine AO.weaken (Wk.frz (L := [(1, (ls eI p1)), (3, (ls (eS eI) p3)), (4, (.ptr 0 0 0 0)), (9, (i64 result5)), (10, (i64 t6)), (11, (.ptr 1 0 0 0)), (13, (ls eRExpr p2)), (14, (i64 (Sh.len p2))), (15, (i64 t6)), (20, (.agg (eRSignatures p0))), (26, (ls (eS eI) [p1, c17]))]) (st' := [⟨0, 97, 2, [(eRSignatures p0)]⟩, ⟨0, 50, 3, [[(i64 c15.op), (i64 c15.num), (ls eRExpr c15.kids)]]⟩, ⟨1, 40, 1, []⟩]) (id := 2) rfl (show 0 ≤ 2 by decide) (pure_map fun _ => rfl) ⟨.rfl, .rfl, .rfl, .rfl, .rfl, .rfl, .rfl, .rfl, .rfl, .rfl, (.frz rfl), trivial⟩ rfl) ?_
    refine ao_call (v' := (ow 3 0 q18)) (st' := [⟨0, 97, 2, [(eRSignatures p0)]⟩, ⟨0, 50, 3, [[(i64 c15.op), (i64 c15.num), (ls eRExpr c15.kids)]]⟩, ⟨1, 40, 1, []⟩, (ro 0 3 1 eI q18)]) go0 hb118 (slices_Concat_int_int_ok gq18) rfl rfl ⟨(pure_map' fun _ => rfl), trivial⟩ rfl rfl ?_
    refine AO.done ⟨rfl, ?_⟩
    exact AX.weaken (by refine Wk.trans (Wk.permk (L := [(1, (ls eI p1)), (3, (ls (eS eI) p3)), (4, (.ptr 0 0 0 0)), (9, (i64 result5)), (10, (i64 t6)), (11, (.ptr 1 0 0 0)), (13, (ls eRExpr p2)), (14, (i64 (Sh.len p2))), (15, (i64 t6)), (20, (.agg (eRSignatures p0))), (27, (ow 2 0 q18))]) (st' := [⟨0, 97, 2, [(eRSignatures p0)]⟩, ⟨0, 50, 3, [[(i64 c15.op), (i64 c15.num), (ls eRExpr c15.kids)]]⟩, (ro 0 3 1 eI q18)]) (st1 := [⟨0, 97, 2, [(eRSignatures p0)]⟩, ⟨0, 50, 3, [[(i64 c15.op), (i64 c15.num), (ls eRExpr c15.kids)]]⟩, (ro 0 3 1 eI q18)]) [0, 1, 3] rfl .nil (by decide) rfl rfl (.raw rfl rfl (.raw rfl rfl (.pure (pure_map fun _ => rfl) .nil))) ⟨.rfl, .rfl, .rfl, .rfl, .rfl, .rfl, .rfl, .rfl, .rfl, .rfl, .rfl, trivial⟩) ?_; exact Wk.to (L := [(1, (ls eI p1)), (3, (ls (eS eI) p3)), (4, (.ptr 0 0 0 0)), (9, (i64 result5)), (10, (i64 t6)), (11, (.ptr 1 0 0 0)), (13, (ls eRExpr p2)), (14, (i64 (Sh.len p2))), (15, (i64 t6)), (20, (.agg (eRSignatures p0))), (27, (ow 2 0 q18))]) ⟨.rfl, .rfl, .rfl, .rfl, .rfl, .rfl, .rfl, .rfl, .rfl, .rfl, .rfl, trivial⟩) (AX.lst (by kernel_rfl) ((hA20 _ _ _).1 A20_01234567)) rfl
   ·refine AXs.of (i := 8) rfl rfl (by rfl) ?_
    refine zq tb rfl ?_
    refine AO.done ⟨rfl, ?_⟩
    exact AX.weaken (by refine Wk.trans (Wk.permk (L := [(1, (ls eI p1)), (3, (ls (eS eI) p3)), (4, (.ptr 0 0 0 0)), (9, (i64 result5)), (10, (i64 t6)), (13, (ls eRExpr p2)), (14, (i64 (Sh.len p2))), (15, (i64 t6)), (20, (.agg (eRSignatures p0))), (26, (ow 1 0 [p1, c17])), (28, (.agg [(i64 c15.op), (i64 c15.num), (ls eRExpr c15.kids)]))]) (st' := [⟨0, 97, 2, [(eRSignatures p0)]⟩, (ro 0 40 1 (eS eI) [p1, c17])]) (st1 := [⟨0, 97, 2, [(eRSignatures p0)]⟩, (ro 0 40 1 (eS eI) [p1, c17])]) [0, 2] rfl .nil (by decide) rfl rfl (.raw rfl rfl (.pure (pure_map fun _ => rfl) .nil)) ⟨.rfl, .rfl, .rfl, .rfl, .rfl, .rfl, .rfl, .rfl, .rfl, .rfl, .rfl, trivial⟩) ?_; exact Wk.to (L := [(1, (ls eI p1)), (3, (ls (eS eI) p3)), (4, (.ptr 0 0 0 0)), (9, (i64 result5)), (10, (i64 t6)), (13, (ls eRExpr p2)), (14, (i64 (Sh.len p2))), (15, (i64 t6)), (20, (.agg (eRSignatures p0))), (26, (ow 1 0 [p1, c17])), (28, (.agg [(i64 c15.op), (i64 c15.num), (ls eRExpr c15.kids)]))]) ⟨.rfl, .rfl, .rfl, .rfl, .rfl, .rfl, .rfl, .rfl, .rfl, .rfl, .rfl, trivial⟩) (AX.lst (by kernel_rfl) ((hA20 _ _ _).1 A20_01234568)) rfl)
  have A20_0123458 : A20 4 #[true, true, true, true, true, true, false, false, true, false, false] ⟨44, envL [(1, (ls eI p1)), (3, (ls (eS eI) p3)), (4, (.ptr 0 0 0 0)), (9, (i64 result5)), (10, (i64 t6)), (13, (ls eRExpr p2)), (14, (i64 (Sh.len p2))), (15, (i64 t6)), (20, (.agg (eRSignatures p0))), (21, (ls eI p1)), (25, (ls eI c17)), (28, (.agg [(i64 c15.op), (i64 c15.num), (ls eRExpr c15.kids)]))], [⟨0, 97, 2, [(eRSignatures p0)]⟩]⟩ := (hA20 _ _ _).2 (by
   refine AX.all [6] rfl (by kernel_rfl) (by decide) ⟨?_, trivial⟩
   ·refine AXs.of (i := 6) rfl rfl (by rfl) ?_
    refine ao_bs (m := 1) (st' := [⟨0, 97, 2, [(eRSignatures p0)]⟩, (ro 0 40 1 (eS eI) [p1, c17])]) (l := [p1, c17]) (enc := (eS eI)) go0 ei123 (by decide) rfl rfl rfl rfl rfl rfl ?_
    refine AO.done ⟨rfl, ?_⟩
    exact AX.weaken (Wk.to (L := [(1, (ls eI p1)), (3, (ls (eS eI) p3)), (4, (.ptr 0 0 0 0)), (9, (i64 result5)), (10, (i64 t6)), (13, (ls eRExpr p2)), (14, (i64 (Sh.len p2))), (15, (i64 t6)), (20, (.agg (eRSignatures p0))), (26, (ow 1 0 [p1, c17])), (28, (.agg [(i64 c15.op), (i64 c15.num), (ls eRExpr c15.kids)]))]) ⟨.rfl, .rfl, .rfl, .rfl, .rfl, .rfl, .rfl, .rfl, .rfl, .rfl, .rfl, trivial⟩) (AX.lst (by kernel_rfl) ((hA20 _ _ _).1 A20_01234568)) rfl)
  have A20_012345 : A20 5 #[true, true, true, true, true, true, false, false, false, false, false] ⟨44, envL [(1, (ls eI p1)), (3, (ls (eS eI) p3)), (4, (.ptr 0 0 0 0)), (9, (i64 result5)), (10, (i64 t6)), (11, (.ptr 1 0 0 0)), (13, (ls eRExpr p2)), (14, (i64 (Sh.len p2))), (15, (i64 t6)), (20, (.agg (eRSignatures p0))), (21, (ls eI p1)), (25, (ls eI c17))], [⟨0, 97, 2, [(eRSignatures p0)]⟩, ⟨0, 50, 3, [[(i64 c15.op), (i64 c15.num), (ls eRExpr c15.kids)]]⟩]⟩ := (hA20 _ _ _).2 (by
   refine AX.all [6, 8] rfl (by kernel_rfl) (by decide) ⟨?_, ?_, trivial⟩
   ·refine AXs.of (i := 6) rfl rfl (by rfl) ?_
    refine ao_bs (m := 2) (st' := [⟨0, 97, 2, [(eRSignatures p0)]⟩, ⟨0, 50, 3, [[(i64 c15.op), (i64 c15.num), (ls eRExpr c15.kids)]]⟩, (ro 0 40 1 (eS eI) [p1, c17])]) (l := [p1, c17]) (enc := (eS eI)) go0 ei123 (by decide) rfl rfl rfl rfl rfl rfl ?_
    refine AO.done ⟨rfl, ?_⟩
    exact AX.weaken (Wk.to (L := [(1, (ls eI p1)), (3, (ls (eS eI) p3)), (4, (.ptr 0 0 0 0)), (9, (i64 result5)), (10, (i64 t6)), (11, (.ptr 1 0 0 0)), (13, (ls eRExpr p2)), (14, (i64 (Sh.len p2))), (15, (i64 t6)), (20, (.agg (eRSignatures p0))), (26, (ow 2 0 [p1, c17]))]) ⟨.rfl, .rfl, .rfl, .rfl, .rfl, .rfl, .rfl, .rfl, .rfl, .rfl, .rfl, trivial⟩) (AX.lst (by kernel_rfl) ((hA20 _ _ _).1 A20_0123456)) rfl
   ·refine AXs.of (i := 8) rfl rfl (by rfl) ?_
    refine zq tb rfl ?_
    refine AO.done ⟨rfl, ?_⟩
    exact AX.weaken (by refine Wk.trans (Wk.permk (L := [(1, (ls eI p1)), (3, (ls (eS eI) p3)), (4, (.ptr 0 0 0 0)), (9, (i64 result5)), (10, (i64 t6)), (13, (ls eRExpr p2)), (14, (i64 (Sh.len p2))), (15, (i64 t6)), (20, (.agg (eRSignatures p0))), (21, (ls eI p1)), (25, (ls eI c17)), (28, (.agg [(i64 c15.op), (i64 c15.num), (ls eRExpr c15.kids)]))]) (st' := [⟨0, 97, 2, [(eRSignatures p0)]⟩]) (st1 := [⟨0, 97, 2, [(eRSignatures p0)]⟩]) [0] rfl .nil (by decide) rfl rfl (.raw rfl rfl .nil) ⟨.rfl, .rfl, .rfl, .rfl, .rfl, .rfl, .rfl, .rfl, .rfl, .rfl, .rfl, .rfl, trivial⟩) ?_; exact Wk.to (L := [(1, (ls eI p1)), (3, (ls (eS eI) p3)), (4, (.ptr 0 0 0 0)), (9, (i64 result5)), (10, (i64 t6)), (13, (ls eRExpr p2)), (14, (i64 (Sh.len p2))), (15, (i64 t6)), (20, (.agg (eRSignatures p0))), (21, (ls eI p1)), (25, (ls eI c17)), (28, (.agg [(i64 c15.op), (i64 c15.num), (ls eRExpr c15.kids)]))]) ⟨.rfl, .rfl, .rfl, .rfl, .rfl, .rfl, .rfl, .rfl, .rfl, .rfl, .rfl, .rfl, trivial⟩) (AX.lst (by kernel_rfl) ((hA20 _ _ _).1 A20_0123458)) rfl)
  have A20_012348 : A20 5 #[true, true, true, true, true, false, false, false, true, false, false] ⟨44, envL [(1, (ls eI p1)), (3, (ls (eS eI) p3)), (4, (.ptr 0 0 0 0)), (9, (i64 result5)), (10, (i64 t6)), (13, (ls eRExpr p2)), (14, (i64 (Sh.len p2))), (15, (i64 t6)), (20, (.agg (eRSignatures p0))), (21, (ls eI p1)), (24, (.iptr ((eS eI) c17) 0)), (28, (.agg [(i64 c15.op), (i64 c15.num), (ls eRExpr c15.kids)]))], [⟨0, 97, 2, [(eRSignatures p0)]⟩]⟩ := (hA20 _ _ _).2 (by
   refine AX.all [5] rfl (by kernel_rfl) (by decide) ⟨?_, trivial⟩
   ·refine AXs.of (i := 5) rfl rfl (by rfl) ?_
    refine zq tb rfl ?_
    refine AO.done ⟨rfl, ?_⟩
    exact AX.weaken (Wk.to (L := [(1, (ls eI p1)), (3, (ls (eS eI) p3)), (4, (.ptr 0 0 0 0)), (9, (i64 result5)), (10, (i64 t6)), (13, (ls eRExpr p2)), (14, (i64 (Sh.len p2))), (15, (i64 t6)), (20, (.agg (eRSignatures p0))), (21, (ls eI p1)), (25, (ls eI c17)), (28, (.agg [(i64 c15.op), (i64 c15.num), (ls eRExpr c15.kids)]))]) ⟨.rfl, .rfl, .rfl, .rfl, .rfl, .rfl, .rfl, .rfl, .rfl, .rfl, .rfl, .rfl, trivial⟩) (AX.lst (by kernel_rfl) ((hA20 _ _ _).1 A20_0123458)) rfl)
  have A20_01234 : A20 6 #[true, true, true, true, true, false, false, false, false, false, false] ⟨44, envL [(1, (ls eI p1)), (3, (ls (eS eI) p3)), (4, (.ptr 0 0 0 0)), (9, (i64 result5)), (10, (i64 t6)), (11, (.ptr 1 0 0 0)), (13, (ls eRExpr p2)), (14, (i64 (Sh.len p2))), (15, (i64 t6)), (20, (.agg (eRSignatures p0))), (21, (ls eI p1)), (24, (.iptr ((eS eI) c17) 0))], [⟨0, 97, 2, [(eRSignatures p0)]⟩, ⟨0, 50, 3, [[(i64 c15.op), (i64 c15.num), (ls eRExpr c15.kids)]]⟩]⟩ := (hA20 _ _ _).2 (by
   refine AX.all [5, 8] rfl (by kernel_rfl) (by decide) ⟨?_, ?_, trivial⟩
   ·refine AXs.of (i := 5) rfl rfl (by rfl) ?_
    refine zq tb rfl ?_
    refine AO.done ⟨rfl, ?_⟩
    exact AX.weaken (Wk.to (L := [(1, (ls eI p1)), (3, (ls (eS eI) p3)), (4, (.ptr 0 0 0 0)), (9, (i64 result5)), (10, (i64 t6)), (11, (.ptr 1 0 0 0)), (13, (ls eRExpr p2)), (14, (i64 (Sh.len p2))), (15, (i64 t6)), (20, (.agg (eRSignatures p0))), (21, (ls eI p1)), (25, (ls eI c17))]) ⟨.rfl, .rfl, .rfl, .rfl, .rfl, .rfl, .rfl, .rfl, .rfl, .rfl, .rfl, .rfl, trivial⟩) (AX.lst (by kernel_rfl) ((hA20 _ _ _).1 A20_012345)) rfl
   ·refine AXs.of (i := 8) rfl rfl (by rfl) ?_
    refine zq tb rfl ?_
    refine AO.done ⟨rfl, ?_⟩
    exact AX.weaken (by refine Wk.trans (Wk.permk (L := [(1, (ls eI p1)), (3, (ls (eS eI) p3)), (4, (.ptr 0 0 0 0)), (9, (i64 result5)), (10, (i64 t6)), (13, (ls eRExpr p2)), (14, (i64 (Sh.len p2))), (15, (i64 t6)), (20, (.agg (eRSignatures p0))), (21, (ls eI p1)), (24, (.iptr ((eS eI) c17) 0)), (28, (.agg [(i64 c15.op), (i64 c15.num), (ls eRExpr c15.kids)]))]) (st' := [⟨0, 97, 2, [(eRSignatures p0)]⟩]) (st1 := [⟨0, 97, 2, [(eRSignatures p0)]⟩]) [0] rfl .nil (by decide) rfl rfl (.raw rfl rfl .nil) ⟨.rfl, .rfl, .rfl, .rfl, .rfl, .rfl, .rfl, .rfl, .rfl, .rfl, .rfl, .rfl, trivial⟩) ?_; exact Wk.to (L := [(1, (ls eI p1)), (3, (ls (eS eI) p3)), (4, (.ptr 0 0 0 0)), (9, (i64 result5)), (10, (i64 t6)), (13, (ls eRExpr p2)), (14, (i64 (Sh.len p2))), (15, (i64 t6)), (20, (.agg (eRSignatures p0))), (21, (ls eI p1)), (24, (.iptr ((eS eI) c17) 0)), (28, (.agg [(i64 c15.op), (i64 c15.num), (ls eRExpr c15.kids)]))]) ⟨.rfl, .rfl, .rfl, .rfl, .rfl, .rfl, .rfl, .rfl, .rfl, .rfl, .rfl, .rfl, trivial⟩) (AX.lst (by kernel_rfl) ((hA20 _ _ _).1 A20_012348)) rfl)
  have A20_01238 : A20 6 #[true, true, true, true, false, false, false, false, true, false, false] ⟨44, envL [(1, (ls eI p1)), (3, (ls (eS eI) p3)), (4, (.ptr 0 0 0 0)), (9, (i64 result5)), (10, (i64 t6)), (13, (ls eRExpr p2)), (14, (i64 (Sh.len p2))), (15, (i64 t6)), (20, (.agg (eRSignatures p0))), (21, (ls eI p1)), (22, (ls (eS eI) p3)), (23, (i64 t6)), (28, (.agg [(i64 c15.op), (i64 c15.num), (ls eRExpr c15.kids)]))], [⟨0, 97, 2, [(eRSignatures p0)]⟩]⟩ := (hA20 _ _ _).2 (by
   refine AX.all [4] rfl (by kernel_rfl) (by decide) ⟨?_, trivial⟩
   ·refine AXs.of (i := 4) rfl rfl (by rfl) ?_
    refine zx ei123 gc17 rfl rfl rfl ?_
    refine AO.done ⟨rfl, ?_⟩
    exact AX.weaken (Wk.to (L := [(1, (ls eI p1)), (3, (ls (eS eI) p3)), (4, (.ptr 0 0 0 0)), (9, (i64 result5)), (10, (i64 t6)), (13, (ls eRExpr p2)), (14, (i64 (Sh.len p2))), (15, (i64 t6)), (20, (.agg (eRSignatures p0))), (21, (ls eI p1)), (24, (.iptr ((eS eI) c17) 0)), (28, (.agg [(i64 c15.op), (i64 c15.num), (ls eRExpr c15.kids)]))]) ⟨.rfl, .rfl, .rfl, .rfl, .rfl, .rfl, .rfl, .rfl, .rfl, .rfl, .rfl, .rfl, trivial⟩) (AX.lst (by kernel_rfl) ((hA20 _ _ _).1 A20_012348)) rfl)
  have A20_0123 : A20 7 #[true, true, true, true, false, false, false, false, false, false, false] ⟨44, envL [(1, (ls eI p1)), (3, (ls (eS eI) p3)), (4, (.ptr 0 0 0 0)), (9, (i64 result5)), (10, (i64 t6)), (11, (.ptr 1 0 0 0)), (13, (ls eRExpr p2)), (14, (i64 (Sh.len p2))), (15, (i64 t6)), (20, (.agg (eRSignatures p0))), (21, (ls eI p1)), (22, (ls (eS eI) p3)), (23, (i64 t6))], [⟨0, 97, 2, [(eRSignatures p0)]⟩, ⟨0, 50, 3, [[(i64 c15.op), (i64 c15.num), (ls eRExpr c15.kids)]]⟩]⟩ := (hA20 _ _ _).2 (by
   refine AX.all [4, 8] rfl (by kernel_rfl) (by decide) ⟨?_, ?_, trivial⟩
   ·refine AXs.of (i := 4) rfl rfl (by rfl) ?_
    refine zx ei123 gc17 rfl rfl rfl ?_
    refine AO.done ⟨rfl, ?_⟩
    exact AX.weaken (Wk.to (L := [(1, (ls eI p1)), (3, (ls (eS eI) p3)), (4, (.ptr 0 0 0 0)), (9, (i64 result5)), (10, (i64 t6)), (11, (.ptr 1 0 0 0)), (13, (ls eRExpr p2)), (14, (i64 (Sh.len p2))), (15, (i64 t6)), (20, (.agg (eRSignatures p0))), (21, (ls eI p1)), (24, (.iptr ((eS eI) c17) 0))]) ⟨.rfl, .rfl, .rfl, .rfl, .rfl, .rfl, .rfl, .rfl, .rfl, .rfl, .rfl, .rfl, trivial⟩) (AX.lst (by kernel_rfl) ((hA20 _ _ _).1 A20_01234)) rfl
   ·refine AXs.of (i := 8) rfl rfl (by rfl) ?_
    refine zq tb rfl ?_
    refine AO.done ⟨rfl, ?_⟩
    exact AX.weaken (by refine Wk.trans (Wk.permk (L := [(1, (ls eI p1)), (3, (ls (eS eI) p3)), (4, (.ptr 0 0 0 0)), (9, (i64 result5)), (10, (i64 t6)), (13, (ls eRExpr p2)), (14, (i64 (Sh.len p2))), (15, (i64 t6)), (20, (.agg (eRSignatures p0))), (21, (ls eI p1)), (22, (ls (eS eI) p3)), (23, (i64 t6)), (28, (.agg [(i64 c15.op), (i64 c15.num), (ls eRExpr c15.kids)]))]) (st' := [⟨0, 97, 2, [(eRSignatures p0)]⟩]) (st1 := [⟨0, 97, 2, [(eRSignatures p0)]⟩]) [0] rfl .nil (by decide) rfl rfl (.raw rfl rfl .nil) ⟨.rfl, .rfl, .rfl, .rfl, .rfl, .rfl, .rfl, .rfl, .rfl, .rfl, .rfl, .rfl, .rfl, trivial⟩) ?_; exact Wk.to (L := [(1, (ls eI p1)), (3, (ls (eS eI) p3)), (4, (.ptr 0 0 0 0)), (9, (i64 result5)), (10, (i64 t6)), (13, (ls eRExpr p2)), (14, (i64 (Sh.len p2))), (15, (i64 t6)), (20, (.agg (eRSignatures p0))), (21, (ls eI p1)), (22, (ls (eS eI) p3)), (23, (i64 t6)), (28, (.agg [(i64 c15.op), (i64 c15.num), (ls eRExpr c15.kids)]))]) ⟨.rfl, .rfl, .rfl, .rfl, .rfl, .rfl, .rfl, .rfl, .rfl, .rfl, .rfl, .rfl, .rfl, trivial⟩) (AX.lst (by kernel_rfl) ((hA20 _ _ _).1 A20_01238)) rfl)
  have A20_12345678 : A20 3 #[false, true, true, true, true, true, true, true, true, false, false] ⟨44, envL [(1, (ls eI p1)), (3, (ls (eS eI) p3)), (4, (.ptr 0 0 0 0)), (9, (i64 result5)), (10, (i64 t6)), (13, (ls eRExpr p2)), (14, (i64 (Sh.len p2))), (15, (i64 t6)), (27, (ow 1 0 q18)), (28, (.agg [(i64 c15.op), (i64 c15.num), (ls eRExpr c15.kids)]))], [⟨0, 97, 2, [(eRSignatures p0)]⟩, (ro 0 3 1 eI q18)]⟩ := (hA20 _ _ _).2 (by
   refine AX.all [0] rfl (by kernel_rfl) (by decide) ⟨?_, trivial⟩
   ·refine AXs.of (i := 0) rfl rfl (by rfl) ?_
    refine zq tb rfl ?_
    refine AO.done ⟨rfl, ?_⟩
    exact AX.weaken (Wk.to (L := [(1, (ls eI p1)), (3, (ls (eS eI) p3)), (4, (.ptr 0 0 0 0)), (9, (i64 result5)), (10, (i64 t6)), (13, (ls eRExpr p2)), (14, (i64 (Sh.len p2))), (15, (i64 t6)), (20, (.agg (eRSignatures p0))), (27, (ow 1 0 q18)), (28, (.agg [(i64 c15.op), (i64 c15.num), (ls eRExpr c15.kids)]))]) ⟨.rfl, .rfl, .rfl, .rfl, .rfl, .rfl, .rfl, .rfl, .rfl, .rfl, .rfl, trivial⟩) (AX.lst (by kernel_rfl) ((hA20 _ _ _).1 A20_012345678)) rfl)
  have A20_1234567 : A20 4 #[false, true, true, true, true, true, true, true, false, false, false] ⟨44, envL [(1, (ls eI p1)), (3, (ls (eS eI) p3)), (4, (.ptr 0 0 0 0)), (9, (i64 result5)), (10, (i64 t6)), (11, (.ptr 1 0 0 0)), (13, (ls eRExpr p2)), (14, (i64 (Sh.len p2))), (15, (i64 t6)), (27, (ow 2 0 q18))], [⟨0, 97, 2, [(eRSignatures p0)]⟩, ⟨0, 50, 3, [[(i64 c15.op), (i64 c15.num), (ls eRExpr c15.kids)]]⟩, (ro 0 3 1 eI q18)]⟩ := (hA20 _ _ _).2 (by
   refine AX.all [0, 8] rfl (by kernel_rfl) (by decide) ⟨?_, ?_, trivial⟩
   ·refine AXs.of (i := 0) rfl rfl (by rfl) ?_
    refine zq tb rfl ?_
    refine AO.done ⟨rfl, ?_⟩
    exact AX.weaken (Wk.to (L := [(1, (ls eI p1)), (3, (ls (eS eI) p3)), (4, (.ptr 0 0 0 0)), (9, (i64 result5)), (10, (i64 t6)), (11, (.ptr 1 0 0 0)), (13, (ls eRExpr p2)), (14, (i64 (Sh.len p2))), (15, (i64 t6)), (20, (.agg (eRSignatures p0))), (27, (ow 2 0 q18))]) ⟨.rfl, .rfl, .rfl, .rfl, .rfl, .rfl, .rfl, .rfl, .rfl, .rfl, .rfl, trivial⟩) (AX.lst (by kernel_rfl) ((hA20 _ _ _).1 A20_01234567)) rfl
   ·refine AXs.of (i := 8) rfl rfl (by rfl) ?_
    refine zq tb rfl ?_
    refine AO.done ⟨rfl, ?_⟩
    exact AX.weaken (by refine Wk.trans (Wk.permk (L := [(1, (ls eI p1)), (3, (ls (eS eI) p3)), (4, (.ptr 0 0 0 0)), (9, (i64 result5)), (10, (i64 t6)), (13, (ls eRExpr p2)), (14, (i64 (Sh.len p2))), (15, (i64 t6)), (27, (ow 1 0 q18)), (28, (.agg [(i64 c15.op), (i64 c15.num), (ls eRExpr c15.kids)]))]) (st' := [⟨0, 97, 2, [(eRSignatures p0)]⟩, (ro 0 3 1 eI q18)]) (st1 := [⟨0, 97, 2, [(eRSignatures p0)]⟩, (ro 0 3 1 eI q18)]) [0, 2] rfl .nil (by decide) rfl rfl (.raw rfl rfl (.pure (pure_map fun _ => rfl) .nil)) ⟨.rfl, .rfl, .rfl, .rfl, .rfl, .rfl, .rfl, .rfl, .rfl, .rfl, trivial⟩) ?_; exact Wk.to (L := [(1, (ls eI p1)), (3, (ls (eS eI) p3)), (4, (.ptr 0 0 0 0)), (9, (i64 result5)), (10, (i64 t6)), (13, (ls eRExpr p2)), (14, (i64 (Sh.len p2))), (15, (i64 t6)), (27, (ow 1 0 q18)), (28, (.agg [(i64 c15.op), (i64 c15.num), (ls eRExpr c15.kids)]))]) ⟨.rfl, .rfl, .rfl, .rfl, .rfl, .rfl, .rfl, .rfl, .rfl, .rfl, trivial⟩) (AX.lst (by kernel_rfl) ((hA20 _ _ _).1 A20_12345678)) rfl)
  have A20_1234568 : A20 4 #[false, true, true, true, true, true, true, false, true, false, false] ⟨44, envL [(1, (ls eI p1)), (3, (ls (eS eI) p3)), (4, (.ptr 0 0 0 0)), (9, (i64 result5)), (10, (i64 t6)), (13, (ls eRExpr p2)), (14, (i64 (Sh.len p2))), (15, (i64 t6)), (26, (ow 1 0 [p1, c17])), (28, (.agg [(i64 c15.op), (i64 c15.num), (ls eRExpr c15.kids)]))], [⟨0, 97, 2, [(eRSignatures p0)]⟩, (ro 0 40 1 (eS eI) [p1, c17])]⟩ := (hA20 _ _ _).2 (by
   refine AX.all [0, 7] rfl (by kernel_rfl) (by decide) ⟨?_, ?_, trivial⟩
   ·refine AXs.of (i := 0) rfl rfl (by rfl) ?_
    refine zq tb rfl ?_
    refine AO.done ⟨rfl, ?_⟩
    exact AX.weaken (Wk.to (L := [(1, (ls eI p1)), (3, (ls (eS eI) p3)), (4, (.ptr 0 0 0 0)), (9, (i64 result5)), (10, (i64 t6)), (13, (ls eRExpr p2)), (14, (i64 (Sh.len p2))), (15, (i64 t6)), (20, (.agg (eRSignatures p0))), (26, (ow 1 0 [p1, c17])), (28, (.agg [(i64 c15.op), (i64 c15.num), (ls eRExpr c15.kids)]))]) ⟨.rfl, .rfl, .rfl, .rfl, .rfl, .rfl, .rfl, .rfl, .rfl, .rfl, .rfl, trivial⟩) (AX.lst (by kernel_rfl) ((hA20 _ _ _).1 A20_01234568)) rfl
   ·refine AXs.of (i := 7) rfl rfl (by rfl) ?_
    refine AO.weaken (Wk.frz (L := [(1, (ls eI p1)), (3, (ls (eS eI) p3)), (4, (.ptr 0 0 0 0)), (9, (i64 result5)), (10, (i64 t6)), (13, (ls eRExpr p2)), (14, (i64 (Sh.len p2))), (15, (i64 t6)), (26, (ls (eS eI) [p1, c17])), (28, (.agg [(i64 c15.op), (i64 c15.num), (ls eRExpr c15.kids)]))]) (st' := [⟨0, 97, 2, [(eRSignatures p0)]⟩, ⟨1, 40, 1, []⟩]) (id := 1) rfl (show 0 ≤ 1 by decide) (pure_map fun _ => rfl) ⟨.rfl, .rfl, .rfl, .rfl, .rfl, .rfl, .rfl, .rfl, (.frz rfl), .rfl, trivial⟩ rfl) ?_
    refine ao_call (v' := (ow 2 0 q18)) (st' := [⟨0, 97, 2, [(eRSignatures p0)]⟩, ⟨1, 40, 1, []⟩, (ro 0 3 1 eI q18)]) go0 hb118 (slices_Concat_int_int_ok gq18) rfl rfl ⟨(pure_map' fun _ => rfl), trivial⟩ rfl rfl ?_
    refine AO.done ⟨rfl, ?_⟩
    exact AX.weaken (by refine Wk.trans (Wk.permk (L := [(1, (ls eI p1)), (3, (ls (eS eI) p3)), (4, (.ptr 0 0 0 0)), (9, (i64 result5)), (10, (i64 t6)), (13, (ls eRExpr p2)), (14, (i64 (Sh.len p2))), (15, (i64 t6)), (27, (ow 1 0 q18)), (28, (.agg [(i64 c15.op), (i64 c15.num), (ls eRExpr c15.kids)]))]) (st' := [⟨0, 97, 2, [(eRSignatures p0)]⟩, (ro 0 3 1 eI q18)]) (st1 := [⟨0, 97, 2, [(eRSignatures p0)]⟩, (ro 0 3 1 eI q18)]) [0, 2] rfl .nil (by decide) rfl rfl (.raw rfl rfl (.pure (pure_map fun _ => rfl) .nil)) ⟨.rfl, .rfl, .rfl, .rfl, .rfl, .rfl, .rfl, .rfl, .rfl, .rfl, trivial⟩) ?_; exact Wk.to (L := [(1, (ls eI p1)), (3, (ls (eS eI) p3)), (4, (.ptr 0 0 0 0)), (9, (i64 result5)), (10, (i64 t6)), (13, (ls eRExpr p2)), (14, (i64 (Sh.len p2))), (15, (i64 t6)), (27, (ow 1 0 q18)), (28, (.agg [(i64 c15.op), (i64 c15.num), (ls eRExpr c15.kids)]))]) ⟨.rfl, .rfl, .rfl, .rfl, .rfl, .rfl, .rfl, .rfl, .rfl, .rfl, trivial⟩) (AX.lst (by kernel_rfl) ((hA20 _ _ _).1 A20_12345678)) rfl)
  have A20_123456 : A20 5 #[false, true, true, true, true, true, true, false, false, false, false] ⟨44, envL [(1, (ls eI p1)), (3, (ls (eS eI) p3)), (4, (.ptr 0 0 0 0)), (9, (i64 result5)), (10, (i64 t6)), (11, (.ptr 1 0 0 0)), (13, (ls eRExpr p2)), (14, (i64 (Sh.len p2))), (15, (i64 t6)), (26, (ow 2 0 [p1, c17]))], [⟨0, 97, 2, [(eRSignatures p0)]⟩, ⟨0, 50, 3, [[(i64 c15.op), (i64 c15.num), (ls eRExpr c15.kids)]]⟩, (ro 0 40 1 (eS eI) [p1, c17])]⟩ := (hA20 _ _ _).2 (by
   refine AX.all [0, 7, 8] rfl (by kernel_rfl) (by decide) ⟨?_, ?_, ?_, trivial⟩
   ·refine AXs.of (i := 0) rfl rfl (by rfl) ?_
    refine zq tb rfl ?_
    refine AO.done ⟨rfl, ?_⟩
    exact AX.weaken (Wk.to (L := [(1, (ls eI p1)), (3, (ls (eS eI) p3)), (4, (.ptr 0 0 0 0)), (9, (i64 result5)), (10, (i64 t6)), (11, (.ptr 1 0 0 0)), (13, (ls eRExpr p2)), (14, (i64 (Sh.len p2))), (15, (i64 t6)), (20, (.agg (eRSignatures p0))), (26, (ow 2 0 [p1, c17]))]) ⟨.rfl, .rfl, .rfl, .rfl, .rfl, .rfl, .rfl, .rfl, .rfl, .rfl, .rfl, trivial⟩) (AX.lst (by kernel_rfl) ((hA20 _ _ _).1 A20_0123456)) rfl
   ·refine AXs.of (i := 7) rfl rfl (by rfl) ?_
    refine AO.weaken (Wk.frz (L := [(1, (ls eI p1)), (3, (ls (eS eI) p3)), (4, (.ptr 0 0 0 0)), (9, (i64 result5)), (10, (i64 t6)), (11, (.ptr 1 0 0 0)), (13, (ls eRExpr p2)), (14, (i64 (Sh.len p2))), (15, (i64 t6)), (26, (ls (eS eI) [p1, c17]))]) (st' := [⟨0, 97, 2, [(eRSignatures p0)]⟩, ⟨0, 50, 3, [[(i64 c15.op), (i64 c15.num), (ls eRExpr c15.kids)]]⟩, ⟨1, 40, 1, []⟩]) (id := 2) rfl (show 0 ≤ 2 by decide) (pure_map fun _ => rfl) ⟨.rfl, .rfl, .rfl, .rfl, .rfl, .rfl, .rfl, .rfl, .rfl, (.frz rfl), trivial⟩ rfl) ?_
    refine ao_call (v' := (ow 3 0 q18)) (st' := [⟨0, 97, 2, [(eRSignatures p0)]⟩, ⟨0, 50, 3, [[(i64 c15.op), (i64 c15.num), (ls eRExpr c15.kids)]]⟩, ⟨1, 40, 1, []⟩, (ro 0 3 1 eI q18)]) go0 hb118 (slices_Concat_int_int_ok gq18) rfl rfl ⟨(pure_map' fun _ => rfl), trivial⟩ rfl rfl ?_
    refine AO.done ⟨rfl, ?_⟩
    exact AX.weaken (by refine Wk.trans (Wk.permk (L := [(1, (ls eI p1)), (3, (ls (eS eI) p3)), (4, (.ptr 0 0 0 0)), (9, (i64 result5)), (10, (i64 t6)), (11, (.ptr 1 0 0 0)), (13, (ls eRExpr p2)), (14, (i64 (Sh.len p2))), (15, (i64 t6)), (27, (ow 2 0 q18))]) (st' := [⟨0, 97, 2, [(eRSignatures p0)]⟩, ⟨0, 50, 3, [[(i64 c15.op), (i64 c15.num), (ls eRExpr c15.kids)]]⟩, (ro 0 3 1 eI q18)]) (st1 := [⟨0, 97, 2, [(eRSignatures p0)]⟩, ⟨0, 50, 3, [[(i64 c15.op), (i64 c15.num), (ls eRExpr c15.kids)]]⟩, (ro 0 3 1 eI q18)]) [0, 1, 3] rfl .nil (by decide) rfl rfl (.raw rfl rfl (.raw rfl rfl (.pure (pure_map fun _ => rfl) .nil))) ⟨.rfl, .rfl, .rfl, .rfl, .rfl, .rfl, .rfl, .rfl, .rfl, .rfl, trivial⟩) ?_; exact Wk.to (L := [(1, (ls eI p1)), (3, (ls (eS eI) p3)), (4, (.ptr 0 0 0 0)), (9, (i64 result5)), (10, (i64 t6)), (11, (.ptr 1 0 0 0)), (13, (ls eRExpr p2)), (14, (i64 (Sh.len p2))), (15, (i64 t6)), (27, (ow 2 0 q18))]) ⟨.rfl, .rfl, .rfl, .rfl, .rfl, .rfl, .rfl, .rfl, .rfl, .rfl, trivial⟩) (AX.lst (by kernel_rfl) ((hA20 _ _ _).1 A20_1234567)) rfl
   ·refine AXs.of (i := 8) rfl rfl (by rfl) ?_
    refine zq tb rfl ?_
    refine AO.done ⟨rfl, ?_⟩
    exact AX.weaken (by refine Wk.trans (Wk.permk (L := [(1, (ls eI p1)), (3, (ls (eS eI) p3)), (4, (.ptr 0 0 0 0)), (9, (i64 result5)), (10, (i64 t6)), (13, (ls eRExpr p2)), (14, (i64 (Sh.len p2))), (15, (i64 t6)), (26, (ow 1 0 [p1, c17])), (28, (.agg [(i64 c15.op), (i64 c15.num), (ls eRExpr c15.kids)]))]) (st' := [⟨0, 97, 2, [(eRSignatures p0)]⟩, (ro 0 40 1 (eS eI) [p1, c17])]) (st1 := [⟨0, 97, 2, [(eRSignatures p0)]⟩, (ro 0 40 1 (eS eI) [p1, c17])]) [0, 2] rfl .nil (by decide) rfl rfl (.raw rfl rfl (.pure (pure_map fun _ => rfl) .nil)) ⟨.rfl, .rfl, .rfl, .rfl, .rfl, .rfl, .rfl, .rfl, .rfl, .rfl, trivial⟩) ?_; exact Wk.to (L := [(1, (ls eI p1)), (3, (ls (eS eI) p3)), (4, (.ptr 0 0 0 0)), (9, (i64 result5)), (10, (i64 t6)), (13, (ls eRExpr p2)), (14, (i64 (Sh.len p2))), (15, (i64 t6)), (26, (ow 1 0 [p1, c17])), (28, (.agg [(i64 c15.op), (i64 c15.num), (ls eRExpr c15.kids)]))]) ⟨.rfl, .rfl, .rfl, .rfl, .rfl, .rfl, .rfl, .rfl, .rfl, .rfl, trivial⟩) (AX.lst (by kernel_rfl) ((hA20 _ _ _).1 A20_1234568)) rfl)
  have A20_123458 : A20 5 #[false, true, true, true, true, true, false, false, true, false, false] ⟨44, envL [(1, (ls eI p1)), (3, (ls (eS eI) p3)), (4, (.ptr 0 0 0 0)), (9, (i64 result5)), (10, (i64 t6)), (13, (ls eRExpr p2)), (14, (i64 (Sh.len p2))), (15, (i64 t6)), (21, (ls eI p1)), (25, (ls eI c17)), (28, (.agg [(i64 c15.op), (i64 c15.num), (ls eRExpr c15.kids)]))], [⟨0, 97, 2, [(eRSignatures p0)]⟩]⟩ := (hA20 _ _ _).2 (by
   refine AX.all [0, 6] rfl (by kernel_rfl) (by decide) ⟨?_, ?_, trivial⟩
   ·refine AXs.of (i := 0) rfl rfl (by rfl) ?_
    refine zq tb rfl ?_
    refine AO.done ⟨rfl, ?_⟩
    exact AX.weaken (Wk.to (L := [(1, (ls eI p1)), (3, (ls (eS eI) p3)), (4, (.ptr 0 0 0 0)), (9, (i64 result5)), (10, (i64 t6)), (13, (ls eRExpr p2)), (14, (i64 (Sh.len p2))), (15, (i64 t6)), (20, (.agg (eRSignatures p0))), (21, (ls eI p1)), (25, (ls eI c17)), (28, (.agg [(i64 c15.op), (i64 c15.num), (ls eRExpr c15.kids)]))]) ⟨.rfl, .rfl, .rfl, .rfl, .rfl, .rfl, .rfl, .rfl, .rfl, .rfl, .rfl, .rfl, trivial⟩) (AX.lst (by kernel_rfl) ((hA20 _ _ _).1 A20_0123458)) rfl
   ·refine AXs.of (i := 6) rfl rfl (by rfl) ?_
    refine ao_bs (m := 1) (st' := [⟨0, 97, 2, [(eRSignatures p0)]⟩, (ro 0 40 1 (eS eI) [p1, c17])]) (l := [p1, c17]) (enc := (eS eI)) go0 ei123 (by decide) rfl rfl rfl rfl rfl rfl ?_
    refine AO.done ⟨rfl, ?_⟩
    exact AX.weaken (Wk.to (L := [(1, (ls eI p1)), (3, (ls (eS eI) p3)), (4, (.ptr 0 0 0 0)), (9, (i64 result5)), (10, (i64 t6)), (13, (ls eRExpr p2)), (14, (i64 (Sh.len p2))), (15, (i64 t6)), (26, (ow 1 0 [p1, c17])), (28, (.agg [(i64 c15.op), (i64 c15.num), (ls eRExpr c15.kids)]))]) ⟨.rfl, .rfl, .rfl, .rfl, .rfl, .rfl, .rfl, .rfl, .rfl, .rfl, trivial⟩) (AX.lst (by kernel_rfl) ((hA20 _ _ _).1 A20_1234568)) rfl)
  have A20_12345 : A20 6 #[false, true, true, true, true, true, false, false, false, false, false] ⟨44, envL [(1, (ls eI p1)), (3, (ls (eS eI) p3)), (4, (.ptr 0 0 0 0)), (9, (i64 result5)), (10, (i64 t6)), (11, (.ptr 1 0 0 0)), (13, (ls eRExpr p2)), (14, (i64 (Sh.len p2))), (15, (i64 t6)), (21, (ls eI p1)), (25, (ls eI c17))], [⟨0, 97, 2, [(eRSignatures p0)]⟩, ⟨0, 50, 3, [[(i64 c15.op), (i64 c15.num), (ls eRExpr c15.kids)]]⟩]⟩ := (hA20 _ _ _).2 (by
   refine AX.all [0, 6, 8] rfl (by kernel_rfl) (by decide) ⟨?_, ?_, ?_, trivial⟩
   ·refine AXs.of (i := 0) rfl rfl (by rfl) ?_
    refine zq tb rfl ?_
    refine AO.done ⟨rfl, ?_⟩
    exact AX.weaken (Wk.to (L := [(1, (ls eI p1)), (3, (ls (eS eI) p3)), (4, (.ptr 0 0 0 0)), (9, (i64 result5)), (10, (i64 t6)), (11, (.ptr 1 0 0 0)), (13, (ls eRExpr p2)), (14, (i64 (Sh.len p2))), (15, (i64 t6)), (20, (.agg (eRSignatures p0))), (21, (ls eI p1)), (25, (ls eI c17))]) ⟨.rfl, .rfl, .rfl, .rfl, .rfl, .rfl, .rfl, .rfl, .rfl, .rfl, .rfl, .rfl, trivial⟩) (AX.lst (by kernel_rfl) ((hA20 _ _ _).1 A20_012345)) rfl
   ·refine AXs.of (i := 6) rfl rfl (by rfl) ?_
    refine ao_bs (m := 2) (st' := [⟨0, 97, 2, [(eRSignatures p0)]⟩, ⟨0, 50, 3, [[(i64 c15.op), (i64 c15.num), (ls eRExpr c15.kids)]]⟩, (ro 0 40 1 (eS eI) [p1, c17])]) (l := [p1, c17]) (enc := (eS eI)) go0 ei123 (by decide) rfl rfl rfl rfl rfl rfl ?_
    refine AO.done ⟨rfl, ?_⟩
    exact AX.weaken (Wk.to (L := [(1, (ls eI p1)), (3, (ls (eS eI) p3)), (4, (.ptr 0 0 0 0)), (9, (i64 result5)), (10, (i64 t6)), (11, (.ptr 1 0 0 0)), (13, (ls eRExpr p2)), (14, (i64 (Sh.len p2))), (15, (i64 t6)), (26, (ow 2 0 [p1, c17]))]) ⟨.rfl, .rfl, .rfl, .rfl, .rfl, .rfl, .rfl, .rfl, .rfl, .rfl, trivial⟩) (AX.lst (by kernel_rfl) ((hA20 _ _ _).1 A20_123456)) rfl
   ·refine AXs.of (i := 8) rfl rfl (by rfl) ?_
    refine zq tb rfl ?_
    refine AO.done ⟨rfl, ?_⟩
    exact AX.weaken (by refine Wk.trans (Wk.permk (L := [(1, (ls eI p1)), (3, (ls (eS eI) p3)), (4, (.ptr 0 0 0 0)), (9, (i64 result5)), (10, (i64 t6)), (13, (ls eRExpr p2)), (14, (i64 (Sh.len p2))), (15, (i64 t6)), (21, (ls eI p1)), (25, (ls eI c17)), (28, (.agg [(i64 c15.op), (i64 c15.num), (ls eRExpr c15.kids)]))]) (st' := [⟨0, 97, 2, [(eRSignatures p0)]⟩]) (st1 := [⟨0, 97, 2, [(eRSignatures p0)]⟩]) [0] rfl .nil (by decide) rfl rfl (.raw rfl rfl .nil) ⟨.rfl, .rfl, .rfl, .rfl, .rfl, .rfl, .rfl, .rfl, .rfl, .rfl, .rfl, trivial⟩) ?_; exact Wk.to (L := [(1, (ls eI p1)), (3, (ls (eS eI) p3)), (4, (.ptr 0 0 0 0)), (9, (i64 result5)), (10, (i64 t6)), (13, (ls eRExpr p2)), (14, (i64 (Sh.len p2))), (15, (i64 t6)), (21, (ls eI p1)), (25, (ls eI c17)), (28, (.agg [(i64 c15.op), (i64 c15.num), (ls eRExpr c15.kids)]))]) ⟨.rfl, .rfl, .rfl, .rfl, .rfl, .rfl, .rfl, .rfl, .rfl, .rfl, .rfl, trivial⟩) (AX.lst (by kernel_rfl) ((hA20 _ _ _).1 A20_123458)) rfl)
  have A20_12348 : A20 6 #[false, true, true, true, true, false, false, false, true, false, false] ⟨44, envL [(1, (ls eI p1)), (3, (ls (eS eI) p3)), (4, (.ptr 0 0 0 0)), (9, (i64 result5)), (10, (i64 t6)), (13, (ls eRExpr p2)), (14, (i64 (Sh.len p2))), (15, (i64 t6)), (21, (ls eI p1)), (24, (.iptr ((eS eI) c17) 0)), (28, (.agg [(i64 c15.op), (i64 c15.num), (ls eRExpr c15.kids)]))], [⟨0, 97, 2, [(eRSignatures p0)]⟩]⟩ := (hA20 _ _ _).2 (by
   refine AX.all [0, 5] rfl (by kernel_rfl) (by decide) ⟨?_, ?_, trivial⟩
   ·refine AXs.of (i := 0) rfl rfl (by rfl) ?_
    refine zq tb rfl ?_
    refine AO.done ⟨rfl, ?_⟩
    exact AX.weaken (Wk.to (L := [(1, (ls eI p1)), (3, (ls (eS eI) p3)), (4, (.ptr 0 0 0 0)), (9, (i64 result5)), (10, (i64 t6)), (13, (ls eRExpr p2)), (14, (i64 (Sh.len p2))), (15, (i64 t6)), (20, (.agg (eRSignatures p0))), (21, (ls eI p1)), (24, (.iptr ((eS eI) c17) 0)), (28, (.agg [(i64 c15.op), (i64 c15.num), (ls eRExpr c15.kids)]))]) ⟨.rfl, .rfl, .rfl, .rfl, .rfl, .rfl, .rfl, .rfl, .rfl, .rfl, .rfl, .rfl, trivial⟩) (AX.lst (by kernel_rfl) ((hA20 _ _ _).1 A20_012348)) rfl
   ·refine AXs.of (i := 5) rfl rfl (by rfl) ?_
    refine zq tb rfl ?_
    refine AO.done ⟨rfl, ?_⟩
    exact AX.weaken (Wk.to (L := [(1, (ls eI p1)), (3, (ls (eS eI) p3)), (4, (.ptr 0 0 0 0)), (9, (i64 result5)), (10, (i64 t6)), (13, (ls eRExpr p2)), (14, (i64 (Sh.len p2))), (15, (i64 t6)), (21, (ls eI p1)), (25, (ls eI c17)), (28, (.agg [(i64 c15.op), (i64 c15.num), (ls eRExpr c15.kids)]))]) ⟨.rfl, .rfl, .rfl, .rfl, .rfl, .rfl, .rfl, .rfl, .rfl, .rfl, .rfl, trivial⟩) (AX.lst (by kernel_rfl) ((hA20 _ _ _).1 A20_123458)) rfl)
  have A20_1234 : A20 7 #[false, true, true, true, true, false, false, false, false, false, false] ⟨44, envL [(1, (ls eI p1)), (3, (ls (eS eI) p3)), (4, (.ptr 0 0 0 0)), (9, (i64 result5)), (10, (i64 t6)), (11, (.ptr 1 0 0 0)), (13, (ls eRExpr p2)), (14, (i64 (Sh.len p2))), (15, (i64 t6)), (21, (ls eI p1)), (24, (.iptr ((eS eI) c17) 0))], [⟨0, 97, 2, [(eRSignatures p0)]⟩, ⟨0, 50, 3, [[(i64 c15.op), (i64 c15.num), (ls eRExpr c15.kids)]]⟩]⟩ := (hA20 _ _ _).2 (by
   refine AX.all [0, 5, 8] rfl (by kernel_rfl) (by decide) ⟨?_, ?_, ?_, trivial⟩
   ·refine AXs.of (i := 0) rfl rfl (by rfl) ?_
    refine zq tb rfl ?_
    refine AO.done ⟨rfl, ?_⟩
    exact AX.weaken (Wk.to (L := [(1, (ls eI p1)), (3, (ls (eS eI) p3)), (4, (.ptr 0 0 0 0)), (9, (i64 result5)), (10, (i64 t6)), (11, (.ptr 1 0 0 0)), (13, (ls eRExpr p2)), (14, (i64 (Sh.len p2))), (15, (i64 t6)), (20, (.agg (eRSignatures p0))), (21, (ls eI p1)), (24, (.iptr ((eS eI) c17) 0))]) ⟨.rfl, .rfl, .rfl, .rfl, .rfl, .rfl, .rfl, .rfl, .rfl, .rfl, .rfl, .rfl, trivial⟩) (AX.lst (by kernel_rfl) ((hA20 _ _ _).1 A20_01234)) rfl
   ·refine AXs.of (i := 5) rfl rfl (by rfl) ?_
    refine zq tb rfl ?_
    refine AO.done ⟨rfl, ?_⟩
    exact AX.weaken (Wk.to (L := [(1, (ls eI p1)), (3, (ls (eS eI) p3)), (4, (.ptr 0 0 0 0)), (9, (i64 result5)), (10, (i64 t6)), (11, (.ptr 1 0 0 0)), (13, (ls eRExpr p2)), (14, (i64 (Sh.len p2))), (15, (i64 t6)), (21, (ls eI p1)), (25, (ls eI c17))]) ⟨.rfl, .rfl, .rfl, .rfl, .rfl, .rfl, .rfl, .rfl, .rfl, .rfl, .rfl, trivial⟩) (AX.lst (by kernel_rfl) ((hA20 _ _ _).1 A20_12345)) rfl
   ·refine AXs.of (i := 8) rfl rfl (by rfl) ?_
    refine zq tb rfl ?_
    refine AO.done ⟨rfl, ?_⟩
    exact AX.weaken (by refine Wk.trans (Wk.permk (L := [(1, (ls eI p1)), (3, (ls (eS eI) p3)), (4, (.ptr 0 0 0 0)), (9, (i64 result5)), (10, (i64 t6)), (13, (ls eRExpr p2)), (14, (i64 (Sh.len p2))), (15, (i64 t6)), (21, (ls eI p1)), (24, (.iptr ((eS eI) c17) 0)), (28, (.agg [(i64 c15.op), (i64 c15.num), (ls eRExpr c15.kids)]))]) (st' := [⟨0, 97, 2, [(eRSignatures p0)]⟩]) (st1 := [⟨0, 97, 2, [(eRSignatures p0)]⟩]) [0] rfl .nil (by decide) rfl rfl (.raw rfl rfl .nil) ⟨.rfl, .rfl, .rfl, .rfl, .rfl, .rfl, .rfl, .rfl, .rfl, .rfl, .rfl, trivial⟩) ?_; exact Wk.to (L := [(1, (ls eI p1)), (3, (ls (eS eI) p3)), (4, (.ptr 0 0 0 0)), (9, (i64 result5)), (10, (i64 t6)), (13, (ls eRExpr p2)), (14, (i64 (Sh.len p2))), (15, (i64 t6)), (21, (ls eI p1)), (24, (.iptr ((eS eI) c17) 0)), (28, (.agg [(i64 c15.op), (i64 c15.num), (ls eRExpr c15.kids)]))]) ⟨.rfl, .rfl, .rfl, .rfl, .rfl, .rfl, .rfl, .rfl, .rfl, .rfl, .rfl, trivial⟩) (AX.lst (by kernel_rfl) ((hA20 _ _ _).1 A20_12348)) rfl)
  have A20_1238 : A20 7 #[false, true, true, true, false, false, false, false, true, false, false] ⟨44, envL [(1, (ls eI p1)), (3, (ls (eS eI) p3)), (4, (.ptr 0 0 0 0)), (9, (i64 result5)), (10, (i64 t6)), (13, (ls eRExpr p2)), (14, (i64 (Sh.len p2))), (15, (i64 t6)), (21, (ls eI p1)), (22, (ls (eS eI) p3)), (23, (i64 t6)), (28, (.agg [(i64 c15.op), (i64 c15.num), (ls eRExpr c15.kids)]))], [⟨0, 97, 2, [(eRSignatures p0)]⟩]⟩ := (hA20 _ _ _).2 (by
   refine AX.all [0, 4] rfl (by kernel_rfl) (by decide) ⟨?_, ?_, trivial⟩
   ·refine AXs.of (i := 0) rfl rfl (by rfl) ?_
    refine zq tb rfl ?_
    refine AO.done ⟨rfl, ?_⟩
    exact AX.weaken (Wk.to (L := [(1, (ls eI p1)), (3, (ls (eS eI) p3)), (4, (.ptr 0 0 0 0)), (9, (i64 result5)), (10, (i64 t6)), (13, (ls eRExpr p2)), (14, (i64 (Sh.len p2))), (15, (i64 t6)), (20, (.agg (eRSignatures p0))), (21, (ls eI p1)), (22, (ls (eS eI) p3)), (23, (i64 t6)), (28, (.agg [(i64 c15.op), (i64 c15.num), (ls eRExpr c15.kids)]))]) ⟨.rfl, .rfl, .rfl, .rfl, .rfl, .rfl, .rfl, .rfl, .rfl, .rfl, .rfl, .rfl, .rfl, trivial⟩) (AX.lst (by kernel_rfl) ((hA20 _ _ _).1 A20_01238)) rfl
   ·refine AXs.of (i := 4) rfl rfl (by rfl) ?_
    refine zx ei123 gc17 rfl rfl rfl ?_
    refine AO.done ⟨rfl, ?_⟩
    exact AX.weaken (Wk.to (L := [(1, (ls eI p1)), (3, (ls (eS eI) p3)), (4, (.ptr 0 0 0 0)), (9, (i64 result5)), (10, (i64 t6)), (13, (ls eRExpr p2)), (14, (i64 (Sh.len p2))), (15, (i64 t6)), (21, (ls eI p1)), (24, (.iptr ((eS eI) c17) 0)), (28, (.agg [(i64 c15.op), (i64 c15.num), (ls eRExpr c15.kids)]))]) ⟨.rfl, .rfl, .rfl, .rfl, .rfl, .rfl, .rfl, .rfl, .rfl, .rfl, .rfl, trivial⟩) (AX.lst (by kernel_rfl) ((hA20 _ _ _).1 A20_12348)) rfl)
  have A20_123 : A20 8 #[false, true, true, true, false, false, false, false, false, false, false] ⟨44, envL [(1, (ls eI p1)), (3, (ls (eS eI) p3)), (4, (.ptr 0 0 0 0)), (9, (i64 result5)), (10, (i64 t6)), (11, (.ptr 1 0 0 0)), (13, (ls eRExpr p2)), (14, (i64 (Sh.len p2))), (15, (i64 t6)), (21, (ls eI p1)), (22, (ls (eS eI) p3)), (23, (i64 t6))], [⟨0, 97, 2, [(eRSignatures p0)]⟩, ⟨0, 50, 3, [[(i64 c15.op), (i64 c15.num), (ls eRExpr c15.kids)]]⟩]⟩ := (hA20 _ _ _).2 (by
   refine AX.all [0, 4, 8] rfl (by kernel_rfl) (by decide) ⟨?_, ?_, ?_, trivial⟩
   ·refine AXs.of (i := 0) rfl rfl (by rfl) ?_
    refine zq tb rfl ?_
    refine AO.done ⟨rfl, ?_⟩
    exact AX.weaken (Wk.to (L := [(1, (ls eI p1)), (3, (ls (eS eI) p3)), (4, (.ptr 0 0 0 0)), (9, (i64 result5)), (10, (i64 t6)), (11, (.ptr 1 0 0 0)), (13, (ls eRExpr p2)), (14, (i64 (Sh.len p2))), (15, (i64 t6)), (20, (.agg (eRSignatures p0))), (21, (ls eI p1)), (22, (ls (eS eI) p3)), (23, (i64 t6))]) ⟨.rfl, .rfl, .rfl, .rfl, .rfl, .rfl, .rfl, .rfl, .rfl, .rfl, .rfl, .rfl, .rfl, trivial⟩) (AX.lst (by kernel_rfl) ((hA20 _ _ _).1 A20_0123)) rfl
   ·refine AXs.of (i := 4) rfl rfl (by rfl) ?_
    refine zx ei123 gc17 rfl rfl rfl ?_
    refine AO.done ⟨rfl, ?_⟩
    exact AX.weaken (Wk.to (L := [(1, (ls eI p1)), (3, (ls (eS eI) p3)), (4, (.ptr 0 0 0 0)), (9, (i64 result5)), (10, (i64 t6)), (11, (.ptr 1 0 0 0)), (13, (ls eRExpr p2)), (14, (i64 (Sh.len p2))), (15, (i64 t6)), (21, (ls eI p1)), (24, (.iptr ((eS eI) c17) 0))]) ⟨.rfl, .rfl, .rfl, .rfl, .rfl, .rfl, .rfl, .rfl, .rfl, .rfl, .rfl, trivial⟩) (AX.lst (by kernel_rfl) ((hA20 _ _ _).1 A20_1234)) rfl
   ·refine AXs.of (i := 8) rfl rfl (by rfl) ?_
    refine zq tb rfl ?_
    refine AO.done ⟨rfl, ?_⟩
    exact AX.weaken (by refine Wk.trans (Wk.permk (L := [(1, (ls eI p1)), (3, (ls (eS eI) p3)), (4, (.ptr 0 0 0 0)), (9, (i64 result5)), (10, (i64 t6)), (13, (ls eRExpr p2)), (14, (i64 (Sh.len p2))), (15, (i64 t6)), (21, (ls eI p1)), (22, (ls (eS eI) p3)), (23, (i64 t6)), (28, (.agg [(i64 c15.op), (i64 c15.num), (ls eRExpr c15.kids)]))]) (st' := [⟨0, 97, 2, [(eRSignatures p0)]⟩]) (st1 := [⟨0, 97, 2, [(eRSignatures p0)]⟩]) [0] rfl .nil (by decide) rfl rfl (.raw rfl rfl .nil) ⟨.rfl, .rfl, .rfl, .rfl, .rfl, .rfl, .rfl, .rfl, .rfl, .rfl, .rfl, .rfl, trivial⟩) ?_; exact Wk.to (L := [(1, (ls eI p1)), (3, (ls (eS eI) p3)), (4, (.ptr 0 0 0 0)), (9, (i64 result5)), (10, (i64 t6)), (13, (ls eRExpr p2)), (14, (i64 (Sh.len p2))), (15, (i64 t6)), (21, (ls eI p1)), (22, (ls (eS eI) p3)), (23, (i64 t6)), (28, (.agg [(i64 c15.op), (i64 c15.num), (ls eRExpr c15.kids)]))]) ⟨.rfl, .rfl, .rfl, .rfl, .rfl, .rfl, .rfl, .rfl, .rfl, .rfl, .rfl, .rfl, trivial⟩) (AX.lst (by kernel_rfl) ((hA20 _ _ _).1 A20_1238)) rfl)
  have A20_12 : A20 9 #[false, true, true, false, false, false, false, false, false, false, false] ⟨44, envL [(1, (ls eI p1)), (3, (ls (eS eI) p3)), (4, (.ptr 0 0 0 0)), (9, (i64 result5)), (10, (i64 t6)), (11, (.ptr 1 0 0 0)), (13, (ls eRExpr p2)), (14, (i64 (Sh.len p2))), (15, (i64 t6)), (21, (ls eI p1)), (22, (ls (eS eI) p3))], [⟨0, 97, 2, [(eRSignatures p0)]⟩, ⟨0, 50, 3, [[(i64 c15.op), (i64 c15.num), (ls eRExpr c15.kids)]]⟩]⟩ := (hA20 _ _ _).2 (by
   refine AX.hoist 3 (v := (i64 t6)) rfl rfl (by kernel_rfl) (by kernel_rfl) (by kernel_rfl) rfl (hoist_mv rfl) ?_
   exact AX.weaken (Wk.to (L := [(1, (ls eI p1)), (3, (ls (eS eI) p3)), (4, (.ptr 0 0 0 0)), (9, (i64 result5)), (10, (i64 t6)), (11, (.ptr 1 0 0 0)), (13, (ls eRExpr p2)), (14, (i64 (Sh.len p2))), (15, (i64 t6)), (21, (ls eI p1)), (22, (ls (eS eI) p3)), (23, (i64 t6))]) ⟨.rfl, .rfl, .rfl, .rfl, .rfl, .rfl, .rfl, .rfl, .rfl, .rfl, .rfl, .rfl, trivial⟩) (AX.lst (by kernel_rfl) ((hA20 _ _ _).1 A20_123)) rfl)
  have A20_1 : A20 10 #[false, true, false, false, false, false, false, false, false, false, false] ⟨44, envL [(1, (ls eI p1)), (3, (ls (eS eI) p3)), (4, (.ptr 0 0 0 0)), (9, (i64 result5)), (10, (i64 t6)), (11, (.ptr 1 0 0 0)), (13, (ls eRExpr p2)), (14, (i64 (Sh.len p2))), (15, (i64 t6)), (21, (ls eI p1))], [⟨0, 97, 2, [(eRSignatures p0)]⟩, ⟨0, 50, 3, [[(i64 c15.op), (i64 c15.num), (ls eRExpr c15.kids)]]⟩]⟩ := (hA20 _ _ _).2 (by
   refine AX.hoist 2 (v := (ls (eS eI) p3)) rfl rfl (by kernel_rfl) (by kernel_rfl) (by kernel_rfl) rfl (hoist_mv rfl) ?_
   exact AX.weaken (Wk.to (L := [(1, (ls eI p1)), (3, (ls (eS eI) p3)), (4, (.ptr 0 0 0 0)), (9, (i64 result5)), (10, (i64 t6)), (11, (.ptr 1 0 0 0)), (13, (ls eRExpr p2)), (14, (i64 (Sh.len p2))), (15, (i64 t6)), (21, (ls eI p1)), (22, (ls (eS eI) p3))]) ⟨.rfl, .rfl, .rfl, .rfl, .rfl, .rfl, .rfl, .rfl, .rfl, .rfl, .rfl, trivial⟩) (AX.lst (by kernel_rfl) ((hA20 _ _ _).1 A20_12)) rfl)
  have A20_e : A20 11 #[false, false, false, false, false, false, false, false, false, false, false] ⟨44, envL [(1, (ls eI p1)), (3, (ls (eS eI) p3)), (4, (.ptr 0 0 0 0)), (9, (i64 result5)), (10, (i64 t6)), (11, (.ptr 1 0 0 0)), (13, (ls eRExpr p2)), (14, (i64 (Sh.len p2))), (15, (i64 t6))], [⟨0, 97, 2, [(eRSignatures p0)]⟩, ⟨0, 50, 3, [[(i64 c15.op), (i64 c15.num), (ls eRExpr c15.kids)]]⟩]⟩ := (hA20 _ _ _).2 (by
   refine AX.hoist 1 (v := (ls eI p1)) rfl rfl (by kernel_rfl) (by kernel_rfl) (by kernel_rfl) rfl (hoist_mv rfl) ?_
   exact AX.weaken (Wk.to (L := [(1, (ls eI p1)), (3, (ls (eS eI) p3)), (4, (.ptr 0 0 0 0)), (9, (i64 result5)), (10, (i64 t6)), (11, (.ptr 1 0 0 0)), (13, (ls eRExpr p2)), (14, (i64 (Sh.len p2))), (15, (i64 t6)), (21, (ls eI p1))]) ⟨.rfl, .rfl, .rfl, .rfl, .rfl, .rfl, .rfl, .rfl, .rfl, .rfl, trivial⟩) (AX.lst (by kernel_rfl) ((hA20 _ _ _).1 A20_1)) rfl)
  refine (hA20 _ _ _).2 ?_
  exact AX.weaken (Wk.to (L := [(1, (ls eI p1)), (3, (ls (eS eI) p3)), (4, (.ptr 0 0 0 0)), (9, (i64 result5)), (10, (i64 t6)), (11, (.ptr 1 0 0 0)), (13, (ls eRExpr p2)), (14, (i64 (Sh.len p2))), (15, (i64 t6))]) ⟨.rfl, .rfl, .rfl, .rfl, .rfl, .rfl, .rfl, .rfl, .rfl, trivial⟩) (AX.lst (by kernel_rfl) ((hA20 _ _ _).1 A20_e)) rfl
 ·intro b12 h1
  exact AW.exit (M8 result5 (Sh.some_eq h1).symm _ (Wk.d0 _ rfl))
theorem impl_conCount_ok {N : Nat} {p0 : (List RDecl)} {r : Int} (h0 : impl_conCount N p0 = some r) : ACalls Try.prog 119 [(ls eRDecl p0)] [] (fun v st => v = (i64 r) ∧ st = []) := by
 unfold impl_conCount at h0
 refine ai Try.func119 rfl rfl rfl rfl ?_
 iterate 2 refine zr tb rfl rfl ?_
 refine AW.seq fun K3 hK3 => ?_
 refine sr rfl fun K4 hK4 => ?_
 refine zq tb rfl ?_
 refine zl tb rfl rfl ?_
 refine zq tb rfl ?_
 refine dn hK4 rfl ?_
 obtain ⟨o8, h1, h0⟩ := Sh.bind_some h0
 have M8 : ∀ (n7 : Int), o8 = n7 → ∀ s, Wk 0 s ⟨19, envL [(3, (i64 n7))], []⟩ → K3 s := by
  intro n7 hq s hw
  subst o8
  try dsimp only at h0
  refine hK3 _ (AW.weaken hw ?_)
  refine zr tb rfl rfl ?_
  replace h0 := Sh.some_eq h0
  subst r
  exact AW.ret (xr (Wk.to (L := [(2, (i64 n7))]) ⟨.rfl, trivial⟩))
 refine AW.block (AW.loopF (σ := Int × Int) (fun n v => impl_conCount_L1 p0 n v.1 v.2 = some o8) (fun (n5, t6) => ⟨19, envL [(3, (i64 n5)), (6, (ls eRDecl p0)), (7, (i64 (Sh.len p0))), (8, (i64 t6))], []⟩) N (0, 0) h1 (Wk.tr rfl) (fun _ hv => by rw [impl_conCount_L1] at hv; cases hv) ?_)
 rintro n ⟨n5, t6⟩ h1
 try dsimp only at h1 ⊢
 rw [impl_conCount_L1] at h1
 refine zr tb rfl rfl ?_
 refine AW.seq fun K11 hK11 => ?_
 refine ci h1 rfl ?_ ?_ <;> clear h1
 ·intro b12 h1
  refine AW.skip (hK11 _ ?_)
  refine AW.seq fun K13 hK13 => ?_
  refine AW.block ?_
  refine sr rfl fun K14 hK14 => ?_
  obtain ⟨c15, gc15, h1⟩ := Sh.bind_some h1
  refine zx ei28 gc15 rfl rfl rfl ?_
  refine zq tb rfl ?_
  refine ao_alloc (m := 0) (st' := [⟨0, 80, 3, [[(i64 0), (i64 0), .zc]]⟩]) go0 zi80 rfl rfl ?_
  refine ao_str (st' := [⟨0, 80, 3, [(eRDecl c15)]⟩]) go0 ti80 rfl rfl rfl rfl rfl rfl (show 0 + 3 ≤ 3 by decide) rfl ?_
  refine dn hK14 rfl ?_
  refine AW.regionO (by rfl) ?_
  refine zm tb 3 rfl ?_
  refine zl tb rfl rfl ?_
  refine zm tb 2 rfl ?_
  refine dn hK13 rfl ?_
  refine AW.regionO (by rfl) ?_
  refine zm tb 2 rfl ?_
  exact AO.done (xi (Sh.w (n5 + (Sh.len c15.cons)), Sh.w (t6 + 1)) h1 (Wk.d0 _ rfl))
 ·intro b12 h1
  exact AW.exit (M8 n5 (Sh.some_eq h1).symm _ (Wk.tr rfl))
theorem impl_consOf_ok {N : Nat} {p0 : (List RDecl)} {p1 : Int} {r : (List Int)} (h0 : impl_consOf N p0 p1 = some r) : ACalls Try.prog 93 [(ls eRDecl p0), (i64 p1)] [] (fun v st => v = (ow 0 0 r) ∧ st = [(ro 0 3 1 eI r)]) := by
 unfold impl_consOf at h0
 refine ai Try.func93 rfl rfl rfl rfl ?_
 refine zr tb rfl rfl ?_
 refine AW.seq fun K2 hK2 => ?_
 refine AW.seq fun K3 hK3 => ?_
 obtain ⟨o5, h1, h0⟩ := Sh.bind_some h0
 have M5 : ∀ (t4 : Bool), o5 = t4 → ∀ s, Wk 0 s ⟨39, envL [(0, (ls eRDecl p0)), (1, (i64 p1)), (15, (.bool t4))], []⟩ → K3 s := by
  intro t4 hq s hw
  subst o5
  try dsimp only at h0
  refine hK3 _ (AW.weaken hw ?_)
  refine ci h0 rfl ?_ ?_ <;> clear h0
  ·intro b6 h0
   refine zr tb rfl rfl ?_
   replace h0 := Sh.some_eq h0
   subst r
   exact AW.ret (Exists.intro _ (And.intro (((Wk.adopt (t := 4) rfl 3 (size := 1) (by decide)).trans (Wk.to (L := [(4, (.own 0 0 (List.length ([] : List Int))))]) ⟨.rfl, trivial⟩)).trans (Wk.to (L := [(4, (.own 0 0 (List.length ([] : List Int))))]) ⟨.rfl, trivial⟩)) (And.intro rfl rfl)))
  ·intro b6 h0
   refine AW.skip (hK2 _ ?_)
   refine sr rfl fun K8 hK8 => ?_
   refine zm tb 3 rfl ?_
   obtain ⟨l9, gl9, h0⟩ := Sh.bind_some h0
   refine ao_sls (i := 0) (j := Sh.w (p1 - 1)) go0 ei28 rfl rfl rfl (fun _ => rfl) gl9 ?_
   obtain ⟨q10, gq10, h0⟩ := Sh.bind_some h0
   refine zc hb119 (impl_conCount_ok gq10) rfl rfl rfl ?_
   refine zq tb rfl ?_
   refine dn hK8 rfl ?_
   refine zr tb rfl rfl ?_
   refine AW.seq fun K12 hK12 => ?_
   refine sr rfl fun K13 hK13 => ?_
   refine zm tb 3 rfl ?_
   obtain ⟨c14, gc14, h0⟩ := Sh.bind_some h0
   refine zx ei28 gc14 rfl rfl rfl ?_
   refine zm tb 2 rfl ?_
   refine zl tb rfl rfl ?_
   refine zq tb rfl ?_
   refine dn hK13 rfl ?_
   obtain ⟨o18, h1, h0⟩ := Sh.bind_some h0
   have M18 : ∀ (l17 : (List Int)), o18 = l17 → ∀ s, Wk 0 s ⟨39, envL [(6, (ow 0 0 l17))], [(ro 0 3 1 eI l17)]⟩ → K12 s := by
    intro l17 hq s hw
    subst o18
    try dsimp only at h0
    refine hK12 _ (AW.weaken hw ?_)
    refine zr tb rfl rfl ?_
    replace h0 := Sh.some_eq h0
    subst r
    exact AW.ret (xr (Wk.to (L := [(4, (ow 0 0 l17))]) ⟨.rfl, trivial⟩))
   refine AW.block (AW.loopF (σ := Int × (List Int)) (fun n v => impl_consOf_L1 c14 q10 n v.1 v.2 = some o18) (fun (t15, l16) => ⟨39, envL [(5, (i64 q10)), (6, (ow 0 0 l16)), (27, (i64 (Sh.len c14.cons))), (28, (i64 t15))], [(ro 0 3 1 eI l16)]⟩) N (0, []) h1 ((Wk.adopt (t := 6) rfl 3 (size := 1) (by decide)).trans (Wk.to (L := [(5, (i64 q10)), (6, (.own 0 0 (List.length ([] : List Int)))), (27, (i64 (Sh.len c14.cons))), (28, (i64 0))]) ⟨.rfl, .rfl, .rfl, .rfl, trivial⟩)) (fun _ hv => by rw [impl_consOf_L1] at hv; cases hv) ?_)
   rintro n ⟨t15, l16⟩ h1
   try dsimp only at h1 ⊢
   rw [impl_consOf_L1] at h1
   refine zr tb rfl rfl ?_
   refine AW.seq fun K21 hK21 => ?_
   refine ci h1 rfl ?_ ?_ <;> clear h1
   ·intro b22 h1
    refine AW.skip (hK21 _ ?_)
    refine AW.seq fun K23 hK23 => ?_
    refine AW.block ?_
    refine zr tb rfl rfl ?_
    refine AW.regionO (by rfl) ?_
    refine zm tb 4 rfl ?_
    refine ao_bs (m := 1) (st' := [(ro 0 3 1 eI l16), (ro 0 3 1 eI [Sh.w (q10 + t15)])]) (l := [Sh.w (q10 + t15)]) (enc := eI) go0 ei40 (by decide) rfl rfl rfl rfl rfl rfl ?_
    obtain ⟨l25, gl25, h1⟩ := Sh.bind_some h1
    refine ao_apo (st' := [(ro 1 3 1 eI l25), (ro 0 3 1 eI [Sh.w (q10 + t15)])]) (l2 := [Sh.w (q10 + t15)]) go0 ei40 rfl rfl rfl rfl (el_o rfl rfl) (fun _ => rfl) gl25 rfl ?_
    refine zq tb rfl ?_
    refine dn hK23 rfl ?_
    refine AW.regionO (by rfl) ?_
    refine zm tb 2 rfl ?_
    exact AO.done (xi (Sh.w (t15 + 1), l25) h1 (by refine Wk.trans (Wk.rg (L := [(5, (i64 q10)), (6, (ow 0 0 l25)), (27, (i64 (Sh.len c14.cons))), (28, (i64 (Sh.w (t15 + 1))))]) (st' := [(ro 0 3 1 eI l25), (ro 0 3 1 eI [Sh.w (q10 + t15)])]) (.pure (pure_map fun _ => rfl) (.pure (pure_map fun _ => rfl) .nil)) ⟨.rfl, .rfl, .rfl, .rfl, trivial⟩) ?_; exact Wk.permk (L := [(5, (i64 q10)), (6, (ow 0 0 l25)), (27, (i64 (Sh.len c14.cons))), (28, (i64 (Sh.w (t15 + 1))))]) (st' := [(ro 0 3 1 eI l25)]) (st1 := [(ro 0 3 1 eI l25)]) [0] rfl .nil (by decide) rfl rfl (.pure (pure_map fun _ => rfl) .nil) ⟨.rfl, .rfl, .rfl, .rfl, trivial⟩))
   ·intro b22 h1
    exact AW.exit (M18 l16 (Sh.some_eq h1).symm _ (Wk.tr rfl))
 refine AW.regionO (by rfl) ?_
 refine zm tb 3 rfl ?_
 rcases Sh.ite_some h1 with ⟨b26, h1⟩ | ⟨b26, h1⟩
 ·refine zs b26 rfl ?_
  iterate 3 refine zs b26 rfl ?_
  refine zt b26 rfl ?_
  exact AO.done (M5 true (Sh.some_eq h1).symm _ (Wk.tr rfl))
 ·refine zg tb b26 rfl ?_
  refine zg tb b26 rfl ?_
  refine ao_q (v := (i64 (Sh.len p0))) (go1 rfl rfl b26) rfl (aq_lens sl28 rfl) ?_
  refine zg tb b26 rfl ?_
  refine zf b26 rfl ?_
  exact AO.done (M5 (decide ((Sh.len p0) < p1)) (Sh.some_eq h1).symm _ (Wk.tr rfl))
theorem impl_conAt_ok {N : Nat} {p0 : (List RDecl)} {p1 : Int} {r : Int × RCon} (h0 : impl_conAt N p0 p1 = some r) : ACalls Try.prog 120 [(ls eRDecl p0), (i64 p1)] [] (fun v st => v = (.tup [(i64 r.1), (.agg (eRCon r.2))]) ∧ st = []) := by
 unfold impl_conAt at h0
 refine ACalls.flat rfl ?_
 refine ai Try.func120 rfl rfl rfl rfl ?_
 refine sr rfl fun K1 hK1 => ?_
 refine zq tb rfl ?_
 refine ao_alloc (m := 0) (st' := [⟨0, 130, 1, [[.zc]]⟩]) go0 zi130 rfl rfl ?_
 refine dn hK1 rfl ?_
 refine AW.seq fun K2 hK2 => ?_
 refine sr rfl fun K3 hK3 => ?_
 refine zq tb rfl ?_
 refine zl tb rfl rfl ?_
 refine zq tb rfl ?_
 refine dn hK3 rfl ?_
 obtain ⟨o6, h1, h0⟩ := Sh.cont_some h0
 have M6 : ∀ (_ : Unit), o6 = Sum.inr () → ∀ s, Wk 0 s ⟨38, envL [(5, (.ptr 0 0 0 0))], [⟨0, 130, 1, [[.zc]]⟩]⟩ → K2 s := by
  intro _ hq s hw
  subst o6
  try dsimp only at h0
  refine hK2 _ (AW.weaken hw ?_)
  refine sr rfl fun K7 hK7 => ?_
  refine zz (.agg [.zc]) (aq_bd ai130 bi130 zi130 rfl rfl) rfl ?_
  refine zq tb rfl ?_
  refine ao_str (st' := [⟨0, 130, 1, [[.zc]]⟩]) go0 ti130 rfl rfl rfl rfl rfl rfl (show 0 + 1 ≤ 1 by decide) rfl ?_
  refine dn hK7 rfl ?_
  replace h0 := Sh.some_eq h0
  subst r
  exact AW.ret (Exists.intro _ (And.intro ((Wk.cellLe (id := 0) (cs := [.zc]) (cs' := [(.sl (List.map eI []))]) (st' := [⟨0, 130, 1, [[(.sl (List.map eI []))]]⟩]) rfl ⟨le.zc, trivial⟩ rfl rfl).trans (Wk.to (L := [(4, (i64 (-1))), (5, (.ptr 0 0 0 0))]) ⟨.rfl, .rfl, trivial⟩)) (aq_ldpa (x := .tmp 5) (off := 0) (cs := [(.sl (List.map eI []))]) (vs := [(.sl (List.map eI []))]) ti130 rfl rfl rfl (show 0 + 1 ≤ 1 by decide) rfl _ rfl)))
 refine AW.block (AW.loopF (σ := Int × Int) (fun n v => impl_conAt_L1 p0 n v.1 v.2 = some o6) (fun (c4, t5) => ⟨38, envL [(1, (i64 c4)), (5, (.ptr 0 0 0 0)), (8, (ls eRDecl p0)), (9, (i64 (Sh.len p0))), (10, (i64 t5))], [⟨0, 130, 1, [[.zc]]⟩]⟩) N (p1, 0) h1 (Wk.tr rfl) (fun _ hv => by rw [impl_conAt_L1] at hv; cases hv) ?_)
 rintro n ⟨c4, t5⟩ h1
 try dsimp only at h1 ⊢
 rw [impl_conAt_L1] at h1
 refine zr tb rfl rfl ?_
 refine AW.seq fun K9 hK9 => ?_
 refine ci h1 rfl ?_ ?_ <;> clear h1
 ·intro b10 h1
  refine AW.skip (hK9 _ ?_)
  refine AW.seq fun K11 hK11 => ?_
  refine AW.block ?_
  refine sr rfl fun K12 hK12 => ?_
  refine zq tb rfl ?_
  obtain ⟨c13, gc13, h1⟩ := Sh.bind_some h1
  refine zx ei28 gc13 rfl rfl rfl ?_
  refine zq tb rfl ?_
  refine ao_alloc (m := 1) (st' := [⟨0, 130, 1, [[.zc]]⟩, ⟨0, 80, 3, [[(i64 0), (i64 0), .zc]]⟩]) go0 zi80 rfl rfl ?_
  refine zq tb rfl ?_
  refine ao_str (st' := [⟨0, 130, 1, [[.zc]]⟩, ⟨0, 80, 3, [(eRDecl c13)]⟩]) go0 ti80 rfl rfl rfl rfl rfl rfl (show 0 + 3 ≤ 3 by decide) rfl ?_
  refine dn hK12 rfl ?_
  refine AW.seq fun K14 hK14 => ?_
  refine AW.seq fun K15 hK15 => ?_
  obtain ⟨o17, h2, h1⟩ := Sh.bind_some h1
  have M17 : ∀ (t16 : Bool), o17 = t16 → ∀ s, Wk 0 s ⟨38, envL [(1, (i64 c4)), (5, (.ptr 0 0 0 0)), (6, (i64 t5)), (7, (.ptr 1 0 0 0)), (8, (ls eRDecl p0)), (9, (i64 (Sh.len p0))), (10, (i64 t5)), (23, (.bool t16))], [⟨0, 130, 1, [[.zc]]⟩, ⟨0, 80, 3, [(eRDecl c13)]⟩]⟩ → K15 s := by
   intro t16 hq s hw
   subst o17
   try dsimp only at h1
   refine hK15 _ (AW.weaken hw ?_)
   refine ci h1 rfl ?_ ?_ <;> clear h1
   ·intro b18 h1
    refine AW.seq fun K19 hK19 => ?_
    refine AW.drawTailO 8 (by kernel_rfl) (by kernel_rfl) (by rfl) ?_
    iterate 5 refine yq tb rfl ?_
    obtain ⟨c20, gc20, h1⟩ := Sh.bind_some h1
    refine yx ei78 gc20 rfl rfl rfl ?_
    iterate 2 refine yq tb rfl ?_
    refine d_done ?_
    refine ao_str (st' := [⟨0, 130, 1, [(eRCon c20)]⟩, ⟨0, 80, 3, [(eRDecl c13)]⟩]) go0 ti130 rfl rfl rfl rfl rfl rfl (show 0 + 1 ≤ 1 by decide) rfl ?_
    refine dn hK19 rfl ?_
    replace h1 := Sh.some_eq h1
    subst o6
    try dsimp only [id] at h0
    replace h0 := Sh.some_eq h0
    subst r
    exact AW.ret (Exists.intro _ (And.intro ((Wk.permk (L := [(4, (i64 (Sh.w (t5 + 1)))), (5, (.ptr 0 0 0 0))]) (st' := [⟨0, 130, 1, [(eRCon c20)]⟩]) (st1 := [⟨0, 130, 1, [(eRCon c20)]⟩]) [0] rfl .nil (by decide) rfl rfl (.raw rfl rfl .nil) ⟨.rfl, .rfl, trivial⟩).trans (Wk.to (L := [(4, (i64 (Sh.w (t5 + 1)))), (5, (.ptr 0 0 0 0))]) ⟨.rfl, .rfl, trivial⟩)) (aq_ldpa (x := .tmp 5) (off := 0) (cs := (eRCon c20)) (vs := (eRCon c20)) ti130 rfl rfl rfl (show 0 + 1 ≤ 1 by decide) rfl _ rfl)))
   ·intro b18 h1
    refine AW.skip (hK14 _ ?_)
    refine AW.regionO (by rfl) ?_
    refine zm tb 3 rfl ?_
    refine zl tb rfl rfl ?_
    refine zm tb 2 rfl ?_
    refine dn hK11 rfl ?_
    refine AW.regionO (by rfl) ?_
    refine zm tb 2 rfl ?_
    exact AO.done (xi (Sh.w (c4 - (Sh.len c13.cons)), Sh.w (t5 + 1)) h1 (Wk.permk (L := [(1, (i64 (Sh.w (c4 - (Sh.len c13.cons))))), (5, (.ptr 0 0 0 0)), (8, (ls eRDecl p0)), (9, (i64 (Sh.len p0))), (10, (i64 (Sh.w (t5 + 1))))]) (st' := [⟨0, 130, 1, [[.zc]]⟩]) (st1 := [⟨0, 130, 1, [[.zc]]⟩]) [0] rfl .nil (by decide) rfl rfl (.raw rfl rfl .nil) ⟨.rfl, .rfl, .rfl, .rfl, .rfl, trivial⟩))
  refine AW.regionO (by rfl) ?_
  refine zm tb 3 rfl ?_
  rcases Sh.ite_some h2 with ⟨b21, h2⟩ | ⟨b21, h2⟩
  ·refine zg tb b21 rfl ?_
   iterate 2 refine zg tb b21 rfl ?_
   refine ao_q (v := (i64 (Sh.len c13.cons))) (go1 rfl rfl b21) rfl (aq_lens sl78 rfl) ?_
   refine zg tb b21 rfl ?_
   refine zt b21 rfl ?_
   exact AO.done (M17 (decide (c4 < (Sh.len c13.cons))) (Sh.some_eq h2).symm _ (Wk.tr rfl))
  ·refine zs b21 rfl ?_
   iterate 4 refine zs b21 rfl ?_
   refine zf b21 rfl ?_
   exact AO.done (M17 false (Sh.some_eq h2).symm _ (Wk.tr rfl))
 ·intro b10 h1
  exact AW.exit (M6 () (Sh.some_eq h1).symm _ (Wk.tr rfl))
theorem impl_fieldsOf_ok {N : Nat} {p0 : (List RDecl)} {p1 : Int} {r : (List Int)} (h0 : impl_fieldsOf N p0 p1 = some r) : ACalls Try.prog 94 [(ls eRDecl p0), (i64 p1)] [] (fun v st => v = (ls eI r) ∧ st = []) := by
 unfold impl_fieldsOf at h0
 refine ai Try.func94 rfl rfl rfl rfl ?_
 refine zr tb rfl rfl ?_
 refine sr rfl fun K2 hK2 => ?_
 refine zm tb 2 rfl ?_
 obtain ⟨q3, gq3, h0⟩ := Sh.bind_some h0
 refine zc (v' := (.tup [(i64 q3.1), (.agg (eRCon q3.2))])) hb120 (impl_conAt_ok gq3) rfl rfl rfl ?_
 refine zm tb 3 rfl ?_
 refine ao_alloc (m := 0) (st' := [⟨0, 130, 1, [[.zc]]⟩]) go0 zi130 rfl rfl ?_
 refine zq tb rfl ?_
 refine ao_str (st' := [⟨0, 130, 1, [(eRCon q3.2)]⟩]) go0 ti130 rfl rfl rfl rfl rfl rfl (show 0 + 1 ≤ 1 by decide) rfl ?_
 refine dn hK2 rfl ?_
 refine zr tb rfl rfl ?_
 replace h0 := Sh.some_eq h0
 subst r
 exact AW.ret (xr (Wk.d0 [(4, (ls eI q3.2.fields))] rfl))
theorem impl_arrowAt_ok {p0 : (List RDecl)} {p1 : Int} {r : RDecl × Bool} (h0 : impl_arrowAt p0 p1 = some r) : ACalls Try.prog 121 [(ls eRDecl p0), (i64 p1)] [] (fun v st => v = (.tup [(.agg (eRDecl r.1)), (.bool r.2)]) ∧ st = []) := by
 unfold impl_arrowAt at h0
 refine ACalls.flat rfl ?_
 refine ai Try.func121 rfl rfl rfl rfl ?_
 refine sr rfl fun K1 hK1 => ?_
 refine ao_alloc (m := 0) (st' := [⟨0, 80, 3, [[(i64 0), (i64 0), .zc]]⟩]) go0 zi80 rfl rfl ?_
 refine zq tb rfl ?_
 refine dn hK1 rfl ?_
 refine AW.seq fun K2 hK2 => ?_
 refine AW.seq fun K3 hK3 => ?_
 obtain ⟨o5, h1, h0⟩ := Sh.bind_some h0
 have M5 : ∀ (t4 : Bool), o5 = t4 → ∀ s, Wk 0 s ⟨30, envL [(0, (ls eRDecl p0)), (1, (i64 p1)), (4, (.ptr 0 0 0 0)), (23, (.bool t4))], [⟨0, 80, 3, [[(i64 0), (i64 0), .zc]]⟩]⟩ → K3 s := by
  intro t4 hq s hw
  subst o5
  try dsimp only at h0
  refine hK3 _ (AW.weaken hw ?_)
  refine ci h0 rfl ?_ ?_ <;> clear h0
  ·intro b6 h0
   refine sr rfl fun K7 hK7 => ?_
   refine zz (.agg [(i64 0), (i64 0), .zc]) (aq_bd ai80 bi80 zi80 rfl rfl) rfl ?_
   refine ao_str (st' := [⟨0, 80, 3, [[(i64 0), (i64 0), .zc]]⟩]) go0 ti80 rfl rfl rfl rfl rfl rfl (show 0 + 3 ≤ 3 by decide) rfl ?_
   refine zq tb rfl ?_
   refine dn hK7 rfl ?_
   replace h0 := Sh.some_eq h0
   subst r
   exact AW.ret (Exists.intro _ (And.intro ((Wk.cellLe (id := 0) (cs := [(i64 0), (i64 0), .zc]) (cs' := [(i64 0), (i64 0), (.sl (List.map eRCon []))]) (st' := [⟨0, 80, 3, [[(i64 0), (i64 0), (.sl (List.map eRCon []))]]⟩]) rfl ⟨le.rfl, le.rfl, le.zc, trivial⟩ rfl rfl).trans (Wk.to (L := [(4, (.ptr 0 0 0 0)), (5, (.bool false))]) ⟨.rfl, .rfl, trivial⟩)) (aq_ldpa (x := .tmp 4) (off := 0) (cs := [(i64 0), (i64 0), (.sl (List.map eRCon []))]) (vs := [(i64 0), (i64 0), (.sl (List.map eRCon []))]) ti80 rfl rfl rfl (show 0 + 3 ≤ 3 by decide) rfl _ rfl)))
  ·intro b6 h0
   refine AW.skip (hK2 _ ?_)
   refine sr rfl fun K8 hK8 => ?_
   refine zm tb 3 rfl ?_
   obtain ⟨c9, gc9, h0⟩ := Sh.bind_some h0
   refine zx ei28 gc9 rfl rfl rfl ?_
   refine zq tb rfl ?_
   refine ao_str (st' := [⟨0, 80, 3, [(eRDecl c9)]⟩]) go0 ti80 rfl rfl rfl rfl rfl rfl (show 0 + 3 ≤ 3 by decide) rfl ?_
   refine zq tb rfl ?_
   refine dn hK8 rfl ?_
   replace h0 := Sh.some_eq h0
   subst r
   exact AW.ret (Exists.intro _ (And.intro (Wk.to (L := [(4, (.ptr 0 0 0 0)), (5, (.bool true))]) ⟨.rfl, .rfl, trivial⟩) (aq_ldpa (x := .tmp 4) (off := 0) (cs := (eRDecl c9)) (vs := (eRDecl c9)) ti80 rfl rfl rfl (show 0 + 3 ≤ 3 by decide) rfl _ rfl)))
 refine AW.regionO (by rfl) ?_
 refine zm tb 3 rfl ?_
 rcases Sh.ite_some h1 with ⟨b10, h1⟩ | ⟨b10, h1⟩
 ·refine zs b10 rfl ?_
  iterate 3 refine zs b10 rfl ?_
  refine zt b10 rfl ?_
  refine zq tb rfl ?_
  iterate 8 refine zs rfl rfl ?_
  refine zt rfl rfl ?_
  exact AO.done (M5 true (Sh.some_eq h1).symm _ (Wk.tr rfl))
 ·refine zg tb b10 rfl ?_
  refine zg tb b10 rfl ?_
  refine ao_q (v := (i64 (Sh.len p0))) (go1 rfl rfl b10) rfl (aq_lens sl28 rfl) ?_
  refine zg tb b10 rfl ?_
  refine zf b10 rfl ?_
  refine zq tb rfl ?_
  rcases Sh.ite_some h1 with ⟨b11, h1⟩ | ⟨b11, h1⟩
  ·refine zs b11 rfl ?_
   iterate 7 refine zs b11 rfl ?_
   refine zt b11 rfl ?_
   exact AO.done (M5 true (Sh.some_eq h1).symm _ (Wk.tr rfl))
  ·refine zg tb b11 rfl ?_
   iterate 2 refine zg tb b11 rfl ?_
   obtain ⟨c12, gc12, h1⟩ := Sh.bind_some h1
   refine ao_q (v := (.iptr (eRDecl c12) 0)) (go1 rfl rfl b11) rfl (aq_ixs ei28 rfl rfl gc12 rfl) ?_
   iterate 2 refine zg tb b11 rfl ?_
   refine ao_q (v := (i64 (Sh.len c12.cons))) (go1 rfl rfl b11) rfl (aq_lens sl78 rfl) ?_
   refine zg tb b11 rfl ?_
   refine zf b11 rfl ?_
   exact AO.done (M5 (decide (0 < (Sh.len c12.cons))) (Sh.some_eq h1).symm _ (Wk.tr rfl))
theorem slices_Equal_int_int_ok {N : Nat} {p0 : (List Int)} {p1 : (List Int)} {r : Bool} (h0 : slices_Equal_int_int N p0 p1 = some r) : ACalls Try.prog 122 [(ls eI p0), (ls eI p1)] [] (fun v st => v = (.bool r) ∧ st = []) := by
 unfold slices_Equal_int_int at h0
 refine ai Try.func122 rfl rfl rfl rfl ?_
 refine zr tb rfl rfl ?_
 refine AW.seq fun K2 hK2 => ?_
 refine sr rfl fun K3 hK3 => ?_
 refine zq tb rfl ?_
 refine zl tb rfl rfl ?_
 refine zq tb rfl ?_
 refine zl tb rfl rfl ?_
 refine zq tb rfl ?_
 refine dn hK3 rfl ?_
 refine ci h0 rfl ?_ ?_ <;> clear h0
 ·intro b4 h0
  have b5 : decide ((Sh.len p0) = (Sh.len p1)) = false := by simpa using b4
  refine zr tb rfl rfl ?_
  replace h0 := Sh.some_eq h0
  subst r
  exact AW.ret (xr (Wk.to (L := [(4, (.bool false))]) ⟨.rfl, trivial⟩))
 ·intro b4 h0
  have b7 : decide ((Sh.len p0) = (Sh.len p1)) = true := by simpa using b4
  refine AW.skip (hK2 _ ?_)
  refine AW.seq fun K8 hK8 => ?_
  refine sr rfl fun K9 hK9 => ?_
  refine zq tb rfl ?_
  refine zl tb rfl rfl ?_
  refine zq tb rfl ?_
  refine dn hK9 rfl ?_
  obtain ⟨o11, h1, h0⟩ := Sh.cont_some h0
  have M11 : ∀ (_ : Unit), o11 = Sum.inr () → ∀ s, Wk 0 s ⟨26, envL [], []⟩ → K8 s := by
   intro _ hq s hw
   subst o11
   try dsimp only at h0
   refine hK8 _ (AW.weaken hw ?_)
   refine zr tb rfl rfl ?_
   replace h0 := Sh.some_eq h0
   subst r
   exact AW.ret (xr (Wk.to (L := [(4, (.bool true))]) ⟨.rfl, trivial⟩))
  refine AW.block (AW.loopF (σ := Int) (fun n v => slices_Equal_int_int_L1 p0 p1 n v = some o11) (fun t10 => ⟨26, envL [(0, (ls eI p0)), (1, (ls eI p1)), (12, (i64 (Sh.len p0))), (13, (i64 t10))], []⟩) N 0 h1 (Wk.tr rfl) (fun _ hv => by rw [slices_Equal_int_int_L1] at hv; cases hv) ?_)
  rintro n t10 h1
  try dsimp only at h1 ⊢
  rw [slices_Equal_int_int_L1] at h1
  refine zr tb rfl rfl ?_
  refine AW.seq fun K14 hK14 => ?_
  refine ci h1 rfl ?_ ?_ <;> clear h1
  ·intro b15 h1
   refine AW.skip (hK14 _ ?_)
   refine AW.seq fun K16 hK16 => ?_
   refine AW.block ?_
   refine zr tb rfl rfl ?_
   refine AW.seq fun K18 hK18 => ?_
   refine AW.draw (by kernel_rfl) (by kernel_rfl) (by rfl) ?_
   iterate 2 refine yq tb rfl ?_
   obtain ⟨c19, gc19, h1⟩ := Sh.bind_some h1
   refine yx ei40 gc19 rfl rfl rfl ?_
   iterate 3 refine yq tb rfl ?_
   obtain ⟨c20, gc20, h1⟩ := Sh.bind_some h1
   refine yx ei40 gc20 rfl rfl rfl ?_
   iterate 2 refine yq tb rfl ?_
   refine d_done (hK18 _ ?_)
   refine ci h1 rfl ?_ ?_ <;> clear h1
   ·intro b21 h1
    have b22 : decide (c19 = c20) = false := by simpa using b21
    refine zr tb rfl rfl ?_
    replace h1 := Sh.some_eq h1
    subst o11
    try dsimp only [id] at h0
    replace h0 := Sh.some_eq h0
    subst r
    exact AW.ret (xr (Wk.to (L := [(4, (.bool false))]) ⟨.rfl, trivial⟩))
   ·intro b21 h1
    have b24 : decide (c19 = c20) = true := by simpa using b21
    refine AW.skip (hK16 _ ?_)
    refine AW.regionO (by rfl) ?_
    refine zm tb 2 rfl ?_
    exact AO.done (xi (Sh.w (t10 + 1)) h1 (Wk.tr rfl))
  ·intro b15 h1
   exact AW.exit (M11 () (Sh.some_eq h1).symm _ (Wk.tr rfl))
theorem impl_arrowOf_ok {N : Nat} {p0 : (List RDecl)} {p1 : Int} {p2 : Int} {r : Int} (h0 : impl_arrowOf N p0 p1 p2 = some r) : ACalls Try.prog 123 [(ls eRDecl p0), (i64 p1), (i64 p2)] [] (fun v st => v = (i64 r) ∧ st = []) := by
 unfold impl_arrowOf at h0
 refine ai Try.func123 rfl rfl rfl rfl ?_
 refine zr tb rfl rfl ?_
 refine AW.seq fun K2 hK2 => ?_
 refine sr rfl fun K3 hK3 => ?_
 refine zq tb rfl ?_
 refine zl tb rfl rfl ?_
 refine zq tb rfl ?_
 refine dn hK3 rfl ?_
 obtain ⟨o5, h1, h0⟩ := Sh.cont_some h0
 have M5 : ∀ (_ : Unit), o5 = Sum.inr () → ∀ s, Wk 0 s ⟨35, envL [], []⟩ → K2 s := by
  intro _ hq s hw
  subst o5
  try dsimp only at h0
  refine hK2 _ (AW.weaken hw ?_)
  refine zr tb rfl rfl ?_
  replace h0 := Sh.some_eq h0
  subst r
  exact AW.ret (xr (Wk.to (L := [(6, (i64 (-1)))]) ⟨.rfl, trivial⟩))
 refine AW.block (AW.loopF (σ := Int) (fun n v => impl_arrowOf_L1 p0 p1 p2 n v = some o5) (fun t4 => ⟨35, envL [(1, (i64 p1)), (2, (i64 p2)), (9, (ls eRDecl p0)), (10, (i64 (Sh.len p0))), (11, (i64 t4))], []⟩) N 0 h1 (Wk.tr rfl) (fun _ hv => by rw [impl_arrowOf_L1] at hv; cases hv) ?_)
 rintro n t4 h1
 try dsimp only at h1 ⊢
 rw [impl_arrowOf_L1] at h1
 refine zr tb rfl rfl ?_
 refine AW.seq fun K8 hK8 => ?_
 refine ci h1 rfl ?_ ?_ <;> clear h1
 ·intro b9 h1
  refine AW.skip (hK8 _ ?_)
  refine AW.seq fun K10 hK10 => ?_
  refine AW.block ?_
  refine sr rfl fun K11 hK11 => ?_
  refine zq tb rfl ?_
  obtain ⟨c12, gc12, h1⟩ := Sh.bind_some h1
  refine zx ei28 gc12 rfl rfl rfl ?_
  refine zq tb rfl ?_
  refine ao_alloc (m := 0) (st' := [⟨0, 80, 3, [[(i64 0), (i64 0), .zc]]⟩]) go0 zi80 rfl rfl ?_
  refine zq tb rfl ?_
  refine ao_str (st' := [⟨0, 80, 3, [(eRDecl c12)]⟩]) go0 ti80 rfl rfl rfl rfl rfl rfl (show 0 + 3 ≤ 3 by decide) rfl ?_
  refine dn hK11 rfl ?_
  refine AW.seq fun K13 hK13 => ?_
  obtain ⟨o15, h2, h1⟩ := Sh.bind_some h1
  have M15 : ∀ (t14 : Bool), o15 = t14 → ∀ s, Wk 0 s ⟨35, envL [(1, (i64 p1)), (2, (i64 p2)), (7, (i64 t4)), (9, (ls eRDecl p0)), (10, (i64 (Sh.len p0))), (11, (i64 t4)), (31, (.bool t14))], []⟩ → K13 s := by
   intro t14 hq s hw
   subst o15
   try dsimp only at h1
   refine hK13 _ (AW.weaken hw ?_)
   refine ci h1 rfl ?_ ?_ <;> clear h1
   ·intro b16 h1
    refine zr tb rfl rfl ?_
    replace h1 := Sh.some_eq h1
    subst o5
    try dsimp only [id] at h0
    replace h0 := Sh.some_eq h0
    subst r
    exact AW.ret (xr (Wk.to (L := [(6, (i64 (Sh.w (t4 + 1))))]) ⟨.rfl, trivial⟩))
   ·intro b16 h1
    refine AW.skip (hK10 _ ?_)
    refine AW.regionO (by rfl) ?_
    refine zm tb 2 rfl ?_
    exact AO.done (xi (Sh.w (t4 + 1)) h1 (Wk.tr rfl))
  refine AW.regionO (by rfl) ?_
  refine zm tb 2 rfl ?_
  refine zl tb rfl rfl ?_
  refine zm tb 2 rfl ?_
  rcases Sh.ite_some h2 with ⟨b18, h2⟩ | ⟨b18, h2⟩
  ·refine zg tb b18 rfl ?_
   iterate 3 refine zg tb b18 rfl ?_
   refine zt b18 rfl ?_
   refine zq tb rfl ?_
   rcases Sh.ite_some h2 with ⟨b19, h2⟩ | ⟨b19, h2⟩
   ·refine zg tb b19 rfl ?_
    iterate 3 refine zg tb b19 rfl ?_
    refine zt b19 rfl ?_
    exact AO.done (M15 (decide (c12.to = p2)) (Sh.some_eq h2).symm _ (Wk.d0 _ rfl))
   ·refine zs b19 rfl ?_
    iterate 3 refine zs b19 rfl ?_
    refine zf b19 rfl ?_
    exact AO.done (M15 false (Sh.some_eq h2).symm _ (Wk.d0 _ rfl))
  ·refine zs b18 rfl ?_
   iterate 3 refine zs b18 rfl ?_
   refine zf b18 rfl ?_
   refine zq tb rfl ?_
   iterate 4 refine zs rfl rfl ?_
   refine zf rfl rfl ?_
   exact AO.done (M15 false (Sh.some_eq h2).symm _ (Wk.d0 _ rfl))
 ·intro b9 h1
  exact AW.exit (M5 () (Sh.some_eq h1).symm _ (Wk.tr rfl))
theorem impl_signatures_simpleType_ok {N : Nat} {p0 : RSignatures} {p1 : Int} {p2 : Int} {p3 : (List Int)} {r : Int × Bool} (h0 : impl_signatures_simpleType N p0 p1 p2 p3 = some r) : ACalls Try.prog 95 [(.agg (eRSignatures p0)), (i64 p1), (i64 p2), (ls eI p3)] [] (fun v st => v = (.tup [(i64 r.1), (.bool r.2)]) ∧ st = []) := by
 unfold impl_signatures_simpleType at h0
 refine ai Try.func95 rfl rfl rfl rfl ?_
 refine sr rfl fun K1 hK1 => ?_
 refine ao_box (m := 0) (st' := [⟨0, 97, 2, [(eRSignatures p0)]⟩]) go0 rfl rfl rfl rfl rfl ?_
 refine zm tb 2 rfl ?_
 refine dn hK1 rfl ?_
 refine zr tb rfl rfl ?_
 refine AW.seq fun K3 hK3 => ?_
 obtain ⟨o5, h1, h0⟩ := Sh.cont_some h0
 have M5 : ∀ (l4 : (List Int)), o5 = Sum.inr l4 → ∀ s, Wk 0 s ⟨149, envL [(2, (i64 p2)), (3, (ls eI p3)), (10, (ow 0 0 l4)), (11, (i64 0))], [(ro 0 3 1 eI l4)]⟩ → K3 s := by
  intro l4 hq s hw
  subst o5
  try dsimp only at h0
  refine hK3 _ (AW.weaken hw ?_)
  refine AW.seq fun K6 hK6 => ?_
  obtain ⟨o8, h1, h0⟩ := Sh.bind_some h0
  have M8 : ∀ (t7 : Bool), o8 = t7 → ∀ s, Wk 0 s ⟨149, envL [(8, (i64 0)), (9, (.bool t7))], []⟩ → K6 s := by
   intro t7 hq s hw
   subst o8
   try dsimp only at h0
   refine hK6 _ (AW.weaken hw ?_)
   replace h0 := Sh.some_eq h0
   subst r
   exact AW.ret (xr (Wk.to (L := [(8, (i64 0)), (9, (.bool t7))]) ⟨.rfl, .rfl, trivial⟩))
  refine AW.regionO (by rfl) ?_
  refine zm tb 4 rfl ?_
  rcases Sh.ite_some h1 with ⟨b9, h1⟩ | ⟨b9, h1⟩
  ·refine zg tb b9 rfl ?_
   refine zg tb b9 rfl ?_
   refine AO.weaken (Wk.frz (L := [(141, (i64 0)), (144, (.bool (decide (p2 = 0)))), (145, (ls eI p3)), (146, (ls eI l4))]) (st' := [⟨1, 3, 1, []⟩]) (id := 0) rfl (show 0 ≤ 0 by decide) (pure_map fun _ => rfl) ⟨.rfl, .rfl, .rfl, (.frz rfl), trivial⟩ rfl) ?_
   obtain ⟨q10, gq10, h1⟩ := Sh.bind_some h1
   refine zd b9 hb122 (slices_Equal_int_int_ok gq10) rfl rfl rfl rfl ?_
   refine zt b9 rfl ?_
   refine zm tb 2 rfl ?_
   exact AO.done (M8 q10 (Sh.some_eq h1).symm _ (Wk.d0 _ rfl))
  ·refine zs b9 rfl ?_
   iterate 2 refine zs b9 rfl ?_
   refine zf b9 rfl ?_
   refine zm tb 2 rfl ?_
   exact AO.done (M8 false (Sh.some_eq h1).symm _ (Wk.d0 _ rfl))
 refine zr tb rfl rfl ?_
 refine AW.block ?_
 refine zr tb rfl rfl ?_
 refine ci h1 rfl ?_ ?_ <;> clear h1
 ·intro b13 h1
  refine AW.seq fun K14 hK14 => ?_
  obtain ⟨o16, h2, h1⟩ := Sh.bind_some h1
  have M16 : ∀ (t15 : Bool), o16 = t15 → ∀ s, Wk 0 s ⟨149, envL [(8, (i64 0)), (9, (.bool t15))], []⟩ → K14 s := by
   intro t15 hq s hw
   subst o16
   try dsimp only at h1
   refine hK14 _ (AW.weaken hw ?_)
   replace h1 := Sh.some_eq h1
   subst o5
   try dsimp only [id] at h0
   replace h0 := Sh.some_eq h0
   subst r
   exact AW.ret (xr (Wk.to (L := [(8, (i64 0)), (9, (.bool t15))]) ⟨.rfl, .rfl, trivial⟩))
  refine AW.regionO (by rfl) ?_
  refine zm tb 3 rfl ?_
  rcases Sh.ite_some h2 with ⟨b17, h2⟩ | ⟨b17, h2⟩
  ·refine zg tb b17 rfl ?_
   refine zg tb b17 rfl ?_
   refine zt b17 rfl ?_
   refine zq tb rfl ?_
   rcases Sh.ite_some h2 with ⟨b18, h2⟩ | ⟨b18, h2⟩
   ·refine zg tb b18 rfl ?_
    refine ao_q (v := (i64 (Sh.len p3))) (go1 rfl rfl b18) rfl (aq_lens sl40 rfl) ?_
    refine zg tb b18 rfl ?_
    refine zt b18 rfl ?_
    refine zm tb 2 rfl ?_
    exact AO.done (M16 (decide ((Sh.len p3) = 0)) (Sh.some_eq h2).symm _ (Wk.d0 _ rfl))
   ·refine zs b18 rfl ?_
    iterate 2 refine zs b18 rfl ?_
    refine zf b18 rfl ?_
    refine zm tb 2 rfl ?_
    exact AO.done (M16 false (Sh.some_eq h2).symm _ (Wk.d0 _ rfl))
  ·refine zs b17 rfl ?_
   refine zs b17 rfl ?_
   refine zf b17 rfl ?_
   refine zq tb rfl ?_
   iterate 3 refine zs rfl rfl ?_
   refine zf rfl rfl ?_
   refine zm tb 2 rfl ?_
   exact AO.done (M16 false (Sh.some_eq h2).symm _ (Wk.d0 _ rfl))
 ·intro b13 h1
  refine AW.seq fun K19 hK19 => ?_
  obtain ⟨o21, h2, h1⟩ := Sh.bind_some h1
  have M21 : ∀ (t20 : Bool), o21 = t20 → ∀ s, Wk 0 s ⟨149, envL [(1, (i64 p1)), (2, (i64 p2)), (3, (ls eI p3)), (4, (.ptr 0 0 0 0)), (11, (i64 0)), (18, (i64 p1)), (32, (.bool t20))], [⟨0, 97, 2, [(eRSignatures p0)]⟩]⟩ → K19 s := by
   intro t20 hq s hw
   subst o21
   try dsimp only at h1
   refine hK19 _ (AW.weaken hw ?_)
   refine ci h1 rfl ?_ ?_ <;> clear h1
   ·intro b22 h1
    refine AW.regionO (by rfl) ?_
    refine ao_bs (m := 1) (st' := [⟨0, 97, 2, [(eRSignatures p0)]⟩, (ro 0 3 1 eI [(0 : Int), 0])]) (l := [(0 : Int), 0]) (enc := eI) go0 ei40 (by decide) rfl rfl rfl rfl rfl rfl ?_
    refine zq tb rfl ?_
    exact AO.done (M5 [(0 : Int), 0] (Sh.some_eq h1).symm _ (Wk.permk (L := [(2, (i64 p2)), (3, (ls eI p3)), (10, (ow 0 0 [(0 : Int), 0])), (11, (i64 0))]) (st' := [(ro 0 3 1 eI [(0 : Int), 0])]) (st1 := [(ro 0 3 1 eI [(0 : Int), 0])]) [1] rfl .nil (by decide) rfl rfl (.pure (pure_map fun _ => rfl) .nil) ⟨.rfl, .rfl, .rfl, .rfl, trivial⟩))
   ·intro b22 h1
    refine zr tb rfl rfl ?_
    refine ci h1 rfl ?_ ?_ <;> clear h1
    ·intro b24 h1
     refine AW.regionO (by rfl) ?_
     refine ao_bs (m := 1) (st' := [⟨0, 97, 2, [(eRSignatures p0)]⟩, (ro 0 3 1 eI [(0 : Int)])]) (l := [(0 : Int)]) (enc := eI) go0 ei40 (by decide) rfl rfl rfl rfl rfl rfl ?_
     refine zq tb rfl ?_
     exact AO.done (M5 [(0 : Int)] (Sh.some_eq h1).symm _ (Wk.permk (L := [(2, (i64 p2)), (3, (ls eI p3)), (10, (ow 0 0 [(0 : Int)])), (11, (i64 0))]) (st' := [(ro 0 3 1 eI [(0 : Int)])]) (st1 := [(ro 0 3 1 eI [(0 : Int)])]) [1] rfl .nil (by decide) rfl rfl (.pure (pure_map fun _ => rfl) .nil) ⟨.rfl, .rfl, .rfl, .rfl, trivial⟩))
    ·intro b24 h1
     refine zr tb rfl rfl ?_
     refine ci h1 rfl ?_ ?_ <;> clear h1
     ·intro b26 h1
      refine AW.seq fun K27 hK27 => ?_
      refine sr rfl fun K28 hK28 => ?_
      refine zq tb rfl ?_
      refine zl tb rfl rfl ?_
      refine zq tb rfl ?_
      refine dn hK28 rfl ?_
      refine ci h1 rfl ?_ ?_ <;> clear h1
      ·intro b29 h1
       have b30 : decide ((Sh.len p3) = 2) = false := by simpa using b29
       refine zr tb rfl rfl ?_
       replace h1 := Sh.some_eq h1
       subst o5
       try dsimp only [id] at h0
       replace h0 := Sh.some_eq h0
       subst r
       exact AW.ret (xr (Wk.d0 [(8, (i64 (-1))), (9, (.bool false))] rfl))
      ·intro b29 h1
       have b32 : decide ((Sh.len p3) = 2) = true := by simpa using b29
       refine AW.skip (hK27 _ ?_)
       refine AW.seq fun K33 hK33 => ?_
       refine AW.drawX (by kernel_rfl) ?_
       obtain ⟨c34, gc34, h1⟩ := Sh.bind_some h1
       obtain ⟨q35, gq35, h1⟩ := Sh.bind_some h1
       refine AX.one fun A36 hA36 => ?_
       have A36_0123456789ab : A36 0 #[true, true, true, true, true, true, true, true, true, true, true, true] ⟨149, envL [(2, (i64 p2)), (3, (ls eI p3)), (12, (.ptr 0 0 0 0)), (13, (.bool q35.2))], [⟨0, 80, 3, [(eRDecl q35.1)]⟩]⟩ := (hA36 _ _ _).2 (by
        refine AX.done rfl (by kernel_rfl) ?_
        refine hK33 _ ?_
        refine AW.seq fun K37 hK37 => ?_
        obtain ⟨o39, h2, h1⟩ := Sh.bind_some h1
        have M39 : ∀ (t38 : Bool), o39 = t38 → ∀ s, Wk 0 s ⟨149, envL [(8, (i64 q35.1.to)), (9, (.bool t38))], []⟩ → K37 s := by
         intro t38 hq s hw
         subst o39
         try dsimp only at h1
         refine hK37 _ (AW.weaken hw ?_)
         replace h1 := Sh.some_eq h1
         subst o5
         try dsimp only [id] at h0
         replace h0 := Sh.some_eq h0
         subst r
         exact AW.ret (xr (Wk.to (L := [(8, (i64 q35.1.to)), (9, (.bool t38))]) ⟨.rfl, .rfl, trivial⟩))
        refine AW.draw (by kernel_rfl) (by kernel_rfl) (by rfl) ?_
        iterate 4 refine yq tb rfl ?_
        rcases Sh.ite_some h2 with ⟨b40, h2⟩ | ⟨b40, h2⟩
        ·refine yg tb b40 rfl ?_
         obtain ⟨c41, gc41, h2⟩ := Sh.bind_some h2
         refine d_q (v := (.iptr (eI c41) 0)) (go1 rfl rfl b40) rfl (aq_ixs ei40 rfl rfl gc41 rfl) ?_
         iterate 4 refine yg tb b40 rfl ?_
         refine yt b40 rfl ?_
         refine yq tb rfl ?_
         rcases Sh.ite_some h2 with ⟨b42, h2⟩ | ⟨b42, h2⟩
         ·refine yg tb b42 rfl ?_
          refine yg tb b42 rfl ?_
          refine yt b42 rfl ?_
          iterate 2 refine yq tb rfl ?_
          exact d_done (M39 (decide (p2 = 0)) (Sh.some_eq h2).symm _ (Wk.d0 _ rfl))
         ·refine ys b42 rfl ?_
          refine ys b42 rfl ?_
          refine yf b42 rfl ?_
          iterate 2 refine yq tb rfl ?_
          exact d_done (M39 false (Sh.some_eq h2).symm _ (Wk.d0 _ rfl))
        ·refine ys b40 rfl ?_
         iterate 5 refine ys b40 rfl ?_
         refine yf b40 rfl ?_
         refine yq tb rfl ?_
         iterate 2 refine ys rfl rfl ?_
         refine yf rfl rfl ?_
         iterate 2 refine yq tb rfl ?_
         exact d_done (M39 false (Sh.some_eq h2).symm _ (by refine Wk.trans (Wk.permk (L := [(8, (i64 q35.1.to)), (9, (.bool false))]) (st' := []) (st1 := []) [] rfl .nil (by decide) rfl rfl .nil ⟨.rfl, .rfl, trivial⟩) ?_; exact Wk.to (L := [(8, (i64 q35.1.to)), (9, (.bool false))]) ⟨.rfl, .rfl, trivial⟩)))
       have A36_0123456789a : A36 1 #[true, true, true, true, true, true, true, true, true, true, true, false] ⟨149, envL [(2, (i64 p2)), (3, (ls eI p3)), (12, (.ptr 0 0 0 0)), (54, (.bool q35.2))], [⟨0, 80, 3, [(eRDecl q35.1)]⟩]⟩ := (hA36 _ _ _).2 (by
        refine AX.hoist 11 (v := (.bool q35.2)) rfl rfl (by kernel_rfl) (by kernel_rfl) (by kernel_rfl) rfl (hoist_as rfl) ?_
        exact AX.weaken (Wk.to (L := [(2, (i64 p2)), (3, (ls eI p3)), (12, (.ptr 0 0 0 0)), (13, (.bool q35.2))]) ⟨.rfl, .rfl, .rfl, .rfl, trivial⟩) (AX.lst (by kernel_rfl) ((hA36 _ _ _).1 A36_0123456789ab)) rfl)
       have A36_0123456789 : A36 2 #[true, true, true, true, true, true, true, true, true, true, false, false] ⟨149, envL [(2, (i64 p2)), (3, (ls eI p3)), (12, (.ptr 0 0 0 0)), (53, (.agg (eRDecl q35.1))), (54, (.bool q35.2))], [⟨0, 80, 3, [[(i64 0), (i64 0), .zc]]⟩]⟩ := (hA36 _ _ _).2 (by
        refine AX.all [10] rfl (by kernel_rfl) (by decide) ⟨?_, trivial⟩
        ·refine AXs.of (i := 10) rfl rfl (by rfl) ?_
         refine ao_str (st' := [⟨0, 80, 3, [(eRDecl q35.1)]⟩]) go0 ti80 rfl rfl rfl rfl rfl rfl (show 0 + 3 ≤ 3 by decide) rfl ?_
         refine AO.done ⟨rfl, ?_⟩
         exact AX.weaken (Wk.to (L := [(2, (i64 p2)), (3, (ls eI p3)), (12, (.ptr 0 0 0 0)), (54, (.bool q35.2))]) ⟨.rfl, .rfl, .rfl, .rfl, trivial⟩) (AX.lst (by kernel_rfl) ((hA36 _ _ _).1 A36_0123456789a)) rfl)
       have A36_012345678 : A36 3 #[true, true, true, true, true, true, true, true, true, false, false, false] ⟨149, envL [(2, (i64 p2)), (3, (ls eI p3)), (53, (.agg (eRDecl q35.1))), (54, (.bool q35.2))], []⟩ := (hA36 _ _ _).2 (by
        refine AX.all [9] rfl (by kernel_rfl) (by decide) ⟨?_, trivial⟩
        ·refine AXs.of (i := 9) rfl rfl (by rfl) ?_
         refine ao_alloc (m := 0) (st' := [⟨0, 80, 3, [[(i64 0), (i64 0), .zc]]⟩]) go0 zi80 rfl rfl ?_
         refine AO.done ⟨rfl, ?_⟩
         exact AX.weaken (Wk.to (L := [(2, (i64 p2)), (3, (ls eI p3)), (12, (.ptr 0 0 0 0)), (53, (.agg (eRDecl q35.1))), (54, (.bool q35.2))]) ⟨.rfl, .rfl, .rfl, .rfl, .rfl, trivial⟩) (AX.lst (by kernel_rfl) ((hA36 _ _ _).1 A36_0123456789)) rfl)
       have A36_012345679a : A36 2 #[true, true, true, true, true, true, true, true, false, true, true, false] ⟨149, envL [(2, (i64 p2)), (3, (ls eI p3)), (12, (.ptr 0 0 0 0)), (46, (.tup [(.agg (eRDecl q35.1)), (.bool q35.2)]))], [⟨0, 80, 3, [(eRDecl q35.1)]⟩]⟩ := (hA36 _ _ _).2 (by
        refine AX.all [8] rfl (by kernel_rfl) (by decide) ⟨?_, trivial⟩
        ·refine AXs.of (i := 8) rfl rfl (by rfl) ?_
         refine zq tb rfl ?_
         refine AO.done ⟨rfl, ?_⟩
         exact AX.weaken (Wk.to (L := [(2, (i64 p2)), (3, (ls eI p3)), (12, (.ptr 0 0 0 0)), (54, (.bool q35.2))]) ⟨.rfl, .rfl, .rfl, .rfl, trivial⟩) (AX.lst (by kernel_rfl) ((hA36 _ _ _).1 A36_0123456789a)) rfl)
       have A36_012345679 : A36 3 #[true, true, true, true, true, true, true, true, false, true, false, false] ⟨149, envL [(2, (i64 p2)), (3, (ls eI p3)), (12, (.ptr 0 0 0 0)), (46, (.tup [(.agg (eRDecl q35.1)), (.bool q35.2)])), (53, (.agg (eRDecl q35.1)))], [⟨0, 80, 3, [[(i64 0), (i64 0), .zc]]⟩]⟩ := (hA36 _ _ _).2 (by
        refine AX.all [8, 10] rfl (by kernel_rfl) (by decide) ⟨?_, ?_, trivial⟩
        ·refine AXs.of (i := 8) rfl rfl (by rfl) ?_
         refine zq tb rfl ?_
         refine AO.done ⟨rfl, ?_⟩
         exact AX.weaken (Wk.to (L := [(2, (i64 p2)), (3, (ls eI p3)), (12, (.ptr 0 0 0 0)), (53, (.agg (eRDecl q35.1))), (54, (.bool q35.2))]) ⟨.rfl, .rfl, .rfl, .rfl, .rfl, trivial⟩) (AX.lst (by kernel_rfl) ((hA36 _ _ _).1 A36_0123456789)) rfl
        ·refine AXs.of (i := 10) rfl rfl (by rfl) ?_
         refine ao_str (st' := [⟨0, 80, 3, [(eRDecl q35.1)]⟩]) go0 ti80 rfl rfl rfl rfl rfl rfl (show 0 + 3 ≤ 3 by decide) rfl ?_
         refine AO.done ⟨rfl, ?_⟩
         exact AX.weaken (Wk.to (L := [(2, (i64 p2)), (3, (ls eI p3)), (12, (.ptr 0 0 0 0)), (46, (.tup [(.agg (eRDecl q35.1)), (.bool q35.2)]))]) ⟨.rfl, .rfl, .rfl, .rfl, trivial⟩) (AX.lst (by kernel_rfl) ((hA36 _ _ _).1 A36_012345679a)) rfl)
       have A36_01234567 : A36 4 #[true, true, true, true, true, true, true, true, false, false, false, false] ⟨149, envL [(2, (i64 p2)), (3, (ls eI p3)), (46, (.tup [(.agg (eRDecl q35.1)), (.bool q35.2)])), (53, (.agg (eRDecl q35.1)))], []⟩ := (hA36 _ _ _).2 (by
        refine AX.all [8, 9] rfl (by kernel_rfl) (by decide) ⟨?_, ?_, trivial⟩
        ·refine AXs.of (i := 8) rfl rfl (by rfl) ?_
         refine zq tb rfl ?_
         refine AO.done ⟨rfl, ?_⟩
         exact AX.weaken (Wk.to (L := [(2, (i64 p2)), (3, (ls eI p3)), (53, (.agg (eRDecl q35.1))), (54, (.bool q35.2))]) ⟨.rfl, .rfl, .rfl, .rfl, trivial⟩) (AX.lst (by kernel_rfl) ((hA36 _ _ _).1 A36_012345678)) rfl
        ·refine AXs.of (i := 9) rfl rfl (by rfl) ?_
         refine ao_alloc (m := 0) (st' := [⟨0, 80, 3, [[(i64 0), (i64 0), .zc]]⟩]) go0 zi80 rfl rfl ?_
         refine AO.done ⟨rfl, ?_⟩
         exact AX.weaken (Wk.to (L := [(2, (i64 p2)), (3, (ls eI p3)), (12, (.ptr 0 0 0 0)), (46, (.tup [(.agg (eRDecl q35.1)), (.bool q35.2)])), (53, (.agg (eRDecl q35.1)))]) ⟨.rfl, .rfl, .rfl, .rfl, .rfl, trivial⟩) (AX.lst (by kernel_rfl) ((hA36 _ _ _).1 A36_012345679)) rfl)
       have A36_012345689 : A36 3 #[true, true, true, true, true, true, true, false, true, true, false, false] ⟨149, envL [(2, (i64 p2)), (3, (ls eI p3)), (12, (.ptr 0 0 0 0)), (46, (.tup [(.agg (eRDecl q35.1)), (.bool q35.2)])), (54, (.bool q35.2))], [⟨0, 80, 3, [[(i64 0), (i64 0), .zc]]⟩]⟩ := (hA36 _ _ _).2 (by
        refine AX.all [7] rfl (by kernel_rfl) (by decide) ⟨?_, trivial⟩
        ·refine AXs.of (i := 7) rfl rfl (by rfl) ?_
         refine zq tb rfl ?_
         refine AO.done ⟨rfl, ?_⟩
         exact AX.weaken (Wk.to (L := [(2, (i64 p2)), (3, (ls eI p3)), (12, (.ptr 0 0 0 0)), (53, (.agg (eRDecl q35.1))), (54, (.bool q35.2))]) ⟨.rfl, .rfl, .rfl, .rfl, .rfl, trivial⟩) (AX.lst (by kernel_rfl) ((hA36 _ _ _).1 A36_0123456789)) rfl)
       have A36_01234568 : A36 4 #[true, true, true, true, true, true, true, false, true, false, false, false] ⟨149, envL [(2, (i64 p2)), (3, (ls eI p3)), (46, (.tup [(.agg (eRDecl q35.1)), (.bool q35.2)])), (54, (.bool q35.2))], []⟩ := (hA36 _ _ _).2 (by
        refine AX.all [7, 9] rfl (by kernel_rfl) (by decide) ⟨?_, ?_, trivial⟩
        ·refine AXs.of (i := 7) rfl rfl (by rfl) ?_
         refine zq tb rfl ?_
         refine AO.done ⟨rfl, ?_⟩
         exact AX.weaken (Wk.to (L := [(2, (i64 p2)), (3, (ls eI p3)), (53, (.agg (eRDecl q35.1))), (54, (.bool q35.2))]) ⟨.rfl, .rfl, .rfl, .rfl, trivial⟩) (AX.lst (by kernel_rfl) ((hA36 _ _ _).1 A36_012345678)) rfl
        ·refine AXs.of (i := 9) rfl rfl (by rfl) ?_
         refine ao_alloc (m := 0) (st' := [⟨0, 80, 3, [[(i64 0), (i64 0), .zc]]⟩]) go0 zi80 rfl rfl ?_
         refine AO.done ⟨rfl, ?_⟩
         exact AX.weaken (Wk.to (L := [(2, (i64 p2)), (3, (ls eI p3)), (12, (.ptr 0 0 0 0)), (46, (.tup [(.agg (eRDecl q35.1)), (.bool q35.2)])), (54, (.bool q35.2))]) ⟨.rfl, .rfl, .rfl, .rfl, .rfl, trivial⟩) (AX.lst (by kernel_rfl) ((hA36 _ _ _).1 A36_012345689)) rfl)
       have A36_01234569 : A36 4 #[true, true, true, true, true, true, true, false, false, true, false, false] ⟨149, envL [(2, (i64 p2)), (3, (ls eI p3)), (12, (.ptr 0 0 0 0)), (46, (.tup [(.agg (eRDecl q35.1)), (.bool q35.2)]))], [⟨0, 80, 3, [[(i64 0), (i64 0), .zc]]⟩]⟩ := (hA36 _ _ _).2 (by
        refine AX.all [7, 8] rfl (by kernel_rfl) (by decide) ⟨?_, ?_, trivial⟩
        ·refine AXs.of (i := 7) rfl rfl (by rfl) ?_
         refine zq tb rfl ?_
         refine AO.done ⟨rfl, ?_⟩
         exact AX.weaken (Wk.to (L := [(2, (i64 p2)), (3, (ls eI p3)), (12, (.ptr 0 0 0 0)), (46, (.tup [(.agg (eRDecl q35.1)), (.bool q35.2)])), (53, (.agg (eRDecl q35.1)))]) ⟨.rfl, .rfl, .rfl, .rfl, .rfl, trivial⟩) (AX.lst (by kernel_rfl) ((hA36 _ _ _).1 A36_012345679)) rfl
        ·refine AXs.of (i := 8) rfl rfl (by rfl) ?_
         refine zq tb rfl ?_
         refine AO.done ⟨rfl, ?_⟩
         exact AX.weaken (Wk.to (L := [(2, (i64 p2)), (3, (ls eI p3)), (12, (.ptr 0 0 0 0)), (46, (.tup [(.agg (eRDecl q35.1)), (.bool q35.2)])), (54, (.bool q35.2))]) ⟨.rfl, .rfl, .rfl, .rfl, .rfl, trivial⟩) (AX.lst (by kernel_rfl) ((hA36 _ _ _).1 A36_012345689)) rfl)
       have A36_0123456 : A36 5 #[true, true, true, true, true, true, true, false, false, false, false, false] ⟨149, envL [(2, (i64 p2)), (3, (ls eI p3)), (46, (.tup [(.agg (eRDecl q35.1)), (.bool q35.2)]))], []⟩ := (hA36 _ _ _).2 (by
        refine AX.all [7, 8, 9] rfl (by kernel_rfl) (by decide) ⟨?_, ?_, ?_, trivial⟩
        ·refine AXs.of (i := 7) rfl rfl (by rfl) ?_
         refine zq tb rfl ?_
         refine AO.done ⟨rfl, ?_⟩
         exact AX.weaken (Wk.to (L := [(2, (i64 p2)), (3, (ls eI p3)), (46, (.tup [(.agg (eRDecl q35.1)), (.bool q35.2)])), (53, (.agg (eRDecl q35.1)))]) ⟨.rfl, .rfl, .rfl, .rfl, trivial⟩) (AX.lst (by kernel_rfl) ((hA36 _ _ _).1 A36_01234567)) rfl
        ·refine AXs.of (i := 8) rfl rfl (by rfl) ?_
         refine zq tb rfl ?_
         refine AO.done ⟨rfl, ?_⟩
         exact AX.weaken (Wk.to (L := [(2, (i64 p2)), (3, (ls eI p3)), (46, (.tup [(.agg (eRDecl q35.1)), (.bool q35.2)])), (54, (.bool q35.2))]) ⟨.rfl, .rfl, .rfl, .rfl, trivial⟩) (AX.lst (by kernel_rfl) ((hA36 _ _ _).1 A36_01234568)) rfl
        ·refine AXs.of (i := 9) rfl rfl (by rfl) ?_
         refine ao_alloc (m := 0) (st' := [⟨0, 80, 3, [[(i64 0), (i64 0), .zc]]⟩]) go0 zi80 rfl rfl ?_
         refine AO.done ⟨rfl, ?_⟩
         exact AX.weaken (Wk.to (L := [(2, (i64 p2)), (3, (ls eI p3)), (12, (.ptr 0 0 0 0)), (46, (.tup [(.agg (eRDecl q35.1)), (.bool q35.2)]))]) ⟨.rfl, .rfl, .rfl, .rfl, trivial⟩) (AX.lst (by kernel_rfl) ((hA36 _ _ _).1 A36_01234569)) rfl)
       have A36_012345 : A36 6 #[true, true, true, true, true, true, false, false, false, false, false, false] ⟨149, envL [(2, (i64 p2)), (3, (ls eI p3)), (52, (.tup [(.agg (eRDecl q35.1)), (.bool q35.2)]))], []⟩ := (hA36 _ _ _).2 (by
        refine AX.hoist 6 (v := (.tup [(.agg (eRDecl q35.1)), (.bool q35.2)])) rfl rfl (by kernel_rfl) (by kernel_rfl) (by kernel_rfl) rfl (hoist_mv rfl) ?_
        exact AX.weaken (Wk.to (L := [(2, (i64 p2)), (3, (ls eI p3)), (46, (.tup [(.agg (eRDecl q35.1)), (.bool q35.2)]))]) ⟨.rfl, .rfl, .rfl, trivial⟩) (AX.lst (by kernel_rfl) ((hA36 _ _ _).1 A36_0123456)) rfl)
       have A36_0123459 : A36 5 #[true, true, true, true, true, true, false, false, false, true, false, false] ⟨149, envL [(2, (i64 p2)), (3, (ls eI p3)), (12, (.ptr 0 0 0 0)), (52, (.tup [(.agg (eRDecl q35.1)), (.bool q35.2)]))], [⟨0, 80, 3, [[(i64 0), (i64 0), .zc]]⟩]⟩ := (hA36 _ _ _).2 (by
        refine AX.hoist 6 (v := (.tup [(.agg (eRDecl q35.1)), (.bool q35.2)])) rfl rfl (by kernel_rfl) (by kernel_rfl) (by kernel_rfl) rfl (hoist_mv rfl) ?_
        exact AX.weaken (Wk.to (L := [(2, (i64 p2)), (3, (ls eI p3)), (12, (.ptr 0 0 0 0)), (46, (.tup [(.agg (eRDecl q35.1)), (.bool q35.2)]))]) ⟨.rfl, .rfl, .rfl, .rfl, trivial⟩) (AX.lst (by kernel_rfl) ((hA36 _ _ _).1 A36_01234569)) rfl)
       have A36_012349 : A36 6 #[true, true, true, true, true, false, false, false, false, true, false, false] ⟨149, envL [(2, (i64 p2)), (3, (ls eI p3)), (12, (.ptr 0 0 0 0)), (48, (ls eRDecl p0.decls)), (51, (i64 c34))], [⟨0, 80, 3, [[(i64 0), (i64 0), .zc]]⟩]⟩ := (hA36 _ _ _).2 (by
        refine AX.all [5] rfl (by kernel_rfl) (by decide) ⟨?_, trivial⟩
        ·refine AXs.of (i := 5) rfl rfl (by rfl) ?_
         refine zc (v' := (.tup [(.agg (eRDecl q35.1)), (.bool q35.2)])) hb121 (impl_arrowAt_ok gq35) rfl rfl rfl ?_
         refine AO.done ⟨rfl, ?_⟩
         exact AX.weaken (Wk.to (L := [(2, (i64 p2)), (3, (ls eI p3)), (12, (.ptr 0 0 0 0)), (52, (.tup [(.agg (eRDecl q35.1)), (.bool q35.2)]))]) ⟨.rfl, .rfl, .rfl, .rfl, trivial⟩) (AX.lst (by kernel_rfl) ((hA36 _ _ _).1 A36_0123459)) rfl)
       have A36_01234 : A36 7 #[true, true, true, true, true, false, false, false, false, false, false, false] ⟨149, envL [(2, (i64 p2)), (3, (ls eI p3)), (48, (ls eRDecl p0.decls)), (51, (i64 c34))], []⟩ := (hA36 _ _ _).2 (by
        refine AX.all [5, 9] rfl (by kernel_rfl) (by decide) ⟨?_, ?_, trivial⟩
        ·refine AXs.of (i := 5) rfl rfl (by rfl) ?_
         refine zc (v' := (.tup [(.agg (eRDecl q35.1)), (.bool q35.2)])) hb121 (impl_arrowAt_ok gq35) rfl rfl rfl ?_
         refine AO.done ⟨rfl, ?_⟩
         exact AX.weaken (Wk.to (L := [(2, (i64 p2)), (3, (ls eI p3)), (52, (.tup [(.agg (eRDecl q35.1)), (.bool q35.2)]))]) ⟨.rfl, .rfl, .rfl, trivial⟩) (AX.lst (by kernel_rfl) ((hA36 _ _ _).1 A36_012345)) rfl
        ·refine AXs.of (i := 9) rfl rfl (by rfl) ?_
         refine ao_alloc (m := 0) (st' := [⟨0, 80, 3, [[(i64 0), (i64 0), .zc]]⟩]) go0 zi80 rfl rfl ?_
         refine AO.done ⟨rfl, ?_⟩
         exact AX.weaken (Wk.to (L := [(2, (i64 p2)), (3, (ls eI p3)), (12, (.ptr 0 0 0 0)), (48, (ls eRDecl p0.decls)), (51, (i64 c34))]) ⟨.rfl, .rfl, .rfl, .rfl, .rfl, trivial⟩) (AX.lst (by kernel_rfl) ((hA36 _ _ _).1 A36_012349)) rfl)
       have A36_01239 : A36 7 #[true, true, true, true, false, false, false, false, false, true, false, false] ⟨149, envL [(2, (i64 p2)), (3, (ls eI p3)), (12, (.ptr 0 0 0 0)), (48, (ls eRDecl p0.decls)), (50, (.iptr (eI c34) 0))], [⟨0, 80, 3, [[(i64 0), (i64 0), .zc]]⟩]⟩ := (hA36 _ _ _).2 (by
        refine AX.all [4] rfl (by kernel_rfl) (by decide) ⟨?_, trivial⟩
        ·refine AXs.of (i := 4) rfl rfl (by rfl) ?_
         refine zq tb rfl ?_
         refine AO.done ⟨rfl, ?_⟩
         exact AX.weaken (Wk.to (L := [(2, (i64 p2)), (3, (ls eI p3)), (12, (.ptr 0 0 0 0)), (48, (ls eRDecl p0.decls)), (51, (i64 c34))]) ⟨.rfl, .rfl, .rfl, .rfl, .rfl, trivial⟩) (AX.lst (by kernel_rfl) ((hA36 _ _ _).1 A36_012349)) rfl)
       have A36_0123 : A36 8 #[true, true, true, true, false, false, false, false, false, false, false, false] ⟨149, envL [(2, (i64 p2)), (3, (ls eI p3)), (48, (ls eRDecl p0.decls)), (50, (.iptr (eI c34) 0))], []⟩ := (hA36 _ _ _).2 (by
        refine AX.all [4, 9] rfl (by kernel_rfl) (by decide) ⟨?_, ?_, trivial⟩
        ·refine AXs.of (i := 4) rfl rfl (by rfl) ?_
         refine zq tb rfl ?_
         refine AO.done ⟨rfl, ?_⟩
         exact AX.weaken (Wk.to (L := [(2, (i64 p2)), (3, (ls eI p3)), (48, (ls eRDecl p0.decls)), (51, (i64 c34))]) ⟨.rfl, .rfl, .rfl, .rfl, trivial⟩) (AX.lst (by kernel_rfl) ((hA36 _ _ _).1 A36_01234)) rfl
        ·refine AXs.of (i := 9) rfl rfl (by rfl) ?_
         refine ao_alloc (m := 0) (st' := [⟨0, 80, 3, [[(i64 0), (i64 0), .zc]]⟩]) go0 zi80 rfl rfl ?_
         refine AO.done ⟨rfl, ?_⟩
         exact AX.weaken (Wk.to (L := [(2, (i64 p2)), (3, (ls eI p3)), (12, (.ptr 0 0 0 0)), (48, (ls eRDecl p0.decls)), (50, (.iptr (eI c34) 0))]) ⟨.rfl, .rfl, .rfl, .rfl, .rfl, trivial⟩) (AX.lst (by kernel_rfl) ((hA36 _ _ _).1 A36_01239)) rfl)
       have A36_0129 : A36 8 #[true, true, true, false, false, false, false, false, false, true, false, false] ⟨149, envL [(2, (i64 p2)), (3, (ls eI p3)), (12, (.ptr 0 0 0 0)), (48, (ls eRDecl p0.decls)), (49, (ls eI p3))], [⟨0, 80, 3, [[(i64 0), (i64 0), .zc]]⟩]⟩ := (hA36 _ _ _).2 (by
        refine AX.all [3] rfl (by kernel_rfl) (by decide) ⟨?_, trivial⟩
        ·refine AXs.of (i := 3) rfl rfl (by rfl) ?_
         refine zx ei40 gc34 rfl rfl rfl ?_
         refine AO.done ⟨rfl, ?_⟩
         exact AX.weaken (Wk.to (L := [(2, (i64 p2)), (3, (ls eI p3)), (12, (.ptr 0 0 0 0)), (48, (ls eRDecl p0.decls)), (50, (.iptr (eI c34) 0))]) ⟨.rfl, .rfl, .rfl, .rfl, .rfl, trivial⟩) (AX.lst (by kernel_rfl) ((hA36 _ _ _).1 A36_01239)) rfl)
       have A36_012 : A36 9 #[true, true, true, false, false, false, false, false, false, false, false, false] ⟨149, envL [(2, (i64 p2)), (3, (ls eI p3)), (48, (ls eRDecl p0.decls)), (49, (ls eI p3))], []⟩ := (hA36 _ _ _).2 (by
        refine AX.all [3, 9] rfl (by kernel_rfl) (by decide) ⟨?_, ?_, trivial⟩
        ·refine AXs.of (i := 3) rfl rfl (by rfl) ?_
         refine zx ei40 gc34 rfl rfl rfl ?_
         refine AO.done ⟨rfl, ?_⟩
         exact AX.weaken (Wk.to (L := [(2, (i64 p2)), (3, (ls eI p3)), (48, (ls eRDecl p0.decls)), (50, (.iptr (eI c34) 0))]) ⟨.rfl, .rfl, .rfl, .rfl, trivial⟩) (AX.lst (by kernel_rfl) ((hA36 _ _ _).1 A36_0123)) rfl
        ·refine AXs.of (i := 9) rfl rfl (by rfl) ?_
         refine ao_alloc (m := 0) (st' := [⟨0, 80, 3, [[(i64 0), (i64 0), .zc]]⟩]) go0 zi80 rfl rfl ?_
         refine AO.done ⟨rfl, ?_⟩
         exact AX.weaken (Wk.to (L := [(2, (i64 p2)), (3, (ls eI p3)), (12, (.ptr 0 0 0 0)), (48, (ls eRDecl p0.decls)), (49, (ls eI p3))]) ⟨.rfl, .rfl, .rfl, .rfl, .rfl, trivial⟩) (AX.lst (by kernel_rfl) ((hA36 _ _ _).1 A36_0129)) rfl)
       have A36_02349 : A36 7 #[true, false, true, true, true, false, false, false, false, true, false, false] ⟨149, envL [(2, (i64 p2)), (3, (ls eI p3)), (12, (.ptr 0 0 0 0)), (47, (.ptr 1 0 0 0)), (51, (i64 c34))], [⟨0, 80, 3, [[(i64 0), (i64 0), .zc]]⟩, ⟨0, 97, 2, [(eRSignatures p0)]⟩]⟩ := (hA36 _ _ _).2 (by
        refine AX.all [1] rfl (by kernel_rfl) (by decide) ⟨?_, trivial⟩
        ·refine AXs.of (i := 1) rfl rfl (by rfl) ?_
         refine zq tb rfl ?_
         refine AO.done ⟨rfl, ?_⟩
         exact AX.weaken (by refine Wk.trans (Wk.permk (L := [(2, (i64 p2)), (3, (ls eI p3)), (12, (.ptr 0 0 0 0)), (48, (ls eRDecl p0.decls)), (51, (i64 c34))]) (st' := [⟨0, 80, 3, [[(i64 0), (i64 0), .zc]]⟩]) (st1 := [⟨0, 80, 3, [[(i64 0), (i64 0), .zc]]⟩]) [0] rfl .nil (by decide) rfl rfl (.raw rfl rfl .nil) ⟨.rfl, .rfl, .rfl, .rfl, .rfl, trivial⟩) ?_; exact Wk.to (L := [(2, (i64 p2)), (3, (ls eI p3)), (12, (.ptr 0 0 0 0)), (48, (ls eRDecl p0.decls)), (51, (i64 c34))]) ⟨.rfl, .rfl, .rfl, .rfl, .rfl, trivial⟩) (AX.lst (by kernel_rfl) ((hA36 _ _ _).1 A36_012349)) rfl)
       have A36_0234 : A36 8 #[true, false, true, true, true, false, false, false, false, false, false, false] ⟨149, envL [(2, (i64 p2)), (3, (ls eI p3)), (47, (.ptr 0 0 0 0)), (51, (i64 c34))], [⟨0, 97, 2, [(eRSignatures p0)]⟩]⟩ := (hA36 _ _ _).2 (by
        refine AX.all [1, 9] rfl (by kernel_rfl) (by decide) ⟨?_, ?_, trivial⟩
        ·refine AXs.of (i := 1) rfl rfl (by rfl) ?_
         refine zq tb rfl ?_
         refine AO.done ⟨rfl, ?_⟩
         exact AX.weaken (by refine Wk.trans (Wk.permk (L := [(2, (i64 p2)), (3, (ls eI p3)), (48, (ls eRDecl p0.decls)), (51, (i64 c34))]) (st' := []) (st1 := []) [] rfl .nil (by decide) rfl rfl .nil ⟨.rfl, .rfl, .rfl, .rfl, trivial⟩) ?_; exact Wk.to (L := [(2, (i64 p2)), (3, (ls eI p3)), (48, (ls eRDecl p0.decls)), (51, (i64 c34))]) ⟨.rfl, .rfl, .rfl, .rfl, trivial⟩) (AX.lst (by kernel_rfl) ((hA36 _ _ _).1 A36_01234)) rfl
        ·refine AXs.of (i := 9) rfl rfl (by rfl) ?_
         refine ao_alloc (m := 1) (st' := [⟨0, 97, 2, [(eRSignatures p0)]⟩, ⟨0, 80, 3, [[(i64 0), (i64 0), .zc]]⟩]) go0 zi80 rfl rfl ?_
         refine AO.done ⟨rfl, ?_⟩
         exact AX.weaken (by refine Wk.trans (Wk.permk (L := [(2, (i64 p2)), (3, (ls eI p3)), (12, (.ptr 0 0 0 0)), (47, (.ptr 1 0 0 0)), (51, (i64 c34))]) (st' := [⟨0, 80, 3, [[(i64 0), (i64 0), .zc]]⟩, ⟨0, 97, 2, [(eRSignatures p0)]⟩]) (st1 := [⟨0, 80, 3, [[(i64 0), (i64 0), .zc]]⟩, ⟨0, 97, 2, [(eRSignatures p0)]⟩]) [1, 0] rfl .nil (by decide) rfl rfl (.raw rfl rfl (.raw rfl rfl .nil)) ⟨.rfl, .rfl, .rfl, .rfl, .rfl, trivial⟩) ?_; exact Wk.to (L := [(2, (i64 p2)), (3, (ls eI p3)), (12, (.ptr 0 0 0 0)), (47, (.ptr 1 0 0 0)), (51, (i64 c34))]) ⟨.rfl, .rfl, .rfl, .rfl, .rfl, trivial⟩) (AX.lst (by kernel_rfl) ((hA36 _ _ _).1 A36_02349)) rfl)
       have A36_0239 : A36 8 #[true, false, true, true, false, false, false, false, false, true, false, false] ⟨149, envL [(2, (i64 p2)), (3, (ls eI p3)), (12, (.ptr 0 0 0 0)), (47, (.ptr 1 0 0 0)), (50, (.iptr (eI c34) 0))], [⟨0, 80, 3, [[(i64 0), (i64 0), .zc]]⟩, ⟨0, 97, 2, [(eRSignatures p0)]⟩]⟩ := (hA36 _ _ _).2 (by
        refine AX.all [1, 4] rfl (by kernel_rfl) (by decide) ⟨?_, ?_, trivial⟩
        ·refine AXs.of (i := 1) rfl rfl (by rfl) ?_
         refine zq tb rfl ?_
         refine AO.done ⟨rfl, ?_⟩
         exact AX.weaken (by refine Wk.trans (Wk.permk (L := [(2, (i64 p2)), (3, (ls eI p3)), (12, (.ptr 0 0 0 0)), (48, (ls eRDecl p0.decls)), (50, (.iptr (eI c34) 0))]) (st' := [⟨0, 80, 3, [[(i64 0), (i64 0), .zc]]⟩]) (st1 := [⟨0, 80, 3, [[(i64 0), (i64 0), .zc]]⟩]) [0] rfl .nil (by decide) rfl rfl (.raw rfl rfl .nil) ⟨.rfl, .rfl, .rfl, .rfl, .rfl, trivial⟩) ?_; exact Wk.to (L := [(2, (i64 p2)), (3, (ls eI p3)), (12, (.ptr 0 0 0 0)), (48, (ls eRDecl p0.decls)), (50, (.iptr (eI c34) 0))]) ⟨.rfl, .rfl, .rfl, .rfl, .rfl, trivial⟩) (AX.lst (by kernel_rfl) ((hA36 _ _ _).1 A36_01239)) rfl
        ·refine AXs.of (i := 4) rfl rfl (by rfl) ?_
         refine zq tb rfl ?_
         refine AO.done ⟨rfl, ?_⟩
         exact AX.weaken (Wk.to (L := [(2, (i64 p2)), (3, (ls eI p3)), (12, (.ptr 0 0 0 0)), (47, (.ptr 1 0 0 0)), (51, (i64 c34))]) ⟨.rfl, .rfl, .rfl, .rfl, .rfl, trivial⟩) (AX.lst (by kernel_rfl) ((hA36 _ _ _).1 A36_02349)) rfl)
       have A36_023 : A36 9 #[true, false, true, true, false, false, false, false, false, false, false, false] ⟨149, envL [(2, (i64 p2)), (3, (ls eI p3)), (47, (.ptr 0 0 0 0)), (50, (.iptr (eI c34) 0))], [⟨0, 97, 2, [(eRSignatures p0)]⟩]⟩ := (hA36 _ _ _).2 (by
        refine AX.all [1, 4, 9] rfl (by kernel_rfl) (by decide) ⟨?_, ?_, ?_, trivial⟩
        ·refine AXs.of (i := 1) rfl rfl (by rfl) ?_
         refine zq tb rfl ?_
         refine AO.done ⟨rfl, ?_⟩
         exact AX.weaken (by refine Wk.trans (Wk.permk (L := [(2, (i64 p2)), (3, (ls eI p3)), (48, (ls eRDecl p0.decls)), (50, (.iptr (eI c34) 0))]) (st' := []) (st1 := []) [] rfl .nil (by decide) rfl rfl .nil ⟨.rfl, .rfl, .rfl, .rfl, trivial⟩) ?_; exact Wk.to (L := [(2, (i64 p2)), (3, (ls eI p3)), (48, (ls eRDecl p0.decls)), (50, (.iptr (eI c34) 0))]) ⟨.rfl, .rfl, .rfl, .rfl, trivial⟩) (AX.lst (by kernel_rfl) ((hA36 _ _ _).1 A36_0123)) rfl
        ·refine AXs.of (i := 4) rfl rfl (by rfl) ?_
         refine zq tb rfl ?_
         refine AO.done ⟨rfl, ?_⟩
         exact AX.weaken (Wk.to (L := [(2, (i64 p2)), (3, (ls eI p3)), (47, (.ptr 0 0 0 0)), (51, (i64 c34))]) ⟨.rfl, .rfl, .rfl, .rfl, trivial⟩) (AX.lst (by kernel_rfl) ((hA36 _ _ _).1 A36_0234)) rfl
        ·refine AXs.of (i := 9) rfl rfl (by rfl) ?_
         refine ao_alloc (m := 1) (st' := [⟨0, 97, 2, [(eRSignatures p0)]⟩, ⟨0, 80, 3, [[(i64 0), (i64 0), .zc]]⟩]) go0 zi80 rfl rfl ?_
         refine AO.done ⟨rfl, ?_⟩
         exact AX.weaken (by refine Wk.trans (Wk.permk (L := [(2, (i64 p2)), (3, (ls eI p3)), (12, (.ptr 0 0 0 0)), (47, (.ptr 1 0 0 0)), (50, (.iptr (eI c34) 0))]) (st' := [⟨0, 80, 3, [[(i64 0), (i64 0), .zc]]⟩, ⟨0, 97, 2, [(eRSignatures p0)]⟩]) (st1 := [⟨0, 80, 3, [[(i64 0), (i64 0), .zc]]⟩, ⟨0, 97, 2, [(eRSignatures p0)]⟩]) [1, 0] rfl .nil (by decide) rfl rfl (.raw rfl rfl (.raw rfl rfl .nil)) ⟨.rfl, .rfl, .rfl, .rfl, .rfl, trivial⟩) ?_; exact Wk.to (L := [(2, (i64 p2)), (3, (ls eI p3)), (12, (.ptr 0 0 0 0)), (47, (.ptr 1 0 0 0)), (50, (.iptr (eI c34) 0))]) ⟨.rfl, .rfl, .rfl, .rfl, .rfl, trivial⟩) (AX.lst (by kernel_rfl) ((hA36 _ _ _).1 A36_0239)) rfl)
       have A36_029 : A36 9 #[true, false, true, false, false, false, false, false, false, true, false, false] ⟨149, envL [(2, (i64 p2)), (3, (ls eI p3)), (12, (.ptr 0 0 0 0)), (47, (.ptr 1 0 0 0)), (49, (ls eI p3))], [⟨0, 80, 3, [[(i64 0), (i64 0), .zc]]⟩, ⟨0, 97, 2, [(eRSignatures p0)]⟩]⟩ := (hA36 _ _ _).2 (by
        refine AX.all [1, 3] rfl (by kernel_rfl) (by decide) ⟨?_, ?_, trivial⟩
        ·refine AXs.of (i := 1) rfl rfl (by rfl) ?_
         refine zq tb rfl ?_
         refine AO.done ⟨rfl, ?_⟩
         exact AX.weaken (by refine Wk.trans (Wk.permk (L := [(2, (i64 p2)), (3, (ls eI p3)), (12, (.ptr 0 0 0 0)), (48, (ls eRDecl p0.decls)), (49, (ls eI p3))]) (st' := [⟨0, 80, 3, [[(i64 0), (i64 0), .zc]]⟩]) (st1 := [⟨0, 80, 3, [[(i64 0), (i64 0), .zc]]⟩]) [0] rfl .nil (by decide) rfl rfl (.raw rfl rfl .nil) ⟨.rfl, .rfl, .rfl, .rfl, .rfl, trivial⟩) ?_; exact Wk.to (L := [(2, (i64 p2)), (3, (ls eI p3)), (12, (.ptr 0 0 0 0)), (48, (ls eRDecl p0.decls)), (49, (ls eI p3))]) ⟨.rfl, .rfl, .rfl, .rfl, .rfl, trivial⟩) (AX.lst (by kernel_rfl) ((hA36 _ _ _).1 A36_0129)) rfl
        ·refine AXs.of (i := 3) rfl rfl (by rfl) ?_
         refine zx ei40 gc34 rfl rfl rfl ?_
         refine AO.done ⟨rfl, ?_⟩
         exact AX.weaken (Wk.to (L := [(2, (i64 p2)), (3, (ls eI p3)), (12, (.ptr 0 0 0 0)), (47, (.ptr 1 0 0 0)), (50, (.iptr (eI c34) 0))]) ⟨.rfl, .rfl, .rfl, .rfl, .rfl, trivial⟩) (AX.lst (by kernel_rfl) ((hA36 _ _ _).1 A36_0239)) rfl)
       have A36_02 : A36 10 #[true, false, true, false, false, false, false, false, false, false, false, false] ⟨149, envL [(2, (i64 p2)), (3, (ls eI p3)), (47, (.ptr 0 0 0 0)), (49, (ls eI p3))], [⟨0, 97, 2, [(eRSignatures p0)]⟩]⟩ := (hA36 _ _ _).2 (by
        refine AX.all [1, 3, 9] rfl (by kernel_rfl) (by decide) ⟨?_, ?_, ?_, trivial⟩
        ·refine AXs.of (i := 1) rfl rfl (by rfl) ?_
         refine zq tb rfl ?_
         refine AO.done ⟨rfl, ?_⟩
         exact AX.weaken (by refine Wk.trans (Wk.permk (L := [(2, (i64 p2)), (3, (ls eI p3)), (48, (ls eRDecl p0.decls)), (49, (ls eI p3))]) (st' := []) (st1 := []) [] rfl .nil (by decide) rfl rfl .nil ⟨.rfl, .rfl, .rfl, .rfl, trivial⟩) ?_; exact Wk.to (L := [(2, (i64 p2)), (3, (ls eI p3)), (48, (ls eRDecl p0.decls)), (49, (ls eI p3))]) ⟨.rfl, .rfl, .rfl, .rfl, trivial⟩) (AX.lst (by kernel_rfl) ((hA36 _ _ _).1 A36_012)) rfl
        ·refine AXs.of (i := 3) rfl rfl (by rfl) ?_
         refine zx ei40 gc34 rfl rfl rfl ?_
         refine AO.done ⟨rfl, ?_⟩
         exact AX.weaken (Wk.to (L := [(2, (i64 p2)), (3, (ls eI p3)), (47, (.ptr 0 0 0 0)), (50, (.iptr (eI c34) 0))]) ⟨.rfl, .rfl, .rfl, .rfl, trivial⟩) (AX.lst (by kernel_rfl) ((hA36 _ _ _).1 A36_023)) rfl
        ·refine AXs.of (i := 9) rfl rfl (by rfl) ?_
         refine ao_alloc (m := 1) (st' := [⟨0, 97, 2, [(eRSignatures p0)]⟩, ⟨0, 80, 3, [[(i64 0), (i64 0), .zc]]⟩]) go0 zi80 rfl rfl ?_
         refine AO.done ⟨rfl, ?_⟩
         exact AX.weaken (by refine Wk.trans (Wk.permk (L := [(2, (i64 p2)), (3, (ls eI p3)), (12, (.ptr 0 0 0 0)), (47, (.ptr 1 0 0 0)), (49, (ls eI p3))]) (st' := [⟨0, 80, 3, [[(i64 0), (i64 0), .zc]]⟩, ⟨0, 97, 2, [(eRSignatures p0)]⟩]) (st1 := [⟨0, 80, 3, [[(i64 0), (i64 0), .zc]]⟩, ⟨0, 97, 2, [(eRSignatures p0)]⟩]) [1, 0] rfl .nil (by decide) rfl rfl (.raw rfl rfl (.raw rfl rfl .nil)) ⟨.rfl, .rfl, .rfl, .rfl, .rfl, trivial⟩) ?_; exact Wk.to (L := [(2, (i64 p2)), (3, (ls eI p3)), (12, (.ptr 0 0 0 0)), (47, (.ptr 1 0 0 0)), (49, (ls eI p3))]) ⟨.rfl, .rfl, .rfl, .rfl, .rfl, trivial⟩) (AX.lst (by kernel_rfl) ((hA36 _ _ _).1 A36_029)) rfl)
       have A36_2349 : A36 8 #[false, false, true, true, true, false, false, false, false, true, false, false] ⟨149, envL [(2, (i64 p2)), (3, (ls eI p3)), (4, (.ptr 0 0 0 0)), (12, (.ptr 1 0 0 0)), (51, (i64 c34))], [⟨0, 97, 2, [(eRSignatures p0)]⟩, ⟨0, 80, 3, [[(i64 0), (i64 0), .zc]]⟩]⟩ := (hA36 _ _ _).2 (by
        refine AX.all [0] rfl (by kernel_rfl) (by decide) ⟨?_, trivial⟩
        ·refine AXs.of (i := 0) rfl rfl (by rfl) ?_
         refine zq tb rfl ?_
         refine AO.done ⟨rfl, ?_⟩
         exact AX.weaken (by refine Wk.trans (Wk.permk (L := [(2, (i64 p2)), (3, (ls eI p3)), (12, (.ptr 0 0 0 0)), (47, (.ptr 1 0 0 0)), (51, (i64 c34))]) (st' := [⟨0, 80, 3, [[(i64 0), (i64 0), .zc]]⟩, ⟨0, 97, 2, [(eRSignatures p0)]⟩]) (st1 := [⟨0, 80, 3, [[(i64 0), (i64 0), .zc]]⟩, ⟨0, 97, 2, [(eRSignatures p0)]⟩]) [1, 0] rfl .nil (by decide) rfl rfl (.raw rfl rfl (.raw rfl rfl .nil)) ⟨.rfl, .rfl, .rfl, .rfl, .rfl, trivial⟩) ?_; exact Wk.to (L := [(2, (i64 p2)), (3, (ls eI p3)), (12, (.ptr 0 0 0 0)), (47, (.ptr 1 0 0 0)), (51, (i64 c34))]) ⟨.rfl, .rfl, .rfl, .rfl, .rfl, trivial⟩) (AX.lst (by kernel_rfl) ((hA36 _ _ _).1 A36_02349)) rfl)
       have A36_234 : A36 9 #[false, false, true, true, true, false, false, false, false, false, false, false] ⟨149, envL [(2, (i64 p2)), (3, (ls eI p3)), (4, (.ptr 0 0 0 0)), (51, (i64 c34))], [⟨0, 97, 2, [(eRSignatures p0)]⟩]⟩ := (hA36 _ _ _).2 (by
        refine AX.all [0, 9] rfl (by kernel_rfl) (by decide) ⟨?_, ?_, trivial⟩
        ·refine AXs.of (i := 0) rfl rfl (by rfl) ?_
         refine zq tb rfl ?_
         refine AO.done ⟨rfl, ?_⟩
         exact AX.weaken (Wk.to (L := [(2, (i64 p2)), (3, (ls eI p3)), (47, (.ptr 0 0 0 0)), (51, (i64 c34))]) ⟨.rfl, .rfl, .rfl, .rfl, trivial⟩) (AX.lst (by kernel_rfl) ((hA36 _ _ _).1 A36_0234)) rfl
        ·refine AXs.of (i := 9) rfl rfl (by rfl) ?_
         refine ao_alloc (m := 1) (st' := [⟨0, 97, 2, [(eRSignatures p0)]⟩, ⟨0, 80, 3, [[(i64 0), (i64 0), .zc]]⟩]) go0 zi80 rfl rfl ?_
         refine AO.done ⟨rfl, ?_⟩
         exact AX.weaken (Wk.to (L := [(2, (i64 p2)), (3, (ls eI p3)), (4, (.ptr 0 0 0 0)), (12, (.ptr 1 0 0 0)), (51, (i64 c34))]) ⟨.rfl, .rfl, .rfl, .rfl, .rfl, trivial⟩) (AX.lst (by kernel_rfl) ((hA36 _ _ _).1 A36_2349)) rfl)
       have A36_239 : A36 9 #[false, false, true, true, false, false, false, false, false, true, false, false] ⟨149, envL [(2, (i64 p2)), (3, (ls eI p3)), (4, (.ptr 0 0 0 0)), (12, (.ptr 1 0 0 0)), (50, (.iptr (eI c34) 0))], [⟨0, 97, 2, [(eRSignatures p0)]⟩, ⟨0, 80, 3, [[(i64 0), (i64 0), .zc]]⟩]⟩ := (hA36 _ _ _).2 (by
        refine AX.all [0, 4] rfl (by kernel_rfl) (by decide) ⟨?_, ?_, trivial⟩
        ·refine AXs.of (i := 0) rfl rfl (by rfl) ?_
         refine zq tb rfl ?_
         refine AO.done ⟨rfl, ?_⟩
         exact AX.weaken (by refine Wk.trans (Wk.permk (L := [(2, (i64 p2)), (3, (ls eI p3)), (12, (.ptr 0 0 0 0)), (47, (.ptr 1 0 0 0)), (50, (.iptr (eI c34) 0))]) (st' := [⟨0, 80, 3, [[(i64 0), (i64 0), .zc]]⟩, ⟨0, 97, 2, [(eRSignatures p0)]⟩]) (st1 := [⟨0, 80, 3, [[(i64 0), (i64 0), .zc]]⟩, ⟨0, 97, 2, [(eRSignatures p0)]⟩]) [1, 0] rfl .nil (by decide) rfl rfl (.raw rfl rfl (.raw rfl rfl .nil)) ⟨.rfl, .rfl, .rfl, .rfl, .rfl, trivial⟩) ?_; exact Wk.to (L := [(2, (i64 p2)), (3, (ls eI p3)), (12, (.ptr 0 0 0 0)), (47, (.ptr 1 0 0 0)), (50, (.iptr (eI c34) 0))]) ⟨.rfl, .rfl, .rfl, .rfl, .rfl, trivial⟩) (AX.lst (by kernel_rfl) ((hA36 _ _ _).1 A36_0239)) rfl
        ·refine AXs.of (i := 4) rfl rfl (by rfl) ?_
         refine zq tb rfl ?_
         refine AO.done ⟨rfl, ?_⟩
         exact AX.weaken (Wk.to (L := [(2, (i64 p2)), (3, (ls eI p3)), (4, (.ptr 0 0 0 0)), (12, (.ptr 1 0 0 0)), (51, (i64 c34))]) ⟨.rfl, .rfl, .rfl, .rfl, .rfl, trivial⟩) (AX.lst (by kernel_rfl) ((hA36 _ _ _).1 A36_2349)) rfl)
       have A36_23 : A36 10 #[false, false, true, true, false, false, false, false, false, false, false, false] ⟨149, envL [(2, (i64 p2)), (3, (ls eI p3)), (4, (.ptr 0 0 0 0)), (50, (.iptr (eI c34) 0))], [⟨0, 97, 2, [(eRSignatures p0)]⟩]⟩ := (hA36 _ _ _).2 (by
        refine AX.all [0, 4, 9] rfl (by kernel_rfl) (by decide) ⟨?_, ?_, ?_, trivial⟩
        ·refine AXs.of (i := 0) rfl rfl (by rfl) ?_
         refine zq tb rfl ?_
         refine AO.done ⟨rfl, ?_⟩
         exact AX.weaken (Wk.to (L := [(2, (i64 p2)), (3, (ls eI p3)), (47, (.ptr 0 0 0 0)), (50, (.iptr (eI c34) 0))]) ⟨.rfl, .rfl, .rfl, .rfl, trivial⟩) (AX.lst (by kernel_rfl) ((hA36 _ _ _).1 A36_023)) rfl
        ·refine AXs.of (i := 4) rfl rfl (by rfl) ?_
         refine zq tb rfl ?_
         refine AO.done ⟨rfl, ?_⟩
         exact AX.weaken (Wk.to (L := [(2, (i64 p2)), (3, (ls eI p3)), (4, (.ptr 0 0 0 0)), (51, (i64 c34))]) ⟨.rfl, .rfl, .rfl, .rfl, trivial⟩) (AX.lst (by kernel_rfl) ((hA36 _ _ _).1 A36_234)) rfl
        ·refine AXs.of (i := 9) rfl rfl (by rfl) ?_
         refine ao_alloc (m := 1) (st' := [⟨0, 97, 2, [(eRSignatures p0)]⟩, ⟨0, 80, 3, [[(i64 0), (i64 0), .zc]]⟩]) go0 zi80 rfl rfl ?_
         refine AO.done ⟨rfl, ?_⟩
         exact AX.weaken (Wk.to (L := [(2, (i64 p2)), (3, (ls eI p3)), (4, (.ptr 0 0 0 0)), (12, (.ptr 1 0 0 0)), (50, (.iptr (eI c34) 0))]) ⟨.rfl, .rfl, .rfl, .rfl, .rfl, trivial⟩) (AX.lst (by kernel_rfl) ((hA36 _ _ _).1 A36_239)) rfl)
       have A36_29 : A36 10 #[false, false, true, false, false, false, false, false, false, true, false, false] ⟨149, envL [(2, (i64 p2)), (3, (ls eI p3)), (4, (.ptr 0 0 0 0)), (12, (.ptr 1 0 0 0)), (49, (ls eI p3))], [⟨0, 97, 2, [(eRSignatures p0)]⟩, ⟨0, 80, 3, [[(i64 0), (i64 0), .zc]]⟩]⟩ := (hA36 _ _ _).2 (by
        refine AX.all [0, 3] rfl (by kernel_rfl) (by decide) ⟨?_, ?_, trivial⟩
        ·refine AXs.of (i := 0) rfl rfl (by rfl) ?_
         refine zq tb rfl ?_
         refine AO.done ⟨rfl, ?_⟩
         exact AX.weaken (by refine Wk.trans (Wk.permk (L := [(2, (i64 p2)), (3, (ls eI p3)), (12, (.ptr 0 0 0 0)), (47, (.ptr 1 0 0 0)), (49, (ls eI p3))]) (st' := [⟨0, 80, 3, [[(i64 0), (i64 0), .zc]]⟩, ⟨0, 97, 2, [(eRSignatures p0)]⟩]) (st1 := [⟨0, 80, 3, [[(i64 0), (i64 0), .zc]]⟩, ⟨0, 97, 2, [(eRSignatures p0)]⟩]) [1, 0] rfl .nil (by decide) rfl rfl (.raw rfl rfl (.raw rfl rfl .nil)) ⟨.rfl, .rfl, .rfl, .rfl, .rfl, trivial⟩) ?_; exact Wk.to (L := [(2, (i64 p2)), (3, (ls eI p3)), (12, (.ptr 0 0 0 0)), (47, (.ptr 1 0 0 0)), (49, (ls eI p3))]) ⟨.rfl, .rfl, .rfl, .rfl, .rfl, trivial⟩) (AX.lst (by kernel_rfl) ((hA36 _ _ _).1 A36_029)) rfl
        ·refine AXs.of (i := 3) rfl rfl (by rfl) ?_
         refine zx ei40 gc34 rfl rfl rfl ?_
         refine AO.done ⟨rfl, ?_⟩
         exact AX.weaken (Wk.to (L := [(2, (i64 p2)), (3, (ls eI p3)), (4, (.ptr 0 0 0 0)), (12, (.ptr 1 0 0 0)), (50, (.iptr (eI c34) 0))]) ⟨.rfl, .rfl, .rfl, .rfl, .rfl, trivial⟩) (AX.lst (by kernel_rfl) ((hA36 _ _ _).1 A36_239)) rfl)
       have A36_2 : A36 11 #[false, false, true, false, false, false, false, false, false, false, false, false] ⟨149, envL [(2, (i64 p2)), (3, (ls eI p3)), (4, (.ptr 0 0 0 0)), (49, (ls eI p3))], [⟨0, 97, 2, [(eRSignatures p0)]⟩]⟩ := (hA36 _ _ _).2 (by
        refine AX.all [0, 3, 9] rfl (by kernel_rfl) (by decide) ⟨?_, ?_, ?_, trivial⟩
        ·refine AXs.of (i := 0) rfl rfl (by rfl) ?_
         refine zq tb rfl ?_
         refine AO.done ⟨rfl, ?_⟩
         exact AX.weaken (Wk.to (L := [(2, (i64 p2)), (3, (ls eI p3)), (47, (.ptr 0 0 0 0)), (49, (ls eI p3))]) ⟨.rfl, .rfl, .rfl, .rfl, trivial⟩) (AX.lst (by kernel_rfl) ((hA36 _ _ _).1 A36_02)) rfl
        ·refine AXs.of (i := 3) rfl rfl (by rfl) ?_
         refine zx ei40 gc34 rfl rfl rfl ?_
         refine AO.done ⟨rfl, ?_⟩
         exact AX.weaken (Wk.to (L := [(2, (i64 p2)), (3, (ls eI p3)), (4, (.ptr 0 0 0 0)), (50, (.iptr (eI c34) 0))]) ⟨.rfl, .rfl, .rfl, .rfl, trivial⟩) (AX.lst (by kernel_rfl) ((hA36 _ _ _).1 A36_23)) rfl
        ·refine AXs.of (i := 9) rfl rfl (by rfl) ?_
         refine ao_alloc (m := 1) (st' := [⟨0, 97, 2, [(eRSignatures p0)]⟩, ⟨0, 80, 3, [[(i64 0), (i64 0), .zc]]⟩]) go0 zi80 rfl rfl ?_
         refine AO.done ⟨rfl, ?_⟩
         exact AX.weaken (Wk.to (L := [(2, (i64 p2)), (3, (ls eI p3)), (4, (.ptr 0 0 0 0)), (12, (.ptr 1 0 0 0)), (49, (ls eI p3))]) ⟨.rfl, .rfl, .rfl, .rfl, .rfl, trivial⟩) (AX.lst (by kernel_rfl) ((hA36 _ _ _).1 A36_29)) rfl)
       have A36_e : A36 12 #[false, false, false, false, false, false, false, false, false, false, false, false] ⟨149, envL [(2, (i64 p2)), (3, (ls eI p3)), (4, (.ptr 0 0 0 0))], [⟨0, 97, 2, [(eRSignatures p0)]⟩]⟩ := (hA36 _ _ _).2 (by
        refine AX.hoist 2 (v := (ls eI p3)) rfl rfl (by kernel_rfl) (by kernel_rfl) (by kernel_rfl) rfl (hoist_mv rfl) ?_
        exact AX.weaken (Wk.to (L := [(2, (i64 p2)), (3, (ls eI p3)), (4, (.ptr 0 0 0 0)), (49, (ls eI p3))]) ⟨.rfl, .rfl, .rfl, .rfl, trivial⟩) (AX.lst (by kernel_rfl) ((hA36 _ _ _).1 A36_2)) rfl)
       refine (hA36 _ _ _).2 ?_
       exact AX.weaken (Wk.to (L := [(2, (i64 p2)), (3, (ls eI p3)), (4, (.ptr 0 0 0 0))]) ⟨.rfl, .rfl, .rfl, trivial⟩) (AX.lst (by kernel_rfl) ((hA36 _ _ _).1 A36_e)) rfl
     ·intro b26 h1
      refine zr tb rfl rfl ?_
      refine ci h1 rfl ?_ ?_ <;> clear h1
      ·intro b38 h1
       refine sr rfl fun K39 hK39 => ?_
       refine zm tb 3 rfl ?_
       obtain ⟨q40, gq40, h1⟩ := Sh.bind_some h1
       refine zc (v' := (.tup [(i64 q40.1), (.agg (eRCon q40.2))])) hb120 (impl_conAt_ok gq40) rfl rfl rfl ?_
       refine zm tb 3 rfl ?_
       refine ao_alloc (m := 1) (st' := [⟨0, 97, 2, [(eRSignatures p0)]⟩, ⟨0, 130, 1, [[.zc]]⟩]) go0 zi130 rfl rfl ?_
       refine zq tb rfl ?_
       refine ao_str (st' := [⟨0, 97, 2, [(eRSignatures p0)]⟩, ⟨0, 130, 1, [(eRCon q40.2)]⟩]) go0 ti130 rfl rfl rfl rfl rfl rfl (show 0 + 1 ≤ 1 by decide) rfl ?_
       refine dn hK39 rfl ?_
       refine AW.seq fun K41 hK41 => ?_
       obtain ⟨o43, h2, h1⟩ := Sh.bind_some h1
       have M43 : ∀ (t42 : Bool), o43 = t42 → ∀ s, Wk 0 s ⟨149, envL [(8, (i64 q40.1)), (9, (.bool t42))], []⟩ → K41 s := by
        intro t42 hq s hw
        subst o43
        try dsimp only at h1
        refine hK41 _ (AW.weaken hw ?_)
        replace h1 := Sh.some_eq h1
        subst o5
        try dsimp only [id] at h0
        replace h0 := Sh.some_eq h0
        subst r
        exact AW.ret (xr (Wk.to (L := [(8, (i64 q40.1)), (9, (.bool t42))]) ⟨.rfl, .rfl, trivial⟩))
       refine AW.regionO (by rfl) ?_
       refine zm tb 4 rfl ?_
       rcases Sh.ite_some h2 with ⟨b44, h2⟩ | ⟨b44, h2⟩
       ·refine zg tb b44 rfl ?_
        iterate 2 refine zg tb b44 rfl ?_
        obtain ⟨q45, gq45, h2⟩ := Sh.bind_some h2
        refine zd b44 hb122 (slices_Equal_int_int_ok gq45) rfl rfl rfl rfl ?_
        refine zt b44 rfl ?_
        refine zm tb 2 rfl ?_
        exact AO.done (M43 q45 (Sh.some_eq h2).symm _ (Wk.d0 _ rfl))
       ·refine zs b44 rfl ?_
        iterate 3 refine zs b44 rfl ?_
        refine zf b44 rfl ?_
        refine zm tb 2 rfl ?_
        exact AO.done (M43 false (Sh.some_eq h2).symm _ (Wk.d0 _ rfl))
      ·intro b38 h1
       refine AW.seq fun K46 hK46 => ?_
       obtain ⟨o48, h2, h1⟩ := Sh.bind_some h1
       have M48 : ∀ (t47 : Bool), o48 = t47 → ∀ s, Wk 0 s ⟨149, envL [(1, (i64 p1)), (2, (i64 p2)), (3, (ls eI p3)), (4, (.ptr 0 0 0 0)), (88, (.bool t47))], [⟨0, 97, 2, [(eRSignatures p0)]⟩]⟩ → K46 s := by
        intro t47 hq s hw
        subst o48
        try dsimp only at h1
        refine hK46 _ (AW.weaken hw ?_)
        refine ci h1 rfl ?_ ?_ <;> clear h1
        ·intro b49 h1
         refine AW.seq fun K50 hK50 => ?_
         refine AW.seq fun K51 hK51 => ?_
         obtain ⟨o53, h2, h1⟩ := Sh.bind_some h1
         have M53 : ∀ (t52 : Bool), o53 = t52 → ∀ s, Wk 0 s ⟨149, envL [(1, (i64 p1)), (2, (i64 p2)), (3, (ls eI p3)), (4, (.ptr 0 0 0 0)), (99, (.bool t52))], [⟨0, 97, 2, [(eRSignatures p0)]⟩]⟩ → K51 s := by
          intro t52 hq s hw
          subst o53
          try dsimp only at h1
          refine hK51 _ (AW.weaken hw ?_)
          refine ci h1 rfl ?_ ?_ <;> clear h1
          ·intro b54 h1
           refine zr tb rfl rfl ?_
           replace h1 := Sh.some_eq h1
           subst o5
           try dsimp only [id] at h0
           replace h0 := Sh.some_eq h0
           subst r
           exact AW.ret (xr (Wk.d0 [(8, (i64 (-1))), (9, (.bool false))] rfl))
          ·intro b54 h1
           refine AW.skip (hK50 _ ?_)
           refine AW.seq fun K56 hK56 => ?_
           refine AW.draw (by kernel_rfl) (by kernel_rfl) (by rfl) ?_
           iterate 3 refine yq tb rfl ?_
           obtain ⟨c57, gc57, h1⟩ := Sh.bind_some h1
           refine yx ei91 gc57 rfl rfl rfl ?_
           iterate 5 refine yq tb rfl ?_
           refine yx ei91 gc57 rfl rfl rfl ?_
           iterate 4 refine yq tb rfl ?_
           refine d_done (hK56 _ ?_)
           refine AW.seq fun K58 hK58 => ?_
           refine zr tb rfl rfl ?_
           refine ci h1 rfl ?_ ?_ <;> clear h1
           ·intro b60 h1
            refine sr rfl fun K61 hK61 => ?_
            refine zm tb 3 rfl ?_
            obtain ⟨q62, gq62, h1⟩ := Sh.bind_some h1
            refine zc hb122 (slices_Equal_int_int_ok gq62) rfl rfl rfl ?_
            refine zm tb 2 rfl ?_
            refine dn hK61 rfl ?_
            replace h1 := Sh.some_eq h1
            subst o5
            try dsimp only [id] at h0
            replace h0 := Sh.some_eq h0
            subst r
            exact AW.ret (xr (Wk.d0 [(8, (i64 c57.result)), (9, (.bool q62))] rfl))
           ·intro b60 h1
            refine AW.skip (hK58 _ ?_)
            refine sr rfl fun K63 hK63 => ?_
            refine zq tb rfl ?_
            refine zl tb rfl rfl ?_
            refine zm tb 2 rfl ?_
            refine dn hK63 rfl ?_
            refine AW.seq fun K64 hK64 => ?_
            refine zr tb rfl rfl ?_
            refine ci h1 rfl ?_ ?_ <;> clear h1
            ·intro b66 h1
             refine zr tb rfl rfl ?_
             replace h1 := Sh.some_eq h1
             subst o5
             try dsimp only [id] at h0
             replace h0 := Sh.some_eq h0
             subst r
             exact AW.ret (xr (Wk.d0 [(8, (i64 (-1))), (9, (.bool false))] rfl))
            ·intro b66 h1
             refine AW.skip (hK64 _ ?_)
             refine AW.seq fun K68 hK68 => ?_
             refine AW.draw (by kernel_rfl) (by kernel_rfl) (by rfl) ?_
             iterate 4 refine yq tb rfl ?_
             obtain ⟨c69, gc69, h1⟩ := Sh.bind_some h1
             refine yx ei40 gc69 rfl rfl rfl ?_
             iterate 2 refine yq tb rfl ?_
             obtain ⟨q70, gq70, h1⟩ := Sh.bind_some h1
             refine d_call (v := (i64 q70)) go0 hb123 (impl_arrowOf_ok gq70) rfl rfl rfl ?_
             refine yq tb rfl ?_
             refine d_done (hK68 _ ?_)
             refine AW.seq fun K71 hK71 => ?_
             obtain ⟨o73, h2, h1⟩ := Sh.bind_some h1
             have M73 : ∀ (t72 : Bool), o73 = t72 → ∀ s, Wk 0 s ⟨149, envL [(8, (i64 q70)), (9, (.bool t72))], []⟩ → K71 s := by
              intro t72 hq s hw
              subst o73
              try dsimp only at h1
              refine hK71 _ (AW.weaken hw ?_)
              replace h1 := Sh.some_eq h1
              subst o5
              try dsimp only [id] at h0
              replace h0 := Sh.some_eq h0
              subst r
              exact AW.ret (xr (Wk.to (L := [(8, (i64 q70)), (9, (.bool t72))]) ⟨.rfl, .rfl, trivial⟩))
             refine AW.regionO (by rfl) ?_
             refine zm tb 4 rfl ?_
             rcases Sh.ite_some h2 with ⟨b74, h2⟩ | ⟨b74, h2⟩
             ·refine zg tb b74 rfl ?_
              iterate 2 refine zg tb b74 rfl ?_
              obtain ⟨l75, gl75, h2⟩ := Sh.bind_some h2
              refine ao_sls (i := 0) (j := Sh.w ((Sh.len c57.params) - 1)) (go1 rfl rfl b74) ei40 rfl rfl rfl (fun _ => rfl) gl75 ?_
              obtain ⟨q76, gq76, h2⟩ := Sh.bind_some h2
              refine zd b74 hb122 (slices_Equal_int_int_ok gq76) rfl rfl rfl rfl ?_
              refine zt b74 rfl ?_
              refine zm tb 2 rfl ?_
              exact AO.done (M73 q76 (Sh.some_eq h2).symm _ (Wk.d0 _ rfl))
             ·refine zs b74 rfl ?_
              iterate 4 refine zs b74 rfl ?_
              refine zf b74 rfl ?_
              refine zm tb 2 rfl ?_
              exact AO.done (M73 false (Sh.some_eq h2).symm _ (Wk.d0 _ rfl))
         refine AW.regionO (by rfl) ?_
         refine zm tb 3 rfl ?_
         rcases Sh.ite_some h2 with ⟨b77, h2⟩ | ⟨b77, h2⟩
         ·refine zs b77 rfl ?_
          iterate 4 refine zs b77 rfl ?_
          refine zt b77 rfl ?_
          exact AO.done (M53 true (Sh.some_eq h2).symm _ (Wk.tr rfl))
         ·refine zg tb b77 rfl ?_
          iterate 2 refine zg tb b77 rfl ?_
          refine ao_q (v := (i64 (Sh.len p0.funcs))) (go1 rfl rfl b77) rfl (aq_lens sl91 rfl) ?_
          refine zg tb b77 rfl ?_
          refine zf b77 rfl ?_
          exact AO.done (M53 (decide ((Sh.len p0.funcs) ≤ p2)) (Sh.some_eq h2).symm _ (Wk.tr rfl))
        ·intro b49 h1
         refine zr tb rfl rfl ?_
         replace h1 := Sh.some_eq h1
         subst o5
         try dsimp only [id] at h0
         replace h0 := Sh.some_eq h0
         subst r
         exact AW.ret (xr (Wk.d0 [(8, (i64 (-1))), (9, (.bool false))] rfl))
       refine zr tb rfl rfl ?_
       refine ci h2 rfl ?_ ?_ <;> clear h2
       ·intro b80 h2
        exact AW.skip (M48 true (Sh.some_eq h2).symm _ (Wk.to (L := [(1, (i64 p1)), (2, (i64 p2)), (3, (ls eI p3)), (4, (.ptr 0 0 0 0)), (88, (.bool true))]) ⟨.rfl, .rfl, .rfl, .rfl, (.of (congrArg AV.bool b80)), trivial⟩))
       ·intro b80 h2
        refine AW.regionO (by rfl) ?_
        refine zm tb 2 rfl ?_
        exact AO.done (M48 (decide (p1 = 10)) (Sh.some_eq h2).symm _ (Wk.tr rfl))
  refine zr tb rfl rfl ?_
  refine ci h2 rfl ?_ ?_ <;> clear h2
  ·intro b82 h2
   exact AW.skip (M21 true (Sh.some_eq h2).symm _ (Wk.to (L := [(1, (i64 p1)), (2, (i64 p2)), (3, (ls eI p3)), (4, (.ptr 0 0 0 0)), (11, (i64 0)), (18, (i64 p1)), (32, (.bool true))]) ⟨.rfl, .rfl, .rfl, .rfl, .rfl, .rfl, (.of (congrArg AV.bool b82)), trivial⟩))
  ·intro b82 h2
   refine zr tb rfl rfl ?_
   refine ci h2 rfl ?_ ?_ <;> clear h2
   ·intro b84 h2
    exact AW.skip (M21 true (Sh.some_eq h2).symm _ (Wk.to (L := [(1, (i64 p1)), (2, (i64 p2)), (3, (ls eI p3)), (4, (.ptr 0 0 0 0)), (11, (i64 0)), (18, (i64 p1)), (32, (.bool true))]) ⟨.rfl, .rfl, .rfl, .rfl, .rfl, .rfl, (.of (congrArg AV.bool b84)), trivial⟩))
   ·intro b84 h2
    refine zr tb rfl rfl ?_
    refine ci h2 rfl ?_ ?_ <;> clear h2
    ·intro b86 h2
     exact AW.skip (M21 true (Sh.some_eq h2).symm _ (Wk.to (L := [(1, (i64 p1)), (2, (i64 p2)), (3, (ls eI p3)), (4, (.ptr 0 0 0 0)), (11, (i64 0)), (18, (i64 p1)), (32, (.bool true))]) ⟨.rfl, .rfl, .rfl, .rfl, .rfl, .rfl, (.of (congrArg AV.bool b86)), trivial⟩))
    ·intro b86 h2
     refine AW.regionO (by rfl) ?_
     refine zm tb 2 rfl ?_
     exact AO.done (M21 (decide (p1 = 4)) (Sh.some_eq h2).symm _ (Wk.tr rfl))
end Go.Proofs.Ytpahalfiiahddaa

