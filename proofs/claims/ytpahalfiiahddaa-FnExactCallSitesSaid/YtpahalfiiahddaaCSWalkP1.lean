import Derived.Test.YtpahalfiiahddaaProg
import Derived.Test.YtpahalfiiahddaaCSDefs
import Derived.Test.YtpahalfiiahddaaCSWalkP0
namespace Go.Proofs.Ytpahalfiiahddaa
open Go Go.Abs RC
attribute [local irreducible] Go.Abs.dops
set_option maxRecDepth 100000
set_option maxHeartbeats 4000000

theorem ai130 : allInfo Try.prog 130 = true := by kernel_rfl
theorem ai80 : allInfo Try.prog 80 = true := by kernel_rfl
theorem ai93 : allInfo Try.prog 93 = true := by kernel_rfl
theorem ai97 : allInfo Try.prog 97 = true := by kernel_rfl
theorem bi130 : finfos Try.prog 130 = some [(0, 1)] := by kernel_rfl
theorem bi80 : finfos Try.prog 80 = some [(0, 1), (1, 1), (2, 1)] := by kernel_rfl
theorem bi93 : finfos Try.prog 93 = some [(0, 1), (1, 1), (2, 1)] := by kernel_rfl
theorem bi97 : finfos Try.prog 97 = some [(0, 1), (1, 1)] := by kernel_rfl
theorem ei123 : einfo Try.prog 123 = some ⟨40, 1, 24, [.sl []]⟩ := by kernel_rfl
theorem hb118 : hasBody Try.prog 118 = true := by kernel_rfl
theorem hb119 : hasBody Try.prog 119 = true := by kernel_rfl
theorem hb120 : hasBody Try.prog 120 = true := by kernel_rfl
theorem hb128 : hasBody Try.prog 128 = true := by kernel_rfl
theorem hb57 : hasBody Try.prog 57 = true := by kernel_rfl
theorem hb61 : hasBody Try.prog 61 = true := by kernel_rfl
theorem hb91 : hasBody Try.prog 91 = true := by kernel_rfl
theorem iT3 : Program.underlying Try.prog 3 = some (.int .i64) := by kernel_rfl
theorem ti91 : tinfo Try.prog 91 = some (false, 1) := by kernel_rfl
theorem ti97 : tinfo Try.prog 97 = some (true, 2) := by kernel_rfl
theorem zi3 : zinfo Try.prog 3 = some [.int .i64 0] := by kernel_rfl
theorem zi97 : zinfo Try.prog 97 = some [.zc, .zc] := by kernel_rfl

theorem impl_ValidSigs_ok {N : Nat} {p0 : RProgram} {r : Bool} (h0 : impl_ValidSigs N p0 = some r) : ACalls Try.prog 38 [(.agg [(ls eRDecl p0.decls), (ls eRFunc p0.funcs)])] [] (fun v st => v = (.bool r) ∧ st = []) := by
 unfold impl_ValidSigs at h0
 refine ai Try.func38 rfl rfl rfl rfl (sr rfl fun K1 hK1 => ao_box (m := 0) (st' := [⟨0, 31, 2, [[(ls eRDecl p0.decls), (ls eRFunc p0.funcs)]]⟩]) go0 rfl rfl rfl rfl rfl (zq tb rfl (dn hK1 rfl (sr rfl fun K2 hK2 => ao_make0 (c := 4) (m := 1) (st' := [⟨0, 31, 2, [[(ls eRDecl p0.decls), (ls eRFunc p0.funcs)]]⟩, (ro 0 93 3 eRSignature ([] : List RSignature))]) ei91 rfl rfl rfl rfl rfl (zq tb rfl (dn hK2 rfl (AW.seq fun K3 hK3 => sr rfl fun K4 hK4 => zm tb 2 rfl ?_)))))))
 refine zl tb rfl rfl (zq tb rfl (dn hK4 rfl ?_))
 refine ci h0 rfl ?_ ?_ <;> clear h0
 ·intro b5 h0
  refine zr tb rfl rfl ?_
  replace h0 := Sh.some_eq h0
  subst r
  exact AW.ret (xr (Wk.d0 [(2, (.bool false))] rfl))
 ·intro b5 h0
  refine AW.skip (hK3 _ (AW.seq fun K7 hK7 => sr rfl fun K8 hK8 => zm tb 2 rfl (zl tb rfl rfl (zq tb rfl (dn hK8 rfl (bs h0 fun o12 h1 h0 => ?_))))))
  have M12 : ∀ (l11 : (List RSignature)), o12 = l11 → ∀ s, Wk 0 s ⟨31, envL [(1, (.ptr 0 0 0 0)), (3, (ow 1 0 l11))], [⟨0, 31, 2, [[(ls eRDecl p0.decls), (ls eRFunc p0.funcs)]]⟩, (ro 0 93 3 eRSignature l11)]⟩ → K7 s := by
   intro l11 hq s hw
   subst o12
   try dsimp only at h0
   refine hK7 _ (AW.weaken hw (sr rfl fun K13 hK13 => zm tb 3 rfl (AO.weaken (Wk.frz (L := [(28, (ls eRDecl p0.decls)), (29, (ls eRSignature l11))]) (st' := [⟨0, 31, 2, [[(ls eRDecl p0.decls), (ls eRFunc p0.funcs)]]⟩, ⟨1, 93, 3, []⟩]) (id := 1) rfl (show 0 ≤ 1 by decide) (pure_map fun _ => rfl) ⟨.rfl, (.frz rfl), trivial⟩ rfl) (bs h0 fun q14 gq14 h0 => zc hb57 (impl_validSigs_ok gq14) rfl rfl rfl (zq tb rfl (dn hK13 rfl ?_))))))
   replace h0 := Sh.some_eq h0
   subst r
   exact AW.ret (xr (Wk.d0 [(2, (.bool q14))] rfl))
  refine AW.block (AW.loopF (σ := Int × (List RSignature)) (fun n v => impl_ValidSigs_L1 p0 n v.1 v.2 = some o12) (fun (t9, l10) => ⟨31, envL [(1, (.ptr 0 0 0 0)), (3, (ow 1 0 l10)), (12, (ls eRFunc p0.funcs)), (13, (i64 (Sh.len p0.funcs))), (14, (i64 t9))], [⟨0, 31, 2, [[(ls eRDecl p0.decls), (ls eRFunc p0.funcs)]]⟩, (ro 0 93 3 eRSignature l10)]⟩) N (0, []) h1 (Wk.tr rfl) (fun _ hv => by rw [impl_ValidSigs_L1] at hv; cases hv) ?_)
  rintro n ⟨t9, l10⟩ h1
  try dsimp only at h1 ⊢
  rw [impl_ValidSigs_L1] at h1
  refine zr tb rfl rfl (AW.seq fun K16 hK16 => ?_)
  refine ci h1 rfl ?_ ?_ <;> clear h1
  ·intro b17 h1
   refine AW.skip (hK16 _ (AW.seq fun K18 hK18 => AW.block (sr rfl fun K19 hK19 => bs h1 fun c20 gc20 h1 => zx ei29 gc20 rfl rfl rfl (zq tb rfl (ao_alloc (m := 2) (st' := [⟨0, 31, 2, [[(ls eRDecl p0.decls), (ls eRFunc p0.funcs)]]⟩, (ro 0 93 3 eRSignature l10), ⟨0, 52, 5, [[.zc, (i64 0), (i64 0), (i64 0), .zc]]⟩]) go0 zi52 rfl rfl (ao_str (st' := [⟨0, 31, 2, [[(ls eRDecl p0.decls), (ls eRFunc p0.funcs)]]⟩, (ro 0 93 3 eRSignature l10), ⟨0, 52, 5, [[(ls eI c20.params), (i64 c20.result), (i64 c20.body.op), (i64 c20.body.num), (ls eRExpr c20.body.kids)]]⟩]) go0 ti52 rfl rfl rfl rfl rfl rfl (show 0 + 5 ≤ 5 by decide) rfl (dn hK19 rfl (AW.regionO rfl (zm tb 5 rfl ?_)))))))))
   refine zz (.agg [(ls eI c20.params), .zc, (i64 c20.result)]) (aq_bd ai93 bi93 zi93 rfl rfl) rfl (AO.weaken (Wk.to (L := [(1, (.ptr 0 0 0 0)), (12, (ls eRFunc p0.funcs)), (13, (i64 (Sh.len p0.funcs))), (14, (i64 t9)), (18, (ow 1 0 l10)), (23, (.agg [(ls eI c20.params), (.sl (List.map eI [])), (i64 c20.result)]))]) ⟨.rfl, .rfl, .rfl, .rfl, .rfl, (.agg ⟨.rfl, .zc, .rfl, trivial⟩), trivial⟩) ?_)
   refine ao_bs (m := 3) (st' := [⟨0, 31, 2, [[(ls eRDecl p0.decls), (ls eRFunc p0.funcs)]]⟩, (ro 0 93 3 eRSignature l10), ⟨0, 52, 5, [[(ls eI c20.params), (i64 c20.result), (i64 c20.body.op), (i64 c20.body.num), (ls eRExpr c20.body.kids)]]⟩, (ro 0 93 3 eRSignature ([(RSignature.mk c20.params [] c20.result)]))]) (l := ([(RSignature.mk c20.params [] c20.result)])) (enc := eRSignature) go0 ei91 (by decide) rfl rfl rfl rfl rfl rfl ?_
   refine bs h1 fun l21 gl21 h1 => ao_apo (st' := [⟨0, 31, 2, [[(ls eRDecl p0.decls), (ls eRFunc p0.funcs)]]⟩, (ro 1 93 3 eRSignature l21), ⟨0, 52, 5, [[(ls eI c20.params), (i64 c20.result), (i64 c20.body.op), (i64 c20.body.num), (ls eRExpr c20.body.kids)]]⟩, (ro 0 93 3 eRSignature ([(RSignature.mk c20.params [] c20.result)]))]) (l2 := ([(RSignature.mk c20.params [] c20.result)])) go0 ei91 rfl rfl rfl rfl (el_o rfl rfl) (fun _ => rfl) gl21 rfl (zq tb rfl (dn hK18 rfl (AW.regionO rfl (zm tb 2 rfl ?_))))
   exact AO.done (xi (Sh.w (t9 + 1), l21) h1 (by refine Wk.trans (Wk.rg (L := [(1, (.ptr 0 0 0 0)), (3, (ow 1 0 l21)), (12, (ls eRFunc p0.funcs)), (13, (i64 (Sh.len p0.funcs))), (14, (i64 (Sh.w (t9 + 1))))]) (st' := [⟨0, 31, 2, [[(ls eRDecl p0.decls), (ls eRFunc p0.funcs)]]⟩, (ro 0 93 3 eRSignature l21), ⟨0, 52, 5, [[(ls eI c20.params), (i64 c20.result), (i64 c20.body.op), (i64 c20.body.num), (ls eRExpr c20.body.kids)]]⟩, (ro 0 93 3 eRSignature ([(RSignature.mk c20.params [] c20.result)]))]) (.raw rfl rfl (.pure (pure_map fun _ => rfl) (.raw rfl rfl (.pure (pure_map fun _ => rfl) .nil)))) ⟨.rfl, .rfl, .rfl, .rfl, .rfl, trivial⟩) ?_; exact Wk.permk (L := [(1, (.ptr 0 0 0 0)), (3, (ow 1 0 l21)), (12, (ls eRFunc p0.funcs)), (13, (i64 (Sh.len p0.funcs))), (14, (i64 (Sh.w (t9 + 1))))]) (st' := [⟨0, 31, 2, [[(ls eRDecl p0.decls), (ls eRFunc p0.funcs)]]⟩, (ro 0 93 3 eRSignature l21)]) (st1 := [⟨0, 31, 2, [[(ls eRDecl p0.decls), (ls eRFunc p0.funcs)]]⟩, (ro 0 93 3 eRSignature l21)]) [0, 1] rfl .nil (by decide) rfl rfl (.raw rfl rfl (.pure (pure_map fun _ => rfl) .nil)) ⟨.rfl, .rfl, .rfl, .rfl, .rfl, trivial⟩))
  ·intro b17 h1
   exact AW.exit (M12 l10 (Sh.some_eq h1).symm _ (Wk.tr rfl))
theorem impl_countNodes_B_ok {N : Nat} {rec_impl_countNodes : Int → RExpr → Option (Bool × Int)} (hrec_impl_countNodes : ∀ {s0_0 : Int} {p0 : RExpr} {r : Bool × Int}, rec_impl_countNodes s0_0 p0 = some r → ACalls Try.prog 91 [(.agg [(i64 p0.op), (i64 p0.num), (ls eRExpr p0.kids)]), (.ptr 0 0 0 0)] [⟨0, 3, 1, [[(i64 s0_0)]]⟩] (fun v st => v = (.bool r.1) ∧ st = [⟨0, 3, 1, [[(i64 r.2)]]⟩])) {s0_0 : Int} {p0 : RExpr} {r : Bool × Int} (h0 : impl_countNodes_B N rec_impl_countNodes s0_0 p0 = some r) : ACalls Try.prog 91 [(.agg [(i64 p0.op), (i64 p0.num), (ls eRExpr p0.kids)]), (.ptr 0 0 0 0)] [⟨0, 3, 1, [[(i64 s0_0)]]⟩] (fun v st => v = (.bool r.1) ∧ st = [⟨0, 3, 1, [[(i64 r.2)]]⟩]) := by
 unfold impl_countNodes_B at h0
 refine ai Try.func91 rfl rfl rfl rfl (sr rfl fun K1 hK1 => ao_box (m := 1) (st' := [⟨0, 3, 1, [[(i64 s0_0)]]⟩, ⟨0, 50, 3, [[(i64 p0.op), (i64 p0.num), (ls eRExpr p0.kids)]]⟩]) go0 rfl rfl rfl rfl rfl (zq tb rfl (dn hK1 rfl (AW.seq fun K2 hK2 => sr rfl fun K3 hK3 => zm tb 5 rfl (ao_str (st' := [⟨0, 3, 1, [[(i64 (Sh.w (s0_0 + 1)))]]⟩, ⟨0, 50, 3, [[(i64 p0.op), (i64 p0.num), (ls eRExpr p0.kids)]]⟩]) go0 ti3 rfl rfl rfl rfl rfl rfl (show 0 + 1 ≤ 1 by decide) rfl (dn hK3 rfl (zr tb rfl rfl ?_)))))))
 refine ci h0 rfl ?_ ?_ <;> clear h0
 ·intro b5 h0
  refine zr tb rfl rfl ?_
  replace h0 := Sh.some_eq h0
  subst r
  exact AW.ret (xr (Wk.permk (L := [(4, (.bool false))]) (st' := [⟨0, 3, 1, [[(i64 (Sh.w (s0_0 + 1)))]]⟩]) (st1 := [⟨0, 3, 1, [[(i64 (Sh.w (s0_0 + 1)))]]⟩]) [0] rfl (.raw rfl rfl .nil) (by decide) rfl rfl (.raw rfl rfl .nil) ⟨.rfl, trivial⟩))
 ·intro b5 h0
  refine AW.skip (hK2 _ (AW.seq fun K7 hK7 => sr rfl fun K8 hK8 => zm tb 2 rfl (zl tb rfl rfl (zq tb rfl (dn hK8 rfl ?_)))))
  obtain ⟨o12, h1, h0⟩ := Sh.cont_some h0
  have M12 : ∀ (f11 : Int), o12 = Sum.inr f11 → ∀ s, Wk 1 s ⟨28, envL [], [⟨0, 3, 1, [[(i64 f11)]]⟩]⟩ → K7 s := by
   intro f11 hq s hw
   subst o12
   try dsimp only at h0
   refine hK7 _ (AW.weaken hw (zr tb rfl rfl ?_))
   replace h0 := Sh.some_eq h0
   subst r
   exact AW.ret (xr (Wk.to (L := [(4, (.bool true))]) ⟨.rfl, trivial⟩))
  refine AW.block (AW.loopF (σ := Int × Int) (fun n v => impl_countNodes_B_L1 p0 rec_impl_countNodes n v.1 v.2 = some o12) (fun (t9, f10) => ⟨28, envL [(1, (.ptr 0 0 0 0)), (17, (ls eRExpr p0.kids)), (18, (i64 (Sh.len p0.kids))), (19, (i64 t9))], [⟨0, 3, 1, [[(i64 f10)]]⟩]⟩) N (0, Sh.w (s0_0 + 1)) h1 (Wk.permk (L := [(1, (.ptr 0 0 0 0)), (17, (ls eRExpr p0.kids)), (18, (i64 (Sh.len p0.kids))), (19, (i64 0))]) (st' := [⟨0, 3, 1, [[(i64 (Sh.w (s0_0 + 1)))]]⟩]) (st1 := [⟨0, 3, 1, [[(i64 (Sh.w (s0_0 + 1)))]]⟩]) [0] rfl (.raw rfl rfl .nil) (by decide) rfl rfl (.raw rfl rfl .nil) ⟨.rfl, .rfl, .rfl, .rfl, trivial⟩) (fun _ hv => by rw [impl_countNodes_B_L1] at hv; cases hv) ?_)
  rintro n ⟨t9, f10⟩ h1
  try dsimp only at h1 ⊢
  rw [impl_countNodes_B_L1] at h1
  refine zr tb rfl rfl (AW.seq fun K15 hK15 => ?_)
  refine ci h1 rfl ?_ ?_ <;> clear h1
  ·intro b16 h1
   refine AW.skip (hK15 _ (AW.seq fun K17 hK17 => AW.block (sr rfl fun K18 hK18 => bs h1 fun c19 gc19 h1 => zz (.iptr [(i64 c19.op), (i64 c19.num), (ls eRExpr c19.kids)] 0) (aq_ixsE ei48 rfl rfl gc19 (eRExpr_eq _) rfl) rfl (zq tb rfl (ao_alloc (m := 1) (st' := [⟨0, 3, 1, [[(i64 f10)]]⟩, ⟨0, 50, 3, [[(i64 0), (i64 0), .zc]]⟩]) go0 zi50 rfl rfl (ao_str (st' := [⟨0, 3, 1, [[(i64 f10)]]⟩, ⟨0, 50, 3, [[(i64 c19.op), (i64 c19.num), (ls eRExpr c19.kids)]]⟩]) go0 ti50 rfl rfl rfl rfl rfl rfl (show 0 + 3 ≤ 3 by decide) rfl (dn hK18 rfl (sr rfl fun K20 hK20 => zm tb 2 rfl ?_))))))))
   refine bs h1 fun q21 gq21 h1 => ?_
   refine ao_calls (rowsP := [⟨0, 3, 1, [[(i64 f10)]]⟩]) (rows0 := [⟨0, 3, 1, [[(i64 f10)]]⟩]) (rows1 := [⟨0, 3, 1, [[(i64 q21.2)]]⟩]) (rows2 := []) (rows1' := [⟨0, 3, 1, [[(i64 q21.2)]]⟩]) (rows2' := []) (st' := [⟨0, 3, 1, [[(i64 q21.2)]]⟩, ⟨0, 50, 3, [[(i64 c19.op), (i64 c19.num), (ls eRExpr c19.kids)]]⟩]) (v' := (.bool q21.1)) [0] go0 hb91 (hrec_impl_countNodes gq21) rfl (by decide) rfl rfl (.raw rfl rfl .nil) rfl rfl (.raw rfl rfl .nil) .nil rfl rfl ?_
   refine zq tb rfl (dn hK20 rfl ?_)
   refine ci h1 rfl ?_ ?_ <;> clear h1
   ·intro b22 h1
    have b23 : q21.1 = false := by simpa using b22
    refine zr tb rfl rfl ?_
    replace h1 := Sh.some_eq h1
    subst o12
    try dsimp only [id] at h0
    replace h0 := Sh.some_eq h0
    subst r
    exact AW.ret (xr (Wk.permk (L := [(4, (.bool false))]) (st' := [⟨0, 3, 1, [[(i64 q21.2)]]⟩]) (st1 := [⟨0, 3, 1, [[(i64 q21.2)]]⟩]) [0] rfl (.raw rfl rfl .nil) (by decide) rfl rfl (.raw rfl rfl .nil) ⟨.rfl, trivial⟩))
   ·intro b22 h1
    have b25 : q21.1 = true := by simpa using b22
    refine AW.skip (hK17 _ (AW.regionO rfl (zm tb 2 rfl ?_)))
    exact AO.done (xi (Sh.w (t9 + 1), q21.2) h1 (Wk.permk (L := [(1, (.ptr 0 0 0 0)), (17, (ls eRExpr p0.kids)), (18, (i64 (Sh.len p0.kids))), (19, (i64 (Sh.w (t9 + 1))))]) (st' := [⟨0, 3, 1, [[(i64 q21.2)]]⟩]) (st1 := [⟨0, 3, 1, [[(i64 q21.2)]]⟩]) [0] rfl (.raw rfl rfl .nil) (by decide) rfl rfl (.raw rfl rfl .nil) ⟨.rfl, .rfl, .rfl, .rfl, trivial⟩))
  ·intro b16 h1
   exact AW.exit (M12 f10 (Sh.some_eq h1).symm _ (Wk.tr rfl))

theorem impl_countNodes_F_ok {N : Nat} : ∀ (n : Nat), ∀ {s0_0 : Int} {p0 : RExpr} {r : Bool × Int}, impl_countNodes_F N n s0_0 p0 = some r → ACalls Try.prog 91 [(.agg [(i64 p0.op), (i64 p0.num), (ls eRExpr p0.kids)]), (.ptr 0 0 0 0)] [⟨0, 3, 1, [[(i64 s0_0)]]⟩] (fun v st => v = (.bool r.1) ∧ st = [⟨0, 3, 1, [[(i64 r.2)]]⟩]) := by
 intro n
 induction n with
 | zero => intro s0_0 p0 r h0; cases h0
 | succ n ih =>
  intro s0_0 p0 r h0
  rw [impl_countNodes_F] at h0
  exact impl_countNodes_B_ok (fun h => ih h) h0
theorem impl_countNodes_ok {N : Nat} : ∀ {s0_0 : Int} {p0 : RExpr} {r : Bool × Int}, impl_countNodes N s0_0 p0 = some r → ACalls Try.prog 91 [(.agg [(i64 p0.op), (i64 p0.num), (ls eRExpr p0.kids)]), (.ptr 0 0 0 0)] [⟨0, 3, 1, [[(i64 s0_0)]]⟩] (fun v st => v = (.bool r.1) ∧ st = [⟨0, 3, 1, [[(i64 r.2)]]⟩]) := by
 intro s0_0 p0 r h0
 exact impl_countNodes_F_ok N h0
theorem impl_NodesOf_ok {N : Nat} {p0 : RExpr} {r : Int} (h0 : impl_NodesOf N p0 = some r) : ACalls Try.prog 58 [(.agg [(i64 p0.op), (i64 p0.num), (ls eRExpr p0.kids)])] [] (fun v st => v = (i64 r) ∧ st = []) := by
 unfold impl_NodesOf at h0
 refine ai Try.func58 rfl rfl rfl rfl (sr rfl fun K1 hK1 => ao_box (m := 0) (st' := [⟨0, 50, 3, [[(i64 p0.op), (i64 p0.num), (ls eRExpr p0.kids)]]⟩]) go0 rfl rfl rfl rfl rfl (zq tb rfl (dn hK1 rfl (sr rfl fun K2 hK2 => ao_alloc (m := 1) (st' := [⟨0, 50, 3, [[(i64 p0.op), (i64 p0.num), (ls eRExpr p0.kids)]]⟩, ⟨0, 3, 1, [[(i64 0)]]⟩]) go0 zi3 rfl rfl (ao_str (st' := [⟨0, 50, 3, [[(i64 p0.op), (i64 p0.num), (ls eRExpr p0.kids)]]⟩, ⟨0, 3, 1, [[(i64 0)]]⟩]) go0 ti3 rfl rfl rfl rfl rfl rfl (show 0 + 1 ≤ 1 by decide) rfl (dn hK2 rfl (AW.seq fun K3 hK3 => sr rfl fun K4 hK4 => zq tb rfl ?_)))))))
 refine bs h0 fun q5 gq5 h0 => ?_
 refine ao_calls (rowsP := [⟨0, 3, 1, [[(i64 0)]]⟩]) (rows0 := [⟨0, 3, 1, [[(i64 0)]]⟩]) (rows1 := [⟨0, 3, 1, [[(i64 q5.2)]]⟩]) (rows2 := []) (rows1' := [⟨0, 3, 1, [[(i64 q5.2)]]⟩]) (rows2' := []) (st' := [⟨0, 50, 3, [[(i64 p0.op), (i64 p0.num), (ls eRExpr p0.kids)]]⟩, ⟨0, 3, 1, [[(i64 q5.2)]]⟩]) (v' := (.bool q5.1)) [1] go0 hb91 (impl_countNodes_ok gq5) rfl (by decide) rfl rfl (.raw rfl rfl .nil) rfl rfl (.raw rfl rfl .nil) .nil rfl rfl ?_
 refine zq tb rfl (dn hK4 rfl ?_)
 refine ci h0 rfl ?_ ?_ <;> clear h0
 ·intro b6 h0
  have b7 : q5.1 = false := by simpa using b6
  refine zr tb rfl rfl ?_
  replace h0 := Sh.some_eq h0
  subst r
  exact AW.ret (xr (Wk.d0 [(2, (i64 (-1)))] rfl))
 ·intro b6 h0
  have b9 : q5.1 = true := by simpa using b6
  refine AW.skip (hK3 _ (zr tb rfl rfl ?_))
  replace h0 := Sh.some_eq h0
  subst r
  exact AW.ret (xr (Wk.d0 [(2, (i64 q5.2))] rfl))
theorem impl_sigsOf_ok {N : Nat} {p0 : RProgram} {r : RSignatures} (h0 : impl_sigsOf N p0 = some r) : ACalls Try.prog 60 [(.agg [(ls eRDecl p0.decls), (ls eRFunc p0.funcs)])] [] (fun v st => v = (.agg (eRSignatures r)) ∧ st = []) := by
 unfold impl_sigsOf at h0
 refine ACalls.flat rfl (ai Try.func60 rfl rfl rfl rfl (sr rfl fun K1 hK1 => ao_box (m := 0) (st' := [⟨0, 31, 2, [[(ls eRDecl p0.decls), (ls eRFunc p0.funcs)]]⟩]) go0 rfl rfl rfl rfl rfl (ao_alloc (m := 1) (st' := [⟨0, 31, 2, [[(ls eRDecl p0.decls), (ls eRFunc p0.funcs)]]⟩, ⟨0, 97, 2, [[.zc, .zc]]⟩]) go0 zi97 rfl rfl (dn hK1 rfl (sr rfl fun K2 hK2 => zm tb 2 rfl (zz (.agg [(ls eRDecl p0.decls), .zc]) (aq_bd ai97 bi97 zi97 rfl rfl) rfl (ao_alloc (m := 2) (st' := [⟨0, 31, 2, [[(ls eRDecl p0.decls), (ls eRFunc p0.funcs)]]⟩, ⟨0, 97, 2, [[.zc, .zc]]⟩, ⟨0, 97, 2, [[.zc, .zc]]⟩]) go0 zi97 rfl rfl (ao_str (st' := [⟨0, 31, 2, [[(ls eRDecl p0.decls), (ls eRFunc p0.funcs)]]⟩, ⟨0, 97, 2, [[.zc, .zc]]⟩, ⟨0, 97, 2, [[(ls eRDecl p0.decls), .zc]]⟩]) go0 ti97 rfl rfl rfl rfl rfl rfl (show 0 + 2 ≤ 2 by decide) rfl (dn hK2 rfl ?_)))))))))
 refine AW.seq fun K3 hK3 => sr rfl fun K4 hK4 => zm tb 2 rfl (zl tb rfl rfl (zq tb rfl (dn hK4 rfl (bs h0 fun o8 h1 h0 => ?_))))
 have M8 : ∀ (l7 : (List RSignature)), o8 = l7 → ∀ s, Wk 0 s ⟨28, envL [(2, (.ptr 0 0 0 0)), (3, (.ptr 1 0 0 0))], [⟨0, 97, 2, [[.zc, .zc]]⟩, ⟨0, 97, 2, [[(ls eRDecl p0.decls), (ow 2 0 l7)]]⟩, (ro 0 93 3 eRSignature l7)]⟩ → K3 s := by
  intro l7 hq s hw
  subst o8
  try dsimp only at h0
  refine hK3 _ (AW.weaken hw (sr rfl fun K9 hK9 => zq tb rfl (AO.weaken (Wk.frz (L := [(2, (.ptr 0 0 0 0)), (27, (.agg [(ls eRDecl p0.decls), (ls eRSignature l7)]))]) (st' := [⟨0, 97, 2, [[.zc, .zc]]⟩, ⟨0, 97, 2, [[(ls eRDecl p0.decls), (ow 2 0 l7)]]⟩, ⟨1, 93, 3, []⟩]) (id := 2) rfl (show 0 ≤ 2 by decide) (pure_map fun _ => rfl) ⟨.rfl, (.agg ⟨.rfl, (.frz1 rfl), trivial⟩), trivial⟩ rfl) (ao_str (st' := [⟨0, 97, 2, [[(ls eRDecl p0.decls), (ls eRSignature l7)]]⟩, ⟨0, 97, 2, [[(ls eRDecl p0.decls), (ow 2 0 l7)]]⟩, ⟨1, 93, 3, []⟩]) go0 ti97 rfl rfl rfl rfl rfl rfl (show 0 + 2 ≤ 2 by decide) rfl (dn hK9 rfl ?_)))))
  replace h0 := Sh.some_eq h0
  subst r
  exact AW.ret (Exists.intro _ (And.intro (Wk.refl _ _) (aq_ldpa (x := .tmp 2) (off := 0) (cs := [(ls eRDecl p0.decls), (ls eRSignature l7)]) (vs := [(ls eRDecl p0.decls), (ls eRSignature l7)]) ti97 rfl rfl rfl (show 0 + 2 ≤ 2 by decide) rfl _ rfl)))
 refine AW.block (AW.loopF (σ := Int × (List RSignature)) (fun n v => impl_sigsOf_L1 p0 n v.1 v.2 = some o8) (fun (t5, l6) => ⟨28, envL [(2, (.ptr 0 0 0 0)), (3, (.ptr 1 0 0 0)), (10, (ls eRFunc p0.funcs)), (11, (i64 (Sh.len p0.funcs))), (12, (i64 t5))], [⟨0, 97, 2, [[.zc, .zc]]⟩, ⟨0, 97, 2, [[(ls eRDecl p0.decls), (ow 2 0 l6)]]⟩, (ro 0 93 3 eRSignature l6)]⟩) N (0, []) h1 (by refine Wk.trans (Wk.adoptC (id := 2) (st' := [⟨0, 31, 2, [[(ls eRDecl p0.decls), (ls eRFunc p0.funcs)]]⟩, ⟨0, 97, 2, [[.zc, .zc]]⟩, ⟨0, 97, 2, [[(ls eRDecl p0.decls), (.own 3 0 (List.length ([] : List RSignature)))]]⟩, (ro 0 93 3 eRSignature ([] : List RSignature))]) (j := 1) rfl rfl 93 (size' := 3) (by decide) rfl rfl rfl rfl) ?_; exact Wk.permk (L := [(2, (.ptr 0 0 0 0)), (3, (.ptr 1 0 0 0)), (10, (ls eRFunc p0.funcs)), (11, (i64 (Sh.len p0.funcs))), (12, (i64 0))]) (st' := [⟨0, 97, 2, [[.zc, .zc]]⟩, ⟨0, 97, 2, [[(ls eRDecl p0.decls), (.own 2 0 (List.length ([] : List RSignature)))]]⟩, (ro 0 93 3 eRSignature ([] : List RSignature))]) (st1 := [⟨0, 97, 2, [[.zc, .zc]]⟩, ⟨0, 97, 2, [[(ls eRDecl p0.decls), (.own 3 0 (List.length ([] : List RSignature)))]]⟩, (ro 0 93 3 eRSignature ([] : List RSignature))]) [1, 2, 3] rfl .nil (by decide) rfl rfl (.raw rfl rfl (.raw rfl rfl (.pure (pure_map fun _ => rfl) .nil))) ⟨.rfl, .rfl, .rfl, .rfl, .rfl, trivial⟩) (fun _ hv => by rw [impl_sigsOf_L1] at hv; cases hv) ?_)
 rintro n ⟨t5, l6⟩ h1
 try dsimp only at h1 ⊢
 rw [impl_sigsOf_L1] at h1
 refine zr tb rfl rfl (AW.seq fun K11 hK11 => ?_)
 refine ci h1 rfl ?_ ?_ <;> clear h1
 ·intro b12 h1
  refine AW.skip (hK11 _ (AW.seq fun K13 hK13 => AW.block (sr rfl fun K14 hK14 => bs h1 fun c15 gc15 h1 => zx ei29 gc15 rfl rfl rfl (zq tb rfl (ao_alloc (m := 3) (st' := [⟨0, 97, 2, [[.zc, .zc]]⟩, ⟨0, 97, 2, [[(ls eRDecl p0.decls), (ow 2 0 l6)]]⟩, (ro 0 93 3 eRSignature l6), ⟨0, 52, 5, [[.zc, (i64 0), (i64 0), (i64 0), .zc]]⟩]) go0 zi52 rfl rfl (ao_str (st' := [⟨0, 97, 2, [[.zc, .zc]]⟩, ⟨0, 97, 2, [[(ls eRDecl p0.decls), (ow 2 0 l6)]]⟩, (ro 0 93 3 eRSignature l6), ⟨0, 52, 5, [[(ls eI c15.params), (i64 c15.result), (i64 c15.body.op), (i64 c15.body.num), (ls eRExpr c15.body.kids)]]⟩]) go0 ti52 rfl rfl rfl rfl rfl rfl (show 0 + 5 ≤ 5 by decide) rfl (dn hK14 rfl (AW.regionO rfl (zm tb 6 rfl ?_)))))))))
  refine zz (.agg [(ls eI c15.params), .zc, (i64 c15.result)]) (aq_bd ai93 bi93 zi93 rfl rfl) rfl (AO.weaken (Wk.to (L := [(2, (.ptr 0 0 0 0)), (3, (.ptr 1 0 0 0)), (10, (ls eRFunc p0.funcs)), (11, (i64 (Sh.len p0.funcs))), (12, (i64 t5)), (17, (ow 2 0 l6)), (22, (.agg [(ls eI c15.params), (.sl (List.map eI [])), (i64 c15.result)]))]) ⟨.rfl, .rfl, .rfl, .rfl, .rfl, .rfl, (.agg ⟨.rfl, .zc, .rfl, trivial⟩), trivial⟩) ?_)
  refine ao_bs (m := 4) (st' := [⟨0, 97, 2, [[.zc, .zc]]⟩, ⟨0, 97, 2, [[(ls eRDecl p0.decls), (ow 2 0 l6)]]⟩, (ro 0 93 3 eRSignature l6), ⟨0, 52, 5, [[(ls eI c15.params), (i64 c15.result), (i64 c15.body.op), (i64 c15.body.num), (ls eRExpr c15.body.kids)]]⟩, (ro 0 93 3 eRSignature ([(RSignature.mk c15.params [] c15.result)]))]) (l := ([(RSignature.mk c15.params [] c15.result)])) (enc := eRSignature) go0 ei91 (by decide) rfl rfl rfl rfl rfl rfl ?_
  refine bs h1 fun l16 gl16 h1 => ao_apo (st' := [⟨0, 97, 2, [[.zc, .zc]]⟩, ⟨0, 97, 2, [[(ls eRDecl p0.decls), (ow 2 0 l6)]]⟩, (ro 1 93 3 eRSignature l16), ⟨0, 52, 5, [[(ls eI c15.params), (i64 c15.result), (i64 c15.body.op), (i64 c15.body.num), (ls eRExpr c15.body.kids)]]⟩, (ro 0 93 3 eRSignature ([(RSignature.mk c15.params [] c15.result)]))]) (l2 := ([(RSignature.mk c15.params [] c15.result)])) go0 ei91 rfl rfl rfl rfl (el_o rfl rfl) (fun _ => rfl) gl16 rfl (zq tb rfl (ao_str (st' := [⟨0, 97, 2, [[.zc, .zc]]⟩, ⟨0, 97, 2, [[(ls eRDecl p0.decls), (ow 2 1 l16)]]⟩, (ro 1 93 3 eRSignature l16), ⟨0, 52, 5, [[(ls eI c15.params), (i64 c15.result), (i64 c15.body.op), (i64 c15.body.num), (ls eRExpr c15.body.kids)]]⟩, (ro 0 93 3 eRSignature ([(RSignature.mk c15.params [] c15.result)]))]) go0 ti91 rfl rfl rfl rfl rfl rfl (show 1 + 1 ≤ 2 by decide) rfl (dn hK13 rfl (AW.regionO rfl (zm tb 2 rfl ?_)))))
  exact AO.done (xi (Sh.w (t5 + 1), l16) h1 (by refine Wk.trans (Wk.rg (L := [(2, (.ptr 0 0 0 0)), (3, (.ptr 1 0 0 0)), (10, (ls eRFunc p0.funcs)), (11, (i64 (Sh.len p0.funcs))), (12, (i64 (Sh.w (t5 + 1))))]) (st' := [⟨0, 97, 2, [[.zc, .zc]]⟩, ⟨0, 97, 2, [[(ls eRDecl p0.decls), (ow 2 0 l16)]]⟩, (ro 0 93 3 eRSignature l16), ⟨0, 52, 5, [[(ls eI c15.params), (i64 c15.result), (i64 c15.body.op), (i64 c15.body.num), (ls eRExpr c15.body.kids)]]⟩, (ro 0 93 3 eRSignature ([(RSignature.mk c15.params [] c15.result)]))]) (.raw rfl rfl (.raw rfl rfl (.pure (pure_map fun _ => rfl) (.raw rfl rfl (.pure (pure_map fun _ => rfl) .nil))))) ⟨.rfl, .rfl, .rfl, .rfl, .rfl, trivial⟩) ?_; exact Wk.permk (L := [(2, (.ptr 0 0 0 0)), (3, (.ptr 1 0 0 0)), (10, (ls eRFunc p0.funcs)), (11, (i64 (Sh.len p0.funcs))), (12, (i64 (Sh.w (t5 + 1))))]) (st' := [⟨0, 97, 2, [[.zc, .zc]]⟩, ⟨0, 97, 2, [[(ls eRDecl p0.decls), (ow 2 0 l16)]]⟩, (ro 0 93 3 eRSignature l16)]) (st1 := [⟨0, 97, 2, [[.zc, .zc]]⟩, ⟨0, 97, 2, [[(ls eRDecl p0.decls), (ow 2 0 l16)]]⟩, (ro 0 93 3 eRSignature l16)]) [0, 1, 2] rfl .nil (by decide) rfl rfl (.raw rfl rfl (.raw rfl rfl (.pure (pure_map fun _ => rfl) .nil))) ⟨.rfl, .rfl, .rfl, .rfl, .rfl, trivial⟩))
 ·intro b12 h1
  exact AW.exit (M8 l6 (Sh.some_eq h1).symm _ (Wk.tr rfl))
theorem slices_Clone_int_int_ok {p0 : (List Int)} {r : (List Int)} (h0 : slices_Clone_int_int p0 = some r) : ACalls Try.prog 62 [(ls eI p0)] [] (fun v st => v = (ow 0 0 r) ∧ st = [(ro 0 3 1 eI r)]) := by
 unfold slices_Clone_int_int at h0
 refine ai Try.func62 rfl rfl rfl rfl (zr tb rfl rfl (AW.seq fun K2 hK2 => sr rfl fun K3 hK3 => zq tb rfl ?_))
 refine ao_nil go0 sl40 rfl (fun hn => ?_) ?_
 ·subst hn
  replace h0 : some [] = some r := by rw [← h0]; first | rfl | simp [Sh.app]
  refine dn hK3 rfl (AW.cond' (b := true) rfl (fun _ => zr tb rfl rfl ?_) (fun q => nomatch (show true = false from (rfl : true = true).symm.trans q)))
  replace h0 := Sh.some_eq h0
  subst r
  exact AW.ret (Exists.intro _ (And.intro (((Wk.adopt (t := 2) rfl 3 (size := 1) (by decide)).trans (Wk.to (L := [(2, (.own 0 0 (List.length ([] : List Int))))]) ⟨.rfl, trivial⟩)).trans (Wk.to (L := [(2, (.own 0 0 (List.length ([] : List Int))))]) ⟨.rfl, trivial⟩)) (And.intro rfl rfl)))
 ·refine dn hK3 rfl (AW.cond' (b := false) rfl (fun q => nomatch (show false = true from (rfl : false = false).symm.trans q)) (fun _ => AW.skip (hK2 _ (sr rfl fun K5 hK5 => ?_))))
  refine ao_bs (m := 0) (st' := [(ro 0 3 1 eI ([] : List Int))]) (l := ([] : List Int)) (enc := eI) go0 ei40 (by decide) rfl rfl rfl rfl rfl rfl ?_
  refine zq tb rfl (bs h0 fun l6 gl6 h0 => ao_apo (st' := [(ro 1 3 1 eI l6)]) (l2 := p0) go0 ei40 rfl rfl rfl rfl el_s (fun _ => rfl) gl6 rfl (zq tb rfl (dn hK5 rfl ?_)))
  replace h0 := Sh.some_eq h0
  subst r
  exact AW.ret (xr (Wk.rg (L := [(2, (ow 0 0 l6))]) (st' := [(ro 0 3 1 eI l6)]) (.pure (pure_map fun _ => rfl) .nil) ⟨.rfl, trivial⟩))
theorem slices_Grow_int_int_ok {p1 : Int} {r : (List Int)} (h0 : slices_Grow_int_int p1 = some r) : ACalls Try.prog 128 [.zc, (i64 p1)] [] (fun v st => v = (ow 0 0 r) ∧ st = [(ro 0 3 1 eI r)]) := by
 unfold slices_Grow_int_int at h0
 refine ai Try.func128 rfl rfl rfl rfl (zr tb rfl rfl (AW.seq fun K2 hK2 => zr tb rfl rfl ?_))
 refine ci h0 rfl ?_ ?_ <;> clear h0
 ·intro b4 h0
  refine AW.regionO rfl ?_
  cases h0
 ·intro b4 h0
  refine AW.skip (hK2 _ (AW.seq fun K5 hK5 => bs h0 fun o7 h1 h0 => ?_))
  have M7 : ∀ (l6 : (List Int)), o7 = l6 → ∀ s, Wk 0 s ⟨27, envL [(0, (ow 0 0 l6))], [(ro 0 3 1 eI l6)]⟩ → K5 s := by
   intro l6 hq s hw
   subst o7
   try dsimp only at h0
   refine hK5 _ (AW.weaken hw (zr tb rfl rfl ?_))
   replace h0 := Sh.some_eq h0
   subst r
   exact AW.ret (xr (Wk.to (L := [(4, (ow 0 0 l6))]) ⟨.rfl, trivial⟩))
  refine sr rfl fun K9 hK9 => zm tb 2 rfl (ao_capz sl40 rfl (zq tb rfl (zz (i64 0) (aq_lenz sl40 rfl) rfl (zm tb 3 rfl (dn hK9 rfl (zr tb rfl rfl ?_))))))
  refine ci h1 rfl ?_ ?_ <;> clear h1
  ·intro b11 h1
   refine AW.regionO rfl (zm tb 2 rfl (ao_capz sl40 rfl (ao_slz ei40 rfl rfl (zq tb rfl (bs h1 fun l12 gl12 h1 => ao_apmk (u := 0) (enc := eI) (m := 0) (st' := [(ro 0 3 1 eI l12)]) ei40 iT3 rfl rfl b11 rfl gl12 rfl rfl (zq tb rfl (zz (i64 0) (aq_lenz sl40 rfl) rfl (bs h1 fun l13 gl13 h1 => ao_hio (st' := [(ro 1 3 1 eI l13)]) go0 ei40 rfl rfl rfl rfl gl13 rfl (zq tb rfl ?_)))))))))
   exact AO.done (M7 l13 (Sh.some_eq h1).symm _ (Wk.rg (L := [(0, (ow 0 0 l13))]) (st' := [(ro 0 3 1 eI l13)]) (.pure (pure_map fun _ => rfl) .nil) ⟨.rfl, trivial⟩))
  ·intro b11 h1
   exact AW.skip (M7 [] (Sh.some_eq h1).symm _ ((Wk.adopt (t := 0) rfl 3 (size := 1) (by decide)).trans (Wk.to (L := [(0, (.own 0 0 (List.length ([] : List Int))))]) ⟨.rfl, trivial⟩)))
theorem slices_Concat_int_int_ok {N : Nat} {p0 : (List (List Int))} {r : (List Int)} (h0 : slices_Concat_int_int N p0 = some r) : ACalls Try.prog 118 [(ls (eS eI) p0)] [] (fun v st => v = (ow 0 0 r) ∧ st = [(ro 0 3 1 eI r)]) := by
 unfold slices_Concat_int_int at h0
 refine ai Try.func118 rfl rfl rfl rfl ?_
 iterate 2 refine zr tb rfl rfl ?_
 refine AW.seq fun K3 hK3 => sr rfl fun K4 hK4 => zq tb rfl (zl tb rfl rfl (zq tb rfl (dn hK4 rfl (bs h0 fun o8 h1 h0 => ?_))))
 have M8 : ∀ (size7 : Int), o8 = size7 → ∀ s, Wk 0 s ⟨36, envL [(0, (ls (eS eI) p0)), (3, (i64 size7))], []⟩ → K3 s := by
  intro size7 hq s hw
  subst o8
  try dsimp only at h0
  refine hK3 _ (AW.weaken hw (sr rfl fun K9 hK9 => zq tb rfl (bs h0 fun q10 gq10 h0 => ao_call (v' := (ow 0 0 q10)) (st' := [(ro 0 3 1 eI q10)]) go0 hb128 (slices_Grow_int_int_ok gq10) rfl rfl ⟨(pure_map' fun _ => rfl), trivial⟩ rfl rfl (zq tb rfl (dn hK9 rfl (AW.seq fun K11 hK11 => sr rfl fun K12 hK12 => zq tb rfl (zl tb rfl rfl (zq tb rfl ?_))))))))
  refine dn hK12 rfl (bs h0 fun o16 h1 h0 => ?_)
  have M16 : ∀ (l15 : (List Int)), o16 = l15 → ∀ s, Wk 0 s ⟨36, envL [(6, (ow 0 0 l15))], [(ro 0 3 1 eI l15)]⟩ → K11 s := by
   intro l15 hq s hw
   subst o16
   try dsimp only at h0
   refine hK11 _ (AW.weaken hw (zr tb rfl rfl ?_))
   replace h0 := Sh.some_eq h0
   subst r
   exact AW.ret (xr (Wk.to (L := [(2, (ow 0 0 l15))]) ⟨.rfl, trivial⟩))
  refine AW.block (AW.loopF (σ := Int × (List Int)) (fun n v => slices_Concat_int_int_L2 p0 n v.1 v.2 = some o16) (fun (t13, l14) => ⟨36, envL [(6, (ow 0 0 l14)), (25, (ls (eS eI) p0)), (26, (i64 (Sh.len p0))), (27, (i64 t13))], [(ro 0 3 1 eI l14)]⟩) N (0, q10) h1 (Wk.tr rfl) (fun _ hv => by rw [slices_Concat_int_int_L2] at hv; cases hv) ?_)
  rintro n ⟨t13, l14⟩ h1
  try dsimp only at h1 ⊢
  rw [slices_Concat_int_int_L2] at h1
  refine zr tb rfl rfl (AW.seq fun K19 hK19 => ?_)
  refine ci h1 rfl ?_ ?_ <;> clear h1
  ·intro b20 h1
   refine AW.skip (hK19 _ (AW.seq fun K21 hK21 => AW.block (sr rfl fun K22 hK22 => bs h1 fun c23 gc23 h1 => zx ei123 gc23 rfl rfl rfl (zm tb 2 rfl (dn hK22 rfl (AW.regionO rfl (zm tb 2 rfl (bs h1 fun l24 gl24 h1 => ao_apo (st' := [(ro 1 3 1 eI l24)]) (l2 := c23) go0 ei40 rfl rfl rfl rfl el_s (fun _ => rfl) gl24 rfl ?_))))))))
   exact zq tb rfl (dn hK21 rfl (AW.regionO rfl (zm tb 2 rfl (AO.done (xi (Sh.w (t13 + 1), l24) h1 (Wk.rg (L := [(6, (ow 0 0 l24)), (25, (ls (eS eI) p0)), (26, (i64 (Sh.len p0))), (27, (i64 (Sh.w (t13 + 1))))]) (st' := [(ro 0 3 1 eI l24)]) (.pure (pure_map fun _ => rfl) .nil) ⟨.rfl, .rfl, .rfl, .rfl, trivial⟩))))))
  ·intro b20 h1
   exact AW.exit (M16 l14 (Sh.some_eq h1).symm _ (Wk.tr rfl))
 refine AW.block (AW.loopF (σ := Int × Int) (fun n v => slices_Concat_int_int_L1 p0 n v.1 v.2 = some o8) (fun (size5, t6) => ⟨36, envL [(0, (ls (eS eI) p0)), (3, (i64 size5)), (9, (ls (eS eI) p0)), (10, (i64 (Sh.len p0))), (11, (i64 t6))], []⟩) N (0, 0) h1 (Wk.tr rfl) (fun _ hv => by rw [slices_Concat_int_int_L1] at hv; cases hv) ?_)
 rintro n ⟨size5, t6⟩ h1
 try dsimp only at h1 ⊢
 rw [slices_Concat_int_int_L1] at h1
 refine zr tb rfl rfl (AW.seq fun K26 hK26 => ?_)
 refine ci h1 rfl ?_ ?_ <;> clear h1
 ·intro b27 h1
  refine AW.skip (hK26 _ (AW.seq fun K28 hK28 => AW.block (sr rfl fun K29 hK29 => bs h1 fun c30 gc30 h1 => zx ei123 gc30 rfl rfl rfl (zm tb 2 rfl (dn hK29 rfl (sr rfl fun K31 hK31 => zm tb 2 rfl (zl tb rfl rfl (zm tb 2 rfl ?_))))))))
  refine dn hK31 rfl (zr tb rfl rfl ?_)
  refine ci h1 rfl ?_ ?_ <;> clear h1
  ·intro b33 h1
   refine AW.regionO rfl ?_
   cases h1
  ·intro b33 h1
   exact AW.skip (hK28 _ (AW.regionO rfl (zm tb 2 rfl (AO.done (xi (Sh.w (size5 + (Sh.len c30)), Sh.w (t6 + 1)) h1 (Wk.tr rfl))))))
 ·intro b27 h1
  exact AW.exit (M8 size5 (Sh.some_eq h1).symm _ (Wk.tr rfl))
theorem impl_signatures_oneType_ok {N : Nat} {rec_impl_signatures_typeOf : (List Int) → RSignatures → RExpr → Option (Int)} (hrec_impl_signatures_typeOf : ∀ {s0 : (List Int)} {p0 : RSignatures} {p2 : RExpr} {r : Int}, rec_impl_signatures_typeOf s0 p0 p2 = some r → ACalls Try.prog 61 [(.agg (eRSignatures p0)), (ow 0 0 s0), (.agg [(i64 p2.op), (i64 p2.num), (ls eRExpr p2.kids)])] [(ro 0 3 1 eI s0)] (fun v st => v = (i64 r) ∧ st = [(ro 0 3 1 eI s0)])) {p0 : RSignatures} {p1 : (List Int)} {p2 : (List RExpr)} {p3 : (List (List Int))} {r : Int} (h0 : impl_signatures_oneType N rec_impl_signatures_typeOf p0 p1 p2 p3 = some r) : ACalls Try.prog 92 [(.agg (eRSignatures p0)), (ls eI p1), (ls eRExpr p2), (ls (eS eI) p3)] [] (fun v st => v = (i64 r) ∧ st = []) := by
 unfold impl_signatures_oneType at h0
 refine ai Try.func92 rfl rfl rfl rfl (sr rfl fun K1 hK1 => ao_box (m := 0) (st' := [⟨0, 97, 2, [(eRSignatures p0)]⟩]) go0 rfl rfl rfl rfl rfl (zq tb rfl (dn hK1 rfl (zr tb rfl rfl (AW.seq fun K3 hK3 => sr rfl fun K4 hK4 => zq tb rfl (zl tb rfl rfl (zq tb rfl (dn hK4 rfl ?_))))))))
 obtain ⟨o8, h1, h0⟩ := Sh.cont_some h0
 have M8 : ∀ (result7 : Int), o8 = Sum.inr result7 → ∀ s, Wk 0 s ⟨44, envL [(9, (i64 result7))], []⟩ → K3 s := by
  intro result7 hq s hw
  subst o8
  try dsimp only at h0
  refine hK3 _ (AW.weaken hw (zr tb rfl rfl ?_))
  replace h0 := Sh.some_eq h0
  subst r
  exact AW.ret (xr (Wk.to (L := [(8, (i64 result7))]) ⟨.rfl, trivial⟩))
 refine AW.block (AW.loopF (σ := Int × Int) (fun n v => impl_signatures_oneType_L1 N p0 p1 p2 p3 rec_impl_signatures_typeOf n v.1 v.2 = some o8) (fun (result5, t6) => ⟨44, envL [(1, (ls eI p1)), (3, (ls (eS eI) p3)), (4, (.ptr 0 0 0 0)), (9, (i64 result5)), (13, (ls eRExpr p2)), (14, (i64 (Sh.len p2))), (15, (i64 t6))], [⟨0, 97, 2, [(eRSignatures p0)]⟩]⟩) N (-1, 0) h1 (Wk.tr rfl) (fun _ hv => by rw [impl_signatures_oneType_L1] at hv; cases hv) ?_)
 rintro n ⟨result5, t6⟩ h1
 try dsimp only at h1 ⊢
 rw [impl_signatures_oneType_L1] at h1
 refine zr tb rfl rfl (AW.seq fun K11 hK11 => ?_)
 refine ci h1 rfl ?_ ?_ <;> clear h1
 ·intro b12 h1
  refine AW.skip (hK11 _ (AW.seq fun K13 hK13 => AW.block (sr rfl fun K14 hK14 => zq tb rfl (bs h1 fun c15 gc15 h1 => zz (.iptr [(i64 c15.op), (i64 c15.num), (ls eRExpr c15.kids)] 0) (aq_ixsE ei48 rfl rfl gc15 (eRExpr_eq _) rfl) rfl (zq tb rfl (ao_alloc (m := 1) (st' := [⟨0, 97, 2, [(eRSignatures p0)]⟩, ⟨0, 50, 3, [[(i64 0), (i64 0), .zc]]⟩]) go0 zi50 rfl rfl (zq tb rfl (ao_str (st' := [⟨0, 97, 2, [(eRSignatures p0)]⟩, ⟨0, 50, 3, [[(i64 c15.op), (i64 c15.num), (ls eRExpr c15.kids)]]⟩]) go0 ti50 rfl rfl rfl rfl rfl rfl (show 0 + 3 ≤ 3 by decide) rfl (dn hK14 rfl ?_)))))))))
  refine AW.seq fun K16 hK16 => ?_
  refine AW.drawX (by kernel_rfl) ?_
  refine bs h1 fun c17 gc17 h1 => bs h1 fun q18 gq18 h1 => bs h1 fun q19 gq19 h1 => AX.one fun A20 hA20 => ?_
  have A20_0123456789a : A20 0 #[true, true, true, true, true, true, true, true, true, true, true] ⟨44, envL [(1, (ls eI p1)), (3, (ls (eS eI) p3)), (4, (.ptr 0 0 0 0)), (9, (i64 result5)), (10, (i64 t6)), (12, (i64 q19)), (13, (ls eRExpr p2)), (14, (i64 (Sh.len p2))), (15, (i64 t6))], [⟨0, 97, 2, [(eRSignatures p0)]⟩, ⟨0, 50, 3, [[(i64 c15.op), (i64 c15.num), (ls eRExpr c15.kids)]]⟩, ⟨1, 40, 1, []⟩, (ro 0 3 1 eI q18)]⟩ := (hA20 _ _ _).2 (by
   refine AX.done rfl (by kernel_rfl) ?_
   refine hK16 _ (AW.seq fun K21 hK21 => AW.seq fun K22 hK22 => bs h1 fun o24 h2 h1 => ?_)
   have M24 : ∀ (t23 : Bool), o24 = t23 → ∀ s, Wk 0 s ⟨44, envL [(1, (ls eI p1)), (3, (ls (eS eI) p3)), (4, (.ptr 0 0 0 0)), (12, (i64 q19)), (13, (ls eRExpr p2)), (14, (i64 (Sh.len p2))), (15, (i64 t6)), (40, (.bool t23))], [⟨0, 97, 2, [(eRSignatures p0)]⟩]⟩ → K22 s := by
    intro t23 hq s hw
    subst o24
    try dsimp only at h1
    refine hK22 _ (AW.weaken hw ?_)
    refine ci h1 rfl ?_ ?_ <;> clear h1
    ·intro b25 h1
     refine zr tb rfl rfl ?_
     replace h1 := Sh.some_eq h1
     subst o8
     try dsimp only [id] at h0
     replace h0 := Sh.some_eq h0
     subst r
     exact AW.ret (xr (Wk.d0 [(8, (i64 (-1)))] rfl))
    ·intro b25 h1
     exact AW.skip (hK21 _ (AW.regionO rfl (zm tb 2 rfl (dn hK13 rfl (AW.regionO rfl (zm tb 2 rfl (AO.done (xi (q19, Sh.w (t6 + 1)) h1 (Wk.tr rfl)))))))))
   refine AW.regionO rfl (zm tb 3 rfl ?_)
   rcases Sh.ite_some h2 with ⟨b27, h2⟩ | ⟨b27, h2⟩
   ·refine zs b27 rfl (zs b27 rfl (zs b27 rfl ?_))
    iterate 3 refine zn rfl ?_
    refine zs b27 rfl (zt b27 rfl ?_)
    exact AO.done (M24 true (Sh.some_eq h2).symm _ (Wk.permk (L := [(1, (ls eI p1)), (3, (ls (eS eI) p3)), (4, (.ptr 0 0 0 0)), (12, (i64 q19)), (13, (ls eRExpr p2)), (14, (i64 (Sh.len p2))), (15, (i64 t6)), (40, (.bool true))]) (st' := [⟨0, 97, 2, [(eRSignatures p0)]⟩]) (st1 := [⟨0, 97, 2, [(eRSignatures p0)]⟩]) [0] rfl .nil (by decide) rfl rfl (.raw rfl rfl .nil) ⟨.rfl, .rfl, .rfl, .rfl, .rfl, .rfl, .rfl, .rfl, trivial⟩))
   ·refine zg tb b27 rfl (zg tb b27 rfl (zg tb b27 rfl ?_))
    rcases Sh.ite_some h2 with ⟨b28, h2⟩ | ⟨b28, h2⟩
    ·refine zg tb b28 rfl (zg tb b28 rfl (zg tb b28 rfl (ao_q (v := (.bool (!decide (q19 = result5)))) (go1 rfl rfl b27) rfl (aq_pkt rfl b28 rfl) (zf b27 rfl ?_))))
     exact AO.done (M24 (!decide (q19 = result5)) (Sh.some_eq h2).symm _ (Wk.permk (L := [(1, (ls eI p1)), (3, (ls (eS eI) p3)), (4, (.ptr 0 0 0 0)), (12, (i64 q19)), (13, (ls eRExpr p2)), (14, (i64 (Sh.len p2))), (15, (i64 t6)), (40, (.bool (!decide (q19 = result5))))]) (st' := [⟨0, 97, 2, [(eRSignatures p0)]⟩]) (st1 := [⟨0, 97, 2, [(eRSignatures p0)]⟩]) [0] rfl .nil (by decide) rfl rfl (.raw rfl rfl .nil) ⟨.rfl, .rfl, .rfl, .rfl, .rfl, .rfl, .rfl, .rfl, trivial⟩))
    ·refine zs b28 rfl (zs b28 rfl (zs b28 rfl (ao_q (v := (.bool false)) (go1 rfl rfl b27) rfl (aq_pkf rfl b28 rfl) (zf b27 rfl ?_))))
     exact AO.done (M24 false (Sh.some_eq h2).symm _ (by refine Wk.trans (Wk.permk (L := [(1, (ls eI p1)), (3, (ls (eS eI) p3)), (4, (.ptr 0 0 0 0)), (12, (i64 q19)), (13, (ls eRExpr p2)), (14, (i64 (Sh.len p2))), (15, (i64 t6)), (40, (.bool false))]) (st' := [⟨0, 97, 2, [(eRSignatures p0)]⟩]) (st1 := [⟨0, 97, 2, [(eRSignatures p0)]⟩]) [0] rfl .nil (by decide) rfl rfl (.raw rfl rfl .nil) ⟨.rfl, .rfl, .rfl, .rfl, .rfl, .rfl, .rfl, .rfl, trivial⟩) ?_; exact Wk.to (L := [(1, (ls eI p1)), (3, (ls (eS eI) p3)), (4, (.ptr 0 0 0 0)), (12, (i64 q19)), (13, (ls eRExpr p2)), (14, (i64 (Sh.len p2))), (15, (i64 t6)), (40, (.bool false))]) ⟨.rfl, .rfl, .rfl, .rfl, .rfl, .rfl, .rfl, .rfl, trivial⟩)))
  have A20_0123456789 : A20 1 #[true, true, true, true, true, true, true, true, true, true, false] ⟨44, envL [(1, (ls eI p1)), (3, (ls (eS eI) p3)), (4, (.ptr 0 0 0 0)), (9, (i64 result5)), (10, (i64 t6)), (13, (ls eRExpr p2)), (14, (i64 (Sh.len p2))), (15, (i64 t6)), (29, (i64 q19))], [⟨0, 97, 2, [(eRSignatures p0)]⟩, ⟨0, 50, 3, [[(i64 c15.op), (i64 c15.num), (ls eRExpr c15.kids)]]⟩, ⟨1, 40, 1, []⟩, (ro 0 3 1 eI q18)]⟩ := (hA20 _ _ _).2 (by
   refine AX.hoist 10 (v := (i64 q19)) rfl rfl (by kernel_rfl) (by kernel_rfl) (by kernel_rfl) rfl (hoist_as rfl) ?_
   refine AX.weaken (Wk.to (L := [(1, (ls eI p1)), (3, (ls (eS eI) p3)), (4, (.ptr 0 0 0 0)), (9, (i64 result5)), (10, (i64 t6)), (12, (i64 q19)), (13, (ls eRExpr p2)), (14, (i64 (Sh.len p2))), (15, (i64 t6))]) ⟨.rfl, .rfl, .rfl, .rfl, .rfl, .rfl, .rfl, .rfl, .rfl, trivial⟩) ?_ rfl
   exact AX.lst (by kernel_rfl) ((hA20 _ _ _).1 A20_0123456789a))
  have A20_012345678 : A20 2 #[true, true, true, true, true, true, true, true, true, false, false] ⟨44, envL [(1, (ls eI p1)), (3, (ls (eS eI) p3)), (4, (.ptr 0 0 0 0)), (9, (i64 result5)), (10, (i64 t6)), (13, (ls eRExpr p2)), (14, (i64 (Sh.len p2))), (15, (i64 t6)), (20, (.agg (eRSignatures p0))), (27, (ow 3 0 q18)), (28, (.agg [(i64 c15.op), (i64 c15.num), (ls eRExpr c15.kids)]))], [⟨0, 97, 2, [(eRSignatures p0)]⟩, ⟨0, 50, 3, [[(i64 c15.op), (i64 c15.num), (ls eRExpr c15.kids)]]⟩, ⟨1, 40, 1, []⟩, (ro 0 3 1 eI q18)]⟩ := (hA20 _ _ _).2 (by
   refine AX.all [9] rfl (by kernel_rfl) (by decide) ⟨?_, trivial⟩
   ·refine AXs.of (i := 9) rfl rfl (by rfl) ?_
    refine ao_calls (rowsP := [(ro 0 3 1 eI q18)]) (rows0 := [(ro 0 3 1 eI q18)]) (rows1 := [(ro 0 3 1 eI q18)]) (rows2 := []) (rows1' := [(ro 0 3 1 eI q18)]) (rows2' := []) (st' := [⟨0, 97, 2, [(eRSignatures p0)]⟩, ⟨0, 50, 3, [[(i64 c15.op), (i64 c15.num), (ls eRExpr c15.kids)]]⟩, ⟨1, 40, 1, []⟩, (ro 0 3 1 eI q18)]) (v' := (i64 q19)) [3] go0 hb61 (hrec_impl_signatures_typeOf gq19) rfl (by decide) rfl rfl (.pure (pure_map fun _ => rfl) .nil) rfl rfl (.pure (pure_map fun _ => rfl) .nil) .nil rfl rfl ?_
    refine AO.done ⟨rfl, (AX.weaken (Wk.to (L := [(1, (ls eI p1)), (3, (ls (eS eI) p3)), (4, (.ptr 0 0 0 0)), (9, (i64 result5)), (10, (i64 t6)), (13, (ls eRExpr p2)), (14, (i64 (Sh.len p2))), (15, (i64 t6)), (29, (i64 q19))]) ⟨.rfl, .rfl, .rfl, .rfl, .rfl, .rfl, .rfl, .rfl, .rfl, trivial⟩) ?_ rfl)⟩
    exact AX.lst (by kernel_rfl) ((hA20 _ _ _).1 A20_0123456789))
  have A20_01234567 : A20 3 #[true, true, true, true, true, true, true, true, false, false, false] ⟨44, envL [(1, (ls eI p1)), (3, (ls (eS eI) p3)), (4, (.ptr 0 0 0 0)), (9, (i64 result5)), (10, (i64 t6)), (11, (.ptr 1 0 0 0)), (13, (ls eRExpr p2)), (14, (i64 (Sh.len p2))), (15, (i64 t6)), (20, (.agg (eRSignatures p0))), (27, (ow 3 0 q18))], [⟨0, 97, 2, [(eRSignatures p0)]⟩, ⟨0, 50, 3, [[(i64 c15.op), (i64 c15.num), (ls eRExpr c15.kids)]]⟩, ⟨1, 40, 1, []⟩, (ro 0 3 1 eI q18)]⟩ := (hA20 _ _ _).2 (by
   refine AX.all [8] rfl (by kernel_rfl) (by decide) ⟨?_, trivial⟩
   ·refine AXs.of (i := 8) rfl rfl (by rfl) ?_
    refine zq tb rfl (AO.done ⟨rfl, (AX.weaken (Wk.to (L := [(1, (ls eI p1)), (3, (ls (eS eI) p3)), (4, (.ptr 0 0 0 0)), (9, (i64 result5)), (10, (i64 t6)), (13, (ls eRExpr p2)), (14, (i64 (Sh.len p2))), (15, (i64 t6)), (20, (.agg (eRSignatures p0))), (27, (ow 3 0 q18)), (28, (.agg [(i64 c15.op), (i64 c15.num), (ls eRExpr c15.kids)]))]) ⟨.rfl, .rfl, .rfl, .rfl, .rfl, .rfl, .rfl, .rfl, .rfl, .rfl, .rfl, trivial⟩) ?_ rfl)⟩)
    exact AX.lst (by kernel_rfl) ((hA20 _ _ _).1 A20_012345678))
  have A20_01234568 : A20 3 #[true, true, true, true, true, true, true, false, true, false, false] ⟨44, envL [(1, (ls eI p1)), (3, (ls (eS eI) p3)), (4, (.ptr 0 0 0 0)), (9, (i64 result5)), (10, (i64 t6)), (13, (ls eRExpr p2)), (14, (i64 (Sh.len p2))), (15, (i64 t6)), (20, (.agg (eRSignatures p0))), (26, (ow 2 0 [p1, c17])), (28, (.agg [(i64 c15.op), (i64 c15.num), (ls eRExpr c15.kids)]))], [⟨0, 97, 2, [(eRSignatures p0)]⟩, ⟨0, 50, 3, [[(i64 c15.op), (i64 c15.num), (ls eRExpr c15.kids)]]⟩, (ro 0 40 1 (eS eI) [p1, c17])]⟩ := (hA20 _ _ _).2 (by
   refine AX.all [7] rfl (by kernel_rfl) (by decide) ⟨?_, trivial⟩
   ·refine AXs.of (i := 7) rfl rfl (by rfl) ?_
    refine AO.weaken (Wk.frz (L := [(1, (ls eI p1)), (3, (ls (eS eI) p3)), (4, (.ptr 0 0 0 0)), (9, (i64 result5)), (10, (i64 t6)), (13, (ls eRExpr p2)), (14, (i64 (Sh.len p2))), (15, (i64 t6)), (20, (.agg (eRSignatures p0))), (26, (ls (eS eI) [p1, c17])), (28, (.agg [(i64 c15.op), (i64 c15.num), (ls eRExpr c15.kids)]))]) (st' := [⟨0, 97, 2, [(eRSignatures p0)]⟩, ⟨0, 50, 3, [[(i64 c15.op), (i64 c15.num), (ls eRExpr c15.kids)]]⟩, ⟨1, 40, 1, []⟩]) (id := 2) rfl (show 0 ≤ 2 by decide) (pure_map fun _ => rfl) ⟨.rfl, .rfl, .rfl, .rfl, .rfl, .rfl, .rfl, .rfl, .rfl, (.frz rfl), .rfl, trivial⟩ rfl) (ao_call (v' := (ow 3 0 q18)) (st' := [⟨0, 97, 2, [(eRSignatures p0)]⟩, ⟨0, 50, 3, [[(i64 c15.op), (i64 c15.num), (ls eRExpr c15.kids)]]⟩, ⟨1, 40, 1, []⟩, (ro 0 3 1 eI q18)]) go0 hb118 (slices_Concat_int_int_ok gq18) rfl rfl ⟨(pure_map' fun _ => rfl), trivial⟩ rfl rfl (AO.done ⟨rfl, (AX.weaken (Wk.to (L := [(1, (ls eI p1)), (3, (ls (eS eI) p3)), (4, (.ptr 0 0 0 0)), (9, (i64 result5)), (10, (i64 t6)), (13, (ls eRExpr p2)), (14, (i64 (Sh.len p2))), (15, (i64 t6)), (20, (.agg (eRSignatures p0))), (27, (ow 3 0 q18)), (28, (.agg [(i64 c15.op), (i64 c15.num), (ls eRExpr c15.kids)]))]) ⟨.rfl, .rfl, .rfl, .rfl, .rfl, .rfl, .rfl, .rfl, .rfl, .rfl, .rfl, trivial⟩) ?_ rfl)⟩))
    exact AX.lst (by kernel_rfl) ((hA20 _ _ _).1 A20_012345678))
  have A20_0123456 : A20 4 #[true, true, true, true, true, true, true, false, false, false, false] ⟨44, envL [(1, (ls eI p1)), (3, (ls (eS eI) p3)), (4, (.ptr 0 0 0 0)), (9, (i64 result5)), (10, (i64 t6)), (11, (.ptr 1 0 0 0)), (13, (ls eRExpr p2)), (14, (i64 (Sh.len p2))), (15, (i64 t6)), (20, (.agg (eRSignatures p0))), (26, (ow 2 0 [p1, c17]))], [⟨0, 97, 2, [(eRSignatures p0)]⟩, ⟨0, 50, 3, [[(i64 c15.op), (i64 c15.num), (ls eRExpr c15.kids)]]⟩, (ro 0 40 1 (eS eI) [p1, c17])]⟩ := (hA20 _ _ _).2 (by
   refine AX.all [7, 8] rfl (by kernel_rfl) (by decide) ⟨?_, ?_, trivial⟩
   ·refine AXs.of (i := 7) rfl rfl (by rfl) ?_
    refine AO.weaken (Wk.frz (L := [(1, (ls eI p1)), (3, (ls (eS eI) p3)), (4, (.ptr 0 0 0 0)), (9, (i64 result5)), (10, (i64 t6)), (11, (.ptr 1 0 0 0)), (13, (ls eRExpr p2)), (14, (i64 (Sh.len p2))), (15, (i64 t6)), (20, (.agg (eRSignatures p0))), (26, (ls (eS eI) [p1, c17]))]) (st' := [⟨0, 97, 2, [(eRSignatures p0)]⟩, ⟨0, 50, 3, [[(i64 c15.op), (i64 c15.num), (ls eRExpr c15.kids)]]⟩, ⟨1, 40, 1, []⟩]) (id := 2) rfl (show 0 ≤ 2 by decide) (pure_map fun _ => rfl) ⟨.rfl, .rfl, .rfl, .rfl, .rfl, .rfl, .rfl, .rfl, .rfl, .rfl, (.frz rfl), trivial⟩ rfl) (ao_call (v' := (ow 3 0 q18)) (st' := [⟨0, 97, 2, [(eRSignatures p0)]⟩, ⟨0, 50, 3, [[(i64 c15.op), (i64 c15.num), (ls eRExpr c15.kids)]]⟩, ⟨1, 40, 1, []⟩, (ro 0 3 1 eI q18)]) go0 hb118 (slices_Concat_int_int_ok gq18) rfl rfl ⟨(pure_map' fun _ => rfl), trivial⟩ rfl rfl (AO.done ⟨rfl, (AX.weaken (Wk.to (L := [(1, (ls eI p1)), (3, (ls (eS eI) p3)), (4, (.ptr 0 0 0 0)), (9, (i64 result5)), (10, (i64 t6)), (11, (.ptr 1 0 0 0)), (13, (ls eRExpr p2)), (14, (i64 (Sh.len p2))), (15, (i64 t6)), (20, (.agg (eRSignatures p0))), (27, (ow 3 0 q18))]) ⟨.rfl, .rfl, .rfl, .rfl, .rfl, .rfl, .rfl, .rfl, .rfl, .rfl, .rfl, trivial⟩) ?_ rfl)⟩))
    exact AX.lst (by kernel_rfl) ((hA20 _ _ _).1 A20_01234567)
   ·refine AXs.of (i := 8) rfl rfl (by rfl) ?_
    refine zq tb rfl (AO.done ⟨rfl, (AX.weaken (Wk.to (L := [(1, (ls eI p1)), (3, (ls (eS eI) p3)), (4, (.ptr 0 0 0 0)), (9, (i64 result5)), (10, (i64 t6)), (13, (ls eRExpr p2)), (14, (i64 (Sh.len p2))), (15, (i64 t6)), (20, (.agg (eRSignatures p0))), (26, (ow 2 0 [p1, c17])), (28, (.agg [(i64 c15.op), (i64 c15.num), (ls eRExpr c15.kids)]))]) ⟨.rfl, .rfl, .rfl, .rfl, .rfl, .rfl, .rfl, .rfl, .rfl, .rfl, .rfl, trivial⟩) ?_ rfl)⟩)
    exact AX.lst (by kernel_rfl) ((hA20 _ _ _).1 A20_01234568))
  have A20_0123458 : A20 4 #[true, true, true, true, true, true, false, false, true, false, false] ⟨44, envL [(1, (ls eI p1)), (3, (ls (eS eI) p3)), (4, (.ptr 0 0 0 0)), (9, (i64 result5)), (10, (i64 t6)), (13, (ls eRExpr p2)), (14, (i64 (Sh.len p2))), (15, (i64 t6)), (20, (.agg (eRSignatures p0))), (21, (ls eI p1)), (25, (ls eI c17)), (28, (.agg [(i64 c15.op), (i64 c15.num), (ls eRExpr c15.kids)]))], [⟨0, 97, 2, [(eRSignatures p0)]⟩, ⟨0, 50, 3, [[(i64 c15.op), (i64 c15.num), (ls eRExpr c15.kids)]]⟩]⟩ := (hA20 _ _ _).2 (by
   refine AX.all [6] rfl (by kernel_rfl) (by decide) ⟨?_, trivial⟩
   ·refine AXs.of (i := 6) rfl rfl (by rfl) ?_
    refine ao_bs (m := 2) (st' := [⟨0, 97, 2, [(eRSignatures p0)]⟩, ⟨0, 50, 3, [[(i64 c15.op), (i64 c15.num), (ls eRExpr c15.kids)]]⟩, (ro 0 40 1 (eS eI) [p1, c17])]) (l := [p1, c17]) (enc := (eS eI)) go0 ei123 (by decide) rfl rfl rfl rfl rfl rfl ?_
    refine AO.done ⟨rfl, (AX.weaken (Wk.to (L := [(1, (ls eI p1)), (3, (ls (eS eI) p3)), (4, (.ptr 0 0 0 0)), (9, (i64 result5)), (10, (i64 t6)), (13, (ls eRExpr p2)), (14, (i64 (Sh.len p2))), (15, (i64 t6)), (20, (.agg (eRSignatures p0))), (26, (ow 2 0 [p1, c17])), (28, (.agg [(i64 c15.op), (i64 c15.num), (ls eRExpr c15.kids)]))]) ⟨.rfl, .rfl, .rfl, .rfl, .rfl, .rfl, .rfl, .rfl, .rfl, .rfl, .rfl, trivial⟩) ?_ rfl)⟩
    exact AX.lst (by kernel_rfl) ((hA20 _ _ _).1 A20_01234568))
  have A20_012345 : A20 5 #[true, true, true, true, true, true, false, false, false, false, false] ⟨44, envL [(1, (ls eI p1)), (3, (ls (eS eI) p3)), (4, (.ptr 0 0 0 0)), (9, (i64 result5)), (10, (i64 t6)), (11, (.ptr 1 0 0 0)), (13, (ls eRExpr p2)), (14, (i64 (Sh.len p2))), (15, (i64 t6)), (20, (.agg (eRSignatures p0))), (21, (ls eI p1)), (25, (ls eI c17))], [⟨0, 97, 2, [(eRSignatures p0)]⟩, ⟨0, 50, 3, [[(i64 c15.op), (i64 c15.num), (ls eRExpr c15.kids)]]⟩]⟩ := (hA20 _ _ _).2 (by
   refine AX.all [6, 8] rfl (by kernel_rfl) (by decide) ⟨?_, ?_, trivial⟩
   ·refine AXs.of (i := 6) rfl rfl (by rfl) ?_
    refine ao_bs (m := 2) (st' := [⟨0, 97, 2, [(eRSignatures p0)]⟩, ⟨0, 50, 3, [[(i64 c15.op), (i64 c15.num), (ls eRExpr c15.kids)]]⟩, (ro 0 40 1 (eS eI) [p1, c17])]) (l := [p1, c17]) (enc := (eS eI)) go0 ei123 (by decide) rfl rfl rfl rfl rfl rfl ?_
    refine AO.done ⟨rfl, (AX.weaken (Wk.to (L := [(1, (ls eI p1)), (3, (ls (eS eI) p3)), (4, (.ptr 0 0 0 0)), (9, (i64 result5)), (10, (i64 t6)), (11, (.ptr 1 0 0 0)), (13, (ls eRExpr p2)), (14, (i64 (Sh.len p2))), (15, (i64 t6)), (20, (.agg (eRSignatures p0))), (26, (ow 2 0 [p1, c17]))]) ⟨.rfl, .rfl, .rfl, .rfl, .rfl, .rfl, .rfl, .rfl, .rfl, .rfl, .rfl, trivial⟩) ?_ rfl)⟩
    exact AX.lst (by kernel_rfl) ((hA20 _ _ _).1 A20_0123456)
   ·refine AXs.of (i := 8) rfl rfl (by rfl) ?_
    refine zq tb rfl (AO.done ⟨rfl, (AX.weaken (Wk.to (L := [(1, (ls eI p1)), (3, (ls (eS eI) p3)), (4, (.ptr 0 0 0 0)), (9, (i64 result5)), (10, (i64 t6)), (13, (ls eRExpr p2)), (14, (i64 (Sh.len p2))), (15, (i64 t6)), (20, (.agg (eRSignatures p0))), (21, (ls eI p1)), (25, (ls eI c17)), (28, (.agg [(i64 c15.op), (i64 c15.num), (ls eRExpr c15.kids)]))]) ⟨.rfl, .rfl, .rfl, .rfl, .rfl, .rfl, .rfl, .rfl, .rfl, .rfl, .rfl, .rfl, trivial⟩) ?_ rfl)⟩)
    exact AX.lst (by kernel_rfl) ((hA20 _ _ _).1 A20_0123458))
  have A20_012348 : A20 5 #[true, true, true, true, true, false, false, false, true, false, false] ⟨44, envL [(1, (ls eI p1)), (3, (ls (eS eI) p3)), (4, (.ptr 0 0 0 0)), (9, (i64 result5)), (10, (i64 t6)), (13, (ls eRExpr p2)), (14, (i64 (Sh.len p2))), (15, (i64 t6)), (20, (.agg (eRSignatures p0))), (21, (ls eI p1)), (24, (.iptr ((eS eI) c17) 0)), (28, (.agg [(i64 c15.op), (i64 c15.num), (ls eRExpr c15.kids)]))], [⟨0, 97, 2, [(eRSignatures p0)]⟩, ⟨0, 50, 3, [[(i64 c15.op), (i64 c15.num), (ls eRExpr c15.kids)]]⟩]⟩ := (hA20 _ _ _).2 (by
   refine AX.all [5] rfl (by kernel_rfl) (by decide) ⟨?_, trivial⟩
   ·refine AXs.of (i := 5) rfl rfl (by rfl) ?_
    refine zq tb rfl (AO.done ⟨rfl, (AX.weaken (Wk.to (L := [(1, (ls eI p1)), (3, (ls (eS eI) p3)), (4, (.ptr 0 0 0 0)), (9, (i64 result5)), (10, (i64 t6)), (13, (ls eRExpr p2)), (14, (i64 (Sh.len p2))), (15, (i64 t6)), (20, (.agg (eRSignatures p0))), (21, (ls eI p1)), (25, (ls eI c17)), (28, (.agg [(i64 c15.op), (i64 c15.num), (ls eRExpr c15.kids)]))]) ⟨.rfl, .rfl, .rfl, .rfl, .rfl, .rfl, .rfl, .rfl, .rfl, .rfl, .rfl, .rfl, trivial⟩) ?_ rfl)⟩)
    exact AX.lst (by kernel_rfl) ((hA20 _ _ _).1 A20_0123458))
  have A20_01234 : A20 6 #[true, true, true, true, true, false, false, false, false, false, false] ⟨44, envL [(1, (ls eI p1)), (3, (ls (eS eI) p3)), (4, (.ptr 0 0 0 0)), (9, (i64 result5)), (10, (i64 t6)), (11, (.ptr 1 0 0 0)), (13, (ls eRExpr p2)), (14, (i64 (Sh.len p2))), (15, (i64 t6)), (20, (.agg (eRSignatures p0))), (21, (ls eI p1)), (24, (.iptr ((eS eI) c17) 0))], [⟨0, 97, 2, [(eRSignatures p0)]⟩, ⟨0, 50, 3, [[(i64 c15.op), (i64 c15.num), (ls eRExpr c15.kids)]]⟩]⟩ := (hA20 _ _ _).2 (by
   refine AX.all [5, 8] rfl (by kernel_rfl) (by decide) ⟨?_, ?_, trivial⟩
   ·refine AXs.of (i := 5) rfl rfl (by rfl) ?_
    refine zq tb rfl (AO.done ⟨rfl, (AX.weaken (Wk.to (L := [(1, (ls eI p1)), (3, (ls (eS eI) p3)), (4, (.ptr 0 0 0 0)), (9, (i64 result5)), (10, (i64 t6)), (11, (.ptr 1 0 0 0)), (13, (ls eRExpr p2)), (14, (i64 (Sh.len p2))), (15, (i64 t6)), (20, (.agg (eRSignatures p0))), (21, (ls eI p1)), (25, (ls eI c17))]) ⟨.rfl, .rfl, .rfl, .rfl, .rfl, .rfl, .rfl, .rfl, .rfl, .rfl, .rfl, .rfl, trivial⟩) ?_ rfl)⟩)
    exact AX.lst (by kernel_rfl) ((hA20 _ _ _).1 A20_012345)
   ·refine AXs.of (i := 8) rfl rfl (by rfl) ?_
    refine zq tb rfl (AO.done ⟨rfl, (AX.weaken (Wk.to (L := [(1, (ls eI p1)), (3, (ls (eS eI) p3)), (4, (.ptr 0 0 0 0)), (9, (i64 result5)), (10, (i64 t6)), (13, (ls eRExpr p2)), (14, (i64 (Sh.len p2))), (15, (i64 t6)), (20, (.agg (eRSignatures p0))), (21, (ls eI p1)), (24, (.iptr ((eS eI) c17) 0)), (28, (.agg [(i64 c15.op), (i64 c15.num), (ls eRExpr c15.kids)]))]) ⟨.rfl, .rfl, .rfl, .rfl, .rfl, .rfl, .rfl, .rfl, .rfl, .rfl, .rfl, .rfl, trivial⟩) ?_ rfl)⟩)
    exact AX.lst (by kernel_rfl) ((hA20 _ _ _).1 A20_012348))
  have A20_01238 : A20 6 #[true, true, true, true, false, false, false, false, true, false, false] ⟨44, envL [(1, (ls eI p1)), (3, (ls (eS eI) p3)), (4, (.ptr 0 0 0 0)), (9, (i64 result5)), (10, (i64 t6)), (13, (ls eRExpr p2)), (14, (i64 (Sh.len p2))), (15, (i64 t6)), (20, (.agg (eRSignatures p0))), (21, (ls eI p1)), (22, (ls (eS eI) p3)), (23, (i64 t6)), (28, (.agg [(i64 c15.op), (i64 c15.num), (ls eRExpr c15.kids)]))], [⟨0, 97, 2, [(eRSignatures p0)]⟩, ⟨0, 50, 3, [[(i64 c15.op), (i64 c15.num), (ls eRExpr c15.kids)]]⟩]⟩ := (hA20 _ _ _).2 (by
   refine AX.all [4] rfl (by kernel_rfl) (by decide) ⟨?_, trivial⟩
   ·refine AXs.of (i := 4) rfl rfl (by rfl) ?_
    refine zx ei123 gc17 rfl rfl rfl (AO.done ⟨rfl, (AX.weaken (Wk.to (L := [(1, (ls eI p1)), (3, (ls (eS eI) p3)), (4, (.ptr 0 0 0 0)), (9, (i64 result5)), (10, (i64 t6)), (13, (ls eRExpr p2)), (14, (i64 (Sh.len p2))), (15, (i64 t6)), (20, (.agg (eRSignatures p0))), (21, (ls eI p1)), (24, (.iptr ((eS eI) c17) 0)), (28, (.agg [(i64 c15.op), (i64 c15.num), (ls eRExpr c15.kids)]))]) ⟨.rfl, .rfl, .rfl, .rfl, .rfl, .rfl, .rfl, .rfl, .rfl, .rfl, .rfl, .rfl, trivial⟩) ?_ rfl)⟩)
    exact AX.lst (by kernel_rfl) ((hA20 _ _ _).1 A20_012348))
  have A20_0123 : A20 7 #[true, true, true, true, false, false, false, false, false, false, false] ⟨44, envL [(1, (ls eI p1)), (3, (ls (eS eI) p3)), (4, (.ptr 0 0 0 0)), (9, (i64 result5)), (10, (i64 t6)), (11, (.ptr 1 0 0 0)), (13, (ls eRExpr p2)), (14, (i64 (Sh.len p2))), (15, (i64 t6)), (20, (.agg (eRSignatures p0))), (21, (ls eI p1)), (22, (ls (eS eI) p3)), (23, (i64 t6))], [⟨0, 97, 2, [(eRSignatures p0)]⟩, ⟨0, 50, 3, [[(i64 c15.op), (i64 c15.num), (ls eRExpr c15.kids)]]⟩]⟩ := (hA20 _ _ _).2 (by
   refine AX.all [4, 8] rfl (by kernel_rfl) (by decide) ⟨?_, ?_, trivial⟩
   ·refine AXs.of (i := 4) rfl rfl (by rfl) ?_
    refine zx ei123 gc17 rfl rfl rfl (AO.done ⟨rfl, (AX.weaken (Wk.to (L := [(1, (ls eI p1)), (3, (ls (eS eI) p3)), (4, (.ptr 0 0 0 0)), (9, (i64 result5)), (10, (i64 t6)), (11, (.ptr 1 0 0 0)), (13, (ls eRExpr p2)), (14, (i64 (Sh.len p2))), (15, (i64 t6)), (20, (.agg (eRSignatures p0))), (21, (ls eI p1)), (24, (.iptr ((eS eI) c17) 0))]) ⟨.rfl, .rfl, .rfl, .rfl, .rfl, .rfl, .rfl, .rfl, .rfl, .rfl, .rfl, .rfl, trivial⟩) ?_ rfl)⟩)
    exact AX.lst (by kernel_rfl) ((hA20 _ _ _).1 A20_01234)
   ·refine AXs.of (i := 8) rfl rfl (by rfl) ?_
    refine zq tb rfl (AO.done ⟨rfl, (AX.weaken (Wk.to (L := [(1, (ls eI p1)), (3, (ls (eS eI) p3)), (4, (.ptr 0 0 0 0)), (9, (i64 result5)), (10, (i64 t6)), (13, (ls eRExpr p2)), (14, (i64 (Sh.len p2))), (15, (i64 t6)), (20, (.agg (eRSignatures p0))), (21, (ls eI p1)), (22, (ls (eS eI) p3)), (23, (i64 t6)), (28, (.agg [(i64 c15.op), (i64 c15.num), (ls eRExpr c15.kids)]))]) ⟨.rfl, .rfl, .rfl, .rfl, .rfl, .rfl, .rfl, .rfl, .rfl, .rfl, .rfl, .rfl, .rfl, trivial⟩) ?_ rfl)⟩)
    exact AX.lst (by kernel_rfl) ((hA20 _ _ _).1 A20_01238))
  have A20_12345678 : A20 3 #[false, true, true, true, true, true, true, true, true, false, false] ⟨44, envL [(1, (ls eI p1)), (3, (ls (eS eI) p3)), (4, (.ptr 0 0 0 0)), (9, (i64 result5)), (10, (i64 t6)), (13, (ls eRExpr p2)), (14, (i64 (Sh.len p2))), (15, (i64 t6)), (27, (ow 3 0 q18)), (28, (.agg [(i64 c15.op), (i64 c15.num), (ls eRExpr c15.kids)]))], [⟨0, 97, 2, [(eRSignatures p0)]⟩, ⟨0, 50, 3, [[(i64 c15.op), (i64 c15.num), (ls eRExpr c15.kids)]]⟩, ⟨1, 40, 1, []⟩, (ro 0 3 1 eI q18)]⟩ := (hA20 _ _ _).2 (by
   refine AX.all [0] rfl (by kernel_rfl) (by decide) ⟨?_, trivial⟩
   ·refine AXs.of (i := 0) rfl rfl (by rfl) ?_
    refine zq tb rfl (AO.done ⟨rfl, (AX.weaken (Wk.to (L := [(1, (ls eI p1)), (3, (ls (eS eI) p3)), (4, (.ptr 0 0 0 0)), (9, (i64 result5)), (10, (i64 t6)), (13, (ls eRExpr p2)), (14, (i64 (Sh.len p2))), (15, (i64 t6)), (20, (.agg (eRSignatures p0))), (27, (ow 3 0 q18)), (28, (.agg [(i64 c15.op), (i64 c15.num), (ls eRExpr c15.kids)]))]) ⟨.rfl, .rfl, .rfl, .rfl, .rfl, .rfl, .rfl, .rfl, .rfl, .rfl, .rfl, trivial⟩) ?_ rfl)⟩)
    exact AX.lst (by kernel_rfl) ((hA20 _ _ _).1 A20_012345678))
  have A20_1234567 : A20 4 #[false, true, true, true, true, true, true, true, false, false, false] ⟨44, envL [(1, (ls eI p1)), (3, (ls (eS eI) p3)), (4, (.ptr 0 0 0 0)), (9, (i64 result5)), (10, (i64 t6)), (11, (.ptr 1 0 0 0)), (13, (ls eRExpr p2)), (14, (i64 (Sh.len p2))), (15, (i64 t6)), (27, (ow 3 0 q18))], [⟨0, 97, 2, [(eRSignatures p0)]⟩, ⟨0, 50, 3, [[(i64 c15.op), (i64 c15.num), (ls eRExpr c15.kids)]]⟩, ⟨1, 40, 1, []⟩, (ro 0 3 1 eI q18)]⟩ := (hA20 _ _ _).2 (by
   refine AX.all [0, 8] rfl (by kernel_rfl) (by decide) ⟨?_, ?_, trivial⟩
   ·refine AXs.of (i := 0) rfl rfl (by rfl) ?_
    refine zq tb rfl (AO.done ⟨rfl, (AX.weaken (Wk.to (L := [(1, (ls eI p1)), (3, (ls (eS eI) p3)), (4, (.ptr 0 0 0 0)), (9, (i64 result5)), (10, (i64 t6)), (11, (.ptr 1 0 0 0)), (13, (ls eRExpr p2)), (14, (i64 (Sh.len p2))), (15, (i64 t6)), (20, (.agg (eRSignatures p0))), (27, (ow 3 0 q18))]) ⟨.rfl, .rfl, .rfl, .rfl, .rfl, .rfl, .rfl, .rfl, .rfl, .rfl, .rfl, trivial⟩) ?_ rfl)⟩)
    exact AX.lst (by kernel_rfl) ((hA20 _ _ _).1 A20_01234567)
   ·refine AXs.of (i := 8) rfl rfl (by rfl) ?_
    refine zq tb rfl (AO.done ⟨rfl, (AX.weaken (Wk.to (L := [(1, (ls eI p1)), (3, (ls (eS eI) p3)), (4, (.ptr 0 0 0 0)), (9, (i64 result5)), (10, (i64 t6)), (13, (ls eRExpr p2)), (14, (i64 (Sh.len p2))), (15, (i64 t6)), (27, (ow 3 0 q18)), (28, (.agg [(i64 c15.op), (i64 c15.num), (ls eRExpr c15.kids)]))]) ⟨.rfl, .rfl, .rfl, .rfl, .rfl, .rfl, .rfl, .rfl, .rfl, .rfl, trivial⟩) ?_ rfl)⟩)
    exact AX.lst (by kernel_rfl) ((hA20 _ _ _).1 A20_12345678))
  have A20_1234568 : A20 4 #[false, true, true, true, true, true, true, false, true, false, false] ⟨44, envL [(1, (ls eI p1)), (3, (ls (eS eI) p3)), (4, (.ptr 0 0 0 0)), (9, (i64 result5)), (10, (i64 t6)), (13, (ls eRExpr p2)), (14, (i64 (Sh.len p2))), (15, (i64 t6)), (26, (ow 2 0 [p1, c17])), (28, (.agg [(i64 c15.op), (i64 c15.num), (ls eRExpr c15.kids)]))], [⟨0, 97, 2, [(eRSignatures p0)]⟩, ⟨0, 50, 3, [[(i64 c15.op), (i64 c15.num), (ls eRExpr c15.kids)]]⟩, (ro 0 40 1 (eS eI) [p1, c17])]⟩ := (hA20 _ _ _).2 (by
   refine AX.all [0, 7] rfl (by kernel_rfl) (by decide) ⟨?_, ?_, trivial⟩
   ·refine AXs.of (i := 0) rfl rfl (by rfl) ?_
    refine zq tb rfl (AO.done ⟨rfl, (AX.weaken (Wk.to (L := [(1, (ls eI p1)), (3, (ls (eS eI) p3)), (4, (.ptr 0 0 0 0)), (9, (i64 result5)), (10, (i64 t6)), (13, (ls eRExpr p2)), (14, (i64 (Sh.len p2))), (15, (i64 t6)), (20, (.agg (eRSignatures p0))), (26, (ow 2 0 [p1, c17])), (28, (.agg [(i64 c15.op), (i64 c15.num), (ls eRExpr c15.kids)]))]) ⟨.rfl, .rfl, .rfl, .rfl, .rfl, .rfl, .rfl, .rfl, .rfl, .rfl, .rfl, trivial⟩) ?_ rfl)⟩)
    exact AX.lst (by kernel_rfl) ((hA20 _ _ _).1 A20_01234568)
   ·refine AXs.of (i := 7) rfl rfl (by rfl) ?_
    refine AO.weaken (Wk.frz (L := [(1, (ls eI p1)), (3, (ls (eS eI) p3)), (4, (.ptr 0 0 0 0)), (9, (i64 result5)), (10, (i64 t6)), (13, (ls eRExpr p2)), (14, (i64 (Sh.len p2))), (15, (i64 t6)), (26, (ls (eS eI) [p1, c17])), (28, (.agg [(i64 c15.op), (i64 c15.num), (ls eRExpr c15.kids)]))]) (st' := [⟨0, 97, 2, [(eRSignatures p0)]⟩, ⟨0, 50, 3, [[(i64 c15.op), (i64 c15.num), (ls eRExpr c15.kids)]]⟩, ⟨1, 40, 1, []⟩]) (id := 2) rfl (show 0 ≤ 2 by decide) (pure_map fun _ => rfl) ⟨.rfl, .rfl, .rfl, .rfl, .rfl, .rfl, .rfl, .rfl, (.frz rfl), .rfl, trivial⟩ rfl) (ao_call (v' := (ow 3 0 q18)) (st' := [⟨0, 97, 2, [(eRSignatures p0)]⟩, ⟨0, 50, 3, [[(i64 c15.op), (i64 c15.num), (ls eRExpr c15.kids)]]⟩, ⟨1, 40, 1, []⟩, (ro 0 3 1 eI q18)]) go0 hb118 (slices_Concat_int_int_ok gq18) rfl rfl ⟨(pure_map' fun _ => rfl), trivial⟩ rfl rfl (AO.done ⟨rfl, (AX.weaken (Wk.to (L := [(1, (ls eI p1)), (3, (ls (eS eI) p3)), (4, (.ptr 0 0 0 0)), (9, (i64 result5)), (10, (i64 t6)), (13, (ls eRExpr p2)), (14, (i64 (Sh.len p2))), (15, (i64 t6)), (27, (ow 3 0 q18)), (28, (.agg [(i64 c15.op), (i64 c15.num), (ls eRExpr c15.kids)]))]) ⟨.rfl, .rfl, .rfl, .rfl, .rfl, .rfl, .rfl, .rfl, .rfl, .rfl, trivial⟩) ?_ rfl)⟩))
    exact AX.lst (by kernel_rfl) ((hA20 _ _ _).1 A20_12345678))
  have A20_123456 : A20 5 #[false, true, true, true, true, true, true, false, false, false, false] ⟨44, envL [(1, (ls eI p1)), (3, (ls (eS eI) p3)), (4, (.ptr 0 0 0 0)), (9, (i64 result5)), (10, (i64 t6)), (11, (.ptr 1 0 0 0)), (13, (ls eRExpr p2)), (14, (i64 (Sh.len p2))), (15, (i64 t6)), (26, (ow 2 0 [p1, c17]))], [⟨0, 97, 2, [(eRSignatures p0)]⟩, ⟨0, 50, 3, [[(i64 c15.op), (i64 c15.num), (ls eRExpr c15.kids)]]⟩, (ro 0 40 1 (eS eI) [p1, c17])]⟩ := (hA20 _ _ _).2 (by
   refine AX.all [0, 7, 8] rfl (by kernel_rfl) (by decide) ⟨?_, ?_, ?_, trivial⟩
   ·refine AXs.of (i := 0) rfl rfl (by rfl) ?_
    refine zq tb rfl (AO.done ⟨rfl, (AX.weaken (Wk.to (L := [(1, (ls eI p1)), (3, (ls (eS eI) p3)), (4, (.ptr 0 0 0 0)), (9, (i64 result5)), (10, (i64 t6)), (11, (.ptr 1 0 0 0)), (13, (ls eRExpr p2)), (14, (i64 (Sh.len p2))), (15, (i64 t6)), (20, (.agg (eRSignatures p0))), (26, (ow 2 0 [p1, c17]))]) ⟨.rfl, .rfl, .rfl, .rfl, .rfl, .rfl, .rfl, .rfl, .rfl, .rfl, .rfl, trivial⟩) ?_ rfl)⟩)
    exact AX.lst (by kernel_rfl) ((hA20 _ _ _).1 A20_0123456)
   ·refine AXs.of (i := 7) rfl rfl (by rfl) ?_
    refine AO.weaken (Wk.frz (L := [(1, (ls eI p1)), (3, (ls (eS eI) p3)), (4, (.ptr 0 0 0 0)), (9, (i64 result5)), (10, (i64 t6)), (11, (.ptr 1 0 0 0)), (13, (ls eRExpr p2)), (14, (i64 (Sh.len p2))), (15, (i64 t6)), (26, (ls (eS eI) [p1, c17]))]) (st' := [⟨0, 97, 2, [(eRSignatures p0)]⟩, ⟨0, 50, 3, [[(i64 c15.op), (i64 c15.num), (ls eRExpr c15.kids)]]⟩, ⟨1, 40, 1, []⟩]) (id := 2) rfl (show 0 ≤ 2 by decide) (pure_map fun _ => rfl) ⟨.rfl, .rfl, .rfl, .rfl, .rfl, .rfl, .rfl, .rfl, .rfl, (.frz rfl), trivial⟩ rfl) (ao_call (v' := (ow 3 0 q18)) (st' := [⟨0, 97, 2, [(eRSignatures p0)]⟩, ⟨0, 50, 3, [[(i64 c15.op), (i64 c15.num), (ls eRExpr c15.kids)]]⟩, ⟨1, 40, 1, []⟩, (ro 0 3 1 eI q18)]) go0 hb118 (slices_Concat_int_int_ok gq18) rfl rfl ⟨(pure_map' fun _ => rfl), trivial⟩ rfl rfl (AO.done ⟨rfl, (AX.weaken (Wk.to (L := [(1, (ls eI p1)), (3, (ls (eS eI) p3)), (4, (.ptr 0 0 0 0)), (9, (i64 result5)), (10, (i64 t6)), (11, (.ptr 1 0 0 0)), (13, (ls eRExpr p2)), (14, (i64 (Sh.len p2))), (15, (i64 t6)), (27, (ow 3 0 q18))]) ⟨.rfl, .rfl, .rfl, .rfl, .rfl, .rfl, .rfl, .rfl, .rfl, .rfl, trivial⟩) ?_ rfl)⟩))
    exact AX.lst (by kernel_rfl) ((hA20 _ _ _).1 A20_1234567)
   ·refine AXs.of (i := 8) rfl rfl (by rfl) ?_
    refine zq tb rfl (AO.done ⟨rfl, (AX.weaken (Wk.to (L := [(1, (ls eI p1)), (3, (ls (eS eI) p3)), (4, (.ptr 0 0 0 0)), (9, (i64 result5)), (10, (i64 t6)), (13, (ls eRExpr p2)), (14, (i64 (Sh.len p2))), (15, (i64 t6)), (26, (ow 2 0 [p1, c17])), (28, (.agg [(i64 c15.op), (i64 c15.num), (ls eRExpr c15.kids)]))]) ⟨.rfl, .rfl, .rfl, .rfl, .rfl, .rfl, .rfl, .rfl, .rfl, .rfl, trivial⟩) ?_ rfl)⟩)
    exact AX.lst (by kernel_rfl) ((hA20 _ _ _).1 A20_1234568))
  have A20_123458 : A20 5 #[false, true, true, true, true, true, false, false, true, false, false] ⟨44, envL [(1, (ls eI p1)), (3, (ls (eS eI) p3)), (4, (.ptr 0 0 0 0)), (9, (i64 result5)), (10, (i64 t6)), (13, (ls eRExpr p2)), (14, (i64 (Sh.len p2))), (15, (i64 t6)), (21, (ls eI p1)), (25, (ls eI c17)), (28, (.agg [(i64 c15.op), (i64 c15.num), (ls eRExpr c15.kids)]))], [⟨0, 97, 2, [(eRSignatures p0)]⟩, ⟨0, 50, 3, [[(i64 c15.op), (i64 c15.num), (ls eRExpr c15.kids)]]⟩]⟩ := (hA20 _ _ _).2 (by
   refine AX.all [0, 6] rfl (by kernel_rfl) (by decide) ⟨?_, ?_, trivial⟩
   ·refine AXs.of (i := 0) rfl rfl (by rfl) ?_
    refine zq tb rfl (AO.done ⟨rfl, (AX.weaken (Wk.to (L := [(1, (ls eI p1)), (3, (ls (eS eI) p3)), (4, (.ptr 0 0 0 0)), (9, (i64 result5)), (10, (i64 t6)), (13, (ls eRExpr p2)), (14, (i64 (Sh.len p2))), (15, (i64 t6)), (20, (.agg (eRSignatures p0))), (21, (ls eI p1)), (25, (ls eI c17)), (28, (.agg [(i64 c15.op), (i64 c15.num), (ls eRExpr c15.kids)]))]) ⟨.rfl, .rfl, .rfl, .rfl, .rfl, .rfl, .rfl, .rfl, .rfl, .rfl, .rfl, .rfl, trivial⟩) ?_ rfl)⟩)
    exact AX.lst (by kernel_rfl) ((hA20 _ _ _).1 A20_0123458)
   ·refine AXs.of (i := 6) rfl rfl (by rfl) ?_
    refine ao_bs (m := 2) (st' := [⟨0, 97, 2, [(eRSignatures p0)]⟩, ⟨0, 50, 3, [[(i64 c15.op), (i64 c15.num), (ls eRExpr c15.kids)]]⟩, (ro 0 40 1 (eS eI) [p1, c17])]) (l := [p1, c17]) (enc := (eS eI)) go0 ei123 (by decide) rfl rfl rfl rfl rfl rfl ?_
    refine AO.done ⟨rfl, (AX.weaken (Wk.to (L := [(1, (ls eI p1)), (3, (ls (eS eI) p3)), (4, (.ptr 0 0 0 0)), (9, (i64 result5)), (10, (i64 t6)), (13, (ls eRExpr p2)), (14, (i64 (Sh.len p2))), (15, (i64 t6)), (26, (ow 2 0 [p1, c17])), (28, (.agg [(i64 c15.op), (i64 c15.num), (ls eRExpr c15.kids)]))]) ⟨.rfl, .rfl, .rfl, .rfl, .rfl, .rfl, .rfl, .rfl, .rfl, .rfl, trivial⟩) ?_ rfl)⟩
    exact AX.lst (by kernel_rfl) ((hA20 _ _ _).1 A20_1234568))
  have A20_12345 : A20 6 #[false, true, true, true, true, true, false, false, false, false, false] ⟨44, envL [(1, (ls eI p1)), (3, (ls (eS eI) p3)), (4, (.ptr 0 0 0 0)), (9, (i64 result5)), (10, (i64 t6)), (11, (.ptr 1 0 0 0)), (13, (ls eRExpr p2)), (14, (i64 (Sh.len p2))), (15, (i64 t6)), (21, (ls eI p1)), (25, (ls eI c17))], [⟨0, 97, 2, [(eRSignatures p0)]⟩, ⟨0, 50, 3, [[(i64 c15.op), (i64 c15.num), (ls eRExpr c15.kids)]]⟩]⟩ := (hA20 _ _ _).2 (by
   refine AX.all [0, 6, 8] rfl (by kernel_rfl) (by decide) ⟨?_, ?_, ?_, trivial⟩
   ·refine AXs.of (i := 0) rfl rfl (by rfl) ?_
    refine zq tb rfl (AO.done ⟨rfl, (AX.weaken (Wk.to (L := [(1, (ls eI p1)), (3, (ls (eS eI) p3)), (4, (.ptr 0 0 0 0)), (9, (i64 result5)), (10, (i64 t6)), (11, (.ptr 1 0 0 0)), (13, (ls eRExpr p2)), (14, (i64 (Sh.len p2))), (15, (i64 t6)), (20, (.agg (eRSignatures p0))), (21, (ls eI p1)), (25, (ls eI c17))]) ⟨.rfl, .rfl, .rfl, .rfl, .rfl, .rfl, .rfl, .rfl, .rfl, .rfl, .rfl, .rfl, trivial⟩) ?_ rfl)⟩)
    exact AX.lst (by kernel_rfl) ((hA20 _ _ _).1 A20_012345)
   ·refine AXs.of (i := 6) rfl rfl (by rfl) ?_
    refine ao_bs (m := 2) (st' := [⟨0, 97, 2, [(eRSignatures p0)]⟩, ⟨0, 50, 3, [[(i64 c15.op), (i64 c15.num), (ls eRExpr c15.kids)]]⟩, (ro 0 40 1 (eS eI) [p1, c17])]) (l := [p1, c17]) (enc := (eS eI)) go0 ei123 (by decide) rfl rfl rfl rfl rfl rfl ?_
    refine AO.done ⟨rfl, (AX.weaken (Wk.to (L := [(1, (ls eI p1)), (3, (ls (eS eI) p3)), (4, (.ptr 0 0 0 0)), (9, (i64 result5)), (10, (i64 t6)), (11, (.ptr 1 0 0 0)), (13, (ls eRExpr p2)), (14, (i64 (Sh.len p2))), (15, (i64 t6)), (26, (ow 2 0 [p1, c17]))]) ⟨.rfl, .rfl, .rfl, .rfl, .rfl, .rfl, .rfl, .rfl, .rfl, .rfl, trivial⟩) ?_ rfl)⟩
    exact AX.lst (by kernel_rfl) ((hA20 _ _ _).1 A20_123456)
   ·refine AXs.of (i := 8) rfl rfl (by rfl) ?_
    refine zq tb rfl (AO.done ⟨rfl, (AX.weaken (Wk.to (L := [(1, (ls eI p1)), (3, (ls (eS eI) p3)), (4, (.ptr 0 0 0 0)), (9, (i64 result5)), (10, (i64 t6)), (13, (ls eRExpr p2)), (14, (i64 (Sh.len p2))), (15, (i64 t6)), (21, (ls eI p1)), (25, (ls eI c17)), (28, (.agg [(i64 c15.op), (i64 c15.num), (ls eRExpr c15.kids)]))]) ⟨.rfl, .rfl, .rfl, .rfl, .rfl, .rfl, .rfl, .rfl, .rfl, .rfl, .rfl, trivial⟩) ?_ rfl)⟩)
    exact AX.lst (by kernel_rfl) ((hA20 _ _ _).1 A20_123458))
  have A20_12348 : A20 6 #[false, true, true, true, true, false, false, false, true, false, false] ⟨44, envL [(1, (ls eI p1)), (3, (ls (eS eI) p3)), (4, (.ptr 0 0 0 0)), (9, (i64 result5)), (10, (i64 t6)), (13, (ls eRExpr p2)), (14, (i64 (Sh.len p2))), (15, (i64 t6)), (21, (ls eI p1)), (24, (.iptr ((eS eI) c17) 0)), (28, (.agg [(i64 c15.op), (i64 c15.num), (ls eRExpr c15.kids)]))], [⟨0, 97, 2, [(eRSignatures p0)]⟩, ⟨0, 50, 3, [[(i64 c15.op), (i64 c15.num), (ls eRExpr c15.kids)]]⟩]⟩ := (hA20 _ _ _).2 (by
   refine AX.all [0, 5] rfl (by kernel_rfl) (by decide) ⟨?_, ?_, trivial⟩
   ·refine AXs.of (i := 0) rfl rfl (by rfl) ?_
    refine zq tb rfl (AO.done ⟨rfl, (AX.weaken (Wk.to (L := [(1, (ls eI p1)), (3, (ls (eS eI) p3)), (4, (.ptr 0 0 0 0)), (9, (i64 result5)), (10, (i64 t6)), (13, (ls eRExpr p2)), (14, (i64 (Sh.len p2))), (15, (i64 t6)), (20, (.agg (eRSignatures p0))), (21, (ls eI p1)), (24, (.iptr ((eS eI) c17) 0)), (28, (.agg [(i64 c15.op), (i64 c15.num), (ls eRExpr c15.kids)]))]) ⟨.rfl, .rfl, .rfl, .rfl, .rfl, .rfl, .rfl, .rfl, .rfl, .rfl, .rfl, .rfl, trivial⟩) ?_ rfl)⟩)
    exact AX.lst (by kernel_rfl) ((hA20 _ _ _).1 A20_012348)
   ·refine AXs.of (i := 5) rfl rfl (by rfl) ?_
    refine zq tb rfl (AO.done ⟨rfl, (AX.weaken (Wk.to (L := [(1, (ls eI p1)), (3, (ls (eS eI) p3)), (4, (.ptr 0 0 0 0)), (9, (i64 result5)), (10, (i64 t6)), (13, (ls eRExpr p2)), (14, (i64 (Sh.len p2))), (15, (i64 t6)), (21, (ls eI p1)), (25, (ls eI c17)), (28, (.agg [(i64 c15.op), (i64 c15.num), (ls eRExpr c15.kids)]))]) ⟨.rfl, .rfl, .rfl, .rfl, .rfl, .rfl, .rfl, .rfl, .rfl, .rfl, .rfl, trivial⟩) ?_ rfl)⟩)
    exact AX.lst (by kernel_rfl) ((hA20 _ _ _).1 A20_123458))
  have A20_1234 : A20 7 #[false, true, true, true, true, false, false, false, false, false, false] ⟨44, envL [(1, (ls eI p1)), (3, (ls (eS eI) p3)), (4, (.ptr 0 0 0 0)), (9, (i64 result5)), (10, (i64 t6)), (11, (.ptr 1 0 0 0)), (13, (ls eRExpr p2)), (14, (i64 (Sh.len p2))), (15, (i64 t6)), (21, (ls eI p1)), (24, (.iptr ((eS eI) c17) 0))], [⟨0, 97, 2, [(eRSignatures p0)]⟩, ⟨0, 50, 3, [[(i64 c15.op), (i64 c15.num), (ls eRExpr c15.kids)]]⟩]⟩ := (hA20 _ _ _).2 (by
   refine AX.all [0, 5, 8] rfl (by kernel_rfl) (by decide) ⟨?_, ?_, ?_, trivial⟩
   ·refine AXs.of (i := 0) rfl rfl (by rfl) ?_
    refine zq tb rfl (AO.done ⟨rfl, (AX.weaken (Wk.to (L := [(1, (ls eI p1)), (3, (ls (eS eI) p3)), (4, (.ptr 0 0 0 0)), (9, (i64 result5)), (10, (i64 t6)), (11, (.ptr 1 0 0 0)), (13, (ls eRExpr p2)), (14, (i64 (Sh.len p2))), (15, (i64 t6)), (20, (.agg (eRSignatures p0))), (21, (ls eI p1)), (24, (.iptr ((eS eI) c17) 0))]) ⟨.rfl, .rfl, .rfl, .rfl, .rfl, .rfl, .rfl, .rfl, .rfl, .rfl, .rfl, .rfl, trivial⟩) ?_ rfl)⟩)
    exact AX.lst (by kernel_rfl) ((hA20 _ _ _).1 A20_01234)
   ·refine AXs.of (i := 5) rfl rfl (by rfl) ?_
    refine zq tb rfl (AO.done ⟨rfl, (AX.weaken (Wk.to (L := [(1, (ls eI p1)), (3, (ls (eS eI) p3)), (4, (.ptr 0 0 0 0)), (9, (i64 result5)), (10, (i64 t6)), (11, (.ptr 1 0 0 0)), (13, (ls eRExpr p2)), (14, (i64 (Sh.len p2))), (15, (i64 t6)), (21, (ls eI p1)), (25, (ls eI c17))]) ⟨.rfl, .rfl, .rfl, .rfl, .rfl, .rfl, .rfl, .rfl, .rfl, .rfl, .rfl, trivial⟩) ?_ rfl)⟩)
    exact AX.lst (by kernel_rfl) ((hA20 _ _ _).1 A20_12345)
   ·refine AXs.of (i := 8) rfl rfl (by rfl) ?_
    refine zq tb rfl (AO.done ⟨rfl, (AX.weaken (Wk.to (L := [(1, (ls eI p1)), (3, (ls (eS eI) p3)), (4, (.ptr 0 0 0 0)), (9, (i64 result5)), (10, (i64 t6)), (13, (ls eRExpr p2)), (14, (i64 (Sh.len p2))), (15, (i64 t6)), (21, (ls eI p1)), (24, (.iptr ((eS eI) c17) 0)), (28, (.agg [(i64 c15.op), (i64 c15.num), (ls eRExpr c15.kids)]))]) ⟨.rfl, .rfl, .rfl, .rfl, .rfl, .rfl, .rfl, .rfl, .rfl, .rfl, .rfl, trivial⟩) ?_ rfl)⟩)
    exact AX.lst (by kernel_rfl) ((hA20 _ _ _).1 A20_12348))
  have A20_1238 : A20 7 #[false, true, true, true, false, false, false, false, true, false, false] ⟨44, envL [(1, (ls eI p1)), (3, (ls (eS eI) p3)), (4, (.ptr 0 0 0 0)), (9, (i64 result5)), (10, (i64 t6)), (13, (ls eRExpr p2)), (14, (i64 (Sh.len p2))), (15, (i64 t6)), (21, (ls eI p1)), (22, (ls (eS eI) p3)), (23, (i64 t6)), (28, (.agg [(i64 c15.op), (i64 c15.num), (ls eRExpr c15.kids)]))], [⟨0, 97, 2, [(eRSignatures p0)]⟩, ⟨0, 50, 3, [[(i64 c15.op), (i64 c15.num), (ls eRExpr c15.kids)]]⟩]⟩ := (hA20 _ _ _).2 (by
   refine AX.all [0, 4] rfl (by kernel_rfl) (by decide) ⟨?_, ?_, trivial⟩
   ·refine AXs.of (i := 0) rfl rfl (by rfl) ?_
    refine zq tb rfl (AO.done ⟨rfl, (AX.weaken (Wk.to (L := [(1, (ls eI p1)), (3, (ls (eS eI) p3)), (4, (.ptr 0 0 0 0)), (9, (i64 result5)), (10, (i64 t6)), (13, (ls eRExpr p2)), (14, (i64 (Sh.len p2))), (15, (i64 t6)), (20, (.agg (eRSignatures p0))), (21, (ls eI p1)), (22, (ls (eS eI) p3)), (23, (i64 t6)), (28, (.agg [(i64 c15.op), (i64 c15.num), (ls eRExpr c15.kids)]))]) ⟨.rfl, .rfl, .rfl, .rfl, .rfl, .rfl, .rfl, .rfl, .rfl, .rfl, .rfl, .rfl, .rfl, trivial⟩) ?_ rfl)⟩)
    exact AX.lst (by kernel_rfl) ((hA20 _ _ _).1 A20_01238)
   ·refine AXs.of (i := 4) rfl rfl (by rfl) ?_
    refine zx ei123 gc17 rfl rfl rfl (AO.done ⟨rfl, (AX.weaken (Wk.to (L := [(1, (ls eI p1)), (3, (ls (eS eI) p3)), (4, (.ptr 0 0 0 0)), (9, (i64 result5)), (10, (i64 t6)), (13, (ls eRExpr p2)), (14, (i64 (Sh.len p2))), (15, (i64 t6)), (21, (ls eI p1)), (24, (.iptr ((eS eI) c17) 0)), (28, (.agg [(i64 c15.op), (i64 c15.num), (ls eRExpr c15.kids)]))]) ⟨.rfl, .rfl, .rfl, .rfl, .rfl, .rfl, .rfl, .rfl, .rfl, .rfl, .rfl, trivial⟩) ?_ rfl)⟩)
    exact AX.lst (by kernel_rfl) ((hA20 _ _ _).1 A20_12348))
  have A20_123 : A20 8 #[false, true, true, true, false, false, false, false, false, false, false] ⟨44, envL [(1, (ls eI p1)), (3, (ls (eS eI) p3)), (4, (.ptr 0 0 0 0)), (9, (i64 result5)), (10, (i64 t6)), (11, (.ptr 1 0 0 0)), (13, (ls eRExpr p2)), (14, (i64 (Sh.len p2))), (15, (i64 t6)), (21, (ls eI p1)), (22, (ls (eS eI) p3)), (23, (i64 t6))], [⟨0, 97, 2, [(eRSignatures p0)]⟩, ⟨0, 50, 3, [[(i64 c15.op), (i64 c15.num), (ls eRExpr c15.kids)]]⟩]⟩ := (hA20 _ _ _).2 (by
   refine AX.all [0, 4, 8] rfl (by kernel_rfl) (by decide) ⟨?_, ?_, ?_, trivial⟩
   ·refine AXs.of (i := 0) rfl rfl (by rfl) ?_
    refine zq tb rfl (AO.done ⟨rfl, (AX.weaken (Wk.to (L := [(1, (ls eI p1)), (3, (ls (eS eI) p3)), (4, (.ptr 0 0 0 0)), (9, (i64 result5)), (10, (i64 t6)), (11, (.ptr 1 0 0 0)), (13, (ls eRExpr p2)), (14, (i64 (Sh.len p2))), (15, (i64 t6)), (20, (.agg (eRSignatures p0))), (21, (ls eI p1)), (22, (ls (eS eI) p3)), (23, (i64 t6))]) ⟨.rfl, .rfl, .rfl, .rfl, .rfl, .rfl, .rfl, .rfl, .rfl, .rfl, .rfl, .rfl, .rfl, trivial⟩) ?_ rfl)⟩)
    exact AX.lst (by kernel_rfl) ((hA20 _ _ _).1 A20_0123)
   ·refine AXs.of (i := 4) rfl rfl (by rfl) ?_
    refine zx ei123 gc17 rfl rfl rfl (AO.done ⟨rfl, (AX.weaken (Wk.to (L := [(1, (ls eI p1)), (3, (ls (eS eI) p3)), (4, (.ptr 0 0 0 0)), (9, (i64 result5)), (10, (i64 t6)), (11, (.ptr 1 0 0 0)), (13, (ls eRExpr p2)), (14, (i64 (Sh.len p2))), (15, (i64 t6)), (21, (ls eI p1)), (24, (.iptr ((eS eI) c17) 0))]) ⟨.rfl, .rfl, .rfl, .rfl, .rfl, .rfl, .rfl, .rfl, .rfl, .rfl, .rfl, trivial⟩) ?_ rfl)⟩)
    exact AX.lst (by kernel_rfl) ((hA20 _ _ _).1 A20_1234)
   ·refine AXs.of (i := 8) rfl rfl (by rfl) ?_
    refine zq tb rfl (AO.done ⟨rfl, (AX.weaken (Wk.to (L := [(1, (ls eI p1)), (3, (ls (eS eI) p3)), (4, (.ptr 0 0 0 0)), (9, (i64 result5)), (10, (i64 t6)), (13, (ls eRExpr p2)), (14, (i64 (Sh.len p2))), (15, (i64 t6)), (21, (ls eI p1)), (22, (ls (eS eI) p3)), (23, (i64 t6)), (28, (.agg [(i64 c15.op), (i64 c15.num), (ls eRExpr c15.kids)]))]) ⟨.rfl, .rfl, .rfl, .rfl, .rfl, .rfl, .rfl, .rfl, .rfl, .rfl, .rfl, .rfl, trivial⟩) ?_ rfl)⟩)
    exact AX.lst (by kernel_rfl) ((hA20 _ _ _).1 A20_1238))
  have A20_12 : A20 9 #[false, true, true, false, false, false, false, false, false, false, false] ⟨44, envL [(1, (ls eI p1)), (3, (ls (eS eI) p3)), (4, (.ptr 0 0 0 0)), (9, (i64 result5)), (10, (i64 t6)), (11, (.ptr 1 0 0 0)), (13, (ls eRExpr p2)), (14, (i64 (Sh.len p2))), (15, (i64 t6)), (21, (ls eI p1)), (22, (ls (eS eI) p3))], [⟨0, 97, 2, [(eRSignatures p0)]⟩, ⟨0, 50, 3, [[(i64 c15.op), (i64 c15.num), (ls eRExpr c15.kids)]]⟩]⟩ := (hA20 _ _ _).2 (by
   refine AX.hoist 3 (v := (i64 t6)) rfl rfl (by kernel_rfl) (by kernel_rfl) (by kernel_rfl) rfl (hoist_mv rfl) ?_
   refine AX.weaken (Wk.to (L := [(1, (ls eI p1)), (3, (ls (eS eI) p3)), (4, (.ptr 0 0 0 0)), (9, (i64 result5)), (10, (i64 t6)), (11, (.ptr 1 0 0 0)), (13, (ls eRExpr p2)), (14, (i64 (Sh.len p2))), (15, (i64 t6)), (21, (ls eI p1)), (22, (ls (eS eI) p3)), (23, (i64 t6))]) ⟨.rfl, .rfl, .rfl, .rfl, .rfl, .rfl, .rfl, .rfl, .rfl, .rfl, .rfl, .rfl, trivial⟩) ?_ rfl
   exact AX.lst (by kernel_rfl) ((hA20 _ _ _).1 A20_123))
  have A20_1 : A20 10 #[false, true, false, false, false, false, false, false, false, false, false] ⟨44, envL [(1, (ls eI p1)), (3, (ls (eS eI) p3)), (4, (.ptr 0 0 0 0)), (9, (i64 result5)), (10, (i64 t6)), (11, (.ptr 1 0 0 0)), (13, (ls eRExpr p2)), (14, (i64 (Sh.len p2))), (15, (i64 t6)), (21, (ls eI p1))], [⟨0, 97, 2, [(eRSignatures p0)]⟩, ⟨0, 50, 3, [[(i64 c15.op), (i64 c15.num), (ls eRExpr c15.kids)]]⟩]⟩ := (hA20 _ _ _).2 (by
   refine AX.hoist 2 (v := (ls (eS eI) p3)) rfl rfl (by kernel_rfl) (by kernel_rfl) (by kernel_rfl) rfl (hoist_mv rfl) ?_
   refine AX.weaken (Wk.to (L := [(1, (ls eI p1)), (3, (ls (eS eI) p3)), (4, (.ptr 0 0 0 0)), (9, (i64 result5)), (10, (i64 t6)), (11, (.ptr 1 0 0 0)), (13, (ls eRExpr p2)), (14, (i64 (Sh.len p2))), (15, (i64 t6)), (21, (ls eI p1)), (22, (ls (eS eI) p3))]) ⟨.rfl, .rfl, .rfl, .rfl, .rfl, .rfl, .rfl, .rfl, .rfl, .rfl, .rfl, trivial⟩) ?_ rfl
   exact AX.lst (by kernel_rfl) ((hA20 _ _ _).1 A20_12))
  have A20_e : A20 11 #[false, false, false, false, false, false, false, false, false, false, false] ⟨44, envL [(1, (ls eI p1)), (3, (ls (eS eI) p3)), (4, (.ptr 0 0 0 0)), (9, (i64 result5)), (10, (i64 t6)), (11, (.ptr 1 0 0 0)), (13, (ls eRExpr p2)), (14, (i64 (Sh.len p2))), (15, (i64 t6))], [⟨0, 97, 2, [(eRSignatures p0)]⟩, ⟨0, 50, 3, [[(i64 c15.op), (i64 c15.num), (ls eRExpr c15.kids)]]⟩]⟩ := (hA20 _ _ _).2 (by
   refine AX.hoist 1 (v := (ls eI p1)) rfl rfl (by kernel_rfl) (by kernel_rfl) (by kernel_rfl) rfl (hoist_mv rfl) ?_
   refine AX.weaken (Wk.to (L := [(1, (ls eI p1)), (3, (ls (eS eI) p3)), (4, (.ptr 0 0 0 0)), (9, (i64 result5)), (10, (i64 t6)), (11, (.ptr 1 0 0 0)), (13, (ls eRExpr p2)), (14, (i64 (Sh.len p2))), (15, (i64 t6)), (21, (ls eI p1))]) ⟨.rfl, .rfl, .rfl, .rfl, .rfl, .rfl, .rfl, .rfl, .rfl, .rfl, trivial⟩) ?_ rfl
   exact AX.lst (by kernel_rfl) ((hA20 _ _ _).1 A20_1))
  refine (hA20 _ _ _).2 (AX.weaken (Wk.to (L := [(1, (ls eI p1)), (3, (ls (eS eI) p3)), (4, (.ptr 0 0 0 0)), (9, (i64 result5)), (10, (i64 t6)), (11, (.ptr 1 0 0 0)), (13, (ls eRExpr p2)), (14, (i64 (Sh.len p2))), (15, (i64 t6))]) ⟨.rfl, .rfl, .rfl, .rfl, .rfl, .rfl, .rfl, .rfl, .rfl, trivial⟩) ?_ rfl)
  exact AX.lst (by kernel_rfl) ((hA20 _ _ _).1 A20_e)
 ·intro b12 h1
  exact AW.exit (M8 result5 (Sh.some_eq h1).symm _ (Wk.d0 _ rfl))
theorem impl_conCount_ok {N : Nat} {p0 : (List RDecl)} {r : Int} (h0 : impl_conCount N p0 = some r) : ACalls Try.prog 119 [(ls eRDecl p0)] [] (fun v st => v = (i64 r) ∧ st = []) := by
 unfold impl_conCount at h0
 refine ai Try.func119 rfl rfl rfl rfl ?_
 iterate 2 refine zr tb rfl rfl ?_
 refine AW.seq fun K3 hK3 => sr rfl fun K4 hK4 => zq tb rfl (zl tb rfl rfl (zq tb rfl (dn hK4 rfl (bs h0 fun o8 h1 h0 => ?_))))
 have M8 : ∀ (n7 : Int), o8 = n7 → ∀ s, Wk 0 s ⟨19, envL [(3, (i64 n7))], []⟩ → K3 s := by
  intro n7 hq s hw
  subst o8
  try dsimp only at h0
  refine hK3 _ (AW.weaken hw (zr tb rfl rfl ?_))
  replace h0 := Sh.some_eq h0
  subst r
  exact AW.ret (xr (Wk.to (L := [(2, (i64 n7))]) ⟨.rfl, trivial⟩))
 refine AW.block (AW.loopF (σ := Int × Int) (fun n v => impl_conCount_L1 p0 n v.1 v.2 = some o8) (fun (n5, t6) => ⟨19, envL [(3, (i64 n5)), (6, (ls eRDecl p0)), (7, (i64 (Sh.len p0))), (8, (i64 t6))], []⟩) N (0, 0) h1 (Wk.tr rfl) (fun _ hv => by rw [impl_conCount_L1] at hv; cases hv) ?_)
 rintro n ⟨n5, t6⟩ h1
 try dsimp only at h1 ⊢
 rw [impl_conCount_L1] at h1
 refine zr tb rfl rfl (AW.seq fun K11 hK11 => ?_)
 refine ci h1 rfl ?_ ?_ <;> clear h1
 ·intro b12 h1
  refine AW.skip (hK11 _ (AW.seq fun K13 hK13 => AW.block (sr rfl fun K14 hK14 => bs h1 fun c15 gc15 h1 => zx ei28 gc15 rfl rfl rfl (zq tb rfl (ao_alloc (m := 0) (st' := [⟨0, 80, 3, [[(i64 0), (i64 0), .zc]]⟩]) go0 zi80 rfl rfl (ao_str (st' := [⟨0, 80, 3, [(eRDecl c15)]⟩]) go0 ti80 rfl rfl rfl rfl rfl rfl (show 0 + 3 ≤ 3 by decide) rfl (dn hK14 rfl (AW.regionO rfl (zm tb 3 rfl ?_)))))))))
  exact zl tb rfl rfl (zm tb 2 rfl (dn hK13 rfl (AW.regionO rfl (zm tb 2 rfl (AO.done (xi (Sh.w (n5 + (Sh.len c15.cons)), Sh.w (t6 + 1)) h1 (Wk.d0 _ rfl)))))))
 ·intro b12 h1
  exact AW.exit (M8 n5 (Sh.some_eq h1).symm _ (Wk.tr rfl))
theorem impl_consOf_ok {N : Nat} {p0 : (List RDecl)} {p1 : Int} {r : (List Int)} (h0 : impl_consOf N p0 p1 = some r) : ACalls Try.prog 93 [(ls eRDecl p0), (i64 p1)] [] (fun v st => v = (ow 0 0 r) ∧ st = [(ro 0 3 1 eI r)]) := by
 unfold impl_consOf at h0
 refine ai Try.func93 rfl rfl rfl rfl (zr tb rfl rfl (AW.seq fun K2 hK2 => AW.seq fun K3 hK3 => bs h0 fun o5 h1 h0 => ?_))
 have M5 : ∀ (t4 : Bool), o5 = t4 → ∀ s, Wk 0 s ⟨39, envL [(0, (ls eRDecl p0)), (1, (i64 p1)), (15, (.bool t4))], []⟩ → K3 s := by
  intro t4 hq s hw
  subst o5
  try dsimp only at h0
  refine hK3 _ (AW.weaken hw ?_)
  refine ci h0 rfl ?_ ?_ <;> clear h0
  ·intro b6 h0
   refine zr tb rfl rfl ?_
   replace h0 := Sh.some_eq h0
   subst r
   exact AW.ret (Exists.intro _ (And.intro (((Wk.adopt (t := 4) rfl 3 (size := 1) (by decide)).trans (Wk.to (L := [(4, (.own 0 0 (List.length ([] : List Int))))]) ⟨.rfl, trivial⟩)).trans (Wk.to (L := [(4, (.own 0 0 (List.length ([] : List Int))))]) ⟨.rfl, trivial⟩)) (And.intro rfl rfl)))
  ·intro b6 h0
   refine AW.skip (hK2 _ (sr rfl fun K8 hK8 => zm tb 3 rfl (bs h0 fun l9 gl9 h0 => ao_sls (i := 0) (j := Sh.w (p1 - 1)) go0 ei28 rfl rfl rfl (fun _ => rfl) gl9 (bs h0 fun q10 gq10 h0 => zc hb119 (impl_conCount_ok gq10) rfl rfl rfl (zq tb rfl (dn hK8 rfl (zr tb rfl rfl (AW.seq fun K12 hK12 => sr rfl fun K13 hK13 => ?_))))))))
   refine zm tb 3 rfl (bs h0 fun c14 gc14 h0 => zx ei28 gc14 rfl rfl rfl (zm tb 2 rfl (zl tb rfl rfl (zq tb rfl (dn hK13 rfl (bs h0 fun o18 h1 h0 => ?_))))))
   have M18 : ∀ (l17 : (List Int)), o18 = l17 → ∀ s, Wk 0 s ⟨39, envL [(6, (ow 0 0 l17))], [(ro 0 3 1 eI l17)]⟩ → K12 s := by
    intro l17 hq s hw
    subst o18
    try dsimp only at h0
    refine hK12 _ (AW.weaken hw (zr tb rfl rfl ?_))
    replace h0 := Sh.some_eq h0
    subst r
    exact AW.ret (xr (Wk.to (L := [(4, (ow 0 0 l17))]) ⟨.rfl, trivial⟩))
   refine AW.block (AW.loopF (σ := Int × (List Int)) (fun n v => impl_consOf_L1 c14 q10 n v.1 v.2 = some o18) (fun (t15, l16) => ⟨39, envL [(5, (i64 q10)), (6, (ow 0 0 l16)), (27, (i64 (Sh.len c14.cons))), (28, (i64 t15))], [(ro 0 3 1 eI l16)]⟩) N (0, []) h1 ((Wk.adopt (t := 6) rfl 3 (size := 1) (by decide)).trans (Wk.to (L := [(5, (i64 q10)), (6, (.own 0 0 (List.length ([] : List Int)))), (27, (i64 (Sh.len c14.cons))), (28, (i64 0))]) ⟨.rfl, .rfl, .rfl, .rfl, trivial⟩)) (fun _ hv => by rw [impl_consOf_L1] at hv; cases hv) ?_)
   rintro n ⟨t15, l16⟩ h1
   try dsimp only at h1 ⊢
   rw [impl_consOf_L1] at h1
   refine zr tb rfl rfl (AW.seq fun K21 hK21 => ?_)
   refine ci h1 rfl ?_ ?_ <;> clear h1
   ·intro b22 h1
    refine AW.skip (hK21 _ (AW.seq fun K23 hK23 => AW.block (zr tb rfl rfl (AW.regionO rfl (zm tb 4 rfl ?_)))))
    refine ao_bs (m := 1) (st' := [(ro 0 3 1 eI l16), (ro 0 3 1 eI [Sh.w (q10 + t15)])]) (l := [Sh.w (q10 + t15)]) (enc := eI) go0 ei40 (by decide) rfl rfl rfl rfl rfl rfl ?_
    refine bs h1 fun l25 gl25 h1 => ao_apo (st' := [(ro 1 3 1 eI l25), (ro 0 3 1 eI [Sh.w (q10 + t15)])]) (l2 := [Sh.w (q10 + t15)]) go0 ei40 rfl rfl rfl rfl (el_o rfl rfl) (fun _ => rfl) gl25 rfl (zq tb rfl (dn hK23 rfl (AW.regionO rfl (zm tb 2 rfl ?_))))
    exact AO.done (xi (Sh.w (t15 + 1), l25) h1 (by refine Wk.trans (Wk.rg (L := [(5, (i64 q10)), (6, (ow 0 0 l25)), (27, (i64 (Sh.len c14.cons))), (28, (i64 (Sh.w (t15 + 1))))]) (st' := [(ro 0 3 1 eI l25), (ro 0 3 1 eI [Sh.w (q10 + t15)])]) (.pure (pure_map fun _ => rfl) (.pure (pure_map fun _ => rfl) .nil)) ⟨.rfl, .rfl, .rfl, .rfl, trivial⟩) ?_; exact Wk.permk (L := [(5, (i64 q10)), (6, (ow 0 0 l25)), (27, (i64 (Sh.len c14.cons))), (28, (i64 (Sh.w (t15 + 1))))]) (st' := [(ro 0 3 1 eI l25)]) (st1 := [(ro 0 3 1 eI l25)]) [0] rfl .nil (by decide) rfl rfl (.pure (pure_map fun _ => rfl) .nil) ⟨.rfl, .rfl, .rfl, .rfl, trivial⟩))
   ·intro b22 h1
    exact AW.exit (M18 l16 (Sh.some_eq h1).symm _ (Wk.tr rfl))
 refine AW.regionO rfl (zm tb 3 rfl ?_)
 rcases Sh.ite_some h1 with ⟨b26, h1⟩ | ⟨b26, h1⟩
 ·refine zs b26 rfl ?_
  iterate 3 refine zs b26 rfl ?_
  exact zt b26 rfl (AO.done (M5 true (Sh.some_eq h1).symm _ (Wk.tr rfl)))
 ·exact zg tb b26 rfl (zg tb b26 rfl (ao_q (v := (i64 (Sh.len p0))) (go1 rfl rfl b26) rfl (aq_lens sl28 rfl) (zg tb b26 rfl (zf b26 rfl (AO.done (M5 (decide ((Sh.len p0) < p1)) (Sh.some_eq h1).symm _ (Wk.tr rfl)))))))
theorem impl_conAt_ok {N : Nat} {p0 : (List RDecl)} {p1 : Int} {r : Int × RCon} (h0 : impl_conAt N p0 p1 = some r) : ACalls Try.prog 120 [(ls eRDecl p0), (i64 p1)] [] (fun v st => v = (.tup [(i64 r.1), (.agg (eRCon r.2))]) ∧ st = []) := by
 unfold impl_conAt at h0
 refine ACalls.flat rfl (ai Try.func120 rfl rfl rfl rfl (sr rfl fun K1 hK1 => zq tb rfl (ao_alloc (m := 0) (st' := [⟨0, 130, 1, [[.zc]]⟩]) go0 zi130 rfl rfl (dn hK1 rfl (AW.seq fun K2 hK2 => sr rfl fun K3 hK3 => zq tb rfl (zl tb rfl rfl (zq tb rfl (dn hK3 rfl ?_))))))))
 obtain ⟨o6, h1, h0⟩ := Sh.cont_some h0
 have M6 : ∀ (_ : Unit), o6 = Sum.inr () → ∀ s, Wk 0 s ⟨38, envL [(5, (.ptr 0 0 0 0))], [⟨0, 130, 1, [[.zc]]⟩]⟩ → K2 s := by
  intro _ hq s hw
  subst o6
  try dsimp only at h0
  refine hK2 _ (AW.weaken hw (sr rfl fun K7 hK7 => zz (.agg [.zc]) (aq_bd ai130 bi130 zi130 rfl rfl) rfl (zq tb rfl (ao_str (st' := [⟨0, 130, 1, [[.zc]]⟩]) go0 ti130 rfl rfl rfl rfl rfl rfl (show 0 + 1 ≤ 1 by decide) rfl (dn hK7 rfl ?_)))))
  replace h0 := Sh.some_eq h0
  subst r
  exact AW.ret (Exists.intro _ (And.intro ((Wk.cellLe (id := 0) (cs := [.zc]) (cs' := [(.sl (List.map eI []))]) (st' := [⟨0, 130, 1, [[(.sl (List.map eI []))]]⟩]) rfl ⟨le.zc, trivial⟩ rfl rfl).trans (Wk.to (L := [(4, (i64 (-1))), (5, (.ptr 0 0 0 0))]) ⟨.rfl, .rfl, trivial⟩)) (aq_ldpa (x := .tmp 5) (off := 0) (cs := [(.sl (List.map eI []))]) (vs := [(.sl (List.map eI []))]) ti130 rfl rfl rfl (show 0 + 1 ≤ 1 by decide) rfl _ rfl)))
 refine AW.block (AW.loopF (σ := Int × Int) (fun n v => impl_conAt_L1 p0 n v.1 v.2 = some o6) (fun (c4, t5) => ⟨38, envL [(1, (i64 c4)), (5, (.ptr 0 0 0 0)), (8, (ls eRDecl p0)), (9, (i64 (Sh.len p0))), (10, (i64 t5))], [⟨0, 130, 1, [[.zc]]⟩]⟩) N (p1, 0) h1 (Wk.tr rfl) (fun _ hv => by rw [impl_conAt_L1] at hv; cases hv) ?_)
 rintro n ⟨c4, t5⟩ h1
 try dsimp only at h1 ⊢
 rw [impl_conAt_L1] at h1
 refine zr tb rfl rfl (AW.seq fun K9 hK9 => ?_)
 refine ci h1 rfl ?_ ?_ <;> clear h1
 ·intro b10 h1
  refine AW.skip (hK9 _ (AW.seq fun K11 hK11 => AW.block (sr rfl fun K12 hK12 => zq tb rfl (bs h1 fun c13 gc13 h1 => zx ei28 gc13 rfl rfl rfl (zq tb rfl (ao_alloc (m := 1) (st' := [⟨0, 130, 1, [[.zc]]⟩, ⟨0, 80, 3, [[(i64 0), (i64 0), .zc]]⟩]) go0 zi80 rfl rfl (zq tb rfl (ao_str (st' := [⟨0, 130, 1, [[.zc]]⟩, ⟨0, 80, 3, [(eRDecl c13)]⟩]) go0 ti80 rfl rfl rfl rfl rfl rfl (show 0 + 3 ≤ 3 by decide) rfl (dn hK12 rfl ?_)))))))))
  refine AW.seq fun K14 hK14 => AW.seq fun K15 hK15 => bs h1 fun o17 h2 h1 => ?_
  have M17 : ∀ (t16 : Bool), o17 = t16 → ∀ s, Wk 0 s ⟨38, envL [(1, (i64 c4)), (5, (.ptr 0 0 0 0)), (6, (i64 t5)), (7, (.ptr 1 0 0 0)), (8, (ls eRDecl p0)), (9, (i64 (Sh.len p0))), (10, (i64 t5)), (23, (.bool t16))], [⟨0, 130, 1, [[.zc]]⟩, ⟨0, 80, 3, [(eRDecl c13)]⟩]⟩ → K15 s := by
   intro t16 hq s hw
   subst o17
   try dsimp only at h1
   refine hK15 _ (AW.weaken hw ?_)
   refine ci h1 rfl ?_ ?_ <;> clear h1
   ·intro b18 h1
    refine AW.seq fun K19 hK19 => ?_
    refine AW.drawTailO 8 (by kernel_rfl) (by kernel_rfl) (by rfl) ?_
    iterate 5 refine yq tb rfl ?_
    refine bs h1 fun c20 gc20 h1 => yx ei78 gc20 rfl rfl rfl ?_
    iterate 2 refine yq tb rfl ?_
    refine d_done (ao_str (st' := [⟨0, 130, 1, [(eRCon c20)]⟩, ⟨0, 80, 3, [(eRDecl c13)]⟩]) go0 ti130 rfl rfl rfl rfl rfl rfl (show 0 + 1 ≤ 1 by decide) rfl (dn hK19 rfl ?_))
    replace h1 := Sh.some_eq h1
    subst o6
    try dsimp only [id] at h0
    replace h0 := Sh.some_eq h0
    subst r
    exact AW.ret (Exists.intro _ (And.intro ((Wk.permk (L := [(4, (i64 (Sh.w (t5 + 1)))), (5, (.ptr 0 0 0 0))]) (st' := [⟨0, 130, 1, [(eRCon c20)]⟩]) (st1 := [⟨0, 130, 1, [(eRCon c20)]⟩]) [0] rfl .nil (by decide) rfl rfl (.raw rfl rfl .nil) ⟨.rfl, .rfl, trivial⟩).trans (Wk.to (L := [(4, (i64 (Sh.w (t5 + 1)))), (5, (.ptr 0 0 0 0))]) ⟨.rfl, .rfl, trivial⟩)) (aq_ldpa (x := .tmp 5) (off := 0) (cs := (eRCon c20)) (vs := (eRCon c20)) ti130 rfl rfl rfl (show 0 + 1 ≤ 1 by decide) rfl _ rfl)))
   ·intro b18 h1
    refine AW.skip (hK14 _ (AW.regionO rfl (zm tb 3 rfl (zl tb rfl rfl (zm tb 2 rfl (dn hK11 rfl (AW.regionO rfl (zm tb 2 rfl ?_))))))))
    exact AO.done (xi (Sh.w (c4 - (Sh.len c13.cons)), Sh.w (t5 + 1)) h1 (Wk.permk (L := [(1, (i64 (Sh.w (c4 - (Sh.len c13.cons))))), (5, (.ptr 0 0 0 0)), (8, (ls eRDecl p0)), (9, (i64 (Sh.len p0))), (10, (i64 (Sh.w (t5 + 1))))]) (st' := [⟨0, 130, 1, [[.zc]]⟩]) (st1 := [⟨0, 130, 1, [[.zc]]⟩]) [0] rfl .nil (by decide) rfl rfl (.raw rfl rfl .nil) ⟨.rfl, .rfl, .rfl, .rfl, .rfl, trivial⟩))
  refine AW.regionO rfl (zm tb 3 rfl ?_)
  rcases Sh.ite_some h2 with ⟨b21, h2⟩ | ⟨b21, h2⟩
  ·exact zg tb b21 rfl (zg tb b21 rfl (zg tb b21 rfl (ao_q (v := (i64 (Sh.len c13.cons))) (go1 rfl rfl b21) rfl (aq_lens sl78 rfl) (zg tb b21 rfl (zt b21 rfl (AO.done (M17 (decide (c4 < (Sh.len c13.cons))) (Sh.some_eq h2).symm _ (Wk.tr rfl))))))))
  ·refine zs b21 rfl ?_
   iterate 4 refine zs b21 rfl ?_
   exact zf b21 rfl (AO.done (M17 false (Sh.some_eq h2).symm _ (Wk.tr rfl)))
 ·intro b10 h1
  exact AW.exit (M6 () (Sh.some_eq h1).symm _ (Wk.tr rfl))
theorem impl_fieldsOf_ok {N : Nat} {p0 : (List RDecl)} {p1 : Int} {r : (List Int)} (h0 : impl_fieldsOf N p0 p1 = some r) : ACalls Try.prog 94 [(ls eRDecl p0), (i64 p1)] [] (fun v st => v = (ls eI r) ∧ st = []) := by
 unfold impl_fieldsOf at h0
 refine ai Try.func94 rfl rfl rfl rfl (zr tb rfl rfl (sr rfl fun K2 hK2 => zm tb 2 rfl (bs h0 fun q3 gq3 h0 => zc (v' := (.tup [(i64 q3.1), (.agg (eRCon q3.2))])) hb120 (impl_conAt_ok gq3) rfl rfl rfl (zm tb 3 rfl (ao_alloc (m := 0) (st' := [⟨0, 130, 1, [[.zc]]⟩]) go0 zi130 rfl rfl (zq tb rfl (ao_str (st' := [⟨0, 130, 1, [(eRCon q3.2)]⟩]) go0 ti130 rfl rfl rfl rfl rfl rfl (show 0 + 1 ≤ 1 by decide) rfl (dn hK2 rfl (zr tb rfl rfl ?_)))))))))
 replace h0 := Sh.some_eq h0
 subst r
 exact AW.ret (xr (Wk.d0 [(4, (ls eI q3.2.fields))] rfl))
theorem impl_arrowAt_ok {p0 : (List RDecl)} {p1 : Int} {r : RDecl × Bool} (h0 : impl_arrowAt p0 p1 = some r) : ACalls Try.prog 121 [(ls eRDecl p0), (i64 p1)] [] (fun v st => v = (.tup [(.agg (eRDecl r.1)), (.bool r.2)]) ∧ st = []) := by
 unfold impl_arrowAt at h0
 refine ACalls.flat rfl (ai Try.func121 rfl rfl rfl rfl (sr rfl fun K1 hK1 => ao_alloc (m := 0) (st' := [⟨0, 80, 3, [[(i64 0), (i64 0), .zc]]⟩]) go0 zi80 rfl rfl (zq tb rfl (dn hK1 rfl (AW.seq fun K2 hK2 => AW.seq fun K3 hK3 => bs h0 fun o5 h1 h0 => ?_)))))
 have M5 : ∀ (t4 : Bool), o5 = t4 → ∀ s, Wk 0 s ⟨30, envL [(0, (ls eRDecl p0)), (1, (i64 p1)), (4, (.ptr 0 0 0 0)), (23, (.bool t4))], [⟨0, 80, 3, [[(i64 0), (i64 0), .zc]]⟩]⟩ → K3 s := by
  intro t4 hq s hw
  subst o5
  try dsimp only at h0
  refine hK3 _ (AW.weaken hw ?_)
  refine ci h0 rfl ?_ ?_ <;> clear h0
  ·intro b6 h0
   refine sr rfl fun K7 hK7 => zz (.agg [(i64 0), (i64 0), .zc]) (aq_bd ai80 bi80 zi80 rfl rfl) rfl (ao_str (st' := [⟨0, 80, 3, [[(i64 0), (i64 0), .zc]]⟩]) go0 ti80 rfl rfl rfl rfl rfl rfl (show 0 + 3 ≤ 3 by decide) rfl (zq tb rfl (dn hK7 rfl ?_)))
   replace h0 := Sh.some_eq h0
   subst r
   exact AW.ret (Exists.intro _ (And.intro ((Wk.cellLe (id := 0) (cs := [(i64 0), (i64 0), .zc]) (cs' := [(i64 0), (i64 0), (.sl (List.map eRCon []))]) (st' := [⟨0, 80, 3, [[(i64 0), (i64 0), (.sl (List.map eRCon []))]]⟩]) rfl ⟨le.rfl, le.rfl, le.zc, trivial⟩ rfl rfl).trans (Wk.to (L := [(4, (.ptr 0 0 0 0)), (5, (.bool false))]) ⟨.rfl, .rfl, trivial⟩)) (aq_ldpa (x := .tmp 4) (off := 0) (cs := [(i64 0), (i64 0), (.sl (List.map eRCon []))]) (vs := [(i64 0), (i64 0), (.sl (List.map eRCon []))]) ti80 rfl rfl rfl (show 0 + 3 ≤ 3 by decide) rfl _ rfl)))
  ·intro b6 h0
   refine AW.skip (hK2 _ (sr rfl fun K8 hK8 => zm tb 3 rfl (bs h0 fun c9 gc9 h0 => zx ei28 gc9 rfl rfl rfl (zq tb rfl (ao_str (st' := [⟨0, 80, 3, [(eRDecl c9)]⟩]) go0 ti80 rfl rfl rfl rfl rfl rfl (show 0 + 3 ≤ 3 by decide) rfl (zq tb rfl (dn hK8 rfl ?_)))))))
   replace h0 := Sh.some_eq h0
   subst r
   exact AW.ret (Exists.intro _ (And.intro (Wk.to (L := [(4, (.ptr 0 0 0 0)), (5, (.bool true))]) ⟨.rfl, .rfl, trivial⟩) (aq_ldpa (x := .tmp 4) (off := 0) (cs := (eRDecl c9)) (vs := (eRDecl c9)) ti80 rfl rfl rfl (show 0 + 3 ≤ 3 by decide) rfl _ rfl)))
 refine AW.regionO rfl (zm tb 3 rfl ?_)
 rcases Sh.ite_some h1 with ⟨b10, h1⟩ | ⟨b10, h1⟩
 ·refine zs b10 rfl ?_
  iterate 3 refine zs b10 rfl ?_
  refine zt b10 rfl (zq tb rfl ?_)
  iterate 8 refine zs rfl rfl ?_
  exact zt rfl rfl (AO.done (M5 true (Sh.some_eq h1).symm _ (Wk.tr rfl)))
 ·refine zg tb b10 rfl (zg tb b10 rfl (ao_q (v := (i64 (Sh.len p0))) (go1 rfl rfl b10) rfl (aq_lens sl28 rfl) (zg tb b10 rfl (zf b10 rfl (zq tb rfl ?_)))))
  rcases Sh.ite_some h1 with ⟨b11, h1⟩ | ⟨b11, h1⟩
  ·refine zs b11 rfl ?_
   iterate 7 refine zs b11 rfl ?_
   exact zt b11 rfl (AO.done (M5 true (Sh.some_eq h1).symm _ (Wk.tr rfl)))
  ·exact zg tb b11 rfl (zg tb b11 rfl (zg tb b11 rfl (bs h1 fun c12 gc12 h1 => ao_q (v := (.iptr (eRDecl c12) 0)) (go1 rfl rfl b11) rfl (aq_ixs ei28 rfl rfl gc12 rfl) (zg tb b11 rfl (zg tb b11 rfl (ao_q (v := (i64 (Sh.len c12.cons))) (go1 rfl rfl b11) rfl (aq_lens sl78 rfl) (zg tb b11 rfl (zf b11 rfl (AO.done (M5 (decide (0 < (Sh.len c12.cons))) (Sh.some_eq h1).symm _ (Wk.tr rfl)))))))))))
theorem slices_Equal_int_int_ok {N : Nat} {p0 : (List Int)} {p1 : (List Int)} {r : Bool} (h0 : slices_Equal_int_int N p0 p1 = some r) : ACalls Try.prog 122 [(ls eI p0), (ls eI p1)] [] (fun v st => v = (.bool r) ∧ st = []) := by
 unfold slices_Equal_int_int at h0
 refine ai Try.func122 rfl rfl rfl rfl (zr tb rfl rfl (AW.seq fun K2 hK2 => sr rfl fun K3 hK3 => zq tb rfl (zl tb rfl rfl (zq tb rfl (zl tb rfl rfl (zq tb rfl (dn hK3 rfl ?_)))))))
 refine ci h0 rfl ?_ ?_ <;> clear h0
 ·intro b4 h0
  have b5 : decide ((Sh.len p0) = (Sh.len p1)) = false := by simpa using b4
  refine zr tb rfl rfl ?_
  replace h0 := Sh.some_eq h0
  subst r
  exact AW.ret (xr (Wk.to (L := [(4, (.bool false))]) ⟨.rfl, trivial⟩))
 ·intro b4 h0
  have b7 : decide ((Sh.len p0) = (Sh.len p1)) = true := by simpa using b4
  refine AW.skip (hK2 _ (AW.seq fun K8 hK8 => sr rfl fun K9 hK9 => zq tb rfl (zl tb rfl rfl (zq tb rfl (dn hK9 rfl ?_)))))
  obtain ⟨o11, h1, h0⟩ := Sh.cont_some h0
  have M11 : ∀ (_ : Unit), o11 = Sum.inr () → ∀ s, Wk 0 s ⟨26, envL [], []⟩ → K8 s := by
   intro _ hq s hw
   subst o11
   try dsimp only at h0
   refine hK8 _ (AW.weaken hw (zr tb rfl rfl ?_))
   replace h0 := Sh.some_eq h0
   subst r
   exact AW.ret (xr (Wk.to (L := [(4, (.bool true))]) ⟨.rfl, trivial⟩))
  refine AW.block (AW.loopF (σ := Int) (fun n v => slices_Equal_int_int_L1 p0 p1 n v = some o11) (fun t10 => ⟨26, envL [(0, (ls eI p0)), (1, (ls eI p1)), (12, (i64 (Sh.len p0))), (13, (i64 t10))], []⟩) N 0 h1 (Wk.tr rfl) (fun _ hv => by rw [slices_Equal_int_int_L1] at hv; cases hv) ?_)
  rintro n t10 h1
  try dsimp only at h1 ⊢
  rw [slices_Equal_int_int_L1] at h1
  refine zr tb rfl rfl (AW.seq fun K14 hK14 => ?_)
  refine ci h1 rfl ?_ ?_ <;> clear h1
  ·intro b15 h1
   refine AW.skip (hK14 _ (AW.seq fun K16 hK16 => AW.block (zr tb rfl rfl (AW.seq fun K18 hK18 => ?_))))
   refine AW.draw (by kernel_rfl) (by kernel_rfl) (by rfl) ?_
   iterate 2 refine yq tb rfl ?_
   refine bs h1 fun c19 gc19 h1 => yx ei40 gc19 rfl rfl rfl ?_
   iterate 3 refine yq tb rfl ?_
   refine bs h1 fun c20 gc20 h1 => yx ei40 gc20 rfl rfl rfl ?_
   iterate 2 refine yq tb rfl ?_
   refine d_done (hK18 _ ?_)
   refine ci h1 rfl ?_ ?_ <;> clear h1
   ·intro b21 h1
    have b22 : decide (c19 = c20) = false := by simpa using b21
    refine zr tb rfl rfl ?_
    replace h1 := Sh.some_eq h1
    subst o11
    try dsimp only [id] at h0
    replace h0 := Sh.some_eq h0
    subst r
    exact AW.ret (xr (Wk.to (L := [(4, (.bool false))]) ⟨.rfl, trivial⟩))
   ·intro b21 h1
    have b24 : decide (c19 = c20) = true := by simpa using b21
    exact AW.skip (hK16 _ (AW.regionO rfl (zm tb 2 rfl (AO.done (xi (Sh.w (t10 + 1)) h1 (Wk.tr rfl))))))
  ·intro b15 h1
   exact AW.exit (M11 () (Sh.some_eq h1).symm _ (Wk.tr rfl))
theorem impl_arrowOf_ok {N : Nat} {p0 : (List RDecl)} {p1 : Int} {p2 : Int} {r : Int} (h0 : impl_arrowOf N p0 p1 p2 = some r) : ACalls Try.prog 123 [(ls eRDecl p0), (i64 p1), (i64 p2)] [] (fun v st => v = (i64 r) ∧ st = []) := by
 unfold impl_arrowOf at h0
 refine ai Try.func123 rfl rfl rfl rfl (zr tb rfl rfl (AW.seq fun K2 hK2 => sr rfl fun K3 hK3 => zq tb rfl (zl tb rfl rfl (zq tb rfl (dn hK3 rfl ?_)))))
 obtain ⟨o5, h1, h0⟩ := Sh.cont_some h0
 have M5 : ∀ (_ : Unit), o5 = Sum.inr () → ∀ s, Wk 0 s ⟨35, envL [], []⟩ → K2 s := by
  intro _ hq s hw
  subst o5
  try dsimp only at h0
  refine hK2 _ (AW.weaken hw (zr tb rfl rfl ?_))
  replace h0 := Sh.some_eq h0
  subst r
  exact AW.ret (xr (Wk.to (L := [(6, (i64 (-1)))]) ⟨.rfl, trivial⟩))
 refine AW.block (AW.loopF (σ := Int) (fun n v => impl_arrowOf_L1 p0 p1 p2 n v = some o5) (fun t4 => ⟨35, envL [(1, (i64 p1)), (2, (i64 p2)), (9, (ls eRDecl p0)), (10, (i64 (Sh.len p0))), (11, (i64 t4))], []⟩) N 0 h1 (Wk.tr rfl) (fun _ hv => by rw [impl_arrowOf_L1] at hv; cases hv) ?_)
 rintro n t4 h1
 try dsimp only at h1 ⊢
 rw [impl_arrowOf_L1] at h1
 refine zr tb rfl rfl (AW.seq fun K8 hK8 => ?_)
 refine ci h1 rfl ?_ ?_ <;> clear h1
 ·intro b9 h1
  refine AW.skip (hK8 _ (AW.seq fun K10 hK10 => AW.block (sr rfl fun K11 hK11 => zq tb rfl (bs h1 fun c12 gc12 h1 => zx ei28 gc12 rfl rfl rfl (zq tb rfl (ao_alloc (m := 0) (st' := [⟨0, 80, 3, [[(i64 0), (i64 0), .zc]]⟩]) go0 zi80 rfl rfl (zq tb rfl (ao_str (st' := [⟨0, 80, 3, [(eRDecl c12)]⟩]) go0 ti80 rfl rfl rfl rfl rfl rfl (show 0 + 3 ≤ 3 by decide) rfl (dn hK11 rfl ?_)))))))))
  refine AW.seq fun K13 hK13 => bs h1 fun o15 h2 h1 => ?_
  have M15 : ∀ (t14 : Bool), o15 = t14 → ∀ s, Wk 0 s ⟨35, envL [(1, (i64 p1)), (2, (i64 p2)), (7, (i64 t4)), (9, (ls eRDecl p0)), (10, (i64 (Sh.len p0))), (11, (i64 t4)), (31, (.bool t14))], []⟩ → K13 s := by
   intro t14 hq s hw
   subst o15
   try dsimp only at h1
   refine hK13 _ (AW.weaken hw ?_)
   refine ci h1 rfl ?_ ?_ <;> clear h1
   ·intro b16 h1
    refine zr tb rfl rfl ?_
    replace h1 := Sh.some_eq h1
    subst o5
    try dsimp only [id] at h0
    replace h0 := Sh.some_eq h0
    subst r
    exact AW.ret (xr (Wk.to (L := [(6, (i64 (Sh.w (t4 + 1))))]) ⟨.rfl, trivial⟩))
   ·intro b16 h1
    exact AW.skip (hK10 _ (AW.regionO rfl (zm tb 2 rfl (AO.done (xi (Sh.w (t4 + 1)) h1 (Wk.tr rfl))))))
  refine AW.regionO rfl (zm tb 2 rfl (zl tb rfl rfl (zm tb 2 rfl ?_)))
  rcases Sh.ite_some h2 with ⟨b18, h2⟩ | ⟨b18, h2⟩
  ·refine zg tb b18 rfl ?_
   iterate 3 refine zg tb b18 rfl ?_
   refine zt b18 rfl (zq tb rfl ?_)
   rcases Sh.ite_some h2 with ⟨b19, h2⟩ | ⟨b19, h2⟩
   ·refine zg tb b19 rfl ?_
    iterate 3 refine zg tb b19 rfl ?_
    exact zt b19 rfl (AO.done (M15 (decide (c12.to = p2)) (Sh.some_eq h2).symm _ (Wk.d0 _ rfl)))
   ·refine zs b19 rfl ?_
    iterate 3 refine zs b19 rfl ?_
    exact zf b19 rfl (AO.done (M15 false (Sh.some_eq h2).symm _ (Wk.d0 _ rfl)))
  ·refine zs b18 rfl ?_
   iterate 3 refine zs b18 rfl ?_
   refine zf b18 rfl (zq tb rfl ?_)
   iterate 4 refine zs rfl rfl ?_
   exact zf rfl rfl (AO.done (M15 false (Sh.some_eq h2).symm _ (Wk.d0 _ rfl)))
 ·intro b9 h1
  exact AW.exit (M5 () (Sh.some_eq h1).symm _ (Wk.tr rfl))
end Go.Proofs.Ytpahalfiiahddaa

