import Derived.Test.YthapbpfhdnmboaaProg
import Derived.Test.YthapbpfhdnmboaaGHADefsToLPDefs
import Derived.Test.YthapbpfhdnmboaaLPWalkP2
namespace Go.Proofs.Ythapbpfhdnmboaa
open Go Go.Abs RC
attribute [local irreducible] Go.Abs.B6
set_option maxRecDepth 100000
set_option maxHeartbeats 4000000

theorem S9:Al Try.prog 10=true:=by kernel_rfl
theorem SZ:Al Try.prog 11=true:=by kernel_rfl
theorem TH:Al Try.prog 15=true:=by kernel_rfl
theorem Qz:Al Try.prog 26=true:=by kernel_rfl
theorem Sc:Al Try.prog 50=true:=by kernel_rfl

theorem Jk {N:Nat} {s0_0:(List Int)} {s0_1:Int} {r:BK×Int} (h0:EX N s0_0 s0_1=some r):Ag Try.prog 10 [(.ptr 0 0 0 0)] [⟨0,43,2,[[(ls AI s0_0),(i64 s0_1)]]⟩] (fun v st=>v=(.agg [(ow 1 0 r.1.cells),(ls eI r.1.pending)])∧st=[⟨0,43,2,[[(ls AI s0_0),(i64 r.2)]]⟩,(ro 0 30 3 AA r.1.cells)]):=by
 unfold EX at h0
 refine Ag.wk (r0:=(.agg [(ow 1 0 r.1.cells),(ls eI r.1.pending)])) (st0:=[⟨0,43,2,[[(ls AI s0_0),(i64 r.2)]]⟩,(ro 0 30 3 AA r.1.cells),⟨0,26,2,[[(ow 1 0 r.1.cells),(ls eI r.1.pending)]]⟩]) ?_ (E8 (L:=[(0,(.agg [(ow 1 0 r.1.cells),(ls eI r.1.pending)]))]) (st':=[⟨0,43,2,[[(ls AI s0_0),(i64 r.2)]]⟩,(ro 0 30 3 AA r.1.cells)]) [0,1] U (by decide) rfl U (.raw U (.pure (AB fun _=>U) trivial)) ⟨.rfl,trivial⟩)
 refine ai Try.func10 U U U U ?_
 refine sr U fun K1 hK1=>?_
 refine BF (m:=1) (st':=[⟨0,43,2,[[(ls AI s0_0),(i64 s0_1)]]⟩,⟨0,26,2,[[.zc,.zc]]⟩]) Ae C5 U U ?_
 refine dn hK1 U ?_
 refine sr U fun K2 hK2=>?_
 refine zq tb U ?_
 obtain⟨q3,gq3,h0⟩:=Sh.bind_some h0
 refine Ad (rowsP:=[⟨0,43,2,[[(ls AI s0_0),(i64 s0_1)]]⟩]) (rows0:=[⟨0,43,2,[[(ls AI s0_0),(i64 s0_1)]]⟩]) (rows1:=[⟨0,43,2,[[(ls AI s0_0),(i64 q3.2)]]⟩]) (rows2:=[(ro 0 30 3 AA q3.1.cells),(ro 0 3 1 eI q3.1.pending)]) (rows1':=[⟨0,43,2,[[(ls AI s0_0),(i64 q3.2)]]⟩]) (rows2':=[(ro 0 30 3 AA q3.1.cells),(ro 0 3 1 eI q3.1.pending)]) (st':=[⟨0,43,2,[[(ls AI s0_0),(i64 q3.2)]]⟩,⟨0,26,2,[[.zc,.zc]]⟩,(ro 0 30 3 AA q3.1.cells),(ro 0 3 1 eI q3.1.pending)]) (v':=(.agg [(ow 2 0 q3.1.cells),(ow 3 0 q3.1.pending)])) [0] Ae TH (Iv gq3) rfl (by decide) rfl U (.raw U U .nil) rfl U (.raw U U .nil) (.pure (AB fun _=>U) (.pure (AB fun _=>U) .nil)) rfl U ?_
 refine BF (m:=4) (st':=[⟨0,43,2,[[(ls AI s0_0),(i64 q3.2)]]⟩,⟨0,26,2,[[.zc,.zc]]⟩,(ro 0 30 3 AA q3.1.cells),(ro 0 3 1 eI q3.1.pending),⟨0,26,2,[[.zc,.zc]]⟩]) Ae C5 U U ?_
 refine Bt (st':=[⟨0,43,2,[[(ls AI s0_0),(i64 q3.2)]]⟩,⟨0,26,2,[[.zc,.zc]]⟩,(ro 0 30 3 AA q3.1.cells),(ro 0 3 1 eI q3.1.pending),⟨0,26,2,[[(ow 2 0 q3.1.cells),(ow 3 0 q3.1.pending)]]⟩]) Ae DU U U U U U U (show 0+2≤2 by decide) rfl ?_
 refine dn hK2 U ?_
 refine sr U fun K4 hK4=>?_
 refine zm tb 2 U ?_
 refine zz (i64 (Sh.len q3.1.cells)) (Bj Ec U U U) rfl ?_
 refine zz (i64 (if (Sh.len q3.1.cells) > 1 then (Sh.len q3.1.cells) else 1)) (Ri U U) rfl ?_
 refine zq tb U ?_
 refine dn hK4 U ?_
 refine AN fun K5 hK5=>?_
 obtain⟨o9,h1,h0⟩:=Sh.bind_some h0
 have M9 :∀(f6:Int) (f7:(List Int)) (l8:(List Cell)),o9=(f6,f7,l8)→∀s,Wk 1 s ⟨63,AM [(2,(.ptr 1 0 0 0)),(3,(.ptr 3 0 0 0))],[⟨0,43,2,[[(ls AI s0_0),(i64 f6)]]⟩,⟨0,26,2,[[.zc,.zc]]⟩,(ro 0 30 3 AA l8),⟨0,26,2,[[(ow 2 0 l8),(ls eI f7)]]⟩]⟩→K5 s:=by
  intro f6 f7 l8 hq s hw
  subst o9
  try dsimp only at h0
  refine hK5 _ (AS hw ?_)
  refine sr U fun K10 hK10=>?_
  refine zq tb U ?_
  refine Bt (st':=[⟨0,43,2,[[(ls AI s0_0),(i64 f6)]]⟩,⟨0,26,2,[[(ow 2 0 l8),(ls eI f7)]]⟩,(ro 0 30 3 AA l8),⟨0,26,2,[[(ow 2 0 l8),(ls eI f7)]]⟩]) Ae DU U U U U U U (show 0+2≤2 by decide) rfl ?_
  refine dn hK10 U ?_
  replace h0:=Sh.AK h0
  subst r
  exact AZ (Exists.intro _ (And.intro ((AL (L:=[(2,(.ptr 2 0 0 0))]) (st':=[⟨0,43,2,[[(ls AI s0_0),(i64 f6)]]⟩,(ro 0 30 3 AA l8),⟨0,26,2,[[(ow 1 0 l8),(ls eI f7)]]⟩]) (st1:=[⟨0,43,2,[[(ls AI s0_0),(i64 f6)]]⟩,(ro 0 30 3 AA l8),⟨0,26,2,[[(ow 2 0 l8),(ls eI f7)]]⟩]) [0,2,1] U (.raw U U .nil) (by decide) rfl U (.raw U U (.pure (AB fun _=>U) (.raw U U .nil))) ⟨.rfl,trivial⟩).trans (AF (L:=[(2,(.ptr 2 0 0 0))]) ⟨.rfl,trivial⟩)) (D3 (x:=.tmp 2) (off:=0) (cs:=[(ow 1 0 l8),(ls eI f7)]) (vs:=[(ow 1 0 l8),(ls eI f7)]) DU U U U (show 0+2≤2 by decide) rfl _ ⟨U,U⟩)))
 refine sr U fun K11 hK11=>?_
 refine zq tb U ?_
 obtain⟨q12,gq12,h1⟩:=Sh.bind_some h1
 refine Ad (rowsP:=[⟨0,43,2,[[(ls AI s0_0),(i64 q3.2)]]⟩]) (rows0:=[⟨0,43,2,[[(ls AI s0_0),(i64 q3.2)]]⟩]) (rows1:=[⟨0,43,2,[[(ls AI s0_0),(i64 q12.2)]]⟩]) (rows2:=[]) (rows1':=[⟨0,43,2,[[(ls AI s0_0),(i64 q12.2)]]⟩]) (rows2':=[]) (st':=[⟨0,43,2,[[(ls AI s0_0),(i64 q12.2)]]⟩,⟨0,26,2,[[.zc,.zc]]⟩,(ro 0 30 3 AA q3.1.cells),(ro 0 3 1 eI q3.1.pending),⟨0,26,2,[[(ow 2 0 q3.1.cells),(ow 3 0 q3.1.pending)]]⟩]) (v':=(i64 q12.1)) [0] Ae Dw (Aj gq12) rfl (by decide) rfl U (.raw U U .nil) rfl U (.raw U U .nil) .nil U U ?_
 refine dn hK11 U ?_
 refine AY ?_
 refine zr tb U U ?_
 refine ci h1 U ?_ ?_ <;> clear h1
 ·intro b14 h1
  refine Dd (by kernel_rfl) ?_
  obtain⟨q15,gq15,h1⟩:=Sh.bind_some h1
  obtain⟨q16,gq16,h1⟩:=Sh.bind_some h1
  obtain⟨l17,gl17,h1⟩:=Sh.bind_some h1
  refine Et fun A18 hA18=>?_
  have A18_0123456789abc:A18 0 #[true,true,true,true,true,true,true,true,true,true,true,true,true] ⟨63,AM [(2,(.ptr 1 0 0 0)),(3,(.ptr 2 0 0 0))],[⟨0,43,2,[[(ls AI s0_0),(i64 q16.2)]]⟩,⟨0,26,2,[[.zc,.zc]]⟩,⟨0,26,2,[[(ow 3 0 q3.1.cells),(ow 4 0 l17)]]⟩,(ro 0 30 3 AA q3.1.cells),(ro 0 3 1 eI l17)]⟩:=(hA18 _ _ _).2 (by
   refine EE U (by kernel_rfl) ?_
   exact M9 q16.2 l17 q3.1.cells (Sh.AK h1).symm _ (by refine Wk.trans (Ez (id:=2) (m:=4) (i:=0) (j:=1) (st':=[⟨0,43,2,[[(ls AI s0_0),(i64 q16.2)]]⟩,⟨0,26,2,[[.zc,.zc]]⟩,⟨0,26,2,[[(ow 3 0 q3.1.cells),(ls eI l17)]]⟩,(ro 0 30 3 AA q3.1.cells),⟨1,3,1,[]⟩]) rfl U U U (by simp) (by decide) (show 1≤4 by decide) (AB fun _=>U) rfl) ?_;refine Wk.trans (AL (L:=[(2,(.ptr 1 0 0 0)),(3,(.ptr 3 0 0 0))]) (st':=[⟨0,43,2,[[(ls AI s0_0),(i64 q16.2)]]⟩,⟨0,26,2,[[.zc,.zc]]⟩,(ro 0 30 3 AA q3.1.cells),⟨0,26,2,[[(ow 2 0 q3.1.cells),(ls eI l17)]]⟩]) (st1:=[⟨0,43,2,[[(ls AI s0_0),(i64 q16.2)]]⟩,⟨0,26,2,[[.zc,.zc]]⟩,(ro 0 30 3 AA q3.1.cells),⟨0,26,2,[[(ow 3 0 q3.1.cells),(ls eI l17)]]⟩]) [0,1,3,2] U (.raw U U .nil) (by decide) rfl U (.raw U U (.raw U U (.pure (AB fun _=>U) (.raw U U .nil)))) ⟨.rfl,.rfl,trivial⟩) ?_;exact AF (L:=[(2,(.ptr 1 0 0 0)),(3,(.ptr 3 0 0 0))]) ⟨.rfl,.rfl,trivial⟩))
  have A18_0123456789ab:A18 1 #[true,true,true,true,true,true,true,true,true,true,true,true,false] ⟨63,AM [(2,(.ptr 1 0 0 0)),(3,(.ptr 2 0 0 0)),(26,(ow 4 1 l17)),(27,(.ptr 2 0 0 1))],[⟨0,43,2,[[(ls AI s0_0),(i64 q16.2)]]⟩,⟨0,26,2,[[.zc,.zc]]⟩,⟨0,26,2,[[(ow 3 0 q3.1.cells),(ow 4 0 q3.1.pending)]]⟩,(ro 0 30 3 AA q3.1.cells),(ro 1 3 1 eI l17)]⟩:=(hA18 _ _ _).2 (by
   refine AJ [12] U (by kernel_rfl) (by decide) ⟨?_,trivial⟩
   ·refine AH (i:=12) rfl U (by rfl) ?_
    refine Bt (st':=[⟨0,43,2,[[(ls AI s0_0),(i64 q16.2)]]⟩,⟨0,26,2,[[.zc,.zc]]⟩,⟨0,26,2,[[(ow 3 0 q3.1.cells),(ow 4 1 l17)]]⟩,(ro 0 30 3 AA q3.1.cells),(ro 1 3 1 eI l17)]) Ae Jq U U U U U U (show 1+1≤2 by decide) rfl ?_
    refine AE ⟨U,?_⟩
    exact AD (by refine Wk.trans (Dc (L:=[(2,(.ptr 1 0 0 0)),(3,(.ptr 2 0 0 0))]) (st':=[⟨0,43,2,[[(ls AI s0_0),(i64 q16.2)]]⟩,⟨0,26,2,[[.zc,.zc]]⟩,⟨0,26,2,[[(ow 3 0 q3.1.cells),(ow 4 0 l17)]]⟩,(ro 0 30 3 AA q3.1.cells),(ro 0 3 1 eI l17)]) (.raw U U U (.raw U U U (.raw U U U (.pure U (AB fun _=>U) (.pure U (AB fun _=>U) .nil))))) ⟨.rfl,.rfl,trivial⟩) ?_;exact AF (L:=[(2,(.ptr 1 0 0 0)),(3,(.ptr 2 0 0 0))]) ⟨.rfl,.rfl,trivial⟩) (AG (by kernel_rfl) ((hA18 _ _ _).1 A18_0123456789abc)) rfl)
  have A18_0123456789a:A18 2 #[true,true,true,true,true,true,true,true,true,true,true,false,false] ⟨63,AM [(2,(.ptr 1 0 0 0)),(3,(.ptr 2 0 0 0)),(26,(ow 4 1 l17))],[⟨0,43,2,[[(ls AI s0_0),(i64 q16.2)]]⟩,⟨0,26,2,[[.zc,.zc]]⟩,⟨0,26,2,[[(ow 3 0 q3.1.cells),(ow 4 0 q3.1.pending)]]⟩,(ro 0 30 3 AA q3.1.cells),(ro 1 3 1 eI l17)]⟩:=(hA18 _ _ _).2 (by
   refine AJ [11] U (by kernel_rfl) (by decide) ⟨?_,trivial⟩
   ·refine AH (i:=11) rfl U (by rfl) ?_
    refine zq tb U ?_
    refine AE ⟨U,?_⟩
    exact AD (AF (L:=[(2,(.ptr 1 0 0 0)),(3,(.ptr 2 0 0 0)),(26,(ow 4 1 l17)),(27,(.ptr 2 0 0 1))]) ⟨.rfl,.rfl,.rfl,.rfl,trivial⟩) (AG (by kernel_rfl) ((hA18 _ _ _).1 A18_0123456789ab)) rfl)
  have A18_0123456789:A18 3 #[true,true,true,true,true,true,true,true,true,true,false,false,false] ⟨63,AM [(2,(.ptr 1 0 0 0)),(3,(.ptr 2 0 0 0)),(17,(ow 4 0 q3.1.pending)),(25,(ow 5 0 [q16.1]))],[⟨0,43,2,[[(ls AI s0_0),(i64 q16.2)]]⟩,⟨0,26,2,[[.zc,.zc]]⟩,⟨0,26,2,[[(ow 3 0 q3.1.cells),(ow 4 0 q3.1.pending)]]⟩,(ro 0 30 3 AA q3.1.cells),(ro 0 3 1 eI q3.1.pending),(ro 0 3 1 eI [q16.1])]⟩:=(hA18 _ _ _).2 (by
   refine AJ [10] U (by kernel_rfl) (by decide) ⟨?_,trivial⟩
   ·refine AH (i:=10) rfl U (by rfl) ?_
    refine EP (st':=[⟨0,43,2,[[(ls AI s0_0),(i64 q16.2)]]⟩,⟨0,26,2,[[.zc,.zc]]⟩,⟨0,26,2,[[(ow 3 0 q3.1.cells),(ow 4 0 q3.1.pending)]]⟩,(ro 0 30 3 AA q3.1.cells),(ro 1 3 1 eI l17),(ro 0 3 1 eI [q16.1])]) (l2:=[q16.1]) Ae Av U U U U (LN U U) (fun _=>U) gl17 U ?_
    refine AE ⟨U,?_⟩
    exact AD (by refine Wk.trans (AL (L:=[(2,(.ptr 1 0 0 0)),(3,(.ptr 2 0 0 0)),(26,(ow 4 1 l17))]) (st':=[⟨0,43,2,[[(ls AI s0_0),(i64 q16.2)]]⟩,⟨0,26,2,[[.zc,.zc]]⟩,⟨0,26,2,[[(ow 3 0 q3.1.cells),(ow 4 0 q3.1.pending)]]⟩,(ro 0 30 3 AA q3.1.cells),(ro 1 3 1 eI l17)]) (st1:=[⟨0,43,2,[[(ls AI s0_0),(i64 q16.2)]]⟩,⟨0,26,2,[[.zc,.zc]]⟩,⟨0,26,2,[[(ow 3 0 q3.1.cells),(ow 4 0 q3.1.pending)]]⟩,(ro 0 30 3 AA q3.1.cells),(ro 1 3 1 eI l17)]) [0,1,2,3,4] U (.raw U U .nil) (by decide) rfl U (.raw U U (.raw U U (.raw U U (.pure (AB fun _=>U) (.pure (AB fun _=>U) .nil))))) ⟨.rfl,.rfl,.rfl,trivial⟩) ?_;exact AF (L:=[(2,(.ptr 1 0 0 0)),(3,(.ptr 2 0 0 0)),(26,(ow 4 1 l17))]) ⟨.rfl,.rfl,.rfl,trivial⟩) (AG (by kernel_rfl) ((hA18 _ _ _).1 A18_0123456789a)) rfl)
  have A18_012345678:A18 4 #[true,true,true,true,true,true,true,true,true,false,false,false,false] ⟨63,AM [(2,(.ptr 1 0 0 0)),(3,(.ptr 2 0 0 0)),(17,(ow 4 0 q3.1.pending)),(24,(i64 q16.1))],[⟨0,43,2,[[(ls AI s0_0),(i64 q16.2)]]⟩,⟨0,26,2,[[.zc,.zc]]⟩,⟨0,26,2,[[(ow 3 0 q3.1.cells),(ow 4 0 q3.1.pending)]]⟩,(ro 0 30 3 AA q3.1.cells),(ro 0 3 1 eI q3.1.pending)]⟩:=(hA18 _ _ _).2 (by
   refine AJ [9] U (by kernel_rfl) (by decide) ⟨?_,trivial⟩
   ·refine AH (i:=9) rfl U (by rfl) ?_
    refine Bc (m:=5) (st':=[⟨0,43,2,[[(ls AI s0_0),(i64 q16.2)]]⟩,⟨0,26,2,[[.zc,.zc]]⟩,⟨0,26,2,[[(ow 3 0 q3.1.cells),(ow 4 0 q3.1.pending)]]⟩,(ro 0 30 3 AA q3.1.cells),(ro 0 3 1 eI q3.1.pending),(ro 0 3 1 eI [q16.1])]) (l:=[q16.1]) (enc:=eI) Ae Av (by decide) rfl U U U U U ?_
    refine AE ⟨U,?_⟩
    exact AD (AF (L:=[(2,(.ptr 1 0 0 0)),(3,(.ptr 2 0 0 0)),(17,(ow 4 0 q3.1.pending)),(25,(ow 5 0 [q16.1]))]) ⟨.rfl,.rfl,.rfl,.rfl,trivial⟩) (AG (by kernel_rfl) ((hA18 _ _ _).1 A18_0123456789)) rfl)
  have A18_01234567:A18 5 #[true,true,true,true,true,true,true,true,false,false,false,false,false] ⟨63,AM [(2,(.ptr 1 0 0 0)),(3,(.ptr 2 0 0 0)),(17,(ow 4 0 q3.1.pending)),(18,(.ptr 0 0 0 0)),(23,(ow 5 0 [0,-1,if (Sh.len q3.1.cells) > 1 then (Sh.len q3.1.cells) else 1,q15.1]))],[⟨0,43,2,[[(ls AI s0_0),(i64 q15.2)]]⟩,⟨0,26,2,[[.zc,.zc]]⟩,⟨0,26,2,[[(ow 3 0 q3.1.cells),(ow 4 0 q3.1.pending)]]⟩,(ro 0 30 3 AA q3.1.cells),(ro 0 3 1 eI q3.1.pending),(ro 0 3 1 eI [0,-1,if (Sh.len q3.1.cells) > 1 then (Sh.len q3.1.cells) else 1,q15.1])]⟩:=(hA18 _ _ _).2 (by
   refine AJ [8] U (by kernel_rfl) (by decide) ⟨?_,trivial⟩
   ·refine AH (i:=8) rfl U (by rfl) ?_
    refine Af (Wk.A2 (L:=[(2,(.ptr 1 0 0 0)),(3,(.ptr 2 0 0 0)),(17,(ow 4 0 q3.1.pending)),(18,(.ptr 0 0 0 0)),(23,(ls eI [0,-1,if (Sh.len q3.1.cells) > 1 then (Sh.len q3.1.cells) else 1,q15.1]))]) (st':=[⟨0,43,2,[[(ls AI s0_0),(i64 q15.2)]]⟩,⟨0,26,2,[[.zc,.zc]]⟩,⟨0,26,2,[[(ow 3 0 q3.1.cells),(ow 4 0 q3.1.pending)]]⟩,(ro 0 30 3 AA q3.1.cells),(ro 0 3 1 eI q3.1.pending),⟨1,3,1,[]⟩]) (id:=5) rfl (show 1≤5 by decide) (AB fun _=>U) ⟨.rfl,.rfl,.rfl,.rfl,(.A2 U),trivial⟩ U) ?_
    refine Ad (rowsP:=[⟨0,43,2,[[(ls AI s0_0),(i64 q15.2)]]⟩]) (rows0:=[⟨0,43,2,[[(ls AI s0_0),(i64 q15.2)]]⟩]) (rows1:=[⟨0,43,2,[[(ls AI s0_0),(i64 q16.2)]]⟩]) (rows2:=[]) (rows1':=[⟨0,43,2,[[(ls AI s0_0),(i64 q16.2)]]⟩]) (rows2':=[]) (st':=[⟨0,43,2,[[(ls AI s0_0),(i64 q16.2)]]⟩,⟨0,26,2,[[.zc,.zc]]⟩,⟨0,26,2,[[(ow 3 0 q3.1.cells),(ow 4 0 q3.1.pending)]]⟩,(ro 0 30 3 AA q3.1.cells),(ro 0 3 1 eI q3.1.pending),⟨1,3,1,[]⟩]) (v':=(i64 q16.1)) [0] Ae EU (Ak gq16) rfl (by decide) rfl U (.raw U U .nil) rfl U (.raw U U .nil) .nil U U ?_
    refine AE ⟨U,?_⟩
    exact AD (by refine Wk.trans (AL (L:=[(2,(.ptr 1 0 0 0)),(3,(.ptr 2 0 0 0)),(17,(ow 4 0 q3.1.pending)),(24,(i64 q16.1))]) (st':=[⟨0,43,2,[[(ls AI s0_0),(i64 q16.2)]]⟩,⟨0,26,2,[[.zc,.zc]]⟩,⟨0,26,2,[[(ow 3 0 q3.1.cells),(ow 4 0 q3.1.pending)]]⟩,(ro 0 30 3 AA q3.1.cells),(ro 0 3 1 eI q3.1.pending)]) (st1:=[⟨0,43,2,[[(ls AI s0_0),(i64 q16.2)]]⟩,⟨0,26,2,[[.zc,.zc]]⟩,⟨0,26,2,[[(ow 3 0 q3.1.cells),(ow 4 0 q3.1.pending)]]⟩,(ro 0 30 3 AA q3.1.cells),(ro 0 3 1 eI q3.1.pending)]) [0,1,2,3,4] U (.raw U U .nil) (by decide) rfl U (.raw U U (.raw U U (.raw U U (.pure (AB fun _=>U) (.pure (AB fun _=>U) .nil))))) ⟨.rfl,.rfl,.rfl,.rfl,trivial⟩) ?_;exact AF (L:=[(2,(.ptr 1 0 0 0)),(3,(.ptr 2 0 0 0)),(17,(ow 4 0 q3.1.pending)),(24,(i64 q16.1))]) ⟨.rfl,.rfl,.rfl,.rfl,trivial⟩) (AG (by kernel_rfl) ((hA18 _ _ _).1 A18_012345678)) rfl)
  have A18_0123456:A18 6 #[true,true,true,true,true,true,true,false,false,false,false,false,false] ⟨63,AM [(2,(.ptr 1 0 0 0)),(3,(.ptr 2 0 0 0)),(17,(ow 4 0 q3.1.pending)),(18,(.ptr 0 0 0 0)),(19,(i64 (if (Sh.len q3.1.cells) > 1 then (Sh.len q3.1.cells) else 1))),(22,(i64 q15.1))],[⟨0,43,2,[[(ls AI s0_0),(i64 q15.2)]]⟩,⟨0,26,2,[[.zc,.zc]]⟩,⟨0,26,2,[[(ow 3 0 q3.1.cells),(ow 4 0 q3.1.pending)]]⟩,(ro 0 30 3 AA q3.1.cells),(ro 0 3 1 eI q3.1.pending)]⟩:=(hA18 _ _ _).2 (by
   refine AJ [7] U (by kernel_rfl) (by decide) ⟨?_,trivial⟩
   ·refine AH (i:=7) rfl U (by rfl) ?_
    refine Bc (m:=5) (st':=[⟨0,43,2,[[(ls AI s0_0),(i64 q15.2)]]⟩,⟨0,26,2,[[.zc,.zc]]⟩,⟨0,26,2,[[(ow 3 0 q3.1.cells),(ow 4 0 q3.1.pending)]]⟩,(ro 0 30 3 AA q3.1.cells),(ro 0 3 1 eI q3.1.pending),(ro 0 3 1 eI [0,-1,if (Sh.len q3.1.cells) > 1 then (Sh.len q3.1.cells) else 1,q15.1])]) (l:=[0,-1,if (Sh.len q3.1.cells) > 1 then (Sh.len q3.1.cells) else 1,q15.1]) (enc:=eI) Ae Av (by decide) rfl U U U U U ?_
    refine AE ⟨U,?_⟩
    exact AD (AF (L:=[(2,(.ptr 1 0 0 0)),(3,(.ptr 2 0 0 0)),(17,(ow 4 0 q3.1.pending)),(18,(.ptr 0 0 0 0)),(23,(ow 5 0 [0,-1,if (Sh.len q3.1.cells) > 1 then (Sh.len q3.1.cells) else 1,q15.1]))]) ⟨.rfl,.rfl,.rfl,.rfl,.rfl,trivial⟩) (AG (by kernel_rfl) ((hA18 _ _ _).1 A18_01234567)) rfl)
  have A18_012345:A18 7 #[true,true,true,true,true,true,false,false,false,false,false,false,false] ⟨63,AM [(2,(.ptr 1 0 0 0)),(3,(.ptr 2 0 0 0)),(17,(ow 4 0 q3.1.pending)),(18,(.ptr 0 0 0 0)),(19,(i64 (if (Sh.len q3.1.cells) > 1 then (Sh.len q3.1.cells) else 1))),(20,(.ptr 0 0 0 0)),(21,(i64 (if (Sh.len q3.1.cells) > 1 then (Sh.len q3.1.cells) else 1)))],[⟨0,43,2,[[(ls AI s0_0),(i64 q12.2)]]⟩,⟨0,26,2,[[.zc,.zc]]⟩,⟨0,26,2,[[(ow 3 0 q3.1.cells),(ow 4 0 q3.1.pending)]]⟩,(ro 0 30 3 AA q3.1.cells),(ro 0 3 1 eI q3.1.pending)]⟩:=(hA18 _ _ _).2 (by
   refine AJ [6] U (by kernel_rfl) (by decide) ⟨?_,trivial⟩
   ·refine AH (i:=6) rfl U (by rfl) ?_
    refine Ad (rowsP:=[⟨0,43,2,[[(ls AI s0_0),(i64 q12.2)]]⟩]) (rows0:=[⟨0,43,2,[[(ls AI s0_0),(i64 q12.2)]]⟩]) (rows1:=[⟨0,43,2,[[(ls AI s0_0),(i64 q15.2)]]⟩]) (rows2:=[]) (rows1':=[⟨0,43,2,[[(ls AI s0_0),(i64 q15.2)]]⟩]) (rows2':=[]) (st':=[⟨0,43,2,[[(ls AI s0_0),(i64 q15.2)]]⟩,⟨0,26,2,[[.zc,.zc]]⟩,⟨0,26,2,[[(ow 3 0 q3.1.cells),(ow 4 0 q3.1.pending)]]⟩,(ro 0 30 3 AA q3.1.cells),(ro 0 3 1 eI q3.1.pending)]) (v':=(i64 q15.1)) [0] Ae Dw (Aj gq15) rfl (by decide) rfl U (.raw U U .nil) rfl U (.raw U U .nil) .nil U U ?_
    refine AE ⟨U,?_⟩
    exact AD (AF (L:=[(2,(.ptr 1 0 0 0)),(3,(.ptr 2 0 0 0)),(17,(ow 4 0 q3.1.pending)),(18,(.ptr 0 0 0 0)),(19,(i64 (if (Sh.len q3.1.cells) > 1 then (Sh.len q3.1.cells) else 1))),(22,(i64 q15.1))]) ⟨.rfl,.rfl,.rfl,.rfl,.rfl,.rfl,trivial⟩) (AG (by kernel_rfl) ((hA18 _ _ _).1 A18_0123456)) rfl)
  have A18_023456789:A18 4 #[true,false,true,true,true,true,true,true,true,true,false,false,false] ⟨63,AM [(2,(.ptr 1 0 0 0)),(3,(.ptr 2 0 0 0)),(16,(.ptr 2 0 0 1)),(25,(ow 5 0 [q16.1]))],[⟨0,43,2,[[(ls AI s0_0),(i64 q16.2)]]⟩,⟨0,26,2,[[.zc,.zc]]⟩,⟨0,26,2,[[(ow 3 0 q3.1.cells),(ow 4 0 q3.1.pending)]]⟩,(ro 0 30 3 AA q3.1.cells),(ro 0 3 1 eI q3.1.pending),(ro 0 3 1 eI [q16.1])]⟩:=(hA18 _ _ _).2 (by
   refine AJ [1] U (by kernel_rfl) (by decide) ⟨?_,trivial⟩
   ·refine AH (i:=1) rfl U (by rfl) ?_
    refine zq tb U ?_
    refine AE ⟨U,?_⟩
    exact AD (AF (L:=[(2,(.ptr 1 0 0 0)),(3,(.ptr 2 0 0 0)),(17,(ow 4 0 q3.1.pending)),(25,(ow 5 0 [q16.1]))]) ⟨.rfl,.rfl,.rfl,.rfl,trivial⟩) (AG (by kernel_rfl) ((hA18 _ _ _).1 A18_0123456789)) rfl)
  have A18_02345678:A18 5 #[true,false,true,true,true,true,true,true,true,false,false,false,false] ⟨63,AM [(2,(.ptr 1 0 0 0)),(3,(.ptr 2 0 0 0)),(16,(.ptr 2 0 0 1)),(24,(i64 q16.1))],[⟨0,43,2,[[(ls AI s0_0),(i64 q16.2)]]⟩,⟨0,26,2,[[.zc,.zc]]⟩,⟨0,26,2,[[(ow 3 0 q3.1.cells),(ow 4 0 q3.1.pending)]]⟩,(ro 0 30 3 AA q3.1.cells),(ro 0 3 1 eI q3.1.pending)]⟩:=(hA18 _ _ _).2 (by
   refine AJ [1,9] U (by kernel_rfl) (by decide) ⟨?_,?_,trivial⟩
   ·refine AH (i:=1) rfl U (by rfl) ?_
    refine zq tb U ?_
    refine AE ⟨U,?_⟩
    exact AD (AF (L:=[(2,(.ptr 1 0 0 0)),(3,(.ptr 2 0 0 0)),(17,(ow 4 0 q3.1.pending)),(24,(i64 q16.1))]) ⟨.rfl,.rfl,.rfl,.rfl,trivial⟩) (AG (by kernel_rfl) ((hA18 _ _ _).1 A18_012345678)) rfl
   ·refine AH (i:=9) rfl U (by rfl) ?_
    refine Bc (m:=5) (st':=[⟨0,43,2,[[(ls AI s0_0),(i64 q16.2)]]⟩,⟨0,26,2,[[.zc,.zc]]⟩,⟨0,26,2,[[(ow 3 0 q3.1.cells),(ow 4 0 q3.1.pending)]]⟩,(ro 0 30 3 AA q3.1.cells),(ro 0 3 1 eI q3.1.pending),(ro 0 3 1 eI [q16.1])]) (l:=[q16.1]) (enc:=eI) Ae Av (by decide) rfl U U U U U ?_
    refine AE ⟨U,?_⟩
    exact AD (AF (L:=[(2,(.ptr 1 0 0 0)),(3,(.ptr 2 0 0 0)),(16,(.ptr 2 0 0 1)),(25,(ow 5 0 [q16.1]))]) ⟨.rfl,.rfl,.rfl,.rfl,trivial⟩) (AG (by kernel_rfl) ((hA18 _ _ _).1 A18_023456789)) rfl)
  have A18_0234567:A18 6 #[true,false,true,true,true,true,true,true,false,false,false,false,false] ⟨63,AM [(2,(.ptr 1 0 0 0)),(3,(.ptr 2 0 0 0)),(16,(.ptr 2 0 0 1)),(18,(.ptr 0 0 0 0)),(23,(ow 5 0 [0,-1,if (Sh.len q3.1.cells) > 1 then (Sh.len q3.1.cells) else 1,q15.1]))],[⟨0,43,2,[[(ls AI s0_0),(i64 q15.2)]]⟩,⟨0,26,2,[[.zc,.zc]]⟩,⟨0,26,2,[[(ow 3 0 q3.1.cells),(ow 4 0 q3.1.pending)]]⟩,(ro 0 30 3 AA q3.1.cells),(ro 0 3 1 eI q3.1.pending),(ro 0 3 1 eI [0,-1,if (Sh.len q3.1.cells) > 1 then (Sh.len q3.1.cells) else 1,q15.1])]⟩:=(hA18 _ _ _).2 (by
   refine AJ [1,8] U (by kernel_rfl) (by decide) ⟨?_,?_,trivial⟩
   ·refine AH (i:=1) rfl U (by rfl) ?_
    refine zq tb U ?_
    refine AE ⟨U,?_⟩
    exact AD (AF (L:=[(2,(.ptr 1 0 0 0)),(3,(.ptr 2 0 0 0)),(17,(ow 4 0 q3.1.pending)),(18,(.ptr 0 0 0 0)),(23,(ow 5 0 [0,-1,if (Sh.len q3.1.cells) > 1 then (Sh.len q3.1.cells) else 1,q15.1]))]) ⟨.rfl,.rfl,.rfl,.rfl,.rfl,trivial⟩) (AG (by kernel_rfl) ((hA18 _ _ _).1 A18_01234567)) rfl
   ·refine AH (i:=8) rfl U (by rfl) ?_
    refine Af (Wk.A2 (L:=[(2,(.ptr 1 0 0 0)),(3,(.ptr 2 0 0 0)),(16,(.ptr 2 0 0 1)),(18,(.ptr 0 0 0 0)),(23,(ls eI [0,-1,if (Sh.len q3.1.cells) > 1 then (Sh.len q3.1.cells) else 1,q15.1]))]) (st':=[⟨0,43,2,[[(ls AI s0_0),(i64 q15.2)]]⟩,⟨0,26,2,[[.zc,.zc]]⟩,⟨0,26,2,[[(ow 3 0 q3.1.cells),(ow 4 0 q3.1.pending)]]⟩,(ro 0 30 3 AA q3.1.cells),(ro 0 3 1 eI q3.1.pending),⟨1,3,1,[]⟩]) (id:=5) rfl (show 1≤5 by decide) (AB fun _=>U) ⟨.rfl,.rfl,.rfl,.rfl,(.A2 U),trivial⟩ U) ?_
    refine Ad (rowsP:=[⟨0,43,2,[[(ls AI s0_0),(i64 q15.2)]]⟩]) (rows0:=[⟨0,43,2,[[(ls AI s0_0),(i64 q15.2)]]⟩]) (rows1:=[⟨0,43,2,[[(ls AI s0_0),(i64 q16.2)]]⟩]) (rows2:=[]) (rows1':=[⟨0,43,2,[[(ls AI s0_0),(i64 q16.2)]]⟩]) (rows2':=[]) (st':=[⟨0,43,2,[[(ls AI s0_0),(i64 q16.2)]]⟩,⟨0,26,2,[[.zc,.zc]]⟩,⟨0,26,2,[[(ow 3 0 q3.1.cells),(ow 4 0 q3.1.pending)]]⟩,(ro 0 30 3 AA q3.1.cells),(ro 0 3 1 eI q3.1.pending),⟨1,3,1,[]⟩]) (v':=(i64 q16.1)) [0] Ae EU (Ak gq16) rfl (by decide) rfl U (.raw U U .nil) rfl U (.raw U U .nil) .nil U U ?_
    refine AE ⟨U,?_⟩
    exact AD (by refine Wk.trans (AL (L:=[(2,(.ptr 1 0 0 0)),(3,(.ptr 2 0 0 0)),(16,(.ptr 2 0 0 1)),(24,(i64 q16.1))]) (st':=[⟨0,43,2,[[(ls AI s0_0),(i64 q16.2)]]⟩,⟨0,26,2,[[.zc,.zc]]⟩,⟨0,26,2,[[(ow 3 0 q3.1.cells),(ow 4 0 q3.1.pending)]]⟩,(ro 0 30 3 AA q3.1.cells),(ro 0 3 1 eI q3.1.pending)]) (st1:=[⟨0,43,2,[[(ls AI s0_0),(i64 q16.2)]]⟩,⟨0,26,2,[[.zc,.zc]]⟩,⟨0,26,2,[[(ow 3 0 q3.1.cells),(ow 4 0 q3.1.pending)]]⟩,(ro 0 30 3 AA q3.1.cells),(ro 0 3 1 eI q3.1.pending)]) [0,1,2,3,4] U (.raw U U .nil) (by decide) rfl U (.raw U U (.raw U U (.raw U U (.pure (AB fun _=>U) (.pure (AB fun _=>U) .nil))))) ⟨.rfl,.rfl,.rfl,.rfl,trivial⟩) ?_;exact AF (L:=[(2,(.ptr 1 0 0 0)),(3,(.ptr 2 0 0 0)),(16,(.ptr 2 0 0 1)),(24,(i64 q16.1))]) ⟨.rfl,.rfl,.rfl,.rfl,trivial⟩) (AG (by kernel_rfl) ((hA18 _ _ _).1 A18_02345678)) rfl)
  have A18_023456:A18 7 #[true,false,true,true,true,true,true,false,false,false,false,false,false] ⟨63,AM [(2,(.ptr 1 0 0 0)),(3,(.ptr 2 0 0 0)),(16,(.ptr 2 0 0 1)),(18,(.ptr 0 0 0 0)),(19,(i64 (if (Sh.len q3.1.cells) > 1 then (Sh.len q3.1.cells) else 1))),(22,(i64 q15.1))],[⟨0,43,2,[[(ls AI s0_0),(i64 q15.2)]]⟩,⟨0,26,2,[[.zc,.zc]]⟩,⟨0,26,2,[[(ow 3 0 q3.1.cells),(ow 4 0 q3.1.pending)]]⟩,(ro 0 30 3 AA q3.1.cells),(ro 0 3 1 eI q3.1.pending)]⟩:=(hA18 _ _ _).2 (by
   refine AJ [1,7] U (by kernel_rfl) (by decide) ⟨?_,?_,trivial⟩
   ·refine AH (i:=1) rfl U (by rfl) ?_
    refine zq tb U ?_
    refine AE ⟨U,?_⟩
    exact AD (AF (L:=[(2,(.ptr 1 0 0 0)),(3,(.ptr 2 0 0 0)),(17,(ow 4 0 q3.1.pending)),(18,(.ptr 0 0 0 0)),(19,(i64 (if (Sh.len q3.1.cells) > 1 then (Sh.len q3.1.cells) else 1))),(22,(i64 q15.1))]) ⟨.rfl,.rfl,.rfl,.rfl,.rfl,.rfl,trivial⟩) (AG (by kernel_rfl) ((hA18 _ _ _).1 A18_0123456)) rfl
   ·refine AH (i:=7) rfl U (by rfl) ?_
    refine Bc (m:=5) (st':=[⟨0,43,2,[[(ls AI s0_0),(i64 q15.2)]]⟩,⟨0,26,2,[[.zc,.zc]]⟩,⟨0,26,2,[[(ow 3 0 q3.1.cells),(ow 4 0 q3.1.pending)]]⟩,(ro 0 30 3 AA q3.1.cells),(ro 0 3 1 eI q3.1.pending),(ro 0 3 1 eI [0,-1,if (Sh.len q3.1.cells) > 1 then (Sh.len q3.1.cells) else 1,q15.1])]) (l:=[0,-1,if (Sh.len q3.1.cells) > 1 then (Sh.len q3.1.cells) else 1,q15.1]) (enc:=eI) Ae Av (by decide) rfl U U U U U ?_
    refine AE ⟨U,?_⟩
    exact AD (AF (L:=[(2,(.ptr 1 0 0 0)),(3,(.ptr 2 0 0 0)),(16,(.ptr 2 0 0 1)),(18,(.ptr 0 0 0 0)),(23,(ow 5 0 [0,-1,if (Sh.len q3.1.cells) > 1 then (Sh.len q3.1.cells) else 1,q15.1]))]) ⟨.rfl,.rfl,.rfl,.rfl,.rfl,trivial⟩) (AG (by kernel_rfl) ((hA18 _ _ _).1 A18_0234567)) rfl)
  have A18_02345:A18 8 #[true,false,true,true,true,true,false,false,false,false,false,false,false] ⟨63,AM [(2,(.ptr 1 0 0 0)),(3,(.ptr 2 0 0 0)),(16,(.ptr 2 0 0 1)),(18,(.ptr 0 0 0 0)),(19,(i64 (if (Sh.len q3.1.cells) > 1 then (Sh.len q3.1.cells) else 1))),(20,(.ptr 0 0 0 0)),(21,(i64 (if (Sh.len q3.1.cells) > 1 then (Sh.len q3.1.cells) else 1)))],[⟨0,43,2,[[(ls AI s0_0),(i64 q12.2)]]⟩,⟨0,26,2,[[.zc,.zc]]⟩,⟨0,26,2,[[(ow 3 0 q3.1.cells),(ow 4 0 q3.1.pending)]]⟩,(ro 0 30 3 AA q3.1.cells),(ro 0 3 1 eI q3.1.pending)]⟩:=(hA18 _ _ _).2 (by
   refine AJ [1,6] U (by kernel_rfl) (by decide) ⟨?_,?_,trivial⟩
   ·refine AH (i:=1) rfl U (by rfl) ?_
    refine zq tb U ?_
    refine AE ⟨U,?_⟩
    exact AD (AF (L:=[(2,(.ptr 1 0 0 0)),(3,(.ptr 2 0 0 0)),(17,(ow 4 0 q3.1.pending)),(18,(.ptr 0 0 0 0)),(19,(i64 (if (Sh.len q3.1.cells) > 1 then (Sh.len q3.1.cells) else 1))),(20,(.ptr 0 0 0 0)),(21,(i64 (if (Sh.len q3.1.cells) > 1 then (Sh.len q3.1.cells) else 1)))]) ⟨.rfl,.rfl,.rfl,.rfl,.rfl,.rfl,.rfl,trivial⟩) (AG (by kernel_rfl) ((hA18 _ _ _).1 A18_012345)) rfl
   ·refine AH (i:=6) rfl U (by rfl) ?_
    refine Ad (rowsP:=[⟨0,43,2,[[(ls AI s0_0),(i64 q12.2)]]⟩]) (rows0:=[⟨0,43,2,[[(ls AI s0_0),(i64 q12.2)]]⟩]) (rows1:=[⟨0,43,2,[[(ls AI s0_0),(i64 q15.2)]]⟩]) (rows2:=[]) (rows1':=[⟨0,43,2,[[(ls AI s0_0),(i64 q15.2)]]⟩]) (rows2':=[]) (st':=[⟨0,43,2,[[(ls AI s0_0),(i64 q15.2)]]⟩,⟨0,26,2,[[.zc,.zc]]⟩,⟨0,26,2,[[(ow 3 0 q3.1.cells),(ow 4 0 q3.1.pending)]]⟩,(ro 0 30 3 AA q3.1.cells),(ro 0 3 1 eI q3.1.pending)]) (v':=(i64 q15.1)) [0] Ae Dw (Aj gq15) rfl (by decide) rfl U (.raw U U .nil) rfl U (.raw U U .nil) .nil U U ?_
    refine AE ⟨U,?_⟩
    exact AD (AF (L:=[(2,(.ptr 1 0 0 0)),(3,(.ptr 2 0 0 0)),(16,(.ptr 2 0 0 1)),(18,(.ptr 0 0 0 0)),(19,(i64 (if (Sh.len q3.1.cells) > 1 then (Sh.len q3.1.cells) else 1))),(22,(i64 q15.1))]) ⟨.rfl,.rfl,.rfl,.rfl,.rfl,.rfl,trivial⟩) (AG (by kernel_rfl) ((hA18 _ _ _).1 A18_023456)) rfl)
  have A18_23456789:A18 5 #[false,false,true,true,true,true,true,true,true,true,false,false,false] ⟨63,AM [(2,(.ptr 1 0 0 0)),(3,(.ptr 2 0 0 0)),(25,(ow 5 0 [q16.1]))],[⟨0,43,2,[[(ls AI s0_0),(i64 q16.2)]]⟩,⟨0,26,2,[[.zc,.zc]]⟩,⟨0,26,2,[[(ow 3 0 q3.1.cells),(ow 4 0 q3.1.pending)]]⟩,(ro 0 30 3 AA q3.1.cells),(ro 0 3 1 eI q3.1.pending),(ro 0 3 1 eI [q16.1])]⟩:=(hA18 _ _ _).2 (by
   refine AJ [0] U (by kernel_rfl) (by decide) ⟨?_,trivial⟩
   ·refine AH (i:=0) rfl U (by rfl) ?_
    refine zq tb U ?_
    refine AE ⟨U,?_⟩
    exact AD (AF (L:=[(2,(.ptr 1 0 0 0)),(3,(.ptr 2 0 0 0)),(16,(.ptr 2 0 0 1)),(25,(ow 5 0 [q16.1]))]) ⟨.rfl,.rfl,.rfl,.rfl,trivial⟩) (AG (by kernel_rfl) ((hA18 _ _ _).1 A18_023456789)) rfl)
  have A18_2345678:A18 6 #[false,false,true,true,true,true,true,true,true,false,false,false,false] ⟨63,AM [(2,(.ptr 1 0 0 0)),(3,(.ptr 2 0 0 0)),(24,(i64 q16.1))],[⟨0,43,2,[[(ls AI s0_0),(i64 q16.2)]]⟩,⟨0,26,2,[[.zc,.zc]]⟩,⟨0,26,2,[[(ow 3 0 q3.1.cells),(ow 4 0 q3.1.pending)]]⟩,(ro 0 30 3 AA q3.1.cells),(ro 0 3 1 eI q3.1.pending)]⟩:=(hA18 _ _ _).2 (by
   refine AJ [0,9] U (by kernel_rfl) (by decide) ⟨?_,?_,trivial⟩
   ·refine AH (i:=0) rfl U (by rfl) ?_
    refine zq tb U ?_
    refine AE ⟨U,?_⟩
    exact AD (AF (L:=[(2,(.ptr 1 0 0 0)),(3,(.ptr 2 0 0 0)),(16,(.ptr 2 0 0 1)),(24,(i64 q16.1))]) ⟨.rfl,.rfl,.rfl,.rfl,trivial⟩) (AG (by kernel_rfl) ((hA18 _ _ _).1 A18_02345678)) rfl
   ·refine AH (i:=9) rfl U (by rfl) ?_
    refine Bc (m:=5) (st':=[⟨0,43,2,[[(ls AI s0_0),(i64 q16.2)]]⟩,⟨0,26,2,[[.zc,.zc]]⟩,⟨0,26,2,[[(ow 3 0 q3.1.cells),(ow 4 0 q3.1.pending)]]⟩,(ro 0 30 3 AA q3.1.cells),(ro 0 3 1 eI q3.1.pending),(ro 0 3 1 eI [q16.1])]) (l:=[q16.1]) (enc:=eI) Ae Av (by decide) rfl U U U U U ?_
    refine AE ⟨U,?_⟩
    exact AD (AF (L:=[(2,(.ptr 1 0 0 0)),(3,(.ptr 2 0 0 0)),(25,(ow 5 0 [q16.1]))]) ⟨.rfl,.rfl,.rfl,trivial⟩) (AG (by kernel_rfl) ((hA18 _ _ _).1 A18_23456789)) rfl)
  have A18_234567:A18 7 #[false,false,true,true,true,true,true,true,false,false,false,false,false] ⟨63,AM [(2,(.ptr 1 0 0 0)),(3,(.ptr 2 0 0 0)),(18,(.ptr 0 0 0 0)),(23,(ow 5 0 [0,-1,if (Sh.len q3.1.cells) > 1 then (Sh.len q3.1.cells) else 1,q15.1]))],[⟨0,43,2,[[(ls AI s0_0),(i64 q15.2)]]⟩,⟨0,26,2,[[.zc,.zc]]⟩,⟨0,26,2,[[(ow 3 0 q3.1.cells),(ow 4 0 q3.1.pending)]]⟩,(ro 0 30 3 AA q3.1.cells),(ro 0 3 1 eI q3.1.pending),(ro 0 3 1 eI [0,-1,if (Sh.len q3.1.cells) > 1 then (Sh.len q3.1.cells) else 1,q15.1])]⟩:=(hA18 _ _ _).2 (by
   refine AJ [0,8] U (by kernel_rfl) (by decide) ⟨?_,?_,trivial⟩
   ·refine AH (i:=0) rfl U (by rfl) ?_
    refine zq tb U ?_
    refine AE ⟨U,?_⟩
    exact AD (AF (L:=[(2,(.ptr 1 0 0 0)),(3,(.ptr 2 0 0 0)),(16,(.ptr 2 0 0 1)),(18,(.ptr 0 0 0 0)),(23,(ow 5 0 [0,-1,if (Sh.len q3.1.cells) > 1 then (Sh.len q3.1.cells) else 1,q15.1]))]) ⟨.rfl,.rfl,.rfl,.rfl,.rfl,trivial⟩) (AG (by kernel_rfl) ((hA18 _ _ _).1 A18_0234567)) rfl
   ·refine AH (i:=8) rfl U (by rfl) ?_
    refine Af (Wk.A2 (L:=[(2,(.ptr 1 0 0 0)),(3,(.ptr 2 0 0 0)),(18,(.ptr 0 0 0 0)),(23,(ls eI [0,-1,if (Sh.len q3.1.cells) > 1 then (Sh.len q3.1.cells) else 1,q15.1]))]) (st':=[⟨0,43,2,[[(ls AI s0_0),(i64 q15.2)]]⟩,⟨0,26,2,[[.zc,.zc]]⟩,⟨0,26,2,[[(ow 3 0 q3.1.cells),(ow 4 0 q3.1.pending)]]⟩,(ro 0 30 3 AA q3.1.cells),(ro 0 3 1 eI q3.1.pending),⟨1,3,1,[]⟩]) (id:=5) rfl (show 1≤5 by decide) (AB fun _=>U) ⟨.rfl,.rfl,.rfl,(.A2 U),trivial⟩ U) ?_
    refine Ad (rowsP:=[⟨0,43,2,[[(ls AI s0_0),(i64 q15.2)]]⟩]) (rows0:=[⟨0,43,2,[[(ls AI s0_0),(i64 q15.2)]]⟩]) (rows1:=[⟨0,43,2,[[(ls AI s0_0),(i64 q16.2)]]⟩]) (rows2:=[]) (rows1':=[⟨0,43,2,[[(ls AI s0_0),(i64 q16.2)]]⟩]) (rows2':=[]) (st':=[⟨0,43,2,[[(ls AI s0_0),(i64 q16.2)]]⟩,⟨0,26,2,[[.zc,.zc]]⟩,⟨0,26,2,[[(ow 3 0 q3.1.cells),(ow 4 0 q3.1.pending)]]⟩,(ro 0 30 3 AA q3.1.cells),(ro 0 3 1 eI q3.1.pending),⟨1,3,1,[]⟩]) (v':=(i64 q16.1)) [0] Ae EU (Ak gq16) rfl (by decide) rfl U (.raw U U .nil) rfl U (.raw U U .nil) .nil U U ?_
    refine AE ⟨U,?_⟩
    exact AD (by refine Wk.trans (AL (L:=[(2,(.ptr 1 0 0 0)),(3,(.ptr 2 0 0 0)),(24,(i64 q16.1))]) (st':=[⟨0,43,2,[[(ls AI s0_0),(i64 q16.2)]]⟩,⟨0,26,2,[[.zc,.zc]]⟩,⟨0,26,2,[[(ow 3 0 q3.1.cells),(ow 4 0 q3.1.pending)]]⟩,(ro 0 30 3 AA q3.1.cells),(ro 0 3 1 eI q3.1.pending)]) (st1:=[⟨0,43,2,[[(ls AI s0_0),(i64 q16.2)]]⟩,⟨0,26,2,[[.zc,.zc]]⟩,⟨0,26,2,[[(ow 3 0 q3.1.cells),(ow 4 0 q3.1.pending)]]⟩,(ro 0 30 3 AA q3.1.cells),(ro 0 3 1 eI q3.1.pending)]) [0,1,2,3,4] U (.raw U U .nil) (by decide) rfl U (.raw U U (.raw U U (.raw U U (.pure (AB fun _=>U) (.pure (AB fun _=>U) .nil))))) ⟨.rfl,.rfl,.rfl,trivial⟩) ?_;exact AF (L:=[(2,(.ptr 1 0 0 0)),(3,(.ptr 2 0 0 0)),(24,(i64 q16.1))]) ⟨.rfl,.rfl,.rfl,trivial⟩) (AG (by kernel_rfl) ((hA18 _ _ _).1 A18_2345678)) rfl)
  have A18_23456:A18 8 #[false,false,true,true,true,true,true,false,false,false,false,false,false] ⟨63,AM [(2,(.ptr 1 0 0 0)),(3,(.ptr 2 0 0 0)),(18,(.ptr 0 0 0 0)),(19,(i64 (if (Sh.len q3.1.cells) > 1 then (Sh.len q3.1.cells) else 1))),(22,(i64 q15.1))],[⟨0,43,2,[[(ls AI s0_0),(i64 q15.2)]]⟩,⟨0,26,2,[[.zc,.zc]]⟩,⟨0,26,2,[[(ow 3 0 q3.1.cells),(ow 4 0 q3.1.pending)]]⟩,(ro 0 30 3 AA q3.1.cells),(ro 0 3 1 eI q3.1.pending)]⟩:=(hA18 _ _ _).2 (by
   refine AJ [0,7] U (by kernel_rfl) (by decide) ⟨?_,?_,trivial⟩
   ·refine AH (i:=0) rfl U (by rfl) ?_
    refine zq tb U ?_
    refine AE ⟨U,?_⟩
    exact AD (AF (L:=[(2,(.ptr 1 0 0 0)),(3,(.ptr 2 0 0 0)),(16,(.ptr 2 0 0 1)),(18,(.ptr 0 0 0 0)),(19,(i64 (if (Sh.len q3.1.cells) > 1 then (Sh.len q3.1.cells) else 1))),(22,(i64 q15.1))]) ⟨.rfl,.rfl,.rfl,.rfl,.rfl,.rfl,trivial⟩) (AG (by kernel_rfl) ((hA18 _ _ _).1 A18_023456)) rfl
   ·refine AH (i:=7) rfl U (by rfl) ?_
    refine Bc (m:=5) (st':=[⟨0,43,2,[[(ls AI s0_0),(i64 q15.2)]]⟩,⟨0,26,2,[[.zc,.zc]]⟩,⟨0,26,2,[[(ow 3 0 q3.1.cells),(ow 4 0 q3.1.pending)]]⟩,(ro 0 30 3 AA q3.1.cells),(ro 0 3 1 eI q3.1.pending),(ro 0 3 1 eI [0,-1,if (Sh.len q3.1.cells) > 1 then (Sh.len q3.1.cells) else 1,q15.1])]) (l:=[0,-1,if (Sh.len q3.1.cells) > 1 then (Sh.len q3.1.cells) else 1,q15.1]) (enc:=eI) Ae Av (by decide) rfl U U U U U ?_
    refine AE ⟨U,?_⟩
    exact AD (AF (L:=[(2,(.ptr 1 0 0 0)),(3,(.ptr 2 0 0 0)),(18,(.ptr 0 0 0 0)),(23,(ow 5 0 [0,-1,if (Sh.len q3.1.cells) > 1 then (Sh.len q3.1.cells) else 1,q15.1]))]) ⟨.rfl,.rfl,.rfl,.rfl,trivial⟩) (AG (by kernel_rfl) ((hA18 _ _ _).1 A18_234567)) rfl)
  have A18_2345:A18 9 #[false,false,true,true,true,true,false,false,false,false,false,false,false] ⟨63,AM [(2,(.ptr 1 0 0 0)),(3,(.ptr 2 0 0 0)),(18,(.ptr 0 0 0 0)),(19,(i64 (if (Sh.len q3.1.cells) > 1 then (Sh.len q3.1.cells) else 1))),(20,(.ptr 0 0 0 0)),(21,(i64 (if (Sh.len q3.1.cells) > 1 then (Sh.len q3.1.cells) else 1)))],[⟨0,43,2,[[(ls AI s0_0),(i64 q12.2)]]⟩,⟨0,26,2,[[.zc,.zc]]⟩,⟨0,26,2,[[(ow 3 0 q3.1.cells),(ow 4 0 q3.1.pending)]]⟩,(ro 0 30 3 AA q3.1.cells),(ro 0 3 1 eI q3.1.pending)]⟩:=(hA18 _ _ _).2 (by
   refine AJ [0,6] U (by kernel_rfl) (by decide) ⟨?_,?_,trivial⟩
   ·refine AH (i:=0) rfl U (by rfl) ?_
    refine zq tb U ?_
    refine AE ⟨U,?_⟩
    exact AD (AF (L:=[(2,(.ptr 1 0 0 0)),(3,(.ptr 2 0 0 0)),(16,(.ptr 2 0 0 1)),(18,(.ptr 0 0 0 0)),(19,(i64 (if (Sh.len q3.1.cells) > 1 then (Sh.len q3.1.cells) else 1))),(20,(.ptr 0 0 0 0)),(21,(i64 (if (Sh.len q3.1.cells) > 1 then (Sh.len q3.1.cells) else 1)))]) ⟨.rfl,.rfl,.rfl,.rfl,.rfl,.rfl,.rfl,trivial⟩) (AG (by kernel_rfl) ((hA18 _ _ _).1 A18_02345)) rfl
   ·refine AH (i:=6) rfl U (by rfl) ?_
    refine Ad (rowsP:=[⟨0,43,2,[[(ls AI s0_0),(i64 q12.2)]]⟩]) (rows0:=[⟨0,43,2,[[(ls AI s0_0),(i64 q12.2)]]⟩]) (rows1:=[⟨0,43,2,[[(ls AI s0_0),(i64 q15.2)]]⟩]) (rows2:=[]) (rows1':=[⟨0,43,2,[[(ls AI s0_0),(i64 q15.2)]]⟩]) (rows2':=[]) (st':=[⟨0,43,2,[[(ls AI s0_0),(i64 q15.2)]]⟩,⟨0,26,2,[[.zc,.zc]]⟩,⟨0,26,2,[[(ow 3 0 q3.1.cells),(ow 4 0 q3.1.pending)]]⟩,(ro 0 30 3 AA q3.1.cells),(ro 0 3 1 eI q3.1.pending)]) (v':=(i64 q15.1)) [0] Ae Dw (Aj gq15) rfl (by decide) rfl U (.raw U U .nil) rfl U (.raw U U .nil) .nil U U ?_
    refine AE ⟨U,?_⟩
    exact AD (AF (L:=[(2,(.ptr 1 0 0 0)),(3,(.ptr 2 0 0 0)),(18,(.ptr 0 0 0 0)),(19,(i64 (if (Sh.len q3.1.cells) > 1 then (Sh.len q3.1.cells) else 1))),(22,(i64 q15.1))]) ⟨.rfl,.rfl,.rfl,.rfl,.rfl,trivial⟩) (AG (by kernel_rfl) ((hA18 _ _ _).1 A18_23456)) rfl)
  have A18_234:A18 10 #[false,false,true,true,true,false,false,false,false,false,false,false,false] ⟨63,AM [(2,(.ptr 1 0 0 0)),(3,(.ptr 2 0 0 0)),(4,(i64 (if (Sh.len q3.1.cells) > 1 then (Sh.len q3.1.cells) else 1))),(18,(.ptr 0 0 0 0)),(19,(i64 (if (Sh.len q3.1.cells) > 1 then (Sh.len q3.1.cells) else 1))),(20,(.ptr 0 0 0 0))],[⟨0,43,2,[[(ls AI s0_0),(i64 q12.2)]]⟩,⟨0,26,2,[[.zc,.zc]]⟩,⟨0,26,2,[[(ow 3 0 q3.1.cells),(ow 4 0 q3.1.pending)]]⟩,(ro 0 30 3 AA q3.1.cells),(ro 0 3 1 eI q3.1.pending)]⟩:=(hA18 _ _ _).2 (by
   refine Bf 5 (v:=(i64 (if (Sh.len q3.1.cells) > 1 then (Sh.len q3.1.cells) else 1))) rfl U (by kernel_rfl) (by kernel_rfl) (by kernel_rfl) rfl (Cc U) ?_
   exact AD (AF (L:=[(2,(.ptr 1 0 0 0)),(3,(.ptr 2 0 0 0)),(18,(.ptr 0 0 0 0)),(19,(i64 (if (Sh.len q3.1.cells) > 1 then (Sh.len q3.1.cells) else 1))),(20,(.ptr 0 0 0 0)),(21,(i64 (if (Sh.len q3.1.cells) > 1 then (Sh.len q3.1.cells) else 1)))]) ⟨.rfl,.rfl,.rfl,.rfl,.rfl,.rfl,trivial⟩) (AG (by kernel_rfl) ((hA18 _ _ _).1 A18_2345)) rfl)
  have A18_23:A18 11 #[false,false,true,true,false,false,false,false,false,false,false,false,false] ⟨63,AM [(0,(.ptr 0 0 0 0)),(2,(.ptr 1 0 0 0)),(3,(.ptr 2 0 0 0)),(4,(i64 (if (Sh.len q3.1.cells) > 1 then (Sh.len q3.1.cells) else 1))),(18,(.ptr 0 0 0 0)),(19,(i64 (if (Sh.len q3.1.cells) > 1 then (Sh.len q3.1.cells) else 1)))],[⟨0,43,2,[[(ls AI s0_0),(i64 q12.2)]]⟩,⟨0,26,2,[[.zc,.zc]]⟩,⟨0,26,2,[[(ow 3 0 q3.1.cells),(ow 4 0 q3.1.pending)]]⟩,(ro 0 30 3 AA q3.1.cells),(ro 0 3 1 eI q3.1.pending)]⟩:=(hA18 _ _ _).2 (by
   refine Bf 4 (v:=(.ptr 0 0 0 0)) rfl U (by kernel_rfl) (by kernel_rfl) (by kernel_rfl) rfl (Cc U) ?_
   exact AD (AF (L:=[(2,(.ptr 1 0 0 0)),(3,(.ptr 2 0 0 0)),(4,(i64 (if (Sh.len q3.1.cells) > 1 then (Sh.len q3.1.cells) else 1))),(18,(.ptr 0 0 0 0)),(19,(i64 (if (Sh.len q3.1.cells) > 1 then (Sh.len q3.1.cells) else 1))),(20,(.ptr 0 0 0 0))]) ⟨.rfl,.rfl,.rfl,.rfl,.rfl,.rfl,trivial⟩) (AG (by kernel_rfl) ((hA18 _ _ _).1 A18_234)) rfl)
  have A18_2:A18 12 #[false,false,true,false,false,false,false,false,false,false,false,false,false] ⟨63,AM [(0,(.ptr 0 0 0 0)),(2,(.ptr 1 0 0 0)),(3,(.ptr 2 0 0 0)),(4,(i64 (if (Sh.len q3.1.cells) > 1 then (Sh.len q3.1.cells) else 1))),(18,(.ptr 0 0 0 0))],[⟨0,43,2,[[(ls AI s0_0),(i64 q12.2)]]⟩,⟨0,26,2,[[.zc,.zc]]⟩,⟨0,26,2,[[(ow 3 0 q3.1.cells),(ow 4 0 q3.1.pending)]]⟩,(ro 0 30 3 AA q3.1.cells),(ro 0 3 1 eI q3.1.pending)]⟩:=(hA18 _ _ _).2 (by
   refine Bf 3 (v:=(i64 (if (Sh.len q3.1.cells) > 1 then (Sh.len q3.1.cells) else 1))) rfl U (by kernel_rfl) (by kernel_rfl) (by kernel_rfl) rfl (Cc U) ?_
   exact AD (AF (L:=[(0,(.ptr 0 0 0 0)),(2,(.ptr 1 0 0 0)),(3,(.ptr 2 0 0 0)),(4,(i64 (if (Sh.len q3.1.cells) > 1 then (Sh.len q3.1.cells) else 1))),(18,(.ptr 0 0 0 0)),(19,(i64 (if (Sh.len q3.1.cells) > 1 then (Sh.len q3.1.cells) else 1)))]) ⟨.rfl,.rfl,.rfl,.rfl,.rfl,.rfl,trivial⟩) (AG (by kernel_rfl) ((hA18 _ _ _).1 A18_23)) rfl)
  have A18_e:A18 13 #[false,false,false,false,false,false,false,false,false,false,false,false,false] ⟨63,AM [(0,(.ptr 0 0 0 0)),(2,(.ptr 1 0 0 0)),(3,(.ptr 2 0 0 0)),(4,(i64 (if (Sh.len q3.1.cells) > 1 then (Sh.len q3.1.cells) else 1)))],[⟨0,43,2,[[(ls AI s0_0),(i64 q12.2)]]⟩,⟨0,26,2,[[.zc,.zc]]⟩,⟨0,26,2,[[(ow 3 0 q3.1.cells),(ow 4 0 q3.1.pending)]]⟩,(ro 0 30 3 AA q3.1.cells),(ro 0 3 1 eI q3.1.pending)]⟩:=(hA18 _ _ _).2 (by
   refine Bf 2 (v:=(.ptr 0 0 0 0)) rfl U (by kernel_rfl) (by kernel_rfl) (by kernel_rfl) rfl (Cc U) ?_
   exact AD (AF (L:=[(0,(.ptr 0 0 0 0)),(2,(.ptr 1 0 0 0)),(3,(.ptr 2 0 0 0)),(4,(i64 (if (Sh.len q3.1.cells) > 1 then (Sh.len q3.1.cells) else 1))),(18,(.ptr 0 0 0 0))]) ⟨.rfl,.rfl,.rfl,.rfl,.rfl,trivial⟩) (AG (by kernel_rfl) ((hA18 _ _ _).1 A18_2)) rfl)
  refine (hA18 _ _ _).2 ?_
  exact AD (by refine Wk.trans (AL (L:=[(0,(.ptr 0 0 0 0)),(2,(.ptr 1 0 0 0)),(3,(.ptr 2 0 0 0)),(4,(i64 (if (Sh.len q3.1.cells) > 1 then (Sh.len q3.1.cells) else 1)))]) (st':=[⟨0,43,2,[[(ls AI s0_0),(i64 q12.2)]]⟩,⟨0,26,2,[[.zc,.zc]]⟩,⟨0,26,2,[[(ow 3 0 q3.1.cells),(ow 4 0 q3.1.pending)]]⟩,(ro 0 30 3 AA q3.1.cells),(ro 0 3 1 eI q3.1.pending)]) (st1:=[⟨0,43,2,[[(ls AI s0_0),(i64 q12.2)]]⟩,⟨0,26,2,[[.zc,.zc]]⟩,⟨0,26,2,[[(ow 2 0 q3.1.cells),(ow 3 0 q3.1.pending)]]⟩,(ro 0 30 3 AA q3.1.cells),(ro 0 3 1 eI q3.1.pending)]) [0,1,4,2,3] U (.raw U U .nil) (by decide) rfl U (.raw U U (.raw U U (.raw U U (.pure (AB fun _=>U) (.pure (AB fun _=>U) .nil))))) ⟨.rfl,.rfl,.rfl,.rfl,trivial⟩) ?_;exact AF (L:=[(0,(.ptr 0 0 0 0)),(2,(.ptr 1 0 0 0)),(3,(.ptr 2 0 0 0)),(4,(i64 (if (Sh.len q3.1.cells) > 1 then (Sh.len q3.1.cells) else 1)))]) ⟨.rfl,.rfl,.rfl,.rfl,trivial⟩) (AG (by kernel_rfl) ((hA18 _ _ _).1 A18_e)) rfl
 ·intro b14 h1
  refine zr tb U U ?_
  refine ci h1 U ?_ ?_ <;> clear h1
  ·intro b20 h1
   refine sr U fun K21 hK21=>?_
   refine zm tb 2 U ?_
   refine zz (i64 (Sh.len q3.1.pending)) (Bj GH U U U) rfl ?_
   refine zq tb U ?_
   refine dn hK21 U ?_
   refine ci h1 U ?_ ?_ <;> clear h1
   ·intro b22 h1
    refine AR (by rfl) ?_
    refine zm tb 2 U ?_
    refine Af (Wk.A2 (L:=[(2,(.ptr 1 0 0 0)),(3,(.ptr 4 0 0 0)),(35,(ls eI q3.1.pending))]) (st':=[⟨0,43,2,[[(ls AI s0_0),(i64 q12.2)]]⟩,⟨0,26,2,[[.zc,.zc]]⟩,(ro 0 30 3 AA q3.1.cells),⟨1,3,1,[]⟩,⟨0,26,2,[[(ow 2 0 q3.1.cells),(ow 3 0 q3.1.pending)]]⟩]) (id:=3) rfl (show 1≤3 by decide) (AB fun _=>U) ⟨.rfl,.rfl,(.A2 U),trivial⟩ U) ?_
    obtain⟨l23,gl23,h1⟩:=Sh.bind_some h1
    refine KD (i:=1) (j:=Sh.len q3.1.pending) Ae Av U U U (fun _=>U) gl23 ?_
    refine zq tb U ?_
    refine Bt (st':=[⟨0,43,2,[[(ls AI s0_0),(i64 q12.2)]]⟩,⟨0,26,2,[[.zc,.zc]]⟩,(ro 0 30 3 AA q3.1.cells),⟨1,3,1,[]⟩,⟨0,26,2,[[(ow 2 0 q3.1.cells),(ls eI l23)]]⟩]) Ae Jq U U U U U U (show 1+1≤2 by decide) rfl ?_
    exact AE (M9 q12.2 l23 q3.1.cells (Sh.AK h1).symm _ (AL (L:=[(2,(.ptr 1 0 0 0)),(3,(.ptr 3 0 0 0))]) (st':=[⟨0,43,2,[[(ls AI s0_0),(i64 q12.2)]]⟩,⟨0,26,2,[[.zc,.zc]]⟩,(ro 0 30 3 AA q3.1.cells),⟨0,26,2,[[(ow 2 0 q3.1.cells),(ls eI l23)]]⟩]) (st1:=[⟨0,43,2,[[(ls AI s0_0),(i64 q12.2)]]⟩,⟨0,26,2,[[.zc,.zc]]⟩,(ro 0 30 3 AA q3.1.cells),⟨0,26,2,[[(ow 2 0 q3.1.cells),(ls eI l23)]]⟩]) [0,1,2,4] U (.raw U U .nil) (by decide) rfl U (.raw U U (.raw U U (.pure (AB fun _=>U) (.raw U U .nil)))) ⟨.rfl,.rfl,trivial⟩))
   ·intro b22 h1
    exact AU (M9 q12.2 q3.1.pending q3.1.cells (Sh.AK h1).symm _ (by refine Wk.trans (Ez (id:=4) (m:=3) (i:=0) (j:=1) (st':=[⟨0,43,2,[[(ls AI s0_0),(i64 q12.2)]]⟩,⟨0,26,2,[[.zc,.zc]]⟩,(ro 0 30 3 AA q3.1.cells),⟨1,3,1,[]⟩,⟨0,26,2,[[(ow 2 0 q3.1.cells),(ls eI q3.1.pending)]]⟩]) rfl U U U (by simp) (by decide) (show 1≤3 by decide) (AB fun _=>U) rfl) ?_;exact AL (L:=[(2,(.ptr 1 0 0 0)),(3,(.ptr 3 0 0 0))]) (st':=[⟨0,43,2,[[(ls AI s0_0),(i64 q12.2)]]⟩,⟨0,26,2,[[.zc,.zc]]⟩,(ro 0 30 3 AA q3.1.cells),⟨0,26,2,[[(ow 2 0 q3.1.cells),(ls eI q3.1.pending)]]⟩]) (st1:=[⟨0,43,2,[[(ls AI s0_0),(i64 q12.2)]]⟩,⟨0,26,2,[[.zc,.zc]]⟩,(ro 0 30 3 AA q3.1.cells),⟨0,26,2,[[(ow 2 0 q3.1.cells),(ls eI q3.1.pending)]]⟩]) [0,1,2,4] U (.raw U U .nil) (by decide) rfl U (.raw U U (.raw U U (.pure (AB fun _=>U) (.raw U U .nil)))) ⟨.rfl,.rfl,trivial⟩))
  ·intro b20 h1
   refine zr tb U U ?_
   refine ci h1 U ?_ ?_ <;> clear h1
   ·intro b25 h1
    refine sr U fun K26 hK26=>?_
    refine zm tb 2 U ?_
    refine zz (i64 (Sh.len q3.1.cells)) (Bj Ec U U U) rfl ?_
    refine zq tb U ?_
    refine dn hK26 U ?_
    refine ci h1 U ?_ ?_ <;> clear h1
    ·intro b27 h1
     refine sr U fun K28 hK28=>?_
     refine zm tb 2 U ?_
     obtain⟨q29,gq29,h1⟩:=Sh.bind_some h1
     refine Ad (rowsP:=[⟨0,43,2,[[(ls AI s0_0),(i64 q12.2)]]⟩]) (rows0:=[⟨0,43,2,[[(ls AI s0_0),(i64 q12.2)]]⟩]) (rows1:=[⟨0,43,2,[[(ls AI s0_0),(i64 q29.2)]]⟩]) (rows2:=[]) (rows1':=[⟨0,43,2,[[(ls AI s0_0),(i64 q29.2)]]⟩]) (rows2':=[]) (st':=[⟨0,43,2,[[(ls AI s0_0),(i64 q29.2)]]⟩,⟨0,26,2,[[.zc,.zc]]⟩,(ro 0 30 3 AA q3.1.cells),(ro 0 3 1 eI q3.1.pending),⟨0,26,2,[[(ow 2 0 q3.1.cells),(ow 3 0 q3.1.pending)]]⟩]) (v':=(i64 q29.1)) [0] Ae Dw (Aj gq29) rfl (by decide) rfl U (.raw U U .nil) rfl U (.raw U U .nil) .nil U U ?_
     refine zq tb U ?_
     refine dn hK28 U ?_
     refine Dd (by kernel_rfl) ?_
     obtain⟨c30,gc30,h1⟩:=Sh.bind_some h1
     obtain⟨q31,gq31,h1⟩:=Sh.bind_some h1
     refine Et fun A32 hA32=>?_
     have A32_0123456789abcdef:A32 0 #[true,true,true,true,true,true,true,true,true,true,true,true,true,true,true,true] ⟨63,AM [(2,(.ptr 1 0 0 0)),(3,(.ptr 2 0 0 0))],[⟨0,43,2,[[(ls AI s0_0),(i64 q31.2)]]⟩,⟨0,26,2,[[.zc,.zc]]⟩,⟨0,26,2,[[(ow 3 0 (Sh.put q3.1.cells q29.1 (Cell.mk (Sh.w (c30.count+q31.1)) c30.tag c30.fields))),(ow 4 0 q3.1.pending)]]⟩,(ro 0 30 3 AA (Sh.put q3.1.cells q29.1 (Cell.mk (Sh.w (c30.count+q31.1)) c30.tag c30.fields))),(ro 0 3 1 eI q3.1.pending)]⟩:=(hA32 _ _ _).2 (by
      refine EE U (by kernel_rfl) ?_
      exact M9 q31.2 q3.1.pending (Sh.put q3.1.cells q29.1 (Cell.mk (Sh.w (c30.count+q31.1)) c30.tag c30.fields)) (Sh.AK h1).symm _ (by refine Wk.trans (Ez (id:=2) (m:=4) (i:=0) (j:=1) (st':=[⟨0,43,2,[[(ls AI s0_0),(i64 q31.2)]]⟩,⟨0,26,2,[[.zc,.zc]]⟩,⟨0,26,2,[[(ow 3 0 (Sh.put q3.1.cells q29.1 (Cell.mk (Sh.w (c30.count+q31.1)) c30.tag c30.fields))),(ls eI q3.1.pending)]]⟩,(ro 0 30 3 AA (Sh.put q3.1.cells q29.1 (Cell.mk (Sh.w (c30.count+q31.1)) c30.tag c30.fields))),⟨1,3,1,[]⟩]) rfl U U U (by simp) (by decide) (show 1≤4 by decide) (AB fun _=>U) rfl) ?_;refine Wk.trans (AL (L:=[(2,(.ptr 1 0 0 0)),(3,(.ptr 3 0 0 0))]) (st':=[⟨0,43,2,[[(ls AI s0_0),(i64 q31.2)]]⟩,⟨0,26,2,[[.zc,.zc]]⟩,(ro 0 30 3 AA (Sh.put q3.1.cells q29.1 (Cell.mk (Sh.w (c30.count+q31.1)) c30.tag c30.fields))),⟨0,26,2,[[(ow 2 0 (Sh.put q3.1.cells q29.1 (Cell.mk (Sh.w (c30.count+q31.1)) c30.tag c30.fields))),(ls eI q3.1.pending)]]⟩]) (st1:=[⟨0,43,2,[[(ls AI s0_0),(i64 q31.2)]]⟩,⟨0,26,2,[[.zc,.zc]]⟩,(ro 0 30 3 AA (Sh.put q3.1.cells q29.1 (Cell.mk (Sh.w (c30.count+q31.1)) c30.tag c30.fields))),⟨0,26,2,[[(ow 3 0 (Sh.put q3.1.cells q29.1 (Cell.mk (Sh.w (c30.count+q31.1)) c30.tag c30.fields))),(ls eI q3.1.pending)]]⟩]) [0,1,3,2] U (.raw U U .nil) (by decide) rfl U (.raw U U (.raw U U (.pure (AB fun _=>U) (.raw U U .nil)))) ⟨.rfl,.rfl,trivial⟩) ?_;exact AF (L:=[(2,(.ptr 1 0 0 0)),(3,(.ptr 3 0 0 0))]) ⟨.rfl,.rfl,trivial⟩))
     have A32_0123456789abcde:A32 1 #[true,true,true,true,true,true,true,true,true,true,true,true,true,true,true,false] ⟨63,AM [(2,(.ptr 1 0 0 0)),(3,(.ptr 2 0 0 0)),(59,(i64 (Sh.w (c30.count+q31.1)))),(61,(.ptr 3 0 (Int.toNat q29.1) 0))],[⟨0,43,2,[[(ls AI s0_0),(i64 q31.2)]]⟩,⟨0,26,2,[[.zc,.zc]]⟩,⟨0,26,2,[[(ow 3 0 q3.1.cells),(ow 4 0 q3.1.pending)]]⟩,(ro 0 30 3 AA q3.1.cells),(ro 0 3 1 eI q3.1.pending)]⟩:=(hA32 _ _ _).2 (by
      refine AJ [15] U (by kernel_rfl) (by decide) ⟨?_,trivial⟩
      ·refine AH (i:=15) rfl U (by rfl) ?_
       refine Dy (st':=[⟨0,43,2,[[(ls AI s0_0),(i64 q31.2)]]⟩,⟨0,26,2,[[.zc,.zc]]⟩,⟨0,26,2,[[(ow 3 0 q3.1.cells),(ow 4 0 q3.1.pending)]]⟩,(ro 0 30 3 AA (Sh.put q3.1.cells q29.1 (Cell.mk (Sh.w (c30.count+q31.1)) c30.tag c30.fields))),(ro 0 3 1 eI q3.1.pending)]) (u':=(Cell.mk (Sh.w (c30.count+q31.1)) c30.tag c30.fields)) Ae CM U U gc30 U U U (show 0+1≤3 by decide) rfl U ?_
       refine AE ⟨U,?_⟩
       exact AD (by refine Wk.trans (AF (L:=[(2,(.ptr 1 0 0 0)),(3,(.ptr 2 0 0 0))]) ⟨.rfl,.rfl,trivial⟩) ?_;refine Wk.trans (Gz (st:=[⟨0,43,2,[[(.sl (List.map AI s0_0)),(i64 q31.2)]]⟩,⟨0,26,2,[[.zc,.zc]]⟩,⟨0,26,2,[[(.own 3 0 (List.length q3.1.cells)),(.own 4 0 (List.length q3.1.pending))]]⟩,⟨0,30,3,List.map AA (Sh.put q3.1.cells q29.1 (Cell.mk (Sh.w (c30.count+q31.1)) c30.tag c30.fields))⟩,⟨0,3,1,List.map eI q3.1.pending⟩]) (st':=[⟨0,43,2,[[(.sl (List.map AI s0_0)),(i64 q31.2)]]⟩,⟨0,26,2,[[.zc,.zc]]⟩,⟨0,26,2,[[(.own 3 0 (List.length (Sh.put q3.1.cells q29.1 (Cell.mk (Sh.w (c30.count+q31.1)) c30.tag c30.fields)))),(.own 4 0 (List.length q3.1.pending))]]⟩,⟨0,30,3,List.map AA (Sh.put q3.1.cells q29.1 (Cell.mk (Sh.w (c30.count+q31.1)) c30.tag c30.fields))⟩,⟨0,3,1,List.map eI q3.1.pending⟩]) (by simp only[Sh.CO])) ?_;exact AF (L:=[(2,(.ptr 1 0 0 0)),(3,(.ptr 2 0 0 0))]) ⟨.rfl,.rfl,trivial⟩) (AG (by kernel_rfl) ((hA32 _ _ _).1 A32_0123456789abcdef)) rfl)
     have A32_0123456789abcd:A32 2 #[true,true,true,true,true,true,true,true,true,true,true,true,true,true,false,false] ⟨63,AM [(2,(.ptr 1 0 0 0)),(3,(.ptr 2 0 0 0)),(59,(i64 (Sh.w (c30.count+q31.1)))),(60,(.ptr 3 0 (Int.toNat q29.1) 0))],[⟨0,43,2,[[(ls AI s0_0),(i64 q31.2)]]⟩,⟨0,26,2,[[.zc,.zc]]⟩,⟨0,26,2,[[(ow 3 0 q3.1.cells),(ow 4 0 q3.1.pending)]]⟩,(ro 0 30 3 AA q3.1.cells),(ro 0 3 1 eI q3.1.pending)]⟩:=(hA32 _ _ _).2 (by
      refine AJ [14] U (by kernel_rfl) (by decide) ⟨?_,trivial⟩
      ·refine AH (i:=14) rfl U (by rfl) ?_
       refine zq tb U ?_
       refine AE ⟨U,?_⟩
       exact AD (AF (L:=[(2,(.ptr 1 0 0 0)),(3,(.ptr 2 0 0 0)),(59,(i64 (Sh.w (c30.count+q31.1)))),(61,(.ptr 3 0 (Int.toNat q29.1) 0))]) ⟨.rfl,.rfl,.rfl,.rfl,trivial⟩) (AG (by kernel_rfl) ((hA32 _ _ _).1 A32_0123456789abcde)) rfl)
     have A32_0123456789abc:A32 3 #[true,true,true,true,true,true,true,true,true,true,true,true,true,false,false,false] ⟨63,AM [(2,(.ptr 1 0 0 0)),(3,(.ptr 2 0 0 0)),(48,(ow 3 0 q3.1.cells)),(49,(i64 q29.1)),(59,(i64 (Sh.w (c30.count+q31.1))))],[⟨0,43,2,[[(ls AI s0_0),(i64 q31.2)]]⟩,⟨0,26,2,[[.zc,.zc]]⟩,⟨0,26,2,[[(ow 3 0 q3.1.cells),(ow 4 0 q3.1.pending)]]⟩,(ro 0 30 3 AA q3.1.cells),(ro 0 3 1 eI q3.1.pending)]⟩:=(hA32 _ _ _).2 (by
      refine AJ [13] U (by kernel_rfl) (by decide) ⟨?_,trivial⟩
      ·refine AH (i:=13) rfl U (by rfl) ?_
       refine zz (.ptr 3 0 (Int.toNat q29.1) 0) (An A3 U U U U gc30) rfl ?_
       refine AE ⟨U,?_⟩
       exact AD (AF (L:=[(2,(.ptr 1 0 0 0)),(3,(.ptr 2 0 0 0)),(59,(i64 (Sh.w (c30.count+q31.1)))),(60,(.ptr 3 0 (Int.toNat q29.1) 0))]) ⟨.rfl,.rfl,.rfl,.rfl,trivial⟩) (AG (by kernel_rfl) ((hA32 _ _ _).1 A32_0123456789abcd)) rfl)
     have A32_0123456789ab:A32 4 #[true,true,true,true,true,true,true,true,true,true,true,true,false,false,false,false] ⟨63,AM [(2,(.ptr 1 0 0 0)),(3,(.ptr 2 0 0 0)),(48,(ow 3 0 q3.1.cells)),(49,(i64 q29.1)),(55,(i64 c30.count)),(58,(i64 q31.1))],[⟨0,43,2,[[(ls AI s0_0),(i64 q31.2)]]⟩,⟨0,26,2,[[.zc,.zc]]⟩,⟨0,26,2,[[(ow 3 0 q3.1.cells),(ow 4 0 q3.1.pending)]]⟩,(ro 0 30 3 AA q3.1.cells),(ro 0 3 1 eI q3.1.pending)]⟩:=(hA32 _ _ _).2 (by
      refine AJ [12] U (by kernel_rfl) (by decide) ⟨?_,trivial⟩
      ·refine AH (i:=12) rfl U (by rfl) ?_
       refine zq tb U ?_
       refine AE ⟨U,?_⟩
       exact AD (AF (L:=[(2,(.ptr 1 0 0 0)),(3,(.ptr 2 0 0 0)),(48,(ow 3 0 q3.1.cells)),(49,(i64 q29.1)),(59,(i64 (Sh.w (c30.count+q31.1))))]) ⟨.rfl,.rfl,.rfl,.rfl,.rfl,trivial⟩) (AG (by kernel_rfl) ((hA32 _ _ _).1 A32_0123456789abc)) rfl)
     have A32_0123456789a:A32 5 #[true,true,true,true,true,true,true,true,true,true,true,false,false,false,false,false] ⟨63,AM [(2,(.ptr 1 0 0 0)),(3,(.ptr 2 0 0 0)),(48,(ow 3 0 q3.1.cells)),(49,(i64 q29.1)),(55,(i64 c30.count)),(56,(.ptr 0 0 0 0)),(57,(ow 5 0 [(1:Int),-1]))],[⟨0,43,2,[[(ls AI s0_0),(i64 q29.2)]]⟩,⟨0,26,2,[[.zc,.zc]]⟩,⟨0,26,2,[[(ow 3 0 q3.1.cells),(ow 4 0 q3.1.pending)]]⟩,(ro 0 30 3 AA q3.1.cells),(ro 0 3 1 eI q3.1.pending),(ro 0 3 1 eI [(1:Int),-1])]⟩:=(hA32 _ _ _).2 (by
      refine AJ [11] U (by kernel_rfl) (by decide) ⟨?_,trivial⟩
      ·refine AH (i:=11) rfl U (by rfl) ?_
       refine Af (Wk.A2 (L:=[(2,(.ptr 1 0 0 0)),(3,(.ptr 2 0 0 0)),(48,(ow 3 0 q3.1.cells)),(49,(i64 q29.1)),(55,(i64 c30.count)),(56,(.ptr 0 0 0 0)),(57,(ls eI [(1:Int),-1]))]) (st':=[⟨0,43,2,[[(ls AI s0_0),(i64 q29.2)]]⟩,⟨0,26,2,[[.zc,.zc]]⟩,⟨0,26,2,[[(ow 3 0 q3.1.cells),(ow 4 0 q3.1.pending)]]⟩,(ro 0 30 3 AA q3.1.cells),(ro 0 3 1 eI q3.1.pending),⟨1,3,1,[]⟩]) (id:=5) rfl (show 1≤5 by decide) (AB fun _=>U) ⟨.rfl,.rfl,.rfl,.rfl,.rfl,.rfl,(.A2 U),trivial⟩ U) ?_
       refine Ad (rowsP:=[⟨0,43,2,[[(ls AI s0_0),(i64 q29.2)]]⟩]) (rows0:=[⟨0,43,2,[[(ls AI s0_0),(i64 q29.2)]]⟩]) (rows1:=[⟨0,43,2,[[(ls AI s0_0),(i64 q31.2)]]⟩]) (rows2:=[]) (rows1':=[⟨0,43,2,[[(ls AI s0_0),(i64 q31.2)]]⟩]) (rows2':=[]) (st':=[⟨0,43,2,[[(ls AI s0_0),(i64 q31.2)]]⟩,⟨0,26,2,[[.zc,.zc]]⟩,⟨0,26,2,[[(ow 3 0 q3.1.cells),(ow 4 0 q3.1.pending)]]⟩,(ro 0 30 3 AA q3.1.cells),(ro 0 3 1 eI q3.1.pending),⟨1,3,1,[]⟩]) (v':=(i64 q31.1)) [0] Ae EU (Ak gq31) rfl (by decide) rfl U (.raw U U .nil) rfl U (.raw U U .nil) .nil U U ?_
       refine AE ⟨U,?_⟩
       exact AD (by refine Wk.trans (AL (L:=[(2,(.ptr 1 0 0 0)),(3,(.ptr 2 0 0 0)),(48,(ow 3 0 q3.1.cells)),(49,(i64 q29.1)),(55,(i64 c30.count)),(58,(i64 q31.1))]) (st':=[⟨0,43,2,[[(ls AI s0_0),(i64 q31.2)]]⟩,⟨0,26,2,[[.zc,.zc]]⟩,⟨0,26,2,[[(ow 3 0 q3.1.cells),(ow 4 0 q3.1.pending)]]⟩,(ro 0 30 3 AA q3.1.cells),(ro 0 3 1 eI q3.1.pending)]) (st1:=[⟨0,43,2,[[(ls AI s0_0),(i64 q31.2)]]⟩,⟨0,26,2,[[.zc,.zc]]⟩,⟨0,26,2,[[(ow 3 0 q3.1.cells),(ow 4 0 q3.1.pending)]]⟩,(ro 0 30 3 AA q3.1.cells),(ro 0 3 1 eI q3.1.pending)]) [0,1,2,3,4] U (.raw U U .nil) (by decide) rfl U (.raw U U (.raw U U (.raw U U (.pure (AB fun _=>U) (.pure (AB fun _=>U) .nil))))) ⟨.rfl,.rfl,.rfl,.rfl,.rfl,.rfl,trivial⟩) ?_;exact AF (L:=[(2,(.ptr 1 0 0 0)),(3,(.ptr 2 0 0 0)),(48,(ow 3 0 q3.1.cells)),(49,(i64 q29.1)),(55,(i64 c30.count)),(58,(i64 q31.1))]) ⟨.rfl,.rfl,.rfl,.rfl,.rfl,.rfl,trivial⟩) (AG (by kernel_rfl) ((hA32 _ _ _).1 A32_0123456789ab)) rfl)
     have A32_0123456789:A32 6 #[true,true,true,true,true,true,true,true,true,true,false,false,false,false,false,false] ⟨63,AM [(2,(.ptr 1 0 0 0)),(3,(.ptr 2 0 0 0)),(48,(ow 3 0 q3.1.cells)),(49,(i64 q29.1)),(55,(i64 c30.count)),(56,(.ptr 0 0 0 0))],[⟨0,43,2,[[(ls AI s0_0),(i64 q29.2)]]⟩,⟨0,26,2,[[.zc,.zc]]⟩,⟨0,26,2,[[(ow 3 0 q3.1.cells),(ow 4 0 q3.1.pending)]]⟩,(ro 0 30 3 AA q3.1.cells),(ro 0 3 1 eI q3.1.pending)]⟩:=(hA32 _ _ _).2 (by
      refine AJ [10] U (by kernel_rfl) (by decide) ⟨?_,trivial⟩
      ·refine AH (i:=10) rfl U (by rfl) ?_
       refine Bc (m:=5) (st':=[⟨0,43,2,[[(ls AI s0_0),(i64 q29.2)]]⟩,⟨0,26,2,[[.zc,.zc]]⟩,⟨0,26,2,[[(ow 3 0 q3.1.cells),(ow 4 0 q3.1.pending)]]⟩,(ro 0 30 3 AA q3.1.cells),(ro 0 3 1 eI q3.1.pending),(ro 0 3 1 eI [(1:Int),-1])]) (l:=[(1:Int),-1]) (enc:=eI) Ae Av (by decide) rfl U U U U U ?_
       refine AE ⟨U,?_⟩
       exact AD (AF (L:=[(2,(.ptr 1 0 0 0)),(3,(.ptr 2 0 0 0)),(48,(ow 3 0 q3.1.cells)),(49,(i64 q29.1)),(55,(i64 c30.count)),(56,(.ptr 0 0 0 0)),(57,(ow 5 0 [(1:Int),-1]))]) ⟨.rfl,.rfl,.rfl,.rfl,.rfl,.rfl,.rfl,trivial⟩) (AG (by kernel_rfl) ((hA32 _ _ _).1 A32_0123456789a)) rfl)
     have A32_012345679ab:A32 5 #[true,true,true,true,true,true,true,true,false,true,true,true,false,false,false,false] ⟨63,AM [(2,(.ptr 1 0 0 0)),(3,(.ptr 2 0 0 0)),(48,(ow 3 0 q3.1.cells)),(49,(i64 q29.1)),(54,(.ptr 3 0 (Int.toNat q29.1) 0)),(58,(i64 q31.1))],[⟨0,43,2,[[(ls AI s0_0),(i64 q31.2)]]⟩,⟨0,26,2,[[.zc,.zc]]⟩,⟨0,26,2,[[(ow 3 0 q3.1.cells),(ow 4 0 q3.1.pending)]]⟩,(ro 0 30 3 AA q3.1.cells),(ro 0 3 1 eI q3.1.pending)]⟩:=(hA32 _ _ _).2 (by
      refine AJ [8] U (by kernel_rfl) (by decide) ⟨?_,trivial⟩
      ·refine AH (i:=8) rfl U (by rfl) ?_
       refine zz (i64 c30.count) (Aw CM U U (Am gc30) rfl) rfl ?_
       refine AE ⟨U,?_⟩
       exact AD (AF (L:=[(2,(.ptr 1 0 0 0)),(3,(.ptr 2 0 0 0)),(48,(ow 3 0 q3.1.cells)),(49,(i64 q29.1)),(55,(i64 c30.count)),(58,(i64 q31.1))]) ⟨.rfl,.rfl,.rfl,.rfl,.rfl,.rfl,trivial⟩) (AG (by kernel_rfl) ((hA32 _ _ _).1 A32_0123456789ab)) rfl)
     have A32_012345679a:A32 6 #[true,true,true,true,true,true,true,true,false,true,true,false,false,false,false,false] ⟨63,AM [(2,(.ptr 1 0 0 0)),(3,(.ptr 2 0 0 0)),(48,(ow 3 0 q3.1.cells)),(49,(i64 q29.1)),(54,(.ptr 3 0 (Int.toNat q29.1) 0)),(56,(.ptr 0 0 0 0)),(57,(ow 5 0 [(1:Int),-1]))],[⟨0,43,2,[[(ls AI s0_0),(i64 q29.2)]]⟩,⟨0,26,2,[[.zc,.zc]]⟩,⟨0,26,2,[[(ow 3 0 q3.1.cells),(ow 4 0 q3.1.pending)]]⟩,(ro 0 30 3 AA q3.1.cells),(ro 0 3 1 eI q3.1.pending),(ro 0 3 1 eI [(1:Int),-1])]⟩:=(hA32 _ _ _).2 (by
      refine AJ [8,11] U (by kernel_rfl) (by decide) ⟨?_,?_,trivial⟩
      ·refine AH (i:=8) rfl U (by rfl) ?_
       refine zz (i64 c30.count) (Aw CM U U (Am gc30) rfl) rfl ?_
       refine AE ⟨U,?_⟩
       exact AD (AF (L:=[(2,(.ptr 1 0 0 0)),(3,(.ptr 2 0 0 0)),(48,(ow 3 0 q3.1.cells)),(49,(i64 q29.1)),(55,(i64 c30.count)),(56,(.ptr 0 0 0 0)),(57,(ow 5 0 [(1:Int),-1]))]) ⟨.rfl,.rfl,.rfl,.rfl,.rfl,.rfl,.rfl,trivial⟩) (AG (by kernel_rfl) ((hA32 _ _ _).1 A32_0123456789a)) rfl
      ·refine AH (i:=11) rfl U (by rfl) ?_
       refine Af (Wk.A2 (L:=[(2,(.ptr 1 0 0 0)),(3,(.ptr 2 0 0 0)),(48,(ow 3 0 q3.1.cells)),(49,(i64 q29.1)),(54,(.ptr 3 0 (Int.toNat q29.1) 0)),(56,(.ptr 0 0 0 0)),(57,(ls eI [(1:Int),-1]))]) (st':=[⟨0,43,2,[[(ls AI s0_0),(i64 q29.2)]]⟩,⟨0,26,2,[[.zc,.zc]]⟩,⟨0,26,2,[[(ow 3 0 q3.1.cells),(ow 4 0 q3.1.pending)]]⟩,(ro 0 30 3 AA q3.1.cells),(ro 0 3 1 eI q3.1.pending),⟨1,3,1,[]⟩]) (id:=5) rfl (show 1≤5 by decide) (AB fun _=>U) ⟨.rfl,.rfl,.rfl,.rfl,.rfl,.rfl,(.A2 U),trivial⟩ U) ?_
       refine Ad (rowsP:=[⟨0,43,2,[[(ls AI s0_0),(i64 q29.2)]]⟩]) (rows0:=[⟨0,43,2,[[(ls AI s0_0),(i64 q29.2)]]⟩]) (rows1:=[⟨0,43,2,[[(ls AI s0_0),(i64 q31.2)]]⟩]) (rows2:=[]) (rows1':=[⟨0,43,2,[[(ls AI s0_0),(i64 q31.2)]]⟩]) (rows2':=[]) (st':=[⟨0,43,2,[[(ls AI s0_0),(i64 q31.2)]]⟩,⟨0,26,2,[[.zc,.zc]]⟩,⟨0,26,2,[[(ow 3 0 q3.1.cells),(ow 4 0 q3.1.pending)]]⟩,(ro 0 30 3 AA q3.1.cells),(ro 0 3 1 eI q3.1.pending),⟨1,3,1,[]⟩]) (v':=(i64 q31.1)) [0] Ae EU (Ak gq31) rfl (by decide) rfl U (.raw U U .nil) rfl U (.raw U U .nil) .nil U U ?_
       refine AE ⟨U,?_⟩
       exact AD (by refine Wk.trans (AL (L:=[(2,(.ptr 1 0 0 0)),(3,(.ptr 2 0 0 0)),(48,(ow 3 0 q3.1.cells)),(49,(i64 q29.1)),(54,(.ptr 3 0 (Int.toNat q29.1) 0)),(58,(i64 q31.1))]) (st':=[⟨0,43,2,[[(ls AI s0_0),(i64 q31.2)]]⟩,⟨0,26,2,[[.zc,.zc]]⟩,⟨0,26,2,[[(ow 3 0 q3.1.cells),(ow 4 0 q3.1.pending)]]⟩,(ro 0 30 3 AA q3.1.cells),(ro 0 3 1 eI q3.1.pending)]) (st1:=[⟨0,43,2,[[(ls AI s0_0),(i64 q31.2)]]⟩,⟨0,26,2,[[.zc,.zc]]⟩,⟨0,26,2,[[(ow 3 0 q3.1.cells),(ow 4 0 q3.1.pending)]]⟩,(ro 0 30 3 AA q3.1.cells),(ro 0 3 1 eI q3.1.pending)]) [0,1,2,3,4] U (.raw U U .nil) (by decide) rfl U (.raw U U (.raw U U (.raw U U (.pure (AB fun _=>U) (.pure (AB fun _=>U) .nil))))) ⟨.rfl,.rfl,.rfl,.rfl,.rfl,.rfl,trivial⟩) ?_;exact AF (L:=[(2,(.ptr 1 0 0 0)),(3,(.ptr 2 0 0 0)),(48,(ow 3 0 q3.1.cells)),(49,(i64 q29.1)),(54,(.ptr 3 0 (Int.toNat q29.1) 0)),(58,(i64 q31.1))]) ⟨.rfl,.rfl,.rfl,.rfl,.rfl,.rfl,trivial⟩) (AG (by kernel_rfl) ((hA32 _ _ _).1 A32_012345679ab)) rfl)
     have A32_012345679:A32 7 #[true,true,true,true,true,true,true,true,false,true,false,false,false,false,false,false] ⟨63,AM [(2,(.ptr 1 0 0 0)),(3,(.ptr 2 0 0 0)),(48,(ow 3 0 q3.1.cells)),(49,(i64 q29.1)),(54,(.ptr 3 0 (Int.toNat q29.1) 0)),(56,(.ptr 0 0 0 0))],[⟨0,43,2,[[(ls AI s0_0),(i64 q29.2)]]⟩,⟨0,26,2,[[.zc,.zc]]⟩,⟨0,26,2,[[(ow 3 0 q3.1.cells),(ow 4 0 q3.1.pending)]]⟩,(ro 0 30 3 AA q3.1.cells),(ro 0 3 1 eI q3.1.pending)]⟩:=(hA32 _ _ _).2 (by
      refine AJ [8,10] U (by kernel_rfl) (by decide) ⟨?_,?_,trivial⟩
      ·refine AH (i:=8) rfl U (by rfl) ?_
       refine zz (i64 c30.count) (Aw CM U U (Am gc30) rfl) rfl ?_
       refine AE ⟨U,?_⟩
       exact AD (AF (L:=[(2,(.ptr 1 0 0 0)),(3,(.ptr 2 0 0 0)),(48,(ow 3 0 q3.1.cells)),(49,(i64 q29.1)),(55,(i64 c30.count)),(56,(.ptr 0 0 0 0))]) ⟨.rfl,.rfl,.rfl,.rfl,.rfl,.rfl,trivial⟩) (AG (by kernel_rfl) ((hA32 _ _ _).1 A32_0123456789)) rfl
      ·refine AH (i:=10) rfl U (by rfl) ?_
       refine Bc (m:=5) (st':=[⟨0,43,2,[[(ls AI s0_0),(i64 q29.2)]]⟩,⟨0,26,2,[[.zc,.zc]]⟩,⟨0,26,2,[[(ow 3 0 q3.1.cells),(ow 4 0 q3.1.pending)]]⟩,(ro 0 30 3 AA q3.1.cells),(ro 0 3 1 eI q3.1.pending),(ro 0 3 1 eI [(1:Int),-1])]) (l:=[(1:Int),-1]) (enc:=eI) Ae Av (by decide) rfl U U U U U ?_
       refine AE ⟨U,?_⟩
       exact AD (AF (L:=[(2,(.ptr 1 0 0 0)),(3,(.ptr 2 0 0 0)),(48,(ow 3 0 q3.1.cells)),(49,(i64 q29.1)),(54,(.ptr 3 0 (Int.toNat q29.1) 0)),(56,(.ptr 0 0 0 0)),(57,(ow 5 0 [(1:Int),-1]))]) ⟨.rfl,.rfl,.rfl,.rfl,.rfl,.rfl,.rfl,trivial⟩) (AG (by kernel_rfl) ((hA32 _ _ _).1 A32_012345679a)) rfl)
     have A32_01234569ab:A32 6 #[true,true,true,true,true,true,true,false,false,true,true,true,false,false,false,false] ⟨63,AM [(2,(.ptr 1 0 0 0)),(3,(.ptr 2 0 0 0)),(48,(ow 3 0 q3.1.cells)),(49,(i64 q29.1)),(53,(.ptr 3 0 (Int.toNat q29.1) 0)),(58,(i64 q31.1))],[⟨0,43,2,[[(ls AI s0_0),(i64 q31.2)]]⟩,⟨0,26,2,[[.zc,.zc]]⟩,⟨0,26,2,[[(ow 3 0 q3.1.cells),(ow 4 0 q3.1.pending)]]⟩,(ro 0 30 3 AA q3.1.cells),(ro 0 3 1 eI q3.1.pending)]⟩:=(hA32 _ _ _).2 (by
      refine AJ [7] U (by kernel_rfl) (by decide) ⟨?_,trivial⟩
      ·refine AH (i:=7) rfl U (by rfl) ?_
       refine zq tb U ?_
       refine AE ⟨U,?_⟩
       exact AD (AF (L:=[(2,(.ptr 1 0 0 0)),(3,(.ptr 2 0 0 0)),(48,(ow 3 0 q3.1.cells)),(49,(i64 q29.1)),(54,(.ptr 3 0 (Int.toNat q29.1) 0)),(58,(i64 q31.1))]) ⟨.rfl,.rfl,.rfl,.rfl,.rfl,.rfl,trivial⟩) (AG (by kernel_rfl) ((hA32 _ _ _).1 A32_012345679ab)) rfl)
     have A32_01234569a:A32 7 #[true,true,true,true,true,true,true,false,false,true,true,false,false,false,false,false] ⟨63,AM [(2,(.ptr 1 0 0 0)),(3,(.ptr 2 0 0 0)),(48,(ow 3 0 q3.1.cells)),(49,(i64 q29.1)),(53,(.ptr 3 0 (Int.toNat q29.1) 0)),(56,(.ptr 0 0 0 0)),(57,(ow 5 0 [(1:Int),-1]))],[⟨0,43,2,[[(ls AI s0_0),(i64 q29.2)]]⟩,⟨0,26,2,[[.zc,.zc]]⟩,⟨0,26,2,[[(ow 3 0 q3.1.cells),(ow 4 0 q3.1.pending)]]⟩,(ro 0 30 3 AA q3.1.cells),(ro 0 3 1 eI q3.1.pending),(ro 0 3 1 eI [(1:Int),-1])]⟩:=(hA32 _ _ _).2 (by
      refine AJ [7,11] U (by kernel_rfl) (by decide) ⟨?_,?_,trivial⟩
      ·refine AH (i:=7) rfl U (by rfl) ?_
       refine zq tb U ?_
       refine AE ⟨U,?_⟩
       exact AD (AF (L:=[(2,(.ptr 1 0 0 0)),(3,(.ptr 2 0 0 0)),(48,(ow 3 0 q3.1.cells)),(49,(i64 q29.1)),(54,(.ptr 3 0 (Int.toNat q29.1) 0)),(56,(.ptr 0 0 0 0)),(57,(ow 5 0 [(1:Int),-1]))]) ⟨.rfl,.rfl,.rfl,.rfl,.rfl,.rfl,.rfl,trivial⟩) (AG (by kernel_rfl) ((hA32 _ _ _).1 A32_012345679a)) rfl
      ·refine AH (i:=11) rfl U (by rfl) ?_
       refine Af (Wk.A2 (L:=[(2,(.ptr 1 0 0 0)),(3,(.ptr 2 0 0 0)),(48,(ow 3 0 q3.1.cells)),(49,(i64 q29.1)),(53,(.ptr 3 0 (Int.toNat q29.1) 0)),(56,(.ptr 0 0 0 0)),(57,(ls eI [(1:Int),-1]))]) (st':=[⟨0,43,2,[[(ls AI s0_0),(i64 q29.2)]]⟩,⟨0,26,2,[[.zc,.zc]]⟩,⟨0,26,2,[[(ow 3 0 q3.1.cells),(ow 4 0 q3.1.pending)]]⟩,(ro 0 30 3 AA q3.1.cells),(ro 0 3 1 eI q3.1.pending),⟨1,3,1,[]⟩]) (id:=5) rfl (show 1≤5 by decide) (AB fun _=>U) ⟨.rfl,.rfl,.rfl,.rfl,.rfl,.rfl,(.A2 U),trivial⟩ U) ?_
       refine Ad (rowsP:=[⟨0,43,2,[[(ls AI s0_0),(i64 q29.2)]]⟩]) (rows0:=[⟨0,43,2,[[(ls AI s0_0),(i64 q29.2)]]⟩]) (rows1:=[⟨0,43,2,[[(ls AI s0_0),(i64 q31.2)]]⟩]) (rows2:=[]) (rows1':=[⟨0,43,2,[[(ls AI s0_0),(i64 q31.2)]]⟩]) (rows2':=[]) (st':=[⟨0,43,2,[[(ls AI s0_0),(i64 q31.2)]]⟩,⟨0,26,2,[[.zc,.zc]]⟩,⟨0,26,2,[[(ow 3 0 q3.1.cells),(ow 4 0 q3.1.pending)]]⟩,(ro 0 30 3 AA q3.1.cells),(ro 0 3 1 eI q3.1.pending),⟨1,3,1,[]⟩]) (v':=(i64 q31.1)) [0] Ae EU (Ak gq31) rfl (by decide) rfl U (.raw U U .nil) rfl U (.raw U U .nil) .nil U U ?_
       refine AE ⟨U,?_⟩
       exact AD (by refine Wk.trans (AL (L:=[(2,(.ptr 1 0 0 0)),(3,(.ptr 2 0 0 0)),(48,(ow 3 0 q3.1.cells)),(49,(i64 q29.1)),(53,(.ptr 3 0 (Int.toNat q29.1) 0)),(58,(i64 q31.1))]) (st':=[⟨0,43,2,[[(ls AI s0_0),(i64 q31.2)]]⟩,⟨0,26,2,[[.zc,.zc]]⟩,⟨0,26,2,[[(ow 3 0 q3.1.cells),(ow 4 0 q3.1.pending)]]⟩,(ro 0 30 3 AA q3.1.cells),(ro 0 3 1 eI q3.1.pending)]) (st1:=[⟨0,43,2,[[(ls AI s0_0),(i64 q31.2)]]⟩,⟨0,26,2,[[.zc,.zc]]⟩,⟨0,26,2,[[(ow 3 0 q3.1.cells),(ow 4 0 q3.1.pending)]]⟩,(ro 0 30 3 AA q3.1.cells),(ro 0 3 1 eI q3.1.pending)]) [0,1,2,3,4] U (.raw U U .nil) (by decide) rfl U (.raw U U (.raw U U (.raw U U (.pure (AB fun _=>U) (.pure (AB fun _=>U) .nil))))) ⟨.rfl,.rfl,.rfl,.rfl,.rfl,.rfl,trivial⟩) ?_;exact AF (L:=[(2,(.ptr 1 0 0 0)),(3,(.ptr 2 0 0 0)),(48,(ow 3 0 q3.1.cells)),(49,(i64 q29.1)),(53,(.ptr 3 0 (Int.toNat q29.1) 0)),(58,(i64 q31.1))]) ⟨.rfl,.rfl,.rfl,.rfl,.rfl,.rfl,trivial⟩) (AG (by kernel_rfl) ((hA32 _ _ _).1 A32_01234569ab)) rfl)
     have A32_01234569:A32 8 #[true,true,true,true,true,true,true,false,false,true,false,false,false,false,false,false] ⟨63,AM [(2,(.ptr 1 0 0 0)),(3,(.ptr 2 0 0 0)),(48,(ow 3 0 q3.1.cells)),(49,(i64 q29.1)),(53,(.ptr 3 0 (Int.toNat q29.1) 0)),(56,(.ptr 0 0 0 0))],[⟨0,43,2,[[(ls AI s0_0),(i64 q29.2)]]⟩,⟨0,26,2,[[.zc,.zc]]⟩,⟨0,26,2,[[(ow 3 0 q3.1.cells),(ow 4 0 q3.1.pending)]]⟩,(ro 0 30 3 AA q3.1.cells),(ro 0 3 1 eI q3.1.pending)]⟩:=(hA32 _ _ _).2 (by
      refine AJ [7,10] U (by kernel_rfl) (by decide) ⟨?_,?_,trivial⟩
      ·refine AH (i:=7) rfl U (by rfl) ?_
       refine zq tb U ?_
       refine AE ⟨U,?_⟩
       exact AD (AF (L:=[(2,(.ptr 1 0 0 0)),(3,(.ptr 2 0 0 0)),(48,(ow 3 0 q3.1.cells)),(49,(i64 q29.1)),(54,(.ptr 3 0 (Int.toNat q29.1) 0)),(56,(.ptr 0 0 0 0))]) ⟨.rfl,.rfl,.rfl,.rfl,.rfl,.rfl,trivial⟩) (AG (by kernel_rfl) ((hA32 _ _ _).1 A32_012345679)) rfl
      ·refine AH (i:=10) rfl U (by rfl) ?_
       refine Bc (m:=5) (st':=[⟨0,43,2,[[(ls AI s0_0),(i64 q29.2)]]⟩,⟨0,26,2,[[.zc,.zc]]⟩,⟨0,26,2,[[(ow 3 0 q3.1.cells),(ow 4 0 q3.1.pending)]]⟩,(ro 0 30 3 AA q3.1.cells),(ro 0 3 1 eI q3.1.pending),(ro 0 3 1 eI [(1:Int),-1])]) (l:=[(1:Int),-1]) (enc:=eI) Ae Av (by decide) rfl U U U U U ?_
       refine AE ⟨U,?_⟩
       exact AD (AF (L:=[(2,(.ptr 1 0 0 0)),(3,(.ptr 2 0 0 0)),(48,(ow 3 0 q3.1.cells)),(49,(i64 q29.1)),(53,(.ptr 3 0 (Int.toNat q29.1) 0)),(56,(.ptr 0 0 0 0)),(57,(ow 5 0 [(1:Int),-1]))]) ⟨.rfl,.rfl,.rfl,.rfl,.rfl,.rfl,.rfl,trivial⟩) (AG (by kernel_rfl) ((hA32 _ _ _).1 A32_01234569a)) rfl)
     have A32_0123459ab:A32 7 #[true,true,true,true,true,true,false,false,false,true,true,true,false,false,false,false] ⟨63,AM [(2,(.ptr 1 0 0 0)),(3,(.ptr 2 0 0 0)),(48,(ow 3 0 q3.1.cells)),(49,(i64 q29.1)),(51,(ow 3 0 q3.1.cells)),(52,(i64 q29.1)),(58,(i64 q31.1))],[⟨0,43,2,[[(ls AI s0_0),(i64 q31.2)]]⟩,⟨0,26,2,[[.zc,.zc]]⟩,⟨0,26,2,[[(ow 3 0 q3.1.cells),(ow 4 0 q3.1.pending)]]⟩,(ro 0 30 3 AA q3.1.cells),(ro 0 3 1 eI q3.1.pending)]⟩:=(hA32 _ _ _).2 (by
      refine AJ [6] U (by kernel_rfl) (by decide) ⟨?_,trivial⟩
      ·refine AH (i:=6) rfl U (by rfl) ?_
       refine zz (.ptr 3 0 (Int.toNat q29.1) 0) (An A3 U U U U gc30) rfl ?_
       refine AE ⟨U,?_⟩
       exact AD (AF (L:=[(2,(.ptr 1 0 0 0)),(3,(.ptr 2 0 0 0)),(48,(ow 3 0 q3.1.cells)),(49,(i64 q29.1)),(53,(.ptr 3 0 (Int.toNat q29.1) 0)),(58,(i64 q31.1))]) ⟨.rfl,.rfl,.rfl,.rfl,.rfl,.rfl,trivial⟩) (AG (by kernel_rfl) ((hA32 _ _ _).1 A32_01234569ab)) rfl)
     have A32_0123459a:A32 8 #[true,true,true,true,true,true,false,false,false,true,true,false,false,false,false,false] ⟨63,AM [(2,(.ptr 1 0 0 0)),(3,(.ptr 2 0 0 0)),(48,(ow 3 0 q3.1.cells)),(49,(i64 q29.1)),(51,(ow 3 0 q3.1.cells)),(52,(i64 q29.1)),(56,(.ptr 0 0 0 0)),(57,(ow 5 0 [(1:Int),-1]))],[⟨0,43,2,[[(ls AI s0_0),(i64 q29.2)]]⟩,⟨0,26,2,[[.zc,.zc]]⟩,⟨0,26,2,[[(ow 3 0 q3.1.cells),(ow 4 0 q3.1.pending)]]⟩,(ro 0 30 3 AA q3.1.cells),(ro 0 3 1 eI q3.1.pending),(ro 0 3 1 eI [(1:Int),-1])]⟩:=(hA32 _ _ _).2 (by
      refine AJ [6,11] U (by kernel_rfl) (by decide) ⟨?_,?_,trivial⟩
      ·refine AH (i:=6) rfl U (by rfl) ?_
       refine zz (.ptr 3 0 (Int.toNat q29.1) 0) (An A3 U U U U gc30) rfl ?_
       refine AE ⟨U,?_⟩
       exact AD (AF (L:=[(2,(.ptr 1 0 0 0)),(3,(.ptr 2 0 0 0)),(48,(ow 3 0 q3.1.cells)),(49,(i64 q29.1)),(53,(.ptr 3 0 (Int.toNat q29.1) 0)),(56,(.ptr 0 0 0 0)),(57,(ow 5 0 [(1:Int),-1]))]) ⟨.rfl,.rfl,.rfl,.rfl,.rfl,.rfl,.rfl,trivial⟩) (AG (by kernel_rfl) ((hA32 _ _ _).1 A32_01234569a)) rfl
      ·refine AH (i:=11) rfl U (by rfl) ?_
       refine Af (Wk.A2 (L:=[(2,(.ptr 1 0 0 0)),(3,(.ptr 2 0 0 0)),(48,(ow 3 0 q3.1.cells)),(49,(i64 q29.1)),(51,(ow 3 0 q3.1.cells)),(52,(i64 q29.1)),(56,(.ptr 0 0 0 0)),(57,(ls eI [(1:Int),-1]))]) (st':=[⟨0,43,2,[[(ls AI s0_0),(i64 q29.2)]]⟩,⟨0,26,2,[[.zc,.zc]]⟩,⟨0,26,2,[[(ow 3 0 q3.1.cells),(ow 4 0 q3.1.pending)]]⟩,(ro 0 30 3 AA q3.1.cells),(ro 0 3 1 eI q3.1.pending),⟨1,3,1,[]⟩]) (id:=5) rfl (show 1≤5 by decide) (AB fun _=>U) ⟨.rfl,.rfl,.rfl,.rfl,.rfl,.rfl,.rfl,(.A2 U),trivial⟩ U) ?_
       refine Ad (rowsP:=[⟨0,43,2,[[(ls AI s0_0),(i64 q29.2)]]⟩]) (rows0:=[⟨0,43,2,[[(ls AI s0_0),(i64 q29.2)]]⟩]) (rows1:=[⟨0,43,2,[[(ls AI s0_0),(i64 q31.2)]]⟩]) (rows2:=[]) (rows1':=[⟨0,43,2,[[(ls AI s0_0),(i64 q31.2)]]⟩]) (rows2':=[]) (st':=[⟨0,43,2,[[(ls AI s0_0),(i64 q31.2)]]⟩,⟨0,26,2,[[.zc,.zc]]⟩,⟨0,26,2,[[(ow 3 0 q3.1.cells),(ow 4 0 q3.1.pending)]]⟩,(ro 0 30 3 AA q3.1.cells),(ro 0 3 1 eI q3.1.pending),⟨1,3,1,[]⟩]) (v':=(i64 q31.1)) [0] Ae EU (Ak gq31) rfl (by decide) rfl U (.raw U U .nil) rfl U (.raw U U .nil) .nil U U ?_
       refine AE ⟨U,?_⟩
       exact AD (by refine Wk.trans (AL (L:=[(2,(.ptr 1 0 0 0)),(3,(.ptr 2 0 0 0)),(48,(ow 3 0 q3.1.cells)),(49,(i64 q29.1)),(51,(ow 3 0 q3.1.cells)),(52,(i64 q29.1)),(58,(i64 q31.1))]) (st':=[⟨0,43,2,[[(ls AI s0_0),(i64 q31.2)]]⟩,⟨0,26,2,[[.zc,.zc]]⟩,⟨0,26,2,[[(ow 3 0 q3.1.cells),(ow 4 0 q3.1.pending)]]⟩,(ro 0 30 3 AA q3.1.cells),(ro 0 3 1 eI q3.1.pending)]) (st1:=[⟨0,43,2,[[(ls AI s0_0),(i64 q31.2)]]⟩,⟨0,26,2,[[.zc,.zc]]⟩,⟨0,26,2,[[(ow 3 0 q3.1.cells),(ow 4 0 q3.1.pending)]]⟩,(ro 0 30 3 AA q3.1.cells),(ro 0 3 1 eI q3.1.pending)]) [0,1,2,3,4] U (.raw U U .nil) (by decide) rfl U (.raw U U (.raw U U (.raw U U (.pure (AB fun _=>U) (.pure (AB fun _=>U) .nil))))) ⟨.rfl,.rfl,.rfl,.rfl,.rfl,.rfl,.rfl,trivial⟩) ?_;exact AF (L:=[(2,(.ptr 1 0 0 0)),(3,(.ptr 2 0 0 0)),(48,(ow 3 0 q3.1.cells)),(49,(i64 q29.1)),(51,(ow 3 0 q3.1.cells)),(52,(i64 q29.1)),(58,(i64 q31.1))]) ⟨.rfl,.rfl,.rfl,.rfl,.rfl,.rfl,.rfl,trivial⟩) (AG (by kernel_rfl) ((hA32 _ _ _).1 A32_0123459ab)) rfl)
     have A32_0123459:A32 9 #[true,true,true,true,true,true,false,false,false,true,false,false,false,false,false,false] ⟨63,AM [(2,(.ptr 1 0 0 0)),(3,(.ptr 2 0 0 0)),(48,(ow 3 0 q3.1.cells)),(49,(i64 q29.1)),(51,(ow 3 0 q3.1.cells)),(52,(i64 q29.1)),(56,(.ptr 0 0 0 0))],[⟨0,43,2,[[(ls AI s0_0),(i64 q29.2)]]⟩,⟨0,26,2,[[.zc,.zc]]⟩,⟨0,26,2,[[(ow 3 0 q3.1.cells),(ow 4 0 q3.1.pending)]]⟩,(ro 0 30 3 AA q3.1.cells),(ro 0 3 1 eI q3.1.pending)]⟩:=(hA32 _ _ _).2 (by
      refine AJ [6,10] U (by kernel_rfl) (by decide) ⟨?_,?_,trivial⟩
      ·refine AH (i:=6) rfl U (by rfl) ?_
       refine zz (.ptr 3 0 (Int.toNat q29.1) 0) (An A3 U U U U gc30) rfl ?_
       refine AE ⟨U,?_⟩
       exact AD (AF (L:=[(2,(.ptr 1 0 0 0)),(3,(.ptr 2 0 0 0)),(48,(ow 3 0 q3.1.cells)),(49,(i64 q29.1)),(53,(.ptr 3 0 (Int.toNat q29.1) 0)),(56,(.ptr 0 0 0 0))]) ⟨.rfl,.rfl,.rfl,.rfl,.rfl,.rfl,trivial⟩) (AG (by kernel_rfl) ((hA32 _ _ _).1 A32_01234569)) rfl
      ·refine AH (i:=10) rfl U (by rfl) ?_
       refine Bc (m:=5) (st':=[⟨0,43,2,[[(ls AI s0_0),(i64 q29.2)]]⟩,⟨0,26,2,[[.zc,.zc]]⟩,⟨0,26,2,[[(ow 3 0 q3.1.cells),(ow 4 0 q3.1.pending)]]⟩,(ro 0 30 3 AA q3.1.cells),(ro 0 3 1 eI q3.1.pending),(ro 0 3 1 eI [(1:Int),-1])]) (l:=[(1:Int),-1]) (enc:=eI) Ae Av (by decide) rfl U U U U U ?_
       refine AE ⟨U,?_⟩
       exact AD (AF (L:=[(2,(.ptr 1 0 0 0)),(3,(.ptr 2 0 0 0)),(48,(ow 3 0 q3.1.cells)),(49,(i64 q29.1)),(51,(ow 3 0 q3.1.cells)),(52,(i64 q29.1)),(56,(.ptr 0 0 0 0)),(57,(ow 5 0 [(1:Int),-1]))]) ⟨.rfl,.rfl,.rfl,.rfl,.rfl,.rfl,.rfl,.rfl,trivial⟩) (AG (by kernel_rfl) ((hA32 _ _ _).1 A32_0123459a)) rfl)
     have A32_012359ab:A32 8 #[true,true,true,true,false,true,false,false,false,true,true,true,false,false,false,false] ⟨63,AM [(2,(.ptr 1 0 0 0)),(3,(.ptr 2 0 0 0)),(48,(ow 3 0 q3.1.cells)),(49,(i64 q29.1)),(50,(.ptr 2 0 0 0)),(52,(i64 q29.1)),(58,(i64 q31.1))],[⟨0,43,2,[[(ls AI s0_0),(i64 q31.2)]]⟩,⟨0,26,2,[[.zc,.zc]]⟩,⟨0,26,2,[[(ow 3 0 q3.1.cells),(ow 4 0 q3.1.pending)]]⟩,(ro 0 30 3 AA q3.1.cells),(ro 0 3 1 eI q3.1.pending)]⟩:=(hA32 _ _ _).2 (by
      refine AJ [4] U (by kernel_rfl) (by decide) ⟨?_,trivial⟩
      ·refine AH (i:=4) rfl U (by rfl) ?_
       refine zq tb U ?_
       refine AE ⟨U,?_⟩
       exact AD (AF (L:=[(2,(.ptr 1 0 0 0)),(3,(.ptr 2 0 0 0)),(48,(ow 3 0 q3.1.cells)),(49,(i64 q29.1)),(51,(ow 3 0 q3.1.cells)),(52,(i64 q29.1)),(58,(i64 q31.1))]) ⟨.rfl,.rfl,.rfl,.rfl,.rfl,.rfl,.rfl,trivial⟩) (AG (by kernel_rfl) ((hA32 _ _ _).1 A32_0123459ab)) rfl)
     have A32_012359a:A32 9 #[true,true,true,true,false,true,false,false,false,true,true,false,false,false,false,false] ⟨63,AM [(2,(.ptr 1 0 0 0)),(3,(.ptr 2 0 0 0)),(48,(ow 3 0 q3.1.cells)),(49,(i64 q29.1)),(50,(.ptr 2 0 0 0)),(52,(i64 q29.1)),(56,(.ptr 0 0 0 0)),(57,(ow 5 0 [(1:Int),-1]))],[⟨0,43,2,[[(ls AI s0_0),(i64 q29.2)]]⟩,⟨0,26,2,[[.zc,.zc]]⟩,⟨0,26,2,[[(ow 3 0 q3.1.cells),(ow 4 0 q3.1.pending)]]⟩,(ro 0 30 3 AA q3.1.cells),(ro 0 3 1 eI q3.1.pending),(ro 0 3 1 eI [(1:Int),-1])]⟩:=(hA32 _ _ _).2 (by
      refine AJ [4,11] U (by kernel_rfl) (by decide) ⟨?_,?_,trivial⟩
      ·refine AH (i:=4) rfl U (by rfl) ?_
       refine zq tb U ?_
       refine AE ⟨U,?_⟩
       exact AD (AF (L:=[(2,(.ptr 1 0 0 0)),(3,(.ptr 2 0 0 0)),(48,(ow 3 0 q3.1.cells)),(49,(i64 q29.1)),(51,(ow 3 0 q3.1.cells)),(52,(i64 q29.1)),(56,(.ptr 0 0 0 0)),(57,(ow 5 0 [(1:Int),-1]))]) ⟨.rfl,.rfl,.rfl,.rfl,.rfl,.rfl,.rfl,.rfl,trivial⟩) (AG (by kernel_rfl) ((hA32 _ _ _).1 A32_0123459a)) rfl
      ·refine AH (i:=11) rfl U (by rfl) ?_
       refine Af (Wk.A2 (L:=[(2,(.ptr 1 0 0 0)),(3,(.ptr 2 0 0 0)),(48,(ow 3 0 q3.1.cells)),(49,(i64 q29.1)),(50,(.ptr 2 0 0 0)),(52,(i64 q29.1)),(56,(.ptr 0 0 0 0)),(57,(ls eI [(1:Int),-1]))]) (st':=[⟨0,43,2,[[(ls AI s0_0),(i64 q29.2)]]⟩,⟨0,26,2,[[.zc,.zc]]⟩,⟨0,26,2,[[(ow 3 0 q3.1.cells),(ow 4 0 q3.1.pending)]]⟩,(ro 0 30 3 AA q3.1.cells),(ro 0 3 1 eI q3.1.pending),⟨1,3,1,[]⟩]) (id:=5) rfl (show 1≤5 by decide) (AB fun _=>U) ⟨.rfl,.rfl,.rfl,.rfl,.rfl,.rfl,.rfl,(.A2 U),trivial⟩ U) ?_
       refine Ad (rowsP:=[⟨0,43,2,[[(ls AI s0_0),(i64 q29.2)]]⟩]) (rows0:=[⟨0,43,2,[[(ls AI s0_0),(i64 q29.2)]]⟩]) (rows1:=[⟨0,43,2,[[(ls AI s0_0),(i64 q31.2)]]⟩]) (rows2:=[]) (rows1':=[⟨0,43,2,[[(ls AI s0_0),(i64 q31.2)]]⟩]) (rows2':=[]) (st':=[⟨0,43,2,[[(ls AI s0_0),(i64 q31.2)]]⟩,⟨0,26,2,[[.zc,.zc]]⟩,⟨0,26,2,[[(ow 3 0 q3.1.cells),(ow 4 0 q3.1.pending)]]⟩,(ro 0 30 3 AA q3.1.cells),(ro 0 3 1 eI q3.1.pending),⟨1,3,1,[]⟩]) (v':=(i64 q31.1)) [0] Ae EU (Ak gq31) rfl (by decide) rfl U (.raw U U .nil) rfl U (.raw U U .nil) .nil U U ?_
       refine AE ⟨U,?_⟩
       exact AD (by refine Wk.trans (AL (L:=[(2,(.ptr 1 0 0 0)),(3,(.ptr 2 0 0 0)),(48,(ow 3 0 q3.1.cells)),(49,(i64 q29.1)),(50,(.ptr 2 0 0 0)),(52,(i64 q29.1)),(58,(i64 q31.1))]) (st':=[⟨0,43,2,[[(ls AI s0_0),(i64 q31.2)]]⟩,⟨0,26,2,[[.zc,.zc]]⟩,⟨0,26,2,[[(ow 3 0 q3.1.cells),(ow 4 0 q3.1.pending)]]⟩,(ro 0 30 3 AA q3.1.cells),(ro 0 3 1 eI q3.1.pending)]) (st1:=[⟨0,43,2,[[(ls AI s0_0),(i64 q31.2)]]⟩,⟨0,26,2,[[.zc,.zc]]⟩,⟨0,26,2,[[(ow 3 0 q3.1.cells),(ow 4 0 q3.1.pending)]]⟩,(ro 0 30 3 AA q3.1.cells),(ro 0 3 1 eI q3.1.pending)]) [0,1,2,3,4] U (.raw U U .nil) (by decide) rfl U (.raw U U (.raw U U (.raw U U (.pure (AB fun _=>U) (.pure (AB fun _=>U) .nil))))) ⟨.rfl,.rfl,.rfl,.rfl,.rfl,.rfl,.rfl,trivial⟩) ?_;exact AF (L:=[(2,(.ptr 1 0 0 0)),(3,(.ptr 2 0 0 0)),(48,(ow 3 0 q3.1.cells)),(49,(i64 q29.1)),(50,(.ptr 2 0 0 0)),(52,(i64 q29.1)),(58,(i64 q31.1))]) ⟨.rfl,.rfl,.rfl,.rfl,.rfl,.rfl,.rfl,trivial⟩) (AG (by kernel_rfl) ((hA32 _ _ _).1 A32_012359ab)) rfl)
     have A32_012359:A32 10 #[true,true,true,true,false,true,false,false,false,true,false,false,false,false,false,false] ⟨63,AM [(2,(.ptr 1 0 0 0)),(3,(.ptr 2 0 0 0)),(48,(ow 3 0 q3.1.cells)),(49,(i64 q29.1)),(50,(.ptr 2 0 0 0)),(52,(i64 q29.1)),(56,(.ptr 0 0 0 0))],[⟨0,43,2,[[(ls AI s0_0),(i64 q29.2)]]⟩,⟨0,26,2,[[.zc,.zc]]⟩,⟨0,26,2,[[(ow 3 0 q3.1.cells),(ow 4 0 q3.1.pending)]]⟩,(ro 0 30 3 AA q3.1.cells),(ro 0 3 1 eI q3.1.pending)]⟩:=(hA32 _ _ _).2 (by
      refine AJ [4,10] U (by kernel_rfl) (by decide) ⟨?_,?_,trivial⟩
      ·refine AH (i:=4) rfl U (by rfl) ?_
       refine zq tb U ?_
       refine AE ⟨U,?_⟩
       exact AD (AF (L:=[(2,(.ptr 1 0 0 0)),(3,(.ptr 2 0 0 0)),(48,(ow 3 0 q3.1.cells)),(49,(i64 q29.1)),(51,(ow 3 0 q3.1.cells)),(52,(i64 q29.1)),(56,(.ptr 0 0 0 0))]) ⟨.rfl,.rfl,.rfl,.rfl,.rfl,.rfl,.rfl,trivial⟩) (AG (by kernel_rfl) ((hA32 _ _ _).1 A32_0123459)) rfl
      ·refine AH (i:=10) rfl U (by rfl) ?_
       refine Bc (m:=5) (st':=[⟨0,43,2,[[(ls AI s0_0),(i64 q29.2)]]⟩,⟨0,26,2,[[.zc,.zc]]⟩,⟨0,26,2,[[(ow 3 0 q3.1.cells),(ow 4 0 q3.1.pending)]]⟩,(ro 0 30 3 AA q3.1.cells),(ro 0 3 1 eI q3.1.pending),(ro 0 3 1 eI [(1:Int),-1])]) (l:=[(1:Int),-1]) (enc:=eI) Ae Av (by decide) rfl U U U U U ?_
       refine AE ⟨U,?_⟩
       exact AD (AF (L:=[(2,(.ptr 1 0 0 0)),(3,(.ptr 2 0 0 0)),(48,(ow 3 0 q3.1.cells)),(49,(i64 q29.1)),(50,(.ptr 2 0 0 0)),(52,(i64 q29.1)),(56,(.ptr 0 0 0 0)),(57,(ow 5 0 [(1:Int),-1]))]) ⟨.rfl,.rfl,.rfl,.rfl,.rfl,.rfl,.rfl,.rfl,trivial⟩) (AG (by kernel_rfl) ((hA32 _ _ _).1 A32_012359a)) rfl)
     have A32_01259ab:A32 9 #[true,true,true,false,false,true,false,false,false,true,true,true,false,false,false,false] ⟨63,AM [(2,(.ptr 1 0 0 0)),(3,(.ptr 2 0 0 0)),(48,(ow 3 0 q3.1.cells)),(49,(i64 q29.1)),(52,(i64 q29.1)),(58,(i64 q31.1))],[⟨0,43,2,[[(ls AI s0_0),(i64 q31.2)]]⟩,⟨0,26,2,[[.zc,.zc]]⟩,⟨0,26,2,[[(ow 3 0 q3.1.cells),(ow 4 0 q3.1.pending)]]⟩,(ro 0 30 3 AA q3.1.cells),(ro 0 3 1 eI q3.1.pending)]⟩:=(hA32 _ _ _).2 (by
      refine AJ [3] U (by kernel_rfl) (by decide) ⟨?_,trivial⟩
      ·refine AH (i:=3) rfl U (by rfl) ?_
       refine zq tb U ?_
       refine AE ⟨U,?_⟩
       exact AD (AF (L:=[(2,(.ptr 1 0 0 0)),(3,(.ptr 2 0 0 0)),(48,(ow 3 0 q3.1.cells)),(49,(i64 q29.1)),(50,(.ptr 2 0 0 0)),(52,(i64 q29.1)),(58,(i64 q31.1))]) ⟨.rfl,.rfl,.rfl,.rfl,.rfl,.rfl,.rfl,trivial⟩) (AG (by kernel_rfl) ((hA32 _ _ _).1 A32_012359ab)) rfl)
     have A32_01259a:A32 10 #[true,true,true,false,false,true,false,false,false,true,true,false,false,false,false,false] ⟨63,AM [(2,(.ptr 1 0 0 0)),(3,(.ptr 2 0 0 0)),(48,(ow 3 0 q3.1.cells)),(49,(i64 q29.1)),(52,(i64 q29.1)),(56,(.ptr 0 0 0 0)),(57,(ow 5 0 [(1:Int),-1]))],[⟨0,43,2,[[(ls AI s0_0),(i64 q29.2)]]⟩,⟨0,26,2,[[.zc,.zc]]⟩,⟨0,26,2,[[(ow 3 0 q3.1.cells),(ow 4 0 q3.1.pending)]]⟩,(ro 0 30 3 AA q3.1.cells),(ro 0 3 1 eI q3.1.pending),(ro 0 3 1 eI [(1:Int),-1])]⟩:=(hA32 _ _ _).2 (by
      refine AJ [3,11] U (by kernel_rfl) (by decide) ⟨?_,?_,trivial⟩
      ·refine AH (i:=3) rfl U (by rfl) ?_
       refine zq tb U ?_
       refine AE ⟨U,?_⟩
       exact AD (AF (L:=[(2,(.ptr 1 0 0 0)),(3,(.ptr 2 0 0 0)),(48,(ow 3 0 q3.1.cells)),(49,(i64 q29.1)),(50,(.ptr 2 0 0 0)),(52,(i64 q29.1)),(56,(.ptr 0 0 0 0)),(57,(ow 5 0 [(1:Int),-1]))]) ⟨.rfl,.rfl,.rfl,.rfl,.rfl,.rfl,.rfl,.rfl,trivial⟩) (AG (by kernel_rfl) ((hA32 _ _ _).1 A32_012359a)) rfl
      ·refine AH (i:=11) rfl U (by rfl) ?_
       refine Af (Wk.A2 (L:=[(2,(.ptr 1 0 0 0)),(3,(.ptr 2 0 0 0)),(48,(ow 3 0 q3.1.cells)),(49,(i64 q29.1)),(52,(i64 q29.1)),(56,(.ptr 0 0 0 0)),(57,(ls eI [(1:Int),-1]))]) (st':=[⟨0,43,2,[[(ls AI s0_0),(i64 q29.2)]]⟩,⟨0,26,2,[[.zc,.zc]]⟩,⟨0,26,2,[[(ow 3 0 q3.1.cells),(ow 4 0 q3.1.pending)]]⟩,(ro 0 30 3 AA q3.1.cells),(ro 0 3 1 eI q3.1.pending),⟨1,3,1,[]⟩]) (id:=5) rfl (show 1≤5 by decide) (AB fun _=>U) ⟨.rfl,.rfl,.rfl,.rfl,.rfl,.rfl,(.A2 U),trivial⟩ U) ?_
       refine Ad (rowsP:=[⟨0,43,2,[[(ls AI s0_0),(i64 q29.2)]]⟩]) (rows0:=[⟨0,43,2,[[(ls AI s0_0),(i64 q29.2)]]⟩]) (rows1:=[⟨0,43,2,[[(ls AI s0_0),(i64 q31.2)]]⟩]) (rows2:=[]) (rows1':=[⟨0,43,2,[[(ls AI s0_0),(i64 q31.2)]]⟩]) (rows2':=[]) (st':=[⟨0,43,2,[[(ls AI s0_0),(i64 q31.2)]]⟩,⟨0,26,2,[[.zc,.zc]]⟩,⟨0,26,2,[[(ow 3 0 q3.1.cells),(ow 4 0 q3.1.pending)]]⟩,(ro 0 30 3 AA q3.1.cells),(ro 0 3 1 eI q3.1.pending),⟨1,3,1,[]⟩]) (v':=(i64 q31.1)) [0] Ae EU (Ak gq31) rfl (by decide) rfl U (.raw U U .nil) rfl U (.raw U U .nil) .nil U U ?_
       refine AE ⟨U,?_⟩
       exact AD (by refine Wk.trans (AL (L:=[(2,(.ptr 1 0 0 0)),(3,(.ptr 2 0 0 0)),(48,(ow 3 0 q3.1.cells)),(49,(i64 q29.1)),(52,(i64 q29.1)),(58,(i64 q31.1))]) (st':=[⟨0,43,2,[[(ls AI s0_0),(i64 q31.2)]]⟩,⟨0,26,2,[[.zc,.zc]]⟩,⟨0,26,2,[[(ow 3 0 q3.1.cells),(ow 4 0 q3.1.pending)]]⟩,(ro 0 30 3 AA q3.1.cells),(ro 0 3 1 eI q3.1.pending)]) (st1:=[⟨0,43,2,[[(ls AI s0_0),(i64 q31.2)]]⟩,⟨0,26,2,[[.zc,.zc]]⟩,⟨0,26,2,[[(ow 3 0 q3.1.cells),(ow 4 0 q3.1.pending)]]⟩,(ro 0 30 3 AA q3.1.cells),(ro 0 3 1 eI q3.1.pending)]) [0,1,2,3,4] U (.raw U U .nil) (by decide) rfl U (.raw U U (.raw U U (.raw U U (.pure (AB fun _=>U) (.pure (AB fun _=>U) .nil))))) ⟨.rfl,.rfl,.rfl,.rfl,.rfl,.rfl,trivial⟩) ?_;exact AF (L:=[(2,(.ptr 1 0 0 0)),(3,(.ptr 2 0 0 0)),(48,(ow 3 0 q3.1.cells)),(49,(i64 q29.1)),(52,(i64 q29.1)),(58,(i64 q31.1))]) ⟨.rfl,.rfl,.rfl,.rfl,.rfl,.rfl,trivial⟩) (AG (by kernel_rfl) ((hA32 _ _ _).1 A32_01259ab)) rfl)
     have A32_01259:A32 11 #[true,true,true,false,false,true,false,false,false,true,false,false,false,false,false,false] ⟨63,AM [(2,(.ptr 1 0 0 0)),(3,(.ptr 2 0 0 0)),(48,(ow 3 0 q3.1.cells)),(49,(i64 q29.1)),(52,(i64 q29.1)),(56,(.ptr 0 0 0 0))],[⟨0,43,2,[[(ls AI s0_0),(i64 q29.2)]]⟩,⟨0,26,2,[[.zc,.zc]]⟩,⟨0,26,2,[[(ow 3 0 q3.1.cells),(ow 4 0 q3.1.pending)]]⟩,(ro 0 30 3 AA q3.1.cells),(ro 0 3 1 eI q3.1.pending)]⟩:=(hA32 _ _ _).2 (by
      refine AJ [3,10] U (by kernel_rfl) (by decide) ⟨?_,?_,trivial⟩
      ·refine AH (i:=3) rfl U (by rfl) ?_
       refine zq tb U ?_
       refine AE ⟨U,?_⟩
       exact AD (AF (L:=[(2,(.ptr 1 0 0 0)),(3,(.ptr 2 0 0 0)),(48,(ow 3 0 q3.1.cells)),(49,(i64 q29.1)),(50,(.ptr 2 0 0 0)),(52,(i64 q29.1)),(56,(.ptr 0 0 0 0))]) ⟨.rfl,.rfl,.rfl,.rfl,.rfl,.rfl,.rfl,trivial⟩) (AG (by kernel_rfl) ((hA32 _ _ _).1 A32_012359)) rfl
      ·refine AH (i:=10) rfl U (by rfl) ?_
       refine Bc (m:=5) (st':=[⟨0,43,2,[[(ls AI s0_0),(i64 q29.2)]]⟩,⟨0,26,2,[[.zc,.zc]]⟩,⟨0,26,2,[[(ow 3 0 q3.1.cells),(ow 4 0 q3.1.pending)]]⟩,(ro 0 30 3 AA q3.1.cells),(ro 0 3 1 eI q3.1.pending),(ro 0 3 1 eI [(1:Int),-1])]) (l:=[(1:Int),-1]) (enc:=eI) Ae Av (by decide) rfl U U U U U ?_
       refine AE ⟨U,?_⟩
       exact AD (AF (L:=[(2,(.ptr 1 0 0 0)),(3,(.ptr 2 0 0 0)),(48,(ow 3 0 q3.1.cells)),(49,(i64 q29.1)),(52,(i64 q29.1)),(56,(.ptr 0 0 0 0)),(57,(ow 5 0 [(1:Int),-1]))]) ⟨.rfl,.rfl,.rfl,.rfl,.rfl,.rfl,.rfl,trivial⟩) (AG (by kernel_rfl) ((hA32 _ _ _).1 A32_01259a)) rfl)
     have A32_023456789abc:A32 4 #[true,false,true,true,true,true,true,true,true,true,true,true,true,false,false,false] ⟨63,AM [(2,(.ptr 1 0 0 0)),(3,(.ptr 2 0 0 0)),(47,(.ptr 2 0 0 0)),(49,(i64 q29.1)),(59,(i64 (Sh.w (c30.count+q31.1))))],[⟨0,43,2,[[(ls AI s0_0),(i64 q31.2)]]⟩,⟨0,26,2,[[.zc,.zc]]⟩,⟨0,26,2,[[(ow 3 0 q3.1.cells),(ow 4 0 q3.1.pending)]]⟩,(ro 0 30 3 AA q3.1.cells),(ro 0 3 1 eI q3.1.pending)]⟩:=(hA32 _ _ _).2 (by
      refine AJ [1] U (by kernel_rfl) (by decide) ⟨?_,trivial⟩
      ·refine AH (i:=1) rfl U (by rfl) ?_
       refine zq tb U ?_
       refine AE ⟨U,?_⟩
       exact AD (AF (L:=[(2,(.ptr 1 0 0 0)),(3,(.ptr 2 0 0 0)),(48,(ow 3 0 q3.1.cells)),(49,(i64 q29.1)),(59,(i64 (Sh.w (c30.count+q31.1))))]) ⟨.rfl,.rfl,.rfl,.rfl,.rfl,trivial⟩) (AG (by kernel_rfl) ((hA32 _ _ _).1 A32_0123456789abc)) rfl)
     have A32_023456789ab:A32 5 #[true,false,true,true,true,true,true,true,true,true,true,true,false,false,false,false] ⟨63,AM [(2,(.ptr 1 0 0 0)),(3,(.ptr 2 0 0 0)),(47,(.ptr 2 0 0 0)),(49,(i64 q29.1)),(55,(i64 c30.count)),(58,(i64 q31.1))],[⟨0,43,2,[[(ls AI s0_0),(i64 q31.2)]]⟩,⟨0,26,2,[[.zc,.zc]]⟩,⟨0,26,2,[[(ow 3 0 q3.1.cells),(ow 4 0 q3.1.pending)]]⟩,(ro 0 30 3 AA q3.1.cells),(ro 0 3 1 eI q3.1.pending)]⟩:=(hA32 _ _ _).2 (by
      refine AJ [1,12] U (by kernel_rfl) (by decide) ⟨?_,?_,trivial⟩
      ·refine AH (i:=1) rfl U (by rfl) ?_
       refine zq tb U ?_
       refine AE ⟨U,?_⟩
       exact AD (AF (L:=[(2,(.ptr 1 0 0 0)),(3,(.ptr 2 0 0 0)),(48,(ow 3 0 q3.1.cells)),(49,(i64 q29.1)),(55,(i64 c30.count)),(58,(i64 q31.1))]) ⟨.rfl,.rfl,.rfl,.rfl,.rfl,.rfl,trivial⟩) (AG (by kernel_rfl) ((hA32 _ _ _).1 A32_0123456789ab)) rfl
      ·refine AH (i:=12) rfl U (by rfl) ?_
       refine zq tb U ?_
       refine AE ⟨U,?_⟩
       exact AD (AF (L:=[(2,(.ptr 1 0 0 0)),(3,(.ptr 2 0 0 0)),(47,(.ptr 2 0 0 0)),(49,(i64 q29.1)),(59,(i64 (Sh.w (c30.count+q31.1))))]) ⟨.rfl,.rfl,.rfl,.rfl,.rfl,trivial⟩) (AG (by kernel_rfl) ((hA32 _ _ _).1 A32_023456789abc)) rfl)
     have A32_023456789a:A32 6 #[true,false,true,true,true,true,true,true,true,true,true,false,false,false,false,false] ⟨63,AM [(2,(.ptr 1 0 0 0)),(3,(.ptr 2 0 0 0)),(47,(.ptr 2 0 0 0)),(49,(i64 q29.1)),(55,(i64 c30.count)),(56,(.ptr 0 0 0 0)),(57,(ow 5 0 [(1:Int),-1]))],[⟨0,43,2,[[(ls AI s0_0),(i64 q29.2)]]⟩,⟨0,26,2,[[.zc,.zc]]⟩,⟨0,26,2,[[(ow 3 0 q3.1.cells),(ow 4 0 q3.1.pending)]]⟩,(ro 0 30 3 AA q3.1.cells),(ro 0 3 1 eI q3.1.pending),(ro 0 3 1 eI [(1:Int),-1])]⟩:=(hA32 _ _ _).2 (by
      refine AJ [1,11] U (by kernel_rfl) (by decide) ⟨?_,?_,trivial⟩
      ·refine AH (i:=1) rfl U (by rfl) ?_
       refine zq tb U ?_
       refine AE ⟨U,?_⟩
       exact AD (AF (L:=[(2,(.ptr 1 0 0 0)),(3,(.ptr 2 0 0 0)),(48,(ow 3 0 q3.1.cells)),(49,(i64 q29.1)),(55,(i64 c30.count)),(56,(.ptr 0 0 0 0)),(57,(ow 5 0 [(1:Int),-1]))]) ⟨.rfl,.rfl,.rfl,.rfl,.rfl,.rfl,.rfl,trivial⟩) (AG (by kernel_rfl) ((hA32 _ _ _).1 A32_0123456789a)) rfl
      ·refine AH (i:=11) rfl U (by rfl) ?_
       refine Af (Wk.A2 (L:=[(2,(.ptr 1 0 0 0)),(3,(.ptr 2 0 0 0)),(47,(.ptr 2 0 0 0)),(49,(i64 q29.1)),(55,(i64 c30.count)),(56,(.ptr 0 0 0 0)),(57,(ls eI [(1:Int),-1]))]) (st':=[⟨0,43,2,[[(ls AI s0_0),(i64 q29.2)]]⟩,⟨0,26,2,[[.zc,.zc]]⟩,⟨0,26,2,[[(ow 3 0 q3.1.cells),(ow 4 0 q3.1.pending)]]⟩,(ro 0 30 3 AA q3.1.cells),(ro 0 3 1 eI q3.1.pending),⟨1,3,1,[]⟩]) (id:=5) rfl (show 1≤5 by decide) (AB fun _=>U) ⟨.rfl,.rfl,.rfl,.rfl,.rfl,.rfl,(.A2 U),trivial⟩ U) ?_
       refine Ad (rowsP:=[⟨0,43,2,[[(ls AI s0_0),(i64 q29.2)]]⟩]) (rows0:=[⟨0,43,2,[[(ls AI s0_0),(i64 q29.2)]]⟩]) (rows1:=[⟨0,43,2,[[(ls AI s0_0),(i64 q31.2)]]⟩]) (rows2:=[]) (rows1':=[⟨0,43,2,[[(ls AI s0_0),(i64 q31.2)]]⟩]) (rows2':=[]) (st':=[⟨0,43,2,[[(ls AI s0_0),(i64 q31.2)]]⟩,⟨0,26,2,[[.zc,.zc]]⟩,⟨0,26,2,[[(ow 3 0 q3.1.cells),(ow 4 0 q3.1.pending)]]⟩,(ro 0 30 3 AA q3.1.cells),(ro 0 3 1 eI q3.1.pending),⟨1,3,1,[]⟩]) (v':=(i64 q31.1)) [0] Ae EU (Ak gq31) rfl (by decide) rfl U (.raw U U .nil) rfl U (.raw U U .nil) .nil U U ?_
       refine AE ⟨U,?_⟩
       exact AD (by refine Wk.trans (AL (L:=[(2,(.ptr 1 0 0 0)),(3,(.ptr 2 0 0 0)),(47,(.ptr 2 0 0 0)),(49,(i64 q29.1)),(55,(i64 c30.count)),(58,(i64 q31.1))]) (st':=[⟨0,43,2,[[(ls AI s0_0),(i64 q31.2)]]⟩,⟨0,26,2,[[.zc,.zc]]⟩,⟨0,26,2,[[(ow 3 0 q3.1.cells),(ow 4 0 q3.1.pending)]]⟩,(ro 0 30 3 AA q3.1.cells),(ro 0 3 1 eI q3.1.pending)]) (st1:=[⟨0,43,2,[[(ls AI s0_0),(i64 q31.2)]]⟩,⟨0,26,2,[[.zc,.zc]]⟩,⟨0,26,2,[[(ow 3 0 q3.1.cells),(ow 4 0 q3.1.pending)]]⟩,(ro 0 30 3 AA q3.1.cells),(ro 0 3 1 eI q3.1.pending)]) [0,1,2,3,4] U (.raw U U .nil) (by decide) rfl U (.raw U U (.raw U U (.raw U U (.pure (AB fun _=>U) (.pure (AB fun _=>U) .nil))))) ⟨.rfl,.rfl,.rfl,.rfl,.rfl,.rfl,trivial⟩) ?_;exact AF (L:=[(2,(.ptr 1 0 0 0)),(3,(.ptr 2 0 0 0)),(47,(.ptr 2 0 0 0)),(49,(i64 q29.1)),(55,(i64 c30.count)),(58,(i64 q31.1))]) ⟨.rfl,.rfl,.rfl,.rfl,.rfl,.rfl,trivial⟩) (AG (by kernel_rfl) ((hA32 _ _ _).1 A32_023456789ab)) rfl)
     have A32_023456789:A32 7 #[true,false,true,true,true,true,true,true,true,true,false,false,false,false,false,false] ⟨63,AM [(2,(.ptr 1 0 0 0)),(3,(.ptr 2 0 0 0)),(47,(.ptr 2 0 0 0)),(49,(i64 q29.1)),(55,(i64 c30.count)),(56,(.ptr 0 0 0 0))],[⟨0,43,2,[[(ls AI s0_0),(i64 q29.2)]]⟩,⟨0,26,2,[[.zc,.zc]]⟩,⟨0,26,2,[[(ow 3 0 q3.1.cells),(ow 4 0 q3.1.pending)]]⟩,(ro 0 30 3 AA q3.1.cells),(ro 0 3 1 eI q3.1.pending)]⟩:=(hA32 _ _ _).2 (by
      refine AJ [1,10] U (by kernel_rfl) (by decide) ⟨?_,?_,trivial⟩
      ·refine AH (i:=1) rfl U (by rfl) ?_
       refine zq tb U ?_
       refine AE ⟨U,?_⟩
       exact AD (AF (L:=[(2,(.ptr 1 0 0 0)),(3,(.ptr 2 0 0 0)),(48,(ow 3 0 q3.1.cells)),(49,(i64 q29.1)),(55,(i64 c30.count)),(56,(.ptr 0 0 0 0))]) ⟨.rfl,.rfl,.rfl,.rfl,.rfl,.rfl,trivial⟩) (AG (by kernel_rfl) ((hA32 _ _ _).1 A32_0123456789)) rfl
      ·refine AH (i:=10) rfl U (by rfl) ?_
       refine Bc (m:=5) (st':=[⟨0,43,2,[[(ls AI s0_0),(i64 q29.2)]]⟩,⟨0,26,2,[[.zc,.zc]]⟩,⟨0,26,2,[[(ow 3 0 q3.1.cells),(ow 4 0 q3.1.pending)]]⟩,(ro 0 30 3 AA q3.1.cells),(ro 0 3 1 eI q3.1.pending),(ro 0 3 1 eI [(1:Int),-1])]) (l:=[(1:Int),-1]) (enc:=eI) Ae Av (by decide) rfl U U U U U ?_
       refine AE ⟨U,?_⟩
       exact AD (AF (L:=[(2,(.ptr 1 0 0 0)),(3,(.ptr 2 0 0 0)),(47,(.ptr 2 0 0 0)),(49,(i64 q29.1)),(55,(i64 c30.count)),(56,(.ptr 0 0 0 0)),(57,(ow 5 0 [(1:Int),-1]))]) ⟨.rfl,.rfl,.rfl,.rfl,.rfl,.rfl,.rfl,trivial⟩) (AG (by kernel_rfl) ((hA32 _ _ _).1 A32_023456789a)) rfl)
     have A32_02345679ab:A32 6 #[true,false,true,true,true,true,true,true,false,true,true,true,false,false,false,false] ⟨63,AM [(2,(.ptr 1 0 0 0)),(3,(.ptr 2 0 0 0)),(47,(.ptr 2 0 0 0)),(49,(i64 q29.1)),(54,(.ptr 3 0 (Int.toNat q29.1) 0)),(58,(i64 q31.1))],[⟨0,43,2,[[(ls AI s0_0),(i64 q31.2)]]⟩,⟨0,26,2,[[.zc,.zc]]⟩,⟨0,26,2,[[(ow 3 0 q3.1.cells),(ow 4 0 q3.1.pending)]]⟩,(ro 0 30 3 AA q3.1.cells),(ro 0 3 1 eI q3.1.pending)]⟩:=(hA32 _ _ _).2 (by
      refine AJ [1,8] U (by kernel_rfl) (by decide) ⟨?_,?_,trivial⟩
      ·refine AH (i:=1) rfl U (by rfl) ?_
       refine zq tb U ?_
       refine AE ⟨U,?_⟩
       exact AD (AF (L:=[(2,(.ptr 1 0 0 0)),(3,(.ptr 2 0 0 0)),(48,(ow 3 0 q3.1.cells)),(49,(i64 q29.1)),(54,(.ptr 3 0 (Int.toNat q29.1) 0)),(58,(i64 q31.1))]) ⟨.rfl,.rfl,.rfl,.rfl,.rfl,.rfl,trivial⟩) (AG (by kernel_rfl) ((hA32 _ _ _).1 A32_012345679ab)) rfl
      ·refine AH (i:=8) rfl U (by rfl) ?_
       refine zz (i64 c30.count) (Aw CM U U (Am gc30) rfl) rfl ?_
       refine AE ⟨U,?_⟩
       exact AD (AF (L:=[(2,(.ptr 1 0 0 0)),(3,(.ptr 2 0 0 0)),(47,(.ptr 2 0 0 0)),(49,(i64 q29.1)),(55,(i64 c30.count)),(58,(i64 q31.1))]) ⟨.rfl,.rfl,.rfl,.rfl,.rfl,.rfl,trivial⟩) (AG (by kernel_rfl) ((hA32 _ _ _).1 A32_023456789ab)) rfl)
     have A32_02345679a:A32 7 #[true,false,true,true,true,true,true,true,false,true,true,false,false,false,false,false] ⟨63,AM [(2,(.ptr 1 0 0 0)),(3,(.ptr 2 0 0 0)),(47,(.ptr 2 0 0 0)),(49,(i64 q29.1)),(54,(.ptr 3 0 (Int.toNat q29.1) 0)),(56,(.ptr 0 0 0 0)),(57,(ow 5 0 [(1:Int),-1]))],[⟨0,43,2,[[(ls AI s0_0),(i64 q29.2)]]⟩,⟨0,26,2,[[.zc,.zc]]⟩,⟨0,26,2,[[(ow 3 0 q3.1.cells),(ow 4 0 q3.1.pending)]]⟩,(ro 0 30 3 AA q3.1.cells),(ro 0 3 1 eI q3.1.pending),(ro 0 3 1 eI [(1:Int),-1])]⟩:=(hA32 _ _ _).2 (by
      refine AJ [1,8,11] U (by kernel_rfl) (by decide) ⟨?_,?_,?_,trivial⟩
      ·refine AH (i:=1) rfl U (by rfl) ?_
       refine zq tb U ?_
       refine AE ⟨U,?_⟩
       exact AD (AF (L:=[(2,(.ptr 1 0 0 0)),(3,(.ptr 2 0 0 0)),(48,(ow 3 0 q3.1.cells)),(49,(i64 q29.1)),(54,(.ptr 3 0 (Int.toNat q29.1) 0)),(56,(.ptr 0 0 0 0)),(57,(ow 5 0 [(1:Int),-1]))]) ⟨.rfl,.rfl,.rfl,.rfl,.rfl,.rfl,.rfl,trivial⟩) (AG (by kernel_rfl) ((hA32 _ _ _).1 A32_012345679a)) rfl
      ·refine AH (i:=8) rfl U (by rfl) ?_
       refine zz (i64 c30.count) (Aw CM U U (Am gc30) rfl) rfl ?_
       refine AE ⟨U,?_⟩
       exact AD (AF (L:=[(2,(.ptr 1 0 0 0)),(3,(.ptr 2 0 0 0)),(47,(.ptr 2 0 0 0)),(49,(i64 q29.1)),(55,(i64 c30.count)),(56,(.ptr 0 0 0 0)),(57,(ow 5 0 [(1:Int),-1]))]) ⟨.rfl,.rfl,.rfl,.rfl,.rfl,.rfl,.rfl,trivial⟩) (AG (by kernel_rfl) ((hA32 _ _ _).1 A32_023456789a)) rfl
      ·refine AH (i:=11) rfl U (by rfl) ?_
       refine Af (Wk.A2 (L:=[(2,(.ptr 1 0 0 0)),(3,(.ptr 2 0 0 0)),(47,(.ptr 2 0 0 0)),(49,(i64 q29.1)),(54,(.ptr 3 0 (Int.toNat q29.1) 0)),(56,(.ptr 0 0 0 0)),(57,(ls eI [(1:Int),-1]))]) (st':=[⟨0,43,2,[[(ls AI s0_0),(i64 q29.2)]]⟩,⟨0,26,2,[[.zc,.zc]]⟩,⟨0,26,2,[[(ow 3 0 q3.1.cells),(ow 4 0 q3.1.pending)]]⟩,(ro 0 30 3 AA q3.1.cells),(ro 0 3 1 eI q3.1.pending),⟨1,3,1,[]⟩]) (id:=5) rfl (show 1≤5 by decide) (AB fun _=>U) ⟨.rfl,.rfl,.rfl,.rfl,.rfl,.rfl,(.A2 U),trivial⟩ U) ?_
       refine Ad (rowsP:=[⟨0,43,2,[[(ls AI s0_0),(i64 q29.2)]]⟩]) (rows0:=[⟨0,43,2,[[(ls AI s0_0),(i64 q29.2)]]⟩]) (rows1:=[⟨0,43,2,[[(ls AI s0_0),(i64 q31.2)]]⟩]) (rows2:=[]) (rows1':=[⟨0,43,2,[[(ls AI s0_0),(i64 q31.2)]]⟩]) (rows2':=[]) (st':=[⟨0,43,2,[[(ls AI s0_0),(i64 q31.2)]]⟩,⟨0,26,2,[[.zc,.zc]]⟩,⟨0,26,2,[[(ow 3 0 q3.1.cells),(ow 4 0 q3.1.pending)]]⟩,(ro 0 30 3 AA q3.1.cells),(ro 0 3 1 eI q3.1.pending),⟨1,3,1,[]⟩]) (v':=(i64 q31.1)) [0] Ae EU (Ak gq31) rfl (by decide) rfl U (.raw U U .nil) rfl U (.raw U U .nil) .nil U U ?_
       refine AE ⟨U,?_⟩
       exact AD (by refine Wk.trans (AL (L:=[(2,(.ptr 1 0 0 0)),(3,(.ptr 2 0 0 0)),(47,(.ptr 2 0 0 0)),(49,(i64 q29.1)),(54,(.ptr 3 0 (Int.toNat q29.1) 0)),(58,(i64 q31.1))]) (st':=[⟨0,43,2,[[(ls AI s0_0),(i64 q31.2)]]⟩,⟨0,26,2,[[.zc,.zc]]⟩,⟨0,26,2,[[(ow 3 0 q3.1.cells),(ow 4 0 q3.1.pending)]]⟩,(ro 0 30 3 AA q3.1.cells),(ro 0 3 1 eI q3.1.pending)]) (st1:=[⟨0,43,2,[[(ls AI s0_0),(i64 q31.2)]]⟩,⟨0,26,2,[[.zc,.zc]]⟩,⟨0,26,2,[[(ow 3 0 q3.1.cells),(ow 4 0 q3.1.pending)]]⟩,(ro 0 30 3 AA q3.1.cells),(ro 0 3 1 eI q3.1.pending)]) [0,1,2,3,4] U (.raw U U .nil) (by decide) rfl U (.raw U U (.raw U U (.raw U U (.pure (AB fun _=>U) (.pure (AB fun _=>U) .nil))))) ⟨.rfl,.rfl,.rfl,.rfl,.rfl,.rfl,trivial⟩) ?_;exact AF (L:=[(2,(.ptr 1 0 0 0)),(3,(.ptr 2 0 0 0)),(47,(.ptr 2 0 0 0)),(49,(i64 q29.1)),(54,(.ptr 3 0 (Int.toNat q29.1) 0)),(58,(i64 q31.1))]) ⟨.rfl,.rfl,.rfl,.rfl,.rfl,.rfl,trivial⟩) (AG (by kernel_rfl) ((hA32 _ _ _).1 A32_02345679ab)) rfl)
     have A32_02345679:A32 8 #[true,false,true,true,true,true,true,true,false,true,false,false,false,false,false,false] ⟨63,AM [(2,(.ptr 1 0 0 0)),(3,(.ptr 2 0 0 0)),(47,(.ptr 2 0 0 0)),(49,(i64 q29.1)),(54,(.ptr 3 0 (Int.toNat q29.1) 0)),(56,(.ptr 0 0 0 0))],[⟨0,43,2,[[(ls AI s0_0),(i64 q29.2)]]⟩,⟨0,26,2,[[.zc,.zc]]⟩,⟨0,26,2,[[(ow 3 0 q3.1.cells),(ow 4 0 q3.1.pending)]]⟩,(ro 0 30 3 AA q3.1.cells),(ro 0 3 1 eI q3.1.pending)]⟩:=(hA32 _ _ _).2 (by
      refine AJ [1,8,10] U (by kernel_rfl) (by decide) ⟨?_,?_,?_,trivial⟩
      ·refine AH (i:=1) rfl U (by rfl) ?_
       refine zq tb U ?_
       refine AE ⟨U,?_⟩
       exact AD (AF (L:=[(2,(.ptr 1 0 0 0)),(3,(.ptr 2 0 0 0)),(48,(ow 3 0 q3.1.cells)),(49,(i64 q29.1)),(54,(.ptr 3 0 (Int.toNat q29.1) 0)),(56,(.ptr 0 0 0 0))]) ⟨.rfl,.rfl,.rfl,.rfl,.rfl,.rfl,trivial⟩) (AG (by kernel_rfl) ((hA32 _ _ _).1 A32_012345679)) rfl
      ·refine AH (i:=8) rfl U (by rfl) ?_
       refine zz (i64 c30.count) (Aw CM U U (Am gc30) rfl) rfl ?_
       refine AE ⟨U,?_⟩
       exact AD (AF (L:=[(2,(.ptr 1 0 0 0)),(3,(.ptr 2 0 0 0)),(47,(.ptr 2 0 0 0)),(49,(i64 q29.1)),(55,(i64 c30.count)),(56,(.ptr 0 0 0 0))]) ⟨.rfl,.rfl,.rfl,.rfl,.rfl,.rfl,trivial⟩) (AG (by kernel_rfl) ((hA32 _ _ _).1 A32_023456789)) rfl
      ·refine AH (i:=10) rfl U (by rfl) ?_
       refine Bc (m:=5) (st':=[⟨0,43,2,[[(ls AI s0_0),(i64 q29.2)]]⟩,⟨0,26,2,[[.zc,.zc]]⟩,⟨0,26,2,[[(ow 3 0 q3.1.cells),(ow 4 0 q3.1.pending)]]⟩,(ro 0 30 3 AA q3.1.cells),(ro 0 3 1 eI q3.1.pending),(ro 0 3 1 eI [(1:Int),-1])]) (l:=[(1:Int),-1]) (enc:=eI) Ae Av (by decide) rfl U U U U U ?_
       refine AE ⟨U,?_⟩
       exact AD (AF (L:=[(2,(.ptr 1 0 0 0)),(3,(.ptr 2 0 0 0)),(47,(.ptr 2 0 0 0)),(49,(i64 q29.1)),(54,(.ptr 3 0 (Int.toNat q29.1) 0)),(56,(.ptr 0 0 0 0)),(57,(ow 5 0 [(1:Int),-1]))]) ⟨.rfl,.rfl,.rfl,.rfl,.rfl,.rfl,.rfl,trivial⟩) (AG (by kernel_rfl) ((hA32 _ _ _).1 A32_02345679a)) rfl)
     have A32_0234569ab:A32 7 #[true,false,true,true,true,true,true,false,false,true,true,true,false,false,false,false] ⟨63,AM [(2,(.ptr 1 0 0 0)),(3,(.ptr 2 0 0 0)),(47,(.ptr 2 0 0 0)),(49,(i64 q29.1)),(53,(.ptr 3 0 (Int.toNat q29.1) 0)),(58,(i64 q31.1))],[⟨0,43,2,[[(ls AI s0_0),(i64 q31.2)]]⟩,⟨0,26,2,[[.zc,.zc]]⟩,⟨0,26,2,[[(ow 3 0 q3.1.cells),(ow 4 0 q3.1.pending)]]⟩,(ro 0 30 3 AA q3.1.cells),(ro 0 3 1 eI q3.1.pending)]⟩:=(hA32 _ _ _).2 (by
      refine AJ [1,7] U (by kernel_rfl) (by decide) ⟨?_,?_,trivial⟩
      ·refine AH (i:=1) rfl U (by rfl) ?_
       refine zq tb U ?_
       refine AE ⟨U,?_⟩
       exact AD (AF (L:=[(2,(.ptr 1 0 0 0)),(3,(.ptr 2 0 0 0)),(48,(ow 3 0 q3.1.cells)),(49,(i64 q29.1)),(53,(.ptr 3 0 (Int.toNat q29.1) 0)),(58,(i64 q31.1))]) ⟨.rfl,.rfl,.rfl,.rfl,.rfl,.rfl,trivial⟩) (AG (by kernel_rfl) ((hA32 _ _ _).1 A32_01234569ab)) rfl
      ·refine AH (i:=7) rfl U (by rfl) ?_
       refine zq tb U ?_
       refine AE ⟨U,?_⟩
       exact AD (AF (L:=[(2,(.ptr 1 0 0 0)),(3,(.ptr 2 0 0 0)),(47,(.ptr 2 0 0 0)),(49,(i64 q29.1)),(54,(.ptr 3 0 (Int.toNat q29.1) 0)),(58,(i64 q31.1))]) ⟨.rfl,.rfl,.rfl,.rfl,.rfl,.rfl,trivial⟩) (AG (by kernel_rfl) ((hA32 _ _ _).1 A32_02345679ab)) rfl)
     have A32_0234569a:A32 8 #[true,false,true,true,true,true,true,false,false,true,true,false,false,false,false,false] ⟨63,AM [(2,(.ptr 1 0 0 0)),(3,(.ptr 2 0 0 0)),(47,(.ptr 2 0 0 0)),(49,(i64 q29.1)),(53,(.ptr 3 0 (Int.toNat q29.1) 0)),(56,(.ptr 0 0 0 0)),(57,(ow 5 0 [(1:Int),-1]))],[⟨0,43,2,[[(ls AI s0_0),(i64 q29.2)]]⟩,⟨0,26,2,[[.zc,.zc]]⟩,⟨0,26,2,[[(ow 3 0 q3.1.cells),(ow 4 0 q3.1.pending)]]⟩,(ro 0 30 3 AA q3.1.cells),(ro 0 3 1 eI q3.1.pending),(ro 0 3 1 eI [(1:Int),-1])]⟩:=(hA32 _ _ _).2 (by
      refine AJ [1,7,11] U (by kernel_rfl) (by decide) ⟨?_,?_,?_,trivial⟩
      ·refine AH (i:=1) rfl U (by rfl) ?_
       refine zq tb U ?_
       refine AE ⟨U,?_⟩
       exact AD (AF (L:=[(2,(.ptr 1 0 0 0)),(3,(.ptr 2 0 0 0)),(48,(ow 3 0 q3.1.cells)),(49,(i64 q29.1)),(53,(.ptr 3 0 (Int.toNat q29.1) 0)),(56,(.ptr 0 0 0 0)),(57,(ow 5 0 [(1:Int),-1]))]) ⟨.rfl,.rfl,.rfl,.rfl,.rfl,.rfl,.rfl,trivial⟩) (AG (by kernel_rfl) ((hA32 _ _ _).1 A32_01234569a)) rfl
      ·refine AH (i:=7) rfl U (by rfl) ?_
       refine zq tb U ?_
       refine AE ⟨U,?_⟩
       exact AD (AF (L:=[(2,(.ptr 1 0 0 0)),(3,(.ptr 2 0 0 0)),(47,(.ptr 2 0 0 0)),(49,(i64 q29.1)),(54,(.ptr 3 0 (Int.toNat q29.1) 0)),(56,(.ptr 0 0 0 0)),(57,(ow 5 0 [(1:Int),-1]))]) ⟨.rfl,.rfl,.rfl,.rfl,.rfl,.rfl,.rfl,trivial⟩) (AG (by kernel_rfl) ((hA32 _ _ _).1 A32_02345679a)) rfl
      ·refine AH (i:=11) rfl U (by rfl) ?_
       refine Af (Wk.A2 (L:=[(2,(.ptr 1 0 0 0)),(3,(.ptr 2 0 0 0)),(47,(.ptr 2 0 0 0)),(49,(i64 q29.1)),(53,(.ptr 3 0 (Int.toNat q29.1) 0)),(56,(.ptr 0 0 0 0)),(57,(ls eI [(1:Int),-1]))]) (st':=[⟨0,43,2,[[(ls AI s0_0),(i64 q29.2)]]⟩,⟨0,26,2,[[.zc,.zc]]⟩,⟨0,26,2,[[(ow 3 0 q3.1.cells),(ow 4 0 q3.1.pending)]]⟩,(ro 0 30 3 AA q3.1.cells),(ro 0 3 1 eI q3.1.pending),⟨1,3,1,[]⟩]) (id:=5) rfl (show 1≤5 by decide) (AB fun _=>U) ⟨.rfl,.rfl,.rfl,.rfl,.rfl,.rfl,(.A2 U),trivial⟩ U) ?_
       refine Ad (rowsP:=[⟨0,43,2,[[(ls AI s0_0),(i64 q29.2)]]⟩]) (rows0:=[⟨0,43,2,[[(ls AI s0_0),(i64 q29.2)]]⟩]) (rows1:=[⟨0,43,2,[[(ls AI s0_0),(i64 q31.2)]]⟩]) (rows2:=[]) (rows1':=[⟨0,43,2,[[(ls AI s0_0),(i64 q31.2)]]⟩]) (rows2':=[]) (st':=[⟨0,43,2,[[(ls AI s0_0),(i64 q31.2)]]⟩,⟨0,26,2,[[.zc,.zc]]⟩,⟨0,26,2,[[(ow 3 0 q3.1.cells),(ow 4 0 q3.1.pending)]]⟩,(ro 0 30 3 AA q3.1.cells),(ro 0 3 1 eI q3.1.pending),⟨1,3,1,[]⟩]) (v':=(i64 q31.1)) [0] Ae EU (Ak gq31) rfl (by decide) rfl U (.raw U U .nil) rfl U (.raw U U .nil) .nil U U ?_
       refine AE ⟨U,?_⟩
       exact AD (by refine Wk.trans (AL (L:=[(2,(.ptr 1 0 0 0)),(3,(.ptr 2 0 0 0)),(47,(.ptr 2 0 0 0)),(49,(i64 q29.1)),(53,(.ptr 3 0 (Int.toNat q29.1) 0)),(58,(i64 q31.1))]) (st':=[⟨0,43,2,[[(ls AI s0_0),(i64 q31.2)]]⟩,⟨0,26,2,[[.zc,.zc]]⟩,⟨0,26,2,[[(ow 3 0 q3.1.cells),(ow 4 0 q3.1.pending)]]⟩,(ro 0 30 3 AA q3.1.cells),(ro 0 3 1 eI q3.1.pending)]) (st1:=[⟨0,43,2,[[(ls AI s0_0),(i64 q31.2)]]⟩,⟨0,26,2,[[.zc,.zc]]⟩,⟨0,26,2,[[(ow 3 0 q3.1.cells),(ow 4 0 q3.1.pending)]]⟩,(ro 0 30 3 AA q3.1.cells),(ro 0 3 1 eI q3.1.pending)]) [0,1,2,3,4] U (.raw U U .nil) (by decide) rfl U (.raw U U (.raw U U (.raw U U (.pure (AB fun _=>U) (.pure (AB fun _=>U) .nil))))) ⟨.rfl,.rfl,.rfl,.rfl,.rfl,.rfl,trivial⟩) ?_;exact AF (L:=[(2,(.ptr 1 0 0 0)),(3,(.ptr 2 0 0 0)),(47,(.ptr 2 0 0 0)),(49,(i64 q29.1)),(53,(.ptr 3 0 (Int.toNat q29.1) 0)),(58,(i64 q31.1))]) ⟨.rfl,.rfl,.rfl,.rfl,.rfl,.rfl,trivial⟩) (AG (by kernel_rfl) ((hA32 _ _ _).1 A32_0234569ab)) rfl)
     have A32_0234569:A32 9 #[true,false,true,true,true,true,true,false,false,true,false,false,false,false,false,false] ⟨63,AM [(2,(.ptr 1 0 0 0)),(3,(.ptr 2 0 0 0)),(47,(.ptr 2 0 0 0)),(49,(i64 q29.1)),(53,(.ptr 3 0 (Int.toNat q29.1) 0)),(56,(.ptr 0 0 0 0))],[⟨0,43,2,[[(ls AI s0_0),(i64 q29.2)]]⟩,⟨0,26,2,[[.zc,.zc]]⟩,⟨0,26,2,[[(ow 3 0 q3.1.cells),(ow 4 0 q3.1.pending)]]⟩,(ro 0 30 3 AA q3.1.cells),(ro 0 3 1 eI q3.1.pending)]⟩:=(hA32 _ _ _).2 (by
      refine AJ [1,7,10] U (by kernel_rfl) (by decide) ⟨?_,?_,?_,trivial⟩
      ·refine AH (i:=1) rfl U (by rfl) ?_
       refine zq tb U ?_
       refine AE ⟨U,?_⟩
       exact AD (AF (L:=[(2,(.ptr 1 0 0 0)),(3,(.ptr 2 0 0 0)),(48,(ow 3 0 q3.1.cells)),(49,(i64 q29.1)),(53,(.ptr 3 0 (Int.toNat q29.1) 0)),(56,(.ptr 0 0 0 0))]) ⟨.rfl,.rfl,.rfl,.rfl,.rfl,.rfl,trivial⟩) (AG (by kernel_rfl) ((hA32 _ _ _).1 A32_01234569)) rfl
      ·refine AH (i:=7) rfl U (by rfl) ?_
       refine zq tb U ?_
       refine AE ⟨U,?_⟩
       exact AD (AF (L:=[(2,(.ptr 1 0 0 0)),(3,(.ptr 2 0 0 0)),(47,(.ptr 2 0 0 0)),(49,(i64 q29.1)),(54,(.ptr 3 0 (Int.toNat q29.1) 0)),(56,(.ptr 0 0 0 0))]) ⟨.rfl,.rfl,.rfl,.rfl,.rfl,.rfl,trivial⟩) (AG (by kernel_rfl) ((hA32 _ _ _).1 A32_02345679)) rfl
      ·refine AH (i:=10) rfl U (by rfl) ?_
       refine Bc (m:=5) (st':=[⟨0,43,2,[[(ls AI s0_0),(i64 q29.2)]]⟩,⟨0,26,2,[[.zc,.zc]]⟩,⟨0,26,2,[[(ow 3 0 q3.1.cells),(ow 4 0 q3.1.pending)]]⟩,(ro 0 30 3 AA q3.1.cells),(ro 0 3 1 eI q3.1.pending),(ro 0 3 1 eI [(1:Int),-1])]) (l:=[(1:Int),-1]) (enc:=eI) Ae Av (by decide) rfl U U U U U ?_
       refine AE ⟨U,?_⟩
       exact AD (AF (L:=[(2,(.ptr 1 0 0 0)),(3,(.ptr 2 0 0 0)),(47,(.ptr 2 0 0 0)),(49,(i64 q29.1)),(53,(.ptr 3 0 (Int.toNat q29.1) 0)),(56,(.ptr 0 0 0 0)),(57,(ow 5 0 [(1:Int),-1]))]) ⟨.rfl,.rfl,.rfl,.rfl,.rfl,.rfl,.rfl,trivial⟩) (AG (by kernel_rfl) ((hA32 _ _ _).1 A32_0234569a)) rfl)
     have A32_023459ab:A32 8 #[true,false,true,true,true,true,false,false,false,true,true,true,false,false,false,false] ⟨63,AM [(2,(.ptr 1 0 0 0)),(3,(.ptr 2 0 0 0)),(47,(.ptr 2 0 0 0)),(49,(i64 q29.1)),(51,(ow 3 0 q3.1.cells)),(52,(i64 q29.1)),(58,(i64 q31.1))],[⟨0,43,2,[[(ls AI s0_0),(i64 q31.2)]]⟩,⟨0,26,2,[[.zc,.zc]]⟩,⟨0,26,2,[[(ow 3 0 q3.1.cells),(ow 4 0 q3.1.pending)]]⟩,(ro 0 30 3 AA q3.1.cells),(ro 0 3 1 eI q3.1.pending)]⟩:=(hA32 _ _ _).2 (by
      refine AJ [1,6] U (by kernel_rfl) (by decide) ⟨?_,?_,trivial⟩
      ·refine AH (i:=1) rfl U (by rfl) ?_
       refine zq tb U ?_
       refine AE ⟨U,?_⟩
       exact AD (AF (L:=[(2,(.ptr 1 0 0 0)),(3,(.ptr 2 0 0 0)),(48,(ow 3 0 q3.1.cells)),(49,(i64 q29.1)),(51,(ow 3 0 q3.1.cells)),(52,(i64 q29.1)),(58,(i64 q31.1))]) ⟨.rfl,.rfl,.rfl,.rfl,.rfl,.rfl,.rfl,trivial⟩) (AG (by kernel_rfl) ((hA32 _ _ _).1 A32_0123459ab)) rfl
      ·refine AH (i:=6) rfl U (by rfl) ?_
       refine zz (.ptr 3 0 (Int.toNat q29.1) 0) (An A3 U U U U gc30) rfl ?_
       refine AE ⟨U,?_⟩
       exact AD (AF (L:=[(2,(.ptr 1 0 0 0)),(3,(.ptr 2 0 0 0)),(47,(.ptr 2 0 0 0)),(49,(i64 q29.1)),(53,(.ptr 3 0 (Int.toNat q29.1) 0)),(58,(i64 q31.1))]) ⟨.rfl,.rfl,.rfl,.rfl,.rfl,.rfl,trivial⟩) (AG (by kernel_rfl) ((hA32 _ _ _).1 A32_0234569ab)) rfl)
     have A32_023459a:A32 9 #[true,false,true,true,true,true,false,false,false,true,true,false,false,false,false,false] ⟨63,AM [(2,(.ptr 1 0 0 0)),(3,(.ptr 2 0 0 0)),(47,(.ptr 2 0 0 0)),(49,(i64 q29.1)),(51,(ow 3 0 q3.1.cells)),(52,(i64 q29.1)),(56,(.ptr 0 0 0 0)),(57,(ow 5 0 [(1:Int),-1]))],[⟨0,43,2,[[(ls AI s0_0),(i64 q29.2)]]⟩,⟨0,26,2,[[.zc,.zc]]⟩,⟨0,26,2,[[(ow 3 0 q3.1.cells),(ow 4 0 q3.1.pending)]]⟩,(ro 0 30 3 AA q3.1.cells),(ro 0 3 1 eI q3.1.pending),(ro 0 3 1 eI [(1:Int),-1])]⟩:=(hA32 _ _ _).2 (by
      refine AJ [1,6,11] U (by kernel_rfl) (by decide) ⟨?_,?_,?_,trivial⟩
      ·refine AH (i:=1) rfl U (by rfl) ?_
       refine zq tb U ?_
       refine AE ⟨U,?_⟩
       exact AD (AF (L:=[(2,(.ptr 1 0 0 0)),(3,(.ptr 2 0 0 0)),(48,(ow 3 0 q3.1.cells)),(49,(i64 q29.1)),(51,(ow 3 0 q3.1.cells)),(52,(i64 q29.1)),(56,(.ptr 0 0 0 0)),(57,(ow 5 0 [(1:Int),-1]))]) ⟨.rfl,.rfl,.rfl,.rfl,.rfl,.rfl,.rfl,.rfl,trivial⟩) (AG (by kernel_rfl) ((hA32 _ _ _).1 A32_0123459a)) rfl
      ·refine AH (i:=6) rfl U (by rfl) ?_
       refine zz (.ptr 3 0 (Int.toNat q29.1) 0) (An A3 U U U U gc30) rfl ?_
       refine AE ⟨U,?_⟩
       exact AD (AF (L:=[(2,(.ptr 1 0 0 0)),(3,(.ptr 2 0 0 0)),(47,(.ptr 2 0 0 0)),(49,(i64 q29.1)),(53,(.ptr 3 0 (Int.toNat q29.1) 0)),(56,(.ptr 0 0 0 0)),(57,(ow 5 0 [(1:Int),-1]))]) ⟨.rfl,.rfl,.rfl,.rfl,.rfl,.rfl,.rfl,trivial⟩) (AG (by kernel_rfl) ((hA32 _ _ _).1 A32_0234569a)) rfl
      ·refine AH (i:=11) rfl U (by rfl) ?_
       refine Af (Wk.A2 (L:=[(2,(.ptr 1 0 0 0)),(3,(.ptr 2 0 0 0)),(47,(.ptr 2 0 0 0)),(49,(i64 q29.1)),(51,(ow 3 0 q3.1.cells)),(52,(i64 q29.1)),(56,(.ptr 0 0 0 0)),(57,(ls eI [(1:Int),-1]))]) (st':=[⟨0,43,2,[[(ls AI s0_0),(i64 q29.2)]]⟩,⟨0,26,2,[[.zc,.zc]]⟩,⟨0,26,2,[[(ow 3 0 q3.1.cells),(ow 4 0 q3.1.pending)]]⟩,(ro 0 30 3 AA q3.1.cells),(ro 0 3 1 eI q3.1.pending),⟨1,3,1,[]⟩]) (id:=5) rfl (show 1≤5 by decide) (AB fun _=>U) ⟨.rfl,.rfl,.rfl,.rfl,.rfl,.rfl,.rfl,(.A2 U),trivial⟩ U) ?_
       refine Ad (rowsP:=[⟨0,43,2,[[(ls AI s0_0),(i64 q29.2)]]⟩]) (rows0:=[⟨0,43,2,[[(ls AI s0_0),(i64 q29.2)]]⟩]) (rows1:=[⟨0,43,2,[[(ls AI s0_0),(i64 q31.2)]]⟩]) (rows2:=[]) (rows1':=[⟨0,43,2,[[(ls AI s0_0),(i64 q31.2)]]⟩]) (rows2':=[]) (st':=[⟨0,43,2,[[(ls AI s0_0),(i64 q31.2)]]⟩,⟨0,26,2,[[.zc,.zc]]⟩,⟨0,26,2,[[(ow 3 0 q3.1.cells),(ow 4 0 q3.1.pending)]]⟩,(ro 0 30 3 AA q3.1.cells),(ro 0 3 1 eI q3.1.pending),⟨1,3,1,[]⟩]) (v':=(i64 q31.1)) [0] Ae EU (Ak gq31) rfl (by decide) rfl U (.raw U U .nil) rfl U (.raw U U .nil) .nil U U ?_
       refine AE ⟨U,?_⟩
       exact AD (by refine Wk.trans (AL (L:=[(2,(.ptr 1 0 0 0)),(3,(.ptr 2 0 0 0)),(47,(.ptr 2 0 0 0)),(49,(i64 q29.1)),(51,(ow 3 0 q3.1.cells)),(52,(i64 q29.1)),(58,(i64 q31.1))]) (st':=[⟨0,43,2,[[(ls AI s0_0),(i64 q31.2)]]⟩,⟨0,26,2,[[.zc,.zc]]⟩,⟨0,26,2,[[(ow 3 0 q3.1.cells),(ow 4 0 q3.1.pending)]]⟩,(ro 0 30 3 AA q3.1.cells),(ro 0 3 1 eI q3.1.pending)]) (st1:=[⟨0,43,2,[[(ls AI s0_0),(i64 q31.2)]]⟩,⟨0,26,2,[[.zc,.zc]]⟩,⟨0,26,2,[[(ow 3 0 q3.1.cells),(ow 4 0 q3.1.pending)]]⟩,(ro 0 30 3 AA q3.1.cells),(ro 0 3 1 eI q3.1.pending)]) [0,1,2,3,4] U (.raw U U .nil) (by decide) rfl U (.raw U U (.raw U U (.raw U U (.pure (AB fun _=>U) (.pure (AB fun _=>U) .nil))))) ⟨.rfl,.rfl,.rfl,.rfl,.rfl,.rfl,.rfl,trivial⟩) ?_;exact AF (L:=[(2,(.ptr 1 0 0 0)),(3,(.ptr 2 0 0 0)),(47,(.ptr 2 0 0 0)),(49,(i64 q29.1)),(51,(ow 3 0 q3.1.cells)),(52,(i64 q29.1)),(58,(i64 q31.1))]) ⟨.rfl,.rfl,.rfl,.rfl,.rfl,.rfl,.rfl,trivial⟩) (AG (by kernel_rfl) ((hA32 _ _ _).1 A32_023459ab)) rfl)
     have A32_023459:A32 10 #[true,false,true,true,true,true,false,false,false,true,false,false,false,false,false,false] ⟨63,AM [(2,(.ptr 1 0 0 0)),(3,(.ptr 2 0 0 0)),(47,(.ptr 2 0 0 0)),(49,(i64 q29.1)),(51,(ow 3 0 q3.1.cells)),(52,(i64 q29.1)),(56,(.ptr 0 0 0 0))],[⟨0,43,2,[[(ls AI s0_0),(i64 q29.2)]]⟩,⟨0,26,2,[[.zc,.zc]]⟩,⟨0,26,2,[[(ow 3 0 q3.1.cells),(ow 4 0 q3.1.pending)]]⟩,(ro 0 30 3 AA q3.1.cells),(ro 0 3 1 eI q3.1.pending)]⟩:=(hA32 _ _ _).2 (by
      refine AJ [1,6,10] U (by kernel_rfl) (by decide) ⟨?_,?_,?_,trivial⟩
      ·refine AH (i:=1) rfl U (by rfl) ?_
       refine zq tb U ?_
       refine AE ⟨U,?_⟩
       exact AD (AF (L:=[(2,(.ptr 1 0 0 0)),(3,(.ptr 2 0 0 0)),(48,(ow 3 0 q3.1.cells)),(49,(i64 q29.1)),(51,(ow 3 0 q3.1.cells)),(52,(i64 q29.1)),(56,(.ptr 0 0 0 0))]) ⟨.rfl,.rfl,.rfl,.rfl,.rfl,.rfl,.rfl,trivial⟩) (AG (by kernel_rfl) ((hA32 _ _ _).1 A32_0123459)) rfl
      ·refine AH (i:=6) rfl U (by rfl) ?_
       refine zz (.ptr 3 0 (Int.toNat q29.1) 0) (An A3 U U U U gc30) rfl ?_
       refine AE ⟨U,?_⟩
       exact AD (AF (L:=[(2,(.ptr 1 0 0 0)),(3,(.ptr 2 0 0 0)),(47,(.ptr 2 0 0 0)),(49,(i64 q29.1)),(53,(.ptr 3 0 (Int.toNat q29.1) 0)),(56,(.ptr 0 0 0 0))]) ⟨.rfl,.rfl,.rfl,.rfl,.rfl,.rfl,trivial⟩) (AG (by kernel_rfl) ((hA32 _ _ _).1 A32_0234569)) rfl
      ·refine AH (i:=10) rfl U (by rfl) ?_
       refine Bc (m:=5) (st':=[⟨0,43,2,[[(ls AI s0_0),(i64 q29.2)]]⟩,⟨0,26,2,[[.zc,.zc]]⟩,⟨0,26,2,[[(ow 3 0 q3.1.cells),(ow 4 0 q3.1.pending)]]⟩,(ro 0 30 3 AA q3.1.cells),(ro 0 3 1 eI q3.1.pending),(ro 0 3 1 eI [(1:Int),-1])]) (l:=[(1:Int),-1]) (enc:=eI) Ae Av (by decide) rfl U U U U U ?_
       refine AE ⟨U,?_⟩
       exact AD (AF (L:=[(2,(.ptr 1 0 0 0)),(3,(.ptr 2 0 0 0)),(47,(.ptr 2 0 0 0)),(49,(i64 q29.1)),(51,(ow 3 0 q3.1.cells)),(52,(i64 q29.1)),(56,(.ptr 0 0 0 0)),(57,(ow 5 0 [(1:Int),-1]))]) ⟨.rfl,.rfl,.rfl,.rfl,.rfl,.rfl,.rfl,.rfl,trivial⟩) (AG (by kernel_rfl) ((hA32 _ _ _).1 A32_023459a)) rfl)
     have A32_02359ab:A32 9 #[true,false,true,true,false,true,false,false,false,true,true,true,false,false,false,false] ⟨63,AM [(2,(.ptr 1 0 0 0)),(3,(.ptr 2 0 0 0)),(47,(.ptr 2 0 0 0)),(49,(i64 q29.1)),(50,(.ptr 2 0 0 0)),(52,(i64 q29.1)),(58,(i64 q31.1))],[⟨0,43,2,[[(ls AI s0_0),(i64 q31.2)]]⟩,⟨0,26,2,[[.zc,.zc]]⟩,⟨0,26,2,[[(ow 3 0 q3.1.cells),(ow 4 0 q3.1.pending)]]⟩,(ro 0 30 3 AA q3.1.cells),(ro 0 3 1 eI q3.1.pending)]⟩:=(hA32 _ _ _).2 (by
      refine AJ [1,4] U (by kernel_rfl) (by decide) ⟨?_,?_,trivial⟩
      ·refine AH (i:=1) rfl U (by rfl) ?_
       refine zq tb U ?_
       refine AE ⟨U,?_⟩
       exact AD (AF (L:=[(2,(.ptr 1 0 0 0)),(3,(.ptr 2 0 0 0)),(48,(ow 3 0 q3.1.cells)),(49,(i64 q29.1)),(50,(.ptr 2 0 0 0)),(52,(i64 q29.1)),(58,(i64 q31.1))]) ⟨.rfl,.rfl,.rfl,.rfl,.rfl,.rfl,.rfl,trivial⟩) (AG (by kernel_rfl) ((hA32 _ _ _).1 A32_012359ab)) rfl
      ·refine AH (i:=4) rfl U (by rfl) ?_
       refine zq tb U ?_
       refine AE ⟨U,?_⟩
       exact AD (AF (L:=[(2,(.ptr 1 0 0 0)),(3,(.ptr 2 0 0 0)),(47,(.ptr 2 0 0 0)),(49,(i64 q29.1)),(51,(ow 3 0 q3.1.cells)),(52,(i64 q29.1)),(58,(i64 q31.1))]) ⟨.rfl,.rfl,.rfl,.rfl,.rfl,.rfl,.rfl,trivial⟩) (AG (by kernel_rfl) ((hA32 _ _ _).1 A32_023459ab)) rfl)
     have A32_02359a:A32 10 #[true,false,true,true,false,true,false,false,false,true,true,false,false,false,false,false] ⟨63,AM [(2,(.ptr 1 0 0 0)),(3,(.ptr 2 0 0 0)),(47,(.ptr 2 0 0 0)),(49,(i64 q29.1)),(50,(.ptr 2 0 0 0)),(52,(i64 q29.1)),(56,(.ptr 0 0 0 0)),(57,(ow 5 0 [(1:Int),-1]))],[⟨0,43,2,[[(ls AI s0_0),(i64 q29.2)]]⟩,⟨0,26,2,[[.zc,.zc]]⟩,⟨0,26,2,[[(ow 3 0 q3.1.cells),(ow 4 0 q3.1.pending)]]⟩,(ro 0 30 3 AA q3.1.cells),(ro 0 3 1 eI q3.1.pending),(ro 0 3 1 eI [(1:Int),-1])]⟩:=(hA32 _ _ _).2 (by
      refine AJ [1,4,11] U (by kernel_rfl) (by decide) ⟨?_,?_,?_,trivial⟩
      ·refine AH (i:=1) rfl U (by rfl) ?_
       refine zq tb U ?_
       refine AE ⟨U,?_⟩
       exact AD (AF (L:=[(2,(.ptr 1 0 0 0)),(3,(.ptr 2 0 0 0)),(48,(ow 3 0 q3.1.cells)),(49,(i64 q29.1)),(50,(.ptr 2 0 0 0)),(52,(i64 q29.1)),(56,(.ptr 0 0 0 0)),(57,(ow 5 0 [(1:Int),-1]))]) ⟨.rfl,.rfl,.rfl,.rfl,.rfl,.rfl,.rfl,.rfl,trivial⟩) (AG (by kernel_rfl) ((hA32 _ _ _).1 A32_012359a)) rfl
      ·refine AH (i:=4) rfl U (by rfl) ?_
       refine zq tb U ?_
       refine AE ⟨U,?_⟩
       exact AD (AF (L:=[(2,(.ptr 1 0 0 0)),(3,(.ptr 2 0 0 0)),(47,(.ptr 2 0 0 0)),(49,(i64 q29.1)),(51,(ow 3 0 q3.1.cells)),(52,(i64 q29.1)),(56,(.ptr 0 0 0 0)),(57,(ow 5 0 [(1:Int),-1]))]) ⟨.rfl,.rfl,.rfl,.rfl,.rfl,.rfl,.rfl,.rfl,trivial⟩) (AG (by kernel_rfl) ((hA32 _ _ _).1 A32_023459a)) rfl
      ·refine AH (i:=11) rfl U (by rfl) ?_
       refine Af (Wk.A2 (L:=[(2,(.ptr 1 0 0 0)),(3,(.ptr 2 0 0 0)),(47,(.ptr 2 0 0 0)),(49,(i64 q29.1)),(50,(.ptr 2 0 0 0)),(52,(i64 q29.1)),(56,(.ptr 0 0 0 0)),(57,(ls eI [(1:Int),-1]))]) (st':=[⟨0,43,2,[[(ls AI s0_0),(i64 q29.2)]]⟩,⟨0,26,2,[[.zc,.zc]]⟩,⟨0,26,2,[[(ow 3 0 q3.1.cells),(ow 4 0 q3.1.pending)]]⟩,(ro 0 30 3 AA q3.1.cells),(ro 0 3 1 eI q3.1.pending),⟨1,3,1,[]⟩]) (id:=5) rfl (show 1≤5 by decide) (AB fun _=>U) ⟨.rfl,.rfl,.rfl,.rfl,.rfl,.rfl,.rfl,(.A2 U),trivial⟩ U) ?_
       refine Ad (rowsP:=[⟨0,43,2,[[(ls AI s0_0),(i64 q29.2)]]⟩]) (rows0:=[⟨0,43,2,[[(ls AI s0_0),(i64 q29.2)]]⟩]) (rows1:=[⟨0,43,2,[[(ls AI s0_0),(i64 q31.2)]]⟩]) (rows2:=[]) (rows1':=[⟨0,43,2,[[(ls AI s0_0),(i64 q31.2)]]⟩]) (rows2':=[]) (st':=[⟨0,43,2,[[(ls AI s0_0),(i64 q31.2)]]⟩,⟨0,26,2,[[.zc,.zc]]⟩,⟨0,26,2,[[(ow 3 0 q3.1.cells),(ow 4 0 q3.1.pending)]]⟩,(ro 0 30 3 AA q3.1.cells),(ro 0 3 1 eI q3.1.pending),⟨1,3,1,[]⟩]) (v':=(i64 q31.1)) [0] Ae EU (Ak gq31) rfl (by decide) rfl U (.raw U U .nil) rfl U (.raw U U .nil) .nil U U ?_
       refine AE ⟨U,?_⟩
       exact AD (by refine Wk.trans (AL (L:=[(2,(.ptr 1 0 0 0)),(3,(.ptr 2 0 0 0)),(47,(.ptr 2 0 0 0)),(49,(i64 q29.1)),(50,(.ptr 2 0 0 0)),(52,(i64 q29.1)),(58,(i64 q31.1))]) (st':=[⟨0,43,2,[[(ls AI s0_0),(i64 q31.2)]]⟩,⟨0,26,2,[[.zc,.zc]]⟩,⟨0,26,2,[[(ow 3 0 q3.1.cells),(ow 4 0 q3.1.pending)]]⟩,(ro 0 30 3 AA q3.1.cells),(ro 0 3 1 eI q3.1.pending)]) (st1:=[⟨0,43,2,[[(ls AI s0_0),(i64 q31.2)]]⟩,⟨0,26,2,[[.zc,.zc]]⟩,⟨0,26,2,[[(ow 3 0 q3.1.cells),(ow 4 0 q3.1.pending)]]⟩,(ro 0 30 3 AA q3.1.cells),(ro 0 3 1 eI q3.1.pending)]) [0,1,2,3,4] U (.raw U U .nil) (by decide) rfl U (.raw U U (.raw U U (.raw U U (.pure (AB fun _=>U) (.pure (AB fun _=>U) .nil))))) ⟨.rfl,.rfl,.rfl,.rfl,.rfl,.rfl,.rfl,trivial⟩) ?_;exact AF (L:=[(2,(.ptr 1 0 0 0)),(3,(.ptr 2 0 0 0)),(47,(.ptr 2 0 0 0)),(49,(i64 q29.1)),(50,(.ptr 2 0 0 0)),(52,(i64 q29.1)),(58,(i64 q31.1))]) ⟨.rfl,.rfl,.rfl,.rfl,.rfl,.rfl,.rfl,trivial⟩) (AG (by kernel_rfl) ((hA32 _ _ _).1 A32_02359ab)) rfl)
     have A32_02359:A32 11 #[true,false,true,true,false,true,false,false,false,true,false,false,false,false,false,false] ⟨63,AM [(2,(.ptr 1 0 0 0)),(3,(.ptr 2 0 0 0)),(47,(.ptr 2 0 0 0)),(49,(i64 q29.1)),(50,(.ptr 2 0 0 0)),(52,(i64 q29.1)),(56,(.ptr 0 0 0 0))],[⟨0,43,2,[[(ls AI s0_0),(i64 q29.2)]]⟩,⟨0,26,2,[[.zc,.zc]]⟩,⟨0,26,2,[[(ow 3 0 q3.1.cells),(ow 4 0 q3.1.pending)]]⟩,(ro 0 30 3 AA q3.1.cells),(ro 0 3 1 eI q3.1.pending)]⟩:=(hA32 _ _ _).2 (by
      refine AJ [1,4,10] U (by kernel_rfl) (by decide) ⟨?_,?_,?_,trivial⟩
      ·refine AH (i:=1) rfl U (by rfl) ?_
       refine zq tb U ?_
       refine AE ⟨U,?_⟩
       exact AD (AF (L:=[(2,(.ptr 1 0 0 0)),(3,(.ptr 2 0 0 0)),(48,(ow 3 0 q3.1.cells)),(49,(i64 q29.1)),(50,(.ptr 2 0 0 0)),(52,(i64 q29.1)),(56,(.ptr 0 0 0 0))]) ⟨.rfl,.rfl,.rfl,.rfl,.rfl,.rfl,.rfl,trivial⟩) (AG (by kernel_rfl) ((hA32 _ _ _).1 A32_012359)) rfl
      ·refine AH (i:=4) rfl U (by rfl) ?_
       refine zq tb U ?_
       refine AE ⟨U,?_⟩
       exact AD (AF (L:=[(2,(.ptr 1 0 0 0)),(3,(.ptr 2 0 0 0)),(47,(.ptr 2 0 0 0)),(49,(i64 q29.1)),(51,(ow 3 0 q3.1.cells)),(52,(i64 q29.1)),(56,(.ptr 0 0 0 0))]) ⟨.rfl,.rfl,.rfl,.rfl,.rfl,.rfl,.rfl,trivial⟩) (AG (by kernel_rfl) ((hA32 _ _ _).1 A32_023459)) rfl
      ·refine AH (i:=10) rfl U (by rfl) ?_
       refine Bc (m:=5) (st':=[⟨0,43,2,[[(ls AI s0_0),(i64 q29.2)]]⟩,⟨0,26,2,[[.zc,.zc]]⟩,⟨0,26,2,[[(ow 3 0 q3.1.cells),(ow 4 0 q3.1.pending)]]⟩,(ro 0 30 3 AA q3.1.cells),(ro 0 3 1 eI q3.1.pending),(ro 0 3 1 eI [(1:Int),-1])]) (l:=[(1:Int),-1]) (enc:=eI) Ae Av (by decide) rfl U U U U U ?_
       refine AE ⟨U,?_⟩
       exact AD (AF (L:=[(2,(.ptr 1 0 0 0)),(3,(.ptr 2 0 0 0)),(47,(.ptr 2 0 0 0)),(49,(i64 q29.1)),(50,(.ptr 2 0 0 0)),(52,(i64 q29.1)),(56,(.ptr 0 0 0 0)),(57,(ow 5 0 [(1:Int),-1]))]) ⟨.rfl,.rfl,.rfl,.rfl,.rfl,.rfl,.rfl,.rfl,trivial⟩) (AG (by kernel_rfl) ((hA32 _ _ _).1 A32_02359a)) rfl)
     have A32_0259ab:A32 10 #[true,false,true,false,false,true,false,false,false,true,true,true,false,false,false,false] ⟨63,AM [(2,(.ptr 1 0 0 0)),(3,(.ptr 2 0 0 0)),(47,(.ptr 2 0 0 0)),(49,(i64 q29.1)),(52,(i64 q29.1)),(58,(i64 q31.1))],[⟨0,43,2,[[(ls AI s0_0),(i64 q31.2)]]⟩,⟨0,26,2,[[.zc,.zc]]⟩,⟨0,26,2,[[(ow 3 0 q3.1.cells),(ow 4 0 q3.1.pending)]]⟩,(ro 0 30 3 AA q3.1.cells),(ro 0 3 1 eI q3.1.pending)]⟩:=(hA32 _ _ _).2 (by
      refine AJ [1,3] U (by kernel_rfl) (by decide) ⟨?_,?_,trivial⟩
      ·refine AH (i:=1) rfl U (by rfl) ?_
       refine zq tb U ?_
       refine AE ⟨U,?_⟩
       exact AD (AF (L:=[(2,(.ptr 1 0 0 0)),(3,(.ptr 2 0 0 0)),(48,(ow 3 0 q3.1.cells)),(49,(i64 q29.1)),(52,(i64 q29.1)),(58,(i64 q31.1))]) ⟨.rfl,.rfl,.rfl,.rfl,.rfl,.rfl,trivial⟩) (AG (by kernel_rfl) ((hA32 _ _ _).1 A32_01259ab)) rfl
      ·refine AH (i:=3) rfl U (by rfl) ?_
       refine zq tb U ?_
       refine AE ⟨U,?_⟩
       exact AD (AF (L:=[(2,(.ptr 1 0 0 0)),(3,(.ptr 2 0 0 0)),(47,(.ptr 2 0 0 0)),(49,(i64 q29.1)),(50,(.ptr 2 0 0 0)),(52,(i64 q29.1)),(58,(i64 q31.1))]) ⟨.rfl,.rfl,.rfl,.rfl,.rfl,.rfl,.rfl,trivial⟩) (AG (by kernel_rfl) ((hA32 _ _ _).1 A32_02359ab)) rfl)
     have A32_0259a:A32 11 #[true,false,true,false,false,true,false,false,false,true,true,false,false,false,false,false] ⟨63,AM [(2,(.ptr 1 0 0 0)),(3,(.ptr 2 0 0 0)),(47,(.ptr 2 0 0 0)),(49,(i64 q29.1)),(52,(i64 q29.1)),(56,(.ptr 0 0 0 0)),(57,(ow 5 0 [(1:Int),-1]))],[⟨0,43,2,[[(ls AI s0_0),(i64 q29.2)]]⟩,⟨0,26,2,[[.zc,.zc]]⟩,⟨0,26,2,[[(ow 3 0 q3.1.cells),(ow 4 0 q3.1.pending)]]⟩,(ro 0 30 3 AA q3.1.cells),(ro 0 3 1 eI q3.1.pending),(ro 0 3 1 eI [(1:Int),-1])]⟩:=(hA32 _ _ _).2 (by
      refine AJ [1,3,11] U (by kernel_rfl) (by decide) ⟨?_,?_,?_,trivial⟩
      ·refine AH (i:=1) rfl U (by rfl) ?_
       refine zq tb U ?_
       refine AE ⟨U,?_⟩
       exact AD (AF (L:=[(2,(.ptr 1 0 0 0)),(3,(.ptr 2 0 0 0)),(48,(ow 3 0 q3.1.cells)),(49,(i64 q29.1)),(52,(i64 q29.1)),(56,(.ptr 0 0 0 0)),(57,(ow 5 0 [(1:Int),-1]))]) ⟨.rfl,.rfl,.rfl,.rfl,.rfl,.rfl,.rfl,trivial⟩) (AG (by kernel_rfl) ((hA32 _ _ _).1 A32_01259a)) rfl
      ·refine AH (i:=3) rfl U (by rfl) ?_
       refine zq tb U ?_
       refine AE ⟨U,?_⟩
       exact AD (AF (L:=[(2,(.ptr 1 0 0 0)),(3,(.ptr 2 0 0 0)),(47,(.ptr 2 0 0 0)),(49,(i64 q29.1)),(50,(.ptr 2 0 0 0)),(52,(i64 q29.1)),(56,(.ptr 0 0 0 0)),(57,(ow 5 0 [(1:Int),-1]))]) ⟨.rfl,.rfl,.rfl,.rfl,.rfl,.rfl,.rfl,.rfl,trivial⟩) (AG (by kernel_rfl) ((hA32 _ _ _).1 A32_02359a)) rfl
      ·refine AH (i:=11) rfl U (by rfl) ?_
       refine Af (Wk.A2 (L:=[(2,(.ptr 1 0 0 0)),(3,(.ptr 2 0 0 0)),(47,(.ptr 2 0 0 0)),(49,(i64 q29.1)),(52,(i64 q29.1)),(56,(.ptr 0 0 0 0)),(57,(ls eI [(1:Int),-1]))]) (st':=[⟨0,43,2,[[(ls AI s0_0),(i64 q29.2)]]⟩,⟨0,26,2,[[.zc,.zc]]⟩,⟨0,26,2,[[(ow 3 0 q3.1.cells),(ow 4 0 q3.1.pending)]]⟩,(ro 0 30 3 AA q3.1.cells),(ro 0 3 1 eI q3.1.pending),⟨1,3,1,[]⟩]) (id:=5) rfl (show 1≤5 by decide) (AB fun _=>U) ⟨.rfl,.rfl,.rfl,.rfl,.rfl,.rfl,(.A2 U),trivial⟩ U) ?_
       refine Ad (rowsP:=[⟨0,43,2,[[(ls AI s0_0),(i64 q29.2)]]⟩]) (rows0:=[⟨0,43,2,[[(ls AI s0_0),(i64 q29.2)]]⟩]) (rows1:=[⟨0,43,2,[[(ls AI s0_0),(i64 q31.2)]]⟩]) (rows2:=[]) (rows1':=[⟨0,43,2,[[(ls AI s0_0),(i64 q31.2)]]⟩]) (rows2':=[]) (st':=[⟨0,43,2,[[(ls AI s0_0),(i64 q31.2)]]⟩,⟨0,26,2,[[.zc,.zc]]⟩,⟨0,26,2,[[(ow 3 0 q3.1.cells),(ow 4 0 q3.1.pending)]]⟩,(ro 0 30 3 AA q3.1.cells),(ro 0 3 1 eI q3.1.pending),⟨1,3,1,[]⟩]) (v':=(i64 q31.1)) [0] Ae EU (Ak gq31) rfl (by decide) rfl U (.raw U U .nil) rfl U (.raw U U .nil) .nil U U ?_
       refine AE ⟨U,?_⟩
       exact AD (by refine Wk.trans (AL (L:=[(2,(.ptr 1 0 0 0)),(3,(.ptr 2 0 0 0)),(47,(.ptr 2 0 0 0)),(49,(i64 q29.1)),(52,(i64 q29.1)),(58,(i64 q31.1))]) (st':=[⟨0,43,2,[[(ls AI s0_0),(i64 q31.2)]]⟩,⟨0,26,2,[[.zc,.zc]]⟩,⟨0,26,2,[[(ow 3 0 q3.1.cells),(ow 4 0 q3.1.pending)]]⟩,(ro 0 30 3 AA q3.1.cells),(ro 0 3 1 eI q3.1.pending)]) (st1:=[⟨0,43,2,[[(ls AI s0_0),(i64 q31.2)]]⟩,⟨0,26,2,[[.zc,.zc]]⟩,⟨0,26,2,[[(ow 3 0 q3.1.cells),(ow 4 0 q3.1.pending)]]⟩,(ro 0 30 3 AA q3.1.cells),(ro 0 3 1 eI q3.1.pending)]) [0,1,2,3,4] U (.raw U U .nil) (by decide) rfl U (.raw U U (.raw U U (.raw U U (.pure (AB fun _=>U) (.pure (AB fun _=>U) .nil))))) ⟨.rfl,.rfl,.rfl,.rfl,.rfl,.rfl,trivial⟩) ?_;exact AF (L:=[(2,(.ptr 1 0 0 0)),(3,(.ptr 2 0 0 0)),(47,(.ptr 2 0 0 0)),(49,(i64 q29.1)),(52,(i64 q29.1)),(58,(i64 q31.1))]) ⟨.rfl,.rfl,.rfl,.rfl,.rfl,.rfl,trivial⟩) (AG (by kernel_rfl) ((hA32 _ _ _).1 A32_0259ab)) rfl)
     have A32_0259:A32 12 #[true,false,true,false,false,true,false,false,false,true,false,false,false,false,false,false] ⟨63,AM [(2,(.ptr 1 0 0 0)),(3,(.ptr 2 0 0 0)),(47,(.ptr 2 0 0 0)),(49,(i64 q29.1)),(52,(i64 q29.1)),(56,(.ptr 0 0 0 0))],[⟨0,43,2,[[(ls AI s0_0),(i64 q29.2)]]⟩,⟨0,26,2,[[.zc,.zc]]⟩,⟨0,26,2,[[(ow 3 0 q3.1.cells),(ow 4 0 q3.1.pending)]]⟩,(ro 0 30 3 AA q3.1.cells),(ro 0 3 1 eI q3.1.pending)]⟩:=(hA32 _ _ _).2 (by
      refine AJ [1,3,10] U (by kernel_rfl) (by decide) ⟨?_,?_,?_,trivial⟩
      ·refine AH (i:=1) rfl U (by rfl) ?_
       refine zq tb U ?_
       refine AE ⟨U,?_⟩
       exact AD (AF (L:=[(2,(.ptr 1 0 0 0)),(3,(.ptr 2 0 0 0)),(48,(ow 3 0 q3.1.cells)),(49,(i64 q29.1)),(52,(i64 q29.1)),(56,(.ptr 0 0 0 0))]) ⟨.rfl,.rfl,.rfl,.rfl,.rfl,.rfl,trivial⟩) (AG (by kernel_rfl) ((hA32 _ _ _).1 A32_01259)) rfl
      ·refine AH (i:=3) rfl U (by rfl) ?_
       refine zq tb U ?_
       refine AE ⟨U,?_⟩
       exact AD (AF (L:=[(2,(.ptr 1 0 0 0)),(3,(.ptr 2 0 0 0)),(47,(.ptr 2 0 0 0)),(49,(i64 q29.1)),(50,(.ptr 2 0 0 0)),(52,(i64 q29.1)),(56,(.ptr 0 0 0 0))]) ⟨.rfl,.rfl,.rfl,.rfl,.rfl,.rfl,.rfl,trivial⟩) (AG (by kernel_rfl) ((hA32 _ _ _).1 A32_02359)) rfl
      ·refine AH (i:=10) rfl U (by rfl) ?_
       refine Bc (m:=5) (st':=[⟨0,43,2,[[(ls AI s0_0),(i64 q29.2)]]⟩,⟨0,26,2,[[.zc,.zc]]⟩,⟨0,26,2,[[(ow 3 0 q3.1.cells),(ow 4 0 q3.1.pending)]]⟩,(ro 0 30 3 AA q3.1.cells),(ro 0 3 1 eI q3.1.pending),(ro 0 3 1 eI [(1:Int),-1])]) (l:=[(1:Int),-1]) (enc:=eI) Ae Av (by decide) rfl U U U U U ?_
       refine AE ⟨U,?_⟩
       exact AD (AF (L:=[(2,(.ptr 1 0 0 0)),(3,(.ptr 2 0 0 0)),(47,(.ptr 2 0 0 0)),(49,(i64 q29.1)),(52,(i64 q29.1)),(56,(.ptr 0 0 0 0)),(57,(ow 5 0 [(1:Int),-1]))]) ⟨.rfl,.rfl,.rfl,.rfl,.rfl,.rfl,.rfl,trivial⟩) (AG (by kernel_rfl) ((hA32 _ _ _).1 A32_0259a)) rfl)
     have A32_23456789abc:A32 5 #[false,false,true,true,true,true,true,true,true,true,true,true,true,false,false,false] ⟨63,AM [(2,(.ptr 1 0 0 0)),(3,(.ptr 2 0 0 0)),(49,(i64 q29.1)),(59,(i64 (Sh.w (c30.count+q31.1))))],[⟨0,43,2,[[(ls AI s0_0),(i64 q31.2)]]⟩,⟨0,26,2,[[.zc,.zc]]⟩,⟨0,26,2,[[(ow 3 0 q3.1.cells),(ow 4 0 q3.1.pending)]]⟩,(ro 0 30 3 AA q3.1.cells),(ro 0 3 1 eI q3.1.pending)]⟩:=(hA32 _ _ _).2 (by
      refine AJ [0] U (by kernel_rfl) (by decide) ⟨?_,trivial⟩
      ·refine AH (i:=0) rfl U (by rfl) ?_
       refine zq tb U ?_
       refine AE ⟨U,?_⟩
       exact AD (AF (L:=[(2,(.ptr 1 0 0 0)),(3,(.ptr 2 0 0 0)),(47,(.ptr 2 0 0 0)),(49,(i64 q29.1)),(59,(i64 (Sh.w (c30.count+q31.1))))]) ⟨.rfl,.rfl,.rfl,.rfl,.rfl,trivial⟩) (AG (by kernel_rfl) ((hA32 _ _ _).1 A32_023456789abc)) rfl)
     have A32_23456789ab:A32 6 #[false,false,true,true,true,true,true,true,true,true,true,true,false,false,false,false] ⟨63,AM [(2,(.ptr 1 0 0 0)),(3,(.ptr 2 0 0 0)),(49,(i64 q29.1)),(55,(i64 c30.count)),(58,(i64 q31.1))],[⟨0,43,2,[[(ls AI s0_0),(i64 q31.2)]]⟩,⟨0,26,2,[[.zc,.zc]]⟩,⟨0,26,2,[[(ow 3 0 q3.1.cells),(ow 4 0 q3.1.pending)]]⟩,(ro 0 30 3 AA q3.1.cells),(ro 0 3 1 eI q3.1.pending)]⟩:=(hA32 _ _ _).2 (by
      refine AJ [0,12] U (by kernel_rfl) (by decide) ⟨?_,?_,trivial⟩
      ·refine AH (i:=0) rfl U (by rfl) ?_
       refine zq tb U ?_
       refine AE ⟨U,?_⟩
       exact AD (AF (L:=[(2,(.ptr 1 0 0 0)),(3,(.ptr 2 0 0 0)),(47,(.ptr 2 0 0 0)),(49,(i64 q29.1)),(55,(i64 c30.count)),(58,(i64 q31.1))]) ⟨.rfl,.rfl,.rfl,.rfl,.rfl,.rfl,trivial⟩) (AG (by kernel_rfl) ((hA32 _ _ _).1 A32_023456789ab)) rfl
      ·refine AH (i:=12) rfl U (by rfl) ?_
       refine zq tb U ?_
       refine AE ⟨U,?_⟩
       exact AD (AF (L:=[(2,(.ptr 1 0 0 0)),(3,(.ptr 2 0 0 0)),(49,(i64 q29.1)),(59,(i64 (Sh.w (c30.count+q31.1))))]) ⟨.rfl,.rfl,.rfl,.rfl,trivial⟩) (AG (by kernel_rfl) ((hA32 _ _ _).1 A32_23456789abc)) rfl)
     have A32_23456789a:A32 7 #[false,false,true,true,true,true,true,true,true,true,true,false,false,false,false,false] ⟨63,AM [(2,(.ptr 1 0 0 0)),(3,(.ptr 2 0 0 0)),(49,(i64 q29.1)),(55,(i64 c30.count)),(56,(.ptr 0 0 0 0)),(57,(ow 5 0 [(1:Int),-1]))],[⟨0,43,2,[[(ls AI s0_0),(i64 q29.2)]]⟩,⟨0,26,2,[[.zc,.zc]]⟩,⟨0,26,2,[[(ow 3 0 q3.1.cells),(ow 4 0 q3.1.pending)]]⟩,(ro 0 30 3 AA q3.1.cells),(ro 0 3 1 eI q3.1.pending),(ro 0 3 1 eI [(1:Int),-1])]⟩:=(hA32 _ _ _).2 (by
      refine AJ [0,11] U (by kernel_rfl) (by decide) ⟨?_,?_,trivial⟩
      ·refine AH (i:=0) rfl U (by rfl) ?_
       refine zq tb U ?_
       refine AE ⟨U,?_⟩
       exact AD (AF (L:=[(2,(.ptr 1 0 0 0)),(3,(.ptr 2 0 0 0)),(47,(.ptr 2 0 0 0)),(49,(i64 q29.1)),(55,(i64 c30.count)),(56,(.ptr 0 0 0 0)),(57,(ow 5 0 [(1:Int),-1]))]) ⟨.rfl,.rfl,.rfl,.rfl,.rfl,.rfl,.rfl,trivial⟩) (AG (by kernel_rfl) ((hA32 _ _ _).1 A32_023456789a)) rfl
      ·refine AH (i:=11) rfl U (by rfl) ?_
       refine Af (Wk.A2 (L:=[(2,(.ptr 1 0 0 0)),(3,(.ptr 2 0 0 0)),(49,(i64 q29.1)),(55,(i64 c30.count)),(56,(.ptr 0 0 0 0)),(57,(ls eI [(1:Int),-1]))]) (st':=[⟨0,43,2,[[(ls AI s0_0),(i64 q29.2)]]⟩,⟨0,26,2,[[.zc,.zc]]⟩,⟨0,26,2,[[(ow 3 0 q3.1.cells),(ow 4 0 q3.1.pending)]]⟩,(ro 0 30 3 AA q3.1.cells),(ro 0 3 1 eI q3.1.pending),⟨1,3,1,[]⟩]) (id:=5) rfl (show 1≤5 by decide) (AB fun _=>U) ⟨.rfl,.rfl,.rfl,.rfl,.rfl,(.A2 U),trivial⟩ U) ?_
       refine Ad (rowsP:=[⟨0,43,2,[[(ls AI s0_0),(i64 q29.2)]]⟩]) (rows0:=[⟨0,43,2,[[(ls AI s0_0),(i64 q29.2)]]⟩]) (rows1:=[⟨0,43,2,[[(ls AI s0_0),(i64 q31.2)]]⟩]) (rows2:=[]) (rows1':=[⟨0,43,2,[[(ls AI s0_0),(i64 q31.2)]]⟩]) (rows2':=[]) (st':=[⟨0,43,2,[[(ls AI s0_0),(i64 q31.2)]]⟩,⟨0,26,2,[[.zc,.zc]]⟩,⟨0,26,2,[[(ow 3 0 q3.1.cells),(ow 4 0 q3.1.pending)]]⟩,(ro 0 30 3 AA q3.1.cells),(ro 0 3 1 eI q3.1.pending),⟨1,3,1,[]⟩]) (v':=(i64 q31.1)) [0] Ae EU (Ak gq31) rfl (by decide) rfl U (.raw U U .nil) rfl U (.raw U U .nil) .nil U U ?_
       refine AE ⟨U,?_⟩
       exact AD (by refine Wk.trans (AL (L:=[(2,(.ptr 1 0 0 0)),(3,(.ptr 2 0 0 0)),(49,(i64 q29.1)),(55,(i64 c30.count)),(58,(i64 q31.1))]) (st':=[⟨0,43,2,[[(ls AI s0_0),(i64 q31.2)]]⟩,⟨0,26,2,[[.zc,.zc]]⟩,⟨0,26,2,[[(ow 3 0 q3.1.cells),(ow 4 0 q3.1.pending)]]⟩,(ro 0 30 3 AA q3.1.cells),(ro 0 3 1 eI q3.1.pending)]) (st1:=[⟨0,43,2,[[(ls AI s0_0),(i64 q31.2)]]⟩,⟨0,26,2,[[.zc,.zc]]⟩,⟨0,26,2,[[(ow 3 0 q3.1.cells),(ow 4 0 q3.1.pending)]]⟩,(ro 0 30 3 AA q3.1.cells),(ro 0 3 1 eI q3.1.pending)]) [0,1,2,3,4] U (.raw U U .nil) (by decide) rfl U (.raw U U (.raw U U (.raw U U (.pure (AB fun _=>U) (.pure (AB fun _=>U) .nil))))) ⟨.rfl,.rfl,.rfl,.rfl,.rfl,trivial⟩) ?_;exact AF (L:=[(2,(.ptr 1 0 0 0)),(3,(.ptr 2 0 0 0)),(49,(i64 q29.1)),(55,(i64 c30.count)),(58,(i64 q31.1))]) ⟨.rfl,.rfl,.rfl,.rfl,.rfl,trivial⟩) (AG (by kernel_rfl) ((hA32 _ _ _).1 A32_23456789ab)) rfl)
     have A32_23456789:A32 8 #[false,false,true,true,true,true,true,true,true,true,false,false,false,false,false,false] ⟨63,AM [(2,(.ptr 1 0 0 0)),(3,(.ptr 2 0 0 0)),(49,(i64 q29.1)),(55,(i64 c30.count)),(56,(.ptr 0 0 0 0))],[⟨0,43,2,[[(ls AI s0_0),(i64 q29.2)]]⟩,⟨0,26,2,[[.zc,.zc]]⟩,⟨0,26,2,[[(ow 3 0 q3.1.cells),(ow 4 0 q3.1.pending)]]⟩,(ro 0 30 3 AA q3.1.cells),(ro 0 3 1 eI q3.1.pending)]⟩:=(hA32 _ _ _).2 (by
      refine AJ [0,10] U (by kernel_rfl) (by decide) ⟨?_,?_,trivial⟩
      ·refine AH (i:=0) rfl U (by rfl) ?_
       refine zq tb U ?_
       refine AE ⟨U,?_⟩
       exact AD (AF (L:=[(2,(.ptr 1 0 0 0)),(3,(.ptr 2 0 0 0)),(47,(.ptr 2 0 0 0)),(49,(i64 q29.1)),(55,(i64 c30.count)),(56,(.ptr 0 0 0 0))]) ⟨.rfl,.rfl,.rfl,.rfl,.rfl,.rfl,trivial⟩) (AG (by kernel_rfl) ((hA32 _ _ _).1 A32_023456789)) rfl
      ·refine AH (i:=10) rfl U (by rfl) ?_
       refine Bc (m:=5) (st':=[⟨0,43,2,[[(ls AI s0_0),(i64 q29.2)]]⟩,⟨0,26,2,[[.zc,.zc]]⟩,⟨0,26,2,[[(ow 3 0 q3.1.cells),(ow 4 0 q3.1.pending)]]⟩,(ro 0 30 3 AA q3.1.cells),(ro 0 3 1 eI q3.1.pending),(ro 0 3 1 eI [(1:Int),-1])]) (l:=[(1:Int),-1]) (enc:=eI) Ae Av (by decide) rfl U U U U U ?_
       refine AE ⟨U,?_⟩
       exact AD (AF (L:=[(2,(.ptr 1 0 0 0)),(3,(.ptr 2 0 0 0)),(49,(i64 q29.1)),(55,(i64 c30.count)),(56,(.ptr 0 0 0 0)),(57,(ow 5 0 [(1:Int),-1]))]) ⟨.rfl,.rfl,.rfl,.rfl,.rfl,.rfl,trivial⟩) (AG (by kernel_rfl) ((hA32 _ _ _).1 A32_23456789a)) rfl)
     have A32_2345679ab:A32 7 #[false,false,true,true,true,true,true,true,false,true,true,true,false,false,false,false] ⟨63,AM [(2,(.ptr 1 0 0 0)),(3,(.ptr 2 0 0 0)),(49,(i64 q29.1)),(54,(.ptr 3 0 (Int.toNat q29.1) 0)),(58,(i64 q31.1))],[⟨0,43,2,[[(ls AI s0_0),(i64 q31.2)]]⟩,⟨0,26,2,[[.zc,.zc]]⟩,⟨0,26,2,[[(ow 3 0 q3.1.cells),(ow 4 0 q3.1.pending)]]⟩,(ro 0 30 3 AA q3.1.cells),(ro 0 3 1 eI q3.1.pending)]⟩:=(hA32 _ _ _).2 (by
      refine AJ [0,8] U (by kernel_rfl) (by decide) ⟨?_,?_,trivial⟩
      ·refine AH (i:=0) rfl U (by rfl) ?_
       refine zq tb U ?_
       refine AE ⟨U,?_⟩
       exact AD (AF (L:=[(2,(.ptr 1 0 0 0)),(3,(.ptr 2 0 0 0)),(47,(.ptr 2 0 0 0)),(49,(i64 q29.1)),(54,(.ptr 3 0 (Int.toNat q29.1) 0)),(58,(i64 q31.1))]) ⟨.rfl,.rfl,.rfl,.rfl,.rfl,.rfl,trivial⟩) (AG (by kernel_rfl) ((hA32 _ _ _).1 A32_02345679ab)) rfl
      ·refine AH (i:=8) rfl U (by rfl) ?_
       refine zz (i64 c30.count) (Aw CM U U (Am gc30) rfl) rfl ?_
       refine AE ⟨U,?_⟩
       exact AD (AF (L:=[(2,(.ptr 1 0 0 0)),(3,(.ptr 2 0 0 0)),(49,(i64 q29.1)),(55,(i64 c30.count)),(58,(i64 q31.1))]) ⟨.rfl,.rfl,.rfl,.rfl,.rfl,trivial⟩) (AG (by kernel_rfl) ((hA32 _ _ _).1 A32_23456789ab)) rfl)
     have A32_2345679a:A32 8 #[false,false,true,true,true,true,true,true,false,true,true,false,false,false,false,false] ⟨63,AM [(2,(.ptr 1 0 0 0)),(3,(.ptr 2 0 0 0)),(49,(i64 q29.1)),(54,(.ptr 3 0 (Int.toNat q29.1) 0)),(56,(.ptr 0 0 0 0)),(57,(ow 5 0 [(1:Int),-1]))],[⟨0,43,2,[[(ls AI s0_0),(i64 q29.2)]]⟩,⟨0,26,2,[[.zc,.zc]]⟩,⟨0,26,2,[[(ow 3 0 q3.1.cells),(ow 4 0 q3.1.pending)]]⟩,(ro 0 30 3 AA q3.1.cells),(ro 0 3 1 eI q3.1.pending),(ro 0 3 1 eI [(1:Int),-1])]⟩:=(hA32 _ _ _).2 (by
      refine AJ [0,8,11] U (by kernel_rfl) (by decide) ⟨?_,?_,?_,trivial⟩
      ·refine AH (i:=0) rfl U (by rfl) ?_
       refine zq tb U ?_
       refine AE ⟨U,?_⟩
       exact AD (AF (L:=[(2,(.ptr 1 0 0 0)),(3,(.ptr 2 0 0 0)),(47,(.ptr 2 0 0 0)),(49,(i64 q29.1)),(54,(.ptr 3 0 (Int.toNat q29.1) 0)),(56,(.ptr 0 0 0 0)),(57,(ow 5 0 [(1:Int),-1]))]) ⟨.rfl,.rfl,.rfl,.rfl,.rfl,.rfl,.rfl,trivial⟩) (AG (by kernel_rfl) ((hA32 _ _ _).1 A32_02345679a)) rfl
      ·refine AH (i:=8) rfl U (by rfl) ?_
       refine zz (i64 c30.count) (Aw CM U U (Am gc30) rfl) rfl ?_
       refine AE ⟨U,?_⟩
       exact AD (AF (L:=[(2,(.ptr 1 0 0 0)),(3,(.ptr 2 0 0 0)),(49,(i64 q29.1)),(55,(i64 c30.count)),(56,(.ptr 0 0 0 0)),(57,(ow 5 0 [(1:Int),-1]))]) ⟨.rfl,.rfl,.rfl,.rfl,.rfl,.rfl,trivial⟩) (AG (by kernel_rfl) ((hA32 _ _ _).1 A32_23456789a)) rfl
      ·refine AH (i:=11) rfl U (by rfl) ?_
       refine Af (Wk.A2 (L:=[(2,(.ptr 1 0 0 0)),(3,(.ptr 2 0 0 0)),(49,(i64 q29.1)),(54,(.ptr 3 0 (Int.toNat q29.1) 0)),(56,(.ptr 0 0 0 0)),(57,(ls eI [(1:Int),-1]))]) (st':=[⟨0,43,2,[[(ls AI s0_0),(i64 q29.2)]]⟩,⟨0,26,2,[[.zc,.zc]]⟩,⟨0,26,2,[[(ow 3 0 q3.1.cells),(ow 4 0 q3.1.pending)]]⟩,(ro 0 30 3 AA q3.1.cells),(ro 0 3 1 eI q3.1.pending),⟨1,3,1,[]⟩]) (id:=5) rfl (show 1≤5 by decide) (AB fun _=>U) ⟨.rfl,.rfl,.rfl,.rfl,.rfl,(.A2 U),trivial⟩ U) ?_
       refine Ad (rowsP:=[⟨0,43,2,[[(ls AI s0_0),(i64 q29.2)]]⟩]) (rows0:=[⟨0,43,2,[[(ls AI s0_0),(i64 q29.2)]]⟩]) (rows1:=[⟨0,43,2,[[(ls AI s0_0),(i64 q31.2)]]⟩]) (rows2:=[]) (rows1':=[⟨0,43,2,[[(ls AI s0_0),(i64 q31.2)]]⟩]) (rows2':=[]) (st':=[⟨0,43,2,[[(ls AI s0_0),(i64 q31.2)]]⟩,⟨0,26,2,[[.zc,.zc]]⟩,⟨0,26,2,[[(ow 3 0 q3.1.cells),(ow 4 0 q3.1.pending)]]⟩,(ro 0 30 3 AA q3.1.cells),(ro 0 3 1 eI q3.1.pending),⟨1,3,1,[]⟩]) (v':=(i64 q31.1)) [0] Ae EU (Ak gq31) rfl (by decide) rfl U (.raw U U .nil) rfl U (.raw U U .nil) .nil U U ?_
       refine AE ⟨U,?_⟩
       exact AD (by refine Wk.trans (AL (L:=[(2,(.ptr 1 0 0 0)),(3,(.ptr 2 0 0 0)),(49,(i64 q29.1)),(54,(.ptr 3 0 (Int.toNat q29.1) 0)),(58,(i64 q31.1))]) (st':=[⟨0,43,2,[[(ls AI s0_0),(i64 q31.2)]]⟩,⟨0,26,2,[[.zc,.zc]]⟩,⟨0,26,2,[[(ow 3 0 q3.1.cells),(ow 4 0 q3.1.pending)]]⟩,(ro 0 30 3 AA q3.1.cells),(ro 0 3 1 eI q3.1.pending)]) (st1:=[⟨0,43,2,[[(ls AI s0_0),(i64 q31.2)]]⟩,⟨0,26,2,[[.zc,.zc]]⟩,⟨0,26,2,[[(ow 3 0 q3.1.cells),(ow 4 0 q3.1.pending)]]⟩,(ro 0 30 3 AA q3.1.cells),(ro 0 3 1 eI q3.1.pending)]) [0,1,2,3,4] U (.raw U U .nil) (by decide) rfl U (.raw U U (.raw U U (.raw U U (.pure (AB fun _=>U) (.pure (AB fun _=>U) .nil))))) ⟨.rfl,.rfl,.rfl,.rfl,.rfl,trivial⟩) ?_;exact AF (L:=[(2,(.ptr 1 0 0 0)),(3,(.ptr 2 0 0 0)),(49,(i64 q29.1)),(54,(.ptr 3 0 (Int.toNat q29.1) 0)),(58,(i64 q31.1))]) ⟨.rfl,.rfl,.rfl,.rfl,.rfl,trivial⟩) (AG (by kernel_rfl) ((hA32 _ _ _).1 A32_2345679ab)) rfl)
     have A32_2345679:A32 9 #[false,false,true,true,true,true,true,true,false,true,false,false,false,false,false,false] ⟨63,AM [(2,(.ptr 1 0 0 0)),(3,(.ptr 2 0 0 0)),(49,(i64 q29.1)),(54,(.ptr 3 0 (Int.toNat q29.1) 0)),(56,(.ptr 0 0 0 0))],[⟨0,43,2,[[(ls AI s0_0),(i64 q29.2)]]⟩,⟨0,26,2,[[.zc,.zc]]⟩,⟨0,26,2,[[(ow 3 0 q3.1.cells),(ow 4 0 q3.1.pending)]]⟩,(ro 0 30 3 AA q3.1.cells),(ro 0 3 1 eI q3.1.pending)]⟩:=(hA32 _ _ _).2 (by
      refine AJ [0,8,10] U (by kernel_rfl) (by decide) ⟨?_,?_,?_,trivial⟩
      ·refine AH (i:=0) rfl U (by rfl) ?_
       refine zq tb U ?_
       refine AE ⟨U,?_⟩
       exact AD (AF (L:=[(2,(.ptr 1 0 0 0)),(3,(.ptr 2 0 0 0)),(47,(.ptr 2 0 0 0)),(49,(i64 q29.1)),(54,(.ptr 3 0 (Int.toNat q29.1) 0)),(56,(.ptr 0 0 0 0))]) ⟨.rfl,.rfl,.rfl,.rfl,.rfl,.rfl,trivial⟩) (AG (by kernel_rfl) ((hA32 _ _ _).1 A32_02345679)) rfl
      ·refine AH (i:=8) rfl U (by rfl) ?_
       refine zz (i64 c30.count) (Aw CM U U (Am gc30) rfl) rfl ?_
       refine AE ⟨U,?_⟩
       exact AD (AF (L:=[(2,(.ptr 1 0 0 0)),(3,(.ptr 2 0 0 0)),(49,(i64 q29.1)),(55,(i64 c30.count)),(56,(.ptr 0 0 0 0))]) ⟨.rfl,.rfl,.rfl,.rfl,.rfl,trivial⟩) (AG (by kernel_rfl) ((hA32 _ _ _).1 A32_23456789)) rfl
      ·refine AH (i:=10) rfl U (by rfl) ?_
       refine Bc (m:=5) (st':=[⟨0,43,2,[[(ls AI s0_0),(i64 q29.2)]]⟩,⟨0,26,2,[[.zc,.zc]]⟩,⟨0,26,2,[[(ow 3 0 q3.1.cells),(ow 4 0 q3.1.pending)]]⟩,(ro 0 30 3 AA q3.1.cells),(ro 0 3 1 eI q3.1.pending),(ro 0 3 1 eI [(1:Int),-1])]) (l:=[(1:Int),-1]) (enc:=eI) Ae Av (by decide) rfl U U U U U ?_
       refine AE ⟨U,?_⟩
       exact AD (AF (L:=[(2,(.ptr 1 0 0 0)),(3,(.ptr 2 0 0 0)),(49,(i64 q29.1)),(54,(.ptr 3 0 (Int.toNat q29.1) 0)),(56,(.ptr 0 0 0 0)),(57,(ow 5 0 [(1:Int),-1]))]) ⟨.rfl,.rfl,.rfl,.rfl,.rfl,.rfl,trivial⟩) (AG (by kernel_rfl) ((hA32 _ _ _).1 A32_2345679a)) rfl)
     have A32_234569ab:A32 8 #[false,false,true,true,true,true,true,false,false,true,true,true,false,false,false,false] ⟨63,AM [(2,(.ptr 1 0 0 0)),(3,(.ptr 2 0 0 0)),(49,(i64 q29.1)),(53,(.ptr 3 0 (Int.toNat q29.1) 0)),(58,(i64 q31.1))],[⟨0,43,2,[[(ls AI s0_0),(i64 q31.2)]]⟩,⟨0,26,2,[[.zc,.zc]]⟩,⟨0,26,2,[[(ow 3 0 q3.1.cells),(ow 4 0 q3.1.pending)]]⟩,(ro 0 30 3 AA q3.1.cells),(ro 0 3 1 eI q3.1.pending)]⟩:=(hA32 _ _ _).2 (by
      refine AJ [0,7] U (by kernel_rfl) (by decide) ⟨?_,?_,trivial⟩
      ·refine AH (i:=0) rfl U (by rfl) ?_
       refine zq tb U ?_
       refine AE ⟨U,?_⟩
       exact AD (AF (L:=[(2,(.ptr 1 0 0 0)),(3,(.ptr 2 0 0 0)),(47,(.ptr 2 0 0 0)),(49,(i64 q29.1)),(53,(.ptr 3 0 (Int.toNat q29.1) 0)),(58,(i64 q31.1))]) ⟨.rfl,.rfl,.rfl,.rfl,.rfl,.rfl,trivial⟩) (AG (by kernel_rfl) ((hA32 _ _ _).1 A32_0234569ab)) rfl
      ·refine AH (i:=7) rfl U (by rfl) ?_
       refine zq tb U ?_
       refine AE ⟨U,?_⟩
       exact AD (AF (L:=[(2,(.ptr 1 0 0 0)),(3,(.ptr 2 0 0 0)),(49,(i64 q29.1)),(54,(.ptr 3 0 (Int.toNat q29.1) 0)),(58,(i64 q31.1))]) ⟨.rfl,.rfl,.rfl,.rfl,.rfl,trivial⟩) (AG (by kernel_rfl) ((hA32 _ _ _).1 A32_2345679ab)) rfl)
     have A32_234569a:A32 9 #[false,false,true,true,true,true,true,false,false,true,true,false,false,false,false,false] ⟨63,AM [(2,(.ptr 1 0 0 0)),(3,(.ptr 2 0 0 0)),(49,(i64 q29.1)),(53,(.ptr 3 0 (Int.toNat q29.1) 0)),(56,(.ptr 0 0 0 0)),(57,(ow 5 0 [(1:Int),-1]))],[⟨0,43,2,[[(ls AI s0_0),(i64 q29.2)]]⟩,⟨0,26,2,[[.zc,.zc]]⟩,⟨0,26,2,[[(ow 3 0 q3.1.cells),(ow 4 0 q3.1.pending)]]⟩,(ro 0 30 3 AA q3.1.cells),(ro 0 3 1 eI q3.1.pending),(ro 0 3 1 eI [(1:Int),-1])]⟩:=(hA32 _ _ _).2 (by
      refine AJ [0,7,11] U (by kernel_rfl) (by decide) ⟨?_,?_,?_,trivial⟩
      ·refine AH (i:=0) rfl U (by rfl) ?_
       refine zq tb U ?_
       refine AE ⟨U,?_⟩
       exact AD (AF (L:=[(2,(.ptr 1 0 0 0)),(3,(.ptr 2 0 0 0)),(47,(.ptr 2 0 0 0)),(49,(i64 q29.1)),(53,(.ptr 3 0 (Int.toNat q29.1) 0)),(56,(.ptr 0 0 0 0)),(57,(ow 5 0 [(1:Int),-1]))]) ⟨.rfl,.rfl,.rfl,.rfl,.rfl,.rfl,.rfl,trivial⟩) (AG (by kernel_rfl) ((hA32 _ _ _).1 A32_0234569a)) rfl
      ·refine AH (i:=7) rfl U (by rfl) ?_
       refine zq tb U ?_
       refine AE ⟨U,?_⟩
       exact AD (AF (L:=[(2,(.ptr 1 0 0 0)),(3,(.ptr 2 0 0 0)),(49,(i64 q29.1)),(54,(.ptr 3 0 (Int.toNat q29.1) 0)),(56,(.ptr 0 0 0 0)),(57,(ow 5 0 [(1:Int),-1]))]) ⟨.rfl,.rfl,.rfl,.rfl,.rfl,.rfl,trivial⟩) (AG (by kernel_rfl) ((hA32 _ _ _).1 A32_2345679a)) rfl
      ·refine AH (i:=11) rfl U (by rfl) ?_
       refine Af (Wk.A2 (L:=[(2,(.ptr 1 0 0 0)),(3,(.ptr 2 0 0 0)),(49,(i64 q29.1)),(53,(.ptr 3 0 (Int.toNat q29.1) 0)),(56,(.ptr 0 0 0 0)),(57,(ls eI [(1:Int),-1]))]) (st':=[⟨0,43,2,[[(ls AI s0_0),(i64 q29.2)]]⟩,⟨0,26,2,[[.zc,.zc]]⟩,⟨0,26,2,[[(ow 3 0 q3.1.cells),(ow 4 0 q3.1.pending)]]⟩,(ro 0 30 3 AA q3.1.cells),(ro 0 3 1 eI q3.1.pending),⟨1,3,1,[]⟩]) (id:=5) rfl (show 1≤5 by decide) (AB fun _=>U) ⟨.rfl,.rfl,.rfl,.rfl,.rfl,(.A2 U),trivial⟩ U) ?_
       refine Ad (rowsP:=[⟨0,43,2,[[(ls AI s0_0),(i64 q29.2)]]⟩]) (rows0:=[⟨0,43,2,[[(ls AI s0_0),(i64 q29.2)]]⟩]) (rows1:=[⟨0,43,2,[[(ls AI s0_0),(i64 q31.2)]]⟩]) (rows2:=[]) (rows1':=[⟨0,43,2,[[(ls AI s0_0),(i64 q31.2)]]⟩]) (rows2':=[]) (st':=[⟨0,43,2,[[(ls AI s0_0),(i64 q31.2)]]⟩,⟨0,26,2,[[.zc,.zc]]⟩,⟨0,26,2,[[(ow 3 0 q3.1.cells),(ow 4 0 q3.1.pending)]]⟩,(ro 0 30 3 AA q3.1.cells),(ro 0 3 1 eI q3.1.pending),⟨1,3,1,[]⟩]) (v':=(i64 q31.1)) [0] Ae EU (Ak gq31) rfl (by decide) rfl U (.raw U U .nil) rfl U (.raw U U .nil) .nil U U ?_
       refine AE ⟨U,?_⟩
       exact AD (by refine Wk.trans (AL (L:=[(2,(.ptr 1 0 0 0)),(3,(.ptr 2 0 0 0)),(49,(i64 q29.1)),(53,(.ptr 3 0 (Int.toNat q29.1) 0)),(58,(i64 q31.1))]) (st':=[⟨0,43,2,[[(ls AI s0_0),(i64 q31.2)]]⟩,⟨0,26,2,[[.zc,.zc]]⟩,⟨0,26,2,[[(ow 3 0 q3.1.cells),(ow 4 0 q3.1.pending)]]⟩,(ro 0 30 3 AA q3.1.cells),(ro 0 3 1 eI q3.1.pending)]) (st1:=[⟨0,43,2,[[(ls AI s0_0),(i64 q31.2)]]⟩,⟨0,26,2,[[.zc,.zc]]⟩,⟨0,26,2,[[(ow 3 0 q3.1.cells),(ow 4 0 q3.1.pending)]]⟩,(ro 0 30 3 AA q3.1.cells),(ro 0 3 1 eI q3.1.pending)]) [0,1,2,3,4] U (.raw U U .nil) (by decide) rfl U (.raw U U (.raw U U (.raw U U (.pure (AB fun _=>U) (.pure (AB fun _=>U) .nil))))) ⟨.rfl,.rfl,.rfl,.rfl,.rfl,trivial⟩) ?_;exact AF (L:=[(2,(.ptr 1 0 0 0)),(3,(.ptr 2 0 0 0)),(49,(i64 q29.1)),(53,(.ptr 3 0 (Int.toNat q29.1) 0)),(58,(i64 q31.1))]) ⟨.rfl,.rfl,.rfl,.rfl,.rfl,trivial⟩) (AG (by kernel_rfl) ((hA32 _ _ _).1 A32_234569ab)) rfl)
     have A32_234569:A32 10 #[false,false,true,true,true,true,true,false,false,true,false,false,false,false,false,false] ⟨63,AM [(2,(.ptr 1 0 0 0)),(3,(.ptr 2 0 0 0)),(49,(i64 q29.1)),(53,(.ptr 3 0 (Int.toNat q29.1) 0)),(56,(.ptr 0 0 0 0))],[⟨0,43,2,[[(ls AI s0_0),(i64 q29.2)]]⟩,⟨0,26,2,[[.zc,.zc]]⟩,⟨0,26,2,[[(ow 3 0 q3.1.cells),(ow 4 0 q3.1.pending)]]⟩,(ro 0 30 3 AA q3.1.cells),(ro 0 3 1 eI q3.1.pending)]⟩:=(hA32 _ _ _).2 (by
      refine AJ [0,7,10] U (by kernel_rfl) (by decide) ⟨?_,?_,?_,trivial⟩
      ·refine AH (i:=0) rfl U (by rfl) ?_
       refine zq tb U ?_
       refine AE ⟨U,?_⟩
       exact AD (AF (L:=[(2,(.ptr 1 0 0 0)),(3,(.ptr 2 0 0 0)),(47,(.ptr 2 0 0 0)),(49,(i64 q29.1)),(53,(.ptr 3 0 (Int.toNat q29.1) 0)),(56,(.ptr 0 0 0 0))]) ⟨.rfl,.rfl,.rfl,.rfl,.rfl,.rfl,trivial⟩) (AG (by kernel_rfl) ((hA32 _ _ _).1 A32_0234569)) rfl
      ·refine AH (i:=7) rfl U (by rfl) ?_
       refine zq tb U ?_
       refine AE ⟨U,?_⟩
       exact AD (AF (L:=[(2,(.ptr 1 0 0 0)),(3,(.ptr 2 0 0 0)),(49,(i64 q29.1)),(54,(.ptr 3 0 (Int.toNat q29.1) 0)),(56,(.ptr 0 0 0 0))]) ⟨.rfl,.rfl,.rfl,.rfl,.rfl,trivial⟩) (AG (by kernel_rfl) ((hA32 _ _ _).1 A32_2345679)) rfl
      ·refine AH (i:=10) rfl U (by rfl) ?_
       refine Bc (m:=5) (st':=[⟨0,43,2,[[(ls AI s0_0),(i64 q29.2)]]⟩,⟨0,26,2,[[.zc,.zc]]⟩,⟨0,26,2,[[(ow 3 0 q3.1.cells),(ow 4 0 q3.1.pending)]]⟩,(ro 0 30 3 AA q3.1.cells),(ro 0 3 1 eI q3.1.pending),(ro 0 3 1 eI [(1:Int),-1])]) (l:=[(1:Int),-1]) (enc:=eI) Ae Av (by decide) rfl U U U U U ?_
       refine AE ⟨U,?_⟩
       exact AD (AF (L:=[(2,(.ptr 1 0 0 0)),(3,(.ptr 2 0 0 0)),(49,(i64 q29.1)),(53,(.ptr 3 0 (Int.toNat q29.1) 0)),(56,(.ptr 0 0 0 0)),(57,(ow 5 0 [(1:Int),-1]))]) ⟨.rfl,.rfl,.rfl,.rfl,.rfl,.rfl,trivial⟩) (AG (by kernel_rfl) ((hA32 _ _ _).1 A32_234569a)) rfl)
     have A32_23459ab:A32 9 #[false,false,true,true,true,true,false,false,false,true,true,true,false,false,false,false] ⟨63,AM [(2,(.ptr 1 0 0 0)),(3,(.ptr 2 0 0 0)),(49,(i64 q29.1)),(51,(ow 3 0 q3.1.cells)),(52,(i64 q29.1)),(58,(i64 q31.1))],[⟨0,43,2,[[(ls AI s0_0),(i64 q31.2)]]⟩,⟨0,26,2,[[.zc,.zc]]⟩,⟨0,26,2,[[(ow 3 0 q3.1.cells),(ow 4 0 q3.1.pending)]]⟩,(ro 0 30 3 AA q3.1.cells),(ro 0 3 1 eI q3.1.pending)]⟩:=(hA32 _ _ _).2 (by
      refine AJ [0,6] U (by kernel_rfl) (by decide) ⟨?_,?_,trivial⟩
      ·refine AH (i:=0) rfl U (by rfl) ?_
       refine zq tb U ?_
       refine AE ⟨U,?_⟩
       exact AD (AF (L:=[(2,(.ptr 1 0 0 0)),(3,(.ptr 2 0 0 0)),(47,(.ptr 2 0 0 0)),(49,(i64 q29.1)),(51,(ow 3 0 q3.1.cells)),(52,(i64 q29.1)),(58,(i64 q31.1))]) ⟨.rfl,.rfl,.rfl,.rfl,.rfl,.rfl,.rfl,trivial⟩) (AG (by kernel_rfl) ((hA32 _ _ _).1 A32_023459ab)) rfl
      ·refine AH (i:=6) rfl U (by rfl) ?_
       refine zz (.ptr 3 0 (Int.toNat q29.1) 0) (An A3 U U U U gc30) rfl ?_
       refine AE ⟨U,?_⟩
       exact AD (AF (L:=[(2,(.ptr 1 0 0 0)),(3,(.ptr 2 0 0 0)),(49,(i64 q29.1)),(53,(.ptr 3 0 (Int.toNat q29.1) 0)),(58,(i64 q31.1))]) ⟨.rfl,.rfl,.rfl,.rfl,.rfl,trivial⟩) (AG (by kernel_rfl) ((hA32 _ _ _).1 A32_234569ab)) rfl)
     have A32_23459a:A32 10 #[false,false,true,true,true,true,false,false,false,true,true,false,false,false,false,false] ⟨63,AM [(2,(.ptr 1 0 0 0)),(3,(.ptr 2 0 0 0)),(49,(i64 q29.1)),(51,(ow 3 0 q3.1.cells)),(52,(i64 q29.1)),(56,(.ptr 0 0 0 0)),(57,(ow 5 0 [(1:Int),-1]))],[⟨0,43,2,[[(ls AI s0_0),(i64 q29.2)]]⟩,⟨0,26,2,[[.zc,.zc]]⟩,⟨0,26,2,[[(ow 3 0 q3.1.cells),(ow 4 0 q3.1.pending)]]⟩,(ro 0 30 3 AA q3.1.cells),(ro 0 3 1 eI q3.1.pending),(ro 0 3 1 eI [(1:Int),-1])]⟩:=(hA32 _ _ _).2 (by
      refine AJ [0,6,11] U (by kernel_rfl) (by decide) ⟨?_,?_,?_,trivial⟩
      ·refine AH (i:=0) rfl U (by rfl) ?_
       refine zq tb U ?_
       refine AE ⟨U,?_⟩
       exact AD (AF (L:=[(2,(.ptr 1 0 0 0)),(3,(.ptr 2 0 0 0)),(47,(.ptr 2 0 0 0)),(49,(i64 q29.1)),(51,(ow 3 0 q3.1.cells)),(52,(i64 q29.1)),(56,(.ptr 0 0 0 0)),(57,(ow 5 0 [(1:Int),-1]))]) ⟨.rfl,.rfl,.rfl,.rfl,.rfl,.rfl,.rfl,.rfl,trivial⟩) (AG (by kernel_rfl) ((hA32 _ _ _).1 A32_023459a)) rfl
      ·refine AH (i:=6) rfl U (by rfl) ?_
       refine zz (.ptr 3 0 (Int.toNat q29.1) 0) (An A3 U U U U gc30) rfl ?_
       refine AE ⟨U,?_⟩
       exact AD (AF (L:=[(2,(.ptr 1 0 0 0)),(3,(.ptr 2 0 0 0)),(49,(i64 q29.1)),(53,(.ptr 3 0 (Int.toNat q29.1) 0)),(56,(.ptr 0 0 0 0)),(57,(ow 5 0 [(1:Int),-1]))]) ⟨.rfl,.rfl,.rfl,.rfl,.rfl,.rfl,trivial⟩) (AG (by kernel_rfl) ((hA32 _ _ _).1 A32_234569a)) rfl
      ·refine AH (i:=11) rfl U (by rfl) ?_
       refine Af (Wk.A2 (L:=[(2,(.ptr 1 0 0 0)),(3,(.ptr 2 0 0 0)),(49,(i64 q29.1)),(51,(ow 3 0 q3.1.cells)),(52,(i64 q29.1)),(56,(.ptr 0 0 0 0)),(57,(ls eI [(1:Int),-1]))]) (st':=[⟨0,43,2,[[(ls AI s0_0),(i64 q29.2)]]⟩,⟨0,26,2,[[.zc,.zc]]⟩,⟨0,26,2,[[(ow 3 0 q3.1.cells),(ow 4 0 q3.1.pending)]]⟩,(ro 0 30 3 AA q3.1.cells),(ro 0 3 1 eI q3.1.pending),⟨1,3,1,[]⟩]) (id:=5) rfl (show 1≤5 by decide) (AB fun _=>U) ⟨.rfl,.rfl,.rfl,.rfl,.rfl,.rfl,(.A2 U),trivial⟩ U) ?_
       refine Ad (rowsP:=[⟨0,43,2,[[(ls AI s0_0),(i64 q29.2)]]⟩]) (rows0:=[⟨0,43,2,[[(ls AI s0_0),(i64 q29.2)]]⟩]) (rows1:=[⟨0,43,2,[[(ls AI s0_0),(i64 q31.2)]]⟩]) (rows2:=[]) (rows1':=[⟨0,43,2,[[(ls AI s0_0),(i64 q31.2)]]⟩]) (rows2':=[]) (st':=[⟨0,43,2,[[(ls AI s0_0),(i64 q31.2)]]⟩,⟨0,26,2,[[.zc,.zc]]⟩,⟨0,26,2,[[(ow 3 0 q3.1.cells),(ow 4 0 q3.1.pending)]]⟩,(ro 0 30 3 AA q3.1.cells),(ro 0 3 1 eI q3.1.pending),⟨1,3,1,[]⟩]) (v':=(i64 q31.1)) [0] Ae EU (Ak gq31) rfl (by decide) rfl U (.raw U U .nil) rfl U (.raw U U .nil) .nil U U ?_
       refine AE ⟨U,?_⟩
       exact AD (by refine Wk.trans (AL (L:=[(2,(.ptr 1 0 0 0)),(3,(.ptr 2 0 0 0)),(49,(i64 q29.1)),(51,(ow 3 0 q3.1.cells)),(52,(i64 q29.1)),(58,(i64 q31.1))]) (st':=[⟨0,43,2,[[(ls AI s0_0),(i64 q31.2)]]⟩,⟨0,26,2,[[.zc,.zc]]⟩,⟨0,26,2,[[(ow 3 0 q3.1.cells),(ow 4 0 q3.1.pending)]]⟩,(ro 0 30 3 AA q3.1.cells),(ro 0 3 1 eI q3.1.pending)]) (st1:=[⟨0,43,2,[[(ls AI s0_0),(i64 q31.2)]]⟩,⟨0,26,2,[[.zc,.zc]]⟩,⟨0,26,2,[[(ow 3 0 q3.1.cells),(ow 4 0 q3.1.pending)]]⟩,(ro 0 30 3 AA q3.1.cells),(ro 0 3 1 eI q3.1.pending)]) [0,1,2,3,4] U (.raw U U .nil) (by decide) rfl U (.raw U U (.raw U U (.raw U U (.pure (AB fun _=>U) (.pure (AB fun _=>U) .nil))))) ⟨.rfl,.rfl,.rfl,.rfl,.rfl,.rfl,trivial⟩) ?_;exact AF (L:=[(2,(.ptr 1 0 0 0)),(3,(.ptr 2 0 0 0)),(49,(i64 q29.1)),(51,(ow 3 0 q3.1.cells)),(52,(i64 q29.1)),(58,(i64 q31.1))]) ⟨.rfl,.rfl,.rfl,.rfl,.rfl,.rfl,trivial⟩) (AG (by kernel_rfl) ((hA32 _ _ _).1 A32_23459ab)) rfl)
     have A32_23459:A32 11 #[false,false,true,true,true,true,false,false,false,true,false,false,false,false,false,false] ⟨63,AM [(2,(.ptr 1 0 0 0)),(3,(.ptr 2 0 0 0)),(49,(i64 q29.1)),(51,(ow 3 0 q3.1.cells)),(52,(i64 q29.1)),(56,(.ptr 0 0 0 0))],[⟨0,43,2,[[(ls AI s0_0),(i64 q29.2)]]⟩,⟨0,26,2,[[.zc,.zc]]⟩,⟨0,26,2,[[(ow 3 0 q3.1.cells),(ow 4 0 q3.1.pending)]]⟩,(ro 0 30 3 AA q3.1.cells),(ro 0 3 1 eI q3.1.pending)]⟩:=(hA32 _ _ _).2 (by
      refine AJ [0,6,10] U (by kernel_rfl) (by decide) ⟨?_,?_,?_,trivial⟩
      ·refine AH (i:=0) rfl U (by rfl) ?_
       refine zq tb U ?_
       refine AE ⟨U,?_⟩
       exact AD (AF (L:=[(2,(.ptr 1 0 0 0)),(3,(.ptr 2 0 0 0)),(47,(.ptr 2 0 0 0)),(49,(i64 q29.1)),(51,(ow 3 0 q3.1.cells)),(52,(i64 q29.1)),(56,(.ptr 0 0 0 0))]) ⟨.rfl,.rfl,.rfl,.rfl,.rfl,.rfl,.rfl,trivial⟩) (AG (by kernel_rfl) ((hA32 _ _ _).1 A32_023459)) rfl
      ·refine AH (i:=6) rfl U (by rfl) ?_
       refine zz (.ptr 3 0 (Int.toNat q29.1) 0) (An A3 U U U U gc30) rfl ?_
       refine AE ⟨U,?_⟩
       exact AD (AF (L:=[(2,(.ptr 1 0 0 0)),(3,(.ptr 2 0 0 0)),(49,(i64 q29.1)),(53,(.ptr 3 0 (Int.toNat q29.1) 0)),(56,(.ptr 0 0 0 0))]) ⟨.rfl,.rfl,.rfl,.rfl,.rfl,trivial⟩) (AG (by kernel_rfl) ((hA32 _ _ _).1 A32_234569)) rfl
      ·refine AH (i:=10) rfl U (by rfl) ?_
       refine Bc (m:=5) (st':=[⟨0,43,2,[[(ls AI s0_0),(i64 q29.2)]]⟩,⟨0,26,2,[[.zc,.zc]]⟩,⟨0,26,2,[[(ow 3 0 q3.1.cells),(ow 4 0 q3.1.pending)]]⟩,(ro 0 30 3 AA q3.1.cells),(ro 0 3 1 eI q3.1.pending),(ro 0 3 1 eI [(1:Int),-1])]) (l:=[(1:Int),-1]) (enc:=eI) Ae Av (by decide) rfl U U U U U ?_
       refine AE ⟨U,?_⟩
       exact AD (AF (L:=[(2,(.ptr 1 0 0 0)),(3,(.ptr 2 0 0 0)),(49,(i64 q29.1)),(51,(ow 3 0 q3.1.cells)),(52,(i64 q29.1)),(56,(.ptr 0 0 0 0)),(57,(ow 5 0 [(1:Int),-1]))]) ⟨.rfl,.rfl,.rfl,.rfl,.rfl,.rfl,.rfl,trivial⟩) (AG (by kernel_rfl) ((hA32 _ _ _).1 A32_23459a)) rfl)
     have A32_2359ab:A32 10 #[false,false,true,true,false,true,false,false,false,true,true,true,false,false,false,false] ⟨63,AM [(2,(.ptr 1 0 0 0)),(3,(.ptr 2 0 0 0)),(49,(i64 q29.1)),(50,(.ptr 2 0 0 0)),(52,(i64 q29.1)),(58,(i64 q31.1))],[⟨0,43,2,[[(ls AI s0_0),(i64 q31.2)]]⟩,⟨0,26,2,[[.zc,.zc]]⟩,⟨0,26,2,[[(ow 3 0 q3.1.cells),(ow 4 0 q3.1.pending)]]⟩,(ro 0 30 3 AA q3.1.cells),(ro 0 3 1 eI q3.1.pending)]⟩:=(hA32 _ _ _).2 (by
      refine AJ [0,4] U (by kernel_rfl) (by decide) ⟨?_,?_,trivial⟩
      ·refine AH (i:=0) rfl U (by rfl) ?_
       refine zq tb U ?_
       refine AE ⟨U,?_⟩
       exact AD (AF (L:=[(2,(.ptr 1 0 0 0)),(3,(.ptr 2 0 0 0)),(47,(.ptr 2 0 0 0)),(49,(i64 q29.1)),(50,(.ptr 2 0 0 0)),(52,(i64 q29.1)),(58,(i64 q31.1))]) ⟨.rfl,.rfl,.rfl,.rfl,.rfl,.rfl,.rfl,trivial⟩) (AG (by kernel_rfl) ((hA32 _ _ _).1 A32_02359ab)) rfl
      ·refine AH (i:=4) rfl U (by rfl) ?_
       refine zq tb U ?_
       refine AE ⟨U,?_⟩
       exact AD (AF (L:=[(2,(.ptr 1 0 0 0)),(3,(.ptr 2 0 0 0)),(49,(i64 q29.1)),(51,(ow 3 0 q3.1.cells)),(52,(i64 q29.1)),(58,(i64 q31.1))]) ⟨.rfl,.rfl,.rfl,.rfl,.rfl,.rfl,trivial⟩) (AG (by kernel_rfl) ((hA32 _ _ _).1 A32_23459ab)) rfl)
     have A32_2359a:A32 11 #[false,false,true,true,false,true,false,false,false,true,true,false,false,false,false,false] ⟨63,AM [(2,(.ptr 1 0 0 0)),(3,(.ptr 2 0 0 0)),(49,(i64 q29.1)),(50,(.ptr 2 0 0 0)),(52,(i64 q29.1)),(56,(.ptr 0 0 0 0)),(57,(ow 5 0 [(1:Int),-1]))],[⟨0,43,2,[[(ls AI s0_0),(i64 q29.2)]]⟩,⟨0,26,2,[[.zc,.zc]]⟩,⟨0,26,2,[[(ow 3 0 q3.1.cells),(ow 4 0 q3.1.pending)]]⟩,(ro 0 30 3 AA q3.1.cells),(ro 0 3 1 eI q3.1.pending),(ro 0 3 1 eI [(1:Int),-1])]⟩:=(hA32 _ _ _).2 (by
      refine AJ [0,4,11] U (by kernel_rfl) (by decide) ⟨?_,?_,?_,trivial⟩
      ·refine AH (i:=0) rfl U (by rfl) ?_
       refine zq tb U ?_
       refine AE ⟨U,?_⟩
       exact AD (AF (L:=[(2,(.ptr 1 0 0 0)),(3,(.ptr 2 0 0 0)),(47,(.ptr 2 0 0 0)),(49,(i64 q29.1)),(50,(.ptr 2 0 0 0)),(52,(i64 q29.1)),(56,(.ptr 0 0 0 0)),(57,(ow 5 0 [(1:Int),-1]))]) ⟨.rfl,.rfl,.rfl,.rfl,.rfl,.rfl,.rfl,.rfl,trivial⟩) (AG (by kernel_rfl) ((hA32 _ _ _).1 A32_02359a)) rfl
      ·refine AH (i:=4) rfl U (by rfl) ?_
       refine zq tb U ?_
       refine AE ⟨U,?_⟩
       exact AD (AF (L:=[(2,(.ptr 1 0 0 0)),(3,(.ptr 2 0 0 0)),(49,(i64 q29.1)),(51,(ow 3 0 q3.1.cells)),(52,(i64 q29.1)),(56,(.ptr 0 0 0 0)),(57,(ow 5 0 [(1:Int),-1]))]) ⟨.rfl,.rfl,.rfl,.rfl,.rfl,.rfl,.rfl,trivial⟩) (AG (by kernel_rfl) ((hA32 _ _ _).1 A32_23459a)) rfl
      ·refine AH (i:=11) rfl U (by rfl) ?_
       refine Af (Wk.A2 (L:=[(2,(.ptr 1 0 0 0)),(3,(.ptr 2 0 0 0)),(49,(i64 q29.1)),(50,(.ptr 2 0 0 0)),(52,(i64 q29.1)),(56,(.ptr 0 0 0 0)),(57,(ls eI [(1:Int),-1]))]) (st':=[⟨0,43,2,[[(ls AI s0_0),(i64 q29.2)]]⟩,⟨0,26,2,[[.zc,.zc]]⟩,⟨0,26,2,[[(ow 3 0 q3.1.cells),(ow 4 0 q3.1.pending)]]⟩,(ro 0 30 3 AA q3.1.cells),(ro 0 3 1 eI q3.1.pending),⟨1,3,1,[]⟩]) (id:=5) rfl (show 1≤5 by decide) (AB fun _=>U) ⟨.rfl,.rfl,.rfl,.rfl,.rfl,.rfl,(.A2 U),trivial⟩ U) ?_
       refine Ad (rowsP:=[⟨0,43,2,[[(ls AI s0_0),(i64 q29.2)]]⟩]) (rows0:=[⟨0,43,2,[[(ls AI s0_0),(i64 q29.2)]]⟩]) (rows1:=[⟨0,43,2,[[(ls AI s0_0),(i64 q31.2)]]⟩]) (rows2:=[]) (rows1':=[⟨0,43,2,[[(ls AI s0_0),(i64 q31.2)]]⟩]) (rows2':=[]) (st':=[⟨0,43,2,[[(ls AI s0_0),(i64 q31.2)]]⟩,⟨0,26,2,[[.zc,.zc]]⟩,⟨0,26,2,[[(ow 3 0 q3.1.cells),(ow 4 0 q3.1.pending)]]⟩,(ro 0 30 3 AA q3.1.cells),(ro 0 3 1 eI q3.1.pending),⟨1,3,1,[]⟩]) (v':=(i64 q31.1)) [0] Ae EU (Ak gq31) rfl (by decide) rfl U (.raw U U .nil) rfl U (.raw U U .nil) .nil U U ?_
       refine AE ⟨U,?_⟩
       exact AD (by refine Wk.trans (AL (L:=[(2,(.ptr 1 0 0 0)),(3,(.ptr 2 0 0 0)),(49,(i64 q29.1)),(50,(.ptr 2 0 0 0)),(52,(i64 q29.1)),(58,(i64 q31.1))]) (st':=[⟨0,43,2,[[(ls AI s0_0),(i64 q31.2)]]⟩,⟨0,26,2,[[.zc,.zc]]⟩,⟨0,26,2,[[(ow 3 0 q3.1.cells),(ow 4 0 q3.1.pending)]]⟩,(ro 0 30 3 AA q3.1.cells),(ro 0 3 1 eI q3.1.pending)]) (st1:=[⟨0,43,2,[[(ls AI s0_0),(i64 q31.2)]]⟩,⟨0,26,2,[[.zc,.zc]]⟩,⟨0,26,2,[[(ow 3 0 q3.1.cells),(ow 4 0 q3.1.pending)]]⟩,(ro 0 30 3 AA q3.1.cells),(ro 0 3 1 eI q3.1.pending)]) [0,1,2,3,4] U (.raw U U .nil) (by decide) rfl U (.raw U U (.raw U U (.raw U U (.pure (AB fun _=>U) (.pure (AB fun _=>U) .nil))))) ⟨.rfl,.rfl,.rfl,.rfl,.rfl,.rfl,trivial⟩) ?_;exact AF (L:=[(2,(.ptr 1 0 0 0)),(3,(.ptr 2 0 0 0)),(49,(i64 q29.1)),(50,(.ptr 2 0 0 0)),(52,(i64 q29.1)),(58,(i64 q31.1))]) ⟨.rfl,.rfl,.rfl,.rfl,.rfl,.rfl,trivial⟩) (AG (by kernel_rfl) ((hA32 _ _ _).1 A32_2359ab)) rfl)
     have A32_2359:A32 12 #[false,false,true,true,false,true,false,false,false,true,false,false,false,false,false,false] ⟨63,AM [(2,(.ptr 1 0 0 0)),(3,(.ptr 2 0 0 0)),(49,(i64 q29.1)),(50,(.ptr 2 0 0 0)),(52,(i64 q29.1)),(56,(.ptr 0 0 0 0))],[⟨0,43,2,[[(ls AI s0_0),(i64 q29.2)]]⟩,⟨0,26,2,[[.zc,.zc]]⟩,⟨0,26,2,[[(ow 3 0 q3.1.cells),(ow 4 0 q3.1.pending)]]⟩,(ro 0 30 3 AA q3.1.cells),(ro 0 3 1 eI q3.1.pending)]⟩:=(hA32 _ _ _).2 (by
      refine AJ [0,4,10] U (by kernel_rfl) (by decide) ⟨?_,?_,?_,trivial⟩
      ·refine AH (i:=0) rfl U (by rfl) ?_
       refine zq tb U ?_
       refine AE ⟨U,?_⟩
       exact AD (AF (L:=[(2,(.ptr 1 0 0 0)),(3,(.ptr 2 0 0 0)),(47,(.ptr 2 0 0 0)),(49,(i64 q29.1)),(50,(.ptr 2 0 0 0)),(52,(i64 q29.1)),(56,(.ptr 0 0 0 0))]) ⟨.rfl,.rfl,.rfl,.rfl,.rfl,.rfl,.rfl,trivial⟩) (AG (by kernel_rfl) ((hA32 _ _ _).1 A32_02359)) rfl
      ·refine AH (i:=4) rfl U (by rfl) ?_
       refine zq tb U ?_
       refine AE ⟨U,?_⟩
       exact AD (AF (L:=[(2,(.ptr 1 0 0 0)),(3,(.ptr 2 0 0 0)),(49,(i64 q29.1)),(51,(ow 3 0 q3.1.cells)),(52,(i64 q29.1)),(56,(.ptr 0 0 0 0))]) ⟨.rfl,.rfl,.rfl,.rfl,.rfl,.rfl,trivial⟩) (AG (by kernel_rfl) ((hA32 _ _ _).1 A32_23459)) rfl
      ·refine AH (i:=10) rfl U (by rfl) ?_
       refine Bc (m:=5) (st':=[⟨0,43,2,[[(ls AI s0_0),(i64 q29.2)]]⟩,⟨0,26,2,[[.zc,.zc]]⟩,⟨0,26,2,[[(ow 3 0 q3.1.cells),(ow 4 0 q3.1.pending)]]⟩,(ro 0 30 3 AA q3.1.cells),(ro 0 3 1 eI q3.1.pending),(ro 0 3 1 eI [(1:Int),-1])]) (l:=[(1:Int),-1]) (enc:=eI) Ae Av (by decide) rfl U U U U U ?_
       refine AE ⟨U,?_⟩
       exact AD (AF (L:=[(2,(.ptr 1 0 0 0)),(3,(.ptr 2 0 0 0)),(49,(i64 q29.1)),(50,(.ptr 2 0 0 0)),(52,(i64 q29.1)),(56,(.ptr 0 0 0 0)),(57,(ow 5 0 [(1:Int),-1]))]) ⟨.rfl,.rfl,.rfl,.rfl,.rfl,.rfl,.rfl,trivial⟩) (AG (by kernel_rfl) ((hA32 _ _ _).1 A32_2359a)) rfl)
     have A32_259ab:A32 11 #[false,false,true,false,false,true,false,false,false,true,true,true,false,false,false,false] ⟨63,AM [(2,(.ptr 1 0 0 0)),(3,(.ptr 2 0 0 0)),(49,(i64 q29.1)),(52,(i64 q29.1)),(58,(i64 q31.1))],[⟨0,43,2,[[(ls AI s0_0),(i64 q31.2)]]⟩,⟨0,26,2,[[.zc,.zc]]⟩,⟨0,26,2,[[(ow 3 0 q3.1.cells),(ow 4 0 q3.1.pending)]]⟩,(ro 0 30 3 AA q3.1.cells),(ro 0 3 1 eI q3.1.pending)]⟩:=(hA32 _ _ _).2 (by
      refine AJ [0,3] U (by kernel_rfl) (by decide) ⟨?_,?_,trivial⟩
      ·refine AH (i:=0) rfl U (by rfl) ?_
       refine zq tb U ?_
       refine AE ⟨U,?_⟩
       exact AD (AF (L:=[(2,(.ptr 1 0 0 0)),(3,(.ptr 2 0 0 0)),(47,(.ptr 2 0 0 0)),(49,(i64 q29.1)),(52,(i64 q29.1)),(58,(i64 q31.1))]) ⟨.rfl,.rfl,.rfl,.rfl,.rfl,.rfl,trivial⟩) (AG (by kernel_rfl) ((hA32 _ _ _).1 A32_0259ab)) rfl
      ·refine AH (i:=3) rfl U (by rfl) ?_
       refine zq tb U ?_
       refine AE ⟨U,?_⟩
       exact AD (AF (L:=[(2,(.ptr 1 0 0 0)),(3,(.ptr 2 0 0 0)),(49,(i64 q29.1)),(50,(.ptr 2 0 0 0)),(52,(i64 q29.1)),(58,(i64 q31.1))]) ⟨.rfl,.rfl,.rfl,.rfl,.rfl,.rfl,trivial⟩) (AG (by kernel_rfl) ((hA32 _ _ _).1 A32_2359ab)) rfl)
     have A32_259a:A32 12 #[false,false,true,false,false,true,false,false,false,true,true,false,false,false,false,false] ⟨63,AM [(2,(.ptr 1 0 0 0)),(3,(.ptr 2 0 0 0)),(49,(i64 q29.1)),(52,(i64 q29.1)),(56,(.ptr 0 0 0 0)),(57,(ow 5 0 [(1:Int),-1]))],[⟨0,43,2,[[(ls AI s0_0),(i64 q29.2)]]⟩,⟨0,26,2,[[.zc,.zc]]⟩,⟨0,26,2,[[(ow 3 0 q3.1.cells),(ow 4 0 q3.1.pending)]]⟩,(ro 0 30 3 AA q3.1.cells),(ro 0 3 1 eI q3.1.pending),(ro 0 3 1 eI [(1:Int),-1])]⟩:=(hA32 _ _ _).2 (by
      refine AJ [0,3,11] U (by kernel_rfl) (by decide) ⟨?_,?_,?_,trivial⟩
      ·refine AH (i:=0) rfl U (by rfl) ?_
       refine zq tb U ?_
       refine AE ⟨U,?_⟩
       exact AD (AF (L:=[(2,(.ptr 1 0 0 0)),(3,(.ptr 2 0 0 0)),(47,(.ptr 2 0 0 0)),(49,(i64 q29.1)),(52,(i64 q29.1)),(56,(.ptr 0 0 0 0)),(57,(ow 5 0 [(1:Int),-1]))]) ⟨.rfl,.rfl,.rfl,.rfl,.rfl,.rfl,.rfl,trivial⟩) (AG (by kernel_rfl) ((hA32 _ _ _).1 A32_0259a)) rfl
      ·refine AH (i:=3) rfl U (by rfl) ?_
       refine zq tb U ?_
       refine AE ⟨U,?_⟩
       exact AD (AF (L:=[(2,(.ptr 1 0 0 0)),(3,(.ptr 2 0 0 0)),(49,(i64 q29.1)),(50,(.ptr 2 0 0 0)),(52,(i64 q29.1)),(56,(.ptr 0 0 0 0)),(57,(ow 5 0 [(1:Int),-1]))]) ⟨.rfl,.rfl,.rfl,.rfl,.rfl,.rfl,.rfl,trivial⟩) (AG (by kernel_rfl) ((hA32 _ _ _).1 A32_2359a)) rfl
      ·refine AH (i:=11) rfl U (by rfl) ?_
       refine Af (Wk.A2 (L:=[(2,(.ptr 1 0 0 0)),(3,(.ptr 2 0 0 0)),(49,(i64 q29.1)),(52,(i64 q29.1)),(56,(.ptr 0 0 0 0)),(57,(ls eI [(1:Int),-1]))]) (st':=[⟨0,43,2,[[(ls AI s0_0),(i64 q29.2)]]⟩,⟨0,26,2,[[.zc,.zc]]⟩,⟨0,26,2,[[(ow 3 0 q3.1.cells),(ow 4 0 q3.1.pending)]]⟩,(ro 0 30 3 AA q3.1.cells),(ro 0 3 1 eI q3.1.pending),⟨1,3,1,[]⟩]) (id:=5) rfl (show 1≤5 by decide) (AB fun _=>U) ⟨.rfl,.rfl,.rfl,.rfl,.rfl,(.A2 U),trivial⟩ U) ?_
       refine Ad (rowsP:=[⟨0,43,2,[[(ls AI s0_0),(i64 q29.2)]]⟩]) (rows0:=[⟨0,43,2,[[(ls AI s0_0),(i64 q29.2)]]⟩]) (rows1:=[⟨0,43,2,[[(ls AI s0_0),(i64 q31.2)]]⟩]) (rows2:=[]) (rows1':=[⟨0,43,2,[[(ls AI s0_0),(i64 q31.2)]]⟩]) (rows2':=[]) (st':=[⟨0,43,2,[[(ls AI s0_0),(i64 q31.2)]]⟩,⟨0,26,2,[[.zc,.zc]]⟩,⟨0,26,2,[[(ow 3 0 q3.1.cells),(ow 4 0 q3.1.pending)]]⟩,(ro 0 30 3 AA q3.1.cells),(ro 0 3 1 eI q3.1.pending),⟨1,3,1,[]⟩]) (v':=(i64 q31.1)) [0] Ae EU (Ak gq31) rfl (by decide) rfl U (.raw U U .nil) rfl U (.raw U U .nil) .nil U U ?_
       refine AE ⟨U,?_⟩
       exact AD (by refine Wk.trans (AL (L:=[(2,(.ptr 1 0 0 0)),(3,(.ptr 2 0 0 0)),(49,(i64 q29.1)),(52,(i64 q29.1)),(58,(i64 q31.1))]) (st':=[⟨0,43,2,[[(ls AI s0_0),(i64 q31.2)]]⟩,⟨0,26,2,[[.zc,.zc]]⟩,⟨0,26,2,[[(ow 3 0 q3.1.cells),(ow 4 0 q3.1.pending)]]⟩,(ro 0 30 3 AA q3.1.cells),(ro 0 3 1 eI q3.1.pending)]) (st1:=[⟨0,43,2,[[(ls AI s0_0),(i64 q31.2)]]⟩,⟨0,26,2,[[.zc,.zc]]⟩,⟨0,26,2,[[(ow 3 0 q3.1.cells),(ow 4 0 q3.1.pending)]]⟩,(ro 0 30 3 AA q3.1.cells),(ro 0 3 1 eI q3.1.pending)]) [0,1,2,3,4] U (.raw U U .nil) (by decide) rfl U (.raw U U (.raw U U (.raw U U (.pure (AB fun _=>U) (.pure (AB fun _=>U) .nil))))) ⟨.rfl,.rfl,.rfl,.rfl,.rfl,trivial⟩) ?_;exact AF (L:=[(2,(.ptr 1 0 0 0)),(3,(.ptr 2 0 0 0)),(49,(i64 q29.1)),(52,(i64 q29.1)),(58,(i64 q31.1))]) ⟨.rfl,.rfl,.rfl,.rfl,.rfl,trivial⟩) (AG (by kernel_rfl) ((hA32 _ _ _).1 A32_259ab)) rfl)
     have A32_259:A32 13 #[false,false,true,false,false,true,false,false,false,true,false,false,false,false,false,false] ⟨63,AM [(2,(.ptr 1 0 0 0)),(3,(.ptr 2 0 0 0)),(49,(i64 q29.1)),(52,(i64 q29.1)),(56,(.ptr 0 0 0 0))],[⟨0,43,2,[[(ls AI s0_0),(i64 q29.2)]]⟩,⟨0,26,2,[[.zc,.zc]]⟩,⟨0,26,2,[[(ow 3 0 q3.1.cells),(ow 4 0 q3.1.pending)]]⟩,(ro 0 30 3 AA q3.1.cells),(ro 0 3 1 eI q3.1.pending)]⟩:=(hA32 _ _ _).2 (by
      refine AJ [0,3,10] U (by kernel_rfl) (by decide) ⟨?_,?_,?_,trivial⟩
      ·refine AH (i:=0) rfl U (by rfl) ?_
       refine zq tb U ?_
       refine AE ⟨U,?_⟩
       exact AD (AF (L:=[(2,(.ptr 1 0 0 0)),(3,(.ptr 2 0 0 0)),(47,(.ptr 2 0 0 0)),(49,(i64 q29.1)),(52,(i64 q29.1)),(56,(.ptr 0 0 0 0))]) ⟨.rfl,.rfl,.rfl,.rfl,.rfl,.rfl,trivial⟩) (AG (by kernel_rfl) ((hA32 _ _ _).1 A32_0259)) rfl
      ·refine AH (i:=3) rfl U (by rfl) ?_
       refine zq tb U ?_
       refine AE ⟨U,?_⟩
       exact AD (AF (L:=[(2,(.ptr 1 0 0 0)),(3,(.ptr 2 0 0 0)),(49,(i64 q29.1)),(50,(.ptr 2 0 0 0)),(52,(i64 q29.1)),(56,(.ptr 0 0 0 0))]) ⟨.rfl,.rfl,.rfl,.rfl,.rfl,.rfl,trivial⟩) (AG (by kernel_rfl) ((hA32 _ _ _).1 A32_2359)) rfl
      ·refine AH (i:=10) rfl U (by rfl) ?_
       refine Bc (m:=5) (st':=[⟨0,43,2,[[(ls AI s0_0),(i64 q29.2)]]⟩,⟨0,26,2,[[.zc,.zc]]⟩,⟨0,26,2,[[(ow 3 0 q3.1.cells),(ow 4 0 q3.1.pending)]]⟩,(ro 0 30 3 AA q3.1.cells),(ro 0 3 1 eI q3.1.pending),(ro 0 3 1 eI [(1:Int),-1])]) (l:=[(1:Int),-1]) (enc:=eI) Ae Av (by decide) rfl U U U U U ?_
       refine AE ⟨U,?_⟩
       exact AD (AF (L:=[(2,(.ptr 1 0 0 0)),(3,(.ptr 2 0 0 0)),(49,(i64 q29.1)),(52,(i64 q29.1)),(56,(.ptr 0 0 0 0)),(57,(ow 5 0 [(1:Int),-1]))]) ⟨.rfl,.rfl,.rfl,.rfl,.rfl,.rfl,trivial⟩) (AG (by kernel_rfl) ((hA32 _ _ _).1 A32_259a)) rfl)
     have A32_25:A32 14 #[false,false,true,false,false,true,false,false,false,false,false,false,false,false,false,false] ⟨63,AM [(0,(.ptr 0 0 0 0)),(2,(.ptr 1 0 0 0)),(3,(.ptr 2 0 0 0)),(49,(i64 q29.1)),(52,(i64 q29.1))],[⟨0,43,2,[[(ls AI s0_0),(i64 q29.2)]]⟩,⟨0,26,2,[[.zc,.zc]]⟩,⟨0,26,2,[[(ow 3 0 q3.1.cells),(ow 4 0 q3.1.pending)]]⟩,(ro 0 30 3 AA q3.1.cells),(ro 0 3 1 eI q3.1.pending)]⟩:=(hA32 _ _ _).2 (by
      refine Bf 9 (v:=(.ptr 0 0 0 0)) rfl U (by kernel_rfl) (by kernel_rfl) (by kernel_rfl) rfl (Cc U) ?_
      exact AD (AF (L:=[(2,(.ptr 1 0 0 0)),(3,(.ptr 2 0 0 0)),(49,(i64 q29.1)),(52,(i64 q29.1)),(56,(.ptr 0 0 0 0))]) ⟨.rfl,.rfl,.rfl,.rfl,.rfl,trivial⟩) (AG (by kernel_rfl) ((hA32 _ _ _).1 A32_259)) rfl)
     have A32_2:A32 15 #[false,false,true,false,false,false,false,false,false,false,false,false,false,false,false,false] ⟨63,AM [(0,(.ptr 0 0 0 0)),(2,(.ptr 1 0 0 0)),(3,(.ptr 2 0 0 0)),(5,(i64 q29.1)),(49,(i64 q29.1))],[⟨0,43,2,[[(ls AI s0_0),(i64 q29.2)]]⟩,⟨0,26,2,[[.zc,.zc]]⟩,⟨0,26,2,[[(ow 3 0 q3.1.cells),(ow 4 0 q3.1.pending)]]⟩,(ro 0 30 3 AA q3.1.cells),(ro 0 3 1 eI q3.1.pending)]⟩:=(hA32 _ _ _).2 (by
      refine Bf 5 (v:=(i64 q29.1)) rfl U (by kernel_rfl) (by kernel_rfl) (by kernel_rfl) rfl (Cc U) ?_
      exact AD (AF (L:=[(0,(.ptr 0 0 0 0)),(2,(.ptr 1 0 0 0)),(3,(.ptr 2 0 0 0)),(49,(i64 q29.1)),(52,(i64 q29.1))]) ⟨.rfl,.rfl,.rfl,.rfl,.rfl,trivial⟩) (AG (by kernel_rfl) ((hA32 _ _ _).1 A32_25)) rfl)
     have A32_e:A32 16 #[false,false,false,false,false,false,false,false,false,false,false,false,false,false,false,false] ⟨63,AM [(0,(.ptr 0 0 0 0)),(2,(.ptr 1 0 0 0)),(3,(.ptr 2 0 0 0)),(5,(i64 q29.1))],[⟨0,43,2,[[(ls AI s0_0),(i64 q29.2)]]⟩,⟨0,26,2,[[.zc,.zc]]⟩,⟨0,26,2,[[(ow 3 0 q3.1.cells),(ow 4 0 q3.1.pending)]]⟩,(ro 0 30 3 AA q3.1.cells),(ro 0 3 1 eI q3.1.pending)]⟩:=(hA32 _ _ _).2 (by
      refine Bf 2 (v:=(i64 q29.1)) rfl U (by kernel_rfl) (by kernel_rfl) (by kernel_rfl) rfl (Cc U) ?_
      exact AD (AF (L:=[(0,(.ptr 0 0 0 0)),(2,(.ptr 1 0 0 0)),(3,(.ptr 2 0 0 0)),(5,(i64 q29.1)),(49,(i64 q29.1))]) ⟨.rfl,.rfl,.rfl,.rfl,.rfl,trivial⟩) (AG (by kernel_rfl) ((hA32 _ _ _).1 A32_2)) rfl)
     refine (hA32 _ _ _).2 ?_
     exact AD (by refine Wk.trans (AL (L:=[(0,(.ptr 0 0 0 0)),(2,(.ptr 1 0 0 0)),(3,(.ptr 2 0 0 0)),(5,(i64 q29.1))]) (st':=[⟨0,43,2,[[(ls AI s0_0),(i64 q29.2)]]⟩,⟨0,26,2,[[.zc,.zc]]⟩,⟨0,26,2,[[(ow 3 0 q3.1.cells),(ow 4 0 q3.1.pending)]]⟩,(ro 0 30 3 AA q3.1.cells),(ro 0 3 1 eI q3.1.pending)]) (st1:=[⟨0,43,2,[[(ls AI s0_0),(i64 q29.2)]]⟩,⟨0,26,2,[[.zc,.zc]]⟩,⟨0,26,2,[[(ow 2 0 q3.1.cells),(ow 3 0 q3.1.pending)]]⟩,(ro 0 30 3 AA q3.1.cells),(ro 0 3 1 eI q3.1.pending)]) [0,1,4,2,3] U (.raw U U .nil) (by decide) rfl U (.raw U U (.raw U U (.raw U U (.pure (AB fun _=>U) (.pure (AB fun _=>U) .nil))))) ⟨.rfl,.rfl,.rfl,.rfl,trivial⟩) ?_;exact AF (L:=[(0,(.ptr 0 0 0 0)),(2,(.ptr 1 0 0 0)),(3,(.ptr 2 0 0 0)),(5,(i64 q29.1))]) ⟨.rfl,.rfl,.rfl,.rfl,trivial⟩) (AG (by kernel_rfl) ((hA32 _ _ _).1 A32_e)) rfl
    ·intro b27 h1
     exact AU (M9 q12.2 q3.1.pending q3.1.cells (Sh.AK h1).symm _ (by refine Wk.trans (Ez (id:=4) (m:=3) (i:=0) (j:=1) (st':=[⟨0,43,2,[[(ls AI s0_0),(i64 q12.2)]]⟩,⟨0,26,2,[[.zc,.zc]]⟩,(ro 0 30 3 AA q3.1.cells),⟨1,3,1,[]⟩,⟨0,26,2,[[(ow 2 0 q3.1.cells),(ls eI q3.1.pending)]]⟩]) rfl U U U (by simp) (by decide) (show 1≤3 by decide) (AB fun _=>U) rfl) ?_;exact AL (L:=[(2,(.ptr 1 0 0 0)),(3,(.ptr 3 0 0 0))]) (st':=[⟨0,43,2,[[(ls AI s0_0),(i64 q12.2)]]⟩,⟨0,26,2,[[.zc,.zc]]⟩,(ro 0 30 3 AA q3.1.cells),⟨0,26,2,[[(ow 2 0 q3.1.cells),(ls eI q3.1.pending)]]⟩]) (st1:=[⟨0,43,2,[[(ls AI s0_0),(i64 q12.2)]]⟩,⟨0,26,2,[[.zc,.zc]]⟩,(ro 0 30 3 AA q3.1.cells),⟨0,26,2,[[(ow 2 0 q3.1.cells),(ls eI q3.1.pending)]]⟩]) [0,1,2,4] U (.raw U U .nil) (by decide) rfl U (.raw U U (.raw U U (.pure (AB fun _=>U) (.raw U U .nil)))) ⟨.rfl,.rfl,trivial⟩))
   ·intro b25 h1
    exact AU (M9 q12.2 q3.1.pending q3.1.cells (Sh.AK h1).symm _ (by refine Wk.trans (Ez (id:=4) (m:=3) (i:=0) (j:=1) (st':=[⟨0,43,2,[[(ls AI s0_0),(i64 q12.2)]]⟩,⟨0,26,2,[[.zc,.zc]]⟩,(ro 0 30 3 AA q3.1.cells),⟨1,3,1,[]⟩,⟨0,26,2,[[(ow 2 0 q3.1.cells),(ls eI q3.1.pending)]]⟩]) rfl U U U (by simp) (by decide) (show 1≤3 by decide) (AB fun _=>U) rfl) ?_;exact AL (L:=[(2,(.ptr 1 0 0 0)),(3,(.ptr 3 0 0 0))]) (st':=[⟨0,43,2,[[(ls AI s0_0),(i64 q12.2)]]⟩,⟨0,26,2,[[.zc,.zc]]⟩,(ro 0 30 3 AA q3.1.cells),⟨0,26,2,[[(ow 2 0 q3.1.cells),(ls eI q3.1.pending)]]⟩]) (st1:=[⟨0,43,2,[[(ls AI s0_0),(i64 q12.2)]]⟩,⟨0,26,2,[[.zc,.zc]]⟩,(ro 0 30 3 AA q3.1.cells),⟨0,26,2,[[(ow 2 0 q3.1.cells),(ls eI q3.1.pending)]]⟩]) [0,1,2,4] U (.raw U U .nil) (by decide) rfl U (.raw U U (.raw U U (.pure (AB fun _=>U) (.raw U U .nil)))) ⟨.rfl,.rfl,trivial⟩))
theorem G5 {N:Nat} {p0:(List Int)} {r:BK} (h0:C0 N p0=some r):Ag Try.prog 5 [(ls AI p0)] [] (fun v st=>v=(.agg (BB r))∧st=[]):=by
 unfold C0 at h0
 refine Ag.flat U ?_
 refine ai Try.func5 U U U U ?_
 refine sr U fun K1 hK1=>?_
 refine BF (m:=0) (st':=[⟨0,26,2,[[.zc,.zc]]⟩]) Ae C5 U U ?_
 refine dn hK1 U ?_
 refine sr U fun K2 hK2=>?_
 refine zq tb U ?_
 obtain⟨q3,gq3,h0⟩:=Sh.bind_some h0
 refine BJ (v':=(.ptr 1 0 0 0)) (st':=[⟨0,26,2,[[.zc,.zc]]⟩,⟨0,43,2,[[(ls AI q3.1),(i64 q3.2)]]⟩]) Ae SZ (IS gq3) rfl U ⟨(Py U).any,trivial⟩ U U ?_
 obtain⟨q4,gq4,h0⟩:=Sh.bind_some h0
 refine Ad (rowsP:=[⟨0,43,2,[[(ls AI q3.1),(i64 q3.2)]]⟩]) (rows0:=[⟨0,43,2,[[(ls AI q3.1),(i64 q3.2)]]⟩]) (rows1:=[⟨0,43,2,[[(ls AI q3.1),(i64 q4.2)]]⟩]) (rows2:=[(ro 0 30 3 AA q4.1.cells)]) (rows1':=[⟨0,43,2,[[(ls AI q3.1),(i64 q4.2)]]⟩]) (rows2':=[(ro 0 30 3 AA q4.1.cells)]) (st':=[⟨0,26,2,[[.zc,.zc]]⟩,⟨0,43,2,[[(ls AI q3.1),(i64 q4.2)]]⟩,(ro 0 30 3 AA q4.1.cells)]) (v':=(.agg [(ow 2 0 q4.1.cells),(ls eI q4.1.pending)])) [1] Ae S9 (Jk gq4) rfl (by decide) rfl U (.raw U U .nil) rfl U (.raw U U .nil) (.pure (AB fun _=>U) .nil) rfl U ?_
 refine Af (Wk.A2 (L:=[(2,(.ptr 0 0 0 0)),(5,(.agg (BB q4.1)))]) (st':=[⟨0,26,2,[[.zc,.zc]]⟩,⟨0,43,2,[[(ls AI q3.1),(i64 q4.2)]]⟩,⟨1,30,3,[]⟩]) (id:=2) rfl (show 0≤2 by decide) (AB fun _=>U) ⟨.rfl,(.agg ⟨(.E6 U),.rfl,trivial⟩),trivial⟩ U) ?_
 refine Bt (st':=[⟨0,26,2,[(BB q4.1)]⟩,⟨0,43,2,[[(ls AI q3.1),(i64 q4.2)]]⟩,⟨1,30,3,[]⟩]) Ae DU U U U U U U (show 0+2≤2 by decide) rfl ?_
 refine dn hK2 U ?_
 replace h0:=Sh.AK h0
 subst r
 exact AZ (Exists.intro _ (And.intro (KG _ _) (D3 (x:=.tmp 2) (off:=0) (cs:=(BB q4.1)) (vs:=(BB q4.1)) DU U U U (show 0+2≤2 by decide) rfl _ U)))
theorem EW {p0:(List Cell)} {r:(List Cell)} (h0:BG p0=some r):Ag Try.prog 18 [(ls AA p0)] [] (fun v st=>v=(ow 0 0 r)∧st=[(ro 0 30 3 AA r)]):=by
 unfold BG at h0
 refine ai Try.func18 U U U U ?_
 refine zr tb U U ?_
 refine AN fun K2 hK2=>?_
 refine sr U fun K3 hK3=>?_
 refine zq tb U ?_
 refine O9 Ae Ec U (fun hn=>?_) ?_
 ·subst hn
  replace h0:some []=some r:=by rw[← h0];first | rfl | simp[Sh.app]
  refine dn hK3 U ?_
  refine FP (b:=true) rfl (fun _=>?_) (fun q=>nomatch (show true=false from (U:true=true).symm.trans q))
  refine zr tb U U ?_
  replace h0:=Sh.AK h0
  subst r
  exact AZ (Exists.intro _ (And.intro (((Ct (t:=2) rfl 30 (size:=3) (by decide)).trans (AF (L:=[(2,(.own 0 0 (List.length ([]:List Cell))))]) ⟨.rfl,trivial⟩)).trans (AF (L:=[(2,(.own 0 0 (List.length ([]:List Cell))))]) ⟨.rfl,trivial⟩)) (And.intro U U)))
 ·refine dn hK3 U ?_
  refine FP (b:=false) rfl (fun q=>nomatch (show false=true from (U:false=false).symm.trans q)) (fun _=>?_)
  refine AU (hK2 _ ?_)
  refine sr U fun K5 hK5=>?_
  refine Bc (m:=0) (st':=[(ro 0 30 3 AA ([]:List Cell))]) (l:=([]:List Cell)) (enc:=AA) Ae A3 (by decide) rfl U U U U U ?_
  refine zq tb U ?_
  obtain⟨l6,gl6,h0⟩:=Sh.bind_some h0
  refine EP (st':=[(ro 1 30 3 AA l6)]) (l2:=p0) Ae A3 U U U U MF (fun _=>U) gl6 U ?_
  refine zq tb U ?_
  refine dn hK5 U ?_
  replace h0:=Sh.AK h0
  subst r
  exact AZ (xr (Fy (L:=[(2,(ow 0 0 l6))]) (st':=[(ro 0 30 3 AA l6)]) (.pure (AB fun _=>U) .nil) ⟨.rfl,trivial⟩))
theorem FX {p0:(List Cell)} {p1:Int} {r:Int×Bool} (h0:C4 p0 p1=some r):Ag Try.prog 26 [(ls AA p0),(i64 p1)] [] (fun v st=>v=(.BI [(i64 r.1),(.bool r.2)])∧st=[]):=by
 unfold C4 at h0
 refine ai Try.func26 U U U U ?_
 iterate 2 refine zr tb rfl rfl ?_
 refine AN fun K3 hK3=>?_
 obtain⟨o5,h1,h0⟩:=Sh.bind_some h0
 have M5 :∀(t4:Bool),o5=t4→∀s,Wk 0 s ⟨26,AM [(4,(i64 (Sh.w (p1 - 1000)))),(5,(.bool t4))],[]⟩→K3 s:=by
  intro t4 hq s hw
  subst o5
  try dsimp only at h0
  refine hK3 _ (AS hw ?_)
  replace h0:=Sh.AK h0
  subst r
  exact AZ (xr (AF (L:=[(4,(i64 (Sh.w (p1 - 1000)))),(5,(.bool t4))]) ⟨.rfl,.rfl,trivial⟩))
 refine E9 (by kernel_rfl) (by kernel_rfl) (by rfl) ?_
 iterate 4 refine yq tb rfl ?_
 rcases Sh.Ar h1 with ⟨b6,h1⟩ | ⟨b6,h1⟩
 ·refine yg tb b6 U ?_
  refine yg tb b6 U ?_
  refine Gu (v:=(i64 (Sh.len p0))) (Ce U U b6) rfl (Ea Ec U) ?_
  refine yg tb b6 U ?_
  refine yt b6 U ?_
  refine yq tb U ?_
  rcases Sh.Ar h1 with ⟨b7,h1⟩ | ⟨b7,h1⟩
  ·refine yg tb b7 U ?_
   refine yg tb b7 U ?_
   obtain⟨c8,gc8,h1⟩:=Sh.bind_some h1
   refine Gu (v:=(.B4 (AA c8) 0)) (Ce U U b7) rfl (Ei A3 U U gc8 U) ?_
   iterate 3 refine yg tb b7 rfl ?_
   refine yt b7 U ?_
   iterate 2 refine yq tb rfl ?_
   exact DN (M5 (decide (0 < c8.count)) (Sh.AK h1).symm _ (AP U))
  ·refine ys b7 U ?_
   iterate 5 refine ys b7 rfl ?_
   refine yf b7 U ?_
   iterate 2 refine yq tb rfl ?_
   exact DN (M5 false (Sh.AK h1).symm _ (AP U))
 ·refine ys b6 U ?_
  iterate 3 refine ys b6 rfl ?_
  refine yf b6 U ?_
  refine yq tb U ?_
  iterate 6 refine ys rfl rfl ?_
  refine yf U U ?_
  iterate 2 refine yq tb rfl ?_
  exact DN (M5 false (Sh.AK h1).symm _ (AP U))
theorem LO {p0:Int} {r:Bool} (h0:FL p0=some r):Ag Try.prog 50 [(i64 p0)] [] (fun v st=>v=(.bool r)∧st=[]):=by
 unfold FL at h0
 refine ai Try.func50 U U U U ?_
 refine zr tb U U ?_
 refine AN fun K2 hK2=>?_
 obtain⟨o4,h1,h0⟩:=Sh.bind_some h0
 have M4 :∀(t3:Bool),o4=t3→∀s,Wk 0 s ⟨9,AM [(2,(.bool t3))],[]⟩→K2 s:=by
  intro t3 hq s hw
  subst o4
  try dsimp only at h0
  refine hK2 _ (AS hw ?_)
  replace h0:=Sh.AK h0
  subst r
  exact AZ (xr (AF (L:=[(2,(.bool t3))]) ⟨.rfl,trivial⟩))
 refine AR (by rfl) ?_
 refine zm tb 3 U ?_
 rcases Sh.Ar h1 with ⟨b5,h1⟩ | ⟨b5,h1⟩
 ·refine zg tb b5 U ?_
  refine zg tb b5 U ?_
  refine zt b5 U ?_
  refine zq tb U ?_
  exact AE (M4 (decide (p0≤999)) (Sh.AK h1).symm _ (AP U))
 ·refine zs b5 U ?_
  refine zs b5 U ?_
  refine zf b5 U ?_
  refine zq tb U ?_
  exact AE (M4 false (Sh.AK h1).symm _ (AP U))
theorem Ig {p0:(List Cell)} {p1:Int} {r:Bool} (h0:DK p0 p1=some r):Ag Try.prog 38 [(ls AA p0),(i64 p1)] [] (fun v st=>v=(.bool r)∧st=[]):=by
 unfold DK at h0
 refine ai Try.func38 U U U U ?_
 refine zr tb U U ?_
 refine sr U fun K2 hK2=>?_
 refine zm tb 2 U ?_
 obtain⟨q3,gq3,h0⟩:=Sh.bind_some h0
 refine zc (v':=(.BI [(i64 q3.1),(.bool q3.2)])) Qz (FX gq3) rfl U U ?_
 refine zm tb 5 U ?_
 refine dn hK2 U ?_
 refine AN fun K4 hK4=>?_
 obtain⟨o6,h1,h0⟩:=Sh.bind_some h0
 have M6 :∀(t5:Bool),o6=t5→∀s,Wk 0 s ⟨18,AM [(4,(.bool t5))],[]⟩→K4 s:=by
  intro t5 hq s hw
  subst o6
  try dsimp only at h0
  refine hK4 _ (AS hw ?_)
  replace h0:=Sh.AK h0
  subst r
  exact AZ (xr (AF (L:=[(4,(.bool t5))]) ⟨.rfl,trivial⟩))
 refine AR (by rfl) ?_
 refine zm tb 2 U ?_
 rcases Sh.Ar h1 with ⟨b7,h1⟩ | ⟨b7,h1⟩
 ·refine zs b7 U ?_
  refine zs b7 U ?_
  refine zt b7 U ?_
  refine zq tb U ?_
  exact AE (M6 true (Sh.AK h1).symm _ (AP U))
 ·refine zg tb b7 U ?_
  obtain⟨q8,gq8,h1⟩:=Sh.bind_some h1
  refine zd b7 Sc (LO gq8) rfl U U U ?_
  refine zf b7 U ?_
  refine zq tb U ?_
  exact AE (M6 q8 (Sh.AK h1).symm _ (AP U))
end Go.Proofs.Ythapbpfhdnmboaa

