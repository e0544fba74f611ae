import Derived.Test.YthapbpfhdnmboaaProg
import Derived.Test.YthapbpfhdnmboaaGHADefsToLPDefs
import Derived.Test.YthapbpfhdnmboaaLPWalkP1
namespace Go.Proofs.Ythapbpfhdnmboaa
open Go Go.Abs RC
attribute [local irreducible] Go.Abs.B6
set_option maxRecDepth 100000
set_option maxHeartbeats 4000000

theorem Sy:Al Try.prog 28=true:=by kernel_rfl
theorem Rs:Al Try.prog 29=true:=by kernel_rfl
theorem Sx:Al Try.prog 30=true:=by kernel_rfl
theorem Qr:Al Try.prog 47=true:=by kernel_rfl

theorem E3 {N:Nat} {s0:(List Cell)} {s1:(List Int)} {r:(List Cell)} (h0:D5 N s0 s1=some r):Ag Try.prog 47 [(.agg [(ow 0 0 s0),(ow 1 0 s1)])] [(ro 0 30 3 AA s0),(ro 0 3 1 eI s1)] (fun v st=>v=(ow 0 1 r)∧st=[(ro 1 30 3 AA r),(ro 0 3 1 eI s1)]):=by
 unfold D5 at h0
 refine ai Try.func47 U U U U ?_
 refine sr U fun K1 hK1=>?_
 refine Df (m:=2) (st':=[(ro 0 30 3 AA s0),(ro 0 3 1 eI s1),⟨0,26,2,[[(ow 0 0 s0),(ow 1 0 s1)]]⟩]) Ae U U U U U ?_
 refine zq tb U ?_
 refine dn hK1 U ?_
 refine sr U fun K2 hK2=>?_
 refine zm tb 2 U ?_
 refine zz (i64 (Sh.len s0)) (Bj Ec U U U) rfl ?_
 refine zq tb U ?_
 refine dn hK2 U ?_
 refine AN fun K3 hK3=>?_
 obtain⟨o6,h1,h0⟩:=Sh.bind_some h0
 have M6 :∀(n5:Int),o6=n5→∀s,Wk 2 s ⟨33,AM [(1,(.ptr 2 0 0 0)),(3,(i64 n5))],[(ro 0 30 3 AA s0),(ro 0 3 1 eI s1),⟨0,26,2,[[(ow 0 0 s0),(ow 1 0 s1)]]⟩]⟩→K3 s:=by
  intro n5 hq s hw
  subst o6
  try dsimp only at h0
  refine hK3 _ (AS hw ?_)
  refine sr U fun K7 hK7=>?_
  refine zm tb 3 U ?_
  obtain⟨l8,gl8,h0⟩:=Sh.bind_some h0
  refine KC (st':=[(ro 1 30 3 AA l8),(ro 0 3 1 eI s1),⟨0,26,2,[[(ow 0 0 s0),(ow 1 0 s1)]]⟩]) Ae A3 U U U U gl8 U ?_
  refine zq tb U ?_
  refine dn hK7 U ?_
  replace h0:=Sh.AK h0
  subst r
  exact AZ (xr (AL (L:=[(2,(ow 0 1 l8))]) (st':=[(ro 1 30 3 AA l8),(ro 0 3 1 eI s1)]) (st1:=[(ro 1 30 3 AA l8),(ro 0 3 1 eI s1)]) [0,1] U (.pure (AB fun _=>U) (.pure (AB fun _=>U) .nil)) (by decide) rfl U (.pure (AB fun _=>U) (.pure (AB fun _=>U) .nil)) ⟨.rfl,trivial⟩))
 refine AY (Ap (σ:=Int) (fun n v=>CG N s0 s1 n v=some o6) (fun n4=>⟨33,AM [(1,(.ptr 2 0 0 0)),(3,(i64 n4))],[(ro 0 30 3 AA s0),(ro 0 3 1 eI s1),⟨0,26,2,[[(ow 0 0 s0),(ow 1 0 s1)]]⟩]⟩) N (Sh.len s0) h1 (AP U) (fun _ hv=>by rw[CG] at hv;cases hv) ?_)
 rintro n n4 h1
 try dsimp only at h1 ⊢
 rw[CG] at h1
 refine AN fun K9 hK9=>?_
 refine AN fun K10 hK10=>?_
 obtain⟨o12,h2,h1⟩:=Sh.bind_some h1
 have M12 :∀(t11:Bool),o12=t11→∀s,Wk 2 s ⟨33,AM [(1,(.ptr 2 0 0 0)),(3,(i64 n4)),(26,(.bool t11))],[(ro 0 30 3 AA s0),(ro 0 3 1 eI s1),⟨0,26,2,[[(ow 0 0 s0),(ow 1 0 s1)]]⟩]⟩→K10 s:=by
  intro t11 hq s hw
  subst o12
  try dsimp only at h1
  refine hK10 _ (AS hw ?_)
  refine ci h1 U ?_ ?_ <;> clear h1
  ·intro b13 h1
   refine AU (hK9 _ ?_)
   refine AY ?_
   refine AR (by rfl) ?_
   refine zm tb 3 U ?_
   exact AE (xi (Sh.w (n4 - 1)) h1 (AP U))
  ·intro b13 h1
   exact Au (M6 n4 (Sh.AK h1).symm _ (AP U))
 refine AR (by rfl) ?_
 refine zm tb 3 U ?_
 rcases Sh.Ar h2 with ⟨b14,h2⟩ | ⟨b14,h2⟩
 ·refine zg tb b14 U ?_
  iterate 3 refine zg tb b14 rfl ?_
  obtain⟨c15,gc15,h2⟩:=Sh.bind_some h2
  refine CY (v:=(.ptr 0 0 (Int.toNat (Sh.w (n4 - 1))) 0)) (Ce U U b14) rfl (An A3 U U U U gc15) ?_
  refine zg tb b14 U ?_
  refine CY (v:=(i64 c15.count)) (Ce U U b14) rfl (Aw CM U U (Am gc15) rfl) ?_
  refine zg tb b14 U ?_
  refine zt b14 U ?_
  refine zq tb U ?_
  rcases Sh.Ar h2 with ⟨b16,h2⟩ | ⟨b16,h2⟩
  ·refine zg tb b16 U ?_
   iterate 3 refine zg tb b16 rfl ?_
   obtain⟨q17,gq17,h2⟩:=Sh.bind_some h2
   refine DJ (v':=(.bool q17)) (st':=[(ro 0 30 3 AA s0),(ro 0 3 1 eI s1),⟨0,26,2,[[(ow 0 0 s0),(ow 1 0 s1)]]⟩]) (Ce U U b16) Rt (IL gq17) rfl (.own U U (fun _=>U) (.val U .nil)) rfl trivial U U ?_
   refine zg tb b16 U ?_
   refine zt b16 U ?_
   exact AE (M12 (!q17) (Sh.AK h2).symm _ (AP U))
  ·refine zs b16 U ?_
   iterate 5 refine zs b16 rfl ?_
   refine zf b16 U ?_
   exact AE (M12 false (Sh.AK h2).symm _ (AP U))
 ·refine zs b14 U ?_
  iterate 7 refine zs b14 rfl ?_
  refine zf b14 U ?_
  refine zq tb U ?_
  iterate 6 refine zs rfl rfl ?_
  refine zf U U ?_
  exact AE (M12 false (Sh.AK h2).symm _ (AP U))
theorem J3 {N:Nat} {s0:(List Cell)} {s1:(List Int)} {p1:Int} {r:BK} (h0:Ey N s0 s1 p1=some r):Ag Try.prog 30 [(.agg [(ow 0 0 s0),(ow 1 0 s1)]),(i64 p1)] [(ro 0 30 3 AA s0),(ro 0 3 1 eI s1)] (fun v st=>v=(.agg [(ow 2 0 r.cells),(ow 3 0 r.pending)])∧st=[⟨1,30,3,[]⟩,⟨1,3,1,[]⟩,(ro 0 30 3 AA r.cells),(ro 0 3 1 eI r.pending)]):=by
 unfold Ey at h0
 refine Ag.wk (r0:=(.agg [(ow 2 0 r.cells),(ow 3 0 r.pending)])) (st0:=[⟨1,30,3,[]⟩,⟨1,3,1,[]⟩,(ro 0 30 3 AA r.cells),(ro 0 3 1 eI r.pending),⟨0,26,2,[[(ow 2 0 r.cells),(ow 3 0 r.pending)]]⟩]) ?_ (E8 (L:=[(0,(.agg [(ow 2 0 r.cells),(ow 3 0 r.pending)]))]) (st':=[⟨1,30,3,[]⟩,⟨1,3,1,[]⟩,(ro 0 30 3 AA r.cells),(ro 0 3 1 eI r.pending)]) [0,1,2,3] U (by decide) rfl U (.pure (by intro x hx;cases hx) (.pure (by intro x hx;cases hx) (.pure (AB fun _=>U) (.pure (AB fun _=>U) trivial)))) ⟨.rfl,trivial⟩)
 refine ai Try.func30 U U U U ?_
 refine AS (Ju (L:=[(0,(.agg [(ow 2 0 s0),(ow 1 0 s1)])),(1,(i64 p1))]) (id:=0) (N:=2) (st':=[⟨1,30,3,[]⟩,(ro 0 3 1 eI s1),(ro 0 30 3 AA s0)]) rfl U ⟨.rfl,.rfl,trivial⟩ U) ?_
 refine AS (Ju (L:=[(0,(.agg [(ow 2 0 s0),(ow 3 0 s1)])),(1,(i64 p1))]) (id:=1) (N:=3) (st':=[⟨1,30,3,[]⟩,⟨1,3,1,[]⟩,(ro 0 30 3 AA s0),(ro 0 3 1 eI s1)]) rfl U ⟨.rfl,.rfl,trivial⟩ U) ?_
 refine sr U fun K1 hK1=>?_
 refine Df (m:=4) (st':=[⟨1,30,3,[]⟩,⟨1,3,1,[]⟩,(ro 0 30 3 AA s0),(ro 0 3 1 eI s1),⟨0,26,2,[[(ow 2 0 s0),(ow 3 0 s1)]]⟩]) Ae U U U U U ?_
 refine BF (m:=5) (st':=[⟨1,30,3,[]⟩,⟨1,3,1,[]⟩,(ro 0 30 3 AA s0),(ro 0 3 1 eI s1),⟨0,26,2,[[(ow 2 0 s0),(ow 3 0 s1)]]⟩,⟨0,26,2,[[.zc,.zc]]⟩]) Ae C5 U U ?_
 refine dn hK1 U ?_
 refine AN fun K2 hK2=>?_
 refine zr tb U U ?_
 obtain⟨o9,h1,h0⟩:=Sh.bind_some h0
 have M9 :∀(l7:(List Cell)) (l8:(List Int)),o9=(l7,l8)→∀s,Wk 2 s ⟨63,AM [(2,(.ptr 4 0 0 0)),(4,(.ptr 5 0 0 0))],[⟨1,30,3,[]⟩,⟨1,3,1,[]⟩,(ro 0 30 3 AA l7),(ro 0 3 1 eI l8),⟨0,26,2,[[(ow 2 0 l7),(ow 3 0 l8)]]⟩,⟨0,26,2,[[.zc,.zc]]⟩]⟩→K2 s:=by
  intro l7 l8 hq s hw
  subst o9
  try dsimp only at h0
  refine hK2 _ (AS hw ?_)
  refine AN fun K10 hK10=>?_
  refine Dd (by kernel_rfl) ?_
  obtain⟨q11,gq11,h0⟩:=Sh.bind_some h0
  refine Et fun A12 hA12=>?_
  have A12_012345:A12 0 #[true,true,true,true,true,true] ⟨63,AM [(4,(.ptr 2 0 0 0))],[⟨1,30,3,[]⟩,⟨1,3,1,[]⟩,⟨0,26,2,[[(ow 3 0 q11),(ow 4 0 l8)]]⟩,(ro 0 30 3 AA q11),(ro 0 3 1 eI l8)]⟩:=(hA12 _ _ _).2 (by
   refine EE U (by kernel_rfl) ?_
   refine hK10 _ ?_
   replace h0:=Sh.AK h0
   subst r
   exact AZ (Exists.intro _ (And.intro ((AL (L:=[(4,(.ptr 4 0 0 0))]) (st':=[⟨1,30,3,[]⟩,⟨1,3,1,[]⟩,(ro 0 30 3 AA q11),(ro 0 3 1 eI l8),⟨0,26,2,[[(ow 2 0 q11),(ow 3 0 l8)]]⟩]) (st1:=[⟨1,30,3,[]⟩,⟨1,3,1,[]⟩,(ro 0 30 3 AA q11),(ro 0 3 1 eI l8),⟨0,26,2,[[(ow 3 0 q11),(ow 4 0 l8)]]⟩]) [0,1,3,4,2] U (.pure (by intro x hx;cases hx) (.pure (by intro x hx;cases hx) .nil)) (by decide) rfl U (.pure (by intro x hx;cases hx) (.pure (by intro x hx;cases hx) (.pure (AB fun _=>U) (.pure (AB fun _=>U) (.raw U U .nil))))) ⟨.rfl,trivial⟩).trans (AF (L:=[(4,(.ptr 4 0 0 0))]) ⟨.rfl,trivial⟩)) (D3 (x:=.tmp 4) (off:=0) (cs:=[(ow 2 0 q11),(ow 3 0 l8)]) (vs:=[(ow 2 0 q11),(ow 3 0 l8)]) DU U U U (show 0+2≤2 by decide) rfl _ ⟨U,U⟩))))
  have A12_01234:A12 1 #[true,true,true,true,true,false] ⟨63,AM [(4,(.ptr 2 0 0 0)),(62,(.agg [(ow 3 0 q11),(ow 4 0 l8)]))],[⟨1,30,3,[]⟩,⟨1,3,1,[]⟩,⟨0,26,2,[[.zc,.zc]]⟩,(ro 0 30 3 AA q11),(ro 0 3 1 eI l8)]⟩:=(hA12 _ _ _).2 (by
   refine AJ [5] U (by kernel_rfl) (by decide) ⟨?_,trivial⟩
   ·refine AH (i:=5) rfl U (by rfl) ?_
    refine Bt (st':=[⟨1,30,3,[]⟩,⟨1,3,1,[]⟩,⟨0,26,2,[[(ow 3 0 q11),(ow 4 0 l8)]]⟩,(ro 0 30 3 AA q11),(ro 0 3 1 eI l8)]) Ae DU U U U U U U (show 0+2≤2 by decide) rfl ?_
    refine AE ⟨U,?_⟩
    exact AD (AF (L:=[(4,(.ptr 2 0 0 0))]) ⟨.rfl,trivial⟩) (AG (by kernel_rfl) ((hA12 _ _ _).1 A12_012345)) rfl)
  have A12_0123:A12 2 #[true,true,true,true,false,false] ⟨63,AM [(4,(.ptr 2 0 0 0)),(59,(ow 3 0 q11)),(61,(ow 4 0 l8))],[⟨1,30,3,[]⟩,⟨1,3,1,[]⟩,⟨0,26,2,[[.zc,.zc]]⟩,(ro 0 30 3 AA q11),(ro 0 3 1 eI l8)]⟩:=(hA12 _ _ _).2 (by
   refine AJ [4] U (by kernel_rfl) (by decide) ⟨?_,trivial⟩
   ·refine AH (i:=4) rfl U (by rfl) ?_
    refine zz (.agg [(ow 3 0 q11),(ow 4 0 l8)]) (FY NV Nf C5 U U) rfl ?_
    refine AE ⟨U,?_⟩
    exact AD (AF (L:=[(4,(.ptr 2 0 0 0)),(62,(.agg [(ow 3 0 q11),(ow 4 0 l8)]))]) ⟨.rfl,.rfl,trivial⟩) (AG (by kernel_rfl) ((hA12 _ _ _).1 A12_01234)) rfl)
  have A12_012:A12 3 #[true,true,true,false,false,false] ⟨63,AM [(4,(.ptr 2 0 0 0)),(59,(ow 3 1 q11)),(60,(.ptr 4 0 0 1))],[⟨1,30,3,[]⟩,⟨1,3,1,[]⟩,⟨0,26,2,[[.zc,.zc]]⟩,(ro 1 30 3 AA q11),⟨0,26,2,[[(ow 3 0 l7),(ow 5 0 l8)]]⟩,(ro 0 3 1 eI l8)]⟩:=(hA12 _ _ _).2 (by
   refine AJ [3] U (by kernel_rfl) (by decide) ⟨?_,trivial⟩
   ·refine AH (i:=3) rfl U (by rfl) ?_
    refine zq tb U ?_
    refine AE ⟨U,?_⟩
    exact AD (by refine Wk.trans (AL (L:=[(4,(.ptr 2 0 0 0)),(59,(ow 3 1 q11)),(61,(ow 4 0 l8))]) (st':=[⟨1,30,3,[]⟩,⟨1,3,1,[]⟩,⟨0,26,2,[[.zc,.zc]]⟩,(ro 1 30 3 AA q11),(ro 0 3 1 eI l8)]) (st1:=[⟨1,30,3,[]⟩,⟨1,3,1,[]⟩,⟨0,26,2,[[.zc,.zc]]⟩,(ro 1 30 3 AA q11),(ro 0 3 1 eI l8)]) [0,1,2,3,5] U (.pure (by intro x hx;cases hx) (.pure (by intro x hx;cases hx) .nil)) (by decide) rfl U (.pure (by intro x hx;cases hx) (.pure (by intro x hx;cases hx) (.raw U U (.pure (AB fun _=>U) (.pure (AB fun _=>U) .nil))))) ⟨.rfl,.rfl,.rfl,trivial⟩) ?_;refine Wk.trans (Dc (L:=[(4,(.ptr 2 0 0 0)),(59,(ow 3 0 q11)),(61,(ow 4 0 l8))]) (st':=[⟨1,30,3,[]⟩,⟨1,3,1,[]⟩,⟨0,26,2,[[.zc,.zc]]⟩,(ro 0 30 3 AA q11),(ro 0 3 1 eI l8)]) (.pure U (by intro x hx;cases hx) (.pure U (by intro x hx;cases hx) (.raw U U U (.pure U (AB fun _=>U) (.pure U (AB fun _=>U) .nil))))) ⟨.rfl,.rfl,.rfl,trivial⟩) ?_;exact AF (L:=[(4,(.ptr 2 0 0 0)),(59,(ow 3 0 q11)),(61,(ow 4 0 l8))]) ⟨.rfl,.rfl,.rfl,trivial⟩) (AG (by kernel_rfl) ((hA12 _ _ _).1 A12_0123)) rfl)
  have A12_01:A12 4 #[true,true,false,false,false,false] ⟨63,AM [(2,(.ptr 2 0 0 0)),(4,(.ptr 5 0 0 0)),(59,(ow 3 1 q11))],[⟨1,30,3,[]⟩,⟨1,3,1,[]⟩,⟨0,26,2,[[(ow 3 0 l7),(ow 4 0 l8)]]⟩,(ro 1 30 3 AA q11),(ro 0 3 1 eI l8),⟨0,26,2,[[.zc,.zc]]⟩]⟩:=(hA12 _ _ _).2 (by
   refine AJ [2] U (by kernel_rfl) (by decide) ⟨?_,trivial⟩
   ·refine AH (i:=2) rfl U (by rfl) ?_
    refine zq tb U ?_
    refine AE ⟨U,?_⟩
    exact AD (by refine Wk.trans (AL (L:=[(4,(.ptr 2 0 0 0)),(59,(ow 3 1 q11)),(60,(.ptr 4 0 0 1))]) (st':=[⟨1,30,3,[]⟩,⟨1,3,1,[]⟩,⟨0,26,2,[[.zc,.zc]]⟩,(ro 1 30 3 AA q11),⟨0,26,2,[[(ow 3 0 l7),(ow 5 0 l8)]]⟩,(ro 0 3 1 eI l8)]) (st1:=[⟨1,30,3,[]⟩,⟨1,3,1,[]⟩,⟨0,26,2,[[.zc,.zc]]⟩,(ro 1 30 3 AA q11),⟨0,26,2,[[(ow 3 0 l7),(ow 4 0 l8)]]⟩,(ro 0 3 1 eI l8)]) [0,1,5,3,2,4] U (.pure (by intro x hx;cases hx) (.pure (by intro x hx;cases hx) .nil)) (by decide) rfl U (.pure (by intro x hx;cases hx) (.pure (by intro x hx;cases hx) (.raw U U (.pure (AB fun _=>U) (.raw U U (.pure (AB fun _=>U) .nil)))))) ⟨.rfl,.rfl,.rfl,trivial⟩) ?_;exact AF (L:=[(4,(.ptr 2 0 0 0)),(59,(ow 3 1 q11)),(60,(.ptr 4 0 0 1))]) ⟨.rfl,.rfl,.rfl,trivial⟩) (AG (by kernel_rfl) ((hA12 _ _ _).1 A12_012)) rfl)
  have A12_023:A12 3 #[true,false,true,true,false,false] ⟨63,AM [(4,(.ptr 2 0 0 0)),(58,(.agg [(ow 3 0 l7),(ow 4 0 l8)])),(61,(ow 4 0 l8))],[⟨1,30,3,[]⟩,⟨1,3,1,[]⟩,⟨0,26,2,[[.zc,.zc]]⟩,(ro 0 30 3 AA l7),(ro 0 3 1 eI l8)]⟩:=(hA12 _ _ _).2 (by
   refine AJ [1] U (by kernel_rfl) (by decide) ⟨?_,trivial⟩
   ·refine AH (i:=1) rfl U (by rfl) ?_
    refine Ad (rowsP:=[(ro 0 30 3 AA l7),(ro 0 3 1 eI l8)]) (rows0:=[(ro 0 30 3 AA l7),(ro 0 3 1 eI l8)]) (rows1:=[(ro 1 30 3 AA q11),(ro 0 3 1 eI l8)]) (rows2:=[]) (rows1':=[(ro 1 30 3 AA q11),(ro 0 3 1 eI l8)]) (rows2':=[]) (st':=[⟨1,30,3,[]⟩,⟨1,3,1,[]⟩,⟨0,26,2,[[.zc,.zc]]⟩,(ro 1 30 3 AA q11),(ro 0 3 1 eI l8)]) (v':=(ow 3 1 q11)) [3,4] Ae Qr (E3 gq11) rfl (by decide) rfl U (.pure (AB fun _=>U) (.pure (AB fun _=>U) .nil)) rfl U (.pure (AB fun _=>U) (.pure (AB fun _=>U) .nil)) .nil U U ?_
    refine AE ⟨U,?_⟩
    exact AD (by refine Wk.trans (Dc (L:=[(4,(.ptr 2 0 0 0)),(59,(ow 3 0 q11)),(61,(ow 4 0 l8))]) (st':=[⟨1,30,3,[]⟩,⟨1,3,1,[]⟩,⟨0,26,2,[[.zc,.zc]]⟩,(ro 0 30 3 AA q11),(ro 0 3 1 eI l8)]) (.pure U (by intro x hx;cases hx) (.pure U (by intro x hx;cases hx) (.raw U U U (.pure U (AB fun _=>U) (.pure U (AB fun _=>U) .nil))))) ⟨.rfl,.rfl,.rfl,trivial⟩) ?_;exact AF (L:=[(4,(.ptr 2 0 0 0)),(59,(ow 3 0 q11)),(61,(ow 4 0 l8))]) ⟨.rfl,.rfl,.rfl,trivial⟩) (AG (by kernel_rfl) ((hA12 _ _ _).1 A12_0123)) rfl)
  have A12_02:A12 4 #[true,false,true,false,false,false] ⟨63,AM [(4,(.ptr 2 0 0 0)),(58,(.agg [(ow 3 0 l7),(ow 4 0 l8)])),(60,(.ptr 5 0 0 1))],[⟨1,30,3,[]⟩,⟨1,3,1,[]⟩,⟨0,26,2,[[.zc,.zc]]⟩,(ro 0 30 3 AA l7),(ro 0 3 1 eI l8),⟨0,26,2,[[(ow 3 0 l7),(ow 4 0 l8)]]⟩]⟩:=(hA12 _ _ _).2 (by
   refine AJ [1,3] U (by kernel_rfl) (by decide) ⟨?_,?_,trivial⟩
   ·refine AH (i:=1) rfl U (by rfl) ?_
    refine Ad (rowsP:=[(ro 0 30 3 AA l7),(ro 0 3 1 eI l8)]) (rows0:=[(ro 0 30 3 AA l7),(ro 0 3 1 eI l8)]) (rows1:=[(ro 1 30 3 AA q11),(ro 0 3 1 eI l8)]) (rows2:=[]) (rows1':=[(ro 1 30 3 AA q11),(ro 0 3 1 eI l8)]) (rows2':=[]) (st':=[⟨1,30,3,[]⟩,⟨1,3,1,[]⟩,⟨0,26,2,[[.zc,.zc]]⟩,(ro 1 30 3 AA q11),(ro 0 3 1 eI l8),⟨0,26,2,[[(ow 3 0 l7),(ow 4 0 l8)]]⟩]) (v':=(ow 3 1 q11)) [3,4] Ae Qr (E3 gq11) rfl (by decide) rfl U (.pure (AB fun _=>U) (.pure (AB fun _=>U) .nil)) rfl U (.pure (AB fun _=>U) (.pure (AB fun _=>U) .nil)) .nil U U ?_
    refine AE ⟨U,?_⟩
    exact AD (by refine Wk.trans (AL (L:=[(4,(.ptr 2 0 0 0)),(59,(ow 3 1 q11)),(60,(.ptr 4 0 0 1))]) (st':=[⟨1,30,3,[]⟩,⟨1,3,1,[]⟩,⟨0,26,2,[[.zc,.zc]]⟩,(ro 1 30 3 AA q11),⟨0,26,2,[[(ow 3 0 l7),(ow 5 0 l8)]]⟩,(ro 0 3 1 eI l8)]) (st1:=[⟨1,30,3,[]⟩,⟨1,3,1,[]⟩,⟨0,26,2,[[.zc,.zc]]⟩,(ro 1 30 3 AA q11),⟨0,26,2,[[(ow 3 0 l7),(ow 4 0 l8)]]⟩,(ro 0 3 1 eI l8)]) [0,1,2,3,5,4] U (.pure (by intro x hx;cases hx) (.pure (by intro x hx;cases hx) .nil)) (by decide) rfl U (.pure (by intro x hx;cases hx) (.pure (by intro x hx;cases hx) (.raw U U (.pure (AB fun _=>U) (.raw U U (.pure (AB fun _=>U) .nil)))))) ⟨.rfl,.rfl,.rfl,trivial⟩) ?_;exact AF (L:=[(4,(.ptr 2 0 0 0)),(59,(ow 3 1 q11)),(60,(.ptr 4 0 0 1))]) ⟨.rfl,.rfl,.rfl,trivial⟩) (AG (by kernel_rfl) ((hA12 _ _ _).1 A12_012)) rfl
   ·refine AH (i:=3) rfl U (by rfl) ?_
    refine zq tb U ?_
    refine AE ⟨U,?_⟩
    exact AD (by refine Wk.trans (AL (L:=[(4,(.ptr 2 0 0 0)),(58,(.agg [(ow 3 0 l7),(ow 4 0 l8)])),(61,(ow 4 0 l8))]) (st':=[⟨1,30,3,[]⟩,⟨1,3,1,[]⟩,⟨0,26,2,[[.zc,.zc]]⟩,(ro 0 30 3 AA l7),(ro 0 3 1 eI l8)]) (st1:=[⟨1,30,3,[]⟩,⟨1,3,1,[]⟩,⟨0,26,2,[[.zc,.zc]]⟩,(ro 0 30 3 AA l7),(ro 0 3 1 eI l8)]) [0,1,2,3,4] U (.pure (by intro x hx;cases hx) (.pure (by intro x hx;cases hx) .nil)) (by decide) rfl U (.pure (by intro x hx;cases hx) (.pure (by intro x hx;cases hx) (.raw U U (.pure (AB fun _=>U) (.pure (AB fun _=>U) .nil))))) ⟨.rfl,.rfl,.rfl,trivial⟩) ?_;exact AF (L:=[(4,(.ptr 2 0 0 0)),(58,(.agg [(ow 3 0 l7),(ow 4 0 l8)])),(61,(ow 4 0 l8))]) ⟨.rfl,.rfl,.rfl,trivial⟩) (AG (by kernel_rfl) ((hA12 _ _ _).1 A12_023)) rfl)
  have A12_0:A12 5 #[true,false,false,false,false,false] ⟨63,AM [(2,(.ptr 2 0 0 0)),(4,(.ptr 5 0 0 0)),(58,(.agg [(ow 3 0 l7),(ow 4 0 l8)]))],[⟨1,30,3,[]⟩,⟨1,3,1,[]⟩,⟨0,26,2,[[(ow 3 0 l7),(ow 4 0 l8)]]⟩,(ro 0 30 3 AA l7),(ro 0 3 1 eI l8),⟨0,26,2,[[.zc,.zc]]⟩]⟩:=(hA12 _ _ _).2 (by
   refine AJ [1,2] U (by kernel_rfl) (by decide) ⟨?_,?_,trivial⟩
   ·refine AH (i:=1) rfl U (by rfl) ?_
    refine Ad (rowsP:=[(ro 0 30 3 AA l7),(ro 0 3 1 eI l8)]) (rows0:=[(ro 0 30 3 AA l7),(ro 0 3 1 eI l8)]) (rows1:=[(ro 1 30 3 AA q11),(ro 0 3 1 eI l8)]) (rows2:=[]) (rows1':=[(ro 1 30 3 AA q11),(ro 0 3 1 eI l8)]) (rows2':=[]) (st':=[⟨1,30,3,[]⟩,⟨1,3,1,[]⟩,⟨0,26,2,[[(ow 3 0 l7),(ow 4 0 l8)]]⟩,(ro 1 30 3 AA q11),(ro 0 3 1 eI l8),⟨0,26,2,[[.zc,.zc]]⟩]) (v':=(ow 3 1 q11)) [3,4] Ae Qr (E3 gq11) rfl (by decide) rfl U (.pure (AB fun _=>U) (.pure (AB fun _=>U) .nil)) rfl U (.pure (AB fun _=>U) (.pure (AB fun _=>U) .nil)) .nil U U ?_
    refine AE ⟨U,?_⟩
    exact AD (AF (L:=[(2,(.ptr 2 0 0 0)),(4,(.ptr 5 0 0 0)),(59,(ow 3 1 q11))]) ⟨.rfl,.rfl,.rfl,trivial⟩) (AG (by kernel_rfl) ((hA12 _ _ _).1 A12_01)) rfl
   ·refine AH (i:=2) rfl U (by rfl) ?_
    refine zq tb U ?_
    refine AE ⟨U,?_⟩
    exact AD (by refine Wk.trans (AL (L:=[(4,(.ptr 2 0 0 0)),(58,(.agg [(ow 3 0 l7),(ow 4 0 l8)])),(60,(.ptr 5 0 0 1))]) (st':=[⟨1,30,3,[]⟩,⟨1,3,1,[]⟩,⟨0,26,2,[[.zc,.zc]]⟩,(ro 0 30 3 AA l7),(ro 0 3 1 eI l8),⟨0,26,2,[[(ow 3 0 l7),(ow 4 0 l8)]]⟩]) (st1:=[⟨1,30,3,[]⟩,⟨1,3,1,[]⟩,⟨0,26,2,[[.zc,.zc]]⟩,(ro 0 30 3 AA l7),(ro 0 3 1 eI l8),⟨0,26,2,[[(ow 3 0 l7),(ow 4 0 l8)]]⟩]) [0,1,5,3,4,2] U (.pure (by intro x hx;cases hx) (.pure (by intro x hx;cases hx) .nil)) (by decide) rfl U (.pure (by intro x hx;cases hx) (.pure (by intro x hx;cases hx) (.raw U U (.pure (AB fun _=>U) (.pure (AB fun _=>U) (.raw U U .nil)))))) ⟨.rfl,.rfl,.rfl,trivial⟩) ?_;exact AF (L:=[(4,(.ptr 2 0 0 0)),(58,(.agg [(ow 3 0 l7),(ow 4 0 l8)])),(60,(.ptr 5 0 0 1))]) ⟨.rfl,.rfl,.rfl,trivial⟩) (AG (by kernel_rfl) ((hA12 _ _ _).1 A12_02)) rfl)
  have A12_23:A12 4 #[false,false,true,true,false,false] ⟨63,AM [(2,(.ptr 2 0 0 0)),(4,(.ptr 5 0 0 0)),(61,(ow 4 0 l8))],[⟨1,30,3,[]⟩,⟨1,3,1,[]⟩,⟨0,26,2,[[(ow 3 0 l7),(ow 4 0 l8)]]⟩,(ro 0 30 3 AA l7),(ro 0 3 1 eI l8),⟨0,26,2,[[.zc,.zc]]⟩]⟩:=(hA12 _ _ _).2 (by
   refine AJ [0] U (by kernel_rfl) (by decide) ⟨?_,trivial⟩
   ·refine AH (i:=0) rfl U (by rfl) ?_
    refine zq tb U ?_
    refine AE ⟨U,?_⟩
    exact AD (by refine Wk.trans (AL (L:=[(4,(.ptr 2 0 0 0)),(58,(.agg [(ow 3 0 l7),(ow 4 0 l8)])),(61,(ow 4 0 l8))]) (st':=[⟨1,30,3,[]⟩,⟨1,3,1,[]⟩,⟨0,26,2,[[.zc,.zc]]⟩,(ro 0 30 3 AA l7),(ro 0 3 1 eI l8)]) (st1:=[⟨1,30,3,[]⟩,⟨1,3,1,[]⟩,⟨0,26,2,[[.zc,.zc]]⟩,(ro 0 30 3 AA l7),(ro 0 3 1 eI l8)]) [0,1,5,3,4] U (.pure (by intro x hx;cases hx) (.pure (by intro x hx;cases hx) .nil)) (by decide) rfl U (.pure (by intro x hx;cases hx) (.pure (by intro x hx;cases hx) (.raw U U (.pure (AB fun _=>U) (.pure (AB fun _=>U) .nil))))) ⟨.rfl,.rfl,.rfl,trivial⟩) ?_;exact AF (L:=[(4,(.ptr 2 0 0 0)),(58,(.agg [(ow 3 0 l7),(ow 4 0 l8)])),(61,(ow 4 0 l8))]) ⟨.rfl,.rfl,.rfl,trivial⟩) (AG (by kernel_rfl) ((hA12 _ _ _).1 A12_023)) rfl)
  have A12_2:A12 5 #[false,false,true,false,false,false] ⟨63,AM [(2,(.ptr 2 0 0 0)),(4,(.ptr 5 0 0 0)),(60,(.ptr 2 0 0 1))],[⟨1,30,3,[]⟩,⟨1,3,1,[]⟩,⟨0,26,2,[[(ow 3 0 l7),(ow 4 0 l8)]]⟩,(ro 0 30 3 AA l7),(ro 0 3 1 eI l8),⟨0,26,2,[[.zc,.zc]]⟩]⟩:=(hA12 _ _ _).2 (by
   refine AJ [0,3] U (by kernel_rfl) (by decide) ⟨?_,?_,trivial⟩
   ·refine AH (i:=0) rfl U (by rfl) ?_
    refine zq tb U ?_
    refine AE ⟨U,?_⟩
    exact AD (by refine Wk.trans (AL (L:=[(4,(.ptr 2 0 0 0)),(58,(.agg [(ow 3 0 l7),(ow 4 0 l8)])),(60,(.ptr 5 0 0 1))]) (st':=[⟨1,30,3,[]⟩,⟨1,3,1,[]⟩,⟨0,26,2,[[.zc,.zc]]⟩,(ro 0 30 3 AA l7),(ro 0 3 1 eI l8),⟨0,26,2,[[(ow 3 0 l7),(ow 4 0 l8)]]⟩]) (st1:=[⟨1,30,3,[]⟩,⟨1,3,1,[]⟩,⟨0,26,2,[[.zc,.zc]]⟩,(ro 0 30 3 AA l7),(ro 0 3 1 eI l8),⟨0,26,2,[[(ow 3 0 l7),(ow 4 0 l8)]]⟩]) [0,1,5,3,4,2] U (.pure (by intro x hx;cases hx) (.pure (by intro x hx;cases hx) .nil)) (by decide) rfl U (.pure (by intro x hx;cases hx) (.pure (by intro x hx;cases hx) (.raw U U (.pure (AB fun _=>U) (.pure (AB fun _=>U) (.raw U U .nil)))))) ⟨.rfl,.rfl,.rfl,trivial⟩) ?_;exact AF (L:=[(4,(.ptr 2 0 0 0)),(58,(.agg [(ow 3 0 l7),(ow 4 0 l8)])),(60,(.ptr 5 0 0 1))]) ⟨.rfl,.rfl,.rfl,trivial⟩) (AG (by kernel_rfl) ((hA12 _ _ _).1 A12_02)) rfl
   ·refine AH (i:=3) rfl U (by rfl) ?_
    refine zq tb U ?_
    refine AE ⟨U,?_⟩
    exact AD (AF (L:=[(2,(.ptr 2 0 0 0)),(4,(.ptr 5 0 0 0)),(61,(ow 4 0 l8))]) ⟨.rfl,.rfl,.rfl,trivial⟩) (AG (by kernel_rfl) ((hA12 _ _ _).1 A12_23)) rfl)
  have A12_e:A12 6 #[false,false,false,false,false,false] ⟨63,AM [(2,(.ptr 2 0 0 0)),(4,(.ptr 5 0 0 0))],[⟨1,30,3,[]⟩,⟨1,3,1,[]⟩,⟨0,26,2,[[(ow 3 0 l7),(ow 4 0 l8)]]⟩,(ro 0 30 3 AA l7),(ro 0 3 1 eI l8),⟨0,26,2,[[.zc,.zc]]⟩]⟩:=(hA12 _ _ _).2 (by
   refine AJ [0,2] U (by kernel_rfl) (by decide) ⟨?_,?_,trivial⟩
   ·refine AH (i:=0) rfl U (by rfl) ?_
    refine zq tb U ?_
    refine AE ⟨U,?_⟩
    exact AD (AF (L:=[(2,(.ptr 2 0 0 0)),(4,(.ptr 5 0 0 0)),(58,(.agg [(ow 3 0 l7),(ow 4 0 l8)]))]) ⟨.rfl,.rfl,.rfl,trivial⟩) (AG (by kernel_rfl) ((hA12 _ _ _).1 A12_0)) rfl
   ·refine AH (i:=2) rfl U (by rfl) ?_
    refine zq tb U ?_
    refine AE ⟨U,?_⟩
    exact AD (AF (L:=[(2,(.ptr 2 0 0 0)),(4,(.ptr 5 0 0 0)),(60,(.ptr 2 0 0 1))]) ⟨.rfl,.rfl,.rfl,trivial⟩) (AG (by kernel_rfl) ((hA12 _ _ _).1 A12_2)) rfl)
  refine (hA12 _ _ _).2 ?_
  exact AD (by refine Wk.trans (AL (L:=[(2,(.ptr 2 0 0 0)),(4,(.ptr 5 0 0 0))]) (st':=[⟨1,30,3,[]⟩,⟨1,3,1,[]⟩,⟨0,26,2,[[(ow 3 0 l7),(ow 4 0 l8)]]⟩,(ro 0 30 3 AA l7),(ro 0 3 1 eI l8),⟨0,26,2,[[.zc,.zc]]⟩]) (st1:=[⟨1,30,3,[]⟩,⟨1,3,1,[]⟩,⟨0,26,2,[[(ow 2 0 l7),(ow 3 0 l8)]]⟩,(ro 0 30 3 AA l7),(ro 0 3 1 eI l8),⟨0,26,2,[[.zc,.zc]]⟩]) [0,1,4,2,3,5] U (.pure (by intro x hx;cases hx) (.pure (by intro x hx;cases hx) .nil)) (by decide) rfl U (.pure (by intro x hx;cases hx) (.pure (by intro x hx;cases hx) (.raw U U (.pure (AB fun _=>U) (.pure (AB fun _=>U) (.raw U U .nil)))))) ⟨.rfl,.rfl,trivial⟩) ?_;exact AF (L:=[(2,(.ptr 2 0 0 0)),(4,(.ptr 5 0 0 0))]) ⟨.rfl,.rfl,trivial⟩) (AG (by kernel_rfl) ((hA12 _ _ _).1 A12_e)) rfl
 refine AY (Ap (σ:=Int×(List Cell)×(List Int)) (fun n v=>Cy N p1 n v.1 v.2.1 v.2.2=some o9) (fun (n4,l5,l6)=>⟨63,AM [(1,(i64 p1)),(2,(.ptr 4 0 0 0)),(4,(.ptr 5 0 0 0)),(5,(i64 n4))],[⟨1,30,3,[]⟩,⟨1,3,1,[]⟩,(ro 0 30 3 AA l5),(ro 0 3 1 eI l6),⟨0,26,2,[[(ow 2 0 l5),(ow 3 0 l6)]]⟩,⟨0,26,2,[[.zc,.zc]]⟩]⟩) N (0,s0,s1) h1 (AP U) (fun _ hv=>by rw[Cy] at hv;cases hv) ?_)
 rintro n ⟨n4,l5,l6⟩ h1
 try dsimp only at h1 ⊢
 rw[Cy] at h1
 refine AN fun K13 hK13=>?_
 refine AN fun K14 hK14=>?_
 obtain⟨o16,h2,h1⟩:=Sh.bind_some h1
 have M16 :∀(t15:Bool),o16=t15→∀s,Wk 2 s ⟨63,AM [(1,(i64 p1)),(2,(.ptr 4 0 0 0)),(4,(.ptr 5 0 0 0)),(5,(i64 n4)),(17,(.bool t15))],[⟨1,30,3,[]⟩,⟨1,3,1,[]⟩,(ro 0 30 3 AA l5),(ro 0 3 1 eI l6),⟨0,26,2,[[(ow 2 0 l5),(ow 3 0 l6)]]⟩,⟨0,26,2,[[.zc,.zc]]⟩]⟩→K14 s:=by
  intro t15 hq s hw
  subst o16
  try dsimp only at h1
  refine hK14 _ (AS hw ?_)
  refine ci h1 U ?_ ?_ <;> clear h1
  ·intro b17 h1
   refine AU (hK13 _ ?_)
   refine AN fun K18 hK18=>?_
   refine AY ?_
   refine sr U fun K19 hK19=>?_
   refine zm tb 2 U ?_
   obtain⟨c20,gc20,h1⟩:=Sh.bind_some h1
   refine zz (.ptr 3 0 (Int.toNat 0) 0) (An Av U U U U gc20) rfl ?_
   refine zz (i64 c20) (Aw CM U U (Am gc20) rfl) rfl ?_
   refine zq tb U ?_
   refine dn hK19 U ?_
   refine sr U fun K21 hK21=>?_
   refine zm tb 3 U ?_
   obtain⟨c22,gc22,h1⟩:=Sh.bind_some h1
   refine zz (.ptr 2 0 (Int.toNat c20) 0) (An A3 U U U U gc22) rfl ?_
   refine zq tb U ?_
   refine zz (ls eI c22.fields) (Aw Jq U U (Am gc22) rfl) rfl ?_
   refine zq tb U ?_
   refine dn hK21 U ?_
   refine sr U fun K23 hK23=>?_
   refine zm tb 2 U ?_
   refine Af (Wk.A2 (L:=[(1,(i64 p1)),(2,(.ptr 4 0 0 0)),(4,(.ptr 5 0 0 0)),(5,(i64 n4)),(6,(i64 c20)),(7,(ls eI c22.fields)),(31,(ls eI l6))]) (st':=[⟨1,30,3,[]⟩,⟨1,3,1,[]⟩,(ro 0 30 3 AA l5),⟨1,3,1,[]⟩,⟨0,26,2,[[(ow 2 0 l5),(ow 3 0 l6)]]⟩,⟨0,26,2,[[.zc,.zc]]⟩]) (id:=3) rfl (show 2≤3 by decide) (AB fun _=>U) ⟨.rfl,.rfl,.rfl,.rfl,.rfl,.rfl,(.A2 U),trivial⟩ U) ?_
   obtain⟨l24,gl24,h1⟩:=Sh.bind_some h1
   refine KD (i:=1) (j:=Sh.len l6) Ae Av U U U (fun _=>U) gl24 ?_
   obtain⟨q25,gq25,h1⟩:=Sh.bind_some h1
   refine BJ (v':=(ow 6 0 q25)) (st':=[⟨1,30,3,[]⟩,⟨1,3,1,[]⟩,(ro 0 30 3 AA l5),⟨1,3,1,[]⟩,⟨0,26,2,[[(ow 2 0 l5),(ow 3 0 l6)]]⟩,⟨0,26,2,[[.zc,.zc]]⟩,(ro 0 3 1 eI q25)]) Ae MQ (Cv gq25) rfl U ⟨(BD fun _=>U),trivial⟩ U U ?_
   refine zq tb U ?_
   refine Bt (st':=[⟨1,30,3,[]⟩,⟨1,3,1,[]⟩,(ro 0 30 3 AA l5),⟨1,3,1,[]⟩,⟨0,26,2,[[(ow 2 0 l5),(ow 6 0 q25)]]⟩,⟨0,26,2,[[.zc,.zc]]⟩,(ro 0 3 1 eI q25)]) Ae Jq U U U U U U (show 1+1≤2 by decide) rfl ?_
   refine dn hK23 U ?_
   refine sr U fun K26 hK26=>?_
   refine zm tb 3 U ?_
   refine Bc (m:=7) (st':=[⟨1,30,3,[]⟩,⟨1,3,1,[]⟩,(ro 0 30 3 AA l5),⟨1,3,1,[]⟩,⟨0,26,2,[[(ow 2 0 l5),(ow 6 0 q25)]]⟩,⟨0,26,2,[[.zc,.zc]]⟩,(ro 0 3 1 eI q25),(ro 0 3 1 eI ([]:List Int))]) (l:=([]:List Int)) (enc:=eI) Ae Av (by decide) rfl U U U U U ?_
   refine zz (.agg [(i64 0),(i64 0),(.own 7 0 (List.length ([]:List Int)))]) (FY L5 Ma Hu U U) rfl ?_
   refine zz (.ptr 2 0 (Int.toNat c20) 0) (An A3 U U U U gc22) rfl ?_
   refine Af (Wk.A2 (L:=[(1,(i64 p1)),(2,(.ptr 4 0 0 0)),(4,(.ptr 5 0 0 0)),(5,(i64 n4)),(7,(ls eI c22.fields)),(39,(.agg [(i64 0),(i64 0),(.sl (List.map eI []))])),(40,(.ptr 2 0 (Int.toNat c20) 0))]) (st':=[⟨1,30,3,[]⟩,⟨1,3,1,[]⟩,(ro 0 30 3 AA l5),⟨1,3,1,[]⟩,⟨0,26,2,[[(ow 2 0 l5),(ow 6 0 q25)]]⟩,⟨0,26,2,[[.zc,.zc]]⟩,(ro 0 3 1 eI q25),⟨1,3,1,[]⟩]) (id:=7) rfl (show 2≤7 by decide) (AB fun _=>U) ⟨.rfl,.rfl,.rfl,.rfl,.rfl,(.agg ⟨.rfl,.rfl,(.E6 U),trivial⟩),.rfl,trivial⟩ U) ?_
   refine Dy (st':=[⟨1,30,3,[]⟩,⟨1,3,1,[]⟩,(ro 0 30 3 AA (Sh.put l5 c20 (Cell.mk 0 0 []))),⟨1,3,1,[]⟩,⟨0,26,2,[[(ow 2 0 l5),(ow 6 0 q25)]]⟩,⟨0,26,2,[[.zc,.zc]]⟩,(ro 0 3 1 eI q25),⟨1,3,1,[]⟩]) (u':=(Cell.mk 0 0 [])) Ae I6 U U gc22 U U U (show 0+3≤3 by decide) rfl U ?_
   refine dn hK26 U ?_
   refine zr tb U U ?_
   obtain⟨o33,h2,h1⟩:=Sh.bind_some h1
   have M33 :∀(l31:(List Cell)) (l32:(List Int)),o33=(l31,l32)→∀s,Wk 2 s ⟨63,AM [(1,(i64 p1)),(2,(.ptr 3 0 0 0)),(4,(.ptr 4 0 0 0)),(5,(i64 n4))],[⟨1,30,3,[]⟩,⟨1,3,1,[]⟩,(ro 0 30 3 AA l31),⟨0,26,2,[[(ow 2 0 l31),(ow 5 0 l32)]]⟩,⟨0,26,2,[[.zc,.zc]]⟩,(ro 0 3 1 eI l32)]⟩→K18 s:=by
    intro l31 l32 hq s hw
    subst o33
    try dsimp only at h1
    refine hK18 _ (AS hw ?_)
    refine AR (by rfl) ?_
    refine zm tb 3 U ?_
    exact AE (xi (Sh.w (n4+1),l31,l32) h1 (by refine Wk.trans (AL (L:=[(1,(i64 p1)),(2,(.ptr 4 0 0 0)),(4,(.ptr 5 0 0 0)),(5,(i64 (Sh.w (n4+1))))]) (st':=[⟨1,30,3,[]⟩,⟨1,3,1,[]⟩,(ro 0 30 3 AA l31),(ro 0 3 1 eI l32),⟨0,26,2,[[(ow 2 0 l31),(ow 3 0 l32)]]⟩,⟨0,26,2,[[.zc,.zc]]⟩]) (st1:=[⟨1,30,3,[]⟩,⟨1,3,1,[]⟩,(ro 0 30 3 AA l31),(ro 0 3 1 eI l32),⟨0,26,2,[[(ow 2 0 l31),(ow 5 0 l32)]]⟩,⟨0,26,2,[[.zc,.zc]]⟩]) [0,1,2,5,3,4] U (.pure (by intro x hx;cases hx) (.pure (by intro x hx;cases hx) .nil)) (by decide) rfl U (.pure (by intro x hx;cases hx) (.pure (by intro x hx;cases hx) (.pure (AB fun _=>U) (.pure (AB fun _=>U) (.raw U U (.raw U U .nil)))))) ⟨.rfl,.rfl,.rfl,.rfl,trivial⟩) ?_;exact AP U))
   refine AY (Ap (σ:=Int×(List Cell)×(List Int)) (fun n v=>CS c22 n v.1 v.2.1 v.2.2=some o33) (fun (k28,l29,l30)=>⟨63,AM [(1,(i64 p1)),(2,(.ptr 3 0 0 0)),(4,(.ptr 4 0 0 0)),(5,(i64 n4)),(7,(.sl (List.map eI c22.fields))),(8,(i64 k28))],[⟨1,30,3,[]⟩,⟨1,3,1,[]⟩,⟨0,30,3,List.map AA l29⟩,⟨0,26,2,[[(.own 2 0 (List.length l29)),(.own 5 0 (List.length l30))]]⟩,⟨0,26,2,[[.zc,.zc]]⟩,⟨0,3,1,List.map eI l30⟩]⟩) N (0,Sh.put l5 c20 (Cell.mk 0 0 []),q25) h2 (by refine Wk.trans (Gz (st:=[⟨1,30,3,[]⟩,⟨1,3,1,[]⟩,⟨0,30,3,List.map AA (Sh.put l5 c20 (Cell.mk 0 0 []))⟩,⟨1,3,1,[]⟩,⟨0,26,2,[[(.own 2 0 (List.length l5)),(.own 6 0 (List.length q25))]]⟩,⟨0,26,2,[[.zc,.zc]]⟩,⟨0,3,1,List.map eI q25⟩,⟨1,3,1,[]⟩]) (st':=[⟨1,30,3,[]⟩,⟨1,3,1,[]⟩,⟨0,30,3,List.map AA (Sh.put l5 c20 (Cell.mk 0 0 []))⟩,⟨1,3,1,[]⟩,⟨0,26,2,[[(.own 2 0 (List.length (Sh.put l5 c20 (Cell.mk 0 0 [])))),(.own 6 0 (List.length q25))]]⟩,⟨0,26,2,[[.zc,.zc]]⟩,⟨0,3,1,List.map eI q25⟩,⟨1,3,1,[]⟩]) (by simp only[Sh.CO])) ?_;refine Wk.trans (AL (L:=[(1,(i64 p1)),(2,(.ptr 3 0 0 0)),(4,(.ptr 4 0 0 0)),(5,(i64 n4)),(7,(.sl (List.map eI c22.fields))),(8,(i64 0))]) (st':=[⟨1,30,3,[]⟩,⟨1,3,1,[]⟩,⟨0,30,3,List.map AA (Sh.put l5 c20 (Cell.mk 0 0 []))⟩,⟨0,26,2,[[(.own 2 0 (List.length (Sh.put l5 c20 (Cell.mk 0 0 [])))),(.own 5 0 (List.length q25))]]⟩,⟨0,26,2,[[.zc,.zc]]⟩,⟨0,3,1,List.map eI q25⟩]) (st1:=[⟨1,30,3,[]⟩,⟨1,3,1,[]⟩,⟨0,30,3,List.map AA (Sh.put l5 c20 (Cell.mk 0 0 []))⟩,⟨0,26,2,[[(.own 2 0 (List.length (Sh.put l5 c20 (Cell.mk 0 0 [])))),(.own 6 0 (List.length q25))]]⟩,⟨0,26,2,[[.zc,.zc]]⟩,⟨0,3,1,List.map eI q25⟩]) [0,1,2,4,5,6] U (.pure (by intro x hx;cases hx) (.pure (by intro x hx;cases hx) .nil)) (by decide) rfl U (.pure (by intro x hx;cases hx) (.pure (by intro x hx;cases hx) (.pure (AB fun _=>U) (.raw U U (.raw U U (.pure (AB fun _=>U) .nil)))))) ⟨.rfl,.rfl,.rfl,.rfl,.rfl,.rfl,trivial⟩) ?_;exact AP U) (fun _ hv=>by rw[CS] at hv;cases hv) ?_)
   rintro n ⟨k28,l29,l30⟩ h2
   try dsimp only at h2 ⊢
   rw[CS] at h2
   refine AN fun K34 hK34=>?_
   refine sr U fun K35 hK35=>?_
   refine zm tb 2 U ?_
   refine zl tb U U ?_
   refine zq tb U ?_
   refine dn hK35 U ?_
   refine ci h2 U ?_ ?_ <;> clear h2
   ·intro b36 h2
    refine AU (hK34 _ ?_)
    refine AN fun K37 hK37=>?_
    obtain⟨o40,h3,h2⟩:=Sh.bind_some h2
    have M40 :∀(l38:(List Cell)) (l39:(List Int)),o40=(l38,l39)→∀s,Wk 2 s ⟨63,AM [(1,(i64 p1)),(2,(.ptr 3 0 0 0)),(4,(.ptr 4 0 0 0)),(5,(i64 n4)),(7,(ls eI c22.fields)),(8,(i64 k28))],[⟨1,30,3,[]⟩,⟨1,3,1,[]⟩,(ro 0 30 3 AA l38),⟨0,26,2,[[(ow 2 0 l38),(ow 5 0 l39)]]⟩,⟨0,26,2,[[.zc,.zc]]⟩,(ro 0 3 1 eI l39)]⟩→K37 s:=by
     intro l38 l39 hq s hw
     subst o40
     try dsimp only at h2
     refine hK37 _ (AS hw ?_)
     refine AR (by rfl) ?_
     refine zm tb 3 U ?_
     exact AE (xi (Sh.w (k28+1),l38,l39) h2 (AP U))
    refine AY ?_
    refine sr U fun K41 hK41=>?_
    refine zm tb 2 U ?_
    obtain⟨c42,gc42,h3⟩:=Sh.bind_some h3
    refine zx Av gc42 U U U ?_
    refine zq tb U ?_
    obtain⟨q43,gq43,h3⟩:=Sh.bind_some h3
    refine zc L8 (Ch gq43) rfl U U ?_
    refine dn hK41 U ?_
    refine ci h3 U ?_ ?_ <;> clear h3
    ·intro b44 h3
     refine Dd (by kernel_rfl) ?_
     obtain⟨q45,gq45,h3⟩:=Sh.bind_some h3
     refine Et fun A47 hA47=>?_
     have A47_0123456:A47 0 #[true,true,true,true,true,true,true] ⟨63,AM [(1,(i64 p1)),(2,(.ptr 2 0 0 0)),(4,(.ptr 5 0 0 0)),(5,(i64 n4)),(7,(ls eI c22.fields)),(8,(i64 k28))],[⟨1,30,3,[]⟩,⟨1,3,1,[]⟩,⟨0,26,2,[[(ow 3 0 q45.cells),(ow 4 0 q45.pending)]]⟩,(ro 0 30 3 AA q45.cells),(ro 0 3 1 eI q45.pending),⟨0,26,2,[[.zc,.zc]]⟩]⟩:=(hA47 _ _ _).2 (by
      refine EE U (by kernel_rfl) ?_
      exact M40 q45.cells q45.pending (Sh.AK h3).symm _ (by refine Wk.trans (AL (L:=[(1,(i64 p1)),(2,(.ptr 3 0 0 0)),(4,(.ptr 4 0 0 0)),(5,(i64 n4)),(7,(ls eI c22.fields)),(8,(i64 k28))]) (st':=[⟨1,30,3,[]⟩,⟨1,3,1,[]⟩,(ro 0 30 3 AA q45.cells),⟨0,26,2,[[(ow 2 0 q45.cells),(ow 5 0 q45.pending)]]⟩,⟨0,26,2,[[.zc,.zc]]⟩,(ro 0 3 1 eI q45.pending)]) (st1:=[⟨1,30,3,[]⟩,⟨1,3,1,[]⟩,(ro 0 30 3 AA q45.cells),⟨0,26,2,[[(ow 3 0 q45.cells),(ow 4 0 q45.pending)]]⟩,⟨0,26,2,[[.zc,.zc]]⟩,(ro 0 3 1 eI q45.pending)]) [0,1,3,2,5,4] U (.pure (by intro x hx;cases hx) (.pure (by intro x hx;cases hx) .nil)) (by decide) rfl U (.pure (by intro x hx;cases hx) (.pure (by intro x hx;cases hx) (.pure (AB fun _=>U) (.raw U U (.raw U U (.pure (AB fun _=>U) .nil)))))) ⟨.rfl,.rfl,.rfl,.rfl,.rfl,.rfl,trivial⟩) ?_;exact AF (L:=[(1,(i64 p1)),(2,(.ptr 3 0 0 0)),(4,(.ptr 4 0 0 0)),(5,(i64 n4)),(7,(ls eI c22.fields)),(8,(i64 k28))]) ⟨.rfl,.rfl,.rfl,.rfl,.rfl,.rfl,trivial⟩))
     have A47_012345:A47 1 #[true,true,true,true,true,true,false] ⟨63,AM [(1,(i64 p1)),(2,(.ptr 2 0 0 0)),(4,(.ptr 5 0 0 0)),(5,(i64 n4)),(7,(ls eI c22.fields)),(8,(i64 k28)),(57,(.agg [(ow 3 0 q45.cells),(ow 4 1 q45.pending)]))],[⟨1,30,3,[]⟩,⟨1,3,1,[]⟩,⟨0,26,2,[[(ow 3 0 q45.cells),(ow 4 0 l30)]]⟩,(ro 0 30 3 AA q45.cells),(ro 1 3 1 eI q45.pending),⟨0,26,2,[[.zc,.zc]]⟩]⟩:=(hA47 _ _ _).2 (by
      refine AJ [6] U (by kernel_rfl) (by decide) ⟨?_,trivial⟩
      ·refine AH (i:=6) rfl U (by rfl) ?_
       refine Bt (st':=[⟨1,30,3,[]⟩,⟨1,3,1,[]⟩,⟨0,26,2,[[(ow 3 0 q45.cells),(ow 4 1 q45.pending)]]⟩,(ro 0 30 3 AA q45.cells),(ro 1 3 1 eI q45.pending),⟨0,26,2,[[.zc,.zc]]⟩]) Ae DU U U U U U U (show 0+2≤2 by decide) rfl ?_
       refine AE ⟨U,?_⟩
       exact AD (by refine Wk.trans (Dc (L:=[(1,(i64 p1)),(2,(.ptr 2 0 0 0)),(4,(.ptr 5 0 0 0)),(5,(i64 n4)),(7,(ls eI c22.fields)),(8,(i64 k28))]) (st':=[⟨1,30,3,[]⟩,⟨1,3,1,[]⟩,⟨0,26,2,[[(ow 3 0 q45.cells),(ow 4 0 q45.pending)]]⟩,(ro 0 30 3 AA q45.cells),(ro 0 3 1 eI q45.pending),⟨0,26,2,[[.zc,.zc]]⟩]) (.pure U (by intro x hx;cases hx) (.pure U (by intro x hx;cases hx) (.raw U U U (.pure U (AB fun _=>U) (.pure U (AB fun _=>U) (.raw U U U .nil)))))) ⟨.rfl,.rfl,.rfl,.rfl,.rfl,.rfl,trivial⟩) ?_;exact AF (L:=[(1,(i64 p1)),(2,(.ptr 2 0 0 0)),(4,(.ptr 5 0 0 0)),(5,(i64 n4)),(7,(ls eI c22.fields)),(8,(i64 k28))]) ⟨.rfl,.rfl,.rfl,.rfl,.rfl,.rfl,trivial⟩) (AG (by kernel_rfl) ((hA47 _ _ _).1 A47_0123456)) rfl)
     have A47_01234:A47 2 #[true,true,true,true,true,false,false] ⟨63,AM [(1,(i64 p1)),(2,(.ptr 2 0 0 0)),(4,(.ptr 5 0 0 0)),(5,(i64 n4)),(7,(ls eI c22.fields)),(8,(i64 k28)),(52,(.agg [(ow 3 0 l29),(ow 4 0 l30)])),(56,(i64 c42))],[⟨1,30,3,[]⟩,⟨1,3,1,[]⟩,⟨0,26,2,[[(ow 3 0 l29),(ow 4 0 l30)]]⟩,(ro 0 30 3 AA l29),(ro 0 3 1 eI l30),⟨0,26,2,[[.zc,.zc]]⟩]⟩:=(hA47 _ _ _).2 (by
      refine AJ [5] U (by kernel_rfl) (by decide) ⟨?_,trivial⟩
      ·refine AH (i:=5) rfl U (by rfl) ?_
       refine IP (rowsP:=[⟨0,30,3,List.map AA l29⟩,⟨0,3,1,List.map eI l30⟩]) (rows0:=[⟨0,30,3,List.map AA l29⟩,⟨0,3,1,List.map eI l30⟩]) (rows1:=[⟨0,30,3,List.map AA q45.cells⟩,⟨1,3,1,List.map eI q45.pending⟩]) (rows2:=[]) (rows1':=[⟨0,30,3,List.map AA q45.cells⟩,⟨1,3,1,List.map eI q45.pending⟩]) (rows2':=[]) (st':=[⟨1,30,3,[]⟩,⟨1,3,1,[]⟩,⟨0,26,2,[[(.own 3 0 (List.length l29)),(.own 4 0 (List.length l30))]]⟩,⟨0,30,3,List.map AA q45.cells⟩,⟨1,3,1,List.map eI q45.pending⟩,⟨0,26,2,[[.zc,.zc]]⟩]) (v':=(.agg [(.own 3 0 (List.length q45.cells)),(.own 4 1 (List.length q45.pending))])) [3,4] Ae Rq (Hb gq45) rfl (by decide) rfl U (.pure (AB fun _=>U) (.pure (AB fun _=>U) .nil)) rfl U (.pure (AB fun _=>U) (.pure (AB fun _=>U) .nil)) .nil U U (fun hln=>?_)
       have ln48:List.length q45.cells=List.length l29:=by simpa only[List.length_map] using hln 0 _ _ rfl rfl rfl
       refine AE ⟨U,?_⟩
       exact AD (by refine Wk.trans (AF (L:=[(1,(i64 p1)),(2,(.ptr 2 0 0 0)),(4,(.ptr 5 0 0 0)),(5,(i64 n4)),(7,(.sl (List.map eI c22.fields))),(8,(i64 k28)),(57,(.agg [(.own 3 0 (List.length q45.cells)),(.own 4 1 (List.length q45.pending))]))]) ⟨.rfl,.rfl,.rfl,.rfl,.rfl,.rfl,.rfl,trivial⟩) ?_;refine Wk.trans (Gz (st:=[⟨1,30,3,[]⟩,⟨1,3,1,[]⟩,⟨0,26,2,[[(.own 3 0 (List.length l29)),(.own 4 0 (List.length l30))]]⟩,⟨0,30,3,List.map AA q45.cells⟩,⟨1,3,1,List.map eI q45.pending⟩,⟨0,26,2,[[.zc,.zc]]⟩]) (st':=[⟨1,30,3,[]⟩,⟨1,3,1,[]⟩,⟨0,26,2,[[(.own 3 0 (List.length q45.cells)),(.own 4 0 (List.length l30))]]⟩,⟨0,30,3,List.map AA q45.cells⟩,⟨1,3,1,List.map eI q45.pending⟩,⟨0,26,2,[[.zc,.zc]]⟩]) (by first | (simp only[Sh.CO];done) | simp only[Sh.CO,ln48] | simp only[ln48])) ?_;exact AF (L:=[(1,(i64 p1)),(2,(.ptr 2 0 0 0)),(4,(.ptr 5 0 0 0)),(5,(i64 n4)),(7,(.sl (List.map eI c22.fields))),(8,(i64 k28)),(57,(.agg [(.own 3 0 (List.length q45.cells)),(.own 4 1 (List.length q45.pending))]))]) ⟨.rfl,.rfl,.rfl,.rfl,.rfl,.rfl,.rfl,trivial⟩) (AG (by kernel_rfl) ((hA47 _ _ _).1 A47_012345)) rfl)
     have A47_0123:A47 3 #[true,true,true,true,false,false,false] ⟨63,AM [(1,(i64 p1)),(2,(.ptr 2 0 0 0)),(4,(.ptr 5 0 0 0)),(5,(i64 n4)),(7,(ls eI c22.fields)),(8,(i64 k28)),(52,(.agg [(ow 3 0 l29),(ow 4 0 l30)])),(55,(.B4 (eI c42) 0))],[⟨1,30,3,[]⟩,⟨1,3,1,[]⟩,⟨0,26,2,[[(ow 3 0 l29),(ow 4 0 l30)]]⟩,(ro 0 30 3 AA l29),(ro 0 3 1 eI l30),⟨0,26,2,[[.zc,.zc]]⟩]⟩:=(hA47 _ _ _).2 (by
      refine AJ [4] U (by kernel_rfl) (by decide) ⟨?_,trivial⟩
      ·refine AH (i:=4) rfl U (by rfl) ?_
       refine zq tb U ?_
       refine AE ⟨U,?_⟩
       exact AD (AF (L:=[(1,(i64 p1)),(2,(.ptr 2 0 0 0)),(4,(.ptr 5 0 0 0)),(5,(i64 n4)),(7,(ls eI c22.fields)),(8,(i64 k28)),(52,(.agg [(ow 3 0 l29),(ow 4 0 l30)])),(56,(i64 c42))]) ⟨.rfl,.rfl,.rfl,.rfl,.rfl,.rfl,.rfl,.rfl,trivial⟩) (AG (by kernel_rfl) ((hA47 _ _ _).1 A47_01234)) rfl)
     have A47_012:A47 4 #[true,true,true,false,false,false,false] ⟨63,AM [(1,(i64 p1)),(2,(.ptr 2 0 0 0)),(4,(.ptr 5 0 0 0)),(5,(i64 n4)),(7,(ls eI c22.fields)),(8,(i64 k28)),(52,(.agg [(ow 3 0 l29),(ow 4 0 l30)])),(53,(ls eI c22.fields)),(54,(i64 k28))],[⟨1,30,3,[]⟩,⟨1,3,1,[]⟩,⟨0,26,2,[[(ow 3 0 l29),(ow 4 0 l30)]]⟩,(ro 0 30 3 AA l29),(ro 0 3 1 eI l30),⟨0,26,2,[[.zc,.zc]]⟩]⟩:=(hA47 _ _ _).2 (by
      refine AJ [3] U (by kernel_rfl) (by decide) ⟨?_,trivial⟩
      ·refine AH (i:=3) rfl U (by rfl) ?_
       refine zx Av gc42 U U U ?_
       refine AE ⟨U,?_⟩
       exact AD (AF (L:=[(1,(i64 p1)),(2,(.ptr 2 0 0 0)),(4,(.ptr 5 0 0 0)),(5,(i64 n4)),(7,(ls eI c22.fields)),(8,(i64 k28)),(52,(.agg [(ow 3 0 l29),(ow 4 0 l30)])),(55,(.B4 (eI c42) 0))]) ⟨.rfl,.rfl,.rfl,.rfl,.rfl,.rfl,.rfl,.rfl,trivial⟩) (AG (by kernel_rfl) ((hA47 _ _ _).1 A47_0123)) rfl)
     have A47_1234:A47 3 #[false,true,true,true,true,false,false] ⟨63,AM [(1,(i64 p1)),(2,(.ptr 2 0 0 0)),(4,(.ptr 5 0 0 0)),(5,(i64 n4)),(7,(ls eI c22.fields)),(8,(i64 k28)),(56,(i64 c42))],[⟨1,30,3,[]⟩,⟨1,3,1,[]⟩,⟨0,26,2,[[(ow 3 0 l29),(ow 4 0 l30)]]⟩,(ro 0 30 3 AA l29),(ro 0 3 1 eI l30),⟨0,26,2,[[.zc,.zc]]⟩]⟩:=(hA47 _ _ _).2 (by
      refine AJ [0] U (by kernel_rfl) (by decide) ⟨?_,trivial⟩
      ·refine AH (i:=0) rfl U (by rfl) ?_
       refine zq tb U ?_
       refine AE ⟨U,?_⟩
       exact AD (AF (L:=[(1,(i64 p1)),(2,(.ptr 2 0 0 0)),(4,(.ptr 5 0 0 0)),(5,(i64 n4)),(7,(ls eI c22.fields)),(8,(i64 k28)),(52,(.agg [(ow 3 0 l29),(ow 4 0 l30)])),(56,(i64 c42))]) ⟨.rfl,.rfl,.rfl,.rfl,.rfl,.rfl,.rfl,.rfl,trivial⟩) (AG (by kernel_rfl) ((hA47 _ _ _).1 A47_01234)) rfl)
     have A47_123:A47 4 #[false,true,true,true,false,false,false] ⟨63,AM [(1,(i64 p1)),(2,(.ptr 2 0 0 0)),(4,(.ptr 5 0 0 0)),(5,(i64 n4)),(7,(ls eI c22.fields)),(8,(i64 k28)),(55,(.B4 (eI c42) 0))],[⟨1,30,3,[]⟩,⟨1,3,1,[]⟩,⟨0,26,2,[[(ow 3 0 l29),(ow 4 0 l30)]]⟩,(ro 0 30 3 AA l29),(ro 0 3 1 eI l30),⟨0,26,2,[[.zc,.zc]]⟩]⟩:=(hA47 _ _ _).2 (by
      refine AJ [0,4] U (by kernel_rfl) (by decide) ⟨?_,?_,trivial⟩
      ·refine AH (i:=0) rfl U (by rfl) ?_
       refine zq tb U ?_
       refine AE ⟨U,?_⟩
       exact AD (AF (L:=[(1,(i64 p1)),(2,(.ptr 2 0 0 0)),(4,(.ptr 5 0 0 0)),(5,(i64 n4)),(7,(ls eI c22.fields)),(8,(i64 k28)),(52,(.agg [(ow 3 0 l29),(ow 4 0 l30)])),(55,(.B4 (eI c42) 0))]) ⟨.rfl,.rfl,.rfl,.rfl,.rfl,.rfl,.rfl,.rfl,trivial⟩) (AG (by kernel_rfl) ((hA47 _ _ _).1 A47_0123)) rfl
      ·refine AH (i:=4) rfl U (by rfl) ?_
       refine zq tb U ?_
       refine AE ⟨U,?_⟩
       exact AD (AF (L:=[(1,(i64 p1)),(2,(.ptr 2 0 0 0)),(4,(.ptr 5 0 0 0)),(5,(i64 n4)),(7,(ls eI c22.fields)),(8,(i64 k28)),(56,(i64 c42))]) ⟨.rfl,.rfl,.rfl,.rfl,.rfl,.rfl,.rfl,trivial⟩) (AG (by kernel_rfl) ((hA47 _ _ _).1 A47_1234)) rfl)
     have A47_12:A47 5 #[false,true,true,false,false,false,false] ⟨63,AM [(1,(i64 p1)),(2,(.ptr 2 0 0 0)),(4,(.ptr 5 0 0 0)),(5,(i64 n4)),(7,(ls eI c22.fields)),(8,(i64 k28)),(53,(ls eI c22.fields)),(54,(i64 k28))],[⟨1,30,3,[]⟩,⟨1,3,1,[]⟩,⟨0,26,2,[[(ow 3 0 l29),(ow 4 0 l30)]]⟩,(ro 0 30 3 AA l29),(ro 0 3 1 eI l30),⟨0,26,2,[[.zc,.zc]]⟩]⟩:=(hA47 _ _ _).2 (by
      refine AJ [0,3] U (by kernel_rfl) (by decide) ⟨?_,?_,trivial⟩
      ·refine AH (i:=0) rfl U (by rfl) ?_
       refine zq tb U ?_
       refine AE ⟨U,?_⟩
       exact AD (AF (L:=[(1,(i64 p1)),(2,(.ptr 2 0 0 0)),(4,(.ptr 5 0 0 0)),(5,(i64 n4)),(7,(ls eI c22.fields)),(8,(i64 k28)),(52,(.agg [(ow 3 0 l29),(ow 4 0 l30)])),(53,(ls eI c22.fields)),(54,(i64 k28))]) ⟨.rfl,.rfl,.rfl,.rfl,.rfl,.rfl,.rfl,.rfl,.rfl,trivial⟩) (AG (by kernel_rfl) ((hA47 _ _ _).1 A47_012)) rfl
      ·refine AH (i:=3) rfl U (by rfl) ?_
       refine zx Av gc42 U U U ?_
       refine AE ⟨U,?_⟩
       exact AD (AF (L:=[(1,(i64 p1)),(2,(.ptr 2 0 0 0)),(4,(.ptr 5 0 0 0)),(5,(i64 n4)),(7,(ls eI c22.fields)),(8,(i64 k28)),(55,(.B4 (eI c42) 0))]) ⟨.rfl,.rfl,.rfl,.rfl,.rfl,.rfl,.rfl,trivial⟩) (AG (by kernel_rfl) ((hA47 _ _ _).1 A47_123)) rfl)
     have A47_1:A47 6 #[false,true,false,false,false,false,false] ⟨63,AM [(1,(i64 p1)),(2,(.ptr 2 0 0 0)),(4,(.ptr 5 0 0 0)),(5,(i64 n4)),(7,(ls eI c22.fields)),(8,(i64 k28)),(53,(ls eI c22.fields))],[⟨1,30,3,[]⟩,⟨1,3,1,[]⟩,⟨0,26,2,[[(ow 3 0 l29),(ow 4 0 l30)]]⟩,(ro 0 30 3 AA l29),(ro 0 3 1 eI l30),⟨0,26,2,[[.zc,.zc]]⟩]⟩:=(hA47 _ _ _).2 (by
      refine Bf 2 (v:=(i64 k28)) rfl U (by kernel_rfl) (by kernel_rfl) (by kernel_rfl) rfl (Cc U) ?_
      exact AD (AF (L:=[(1,(i64 p1)),(2,(.ptr 2 0 0 0)),(4,(.ptr 5 0 0 0)),(5,(i64 n4)),(7,(ls eI c22.fields)),(8,(i64 k28)),(53,(ls eI c22.fields)),(54,(i64 k28))]) ⟨.rfl,.rfl,.rfl,.rfl,.rfl,.rfl,.rfl,.rfl,trivial⟩) (AG (by kernel_rfl) ((hA47 _ _ _).1 A47_12)) rfl)
     have A47_e:A47 7 #[false,false,false,false,false,false,false] ⟨63,AM [(1,(i64 p1)),(2,(.ptr 2 0 0 0)),(4,(.ptr 5 0 0 0)),(5,(i64 n4)),(7,(ls eI c22.fields)),(8,(i64 k28))],[⟨1,30,3,[]⟩,⟨1,3,1,[]⟩,⟨0,26,2,[[(ow 3 0 l29),(ow 4 0 l30)]]⟩,(ro 0 30 3 AA l29),(ro 0 3 1 eI l30),⟨0,26,2,[[.zc,.zc]]⟩]⟩:=(hA47 _ _ _).2 (by
      refine Bf 1 (v:=(ls eI c22.fields)) rfl U (by kernel_rfl) (by kernel_rfl) (by kernel_rfl) rfl (Cc U) ?_
      exact AD (AF (L:=[(1,(i64 p1)),(2,(.ptr 2 0 0 0)),(4,(.ptr 5 0 0 0)),(5,(i64 n4)),(7,(ls eI c22.fields)),(8,(i64 k28)),(53,(ls eI c22.fields))]) ⟨.rfl,.rfl,.rfl,.rfl,.rfl,.rfl,.rfl,trivial⟩) (AG (by kernel_rfl) ((hA47 _ _ _).1 A47_1)) rfl)
     refine (hA47 _ _ _).2 ?_
     exact AD (by refine Wk.trans (AL (L:=[(1,(i64 p1)),(2,(.ptr 2 0 0 0)),(4,(.ptr 5 0 0 0)),(5,(i64 n4)),(7,(ls eI c22.fields)),(8,(i64 k28))]) (st':=[⟨1,30,3,[]⟩,⟨1,3,1,[]⟩,⟨0,26,2,[[(ow 3 0 l29),(ow 4 0 l30)]]⟩,(ro 0 30 3 AA l29),(ro 0 3 1 eI l30),⟨0,26,2,[[.zc,.zc]]⟩]) (st1:=[⟨1,30,3,[]⟩,⟨1,3,1,[]⟩,⟨0,26,2,[[(ow 2 0 l29),(ow 5 0 l30)]]⟩,(ro 0 30 3 AA l29),(ro 0 3 1 eI l30),⟨0,26,2,[[.zc,.zc]]⟩]) [0,1,3,2,5,4] U (.pure (by intro x hx;cases hx) (.pure (by intro x hx;cases hx) .nil)) (by decide) rfl U (.pure (by intro x hx;cases hx) (.pure (by intro x hx;cases hx) (.raw U U (.pure (AB fun _=>U) (.pure (AB fun _=>U) (.raw U U .nil)))))) ⟨.rfl,.rfl,.rfl,.rfl,.rfl,.rfl,trivial⟩) ?_;exact AF (L:=[(1,(i64 p1)),(2,(.ptr 2 0 0 0)),(4,(.ptr 5 0 0 0)),(5,(i64 n4)),(7,(ls eI c22.fields)),(8,(i64 k28))]) ⟨.rfl,.rfl,.rfl,.rfl,.rfl,.rfl,trivial⟩) (AG (by kernel_rfl) ((hA47 _ _ _).1 A47_e)) rfl
    ·intro b44 h3
     exact AU (M40 l29 l30 (Sh.AK h3).symm _ (AP U))
   ·intro b36 h2
    exact Au (M33 l29 l30 (Sh.AK h2).symm _ (AP U))
  ·intro b17 h1
   exact Au (M9 l5 l6 (Sh.AK h1).symm _ (AP U))
 refine AR (by rfl) ?_
 refine zm tb 4 U ?_
 rcases Sh.Ar h2 with ⟨b48,h2⟩ | ⟨b48,h2⟩
 ·refine zg tb b48 U ?_
  refine zg tb b48 U ?_
  refine CY (v:=(i64 (Sh.len l6))) (Ce U U b48) rfl (Bj GH U U U) ?_
  refine zg tb b48 U ?_
  refine zt b48 U ?_
  exact AE (M16 (decide (0 < (Sh.len l6))) (Sh.AK h2).symm _ (AP U))
 ·refine zs b48 U ?_
  iterate 3 refine zs b48 rfl ?_
  refine zf b48 U ?_
  exact AE (M16 false (Sh.AK h2).symm _ (AP U))
theorem Iv {N:Nat} {s0_0:(List Int)} {s0_1:Int} {r:BK×Int} (h0:D8 N s0_0 s0_1=some r):Ag Try.prog 15 [(.ptr 0 0 0 0)] [⟨0,43,2,[[(ls AI s0_0),(i64 s0_1)]]⟩] (fun v st=>v=(.agg [(ow 1 0 r.1.cells),(ow 2 0 r.1.pending)])∧st=[⟨0,43,2,[[(ls AI s0_0),(i64 r.2)]]⟩,(ro 0 30 3 AA r.1.cells),(ro 0 3 1 eI r.1.pending)]):=by
 unfold D8 at h0
 refine Ag.wk (r0:=(.agg [(ow 1 0 r.1.cells),(ow 2 0 r.1.pending)])) (st0:=[⟨0,43,2,[[(ls AI s0_0),(i64 r.2)]]⟩,(ro 0 30 3 AA r.1.cells),(ro 0 3 1 eI r.1.pending),⟨0,26,2,[[(ow 1 0 r.1.cells),(ow 2 0 r.1.pending)]]⟩]) ?_ (E8 (L:=[(0,(.agg [(ow 1 0 r.1.cells),(ow 2 0 r.1.pending)]))]) (st':=[⟨0,43,2,[[(ls AI s0_0),(i64 r.2)]]⟩,(ro 0 30 3 AA r.1.cells),(ro 0 3 1 eI r.1.pending)]) [0,1,2] U (by decide) rfl U (.raw U (.pure (AB fun _=>U) (.pure (AB fun _=>U) trivial))) ⟨.rfl,trivial⟩)
 refine ai Try.func15 U U U U ?_
 refine sr U fun K1 hK1=>?_
 refine BF (m:=1) (st':=[⟨0,43,2,[[(ls AI s0_0),(i64 s0_1)]]⟩,⟨0,26,2,[[.zc,.zc]]⟩]) Ae C5 U U ?_
 refine dn hK1 U ?_
 refine sr U fun K2 hK2=>?_
 refine zq tb U ?_
 obtain⟨q3,gq3,h0⟩:=Sh.bind_some h0
 refine Ad (rowsP:=[⟨0,43,2,[[(ls AI s0_0),(i64 s0_1)]]⟩]) (rows0:=[⟨0,43,2,[[(ls AI s0_0),(i64 s0_1)]]⟩]) (rows1:=[⟨0,43,2,[[(ls AI s0_0),(i64 q3.2)]]⟩]) (rows2:=[(ro 0 30 3 AA q3.1)]) (rows1':=[⟨0,43,2,[[(ls AI s0_0),(i64 q3.2)]]⟩]) (rows2':=[(ro 0 30 3 AA q3.1)]) (st':=[⟨0,43,2,[[(ls AI s0_0),(i64 q3.2)]]⟩,⟨0,26,2,[[.zc,.zc]]⟩,(ro 0 30 3 AA q3.1)]) (v':=(ow 2 0 q3.1)) [0] Ae Sy (I3 gq3) rfl (by decide) rfl U (.raw U U .nil) rfl U (.raw U U .nil) (.pure (AB fun _=>U) .nil) rfl U ?_
 refine Bc (m:=3) (st':=[⟨0,43,2,[[(ls AI s0_0),(i64 q3.2)]]⟩,⟨0,26,2,[[.zc,.zc]]⟩,(ro 0 30 3 AA q3.1),(ro 0 3 1 eI ([]:List Int))]) (l:=([]:List Int)) (enc:=eI) Ae Av (by decide) rfl U U U U U ?_
 refine zz (.agg [(ow 2 0 q3.1),(.own 3 0 (List.length ([]:List Int)))]) (FY NV Nf C5 U U) rfl ?_
 refine BF (m:=4) (st':=[⟨0,43,2,[[(ls AI s0_0),(i64 q3.2)]]⟩,⟨0,26,2,[[.zc,.zc]]⟩,(ro 0 30 3 AA q3.1),(ro 0 3 1 eI ([]:List Int)),⟨0,26,2,[[.zc,.zc]]⟩]) Ae C5 U U ?_
 refine Bt (st':=[⟨0,43,2,[[(ls AI s0_0),(i64 q3.2)]]⟩,⟨0,26,2,[[.zc,.zc]]⟩,(ro 0 30 3 AA q3.1),(ro 0 3 1 eI ([]:List Int)),⟨0,26,2,[[(ow 2 0 q3.1),(.own 3 0 (List.length ([]:List Int)))]]⟩]) Ae DU U U U U U U (show 0+2≤2 by decide) rfl ?_
 refine dn hK2 U ?_
 refine AN fun K4 hK4=>?_
 refine sr U fun K5 hK5=>?_
 refine zq tb U ?_
 obtain⟨q6,gq6,h0⟩:=Sh.bind_some h0
 refine Ad (rowsP:=[⟨0,43,2,[[(ls AI s0_0),(i64 q3.2)]]⟩]) (rows0:=[⟨0,43,2,[[(ls AI s0_0),(i64 q3.2)]]⟩]) (rows1:=[⟨0,43,2,[[(ls AI s0_0),(i64 q6.2)]]⟩]) (rows2:=[]) (rows1':=[⟨0,43,2,[[(ls AI s0_0),(i64 q6.2)]]⟩]) (rows2':=[]) (st':=[⟨0,43,2,[[(ls AI s0_0),(i64 q6.2)]]⟩,⟨0,26,2,[[.zc,.zc]]⟩,(ro 0 30 3 AA q3.1),(ro 0 3 1 eI ([]:List Int)),⟨0,26,2,[[(ow 2 0 q3.1),(.own 3 0 (List.length ([]:List Int)))]]⟩]) (v':=(i64 q6.1)) [0] Ae Dw (Aj gq6) rfl (by decide) rfl U (.raw U U .nil) rfl U (.raw U U .nil) .nil U U ?_
 refine zq tb U ?_
 refine dn hK5 U ?_
 obtain⟨o14,h1,h0⟩:=Sh.bind_some h0
 have M14 :∀(f11:Int) (l12:(List Cell)) (l13:(List Int)),o14=(f11,l12,l13)→∀s,Wk 1 s ⟨42,AM [(2,(.ptr 1 0 0 0)),(3,(.ptr 4 0 0 0))],[⟨0,43,2,[[(ls AI s0_0),(i64 f11)]]⟩,⟨0,26,2,[[.zc,.zc]]⟩,(ro 0 30 3 AA l12),(ro 0 3 1 eI l13),⟨0,26,2,[[(ow 2 0 l12),(ow 3 0 l13)]]⟩]⟩→K4 s:=by
  intro f11 l12 l13 hq s hw
  subst o14
  try dsimp only at h0
  refine hK4 _ (AS hw ?_)
  refine sr U fun K15 hK15=>?_
  refine zq tb U ?_
  refine Bt (st':=[⟨0,43,2,[[(ls AI s0_0),(i64 f11)]]⟩,⟨0,26,2,[[(ow 2 0 l12),(ow 3 0 l13)]]⟩,(ro 0 30 3 AA l12),(ro 0 3 1 eI l13),⟨0,26,2,[[(ow 2 0 l12),(ow 3 0 l13)]]⟩]) Ae DU U U U U U U (show 0+2≤2 by decide) rfl ?_
  refine dn hK15 U ?_
  replace h0:=Sh.AK h0
  subst r
  exact AZ (Exists.intro _ (And.intro ((AL (L:=[(2,(.ptr 3 0 0 0))]) (st':=[⟨0,43,2,[[(ls AI s0_0),(i64 f11)]]⟩,(ro 0 30 3 AA l12),(ro 0 3 1 eI l13),⟨0,26,2,[[(ow 1 0 l12),(ow 2 0 l13)]]⟩]) (st1:=[⟨0,43,2,[[(ls AI s0_0),(i64 f11)]]⟩,(ro 0 30 3 AA l12),(ro 0 3 1 eI l13),⟨0,26,2,[[(ow 2 0 l12),(ow 3 0 l13)]]⟩]) [0,2,3,1] U (.raw U U .nil) (by decide) rfl U (.raw U U (.pure (AB fun _=>U) (.pure (AB fun _=>U) (.raw U U .nil)))) ⟨.rfl,trivial⟩).trans (AF (L:=[(2,(.ptr 3 0 0 0))]) ⟨.rfl,trivial⟩)) (D3 (x:=.tmp 2) (off:=0) (cs:=[(ow 1 0 l12),(ow 2 0 l13)]) (vs:=[(ow 1 0 l12),(ow 2 0 l13)]) DU U U U (show 0+2≤2 by decide) rfl _ ⟨U,U⟩)))
 refine AY (Ap (σ:=Int×Int×(List Cell)×(List Int)) (fun n v=>CH N s0_0 n v.1 v.2.1 v.2.2.1 v.2.2.2=some o14) (fun (n7,f8,l9,l10)=>⟨42,AM [(0,(.ptr 0 0 0 0)),(2,(.ptr 1 0 0 0)),(3,(.ptr 4 0 0 0)),(4,(i64 n7))],[⟨0,43,2,[[(ls AI s0_0),(i64 f8)]]⟩,⟨0,26,2,[[.zc,.zc]]⟩,(ro 0 30 3 AA l9),(ro 0 3 1 eI l10),⟨0,26,2,[[(ow 2 0 l9),(ow 3 0 l10)]]⟩]⟩) N (q6.1,q6.2,q3.1,[]) h1 (AP U) (fun _ hv=>by rw[CH] at hv;cases hv) ?_)
 rintro n ⟨n7,f8,l9,l10⟩ h1
 try dsimp only at h1 ⊢
 rw[CH] at h1
 refine AN fun K16 hK16=>?_
 refine AN fun K17 hK17=>?_
 obtain⟨o19,h2,h1⟩:=Sh.bind_some h1
 have M19 :∀(t18:Bool),o19=t18→∀s,Wk 1 s ⟨42,AM [(0,(.ptr 0 0 0 0)),(2,(.ptr 1 0 0 0)),(3,(.ptr 4 0 0 0)),(4,(i64 n7)),(20,(.bool t18))],[⟨0,43,2,[[(ls AI s0_0),(i64 f8)]]⟩,⟨0,26,2,[[.zc,.zc]]⟩,(ro 0 30 3 AA l9),(ro 0 3 1 eI l10),⟨0,26,2,[[(ow 2 0 l9),(ow 3 0 l10)]]⟩]⟩→K17 s:=by
  intro t18 hq s hw
  subst o19
  try dsimp only at h1
  refine hK17 _ (AS hw ?_)
  refine ci h1 U ?_ ?_ <;> clear h1
  ·intro b20 h1
   refine AU (hK16 _ ?_)
   refine AN fun K21 hK21=>?_
   obtain⟨o25,h2,h1⟩:=Sh.bind_some h1
   have M25 :∀(f22:Int) (l23:(List Cell)) (l24:(List Int)),o25=(f22,l23,l24)→∀s,Wk 1 s ⟨42,AM [(0,(.ptr 0 0 0 0)),(2,(.ptr 1 0 0 0)),(3,(.ptr 2 0 0 0)),(4,(i64 n7))],[⟨0,43,2,[[(ls AI s0_0),(i64 f22)]]⟩,⟨0,26,2,[[.zc,.zc]]⟩,⟨0,26,2,[[(ow 3 0 l23),(ow 4 0 l24)]]⟩,(ro 0 30 3 AA l23),(ro 0 3 1 eI l24)]⟩→K21 s:=by
    intro f22 l23 l24 hq s hw
    subst o25
    try dsimp only at h1
    refine hK21 _ (AS hw ?_)
    refine AR (by rfl) ?_
    refine zm tb 3 U ?_
    exact AE (xi (Sh.w (n7 - 1),f22,l23,l24) h1 (AL (L:=[(0,(.ptr 0 0 0 0)),(2,(.ptr 1 0 0 0)),(3,(.ptr 4 0 0 0)),(4,(i64 (Sh.w (n7 - 1))))]) (st':=[⟨0,43,2,[[(ls AI s0_0),(i64 f22)]]⟩,⟨0,26,2,[[.zc,.zc]]⟩,(ro 0 30 3 AA l23),(ro 0 3 1 eI l24),⟨0,26,2,[[(ow 2 0 l23),(ow 3 0 l24)]]⟩]) (st1:=[⟨0,43,2,[[(ls AI s0_0),(i64 f22)]]⟩,⟨0,26,2,[[.zc,.zc]]⟩,(ro 0 30 3 AA l23),(ro 0 3 1 eI l24),⟨0,26,2,[[(ow 3 0 l23),(ow 4 0 l24)]]⟩]) [0,1,3,4,2] U (.raw U U .nil) (by decide) rfl U (.raw U U (.raw U U (.pure (AB fun _=>U) (.pure (AB fun _=>U) (.raw U U .nil))))) ⟨.rfl,.rfl,.rfl,.rfl,trivial⟩))
   refine AY ?_
   refine AN fun K26 hK26=>?_
   refine Dd (by kernel_rfl) ?_
   obtain⟨q27,gq27,h2⟩:=Sh.bind_some h2
   obtain⟨q28,gq28,h2⟩:=Sh.bind_some h2
   refine Et fun A29 hA29=>?_
   have A29_0123456789abcd:A29 0 #[true,true,true,true,true,true,true,true,true,true,true,true,true,true] ⟨42,AM [(0,(.ptr 0 0 0 0)),(2,(.ptr 1 0 0 0)),(3,(.ptr 2 0 0 0)),(4,(i64 n7)),(5,(.ptr 5 0 0 0)),(6,(.bool q28.2))],[⟨0,43,2,[[(ls AI s0_0),(i64 q27.2)]]⟩,⟨0,26,2,[[.zc,.zc]]⟩,⟨0,26,2,[[(ow 3 0 l9),(ow 4 0 l10)]]⟩,(ro 0 30 3 AA l9),(ro 0 3 1 eI l10),⟨0,26,2,[[(ow 6 0 q28.1.cells),(ow 7 0 q28.1.pending)]]⟩,(ro 0 30 3 AA q28.1.cells),(ro 0 3 1 eI q28.1.pending)]⟩:=(hA29 _ _ _).2 (by
    refine EE U (by kernel_rfl) ?_
    refine hK26 _ ?_
    refine AN fun K30 hK30=>?_
    obtain⟨o33,h3,h2⟩:=Sh.bind_some h2
    have M33 :∀(l31:(List Cell)) (l32:(List Int)),o33=(l31,l32)→∀s,Wk 1 s ⟨42,AM [(0,(.ptr 0 0 0 0)),(2,(.ptr 1 0 0 0)),(3,(.ptr 2 0 0 0)),(4,(i64 n7))],[⟨0,43,2,[[(ls AI s0_0),(i64 q27.2)]]⟩,⟨0,26,2,[[.zc,.zc]]⟩,⟨0,26,2,[[(ow 3 0 l31),(ow 4 0 l32)]]⟩,(ro 0 30 3 AA l31),(ro 0 3 1 eI l32)]⟩→K30 s:=by
     intro l31 l32 hq s hw
     subst o33
     try dsimp only at h2
     refine hK30 _ (AS hw ?_)
     refine sr U fun K34 hK34=>?_
     refine zq tb U ?_
     obtain⟨q35,gq35,h2⟩:=Sh.bind_some h2
     refine Ad (rowsP:=[⟨0,43,2,[[(ls AI s0_0),(i64 q27.2)]]⟩]) (rows0:=[⟨0,43,2,[[(ls AI s0_0),(i64 q27.2)]]⟩]) (rows1:=[⟨0,43,2,[[(ls AI s0_0),(i64 q35.2)]]⟩]) (rows2:=[]) (rows1':=[⟨0,43,2,[[(ls AI s0_0),(i64 q35.2)]]⟩]) (rows2':=[]) (st':=[⟨0,43,2,[[(ls AI s0_0),(i64 q35.2)]]⟩,⟨0,26,2,[[.zc,.zc]]⟩,⟨0,26,2,[[(ow 3 0 l31),(ow 4 0 l32)]]⟩,(ro 0 30 3 AA l31),(ro 0 3 1 eI l32)]) (v':=(i64 q35.1)) [0] Ae Dw (Aj gq35) rfl (by decide) rfl U (.raw U U .nil) rfl U (.raw U U .nil) .nil U U ?_
     refine zq tb U ?_
     refine dn hK34 U ?_
     refine ci h2 U ?_ ?_ <;> clear h2
     ·intro b36 h2
      refine AR (by rfl) ?_
      refine zq tb U ?_
      obtain⟨q37,gq37,h2⟩:=Sh.bind_some h2
      refine Ad (rowsP:=[(ro 0 30 3 AA l31),(ro 0 3 1 eI l32)]) (rows0:=[(ro 0 30 3 AA l31),(ro 0 3 1 eI l32)]) (rows1:=[⟨1,30,3,[]⟩,⟨1,3,1,[]⟩]) (rows2:=[(ro 0 30 3 AA q37.cells),(ro 0 3 1 eI q37.pending)]) (rows1':=[⟨1,30,3,[]⟩,⟨1,3,1,[]⟩]) (rows2':=[(ro 0 30 3 AA q37.cells),(ro 0 3 1 eI q37.pending)]) (st':=[⟨0,43,2,[[(ls AI s0_0),(i64 q35.2)]]⟩,⟨0,26,2,[[.zc,.zc]]⟩,⟨0,26,2,[[(ow 3 0 l31),(ow 4 0 l32)]]⟩,⟨1,30,3,[]⟩,⟨1,3,1,[]⟩,(ro 0 30 3 AA q37.cells),(ro 0 3 1 eI q37.pending)]) (v':=(.agg [(ow 5 0 q37.cells),(ow 6 0 q37.pending)])) [3,4] Ae Sx (J3 gq37) rfl (by decide) rfl U (.pure (AB fun _=>U) (.pure (AB fun _=>U) .nil)) rfl U (.pure (by intro x hx;cases hx) (.pure (by intro x hx;cases hx) .nil)) (.pure (AB fun _=>U) (.pure (AB fun _=>U) .nil)) rfl U ?_
      refine Bt (st':=[⟨0,43,2,[[(ls AI s0_0),(i64 q35.2)]]⟩,⟨0,26,2,[[.zc,.zc]]⟩,⟨0,26,2,[[(ow 5 0 q37.cells),(ow 6 0 q37.pending)]]⟩,⟨1,30,3,[]⟩,⟨1,3,1,[]⟩,(ro 0 30 3 AA q37.cells),(ro 0 3 1 eI q37.pending)]) Ae DU U U U U U U (show 0+2≤2 by decide) rfl ?_
      exact AE (M25 q35.2 q37.cells q37.pending (Sh.AK h2).symm _ (AL (L:=[(0,(.ptr 0 0 0 0)),(2,(.ptr 1 0 0 0)),(3,(.ptr 2 0 0 0)),(4,(i64 n7))]) (st':=[⟨0,43,2,[[(ls AI s0_0),(i64 q35.2)]]⟩,⟨0,26,2,[[.zc,.zc]]⟩,⟨0,26,2,[[(ow 3 0 q37.cells),(ow 4 0 q37.pending)]]⟩,(ro 0 30 3 AA q37.cells),(ro 0 3 1 eI q37.pending)]) (st1:=[⟨0,43,2,[[(ls AI s0_0),(i64 q35.2)]]⟩,⟨0,26,2,[[.zc,.zc]]⟩,⟨0,26,2,[[(ow 5 0 q37.cells),(ow 6 0 q37.pending)]]⟩,(ro 0 30 3 AA q37.cells),(ro 0 3 1 eI q37.pending)]) [0,1,2,5,6] U (.raw U U .nil) (by decide) rfl U (.raw U U (.raw U U (.raw U U (.pure (AB fun _=>U) (.pure (AB fun _=>U) .nil))))) ⟨.rfl,.rfl,.rfl,.rfl,trivial⟩))
     ·intro b36 h2
      exact AU (M25 q35.2 l31 l32 (Sh.AK h2).symm _ (AP U))
    refine zr tb U U ?_
    refine ci h3 U ?_ ?_ <;> clear h3
    ·intro b39 h3
     refine AR (by rfl) ?_
     refine zq tb U ?_
     refine Bt (st':=[⟨0,43,2,[[(ls AI s0_0),(i64 q27.2)]]⟩,⟨0,26,2,[[.zc,.zc]]⟩,⟨0,26,2,[[(ow 6 0 q28.1.cells),(ow 7 0 q28.1.pending)]]⟩,(ro 0 30 3 AA l9),(ro 0 3 1 eI l10),⟨0,26,2,[[(ow 6 0 q28.1.cells),(ow 7 0 q28.1.pending)]]⟩,(ro 0 30 3 AA q28.1.cells),(ro 0 3 1 eI q28.1.pending)]) Ae DU U U U U U U (show 0+2≤2 by decide) rfl ?_
     exact AE (M33 q28.1.cells q28.1.pending (Sh.AK h3).symm _ (AL (L:=[(0,(.ptr 0 0 0 0)),(2,(.ptr 1 0 0 0)),(3,(.ptr 2 0 0 0)),(4,(i64 n7))]) (st':=[⟨0,43,2,[[(ls AI s0_0),(i64 q27.2)]]⟩,⟨0,26,2,[[.zc,.zc]]⟩,⟨0,26,2,[[(ow 3 0 q28.1.cells),(ow 4 0 q28.1.pending)]]⟩,(ro 0 30 3 AA q28.1.cells),(ro 0 3 1 eI q28.1.pending)]) (st1:=[⟨0,43,2,[[(ls AI s0_0),(i64 q27.2)]]⟩,⟨0,26,2,[[.zc,.zc]]⟩,⟨0,26,2,[[(ow 6 0 q28.1.cells),(ow 7 0 q28.1.pending)]]⟩,(ro 0 30 3 AA q28.1.cells),(ro 0 3 1 eI q28.1.pending)]) [0,1,2,6,7] U (.raw U U .nil) (by decide) rfl U (.raw U U (.raw U U (.raw U U (.pure (AB fun _=>U) (.pure (AB fun _=>U) .nil))))) ⟨.rfl,.rfl,.rfl,.rfl,trivial⟩))
    ·intro b39 h3
     exact AU (M33 l9 l10 (Sh.AK h3).symm _ (by refine Wk.trans (AL (L:=[(0,(.ptr 0 0 0 0)),(2,(.ptr 1 0 0 0)),(3,(.ptr 2 0 0 0)),(4,(i64 n7))]) (st':=[⟨0,43,2,[[(ls AI s0_0),(i64 q27.2)]]⟩,⟨0,26,2,[[.zc,.zc]]⟩,⟨0,26,2,[[(ow 3 0 l9),(ow 4 0 l10)]]⟩,(ro 0 30 3 AA l9),(ro 0 3 1 eI l10)]) (st1:=[⟨0,43,2,[[(ls AI s0_0),(i64 q27.2)]]⟩,⟨0,26,2,[[.zc,.zc]]⟩,⟨0,26,2,[[(ow 3 0 l9),(ow 4 0 l10)]]⟩,(ro 0 30 3 AA l9),(ro 0 3 1 eI l10)]) [0,1,2,3,4] U (.raw U U .nil) (by decide) rfl U (.raw U U (.raw U U (.raw U U (.pure (AB fun _=>U) (.pure (AB fun _=>U) .nil))))) ⟨.rfl,.rfl,.rfl,.rfl,trivial⟩) ?_;exact AF (L:=[(0,(.ptr 0 0 0 0)),(2,(.ptr 1 0 0 0)),(3,(.ptr 2 0 0 0)),(4,(i64 n7))]) ⟨.rfl,.rfl,.rfl,.rfl,trivial⟩)))
   have A29_0123456789abc:A29 1 #[true,true,true,true,true,true,true,true,true,true,true,true,true,false] ⟨42,AM [(0,(.ptr 0 0 0 0)),(2,(.ptr 1 0 0 0)),(3,(.ptr 2 0 0 0)),(4,(i64 n7)),(5,(.ptr 5 0 0 0)),(33,(.bool q28.2))],[⟨0,43,2,[[(ls AI s0_0),(i64 q27.2)]]⟩,⟨0,26,2,[[.zc,.zc]]⟩,⟨0,26,2,[[(ow 3 0 l9),(ow 4 0 l10)]]⟩,(ro 0 30 3 AA l9),(ro 0 3 1 eI l10),⟨0,26,2,[[(ow 6 0 q28.1.cells),(ow 7 0 q28.1.pending)]]⟩,(ro 0 30 3 AA q28.1.cells),(ro 0 3 1 eI q28.1.pending)]⟩:=(hA29 _ _ _).2 (by
    refine Bf 13 (v:=(.bool q28.2)) rfl U (by kernel_rfl) (by kernel_rfl) (by kernel_rfl) rfl (Px U) ?_
    exact AD (AF (L:=[(0,(.ptr 0 0 0 0)),(2,(.ptr 1 0 0 0)),(3,(.ptr 2 0 0 0)),(4,(i64 n7)),(5,(.ptr 5 0 0 0)),(6,(.bool q28.2))]) ⟨.rfl,.rfl,.rfl,.rfl,.rfl,.rfl,trivial⟩) (AG (by kernel_rfl) ((hA29 _ _ _).1 A29_0123456789abcd)) rfl)
   have A29_0123456789ab:A29 2 #[true,true,true,true,true,true,true,true,true,true,true,true,false,false] ⟨42,AM [(0,(.ptr 0 0 0 0)),(2,(.ptr 1 0 0 0)),(3,(.ptr 2 0 0 0)),(4,(i64 n7)),(5,(.ptr 5 0 0 0)),(32,(.agg [(ow 6 0 q28.1.cells),(ow 7 0 q28.1.pending)])),(33,(.bool q28.2))],[⟨0,43,2,[[(ls AI s0_0),(i64 q27.2)]]⟩,⟨0,26,2,[[.zc,.zc]]⟩,⟨0,26,2,[[(ow 3 0 l9),(ow 4 0 l10)]]⟩,(ro 0 30 3 AA l9),(ro 0 3 1 eI l10),⟨0,26,2,[[.zc,.zc]]⟩,(ro 0 30 3 AA q28.1.cells),(ro 0 3 1 eI q28.1.pending)]⟩:=(hA29 _ _ _).2 (by
    refine AJ [12] U (by kernel_rfl) (by decide) ⟨?_,trivial⟩
    ·refine AH (i:=12) rfl U (by rfl) ?_
     refine Bt (st':=[⟨0,43,2,[[(ls AI s0_0),(i64 q27.2)]]⟩,⟨0,26,2,[[.zc,.zc]]⟩,⟨0,26,2,[[(ow 3 0 l9),(ow 4 0 l10)]]⟩,(ro 0 30 3 AA l9),(ro 0 3 1 eI l10),⟨0,26,2,[[(ow 6 0 q28.1.cells),(ow 7 0 q28.1.pending)]]⟩,(ro 0 30 3 AA q28.1.cells),(ro 0 3 1 eI q28.1.pending)]) Ae DU U U U U U U (show 0+2≤2 by decide) rfl ?_
     refine AE ⟨U,?_⟩
     exact AD (AF (L:=[(0,(.ptr 0 0 0 0)),(2,(.ptr 1 0 0 0)),(3,(.ptr 2 0 0 0)),(4,(i64 n7)),(5,(.ptr 5 0 0 0)),(33,(.bool q28.2))]) ⟨.rfl,.rfl,.rfl,.rfl,.rfl,.rfl,trivial⟩) (AG (by kernel_rfl) ((hA29 _ _ _).1 A29_0123456789abc)) rfl)
   have A29_0123456789a:A29 3 #[true,true,true,true,true,true,true,true,true,true,true,false,false,false] ⟨42,AM [(0,(.ptr 0 0 0 0)),(2,(.ptr 1 0 0 0)),(3,(.ptr 2 0 0 0)),(4,(i64 n7)),(32,(.agg [(ow 5 0 q28.1.cells),(ow 6 0 q28.1.pending)])),(33,(.bool q28.2))],[⟨0,43,2,[[(ls AI s0_0),(i64 q27.2)]]⟩,⟨0,26,2,[[.zc,.zc]]⟩,⟨0,26,2,[[(ow 3 0 l9),(ow 4 0 l10)]]⟩,(ro 0 30 3 AA l9),(ro 0 3 1 eI l10),(ro 0 30 3 AA q28.1.cells),(ro 0 3 1 eI q28.1.pending)]⟩:=(hA29 _ _ _).2 (by
    refine AJ [11] U (by kernel_rfl) (by decide) ⟨?_,trivial⟩
    ·refine AH (i:=11) rfl U (by rfl) ?_
     refine BF (m:=7) (st':=[⟨0,43,2,[[(ls AI s0_0),(i64 q27.2)]]⟩,⟨0,26,2,[[.zc,.zc]]⟩,⟨0,26,2,[[(ow 3 0 l9),(ow 4 0 l10)]]⟩,(ro 0 30 3 AA l9),(ro 0 3 1 eI l10),(ro 0 30 3 AA q28.1.cells),(ro 0 3 1 eI q28.1.pending),⟨0,26,2,[[.zc,.zc]]⟩]) Ae C5 U U ?_
     refine AE ⟨U,?_⟩
     exact AD (by refine Wk.trans (AL (L:=[(0,(.ptr 0 0 0 0)),(2,(.ptr 1 0 0 0)),(3,(.ptr 2 0 0 0)),(4,(i64 n7)),(5,(.ptr 5 0 0 0)),(32,(.agg [(ow 6 0 q28.1.cells),(ow 7 0 q28.1.pending)])),(33,(.bool q28.2))]) (st':=[⟨0,43,2,[[(ls AI s0_0),(i64 q27.2)]]⟩,⟨0,26,2,[[.zc,.zc]]⟩,⟨0,26,2,[[(ow 3 0 l9),(ow 4 0 l10)]]⟩,(ro 0 30 3 AA l9),(ro 0 3 1 eI l10),⟨0,26,2,[[.zc,.zc]]⟩,(ro 0 30 3 AA q28.1.cells),(ro 0 3 1 eI q28.1.pending)]) (st1:=[⟨0,43,2,[[(ls AI s0_0),(i64 q27.2)]]⟩,⟨0,26,2,[[.zc,.zc]]⟩,⟨0,26,2,[[(ow 3 0 l9),(ow 4 0 l10)]]⟩,(ro 0 30 3 AA l9),(ro 0 3 1 eI l10),⟨0,26,2,[[.zc,.zc]]⟩,(ro 0 30 3 AA q28.1.cells),(ro 0 3 1 eI q28.1.pending)]) [0,1,2,3,4,7,5,6] U (.raw U U .nil) (by decide) rfl U (.raw U U (.raw U U (.raw U U (.pure (AB fun _=>U) (.pure (AB fun _=>U) (.raw U U (.pure (AB fun _=>U) (.pure (AB fun _=>U) .nil)))))))) ⟨.rfl,.rfl,.rfl,.rfl,.rfl,.rfl,.rfl,trivial⟩) ?_;exact AF (L:=[(0,(.ptr 0 0 0 0)),(2,(.ptr 1 0 0 0)),(3,(.ptr 2 0 0 0)),(4,(i64 n7)),(5,(.ptr 5 0 0 0)),(32,(.agg [(ow 6 0 q28.1.cells),(ow 7 0 q28.1.pending)])),(33,(.bool q28.2))]) ⟨.rfl,.rfl,.rfl,.rfl,.rfl,.rfl,.rfl,trivial⟩) (AG (by kernel_rfl) ((hA29 _ _ _).1 A29_0123456789ab)) rfl)
   have A29_0123456789bc:A29 2 #[true,true,true,true,true,true,true,true,true,true,false,true,true,false] ⟨42,AM [(0,(.ptr 0 0 0 0)),(2,(.ptr 1 0 0 0)),(3,(.ptr 2 0 0 0)),(4,(i64 n7)),(5,(.ptr 5 0 0 0)),(23,(.BI [(.agg [(ow 6 0 q28.1.cells),(ow 7 0 q28.1.pending)]),(.bool q28.2)]))],[⟨0,43,2,[[(ls AI s0_0),(i64 q27.2)]]⟩,⟨0,26,2,[[.zc,.zc]]⟩,⟨0,26,2,[[(ow 3 0 l9),(ow 4 0 l10)]]⟩,(ro 0 30 3 AA l9),(ro 0 3 1 eI l10),⟨0,26,2,[[(ow 6 0 q28.1.cells),(ow 7 0 q28.1.pending)]]⟩,(ro 0 30 3 AA q28.1.cells),(ro 0 3 1 eI q28.1.pending)]⟩:=(hA29 _ _ _).2 (by
    refine AJ [10] U (by kernel_rfl) (by decide) ⟨?_,trivial⟩
    ·refine AH (i:=10) rfl U (by rfl) ?_
     refine zq tb U ?_
     refine AE ⟨U,?_⟩
     exact AD (AF (L:=[(0,(.ptr 0 0 0 0)),(2,(.ptr 1 0 0 0)),(3,(.ptr 2 0 0 0)),(4,(i64 n7)),(5,(.ptr 5 0 0 0)),(33,(.bool q28.2))]) ⟨.rfl,.rfl,.rfl,.rfl,.rfl,.rfl,trivial⟩) (AG (by kernel_rfl) ((hA29 _ _ _).1 A29_0123456789abc)) rfl)
   have A29_0123456789b:A29 3 #[true,true,true,true,true,true,true,true,true,true,false,true,false,false] ⟨42,AM [(0,(.ptr 0 0 0 0)),(2,(.ptr 1 0 0 0)),(3,(.ptr 2 0 0 0)),(4,(i64 n7)),(5,(.ptr 5 0 0 0)),(23,(.BI [(.agg [(ow 6 0 q28.1.cells),(ow 7 0 q28.1.pending)]),(.bool q28.2)])),(32,(.agg [(ow 6 0 q28.1.cells),(ow 7 0 q28.1.pending)]))],[⟨0,43,2,[[(ls AI s0_0),(i64 q27.2)]]⟩,⟨0,26,2,[[.zc,.zc]]⟩,⟨0,26,2,[[(ow 3 0 l9),(ow 4 0 l10)]]⟩,(ro 0 30 3 AA l9),(ro 0 3 1 eI l10),⟨0,26,2,[[.zc,.zc]]⟩,(ro 0 30 3 AA q28.1.cells),(ro 0 3 1 eI q28.1.pending)]⟩:=(hA29 _ _ _).2 (by
    refine AJ [10,12] U (by kernel_rfl) (by decide) ⟨?_,?_,trivial⟩
    ·refine AH (i:=10) rfl U (by rfl) ?_
     refine zq tb U ?_
     refine AE ⟨U,?_⟩
     exact AD (AF (L:=[(0,(.ptr 0 0 0 0)),(2,(.ptr 1 0 0 0)),(3,(.ptr 2 0 0 0)),(4,(i64 n7)),(5,(.ptr 5 0 0 0)),(32,(.agg [(ow 6 0 q28.1.cells),(ow 7 0 q28.1.pending)])),(33,(.bool q28.2))]) ⟨.rfl,.rfl,.rfl,.rfl,.rfl,.rfl,.rfl,trivial⟩) (AG (by kernel_rfl) ((hA29 _ _ _).1 A29_0123456789ab)) rfl
    ·refine AH (i:=12) rfl U (by rfl) ?_
     refine Bt (st':=[⟨0,43,2,[[(ls AI s0_0),(i64 q27.2)]]⟩,⟨0,26,2,[[.zc,.zc]]⟩,⟨0,26,2,[[(ow 3 0 l9),(ow 4 0 l10)]]⟩,(ro 0 30 3 AA l9),(ro 0 3 1 eI l10),⟨0,26,2,[[(ow 6 0 q28.1.cells),(ow 7 0 q28.1.pending)]]⟩,(ro 0 30 3 AA q28.1.cells),(ro 0 3 1 eI q28.1.pending)]) Ae DU U U U U U U (show 0+2≤2 by decide) rfl ?_
     refine AE ⟨U,?_⟩
     exact AD (AF (L:=[(0,(.ptr 0 0 0 0)),(2,(.ptr 1 0 0 0)),(3,(.ptr 2 0 0 0)),(4,(i64 n7)),(5,(.ptr 5 0 0 0)),(23,(.BI [(.agg [(ow 6 0 q28.1.cells),(ow 7 0 q28.1.pending)]),(.bool q28.2)]))]) ⟨.rfl,.rfl,.rfl,.rfl,.rfl,.rfl,trivial⟩) (AG (by kernel_rfl) ((hA29 _ _ _).1 A29_0123456789bc)) rfl)
   have A29_0123456789:A29 4 #[true,true,true,true,true,true,true,true,true,true,false,false,false,false] ⟨42,AM [(0,(.ptr 0 0 0 0)),(2,(.ptr 1 0 0 0)),(3,(.ptr 2 0 0 0)),(4,(i64 n7)),(23,(.BI [(.agg [(ow 5 0 q28.1.cells),(ow 6 0 q28.1.pending)]),(.bool q28.2)])),(32,(.agg [(ow 5 0 q28.1.cells),(ow 6 0 q28.1.pending)]))],[⟨0,43,2,[[(ls AI s0_0),(i64 q27.2)]]⟩,⟨0,26,2,[[.zc,.zc]]⟩,⟨0,26,2,[[(ow 3 0 l9),(ow 4 0 l10)]]⟩,(ro 0 30 3 AA l9),(ro 0 3 1 eI l10),(ro 0 30 3 AA q28.1.cells),(ro 0 3 1 eI q28.1.pending)]⟩:=(hA29 _ _ _).2 (by
    refine AJ [10,11] U (by kernel_rfl) (by decide) ⟨?_,?_,trivial⟩
    ·refine AH (i:=10) rfl U (by rfl) ?_
     refine zq tb U ?_
     refine AE ⟨U,?_⟩
     exact AD (AF (L:=[(0,(.ptr 0 0 0 0)),(2,(.ptr 1 0 0 0)),(3,(.ptr 2 0 0 0)),(4,(i64 n7)),(32,(.agg [(ow 5 0 q28.1.cells),(ow 6 0 q28.1.pending)])),(33,(.bool q28.2))]) ⟨.rfl,.rfl,.rfl,.rfl,.rfl,.rfl,trivial⟩) (AG (by kernel_rfl) ((hA29 _ _ _).1 A29_0123456789a)) rfl
    ·refine AH (i:=11) rfl U (by rfl) ?_
     refine BF (m:=7) (st':=[⟨0,43,2,[[(ls AI s0_0),(i64 q27.2)]]⟩,⟨0,26,2,[[.zc,.zc]]⟩,⟨0,26,2,[[(ow 3 0 l9),(ow 4 0 l10)]]⟩,(ro 0 30 3 AA l9),(ro 0 3 1 eI l10),(ro 0 30 3 AA q28.1.cells),(ro 0 3 1 eI q28.1.pending),⟨0,26,2,[[.zc,.zc]]⟩]) Ae C5 U U ?_
     refine AE ⟨U,?_⟩
     exact AD (by refine Wk.trans (AL (L:=[(0,(.ptr 0 0 0 0)),(2,(.ptr 1 0 0 0)),(3,(.ptr 2 0 0 0)),(4,(i64 n7)),(5,(.ptr 5 0 0 0)),(23,(.BI [(.agg [(ow 6 0 q28.1.cells),(ow 7 0 q28.1.pending)]),(.bool q28.2)])),(32,(.agg [(ow 6 0 q28.1.cells),(ow 7 0 q28.1.pending)]))]) (st':=[⟨0,43,2,[[(ls AI s0_0),(i64 q27.2)]]⟩,⟨0,26,2,[[.zc,.zc]]⟩,⟨0,26,2,[[(ow 3 0 l9),(ow 4 0 l10)]]⟩,(ro 0 30 3 AA l9),(ro 0 3 1 eI l10),⟨0,26,2,[[.zc,.zc]]⟩,(ro 0 30 3 AA q28.1.cells),(ro 0 3 1 eI q28.1.pending)]) (st1:=[⟨0,43,2,[[(ls AI s0_0),(i64 q27.2)]]⟩,⟨0,26,2,[[.zc,.zc]]⟩,⟨0,26,2,[[(ow 3 0 l9),(ow 4 0 l10)]]⟩,(ro 0 30 3 AA l9),(ro 0 3 1 eI l10),⟨0,26,2,[[.zc,.zc]]⟩,(ro 0 30 3 AA q28.1.cells),(ro 0 3 1 eI q28.1.pending)]) [0,1,2,3,4,7,5,6] U (.raw U U .nil) (by decide) rfl U (.raw U U (.raw U U (.raw U U (.pure (AB fun _=>U) (.pure (AB fun _=>U) (.raw U U (.pure (AB fun _=>U) (.pure (AB fun _=>U) .nil)))))))) ⟨.rfl,.rfl,.rfl,.rfl,.rfl,.rfl,.rfl,trivial⟩) ?_;exact AF (L:=[(0,(.ptr 0 0 0 0)),(2,(.ptr 1 0 0 0)),(3,(.ptr 2 0 0 0)),(4,(i64 n7)),(5,(.ptr 5 0 0 0)),(23,(.BI [(.agg [(ow 6 0 q28.1.cells),(ow 7 0 q28.1.pending)]),(.bool q28.2)])),(32,(.agg [(ow 6 0 q28.1.cells),(ow 7 0 q28.1.pending)]))]) ⟨.rfl,.rfl,.rfl,.rfl,.rfl,.rfl,.rfl,trivial⟩) (AG (by kernel_rfl) ((hA29 _ _ _).1 A29_0123456789b)) rfl)
   have A29_012345678ab:A29 3 #[true,true,true,true,true,true,true,true,true,false,true,true,false,false] ⟨42,AM [(0,(.ptr 0 0 0 0)),(2,(.ptr 1 0 0 0)),(3,(.ptr 2 0 0 0)),(4,(i64 n7)),(5,(.ptr 5 0 0 0)),(23,(.BI [(.agg [(ow 6 0 q28.1.cells),(ow 7 0 q28.1.pending)]),(.bool q28.2)])),(33,(.bool q28.2))],[⟨0,43,2,[[(ls AI s0_0),(i64 q27.2)]]⟩,⟨0,26,2,[[.zc,.zc]]⟩,⟨0,26,2,[[(ow 3 0 l9),(ow 4 0 l10)]]⟩,(ro 0 30 3 AA l9),(ro 0 3 1 eI l10),⟨0,26,2,[[.zc,.zc]]⟩,(ro 0 30 3 AA q28.1.cells),(ro 0 3 1 eI q28.1.pending)]⟩:=(hA29 _ _ _).2 (by
    refine AJ [9] U (by kernel_rfl) (by decide) ⟨?_,trivial⟩
    ·refine AH (i:=9) rfl U (by rfl) ?_
     refine zq tb U ?_
     refine AE ⟨U,?_⟩
     exact AD (AF (L:=[(0,(.ptr 0 0 0 0)),(2,(.ptr 1 0 0 0)),(3,(.ptr 2 0 0 0)),(4,(i64 n7)),(5,(.ptr 5 0 0 0)),(32,(.agg [(ow 6 0 q28.1.cells),(ow 7 0 q28.1.pending)])),(33,(.bool q28.2))]) ⟨.rfl,.rfl,.rfl,.rfl,.rfl,.rfl,.rfl,trivial⟩) (AG (by kernel_rfl) ((hA29 _ _ _).1 A29_0123456789ab)) rfl)
   have A29_012345678a:A29 4 #[true,true,true,true,true,true,true,true,true,false,true,false,false,false] ⟨42,AM [(0,(.ptr 0 0 0 0)),(2,(.ptr 1 0 0 0)),(3,(.ptr 2 0 0 0)),(4,(i64 n7)),(23,(.BI [(.agg [(ow 5 0 q28.1.cells),(ow 6 0 q28.1.pending)]),(.bool q28.2)])),(33,(.bool q28.2))],[⟨0,43,2,[[(ls AI s0_0),(i64 q27.2)]]⟩,⟨0,26,2,[[.zc,.zc]]⟩,⟨0,26,2,[[(ow 3 0 l9),(ow 4 0 l10)]]⟩,(ro 0 30 3 AA l9),(ro 0 3 1 eI l10),(ro 0 30 3 AA q28.1.cells),(ro 0 3 1 eI q28.1.pending)]⟩:=(hA29 _ _ _).2 (by
    refine AJ [9,11] U (by kernel_rfl) (by decide) ⟨?_,?_,trivial⟩
    ·refine AH (i:=9) rfl U (by rfl) ?_
     refine zq tb U ?_
     refine AE ⟨U,?_⟩
     exact AD (AF (L:=[(0,(.ptr 0 0 0 0)),(2,(.ptr 1 0 0 0)),(3,(.ptr 2 0 0 0)),(4,(i64 n7)),(32,(.agg [(ow 5 0 q28.1.cells),(ow 6 0 q28.1.pending)])),(33,(.bool q28.2))]) ⟨.rfl,.rfl,.rfl,.rfl,.rfl,.rfl,trivial⟩) (AG (by kernel_rfl) ((hA29 _ _ _).1 A29_0123456789a)) rfl
    ·refine AH (i:=11) rfl U (by rfl) ?_
     refine BF (m:=7) (st':=[⟨0,43,2,[[(ls AI s0_0),(i64 q27.2)]]⟩,⟨0,26,2,[[.zc,.zc]]⟩,⟨0,26,2,[[(ow 3 0 l9),(ow 4 0 l10)]]⟩,(ro 0 30 3 AA l9),(ro 0 3 1 eI l10),(ro 0 30 3 AA q28.1.cells),(ro 0 3 1 eI q28.1.pending),⟨0,26,2,[[.zc,.zc]]⟩]) Ae C5 U U ?_
     refine AE ⟨U,?_⟩
     exact AD (by refine Wk.trans (AL (L:=[(0,(.ptr 0 0 0 0)),(2,(.ptr 1 0 0 0)),(3,(.ptr 2 0 0 0)),(4,(i64 n7)),(5,(.ptr 5 0 0 0)),(23,(.BI [(.agg [(ow 6 0 q28.1.cells),(ow 7 0 q28.1.pending)]),(.bool q28.2)])),(33,(.bool q28.2))]) (st':=[⟨0,43,2,[[(ls AI s0_0),(i64 q27.2)]]⟩,⟨0,26,2,[[.zc,.zc]]⟩,⟨0,26,2,[[(ow 3 0 l9),(ow 4 0 l10)]]⟩,(ro 0 30 3 AA l9),(ro 0 3 1 eI l10),⟨0,26,2,[[.zc,.zc]]⟩,(ro 0 30 3 AA q28.1.cells),(ro 0 3 1 eI q28.1.pending)]) (st1:=[⟨0,43,2,[[(ls AI s0_0),(i64 q27.2)]]⟩,⟨0,26,2,[[.zc,.zc]]⟩,⟨0,26,2,[[(ow 3 0 l9),(ow 4 0 l10)]]⟩,(ro 0 30 3 AA l9),(ro 0 3 1 eI l10),⟨0,26,2,[[.zc,.zc]]⟩,(ro 0 30 3 AA q28.1.cells),(ro 0 3 1 eI q28.1.pending)]) [0,1,2,3,4,7,5,6] U (.raw U U .nil) (by decide) rfl U (.raw U U (.raw U U (.raw U U (.pure (AB fun _=>U) (.pure (AB fun _=>U) (.raw U U (.pure (AB fun _=>U) (.pure (AB fun _=>U) .nil)))))))) ⟨.rfl,.rfl,.rfl,.rfl,.rfl,.rfl,.rfl,trivial⟩) ?_;exact AF (L:=[(0,(.ptr 0 0 0 0)),(2,(.ptr 1 0 0 0)),(3,(.ptr 2 0 0 0)),(4,(i64 n7)),(5,(.ptr 5 0 0 0)),(23,(.BI [(.agg [(ow 6 0 q28.1.cells),(ow 7 0 q28.1.pending)]),(.bool q28.2)])),(33,(.bool q28.2))]) ⟨.rfl,.rfl,.rfl,.rfl,.rfl,.rfl,.rfl,trivial⟩) (AG (by kernel_rfl) ((hA29 _ _ _).1 A29_012345678ab)) rfl)
   have A29_012345678b:A29 4 #[true,true,true,true,true,true,true,true,true,false,false,true,false,false] ⟨42,AM [(0,(.ptr 0 0 0 0)),(2,(.ptr 1 0 0 0)),(3,(.ptr 2 0 0 0)),(4,(i64 n7)),(5,(.ptr 5 0 0 0)),(23,(.BI [(.agg [(ow 6 0 q28.1.cells),(ow 7 0 q28.1.pending)]),(.bool q28.2)]))],[⟨0,43,2,[[(ls AI s0_0),(i64 q27.2)]]⟩,⟨0,26,2,[[.zc,.zc]]⟩,⟨0,26,2,[[(ow 3 0 l9),(ow 4 0 l10)]]⟩,(ro 0 30 3 AA l9),(ro 0 3 1 eI l10),⟨0,26,2,[[.zc,.zc]]⟩,(ro 0 30 3 AA q28.1.cells),(ro 0 3 1 eI q28.1.pending)]⟩:=(hA29 _ _ _).2 (by
    refine AJ [9,10] U (by kernel_rfl) (by decide) ⟨?_,?_,trivial⟩
    ·refine AH (i:=9) rfl U (by rfl) ?_
     refine zq tb U ?_
     refine AE ⟨U,?_⟩
     exact AD (AF (L:=[(0,(.ptr 0 0 0 0)),(2,(.ptr 1 0 0 0)),(3,(.ptr 2 0 0 0)),(4,(i64 n7)),(5,(.ptr 5 0 0 0)),(23,(.BI [(.agg [(ow 6 0 q28.1.cells),(ow 7 0 q28.1.pending)]),(.bool q28.2)])),(32,(.agg [(ow 6 0 q28.1.cells),(ow 7 0 q28.1.pending)]))]) ⟨.rfl,.rfl,.rfl,.rfl,.rfl,.rfl,.rfl,trivial⟩) (AG (by kernel_rfl) ((hA29 _ _ _).1 A29_0123456789b)) rfl
    ·refine AH (i:=10) rfl U (by rfl) ?_
     refine zq tb U ?_
     refine AE ⟨U,?_⟩
     exact AD (AF (L:=[(0,(.ptr 0 0 0 0)),(2,(.ptr 1 0 0 0)),(3,(.ptr 2 0 0 0)),(4,(i64 n7)),(5,(.ptr 5 0 0 0)),(23,(.BI [(.agg [(ow 6 0 q28.1.cells),(ow 7 0 q28.1.pending)]),(.bool q28.2)])),(33,(.bool q28.2))]) ⟨.rfl,.rfl,.rfl,.rfl,.rfl,.rfl,.rfl,trivial⟩) (AG (by kernel_rfl) ((hA29 _ _ _).1 A29_012345678ab)) rfl)
   have A29_012345678:A29 5 #[true,true,true,true,true,true,true,true,true,false,false,false,false,false] ⟨42,AM [(0,(.ptr 0 0 0 0)),(2,(.ptr 1 0 0 0)),(3,(.ptr 2 0 0 0)),(4,(i64 n7)),(23,(.BI [(.agg [(ow 5 0 q28.1.cells),(ow 6 0 q28.1.pending)]),(.bool q28.2)]))],[⟨0,43,2,[[(ls AI s0_0),(i64 q27.2)]]⟩,⟨0,26,2,[[.zc,.zc]]⟩,⟨0,26,2,[[(ow 3 0 l9),(ow 4 0 l10)]]⟩,(ro 0 30 3 AA l9),(ro 0 3 1 eI l10),(ro 0 30 3 AA q28.1.cells),(ro 0 3 1 eI q28.1.pending)]⟩:=(hA29 _ _ _).2 (by
    refine AJ [9,10,11] U (by kernel_rfl) (by decide) ⟨?_,?_,?_,trivial⟩
    ·refine AH (i:=9) rfl U (by rfl) ?_
     refine zq tb U ?_
     refine AE ⟨U,?_⟩
     exact AD (AF (L:=[(0,(.ptr 0 0 0 0)),(2,(.ptr 1 0 0 0)),(3,(.ptr 2 0 0 0)),(4,(i64 n7)),(23,(.BI [(.agg [(ow 5 0 q28.1.cells),(ow 6 0 q28.1.pending)]),(.bool q28.2)])),(32,(.agg [(ow 5 0 q28.1.cells),(ow 6 0 q28.1.pending)]))]) ⟨.rfl,.rfl,.rfl,.rfl,.rfl,.rfl,trivial⟩) (AG (by kernel_rfl) ((hA29 _ _ _).1 A29_0123456789)) rfl
    ·refine AH (i:=10) rfl U (by rfl) ?_
     refine zq tb U ?_
     refine AE ⟨U,?_⟩
     exact AD (AF (L:=[(0,(.ptr 0 0 0 0)),(2,(.ptr 1 0 0 0)),(3,(.ptr 2 0 0 0)),(4,(i64 n7)),(23,(.BI [(.agg [(ow 5 0 q28.1.cells),(ow 6 0 q28.1.pending)]),(.bool q28.2)])),(33,(.bool q28.2))]) ⟨.rfl,.rfl,.rfl,.rfl,.rfl,.rfl,trivial⟩) (AG (by kernel_rfl) ((hA29 _ _ _).1 A29_012345678a)) rfl
    ·refine AH (i:=11) rfl U (by rfl) ?_
     refine BF (m:=7) (st':=[⟨0,43,2,[[(ls AI s0_0),(i64 q27.2)]]⟩,⟨0,26,2,[[.zc,.zc]]⟩,⟨0,26,2,[[(ow 3 0 l9),(ow 4 0 l10)]]⟩,(ro 0 30 3 AA l9),(ro 0 3 1 eI l10),(ro 0 30 3 AA q28.1.cells),(ro 0 3 1 eI q28.1.pending),⟨0,26,2,[[.zc,.zc]]⟩]) Ae C5 U U ?_
     refine AE ⟨U,?_⟩
     exact AD (by refine Wk.trans (AL (L:=[(0,(.ptr 0 0 0 0)),(2,(.ptr 1 0 0 0)),(3,(.ptr 2 0 0 0)),(4,(i64 n7)),(5,(.ptr 5 0 0 0)),(23,(.BI [(.agg [(ow 6 0 q28.1.cells),(ow 7 0 q28.1.pending)]),(.bool q28.2)]))]) (st':=[⟨0,43,2,[[(ls AI s0_0),(i64 q27.2)]]⟩,⟨0,26,2,[[.zc,.zc]]⟩,⟨0,26,2,[[(ow 3 0 l9),(ow 4 0 l10)]]⟩,(ro 0 30 3 AA l9),(ro 0 3 1 eI l10),⟨0,26,2,[[.zc,.zc]]⟩,(ro 0 30 3 AA q28.1.cells),(ro 0 3 1 eI q28.1.pending)]) (st1:=[⟨0,43,2,[[(ls AI s0_0),(i64 q27.2)]]⟩,⟨0,26,2,[[.zc,.zc]]⟩,⟨0,26,2,[[(ow 3 0 l9),(ow 4 0 l10)]]⟩,(ro 0 30 3 AA l9),(ro 0 3 1 eI l10),⟨0,26,2,[[.zc,.zc]]⟩,(ro 0 30 3 AA q28.1.cells),(ro 0 3 1 eI q28.1.pending)]) [0,1,2,3,4,7,5,6] U (.raw U U .nil) (by decide) rfl U (.raw U U (.raw U U (.raw U U (.pure (AB fun _=>U) (.pure (AB fun _=>U) (.raw U U (.pure (AB fun _=>U) (.pure (AB fun _=>U) .nil)))))))) ⟨.rfl,.rfl,.rfl,.rfl,.rfl,.rfl,trivial⟩) ?_;exact AF (L:=[(0,(.ptr 0 0 0 0)),(2,(.ptr 1 0 0 0)),(3,(.ptr 2 0 0 0)),(4,(i64 n7)),(5,(.ptr 5 0 0 0)),(23,(.BI [(.agg [(ow 6 0 q28.1.cells),(ow 7 0 q28.1.pending)]),(.bool q28.2)]))]) ⟨.rfl,.rfl,.rfl,.rfl,.rfl,.rfl,trivial⟩) (AG (by kernel_rfl) ((hA29 _ _ _).1 A29_012345678b)) rfl)
   have A29_01234567:A29 6 #[true,true,true,true,true,true,true,true,false,false,false,false,false,false] ⟨42,AM [(0,(.ptr 0 0 0 0)),(2,(.ptr 1 0 0 0)),(3,(.ptr 2 0 0 0)),(4,(i64 n7)),(31,(.BI [(.agg [(ow 5 0 q28.1.cells),(ow 6 0 q28.1.pending)]),(.bool q28.2)]))],[⟨0,43,2,[[(ls AI s0_0),(i64 q27.2)]]⟩,⟨0,26,2,[[.zc,.zc]]⟩,⟨0,26,2,[[(ow 3 0 l9),(ow 4 0 l10)]]⟩,(ro 0 30 3 AA l9),(ro 0 3 1 eI l10),(ro 0 30 3 AA q28.1.cells),(ro 0 3 1 eI q28.1.pending)]⟩:=(hA29 _ _ _).2 (by
    refine Bf 8 (v:=(.BI [(.agg [(ow 5 0 q28.1.cells),(ow 6 0 q28.1.pending)]),(.bool q28.2)])) rfl U (by kernel_rfl) (by kernel_rfl) (by kernel_rfl) rfl (Cc U) ?_
    exact AD (AF (L:=[(0,(.ptr 0 0 0 0)),(2,(.ptr 1 0 0 0)),(3,(.ptr 2 0 0 0)),(4,(i64 n7)),(23,(.BI [(.agg [(ow 5 0 q28.1.cells),(ow 6 0 q28.1.pending)]),(.bool q28.2)]))]) ⟨.rfl,.rfl,.rfl,.rfl,.rfl,trivial⟩) (AG (by kernel_rfl) ((hA29 _ _ _).1 A29_012345678)) rfl)
   have A29_01234567b:A29 5 #[true,true,true,true,true,true,true,true,false,false,false,true,false,false] ⟨42,AM [(0,(.ptr 0 0 0 0)),(2,(.ptr 1 0 0 0)),(3,(.ptr 2 0 0 0)),(4,(i64 n7)),(5,(.ptr 5 0 0 0)),(31,(.BI [(.agg [(ow 6 0 q28.1.cells),(ow 7 0 q28.1.pending)]),(.bool q28.2)]))],[⟨0,43,2,[[(ls AI s0_0),(i64 q27.2)]]⟩,⟨0,26,2,[[.zc,.zc]]⟩,⟨0,26,2,[[(ow 3 0 l9),(ow 4 0 l10)]]⟩,(ro 0 30 3 AA l9),(ro 0 3 1 eI l10),⟨0,26,2,[[.zc,.zc]]⟩,(ro 0 30 3 AA q28.1.cells),(ro 0 3 1 eI q28.1.pending)]⟩:=(hA29 _ _ _).2 (by
    refine Bf 8 (v:=(.BI [(.agg [(ow 6 0 q28.1.cells),(ow 7 0 q28.1.pending)]),(.bool q28.2)])) rfl U (by kernel_rfl) (by kernel_rfl) (by kernel_rfl) rfl (Cc U) ?_
    exact AD (AF (L:=[(0,(.ptr 0 0 0 0)),(2,(.ptr 1 0 0 0)),(3,(.ptr 2 0 0 0)),(4,(i64 n7)),(5,(.ptr 5 0 0 0)),(23,(.BI [(.agg [(ow 6 0 q28.1.cells),(ow 7 0 q28.1.pending)]),(.bool q28.2)]))]) ⟨.rfl,.rfl,.rfl,.rfl,.rfl,.rfl,trivial⟩) (AG (by kernel_rfl) ((hA29 _ _ _).1 A29_012345678b)) rfl)
   have A29_0123456b:A29 6 #[true,true,true,true,true,true,true,false,false,false,false,true,false,false] ⟨42,AM [(0,(.ptr 0 0 0 0)),(2,(.ptr 1 0 0 0)),(3,(.ptr 2 0 0 0)),(4,(i64 n7)),(5,(.ptr 5 0 0 0)),(24,(.agg [(ow 3 0 l9),(ow 4 0 l10)])),(30,(i64 (Sh.w (1000+q27.1))))],[⟨0,43,2,[[(ls AI s0_0),(i64 q27.2)]]⟩,⟨0,26,2,[[.zc,.zc]]⟩,⟨0,26,2,[[(ow 3 0 l9),(ow 4 0 l10)]]⟩,(ro 0 30 3 AA l9),(ro 0 3 1 eI l10),⟨0,26,2,[[.zc,.zc]]⟩]⟩:=(hA29 _ _ _).2 (by
    refine AJ [7] U (by kernel_rfl) (by decide) ⟨?_,trivial⟩
    ·refine AH (i:=7) rfl U (by rfl) ?_
     refine Ad (rowsP:=[(ro 0 30 3 AA l9),(ro 0 3 1 eI l10)]) (rows0:=[(ro 0 30 3 AA l9),(ro 0 3 1 eI l10)]) (rows1:=[(ro 0 30 3 AA l9),(ro 0 3 1 eI l10)]) (rows2:=[(ro 0 30 3 AA q28.1.cells),(ro 0 3 1 eI q28.1.pending)]) (rows1':=[(ro 0 30 3 AA l9),(ro 0 3 1 eI l10)]) (rows2':=[(ro 0 30 3 AA q28.1.cells),(ro 0 3 1 eI q28.1.pending)]) (st':=[⟨0,43,2,[[(ls AI s0_0),(i64 q27.2)]]⟩,⟨0,26,2,[[.zc,.zc]]⟩,⟨0,26,2,[[(ow 3 0 l9),(ow 4 0 l10)]]⟩,(ro 0 30 3 AA l9),(ro 0 3 1 eI l10),⟨0,26,2,[[.zc,.zc]]⟩,(ro 0 30 3 AA q28.1.cells),(ro 0 3 1 eI q28.1.pending)]) (v':=(.BI [(.agg [(ow 6 0 q28.1.cells),(ow 7 0 q28.1.pending)]),(.bool q28.2)])) [3,4] Ae Rs (GN gq28) rfl (by decide) rfl U (.pure (AB fun _=>U) (.pure (AB fun _=>U) .nil)) rfl U (.pure (AB fun _=>U) (.pure (AB fun _=>U) .nil)) (.pure (AB fun _=>U) (.pure (AB fun _=>U) .nil)) rfl U ?_
     refine AE ⟨U,?_⟩
     exact AD (AF (L:=[(0,(.ptr 0 0 0 0)),(2,(.ptr 1 0 0 0)),(3,(.ptr 2 0 0 0)),(4,(i64 n7)),(5,(.ptr 5 0 0 0)),(31,(.BI [(.agg [(ow 6 0 q28.1.cells),(ow 7 0 q28.1.pending)]),(.bool q28.2)]))]) ⟨.rfl,.rfl,.rfl,.rfl,.rfl,.rfl,trivial⟩) (AG (by kernel_rfl) ((hA29 _ _ _).1 A29_01234567b)) rfl)
   have A29_0123456:A29 7 #[true,true,true,true,true,true,true,false,false,false,false,false,false,false] ⟨42,AM [(0,(.ptr 0 0 0 0)),(2,(.ptr 1 0 0 0)),(3,(.ptr 2 0 0 0)),(4,(i64 n7)),(24,(.agg [(ow 3 0 l9),(ow 4 0 l10)])),(30,(i64 (Sh.w (1000+q27.1))))],[⟨0,43,2,[[(ls AI s0_0),(i64 q27.2)]]⟩,⟨0,26,2,[[.zc,.zc]]⟩,⟨0,26,2,[[(ow 3 0 l9),(ow 4 0 l10)]]⟩,(ro 0 30 3 AA l9),(ro 0 3 1 eI l10)]⟩:=(hA29 _ _ _).2 (by
    refine AJ [7,11] U (by kernel_rfl) (by decide) ⟨?_,?_,trivial⟩
    ·refine AH (i:=7) rfl U (by rfl) ?_
     refine Ad (rowsP:=[(ro 0 30 3 AA l9),(ro 0 3 1 eI l10)]) (rows0:=[(ro 0 30 3 AA l9),(ro 0 3 1 eI l10)]) (rows1:=[(ro 0 30 3 AA l9),(ro 0 3 1 eI l10)]) (rows2:=[(ro 0 30 3 AA q28.1.cells),(ro 0 3 1 eI q28.1.pending)]) (rows1':=[(ro 0 30 3 AA l9),(ro 0 3 1 eI l10)]) (rows2':=[(ro 0 30 3 AA q28.1.cells),(ro 0 3 1 eI q28.1.pending)]) (st':=[⟨0,43,2,[[(ls AI s0_0),(i64 q27.2)]]⟩,⟨0,26,2,[[.zc,.zc]]⟩,⟨0,26,2,[[(ow 3 0 l9),(ow 4 0 l10)]]⟩,(ro 0 30 3 AA l9),(ro 0 3 1 eI l10),(ro 0 30 3 AA q28.1.cells),(ro 0 3 1 eI q28.1.pending)]) (v':=(.BI [(.agg [(ow 5 0 q28.1.cells),(ow 6 0 q28.1.pending)]),(.bool q28.2)])) [3,4] Ae Rs (GN gq28) rfl (by decide) rfl U (.pure (AB fun _=>U) (.pure (AB fun _=>U) .nil)) rfl U (.pure (AB fun _=>U) (.pure (AB fun _=>U) .nil)) (.pure (AB fun _=>U) (.pure (AB fun _=>U) .nil)) rfl U ?_
     refine AE ⟨U,?_⟩
     exact AD (AF (L:=[(0,(.ptr 0 0 0 0)),(2,(.ptr 1 0 0 0)),(3,(.ptr 2 0 0 0)),(4,(i64 n7)),(31,(.BI [(.agg [(ow 5 0 q28.1.cells),(ow 6 0 q28.1.pending)]),(.bool q28.2)]))]) ⟨.rfl,.rfl,.rfl,.rfl,.rfl,trivial⟩) (AG (by kernel_rfl) ((hA29 _ _ _).1 A29_01234567)) rfl
    ·refine AH (i:=11) rfl U (by rfl) ?_
     refine BF (m:=5) (st':=[⟨0,43,2,[[(ls AI s0_0),(i64 q27.2)]]⟩,⟨0,26,2,[[.zc,.zc]]⟩,⟨0,26,2,[[(ow 3 0 l9),(ow 4 0 l10)]]⟩,(ro 0 30 3 AA l9),(ro 0 3 1 eI l10),⟨0,26,2,[[.zc,.zc]]⟩]) Ae C5 U U ?_
     refine AE ⟨U,?_⟩
     exact AD (AF (L:=[(0,(.ptr 0 0 0 0)),(2,(.ptr 1 0 0 0)),(3,(.ptr 2 0 0 0)),(4,(i64 n7)),(5,(.ptr 5 0 0 0)),(24,(.agg [(ow 3 0 l9),(ow 4 0 l10)])),(30,(i64 (Sh.w (1000+q27.1))))]) ⟨.rfl,.rfl,.rfl,.rfl,.rfl,.rfl,.rfl,trivial⟩) (AG (by kernel_rfl) ((hA29 _ _ _).1 A29_0123456b)) rfl)
   have A29_012345b:A29 7 #[true,true,true,true,true,true,false,false,false,false,false,true,false,false] ⟨42,AM [(0,(.ptr 0 0 0 0)),(2,(.ptr 1 0 0 0)),(3,(.ptr 2 0 0 0)),(4,(i64 n7)),(5,(.ptr 5 0 0 0)),(24,(.agg [(ow 3 0 l9),(ow 4 0 l10)])),(29,(i64 q27.1))],[⟨0,43,2,[[(ls AI s0_0),(i64 q27.2)]]⟩,⟨0,26,2,[[.zc,.zc]]⟩,⟨0,26,2,[[(ow 3 0 l9),(ow 4 0 l10)]]⟩,(ro 0 30 3 AA l9),(ro 0 3 1 eI l10),⟨0,26,2,[[.zc,.zc]]⟩]⟩:=(hA29 _ _ _).2 (by
    refine AJ [6] U (by kernel_rfl) (by decide) ⟨?_,trivial⟩
    ·refine AH (i:=6) rfl U (by rfl) ?_
     refine zq tb U ?_
     refine AE ⟨U,?_⟩
     exact AD (AF (L:=[(0,(.ptr 0 0 0 0)),(2,(.ptr 1 0 0 0)),(3,(.ptr 2 0 0 0)),(4,(i64 n7)),(5,(.ptr 5 0 0 0)),(24,(.agg [(ow 3 0 l9),(ow 4 0 l10)])),(30,(i64 (Sh.w (1000+q27.1))))]) ⟨.rfl,.rfl,.rfl,.rfl,.rfl,.rfl,.rfl,trivial⟩) (AG (by kernel_rfl) ((hA29 _ _ _).1 A29_0123456b)) rfl)
   have A29_012345:A29 8 #[true,true,true,true,true,true,false,false,false,false,false,false,false,false] ⟨42,AM [(0,(.ptr 0 0 0 0)),(2,(.ptr 1 0 0 0)),(3,(.ptr 2 0 0 0)),(4,(i64 n7)),(24,(.agg [(ow 3 0 l9),(ow 4 0 l10)])),(29,(i64 q27.1))],[⟨0,43,2,[[(ls AI s0_0),(i64 q27.2)]]⟩,⟨0,26,2,[[.zc,.zc]]⟩,⟨0,26,2,[[(ow 3 0 l9),(ow 4 0 l10)]]⟩,(ro 0 30 3 AA l9),(ro 0 3 1 eI l10)]⟩:=(hA29 _ _ _).2 (by
    refine AJ [6,11] U (by kernel_rfl) (by decide) ⟨?_,?_,trivial⟩
    ·refine AH (i:=6) rfl U (by rfl) ?_
     refine zq tb U ?_
     refine AE ⟨U,?_⟩
     exact AD (AF (L:=[(0,(.ptr 0 0 0 0)),(2,(.ptr 1 0 0 0)),(3,(.ptr 2 0 0 0)),(4,(i64 n7)),(24,(.agg [(ow 3 0 l9),(ow 4 0 l10)])),(30,(i64 (Sh.w (1000+q27.1))))]) ⟨.rfl,.rfl,.rfl,.rfl,.rfl,.rfl,trivial⟩) (AG (by kernel_rfl) ((hA29 _ _ _).1 A29_0123456)) rfl
    ·refine AH (i:=11) rfl U (by rfl) ?_
     refine BF (m:=5) (st':=[⟨0,43,2,[[(ls AI s0_0),(i64 q27.2)]]⟩,⟨0,26,2,[[.zc,.zc]]⟩,⟨0,26,2,[[(ow 3 0 l9),(ow 4 0 l10)]]⟩,(ro 0 30 3 AA l9),(ro 0 3 1 eI l10),⟨0,26,2,[[.zc,.zc]]⟩]) Ae C5 U U ?_
     refine AE ⟨U,?_⟩
     exact AD (AF (L:=[(0,(.ptr 0 0 0 0)),(2,(.ptr 1 0 0 0)),(3,(.ptr 2 0 0 0)),(4,(i64 n7)),(5,(.ptr 5 0 0 0)),(24,(.agg [(ow 3 0 l9),(ow 4 0 l10)])),(29,(i64 q27.1))]) ⟨.rfl,.rfl,.rfl,.rfl,.rfl,.rfl,.rfl,trivial⟩) (AG (by kernel_rfl) ((hA29 _ _ _).1 A29_012345b)) rfl)
   have A29_01234b:A29 8 #[true,true,true,true,true,false,false,false,false,false,false,true,false,false] ⟨42,AM [(0,(.ptr 0 0 0 0)),(2,(.ptr 1 0 0 0)),(3,(.ptr 2 0 0 0)),(4,(i64 n7)),(5,(.ptr 5 0 0 0)),(24,(.agg [(ow 3 0 l9),(ow 4 0 l10)])),(25,(.ptr 0 0 0 0)),(28,(i64 (Sh.len l9)))],[⟨0,43,2,[[(ls AI s0_0),(i64 f8)]]⟩,⟨0,26,2,[[.zc,.zc]]⟩,⟨0,26,2,[[(ow 3 0 l9),(ow 4 0 l10)]]⟩,(ro 0 30 3 AA l9),(ro 0 3 1 eI l10),⟨0,26,2,[[.zc,.zc]]⟩]⟩:=(hA29 _ _ _).2 (by
    refine AJ [5] U (by kernel_rfl) (by decide) ⟨?_,trivial⟩
    ·refine AH (i:=5) rfl U (by rfl) ?_
     refine Ad (rowsP:=[⟨0,43,2,[[(ls AI s0_0),(i64 f8)]]⟩]) (rows0:=[⟨0,43,2,[[(ls AI s0_0),(i64 f8)]]⟩]) (rows1:=[⟨0,43,2,[[(ls AI s0_0),(i64 q27.2)]]⟩]) (rows2:=[]) (rows1':=[⟨0,43,2,[[(ls AI s0_0),(i64 q27.2)]]⟩]) (rows2':=[]) (st':=[⟨0,43,2,[[(ls AI s0_0),(i64 q27.2)]]⟩,⟨0,26,2,[[.zc,.zc]]⟩,⟨0,26,2,[[(ow 3 0 l9),(ow 4 0 l10)]]⟩,(ro 0 30 3 AA l9),(ro 0 3 1 eI l10),⟨0,26,2,[[.zc,.zc]]⟩]) (v':=(i64 q27.1)) [0] Ae Dw (Aj gq27) rfl (by decide) rfl U (.raw U U .nil) rfl U (.raw U U .nil) .nil U U ?_
     refine AE ⟨U,?_⟩
     exact AD (AF (L:=[(0,(.ptr 0 0 0 0)),(2,(.ptr 1 0 0 0)),(3,(.ptr 2 0 0 0)),(4,(i64 n7)),(5,(.ptr 5 0 0 0)),(24,(.agg [(ow 3 0 l9),(ow 4 0 l10)])),(29,(i64 q27.1))]) ⟨.rfl,.rfl,.rfl,.rfl,.rfl,.rfl,.rfl,trivial⟩) (AG (by kernel_rfl) ((hA29 _ _ _).1 A29_012345b)) rfl)
   have A29_01234:A29 9 #[true,true,true,true,true,false,false,false,false,false,false,false,false,false] ⟨42,AM [(0,(.ptr 0 0 0 0)),(2,(.ptr 1 0 0 0)),(3,(.ptr 2 0 0 0)),(4,(i64 n7)),(24,(.agg [(ow 3 0 l9),(ow 4 0 l10)])),(25,(.ptr 0 0 0 0)),(28,(i64 (Sh.len l9)))],[⟨0,43,2,[[(ls AI s0_0),(i64 f8)]]⟩,⟨0,26,2,[[.zc,.zc]]⟩,⟨0,26,2,[[(ow 3 0 l9),(ow 4 0 l10)]]⟩,(ro 0 30 3 AA l9),(ro 0 3 1 eI l10)]⟩:=(hA29 _ _ _).2 (by
    refine AJ [5,11] U (by kernel_rfl) (by decide) ⟨?_,?_,trivial⟩
    ·refine AH (i:=5) rfl U (by rfl) ?_
     refine Ad (rowsP:=[⟨0,43,2,[[(ls AI s0_0),(i64 f8)]]⟩]) (rows0:=[⟨0,43,2,[[(ls AI s0_0),(i64 f8)]]⟩]) (rows1:=[⟨0,43,2,[[(ls AI s0_0),(i64 q27.2)]]⟩]) (rows2:=[]) (rows1':=[⟨0,43,2,[[(ls AI s0_0),(i64 q27.2)]]⟩]) (rows2':=[]) (st':=[⟨0,43,2,[[(ls AI s0_0),(i64 q27.2)]]⟩,⟨0,26,2,[[.zc,.zc]]⟩,⟨0,26,2,[[(ow 3 0 l9),(ow 4 0 l10)]]⟩,(ro 0 30 3 AA l9),(ro 0 3 1 eI l10)]) (v':=(i64 q27.1)) [0] Ae Dw (Aj gq27) rfl (by decide) rfl U (.raw U U .nil) rfl U (.raw U U .nil) .nil U U ?_
     refine AE ⟨U,?_⟩
     exact AD (AF (L:=[(0,(.ptr 0 0 0 0)),(2,(.ptr 1 0 0 0)),(3,(.ptr 2 0 0 0)),(4,(i64 n7)),(24,(.agg [(ow 3 0 l9),(ow 4 0 l10)])),(29,(i64 q27.1))]) ⟨.rfl,.rfl,.rfl,.rfl,.rfl,.rfl,trivial⟩) (AG (by kernel_rfl) ((hA29 _ _ _).1 A29_012345)) rfl
    ·refine AH (i:=11) rfl U (by rfl) ?_
     refine BF (m:=5) (st':=[⟨0,43,2,[[(ls AI s0_0),(i64 f8)]]⟩,⟨0,26,2,[[.zc,.zc]]⟩,⟨0,26,2,[[(ow 3 0 l9),(ow 4 0 l10)]]⟩,(ro 0 30 3 AA l9),(ro 0 3 1 eI l10),⟨0,26,2,[[.zc,.zc]]⟩]) Ae C5 U U ?_
     refine AE ⟨U,?_⟩
     exact AD (AF (L:=[(0,(.ptr 0 0 0 0)),(2,(.ptr 1 0 0 0)),(3,(.ptr 2 0 0 0)),(4,(i64 n7)),(5,(.ptr 5 0 0 0)),(24,(.agg [(ow 3 0 l9),(ow 4 0 l10)])),(25,(.ptr 0 0 0 0)),(28,(i64 (Sh.len l9)))]) ⟨.rfl,.rfl,.rfl,.rfl,.rfl,.rfl,.rfl,.rfl,trivial⟩) (AG (by kernel_rfl) ((hA29 _ _ _).1 A29_01234b)) rfl)
   have A29_0123b:A29 9 #[true,true,true,true,false,false,false,false,false,false,false,true,false,false] ⟨42,AM [(0,(.ptr 0 0 0 0)),(2,(.ptr 1 0 0 0)),(3,(.ptr 2 0 0 0)),(4,(i64 n7)),(5,(.ptr 5 0 0 0)),(24,(.agg [(ow 3 0 l9),(ow 4 0 l10)])),(25,(.ptr 0 0 0 0)),(27,(ow 3 0 l9))],[⟨0,43,2,[[(ls AI s0_0),(i64 f8)]]⟩,⟨0,26,2,[[.zc,.zc]]⟩,⟨0,26,2,[[(ow 3 0 l9),(ow 4 0 l10)]]⟩,(ro 0 30 3 AA l9),(ro 0 3 1 eI l10),⟨0,26,2,[[.zc,.zc]]⟩]⟩:=(hA29 _ _ _).2 (by
    refine AJ [4] U (by kernel_rfl) (by decide) ⟨?_,trivial⟩
    ·refine AH (i:=4) rfl U (by rfl) ?_
     refine zz (i64 (Sh.len l9)) (Bj Ec U U U) rfl ?_
     refine AE ⟨U,?_⟩
     exact AD (AF (L:=[(0,(.ptr 0 0 0 0)),(2,(.ptr 1 0 0 0)),(3,(.ptr 2 0 0 0)),(4,(i64 n7)),(5,(.ptr 5 0 0 0)),(24,(.agg [(ow 3 0 l9),(ow 4 0 l10)])),(25,(.ptr 0 0 0 0)),(28,(i64 (Sh.len l9)))]) ⟨.rfl,.rfl,.rfl,.rfl,.rfl,.rfl,.rfl,.rfl,trivial⟩) (AG (by kernel_rfl) ((hA29 _ _ _).1 A29_01234b)) rfl)
   have A29_0123:A29 10 #[true,true,true,true,false,false,false,false,false,false,false,false,false,false] ⟨42,AM [(0,(.ptr 0 0 0 0)),(2,(.ptr 1 0 0 0)),(3,(.ptr 2 0 0 0)),(4,(i64 n7)),(24,(.agg [(ow 3 0 l9),(ow 4 0 l10)])),(25,(.ptr 0 0 0 0)),(27,(ow 3 0 l9))],[⟨0,43,2,[[(ls AI s0_0),(i64 f8)]]⟩,⟨0,26,2,[[.zc,.zc]]⟩,⟨0,26,2,[[(ow 3 0 l9),(ow 4 0 l10)]]⟩,(ro 0 30 3 AA l9),(ro 0 3 1 eI l10)]⟩:=(hA29 _ _ _).2 (by
    refine AJ [4,11] U (by kernel_rfl) (by decide) ⟨?_,?_,trivial⟩
    ·refine AH (i:=4) rfl U (by rfl) ?_
     refine zz (i64 (Sh.len l9)) (Bj Ec U U U) rfl ?_
     refine AE ⟨U,?_⟩
     exact AD (AF (L:=[(0,(.ptr 0 0 0 0)),(2,(.ptr 1 0 0 0)),(3,(.ptr 2 0 0 0)),(4,(i64 n7)),(24,(.agg [(ow 3 0 l9),(ow 4 0 l10)])),(25,(.ptr 0 0 0 0)),(28,(i64 (Sh.len l9)))]) ⟨.rfl,.rfl,.rfl,.rfl,.rfl,.rfl,.rfl,trivial⟩) (AG (by kernel_rfl) ((hA29 _ _ _).1 A29_01234)) rfl
    ·refine AH (i:=11) rfl U (by rfl) ?_
     refine BF (m:=5) (st':=[⟨0,43,2,[[(ls AI s0_0),(i64 f8)]]⟩,⟨0,26,2,[[.zc,.zc]]⟩,⟨0,26,2,[[(ow 3 0 l9),(ow 4 0 l10)]]⟩,(ro 0 30 3 AA l9),(ro 0 3 1 eI l10),⟨0,26,2,[[.zc,.zc]]⟩]) Ae C5 U U ?_
     refine AE ⟨U,?_⟩
     exact AD (AF (L:=[(0,(.ptr 0 0 0 0)),(2,(.ptr 1 0 0 0)),(3,(.ptr 2 0 0 0)),(4,(i64 n7)),(5,(.ptr 5 0 0 0)),(24,(.agg [(ow 3 0 l9),(ow 4 0 l10)])),(25,(.ptr 0 0 0 0)),(27,(ow 3 0 l9))]) ⟨.rfl,.rfl,.rfl,.rfl,.rfl,.rfl,.rfl,.rfl,trivial⟩) (AG (by kernel_rfl) ((hA29 _ _ _).1 A29_0123b)) rfl)
   have A29_012b:A29 10 #[true,true,true,false,false,false,false,false,false,false,false,true,false,false] ⟨42,AM [(0,(.ptr 0 0 0 0)),(2,(.ptr 1 0 0 0)),(3,(.ptr 2 0 0 0)),(4,(i64 n7)),(5,(.ptr 5 0 0 0)),(24,(.agg [(ow 3 0 l9),(ow 4 0 l10)])),(25,(.ptr 0 0 0 0)),(26,(.ptr 2 0 0 0))],[⟨0,43,2,[[(ls AI s0_0),(i64 f8)]]⟩,⟨0,26,2,[[.zc,.zc]]⟩,⟨0,26,2,[[(ow 3 0 l9),(ow 4 0 l10)]]⟩,(ro 0 30 3 AA l9),(ro 0 3 1 eI l10),⟨0,26,2,[[.zc,.zc]]⟩]⟩:=(hA29 _ _ _).2 (by
    refine AJ [3] U (by kernel_rfl) (by decide) ⟨?_,trivial⟩
    ·refine AH (i:=3) rfl U (by rfl) ?_
     refine zq tb U ?_
     refine AE ⟨U,?_⟩
     exact AD (AF (L:=[(0,(.ptr 0 0 0 0)),(2,(.ptr 1 0 0 0)),(3,(.ptr 2 0 0 0)),(4,(i64 n7)),(5,(.ptr 5 0 0 0)),(24,(.agg [(ow 3 0 l9),(ow 4 0 l10)])),(25,(.ptr 0 0 0 0)),(27,(ow 3 0 l9))]) ⟨.rfl,.rfl,.rfl,.rfl,.rfl,.rfl,.rfl,.rfl,trivial⟩) (AG (by kernel_rfl) ((hA29 _ _ _).1 A29_0123b)) rfl)
   have A29_012:A29 11 #[true,true,true,false,false,false,false,false,false,false,false,false,false,false] ⟨42,AM [(0,(.ptr 0 0 0 0)),(2,(.ptr 1 0 0 0)),(3,(.ptr 2 0 0 0)),(4,(i64 n7)),(24,(.agg [(ow 3 0 l9),(ow 4 0 l10)])),(25,(.ptr 0 0 0 0)),(26,(.ptr 2 0 0 0))],[⟨0,43,2,[[(ls AI s0_0),(i64 f8)]]⟩,⟨0,26,2,[[.zc,.zc]]⟩,⟨0,26,2,[[(ow 3 0 l9),(ow 4 0 l10)]]⟩,(ro 0 30 3 AA l9),(ro 0 3 1 eI l10)]⟩:=(hA29 _ _ _).2 (by
    refine AJ [3,11] U (by kernel_rfl) (by decide) ⟨?_,?_,trivial⟩
    ·refine AH (i:=3) rfl U (by rfl) ?_
     refine zq tb U ?_
     refine AE ⟨U,?_⟩
     exact AD (AF (L:=[(0,(.ptr 0 0 0 0)),(2,(.ptr 1 0 0 0)),(3,(.ptr 2 0 0 0)),(4,(i64 n7)),(24,(.agg [(ow 3 0 l9),(ow 4 0 l10)])),(25,(.ptr 0 0 0 0)),(27,(ow 3 0 l9))]) ⟨.rfl,.rfl,.rfl,.rfl,.rfl,.rfl,.rfl,trivial⟩) (AG (by kernel_rfl) ((hA29 _ _ _).1 A29_0123)) rfl
    ·refine AH (i:=11) rfl U (by rfl) ?_
     refine BF (m:=5) (st':=[⟨0,43,2,[[(ls AI s0_0),(i64 f8)]]⟩,⟨0,26,2,[[.zc,.zc]]⟩,⟨0,26,2,[[(ow 3 0 l9),(ow 4 0 l10)]]⟩,(ro 0 30 3 AA l9),(ro 0 3 1 eI l10),⟨0,26,2,[[.zc,.zc]]⟩]) Ae C5 U U ?_
     refine AE ⟨U,?_⟩
     exact AD (AF (L:=[(0,(.ptr 0 0 0 0)),(2,(.ptr 1 0 0 0)),(3,(.ptr 2 0 0 0)),(4,(i64 n7)),(5,(.ptr 5 0 0 0)),(24,(.agg [(ow 3 0 l9),(ow 4 0 l10)])),(25,(.ptr 0 0 0 0)),(26,(.ptr 2 0 0 0))]) ⟨.rfl,.rfl,.rfl,.rfl,.rfl,.rfl,.rfl,.rfl,trivial⟩) (AG (by kernel_rfl) ((hA29 _ _ _).1 A29_012b)) rfl)
   have A29_01b:A29 11 #[true,true,false,false,false,false,false,false,false,false,false,true,false,false] ⟨42,AM [(0,(.ptr 0 0 0 0)),(2,(.ptr 1 0 0 0)),(3,(.ptr 2 0 0 0)),(4,(i64 n7)),(5,(.ptr 5 0 0 0)),(24,(.agg [(ow 3 0 l9),(ow 4 0 l10)])),(25,(.ptr 0 0 0 0))],[⟨0,43,2,[[(ls AI s0_0),(i64 f8)]]⟩,⟨0,26,2,[[.zc,.zc]]⟩,⟨0,26,2,[[(ow 3 0 l9),(ow 4 0 l10)]]⟩,(ro 0 30 3 AA l9),(ro 0 3 1 eI l10),⟨0,26,2,[[.zc,.zc]]⟩]⟩:=(hA29 _ _ _).2 (by
    refine AJ [2] U (by kernel_rfl) (by decide) ⟨?_,trivial⟩
    ·refine AH (i:=2) rfl U (by rfl) ?_
     refine zq tb U ?_
     refine AE ⟨U,?_⟩
     exact AD (AF (L:=[(0,(.ptr 0 0 0 0)),(2,(.ptr 1 0 0 0)),(3,(.ptr 2 0 0 0)),(4,(i64 n7)),(5,(.ptr 5 0 0 0)),(24,(.agg [(ow 3 0 l9),(ow 4 0 l10)])),(25,(.ptr 0 0 0 0)),(26,(.ptr 2 0 0 0))]) ⟨.rfl,.rfl,.rfl,.rfl,.rfl,.rfl,.rfl,.rfl,trivial⟩) (AG (by kernel_rfl) ((hA29 _ _ _).1 A29_012b)) rfl)
   have A29_01:A29 12 #[true,true,false,false,false,false,false,false,false,false,false,false,false,false] ⟨42,AM [(0,(.ptr 0 0 0 0)),(2,(.ptr 1 0 0 0)),(3,(.ptr 2 0 0 0)),(4,(i64 n7)),(24,(.agg [(ow 3 0 l9),(ow 4 0 l10)])),(25,(.ptr 0 0 0 0))],[⟨0,43,2,[[(ls AI s0_0),(i64 f8)]]⟩,⟨0,26,2,[[.zc,.zc]]⟩,⟨0,26,2,[[(ow 3 0 l9),(ow 4 0 l10)]]⟩,(ro 0 30 3 AA l9),(ro 0 3 1 eI l10)]⟩:=(hA29 _ _ _).2 (by
    refine AJ [2,11] U (by kernel_rfl) (by decide) ⟨?_,?_,trivial⟩
    ·refine AH (i:=2) rfl U (by rfl) ?_
     refine zq tb U ?_
     refine AE ⟨U,?_⟩
     exact AD (AF (L:=[(0,(.ptr 0 0 0 0)),(2,(.ptr 1 0 0 0)),(3,(.ptr 2 0 0 0)),(4,(i64 n7)),(24,(.agg [(ow 3 0 l9),(ow 4 0 l10)])),(25,(.ptr 0 0 0 0)),(26,(.ptr 2 0 0 0))]) ⟨.rfl,.rfl,.rfl,.rfl,.rfl,.rfl,.rfl,trivial⟩) (AG (by kernel_rfl) ((hA29 _ _ _).1 A29_012)) rfl
    ·refine AH (i:=11) rfl U (by rfl) ?_
     refine BF (m:=5) (st':=[⟨0,43,2,[[(ls AI s0_0),(i64 f8)]]⟩,⟨0,26,2,[[.zc,.zc]]⟩,⟨0,26,2,[[(ow 3 0 l9),(ow 4 0 l10)]]⟩,(ro 0 30 3 AA l9),(ro 0 3 1 eI l10),⟨0,26,2,[[.zc,.zc]]⟩]) Ae C5 U U ?_
     refine AE ⟨U,?_⟩
     exact AD (AF (L:=[(0,(.ptr 0 0 0 0)),(2,(.ptr 1 0 0 0)),(3,(.ptr 2 0 0 0)),(4,(i64 n7)),(5,(.ptr 5 0 0 0)),(24,(.agg [(ow 3 0 l9),(ow 4 0 l10)])),(25,(.ptr 0 0 0 0))]) ⟨.rfl,.rfl,.rfl,.rfl,.rfl,.rfl,.rfl,trivial⟩) (AG (by kernel_rfl) ((hA29 _ _ _).1 A29_01b)) rfl)
   have A29_123456b:A29 7 #[false,true,true,true,true,true,true,false,false,false,false,true,false,false] ⟨42,AM [(0,(.ptr 0 0 0 0)),(2,(.ptr 1 0 0 0)),(3,(.ptr 2 0 0 0)),(4,(i64 n7)),(5,(.ptr 5 0 0 0)),(30,(i64 (Sh.w (1000+q27.1))))],[⟨0,43,2,[[(ls AI s0_0),(i64 q27.2)]]⟩,⟨0,26,2,[[.zc,.zc]]⟩,⟨0,26,2,[[(ow 3 0 l9),(ow 4 0 l10)]]⟩,(ro 0 30 3 AA l9),(ro 0 3 1 eI l10),⟨0,26,2,[[.zc,.zc]]⟩]⟩:=(hA29 _ _ _).2 (by
    refine AJ [0] U (by kernel_rfl) (by decide) ⟨?_,trivial⟩
    ·refine AH (i:=0) rfl U (by rfl) ?_
     refine zq tb U ?_
     refine AE ⟨U,?_⟩
     exact AD (AF (L:=[(0,(.ptr 0 0 0 0)),(2,(.ptr 1 0 0 0)),(3,(.ptr 2 0 0 0)),(4,(i64 n7)),(5,(.ptr 5 0 0 0)),(24,(.agg [(ow 3 0 l9),(ow 4 0 l10)])),(30,(i64 (Sh.w (1000+q27.1))))]) ⟨.rfl,.rfl,.rfl,.rfl,.rfl,.rfl,.rfl,trivial⟩) (AG (by kernel_rfl) ((hA29 _ _ _).1 A29_0123456b)) rfl)
   have A29_123456:A29 8 #[false,true,true,true,true,true,true,false,false,false,false,false,false,false] ⟨42,AM [(0,(.ptr 0 0 0 0)),(2,(.ptr 1 0 0 0)),(3,(.ptr 2 0 0 0)),(4,(i64 n7)),(30,(i64 (Sh.w (1000+q27.1))))],[⟨0,43,2,[[(ls AI s0_0),(i64 q27.2)]]⟩,⟨0,26,2,[[.zc,.zc]]⟩,⟨0,26,2,[[(ow 3 0 l9),(ow 4 0 l10)]]⟩,(ro 0 30 3 AA l9),(ro 0 3 1 eI l10)]⟩:=(hA29 _ _ _).2 (by
    refine AJ [0,11] U (by kernel_rfl) (by decide) ⟨?_,?_,trivial⟩
    ·refine AH (i:=0) rfl U (by rfl) ?_
     refine zq tb U ?_
     refine AE ⟨U,?_⟩
     exact AD (AF (L:=[(0,(.ptr 0 0 0 0)),(2,(.ptr 1 0 0 0)),(3,(.ptr 2 0 0 0)),(4,(i64 n7)),(24,(.agg [(ow 3 0 l9),(ow 4 0 l10)])),(30,(i64 (Sh.w (1000+q27.1))))]) ⟨.rfl,.rfl,.rfl,.rfl,.rfl,.rfl,trivial⟩) (AG (by kernel_rfl) ((hA29 _ _ _).1 A29_0123456)) rfl
    ·refine AH (i:=11) rfl U (by rfl) ?_
     refine BF (m:=5) (st':=[⟨0,43,2,[[(ls AI s0_0),(i64 q27.2)]]⟩,⟨0,26,2,[[.zc,.zc]]⟩,⟨0,26,2,[[(ow 3 0 l9),(ow 4 0 l10)]]⟩,(ro 0 30 3 AA l9),(ro 0 3 1 eI l10),⟨0,26,2,[[.zc,.zc]]⟩]) Ae C5 U U ?_
     refine AE ⟨U,?_⟩
     exact AD (AF (L:=[(0,(.ptr 0 0 0 0)),(2,(.ptr 1 0 0 0)),(3,(.ptr 2 0 0 0)),(4,(i64 n7)),(5,(.ptr 5 0 0 0)),(30,(i64 (Sh.w (1000+q27.1))))]) ⟨.rfl,.rfl,.rfl,.rfl,.rfl,.rfl,trivial⟩) (AG (by kernel_rfl) ((hA29 _ _ _).1 A29_123456b)) rfl)
   have A29_12345b:A29 8 #[false,true,true,true,true,true,false,false,false,false,false,true,false,false] ⟨42,AM [(0,(.ptr 0 0 0 0)),(2,(.ptr 1 0 0 0)),(3,(.ptr 2 0 0 0)),(4,(i64 n7)),(5,(.ptr 5 0 0 0)),(29,(i64 q27.1))],[⟨0,43,2,[[(ls AI s0_0),(i64 q27.2)]]⟩,⟨0,26,2,[[.zc,.zc]]⟩,⟨0,26,2,[[(ow 3 0 l9),(ow 4 0 l10)]]⟩,(ro 0 30 3 AA l9),(ro 0 3 1 eI l10),⟨0,26,2,[[.zc,.zc]]⟩]⟩:=(hA29 _ _ _).2 (by
    refine AJ [0,6] U (by kernel_rfl) (by decide) ⟨?_,?_,trivial⟩
    ·refine AH (i:=0) rfl U (by rfl) ?_
     refine zq tb U ?_
     refine AE ⟨U,?_⟩
     exact AD (AF (L:=[(0,(.ptr 0 0 0 0)),(2,(.ptr 1 0 0 0)),(3,(.ptr 2 0 0 0)),(4,(i64 n7)),(5,(.ptr 5 0 0 0)),(24,(.agg [(ow 3 0 l9),(ow 4 0 l10)])),(29,(i64 q27.1))]) ⟨.rfl,.rfl,.rfl,.rfl,.rfl,.rfl,.rfl,trivial⟩) (AG (by kernel_rfl) ((hA29 _ _ _).1 A29_012345b)) rfl
    ·refine AH (i:=6) rfl U (by rfl) ?_
     refine zq tb U ?_
     refine AE ⟨U,?_⟩
     exact AD (AF (L:=[(0,(.ptr 0 0 0 0)),(2,(.ptr 1 0 0 0)),(3,(.ptr 2 0 0 0)),(4,(i64 n7)),(5,(.ptr 5 0 0 0)),(30,(i64 (Sh.w (1000+q27.1))))]) ⟨.rfl,.rfl,.rfl,.rfl,.rfl,.rfl,trivial⟩) (AG (by kernel_rfl) ((hA29 _ _ _).1 A29_123456b)) rfl)
   have A29_12345:A29 9 #[false,true,true,true,true,true,false,false,false,false,false,false,false,false] ⟨42,AM [(0,(.ptr 0 0 0 0)),(2,(.ptr 1 0 0 0)),(3,(.ptr 2 0 0 0)),(4,(i64 n7)),(29,(i64 q27.1))],[⟨0,43,2,[[(ls AI s0_0),(i64 q27.2)]]⟩,⟨0,26,2,[[.zc,.zc]]⟩,⟨0,26,2,[[(ow 3 0 l9),(ow 4 0 l10)]]⟩,(ro 0 30 3 AA l9),(ro 0 3 1 eI l10)]⟩:=(hA29 _ _ _).2 (by
    refine AJ [0,6,11] U (by kernel_rfl) (by decide) ⟨?_,?_,?_,trivial⟩
    ·refine AH (i:=0) rfl U (by rfl) ?_
     refine zq tb U ?_
     refine AE ⟨U,?_⟩
     exact AD (AF (L:=[(0,(.ptr 0 0 0 0)),(2,(.ptr 1 0 0 0)),(3,(.ptr 2 0 0 0)),(4,(i64 n7)),(24,(.agg [(ow 3 0 l9),(ow 4 0 l10)])),(29,(i64 q27.1))]) ⟨.rfl,.rfl,.rfl,.rfl,.rfl,.rfl,trivial⟩) (AG (by kernel_rfl) ((hA29 _ _ _).1 A29_012345)) rfl
    ·refine AH (i:=6) rfl U (by rfl) ?_
     refine zq tb U ?_
     refine AE ⟨U,?_⟩
     exact AD (AF (L:=[(0,(.ptr 0 0 0 0)),(2,(.ptr 1 0 0 0)),(3,(.ptr 2 0 0 0)),(4,(i64 n7)),(30,(i64 (Sh.w (1000+q27.1))))]) ⟨.rfl,.rfl,.rfl,.rfl,.rfl,trivial⟩) (AG (by kernel_rfl) ((hA29 _ _ _).1 A29_123456)) rfl
    ·refine AH (i:=11) rfl U (by rfl) ?_
     refine BF (m:=5) (st':=[⟨0,43,2,[[(ls AI s0_0),(i64 q27.2)]]⟩,⟨0,26,2,[[.zc,.zc]]⟩,⟨0,26,2,[[(ow 3 0 l9),(ow 4 0 l10)]]⟩,(ro 0 30 3 AA l9),(ro 0 3 1 eI l10),⟨0,26,2,[[.zc,.zc]]⟩]) Ae C5 U U ?_
     refine AE ⟨U,?_⟩
     exact AD (AF (L:=[(0,(.ptr 0 0 0 0)),(2,(.ptr 1 0 0 0)),(3,(.ptr 2 0 0 0)),(4,(i64 n7)),(5,(.ptr 5 0 0 0)),(29,(i64 q27.1))]) ⟨.rfl,.rfl,.rfl,.rfl,.rfl,.rfl,trivial⟩) (AG (by kernel_rfl) ((hA29 _ _ _).1 A29_12345b)) rfl)
   have A29_1234b:A29 9 #[false,true,true,true,true,false,false,false,false,false,false,true,false,false] ⟨42,AM [(0,(.ptr 0 0 0 0)),(2,(.ptr 1 0 0 0)),(3,(.ptr 2 0 0 0)),(4,(i64 n7)),(5,(.ptr 5 0 0 0)),(25,(.ptr 0 0 0 0)),(28,(i64 (Sh.len l9)))],[⟨0,43,2,[[(ls AI s0_0),(i64 f8)]]⟩,⟨0,26,2,[[.zc,.zc]]⟩,⟨0,26,2,[[(ow 3 0 l9),(ow 4 0 l10)]]⟩,(ro 0 30 3 AA l9),(ro 0 3 1 eI l10),⟨0,26,2,[[.zc,.zc]]⟩]⟩:=(hA29 _ _ _).2 (by
    refine AJ [0,5] U (by kernel_rfl) (by decide) ⟨?_,?_,trivial⟩
    ·refine AH (i:=0) rfl U (by rfl) ?_
     refine zq tb U ?_
     refine AE ⟨U,?_⟩
     exact AD (AF (L:=[(0,(.ptr 0 0 0 0)),(2,(.ptr 1 0 0 0)),(3,(.ptr 2 0 0 0)),(4,(i64 n7)),(5,(.ptr 5 0 0 0)),(24,(.agg [(ow 3 0 l9),(ow 4 0 l10)])),(25,(.ptr 0 0 0 0)),(28,(i64 (Sh.len l9)))]) ⟨.rfl,.rfl,.rfl,.rfl,.rfl,.rfl,.rfl,.rfl,trivial⟩) (AG (by kernel_rfl) ((hA29 _ _ _).1 A29_01234b)) rfl
    ·refine AH (i:=5) rfl U (by rfl) ?_
     refine Ad (rowsP:=[⟨0,43,2,[[(ls AI s0_0),(i64 f8)]]⟩]) (rows0:=[⟨0,43,2,[[(ls AI s0_0),(i64 f8)]]⟩]) (rows1:=[⟨0,43,2,[[(ls AI s0_0),(i64 q27.2)]]⟩]) (rows2:=[]) (rows1':=[⟨0,43,2,[[(ls AI s0_0),(i64 q27.2)]]⟩]) (rows2':=[]) (st':=[⟨0,43,2,[[(ls AI s0_0),(i64 q27.2)]]⟩,⟨0,26,2,[[.zc,.zc]]⟩,⟨0,26,2,[[(ow 3 0 l9),(ow 4 0 l10)]]⟩,(ro 0 30 3 AA l9),(ro 0 3 1 eI l10),⟨0,26,2,[[.zc,.zc]]⟩]) (v':=(i64 q27.1)) [0] Ae Dw (Aj gq27) rfl (by decide) rfl U (.raw U U .nil) rfl U (.raw U U .nil) .nil U U ?_
     refine AE ⟨U,?_⟩
     exact AD (AF (L:=[(0,(.ptr 0 0 0 0)),(2,(.ptr 1 0 0 0)),(3,(.ptr 2 0 0 0)),(4,(i64 n7)),(5,(.ptr 5 0 0 0)),(29,(i64 q27.1))]) ⟨.rfl,.rfl,.rfl,.rfl,.rfl,.rfl,trivial⟩) (AG (by kernel_rfl) ((hA29 _ _ _).1 A29_12345b)) rfl)
   have A29_1234:A29 10 #[false,true,true,true,true,false,false,false,false,false,false,false,false,false] ⟨42,AM [(0,(.ptr 0 0 0 0)),(2,(.ptr 1 0 0 0)),(3,(.ptr 2 0 0 0)),(4,(i64 n7)),(25,(.ptr 0 0 0 0)),(28,(i64 (Sh.len l9)))],[⟨0,43,2,[[(ls AI s0_0),(i64 f8)]]⟩,⟨0,26,2,[[.zc,.zc]]⟩,⟨0,26,2,[[(ow 3 0 l9),(ow 4 0 l10)]]⟩,(ro 0 30 3 AA l9),(ro 0 3 1 eI l10)]⟩:=(hA29 _ _ _).2 (by
    refine AJ [0,5,11] U (by kernel_rfl) (by decide) ⟨?_,?_,?_,trivial⟩
    ·refine AH (i:=0) rfl U (by rfl) ?_
     refine zq tb U ?_
     refine AE ⟨U,?_⟩
     exact AD (AF (L:=[(0,(.ptr 0 0 0 0)),(2,(.ptr 1 0 0 0)),(3,(.ptr 2 0 0 0)),(4,(i64 n7)),(24,(.agg [(ow 3 0 l9),(ow 4 0 l10)])),(25,(.ptr 0 0 0 0)),(28,(i64 (Sh.len l9)))]) ⟨.rfl,.rfl,.rfl,.rfl,.rfl,.rfl,.rfl,trivial⟩) (AG (by kernel_rfl) ((hA29 _ _ _).1 A29_01234)) rfl
    ·refine AH (i:=5) rfl U (by rfl) ?_
     refine Ad (rowsP:=[⟨0,43,2,[[(ls AI s0_0),(i64 f8)]]⟩]) (rows0:=[⟨0,43,2,[[(ls AI s0_0),(i64 f8)]]⟩]) (rows1:=[⟨0,43,2,[[(ls AI s0_0),(i64 q27.2)]]⟩]) (rows2:=[]) (rows1':=[⟨0,43,2,[[(ls AI s0_0),(i64 q27.2)]]⟩]) (rows2':=[]) (st':=[⟨0,43,2,[[(ls AI s0_0),(i64 q27.2)]]⟩,⟨0,26,2,[[.zc,.zc]]⟩,⟨0,26,2,[[(ow 3 0 l9),(ow 4 0 l10)]]⟩,(ro 0 30 3 AA l9),(ro 0 3 1 eI l10)]) (v':=(i64 q27.1)) [0] Ae Dw (Aj gq27) rfl (by decide) rfl U (.raw U U .nil) rfl U (.raw U U .nil) .nil U U ?_
     refine AE ⟨U,?_⟩
     exact AD (AF (L:=[(0,(.ptr 0 0 0 0)),(2,(.ptr 1 0 0 0)),(3,(.ptr 2 0 0 0)),(4,(i64 n7)),(29,(i64 q27.1))]) ⟨.rfl,.rfl,.rfl,.rfl,.rfl,trivial⟩) (AG (by kernel_rfl) ((hA29 _ _ _).1 A29_12345)) rfl
    ·refine AH (i:=11) rfl U (by rfl) ?_
     refine BF (m:=5) (st':=[⟨0,43,2,[[(ls AI s0_0),(i64 f8)]]⟩,⟨0,26,2,[[.zc,.zc]]⟩,⟨0,26,2,[[(ow 3 0 l9),(ow 4 0 l10)]]⟩,(ro 0 30 3 AA l9),(ro 0 3 1 eI l10),⟨0,26,2,[[.zc,.zc]]⟩]) Ae C5 U U ?_
     refine AE ⟨U,?_⟩
     exact AD (AF (L:=[(0,(.ptr 0 0 0 0)),(2,(.ptr 1 0 0 0)),(3,(.ptr 2 0 0 0)),(4,(i64 n7)),(5,(.ptr 5 0 0 0)),(25,(.ptr 0 0 0 0)),(28,(i64 (Sh.len l9)))]) ⟨.rfl,.rfl,.rfl,.rfl,.rfl,.rfl,.rfl,trivial⟩) (AG (by kernel_rfl) ((hA29 _ _ _).1 A29_1234b)) rfl)
   have A29_123b:A29 10 #[false,true,true,true,false,false,false,false,false,false,false,true,false,false] ⟨42,AM [(0,(.ptr 0 0 0 0)),(2,(.ptr 1 0 0 0)),(3,(.ptr 2 0 0 0)),(4,(i64 n7)),(5,(.ptr 5 0 0 0)),(25,(.ptr 0 0 0 0)),(27,(ow 3 0 l9))],[⟨0,43,2,[[(ls AI s0_0),(i64 f8)]]⟩,⟨0,26,2,[[.zc,.zc]]⟩,⟨0,26,2,[[(ow 3 0 l9),(ow 4 0 l10)]]⟩,(ro 0 30 3 AA l9),(ro 0 3 1 eI l10),⟨0,26,2,[[.zc,.zc]]⟩]⟩:=(hA29 _ _ _).2 (by
    refine AJ [0,4] U (by kernel_rfl) (by decide) ⟨?_,?_,trivial⟩
    ·refine AH (i:=0) rfl U (by rfl) ?_
     refine zq tb U ?_
     refine AE ⟨U,?_⟩
     exact AD (AF (L:=[(0,(.ptr 0 0 0 0)),(2,(.ptr 1 0 0 0)),(3,(.ptr 2 0 0 0)),(4,(i64 n7)),(5,(.ptr 5 0 0 0)),(24,(.agg [(ow 3 0 l9),(ow 4 0 l10)])),(25,(.ptr 0 0 0 0)),(27,(ow 3 0 l9))]) ⟨.rfl,.rfl,.rfl,.rfl,.rfl,.rfl,.rfl,.rfl,trivial⟩) (AG (by kernel_rfl) ((hA29 _ _ _).1 A29_0123b)) rfl
    ·refine AH (i:=4) rfl U (by rfl) ?_
     refine zz (i64 (Sh.len l9)) (Bj Ec U U U) rfl ?_
     refine AE ⟨U,?_⟩
     exact AD (AF (L:=[(0,(.ptr 0 0 0 0)),(2,(.ptr 1 0 0 0)),(3,(.ptr 2 0 0 0)),(4,(i64 n7)),(5,(.ptr 5 0 0 0)),(25,(.ptr 0 0 0 0)),(28,(i64 (Sh.len l9)))]) ⟨.rfl,.rfl,.rfl,.rfl,.rfl,.rfl,.rfl,trivial⟩) (AG (by kernel_rfl) ((hA29 _ _ _).1 A29_1234b)) rfl)
   have A29_123:A29 11 #[false,true,true,true,false,false,false,false,false,false,false,false,false,false] ⟨42,AM [(0,(.ptr 0 0 0 0)),(2,(.ptr 1 0 0 0)),(3,(.ptr 2 0 0 0)),(4,(i64 n7)),(25,(.ptr 0 0 0 0)),(27,(ow 3 0 l9))],[⟨0,43,2,[[(ls AI s0_0),(i64 f8)]]⟩,⟨0,26,2,[[.zc,.zc]]⟩,⟨0,26,2,[[(ow 3 0 l9),(ow 4 0 l10)]]⟩,(ro 0 30 3 AA l9),(ro 0 3 1 eI l10)]⟩:=(hA29 _ _ _).2 (by
    refine AJ [0,4,11] U (by kernel_rfl) (by decide) ⟨?_,?_,?_,trivial⟩
    ·refine AH (i:=0) rfl U (by rfl) ?_
     refine zq tb U ?_
     refine AE ⟨U,?_⟩
     exact AD (AF (L:=[(0,(.ptr 0 0 0 0)),(2,(.ptr 1 0 0 0)),(3,(.ptr 2 0 0 0)),(4,(i64 n7)),(24,(.agg [(ow 3 0 l9),(ow 4 0 l10)])),(25,(.ptr 0 0 0 0)),(27,(ow 3 0 l9))]) ⟨.rfl,.rfl,.rfl,.rfl,.rfl,.rfl,.rfl,trivial⟩) (AG (by kernel_rfl) ((hA29 _ _ _).1 A29_0123)) rfl
    ·refine AH (i:=4) rfl U (by rfl) ?_
     refine zz (i64 (Sh.len l9)) (Bj Ec U U U) rfl ?_
     refine AE ⟨U,?_⟩
     exact AD (AF (L:=[(0,(.ptr 0 0 0 0)),(2,(.ptr 1 0 0 0)),(3,(.ptr 2 0 0 0)),(4,(i64 n7)),(25,(.ptr 0 0 0 0)),(28,(i64 (Sh.len l9)))]) ⟨.rfl,.rfl,.rfl,.rfl,.rfl,.rfl,trivial⟩) (AG (by kernel_rfl) ((hA29 _ _ _).1 A29_1234)) rfl
    ·refine AH (i:=11) rfl U (by rfl) ?_
     refine BF (m:=5) (st':=[⟨0,43,2,[[(ls AI s0_0),(i64 f8)]]⟩,⟨0,26,2,[[.zc,.zc]]⟩,⟨0,26,2,[[(ow 3 0 l9),(ow 4 0 l10)]]⟩,(ro 0 30 3 AA l9),(ro 0 3 1 eI l10),⟨0,26,2,[[.zc,.zc]]⟩]) Ae C5 U U ?_
     refine AE ⟨U,?_⟩
     exact AD (AF (L:=[(0,(.ptr 0 0 0 0)),(2,(.ptr 1 0 0 0)),(3,(.ptr 2 0 0 0)),(4,(i64 n7)),(5,(.ptr 5 0 0 0)),(25,(.ptr 0 0 0 0)),(27,(ow 3 0 l9))]) ⟨.rfl,.rfl,.rfl,.rfl,.rfl,.rfl,.rfl,trivial⟩) (AG (by kernel_rfl) ((hA29 _ _ _).1 A29_123b)) rfl)
   have A29_12b:A29 11 #[false,true,true,false,false,false,false,false,false,false,false,true,false,false] ⟨42,AM [(0,(.ptr 0 0 0 0)),(2,(.ptr 1 0 0 0)),(3,(.ptr 2 0 0 0)),(4,(i64 n7)),(5,(.ptr 5 0 0 0)),(25,(.ptr 0 0 0 0)),(26,(.ptr 2 0 0 0))],[⟨0,43,2,[[(ls AI s0_0),(i64 f8)]]⟩,⟨0,26,2,[[.zc,.zc]]⟩,⟨0,26,2,[[(ow 3 0 l9),(ow 4 0 l10)]]⟩,(ro 0 30 3 AA l9),(ro 0 3 1 eI l10),⟨0,26,2,[[.zc,.zc]]⟩]⟩:=(hA29 _ _ _).2 (by
    refine AJ [0,3] U (by kernel_rfl) (by decide) ⟨?_,?_,trivial⟩
    ·refine AH (i:=0) rfl U (by rfl) ?_
     refine zq tb U ?_
     refine AE ⟨U,?_⟩
     exact AD (AF (L:=[(0,(.ptr 0 0 0 0)),(2,(.ptr 1 0 0 0)),(3,(.ptr 2 0 0 0)),(4,(i64 n7)),(5,(.ptr 5 0 0 0)),(24,(.agg [(ow 3 0 l9),(ow 4 0 l10)])),(25,(.ptr 0 0 0 0)),(26,(.ptr 2 0 0 0))]) ⟨.rfl,.rfl,.rfl,.rfl,.rfl,.rfl,.rfl,.rfl,trivial⟩) (AG (by kernel_rfl) ((hA29 _ _ _).1 A29_012b)) rfl
    ·refine AH (i:=3) rfl U (by rfl) ?_
     refine zq tb U ?_
     refine AE ⟨U,?_⟩
     exact AD (AF (L:=[(0,(.ptr 0 0 0 0)),(2,(.ptr 1 0 0 0)),(3,(.ptr 2 0 0 0)),(4,(i64 n7)),(5,(.ptr 5 0 0 0)),(25,(.ptr 0 0 0 0)),(27,(ow 3 0 l9))]) ⟨.rfl,.rfl,.rfl,.rfl,.rfl,.rfl,.rfl,trivial⟩) (AG (by kernel_rfl) ((hA29 _ _ _).1 A29_123b)) rfl)
   have A29_12:A29 12 #[false,true,true,false,false,false,false,false,false,false,false,false,false,false] ⟨42,AM [(0,(.ptr 0 0 0 0)),(2,(.ptr 1 0 0 0)),(3,(.ptr 2 0 0 0)),(4,(i64 n7)),(25,(.ptr 0 0 0 0)),(26,(.ptr 2 0 0 0))],[⟨0,43,2,[[(ls AI s0_0),(i64 f8)]]⟩,⟨0,26,2,[[.zc,.zc]]⟩,⟨0,26,2,[[(ow 3 0 l9),(ow 4 0 l10)]]⟩,(ro 0 30 3 AA l9),(ro 0 3 1 eI l10)]⟩:=(hA29 _ _ _).2 (by
    refine AJ [0,3,11] U (by kernel_rfl) (by decide) ⟨?_,?_,?_,trivial⟩
    ·refine AH (i:=0) rfl U (by rfl) ?_
     refine zq tb U ?_
     refine AE ⟨U,?_⟩
     exact AD (AF (L:=[(0,(.ptr 0 0 0 0)),(2,(.ptr 1 0 0 0)),(3,(.ptr 2 0 0 0)),(4,(i64 n7)),(24,(.agg [(ow 3 0 l9),(ow 4 0 l10)])),(25,(.ptr 0 0 0 0)),(26,(.ptr 2 0 0 0))]) ⟨.rfl,.rfl,.rfl,.rfl,.rfl,.rfl,.rfl,trivial⟩) (AG (by kernel_rfl) ((hA29 _ _ _).1 A29_012)) rfl
    ·refine AH (i:=3) rfl U (by rfl) ?_
     refine zq tb U ?_
     refine AE ⟨U,?_⟩
     exact AD (AF (L:=[(0,(.ptr 0 0 0 0)),(2,(.ptr 1 0 0 0)),(3,(.ptr 2 0 0 0)),(4,(i64 n7)),(25,(.ptr 0 0 0 0)),(27,(ow 3 0 l9))]) ⟨.rfl,.rfl,.rfl,.rfl,.rfl,.rfl,trivial⟩) (AG (by kernel_rfl) ((hA29 _ _ _).1 A29_123)) rfl
    ·refine AH (i:=11) rfl U (by rfl) ?_
     refine BF (m:=5) (st':=[⟨0,43,2,[[(ls AI s0_0),(i64 f8)]]⟩,⟨0,26,2,[[.zc,.zc]]⟩,⟨0,26,2,[[(ow 3 0 l9),(ow 4 0 l10)]]⟩,(ro 0 30 3 AA l9),(ro 0 3 1 eI l10),⟨0,26,2,[[.zc,.zc]]⟩]) Ae C5 U U ?_
     refine AE ⟨U,?_⟩
     exact AD (AF (L:=[(0,(.ptr 0 0 0 0)),(2,(.ptr 1 0 0 0)),(3,(.ptr 2 0 0 0)),(4,(i64 n7)),(5,(.ptr 5 0 0 0)),(25,(.ptr 0 0 0 0)),(26,(.ptr 2 0 0 0))]) ⟨.rfl,.rfl,.rfl,.rfl,.rfl,.rfl,.rfl,trivial⟩) (AG (by kernel_rfl) ((hA29 _ _ _).1 A29_12b)) rfl)
   have A29_1b:A29 12 #[false,true,false,false,false,false,false,false,false,false,false,true,false,false] ⟨42,AM [(0,(.ptr 0 0 0 0)),(2,(.ptr 1 0 0 0)),(3,(.ptr 2 0 0 0)),(4,(i64 n7)),(5,(.ptr 5 0 0 0)),(25,(.ptr 0 0 0 0))],[⟨0,43,2,[[(ls AI s0_0),(i64 f8)]]⟩,⟨0,26,2,[[.zc,.zc]]⟩,⟨0,26,2,[[(ow 3 0 l9),(ow 4 0 l10)]]⟩,(ro 0 30 3 AA l9),(ro 0 3 1 eI l10),⟨0,26,2,[[.zc,.zc]]⟩]⟩:=(hA29 _ _ _).2 (by
    refine AJ [0,2] U (by kernel_rfl) (by decide) ⟨?_,?_,trivial⟩
    ·refine AH (i:=0) rfl U (by rfl) ?_
     refine zq tb U ?_
     refine AE ⟨U,?_⟩
     exact AD (AF (L:=[(0,(.ptr 0 0 0 0)),(2,(.ptr 1 0 0 0)),(3,(.ptr 2 0 0 0)),(4,(i64 n7)),(5,(.ptr 5 0 0 0)),(24,(.agg [(ow 3 0 l9),(ow 4 0 l10)])),(25,(.ptr 0 0 0 0))]) ⟨.rfl,.rfl,.rfl,.rfl,.rfl,.rfl,.rfl,trivial⟩) (AG (by kernel_rfl) ((hA29 _ _ _).1 A29_01b)) rfl
    ·refine AH (i:=2) rfl U (by rfl) ?_
     refine zq tb U ?_
     refine AE ⟨U,?_⟩
     exact AD (AF (L:=[(0,(.ptr 0 0 0 0)),(2,(.ptr 1 0 0 0)),(3,(.ptr 2 0 0 0)),(4,(i64 n7)),(5,(.ptr 5 0 0 0)),(25,(.ptr 0 0 0 0)),(26,(.ptr 2 0 0 0))]) ⟨.rfl,.rfl,.rfl,.rfl,.rfl,.rfl,.rfl,trivial⟩) (AG (by kernel_rfl) ((hA29 _ _ _).1 A29_12b)) rfl)
   have A29_1:A29 13 #[false,true,false,false,false,false,false,false,false,false,false,false,false,false] ⟨42,AM [(0,(.ptr 0 0 0 0)),(2,(.ptr 1 0 0 0)),(3,(.ptr 2 0 0 0)),(4,(i64 n7)),(25,(.ptr 0 0 0 0))],[⟨0,43,2,[[(ls AI s0_0),(i64 f8)]]⟩,⟨0,26,2,[[.zc,.zc]]⟩,⟨0,26,2,[[(ow 3 0 l9),(ow 4 0 l10)]]⟩,(ro 0 30 3 AA l9),(ro 0 3 1 eI l10)]⟩:=(hA29 _ _ _).2 (by
    refine AJ [0,2,11] U (by kernel_rfl) (by decide) ⟨?_,?_,?_,trivial⟩
    ·refine AH (i:=0) rfl U (by rfl) ?_
     refine zq tb U ?_
     refine AE ⟨U,?_⟩
     exact AD (AF (L:=[(0,(.ptr 0 0 0 0)),(2,(.ptr 1 0 0 0)),(3,(.ptr 2 0 0 0)),(4,(i64 n7)),(24,(.agg [(ow 3 0 l9),(ow 4 0 l10)])),(25,(.ptr 0 0 0 0))]) ⟨.rfl,.rfl,.rfl,.rfl,.rfl,.rfl,trivial⟩) (AG (by kernel_rfl) ((hA29 _ _ _).1 A29_01)) rfl
    ·refine AH (i:=2) rfl U (by rfl) ?_
     refine zq tb U ?_
     refine AE ⟨U,?_⟩
     exact AD (AF (L:=[(0,(.ptr 0 0 0 0)),(2,(.ptr 1 0 0 0)),(3,(.ptr 2 0 0 0)),(4,(i64 n7)),(25,(.ptr 0 0 0 0)),(26,(.ptr 2 0 0 0))]) ⟨.rfl,.rfl,.rfl,.rfl,.rfl,.rfl,trivial⟩) (AG (by kernel_rfl) ((hA29 _ _ _).1 A29_12)) rfl
    ·refine AH (i:=11) rfl U (by rfl) ?_
     refine BF (m:=5) (st':=[⟨0,43,2,[[(ls AI s0_0),(i64 f8)]]⟩,⟨0,26,2,[[.zc,.zc]]⟩,⟨0,26,2,[[(ow 3 0 l9),(ow 4 0 l10)]]⟩,(ro 0 30 3 AA l9),(ro 0 3 1 eI l10),⟨0,26,2,[[.zc,.zc]]⟩]) Ae C5 U U ?_
     refine AE ⟨U,?_⟩
     exact AD (AF (L:=[(0,(.ptr 0 0 0 0)),(2,(.ptr 1 0 0 0)),(3,(.ptr 2 0 0 0)),(4,(i64 n7)),(5,(.ptr 5 0 0 0)),(25,(.ptr 0 0 0 0))]) ⟨.rfl,.rfl,.rfl,.rfl,.rfl,.rfl,trivial⟩) (AG (by kernel_rfl) ((hA29 _ _ _).1 A29_1b)) rfl)
   have A29_e:A29 14 #[false,false,false,false,false,false,false,false,false,false,false,false,false,false] ⟨42,AM [(0,(.ptr 0 0 0 0)),(2,(.ptr 1 0 0 0)),(3,(.ptr 2 0 0 0)),(4,(i64 n7))],[⟨0,43,2,[[(ls AI s0_0),(i64 f8)]]⟩,⟨0,26,2,[[.zc,.zc]]⟩,⟨0,26,2,[[(ow 3 0 l9),(ow 4 0 l10)]]⟩,(ro 0 30 3 AA l9),(ro 0 3 1 eI l10)]⟩:=(hA29 _ _ _).2 (by
    refine Bf 1 (v:=(.ptr 0 0 0 0)) rfl U (by kernel_rfl) (by kernel_rfl) (by kernel_rfl) rfl (Cc U) ?_
    exact AD (AF (L:=[(0,(.ptr 0 0 0 0)),(2,(.ptr 1 0 0 0)),(3,(.ptr 2 0 0 0)),(4,(i64 n7)),(25,(.ptr 0 0 0 0))]) ⟨.rfl,.rfl,.rfl,.rfl,.rfl,trivial⟩) (AG (by kernel_rfl) ((hA29 _ _ _).1 A29_1)) rfl)
   refine (hA29 _ _ _).2 ?_
   exact AD (by refine Wk.trans (AL (L:=[(0,(.ptr 0 0 0 0)),(2,(.ptr 1 0 0 0)),(3,(.ptr 2 0 0 0)),(4,(i64 n7))]) (st':=[⟨0,43,2,[[(ls AI s0_0),(i64 f8)]]⟩,⟨0,26,2,[[.zc,.zc]]⟩,⟨0,26,2,[[(ow 3 0 l9),(ow 4 0 l10)]]⟩,(ro 0 30 3 AA l9),(ro 0 3 1 eI l10)]) (st1:=[⟨0,43,2,[[(ls AI s0_0),(i64 f8)]]⟩,⟨0,26,2,[[.zc,.zc]]⟩,⟨0,26,2,[[(ow 2 0 l9),(ow 3 0 l10)]]⟩,(ro 0 30 3 AA l9),(ro 0 3 1 eI l10)]) [0,1,4,2,3] U (.raw U U .nil) (by decide) rfl U (.raw U U (.raw U U (.raw U U (.pure (AB fun _=>U) (.pure (AB fun _=>U) .nil))))) ⟨.rfl,.rfl,.rfl,.rfl,trivial⟩) ?_;exact AF (L:=[(0,(.ptr 0 0 0 0)),(2,(.ptr 1 0 0 0)),(3,(.ptr 2 0 0 0)),(4,(i64 n7))]) ⟨.rfl,.rfl,.rfl,.rfl,trivial⟩) (AG (by kernel_rfl) ((hA29 _ _ _).1 A29_e)) rfl
  ·intro b20 h1
   exact Au (M14 f8 l9 l10 (Sh.AK h1).symm _ (AP U))
 refine AR (by rfl) ?_
 refine zm tb 3 U ?_
 rcases Sh.Ar h2 with ⟨b30,h2⟩ | ⟨b30,h2⟩
 ·refine zg tb b30 U ?_
  refine zg tb b30 U ?_
  refine CY (v:=(i64 (Sh.len l9))) (Ce U U b30) rfl (Bj Ec U U U) ?_
  refine zg tb b30 U ?_
  refine zt b30 U ?_
  exact AE (M19 (decide (0 < (Sh.len l9))) (Sh.AK h2).symm _ (AP U))
 ·refine zs b30 U ?_
  iterate 3 refine zs b30 rfl ?_
  refine zf b30 U ?_
  exact AE (M19 false (Sh.AK h2).symm _ (AP U))
end Go.Proofs.Ythapbpfhdnmboaa

