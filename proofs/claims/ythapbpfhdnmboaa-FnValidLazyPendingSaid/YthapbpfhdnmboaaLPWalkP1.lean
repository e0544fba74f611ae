import Derived.Test.YthapbpfhdnmboaaProg
import Derived.Test.YthapbpfhdnmboaaGHADefsToLPDefs
import Derived.Test.YthapbpfhdnmboaaLPWalkP0
namespace Go.Proofs.Ythapbpfhdnmboaa
open Go Go.Abs RC
attribute [local irreducible] Go.Abs.B6
set_option maxRecDepth 100000
set_option maxHeartbeats 4000000

theorem Rp:Al Try.prog 13=true:=by kernel_rfl
theorem S3:Al Try.prog 43=true:=by kernel_rfl
theorem Rq:Al Try.prog 45=true:=by kernel_rfl

theorem GN {N:Nat} {s0:(List Cell)} {s1:(List Int)} {p1:Int} {r:BK×Bool} (h0:EG N s0 s1 p1=some r):Ag Try.prog 29 [(.agg [(ow 0 0 s0),(ow 1 0 s1)]),(i64 p1)] [(ro 0 30 3 AA s0),(ro 0 3 1 eI s1)] (fun v st=>v=(.BI [(.agg [(ow 2 0 r.1.cells),(ow 3 0 r.1.pending)]),(.bool r.2)])∧st=[(ro 0 30 3 AA s0),(ro 0 3 1 eI s1),(ro 0 30 3 AA r.1.cells),(ro 0 3 1 eI r.1.pending)]):=by
 unfold EG at h0
 refine Ag.wk (r0:=(.BI [(.agg [(ow 2 0 r.1.cells),(ow 3 0 r.1.pending)]),(.bool r.2)])) (st0:=[(ro 0 30 3 AA s0),(ro 0 3 1 eI s1),(ro 0 30 3 AA r.1.cells),(ro 0 3 1 eI r.1.pending),⟨0,26,2,[[(ow 2 0 r.1.cells),(ow 3 0 r.1.pending)]]⟩]) ?_ (E8 (L:=[(0,(.BI [(.agg [(ow 2 0 r.1.cells),(ow 3 0 r.1.pending)]),(.bool r.2)]))]) (st':=[(ro 0 30 3 AA s0),(ro 0 3 1 eI s1),(ro 0 30 3 AA r.1.cells),(ro 0 3 1 eI r.1.pending)]) [0,1,2,3] U (by decide) rfl U (.pure (AB fun _=>U) (.pure (AB fun _=>U) (.pure (AB fun _=>U) (.pure (AB fun _=>U) trivial)))) ⟨.rfl,trivial⟩)
 refine ai Try.func29 U U U U ?_
 refine sr U fun K1 hK1=>?_
 refine Df (m:=2) (st':=[(ro 0 30 3 AA s0),(ro 0 3 1 eI s1),⟨0,26,2,[[(ow 0 0 s0),(ow 1 0 s1)]]⟩]) Ae U U U U U ?_
 refine BF (m:=3) (st':=[(ro 0 30 3 AA s0),(ro 0 3 1 eI s1),⟨0,26,2,[[(ow 0 0 s0),(ow 1 0 s1)]]⟩,⟨0,26,2,[[.zc,.zc]]⟩]) Ae C5 U U ?_
 refine zq tb U ?_
 refine dn hK1 U ?_
 refine AN fun K2 hK2=>?_
 refine AN fun K3 hK3=>?_
 obtain⟨o5,h1,h0⟩:=Sh.bind_some h0
 have M5 :∀(t4:Bool),o5=t4→∀s,Wk 2 s ⟨42,AM [(1,(i64 p1)),(2,(.ptr 2 0 0 0)),(4,(.ptr 3 0 0 0)),(16,(.bool t4))],[(ro 0 30 3 AA s0),(ro 0 3 1 eI s1),⟨0,26,2,[[(ow 0 0 s0),(ow 1 0 s1)]]⟩,⟨0,26,2,[[.zc,.zc]]⟩]⟩→K3 s:=by
  intro t4 hq s hw
  subst o5
  try dsimp only at h0
  refine hK3 _ (AS hw ?_)
  refine ci h0 U ?_ ?_ <;> clear h0
  ·intro b6 h0
   refine sr U fun K7 hK7=>?_
   refine zz (.agg [.zc,.zc]) (FY NV Nf C5 U U) rfl ?_
   refine Bt (st':=[(ro 0 30 3 AA s0),(ro 0 3 1 eI s1),⟨0,26,2,[[(ow 0 0 s0),(ow 1 0 s1)]]⟩,⟨0,26,2,[[.zc,.zc]]⟩]) Ae DU U U U U U U (show 0+2≤2 by decide) rfl ?_
   refine zq tb U ?_
   refine dn hK7 U ?_
   replace h0:=Sh.AK h0
   subst r
   exact AZ (Exists.intro _ (And.intro ((((Fc (id:=3) (st':=[(ro 0 30 3 AA s0),(ro 0 3 1 eI s1),⟨0,26,2,[[(ow 0 0 s0),(ow 1 0 s1)]]⟩,⟨0,26,2,[[(.own 4 0 (List.length ([]:List Cell))),.zc]]⟩,(ro 0 30 3 AA ([]:List Cell))]) (j:=0) rfl U 30 (size':=3) (by decide) rfl U U U).trans (Fc (id:=3) (st':=[(ro 0 30 3 AA s0),(ro 0 3 1 eI s1),⟨0,26,2,[[(ow 0 0 s0),(ow 1 0 s1)]]⟩,⟨0,26,2,[[(.own 4 0 (List.length ([]:List Cell))),(.own 5 0 (List.length ([]:List Int)))]]⟩,(ro 0 30 3 AA ([]:List Cell)),(ro 0 3 1 eI ([]:List Int))]) (j:=1) rfl U 3 (size':=1) (by decide) rfl U U U)).trans (AL (L:=[(4,(.ptr 4 0 0 0)),(5,(.bool false))]) (st':=[(ro 0 30 3 AA s0),(ro 0 3 1 eI s1),(ro 0 30 3 AA ([]:List Cell)),(ro 0 3 1 eI ([]:List Int)),⟨0,26,2,[[(.own 2 0 (List.length ([]:List Cell))),(.own 3 0 (List.length ([]:List Int)))]]⟩]) (st1:=[(ro 0 30 3 AA s0),(ro 0 3 1 eI s1),(ro 0 30 3 AA ([]:List Cell)),(ro 0 3 1 eI ([]:List Int)),⟨0,26,2,[[(.own 4 0 (List.length ([]:List Cell))),(.own 5 0 (List.length ([]:List Int)))]]⟩]) [0,1,4,5,3] U (.pure (AB fun _=>U) (.pure (AB fun _=>U) .nil)) (by decide) rfl U (.pure (AB fun _=>U) (.pure (AB fun _=>U) (.pure (AB fun _=>U) (.pure (AB fun _=>U) (.raw U U .nil))))) ⟨.rfl,.rfl,trivial⟩)).trans (AF (L:=[(4,(.ptr 4 0 0 0)),(5,(.bool false))]) ⟨.rfl,.rfl,trivial⟩)) (D3 (x:=.tmp 4) (off:=0) (cs:=[(.own 2 0 (List.length ([]:List Cell))),(.own 3 0 (List.length ([]:List Int)))]) (vs:=[(.own 2 0 (List.length ([]:List Cell))),(.own 3 0 (List.length ([]:List Int)))]) DU U U U (show 0+2≤2 by decide) rfl _ ⟨U,U⟩)))
  ·intro b6 h0
   refine AU (hK2 _ ?_)
   refine sr U fun K8 hK8=>?_
   refine zq tb U ?_
   obtain⟨q9,gq9,h0⟩:=Sh.bind_some h0
   refine Ad (rowsP:=[(ro 0 30 3 AA s0),(ro 0 3 1 eI s1)]) (rows0:=[(ro 0 30 3 AA s0),(ro 0 3 1 eI s1)]) (rows1:=[(ro 0 30 3 AA s0),(ro 0 3 1 eI s1)]) (rows2:=[(ro 0 30 3 AA q9.cells),(ro 0 3 1 eI q9.pending)]) (rows1':=[(ro 0 30 3 AA s0),(ro 0 3 1 eI s1)]) (rows2':=[(ro 0 30 3 AA q9.cells),(ro 0 3 1 eI q9.pending)]) (st':=[(ro 0 30 3 AA s0),(ro 0 3 1 eI s1),⟨0,26,2,[[(ow 0 0 s0),(ow 1 0 s1)]]⟩,⟨0,26,2,[[.zc,.zc]]⟩,(ro 0 30 3 AA q9.cells),(ro 0 3 1 eI q9.pending)]) (v':=(.agg [(ow 4 0 q9.cells),(ow 5 0 q9.pending)])) [0,1] Ae S3 (JC gq9) rfl (by decide) rfl U (.pure (AB fun _=>U) (.pure (AB fun _=>U) .nil)) rfl U (.pure (AB fun _=>U) (.pure (AB fun _=>U) .nil)) (.pure (AB fun _=>U) (.pure (AB fun _=>U) .nil)) rfl U ?_
   refine BF (m:=6) (st':=[(ro 0 30 3 AA s0),(ro 0 3 1 eI s1),⟨0,26,2,[[(ow 0 0 s0),(ow 1 0 s1)]]⟩,⟨0,26,2,[[.zc,.zc]]⟩,(ro 0 30 3 AA q9.cells),(ro 0 3 1 eI q9.pending),⟨0,26,2,[[.zc,.zc]]⟩]) Ae C5 U U ?_
   refine Bt (st':=[(ro 0 30 3 AA s0),(ro 0 3 1 eI s1),⟨0,26,2,[[(ow 0 0 s0),(ow 1 0 s1)]]⟩,⟨0,26,2,[[.zc,.zc]]⟩,(ro 0 30 3 AA q9.cells),(ro 0 3 1 eI q9.pending),⟨0,26,2,[[(ow 4 0 q9.cells),(ow 5 0 q9.pending)]]⟩]) Ae DU U U U U U U (show 0+2≤2 by decide) rfl ?_
   refine dn hK8 U ?_
   refine AN fun K10 hK10=>?_
   obtain⟨o13,h1,h0⟩:=Sh.BP h0
   have M13 :∀(l11:(List Cell)) (l12:(List Int)),o13=Sum.inr (l11,l12)→∀s,Wk 2 s ⟨42,AM [(4,(.ptr 2 0 0 0)),(6,(.ptr 5 0 0 0))],[(ro 0 30 3 AA s0),(ro 0 3 1 eI s1),⟨0,26,2,[[.zc,.zc]]⟩,(ro 0 30 3 AA l11),(ro 0 3 1 eI l12),⟨0,26,2,[[(ow 3 0 l11),(ow 4 0 l12)]]⟩]⟩→K10 s:=by
    intro l11 l12 hq s hw
    subst o13
    try dsimp only at h0
    refine hK10 _ (AS hw ?_)
    refine sr U fun K14 hK14=>?_
    refine zq tb U ?_
    refine Bt (st':=[(ro 0 30 3 AA s0),(ro 0 3 1 eI s1),⟨0,26,2,[[(ow 3 0 l11),(ow 4 0 l12)]]⟩,(ro 0 30 3 AA l11),(ro 0 3 1 eI l12),⟨0,26,2,[[(ow 3 0 l11),(ow 4 0 l12)]]⟩]) Ae DU U U U U U U (show 0+2≤2 by decide) rfl ?_
    refine zq tb U ?_
    refine dn hK14 U ?_
    replace h0:=Sh.AK h0
    subst r
    exact AZ (Exists.intro _ (And.intro ((AL (L:=[(4,(.ptr 4 0 0 0)),(5,(.bool true))]) (st':=[(ro 0 30 3 AA s0),(ro 0 3 1 eI s1),(ro 0 30 3 AA l11),(ro 0 3 1 eI l12),⟨0,26,2,[[(ow 2 0 l11),(ow 3 0 l12)]]⟩]) (st1:=[(ro 0 30 3 AA s0),(ro 0 3 1 eI s1),(ro 0 30 3 AA l11),(ro 0 3 1 eI l12),⟨0,26,2,[[(ow 3 0 l11),(ow 4 0 l12)]]⟩]) [0,1,3,4,2] U (.pure (AB fun _=>U) (.pure (AB fun _=>U) .nil)) (by decide) rfl U (.pure (AB fun _=>U) (.pure (AB fun _=>U) (.pure (AB fun _=>U) (.pure (AB fun _=>U) (.raw U U .nil))))) ⟨.rfl,.rfl,trivial⟩).trans (AF (L:=[(4,(.ptr 4 0 0 0)),(5,(.bool true))]) ⟨.rfl,.rfl,trivial⟩)) (D3 (x:=.tmp 4) (off:=0) (cs:=[(ow 2 0 l11),(ow 3 0 l12)]) (vs:=[(ow 2 0 l11),(ow 3 0 l12)]) DU U U U (show 0+2≤2 by decide) rfl _ ⟨U,U⟩)))
   refine sr U fun K15 hK15=>?_
   refine zq tb U ?_
   obtain⟨q16,gq16,h1⟩:=Sh.bind_some h1
   refine zc L8 (Ch gq16) rfl U U ?_
   refine dn hK15 U ?_
   refine ci h1 U ?_ ?_ <;> clear h1
   ·intro b17 h1
    refine AN fun K18 hK18=>?_
    refine AN fun K19 hK19=>?_
    refine Dd (by kernel_rfl) ?_
    obtain⟨c20,gc20,h1⟩:=Sh.bind_some h1
    obtain⟨q21,gq21,h1⟩:=Sh.bind_some h1
    obtain⟨q22,gq22,h1⟩:=Sh.bind_some h1
    obtain⟨c23,gc23,h1⟩:=Sh.bind_some h1
    refine Et fun A24 hA24=>?_
    have A24_0123456789abcde:A24 0 #[true,true,true,true,true,true,true,true,true,true,true,true,true,true,true] ⟨42,AM [(1,(i64 p1)),(4,(.ptr 2 0 0 0)),(6,(.ptr 3 0 0 0)),(36,(.bool (decide (c20.count=c23))))],[(ro 0 30 3 AA s0),(ro 0 3 1 eI s1),⟨0,26,2,[[.zc,.zc]]⟩,⟨0,26,2,[[(ow 4 0 q9.cells),(ow 5 0 q9.pending)]]⟩,(ro 0 30 3 AA q9.cells),(ro 0 3 1 eI q9.pending)]⟩:=(hA24 _ _ _).2 (by
     refine EE U (by kernel_rfl) ?_
     refine hK19 _ ?_
     refine ci h1 U ?_ ?_ <;> clear h1
     ·intro b25 h1
      refine sr U fun K26 hK26=>?_
      refine zz (.agg [.zc,.zc]) (FY NV Nf C5 U U) rfl ?_
      refine Bt (st':=[(ro 0 30 3 AA s0),(ro 0 3 1 eI s1),⟨0,26,2,[[.zc,.zc]]⟩,⟨0,26,2,[[(ow 4 0 q9.cells),(ow 5 0 q9.pending)]]⟩,(ro 0 30 3 AA q9.cells),(ro 0 3 1 eI q9.pending)]) Ae DU U U U U U U (show 0+2≤2 by decide) rfl ?_
      refine zq tb U ?_
      refine dn hK26 U ?_
      replace h1:=Sh.AK h1
      subst o13
      try dsimp only[id] at h0
      replace h0:=Sh.AK h0
      subst r
      exact AZ (Exists.intro _ (And.intro ((((Fc (id:=2) (st':=[(ro 0 30 3 AA s0),(ro 0 3 1 eI s1),⟨0,26,2,[[(.own 6 0 (List.length ([]:List Cell))),.zc]]⟩,⟨0,26,2,[[(ow 4 0 q9.cells),(ow 5 0 q9.pending)]]⟩,(ro 0 30 3 AA q9.cells),(ro 0 3 1 eI q9.pending),(ro 0 30 3 AA ([]:List Cell))]) (j:=0) rfl U 30 (size':=3) (by decide) rfl U U U).trans (Fc (id:=2) (st':=[(ro 0 30 3 AA s0),(ro 0 3 1 eI s1),⟨0,26,2,[[(.own 6 0 (List.length ([]:List Cell))),(.own 7 0 (List.length ([]:List Int)))]]⟩,⟨0,26,2,[[(ow 4 0 q9.cells),(ow 5 0 q9.pending)]]⟩,(ro 0 30 3 AA q9.cells),(ro 0 3 1 eI q9.pending),(ro 0 30 3 AA ([]:List Cell)),(ro 0 3 1 eI ([]:List Int))]) (j:=1) rfl U 3 (size':=1) (by decide) rfl U U U)).trans (AL (L:=[(4,(.ptr 4 0 0 0)),(5,(.bool false))]) (st':=[(ro 0 30 3 AA s0),(ro 0 3 1 eI s1),(ro 0 30 3 AA ([]:List Cell)),(ro 0 3 1 eI ([]:List Int)),⟨0,26,2,[[(.own 2 0 (List.length ([]:List Cell))),(.own 3 0 (List.length ([]:List Int)))]]⟩]) (st1:=[(ro 0 30 3 AA s0),(ro 0 3 1 eI s1),(ro 0 30 3 AA ([]:List Cell)),(ro 0 3 1 eI ([]:List Int)),⟨0,26,2,[[(.own 6 0 (List.length ([]:List Cell))),(.own 7 0 (List.length ([]:List Int)))]]⟩]) [0,1,6,7,2] U (.pure (AB fun _=>U) (.pure (AB fun _=>U) .nil)) (by decide) rfl U (.pure (AB fun _=>U) (.pure (AB fun _=>U) (.pure (AB fun _=>U) (.pure (AB fun _=>U) (.raw U U .nil))))) ⟨.rfl,.rfl,trivial⟩)).trans (AF (L:=[(4,(.ptr 4 0 0 0)),(5,(.bool false))]) ⟨.rfl,.rfl,trivial⟩)) (D3 (x:=.tmp 4) (off:=0) (cs:=[(.own 2 0 (List.length ([]:List Cell))),(.own 3 0 (List.length ([]:List Int)))]) (vs:=[(.own 2 0 (List.length ([]:List Cell))),(.own 3 0 (List.length ([]:List Int)))]) DU U U U (show 0+2≤2 by decide) rfl _ ⟨U,U⟩)))
     ·intro b25 h1
      refine AU (hK18 _ ?_)
      refine AR (by rfl) ?_
      refine zm tb 2 U ?_
      obtain⟨q27,gq27,h1⟩:=Sh.bind_some h1
      refine IP (rowsP:=[⟨0,30,3,List.map AA q9.cells⟩,⟨0,3,1,List.map eI q9.pending⟩]) (rows0:=[⟨0,30,3,List.map AA q9.cells⟩,⟨0,3,1,List.map eI q9.pending⟩]) (rows1:=[⟨0,30,3,List.map AA q27.cells⟩,⟨1,3,1,List.map eI q27.pending⟩]) (rows2:=[]) (rows1':=[⟨0,30,3,List.map AA q27.cells⟩,⟨1,3,1,List.map eI q27.pending⟩]) (rows2':=[]) (st':=[⟨0,30,3,List.map AA s0⟩,⟨0,3,1,List.map eI s1⟩,⟨0,26,2,[[.zc,.zc]]⟩,⟨0,26,2,[[(.own 4 0 (List.length q9.cells)),(.own 5 0 (List.length q9.pending))]]⟩,⟨0,30,3,List.map AA q27.cells⟩,⟨1,3,1,List.map eI q27.pending⟩]) (v':=(.agg [(.own 4 0 (List.length q27.cells)),(.own 5 1 (List.length q27.pending))])) [4,5] Ae Rq (Hb gq27) rfl (by decide) rfl U (.pure (AB fun _=>U) (.pure (AB fun _=>U) .nil)) rfl U (.pure (AB fun _=>U) (.pure (AB fun _=>U) .nil)) .nil U U (fun hln=>?_)
      have ln28:List.length q27.cells=List.length q9.cells:=by simpa only[List.length_map] using hln 0 _ _ rfl rfl rfl
      refine Bt (st':=[(ro 0 30 3 AA s0),(ro 0 3 1 eI s1),⟨0,26,2,[[.zc,.zc]]⟩,⟨0,26,2,[[(ow 4 0 q27.cells),(ow 5 1 q27.pending)]]⟩,(ro 0 30 3 AA q27.cells),(ro 1 3 1 eI q27.pending)]) Ae DU U U U U U U (show 0+2≤2 by decide) rfl ?_
      exact AE (M13 q27.cells q27.pending (Sh.AK h1).symm _ (by refine Wk.trans (Dc (L:=[(4,(.ptr 2 0 0 0)),(6,(.ptr 3 0 0 0))]) (st':=[(ro 0 30 3 AA s0),(ro 0 3 1 eI s1),⟨0,26,2,[[.zc,.zc]]⟩,⟨0,26,2,[[(ow 4 0 q27.cells),(ow 5 0 q27.pending)]]⟩,(ro 0 30 3 AA q27.cells),(ro 0 3 1 eI q27.pending)]) (.pure U (AB fun _=>U) (.pure U (AB fun _=>U) (.raw U U U (.raw U U U (.pure U (AB fun _=>U) (.pure U (AB fun _=>U) .nil)))))) ⟨.rfl,.rfl,trivial⟩) ?_;refine Wk.trans (AL (L:=[(4,(.ptr 2 0 0 0)),(6,(.ptr 5 0 0 0))]) (st':=[(ro 0 30 3 AA s0),(ro 0 3 1 eI s1),⟨0,26,2,[[.zc,.zc]]⟩,(ro 0 30 3 AA q27.cells),(ro 0 3 1 eI q27.pending),⟨0,26,2,[[(ow 3 0 q27.cells),(ow 4 0 q27.pending)]]⟩]) (st1:=[(ro 0 30 3 AA s0),(ro 0 3 1 eI s1),⟨0,26,2,[[.zc,.zc]]⟩,(ro 0 30 3 AA q27.cells),(ro 0 3 1 eI q27.pending),⟨0,26,2,[[(ow 4 0 q27.cells),(ow 5 0 q27.pending)]]⟩]) [0,1,2,4,5,3] U (.pure (AB fun _=>U) (.pure (AB fun _=>U) .nil)) (by decide) rfl U (.pure (AB fun _=>U) (.pure (AB fun _=>U) (.raw U U (.pure (AB fun _=>U) (.pure (AB fun _=>U) (.raw U U .nil)))))) ⟨.rfl,.rfl,trivial⟩) ?_;exact AF (L:=[(4,(.ptr 2 0 0 0)),(6,(.ptr 5 0 0 0))]) ⟨.rfl,.rfl,trivial⟩)))
    have A24_0123456789abcd:A24 1 #[true,true,true,true,true,true,true,true,true,true,true,true,true,true,false] ⟨42,AM [(1,(i64 p1)),(4,(.ptr 2 0 0 0)),(6,(.ptr 3 0 0 0)),(28,(i64 c20.count)),(35,(i64 c23))],[(ro 0 30 3 AA s0),(ro 0 3 1 eI s1),⟨0,26,2,[[.zc,.zc]]⟩,⟨0,26,2,[[(ow 4 0 q9.cells),(ow 5 0 q9.pending)]]⟩,(ro 0 30 3 AA q9.cells),(ro 0 3 1 eI q9.pending)]⟩:=(hA24 _ _ _).2 (by
     refine AJ [14] U (by kernel_rfl) (by decide) ⟨?_,trivial⟩
     ·refine AH (i:=14) rfl U (by rfl) ?_
      refine zq tb U ?_
      refine AE ⟨U,?_⟩
      exact AD (AF (L:=[(1,(i64 p1)),(4,(.ptr 2 0 0 0)),(6,(.ptr 3 0 0 0)),(36,(.bool (decide (c20.count=c23))))]) ⟨.rfl,.rfl,.rfl,.rfl,trivial⟩) (AG (by kernel_rfl) ((hA24 _ _ _).1 A24_0123456789abcde)) rfl)
    have A24_0123456789abc:A24 2 #[true,true,true,true,true,true,true,true,true,true,true,true,true,false,false] ⟨42,AM [(1,(i64 p1)),(4,(.ptr 2 0 0 0)),(6,(.ptr 3 0 0 0)),(28,(i64 c20.count)),(34,(.ptr 6 0 (Int.toNat (Sh.w (p1 - 1000))) 0))],[(ro 0 30 3 AA s0),(ro 0 3 1 eI s1),⟨0,26,2,[[.zc,.zc]]⟩,⟨0,26,2,[[(ow 4 0 q9.cells),(ow 5 0 q9.pending)]]⟩,(ro 0 30 3 AA q9.cells),(ro 0 3 1 eI q9.pending),(ro 0 3 1 eI q22)]⟩:=(hA24 _ _ _).2 (by
     refine AJ [13] U (by kernel_rfl) (by decide) ⟨?_,trivial⟩
     ·refine AH (i:=13) rfl U (by rfl) ?_
      refine zz (i64 c23) (Aw CM U U (Am gc23) rfl) rfl ?_
      refine AE ⟨U,?_⟩
      exact AD (by refine Wk.trans (AL (L:=[(1,(i64 p1)),(4,(.ptr 2 0 0 0)),(6,(.ptr 3 0 0 0)),(28,(i64 c20.count)),(35,(i64 c23))]) (st':=[(ro 0 30 3 AA s0),(ro 0 3 1 eI s1),⟨0,26,2,[[.zc,.zc]]⟩,⟨0,26,2,[[(ow 4 0 q9.cells),(ow 5 0 q9.pending)]]⟩,(ro 0 30 3 AA q9.cells),(ro 0 3 1 eI q9.pending)]) (st1:=[(ro 0 30 3 AA s0),(ro 0 3 1 eI s1),⟨0,26,2,[[.zc,.zc]]⟩,⟨0,26,2,[[(ow 4 0 q9.cells),(ow 5 0 q9.pending)]]⟩,(ro 0 30 3 AA q9.cells),(ro 0 3 1 eI q9.pending)]) [0,1,2,3,4,5] U (.pure (AB fun _=>U) (.pure (AB fun _=>U) .nil)) (by decide) rfl U (.pure (AB fun _=>U) (.pure (AB fun _=>U) (.raw U U (.raw U U (.pure (AB fun _=>U) (.pure (AB fun _=>U) .nil)))))) ⟨.rfl,.rfl,.rfl,.rfl,.rfl,trivial⟩) ?_;exact AF (L:=[(1,(i64 p1)),(4,(.ptr 2 0 0 0)),(6,(.ptr 3 0 0 0)),(28,(i64 c20.count)),(35,(i64 c23))]) ⟨.rfl,.rfl,.rfl,.rfl,.rfl,trivial⟩) (AG (by kernel_rfl) ((hA24 _ _ _).1 A24_0123456789abcd)) rfl)
    have A24_0123456789ab:A24 3 #[true,true,true,true,true,true,true,true,true,true,true,true,false,false,false] ⟨42,AM [(1,(i64 p1)),(4,(.ptr 2 0 0 0)),(6,(.ptr 3 0 0 0)),(28,(i64 c20.count)),(31,(ow 6 0 q22)),(33,(i64 (Sh.w (p1 - 1000))))],[(ro 0 30 3 AA s0),(ro 0 3 1 eI s1),⟨0,26,2,[[.zc,.zc]]⟩,⟨0,26,2,[[(ow 4 0 q9.cells),(ow 5 0 q9.pending)]]⟩,(ro 0 30 3 AA q9.cells),(ro 0 3 1 eI q9.pending),(ro 0 3 1 eI q22)]⟩:=(hA24 _ _ _).2 (by
     refine AJ [12] U (by kernel_rfl) (by decide) ⟨?_,trivial⟩
     ·refine AH (i:=12) rfl U (by rfl) ?_
      refine zz (.ptr 6 0 (Int.toNat (Sh.w (p1 - 1000))) 0) (An Av U U U U gc23) rfl ?_
      refine AE ⟨U,?_⟩
      exact AD (AF (L:=[(1,(i64 p1)),(4,(.ptr 2 0 0 0)),(6,(.ptr 3 0 0 0)),(28,(i64 c20.count)),(34,(.ptr 6 0 (Int.toNat (Sh.w (p1 - 1000))) 0))]) ⟨.rfl,.rfl,.rfl,.rfl,.rfl,trivial⟩) (AG (by kernel_rfl) ((hA24 _ _ _).1 A24_0123456789abc)) rfl)
    have A24_0123456789a:A24 4 #[true,true,true,true,true,true,true,true,true,true,true,false,false,false,false] ⟨42,AM [(1,(i64 p1)),(4,(.ptr 2 0 0 0)),(6,(.ptr 3 0 0 0)),(28,(i64 c20.count)),(31,(ow 6 0 q22)),(32,(i64 p1))],[(ro 0 30 3 AA s0),(ro 0 3 1 eI s1),⟨0,26,2,[[.zc,.zc]]⟩,⟨0,26,2,[[(ow 4 0 q9.cells),(ow 5 0 q9.pending)]]⟩,(ro 0 30 3 AA q9.cells),(ro 0 3 1 eI q9.pending),(ro 0 3 1 eI q22)]⟩:=(hA24 _ _ _).2 (by
     refine AJ [11] U (by kernel_rfl) (by decide) ⟨?_,trivial⟩
     ·refine AH (i:=11) rfl U (by rfl) ?_
      refine zq tb U ?_
      refine AE ⟨U,?_⟩
      exact AD (AF (L:=[(1,(i64 p1)),(4,(.ptr 2 0 0 0)),(6,(.ptr 3 0 0 0)),(28,(i64 c20.count)),(31,(ow 6 0 q22)),(33,(i64 (Sh.w (p1 - 1000))))]) ⟨.rfl,.rfl,.rfl,.rfl,.rfl,.rfl,trivial⟩) (AG (by kernel_rfl) ((hA24 _ _ _).1 A24_0123456789ab)) rfl)
    have A24_012345678ab:A24 4 #[true,true,true,true,true,true,true,true,true,false,true,true,false,false,false] ⟨42,AM [(1,(i64 p1)),(4,(.ptr 2 0 0 0)),(6,(.ptr 3 0 0 0)),(28,(i64 c20.count)),(30,(ow 6 0 q21)),(33,(i64 (Sh.w (p1 - 1000))))],[(ro 0 30 3 AA s0),(ro 0 3 1 eI s1),⟨0,26,2,[[.zc,.zc]]⟩,⟨0,26,2,[[(ow 4 0 q9.cells),(ow 5 0 q9.pending)]]⟩,(ro 0 30 3 AA q9.cells),(ro 0 3 1 eI q9.pending),(ro 0 30 3 AA q21)]⟩:=(hA24 _ _ _).2 (by
     refine AJ [9] U (by kernel_rfl) (by decide) ⟨?_,trivial⟩
     ·refine AH (i:=9) rfl U (by rfl) ?_
      refine Af (Wk.A2 (L:=[(1,(i64 p1)),(4,(.ptr 2 0 0 0)),(6,(.ptr 3 0 0 0)),(28,(i64 c20.count)),(30,(ls AA q21)),(33,(i64 (Sh.w (p1 - 1000))))]) (st':=[(ro 0 30 3 AA s0),(ro 0 3 1 eI s1),⟨0,26,2,[[.zc,.zc]]⟩,⟨0,26,2,[[(ow 4 0 q9.cells),(ow 5 0 q9.pending)]]⟩,(ro 0 30 3 AA q9.cells),(ro 0 3 1 eI q9.pending),⟨1,30,3,[]⟩]) (id:=6) rfl (show 2≤6 by decide) (AB fun _=>U) ⟨.rfl,.rfl,.rfl,.rfl,(.A2 U),.rfl,trivial⟩ U) ?_
      refine BJ (v':=(ow 7 0 q22)) (st':=[(ro 0 30 3 AA s0),(ro 0 3 1 eI s1),⟨0,26,2,[[.zc,.zc]]⟩,⟨0,26,2,[[(ow 4 0 q9.cells),(ow 5 0 q9.pending)]]⟩,(ro 0 30 3 AA q9.cells),(ro 0 3 1 eI q9.pending),⟨1,30,3,[]⟩,(ro 0 3 1 eI q22)]) Ae ET (Ax gq22) rfl U ⟨(BD fun _=>U),trivial⟩ U U ?_
      refine AE ⟨U,?_⟩
      exact AD (by refine Wk.trans (AL (L:=[(1,(i64 p1)),(4,(.ptr 2 0 0 0)),(6,(.ptr 3 0 0 0)),(28,(i64 c20.count)),(31,(ow 6 0 q22)),(33,(i64 (Sh.w (p1 - 1000))))]) (st':=[(ro 0 30 3 AA s0),(ro 0 3 1 eI s1),⟨0,26,2,[[.zc,.zc]]⟩,⟨0,26,2,[[(ow 4 0 q9.cells),(ow 5 0 q9.pending)]]⟩,(ro 0 30 3 AA q9.cells),(ro 0 3 1 eI q9.pending),(ro 0 3 1 eI q22)]) (st1:=[(ro 0 30 3 AA s0),(ro 0 3 1 eI s1),⟨0,26,2,[[.zc,.zc]]⟩,⟨0,26,2,[[(ow 4 0 q9.cells),(ow 5 0 q9.pending)]]⟩,(ro 0 30 3 AA q9.cells),(ro 0 3 1 eI q9.pending),(ro 0 3 1 eI q22)]) [0,1,2,3,4,5,7] U (.pure (AB fun _=>U) (.pure (AB fun _=>U) .nil)) (by decide) rfl U (.pure (AB fun _=>U) (.pure (AB fun _=>U) (.raw U U (.raw U U (.pure (AB fun _=>U) (.pure (AB fun _=>U) (.pure (AB fun _=>U) .nil))))))) ⟨.rfl,.rfl,.rfl,.rfl,.rfl,.rfl,trivial⟩) ?_;exact AF (L:=[(1,(i64 p1)),(4,(.ptr 2 0 0 0)),(6,(.ptr 3 0 0 0)),(28,(i64 c20.count)),(31,(ow 6 0 q22)),(33,(i64 (Sh.w (p1 - 1000))))]) ⟨.rfl,.rfl,.rfl,.rfl,.rfl,.rfl,trivial⟩) (AG (by kernel_rfl) ((hA24 _ _ _).1 A24_0123456789ab)) rfl)
    have A24_012345678a:A24 5 #[true,true,true,true,true,true,true,true,true,false,true,false,false,false,false] ⟨42,AM [(1,(i64 p1)),(4,(.ptr 2 0 0 0)),(6,(.ptr 3 0 0 0)),(28,(i64 c20.count)),(30,(ow 6 0 q21)),(32,(i64 p1))],[(ro 0 30 3 AA s0),(ro 0 3 1 eI s1),⟨0,26,2,[[.zc,.zc]]⟩,⟨0,26,2,[[(ow 4 0 q9.cells),(ow 5 0 q9.pending)]]⟩,(ro 0 30 3 AA q9.cells),(ro 0 3 1 eI q9.pending),(ro 0 30 3 AA q21)]⟩:=(hA24 _ _ _).2 (by
     refine AJ [9,11] U (by kernel_rfl) (by decide) ⟨?_,?_,trivial⟩
     ·refine AH (i:=9) rfl U (by rfl) ?_
      refine Af (Wk.A2 (L:=[(1,(i64 p1)),(4,(.ptr 2 0 0 0)),(6,(.ptr 3 0 0 0)),(28,(i64 c20.count)),(30,(ls AA q21)),(32,(i64 p1))]) (st':=[(ro 0 30 3 AA s0),(ro 0 3 1 eI s1),⟨0,26,2,[[.zc,.zc]]⟩,⟨0,26,2,[[(ow 4 0 q9.cells),(ow 5 0 q9.pending)]]⟩,(ro 0 30 3 AA q9.cells),(ro 0 3 1 eI q9.pending),⟨1,30,3,[]⟩]) (id:=6) rfl (show 2≤6 by decide) (AB fun _=>U) ⟨.rfl,.rfl,.rfl,.rfl,(.A2 U),.rfl,trivial⟩ U) ?_
      refine BJ (v':=(ow 7 0 q22)) (st':=[(ro 0 30 3 AA s0),(ro 0 3 1 eI s1),⟨0,26,2,[[.zc,.zc]]⟩,⟨0,26,2,[[(ow 4 0 q9.cells),(ow 5 0 q9.pending)]]⟩,(ro 0 30 3 AA q9.cells),(ro 0 3 1 eI q9.pending),⟨1,30,3,[]⟩,(ro 0 3 1 eI q22)]) Ae ET (Ax gq22) rfl U ⟨(BD fun _=>U),trivial⟩ U U ?_
      refine AE ⟨U,?_⟩
      exact AD (by refine Wk.trans (AL (L:=[(1,(i64 p1)),(4,(.ptr 2 0 0 0)),(6,(.ptr 3 0 0 0)),(28,(i64 c20.count)),(31,(ow 6 0 q22)),(32,(i64 p1))]) (st':=[(ro 0 30 3 AA s0),(ro 0 3 1 eI s1),⟨0,26,2,[[.zc,.zc]]⟩,⟨0,26,2,[[(ow 4 0 q9.cells),(ow 5 0 q9.pending)]]⟩,(ro 0 30 3 AA q9.cells),(ro 0 3 1 eI q9.pending),(ro 0 3 1 eI q22)]) (st1:=[(ro 0 30 3 AA s0),(ro 0 3 1 eI s1),⟨0,26,2,[[.zc,.zc]]⟩,⟨0,26,2,[[(ow 4 0 q9.cells),(ow 5 0 q9.pending)]]⟩,(ro 0 30 3 AA q9.cells),(ro 0 3 1 eI q9.pending),(ro 0 3 1 eI q22)]) [0,1,2,3,4,5,7] U (.pure (AB fun _=>U) (.pure (AB fun _=>U) .nil)) (by decide) rfl U (.pure (AB fun _=>U) (.pure (AB fun _=>U) (.raw U U (.raw U U (.pure (AB fun _=>U) (.pure (AB fun _=>U) (.pure (AB fun _=>U) .nil))))))) ⟨.rfl,.rfl,.rfl,.rfl,.rfl,.rfl,trivial⟩) ?_;exact AF (L:=[(1,(i64 p1)),(4,(.ptr 2 0 0 0)),(6,(.ptr 3 0 0 0)),(28,(i64 c20.count)),(31,(ow 6 0 q22)),(32,(i64 p1))]) ⟨.rfl,.rfl,.rfl,.rfl,.rfl,.rfl,trivial⟩) (AG (by kernel_rfl) ((hA24 _ _ _).1 A24_0123456789a)) rfl
     ·refine AH (i:=11) rfl U (by rfl) ?_
      refine zq tb U ?_
      refine AE ⟨U,?_⟩
      exact AD (AF (L:=[(1,(i64 p1)),(4,(.ptr 2 0 0 0)),(6,(.ptr 3 0 0 0)),(28,(i64 c20.count)),(30,(ow 6 0 q21)),(33,(i64 (Sh.w (p1 - 1000))))]) ⟨.rfl,.rfl,.rfl,.rfl,.rfl,.rfl,trivial⟩) (AG (by kernel_rfl) ((hA24 _ _ _).1 A24_012345678ab)) rfl)
    have A24_01234567ab:A24 5 #[true,true,true,true,true,true,true,true,false,false,true,true,false,false,false] ⟨42,AM [(1,(i64 p1)),(4,(.ptr 2 0 0 0)),(6,(.ptr 3 0 0 0)),(28,(i64 c20.count)),(29,(.agg [(ow 0 0 s0),(ow 1 0 s1)])),(33,(i64 (Sh.w (p1 - 1000))))],[(ro 0 30 3 AA s0),(ro 0 3 1 eI s1),⟨0,26,2,[[.zc,.zc]]⟩,⟨0,26,2,[[(ow 4 0 q9.cells),(ow 5 0 q9.pending)]]⟩,(ro 0 30 3 AA q9.cells),(ro 0 3 1 eI q9.pending)]⟩:=(hA24 _ _ _).2 (by
     refine AJ [8] U (by kernel_rfl) (by decide) ⟨?_,trivial⟩
     ·refine AH (i:=8) rfl U (by rfl) ?_
      refine Ad (rowsP:=[(ro 0 30 3 AA s0),(ro 0 3 1 eI s1)]) (rows0:=[(ro 0 30 3 AA s0),(ro 0 3 1 eI s1)]) (rows1:=[(ro 0 30 3 AA s0),(ro 0 3 1 eI s1)]) (rows2:=[(ro 0 30 3 AA q21)]) (rows1':=[(ro 0 30 3 AA s0),(ro 0 3 1 eI s1)]) (rows2':=[(ro 0 30 3 AA q21)]) (st':=[(ro 0 30 3 AA s0),(ro 0 3 1 eI s1),⟨0,26,2,[[.zc,.zc]]⟩,⟨0,26,2,[[(ow 4 0 q9.cells),(ow 5 0 q9.pending)]]⟩,(ro 0 30 3 AA q9.cells),(ro 0 3 1 eI q9.pending),(ro 0 30 3 AA q21)]) (v':=(ow 6 0 q21)) [0,1] Ae Ep (Az gq21) rfl (by decide) rfl U (.pure (AB fun _=>U) (.pure (AB fun _=>U) .nil)) rfl U (.pure (AB fun _=>U) (.pure (AB fun _=>U) .nil)) (.pure (AB fun _=>U) .nil) rfl U ?_
      refine AE ⟨U,?_⟩
      exact AD (AF (L:=[(1,(i64 p1)),(4,(.ptr 2 0 0 0)),(6,(.ptr 3 0 0 0)),(28,(i64 c20.count)),(30,(ow 6 0 q21)),(33,(i64 (Sh.w (p1 - 1000))))]) ⟨.rfl,.rfl,.rfl,.rfl,.rfl,.rfl,trivial⟩) (AG (by kernel_rfl) ((hA24 _ _ _).1 A24_012345678ab)) rfl)
    have A24_01234567a:A24 6 #[true,true,true,true,true,true,true,true,false,false,true,false,false,false,false] ⟨42,AM [(1,(i64 p1)),(4,(.ptr 2 0 0 0)),(6,(.ptr 3 0 0 0)),(28,(i64 c20.count)),(29,(.agg [(ow 0 0 s0),(ow 1 0 s1)])),(32,(i64 p1))],[(ro 0 30 3 AA s0),(ro 0 3 1 eI s1),⟨0,26,2,[[.zc,.zc]]⟩,⟨0,26,2,[[(ow 4 0 q9.cells),(ow 5 0 q9.pending)]]⟩,(ro 0 30 3 AA q9.cells),(ro 0 3 1 eI q9.pending)]⟩:=(hA24 _ _ _).2 (by
     refine AJ [8,11] U (by kernel_rfl) (by decide) ⟨?_,?_,trivial⟩
     ·refine AH (i:=8) rfl U (by rfl) ?_
      refine Ad (rowsP:=[(ro 0 30 3 AA s0),(ro 0 3 1 eI s1)]) (rows0:=[(ro 0 30 3 AA s0),(ro 0 3 1 eI s1)]) (rows1:=[(ro 0 30 3 AA s0),(ro 0 3 1 eI s1)]) (rows2:=[(ro 0 30 3 AA q21)]) (rows1':=[(ro 0 30 3 AA s0),(ro 0 3 1 eI s1)]) (rows2':=[(ro 0 30 3 AA q21)]) (st':=[(ro 0 30 3 AA s0),(ro 0 3 1 eI s1),⟨0,26,2,[[.zc,.zc]]⟩,⟨0,26,2,[[(ow 4 0 q9.cells),(ow 5 0 q9.pending)]]⟩,(ro 0 30 3 AA q9.cells),(ro 0 3 1 eI q9.pending),(ro 0 30 3 AA q21)]) (v':=(ow 6 0 q21)) [0,1] Ae Ep (Az gq21) rfl (by decide) rfl U (.pure (AB fun _=>U) (.pure (AB fun _=>U) .nil)) rfl U (.pure (AB fun _=>U) (.pure (AB fun _=>U) .nil)) (.pure (AB fun _=>U) .nil) rfl U ?_
      refine AE ⟨U,?_⟩
      exact AD (AF (L:=[(1,(i64 p1)),(4,(.ptr 2 0 0 0)),(6,(.ptr 3 0 0 0)),(28,(i64 c20.count)),(30,(ow 6 0 q21)),(32,(i64 p1))]) ⟨.rfl,.rfl,.rfl,.rfl,.rfl,.rfl,trivial⟩) (AG (by kernel_rfl) ((hA24 _ _ _).1 A24_012345678a)) rfl
     ·refine AH (i:=11) rfl U (by rfl) ?_
      refine zq tb U ?_
      refine AE ⟨U,?_⟩
      exact AD (AF (L:=[(1,(i64 p1)),(4,(.ptr 2 0 0 0)),(6,(.ptr 3 0 0 0)),(28,(i64 c20.count)),(29,(.agg [(ow 0 0 s0),(ow 1 0 s1)])),(33,(i64 (Sh.w (p1 - 1000))))]) ⟨.rfl,.rfl,.rfl,.rfl,.rfl,.rfl,trivial⟩) (AG (by kernel_rfl) ((hA24 _ _ _).1 A24_01234567ab)) rfl)
    have A24_0123456ab:A24 6 #[true,true,true,true,true,true,true,false,false,false,true,true,false,false,false] ⟨42,AM [(1,(i64 p1)),(2,(.ptr 2 0 0 0)),(4,(.ptr 3 0 0 0)),(6,(.ptr 4 0 0 0)),(28,(i64 c20.count)),(33,(i64 (Sh.w (p1 - 1000))))],[(ro 0 30 3 AA s0),(ro 0 3 1 eI s1),⟨0,26,2,[[(ow 0 0 s0),(ow 1 0 s1)]]⟩,⟨0,26,2,[[.zc,.zc]]⟩,⟨0,26,2,[[(ow 5 0 q9.cells),(ow 6 0 q9.pending)]]⟩,(ro 0 30 3 AA q9.cells),(ro 0 3 1 eI q9.pending)]⟩:=(hA24 _ _ _).2 (by
     refine AJ [7] U (by kernel_rfl) (by decide) ⟨?_,trivial⟩
     ·refine AH (i:=7) rfl U (by rfl) ?_
      refine zq tb U ?_
      refine AE ⟨U,?_⟩
      exact AD (by refine Wk.trans (AL (L:=[(1,(i64 p1)),(4,(.ptr 2 0 0 0)),(6,(.ptr 3 0 0 0)),(28,(i64 c20.count)),(29,(.agg [(ow 0 0 s0),(ow 1 0 s1)])),(33,(i64 (Sh.w (p1 - 1000))))]) (st':=[(ro 0 30 3 AA s0),(ro 0 3 1 eI s1),⟨0,26,2,[[.zc,.zc]]⟩,⟨0,26,2,[[(ow 4 0 q9.cells),(ow 5 0 q9.pending)]]⟩,(ro 0 30 3 AA q9.cells),(ro 0 3 1 eI q9.pending)]) (st1:=[(ro 0 30 3 AA s0),(ro 0 3 1 eI s1),⟨0,26,2,[[.zc,.zc]]⟩,⟨0,26,2,[[(ow 5 0 q9.cells),(ow 6 0 q9.pending)]]⟩,(ro 0 30 3 AA q9.cells),(ro 0 3 1 eI q9.pending)]) [0,1,3,4,5,6] U (.pure (AB fun _=>U) (.pure (AB fun _=>U) .nil)) (by decide) rfl U (.pure (AB fun _=>U) (.pure (AB fun _=>U) (.raw U U (.raw U U (.pure (AB fun _=>U) (.pure (AB fun _=>U) .nil)))))) ⟨.rfl,.rfl,.rfl,.rfl,.rfl,.rfl,trivial⟩) ?_;exact AF (L:=[(1,(i64 p1)),(4,(.ptr 2 0 0 0)),(6,(.ptr 3 0 0 0)),(28,(i64 c20.count)),(29,(.agg [(ow 0 0 s0),(ow 1 0 s1)])),(33,(i64 (Sh.w (p1 - 1000))))]) ⟨.rfl,.rfl,.rfl,.rfl,.rfl,.rfl,trivial⟩) (AG (by kernel_rfl) ((hA24 _ _ _).1 A24_01234567ab)) rfl)
    have A24_0123456a:A24 7 #[true,true,true,true,true,true,true,false,false,false,true,false,false,false,false] ⟨42,AM [(1,(i64 p1)),(2,(.ptr 2 0 0 0)),(4,(.ptr 3 0 0 0)),(6,(.ptr 4 0 0 0)),(28,(i64 c20.count)),(32,(i64 p1))],[(ro 0 30 3 AA s0),(ro 0 3 1 eI s1),⟨0,26,2,[[(ow 0 0 s0),(ow 1 0 s1)]]⟩,⟨0,26,2,[[.zc,.zc]]⟩,⟨0,26,2,[[(ow 5 0 q9.cells),(ow 6 0 q9.pending)]]⟩,(ro 0 30 3 AA q9.cells),(ro 0 3 1 eI q9.pending)]⟩:=(hA24 _ _ _).2 (by
     refine AJ [7,11] U (by kernel_rfl) (by decide) ⟨?_,?_,trivial⟩
     ·refine AH (i:=7) rfl U (by rfl) ?_
      refine zq tb U ?_
      refine AE ⟨U,?_⟩
      exact AD (by refine Wk.trans (AL (L:=[(1,(i64 p1)),(4,(.ptr 2 0 0 0)),(6,(.ptr 3 0 0 0)),(28,(i64 c20.count)),(29,(.agg [(ow 0 0 s0),(ow 1 0 s1)])),(32,(i64 p1))]) (st':=[(ro 0 30 3 AA s0),(ro 0 3 1 eI s1),⟨0,26,2,[[.zc,.zc]]⟩,⟨0,26,2,[[(ow 4 0 q9.cells),(ow 5 0 q9.pending)]]⟩,(ro 0 30 3 AA q9.cells),(ro 0 3 1 eI q9.pending)]) (st1:=[(ro 0 30 3 AA s0),(ro 0 3 1 eI s1),⟨0,26,2,[[.zc,.zc]]⟩,⟨0,26,2,[[(ow 5 0 q9.cells),(ow 6 0 q9.pending)]]⟩,(ro 0 30 3 AA q9.cells),(ro 0 3 1 eI q9.pending)]) [0,1,3,4,5,6] U (.pure (AB fun _=>U) (.pure (AB fun _=>U) .nil)) (by decide) rfl U (.pure (AB fun _=>U) (.pure (AB fun _=>U) (.raw U U (.raw U U (.pure (AB fun _=>U) (.pure (AB fun _=>U) .nil)))))) ⟨.rfl,.rfl,.rfl,.rfl,.rfl,.rfl,trivial⟩) ?_;exact AF (L:=[(1,(i64 p1)),(4,(.ptr 2 0 0 0)),(6,(.ptr 3 0 0 0)),(28,(i64 c20.count)),(29,(.agg [(ow 0 0 s0),(ow 1 0 s1)])),(32,(i64 p1))]) ⟨.rfl,.rfl,.rfl,.rfl,.rfl,.rfl,trivial⟩) (AG (by kernel_rfl) ((hA24 _ _ _).1 A24_01234567a)) rfl
     ·refine AH (i:=11) rfl U (by rfl) ?_
      refine zq tb U ?_
      refine AE ⟨U,?_⟩
      exact AD (AF (L:=[(1,(i64 p1)),(2,(.ptr 2 0 0 0)),(4,(.ptr 3 0 0 0)),(6,(.ptr 4 0 0 0)),(28,(i64 c20.count)),(33,(i64 (Sh.w (p1 - 1000))))]) ⟨.rfl,.rfl,.rfl,.rfl,.rfl,.rfl,trivial⟩) (AG (by kernel_rfl) ((hA24 _ _ _).1 A24_0123456ab)) rfl)
    have A24_012345789abcd:A24 2 #[true,true,true,true,true,true,false,true,true,true,true,true,true,true,false] ⟨42,AM [(1,(i64 p1)),(4,(.ptr 2 0 0 0)),(6,(.ptr 3 0 0 0)),(27,(.ptr 0 0 (Int.toNat (Sh.w (p1 - 1000))) 0)),(35,(i64 c23))],[(ro 0 30 3 AA s0),(ro 0 3 1 eI s1),⟨0,26,2,[[.zc,.zc]]⟩,⟨0,26,2,[[(ow 4 0 q9.cells),(ow 5 0 q9.pending)]]⟩,(ro 0 30 3 AA q9.cells),(ro 0 3 1 eI q9.pending)]⟩:=(hA24 _ _ _).2 (by
     refine AJ [6] U (by kernel_rfl) (by decide) ⟨?_,trivial⟩
     ·refine AH (i:=6) rfl U (by rfl) ?_
      refine zz (i64 c20.count) (Aw CM U U (Am gc20) rfl) rfl ?_
      refine AE ⟨U,?_⟩
      exact AD (AF (L:=[(1,(i64 p1)),(4,(.ptr 2 0 0 0)),(6,(.ptr 3 0 0 0)),(28,(i64 c20.count)),(35,(i64 c23))]) ⟨.rfl,.rfl,.rfl,.rfl,.rfl,trivial⟩) (AG (by kernel_rfl) ((hA24 _ _ _).1 A24_0123456789abcd)) rfl)
    have A24_012345789abc:A24 3 #[true,true,true,true,true,true,false,true,true,true,true,true,true,false,false] ⟨42,AM [(1,(i64 p1)),(4,(.ptr 2 0 0 0)),(6,(.ptr 3 0 0 0)),(27,(.ptr 0 0 (Int.toNat (Sh.w (p1 - 1000))) 0)),(34,(.ptr 6 0 (Int.toNat (Sh.w (p1 - 1000))) 0))],[(ro 0 30 3 AA s0),(ro 0 3 1 eI s1),⟨0,26,2,[[.zc,.zc]]⟩,⟨0,26,2,[[(ow 4 0 q9.cells),(ow 5 0 q9.pending)]]⟩,(ro 0 30 3 AA q9.cells),(ro 0 3 1 eI q9.pending),(ro 0 3 1 eI q22)]⟩:=(hA24 _ _ _).2 (by
     refine AJ [6,13] U (by kernel_rfl) (by decide) ⟨?_,?_,trivial⟩
     ·refine AH (i:=6) rfl U (by rfl) ?_
      refine zz (i64 c20.count) (Aw CM U U (Am gc20) rfl) rfl ?_
      refine AE ⟨U,?_⟩
      exact AD (AF (L:=[(1,(i64 p1)),(4,(.ptr 2 0 0 0)),(6,(.ptr 3 0 0 0)),(28,(i64 c20.count)),(34,(.ptr 6 0 (Int.toNat (Sh.w (p1 - 1000))) 0))]) ⟨.rfl,.rfl,.rfl,.rfl,.rfl,trivial⟩) (AG (by kernel_rfl) ((hA24 _ _ _).1 A24_0123456789abc)) rfl
     ·refine AH (i:=13) rfl U (by rfl) ?_
      refine zz (i64 c23) (Aw CM U U (Am gc23) rfl) rfl ?_
      refine AE ⟨U,?_⟩
      exact AD (by refine Wk.trans (AL (L:=[(1,(i64 p1)),(4,(.ptr 2 0 0 0)),(6,(.ptr 3 0 0 0)),(27,(.ptr 0 0 (Int.toNat (Sh.w (p1 - 1000))) 0)),(35,(i64 c23))]) (st':=[(ro 0 30 3 AA s0),(ro 0 3 1 eI s1),⟨0,26,2,[[.zc,.zc]]⟩,⟨0,26,2,[[(ow 4 0 q9.cells),(ow 5 0 q9.pending)]]⟩,(ro 0 30 3 AA q9.cells),(ro 0 3 1 eI q9.pending)]) (st1:=[(ro 0 30 3 AA s0),(ro 0 3 1 eI s1),⟨0,26,2,[[.zc,.zc]]⟩,⟨0,26,2,[[(ow 4 0 q9.cells),(ow 5 0 q9.pending)]]⟩,(ro 0 30 3 AA q9.cells),(ro 0 3 1 eI q9.pending)]) [0,1,2,3,4,5] U (.pure (AB fun _=>U) (.pure (AB fun _=>U) .nil)) (by decide) rfl U (.pure (AB fun _=>U) (.pure (AB fun _=>U) (.raw U U (.raw U U (.pure (AB fun _=>U) (.pure (AB fun _=>U) .nil)))))) ⟨.rfl,.rfl,.rfl,.rfl,.rfl,trivial⟩) ?_;exact AF (L:=[(1,(i64 p1)),(4,(.ptr 2 0 0 0)),(6,(.ptr 3 0 0 0)),(27,(.ptr 0 0 (Int.toNat (Sh.w (p1 - 1000))) 0)),(35,(i64 c23))]) ⟨.rfl,.rfl,.rfl,.rfl,.rfl,trivial⟩) (AG (by kernel_rfl) ((hA24 _ _ _).1 A24_012345789abcd)) rfl)
    have A24_012345789ab:A24 4 #[true,true,true,true,true,true,false,true,true,true,true,true,false,false,false] ⟨42,AM [(1,(i64 p1)),(4,(.ptr 2 0 0 0)),(6,(.ptr 3 0 0 0)),(27,(.ptr 0 0 (Int.toNat (Sh.w (p1 - 1000))) 0)),(31,(ow 6 0 q22)),(33,(i64 (Sh.w (p1 - 1000))))],[(ro 0 30 3 AA s0),(ro 0 3 1 eI s1),⟨0,26,2,[[.zc,.zc]]⟩,⟨0,26,2,[[(ow 4 0 q9.cells),(ow 5 0 q9.pending)]]⟩,(ro 0 30 3 AA q9.cells),(ro 0 3 1 eI q9.pending),(ro 0 3 1 eI q22)]⟩:=(hA24 _ _ _).2 (by
     refine AJ [6,12] U (by kernel_rfl) (by decide) ⟨?_,?_,trivial⟩
     ·refine AH (i:=6) rfl U (by rfl) ?_
      refine zz (i64 c20.count) (Aw CM U U (Am gc20) rfl) rfl ?_
      refine AE ⟨U,?_⟩
      exact AD (AF (L:=[(1,(i64 p1)),(4,(.ptr 2 0 0 0)),(6,(.ptr 3 0 0 0)),(28,(i64 c20.count)),(31,(ow 6 0 q22)),(33,(i64 (Sh.w (p1 - 1000))))]) ⟨.rfl,.rfl,.rfl,.rfl,.rfl,.rfl,trivial⟩) (AG (by kernel_rfl) ((hA24 _ _ _).1 A24_0123456789ab)) rfl
     ·refine AH (i:=12) rfl U (by rfl) ?_
      refine zz (.ptr 6 0 (Int.toNat (Sh.w (p1 - 1000))) 0) (An Av U U U U gc23) rfl ?_
      refine AE ⟨U,?_⟩
      exact AD (AF (L:=[(1,(i64 p1)),(4,(.ptr 2 0 0 0)),(6,(.ptr 3 0 0 0)),(27,(.ptr 0 0 (Int.toNat (Sh.w (p1 - 1000))) 0)),(34,(.ptr 6 0 (Int.toNat (Sh.w (p1 - 1000))) 0))]) ⟨.rfl,.rfl,.rfl,.rfl,.rfl,trivial⟩) (AG (by kernel_rfl) ((hA24 _ _ _).1 A24_012345789abc)) rfl)
    have A24_012345789a:A24 5 #[true,true,true,true,true,true,false,true,true,true,true,false,false,false,false] ⟨42,AM [(1,(i64 p1)),(4,(.ptr 2 0 0 0)),(6,(.ptr 3 0 0 0)),(27,(.ptr 0 0 (Int.toNat (Sh.w (p1 - 1000))) 0)),(31,(ow 6 0 q22)),(32,(i64 p1))],[(ro 0 30 3 AA s0),(ro 0 3 1 eI s1),⟨0,26,2,[[.zc,.zc]]⟩,⟨0,26,2,[[(ow 4 0 q9.cells),(ow 5 0 q9.pending)]]⟩,(ro 0 30 3 AA q9.cells),(ro 0 3 1 eI q9.pending),(ro 0 3 1 eI q22)]⟩:=(hA24 _ _ _).2 (by
     refine AJ [6,11] U (by kernel_rfl) (by decide) ⟨?_,?_,trivial⟩
     ·refine AH (i:=6) rfl U (by rfl) ?_
      refine zz (i64 c20.count) (Aw CM U U (Am gc20) rfl) rfl ?_
      refine AE ⟨U,?_⟩
      exact AD (AF (L:=[(1,(i64 p1)),(4,(.ptr 2 0 0 0)),(6,(.ptr 3 0 0 0)),(28,(i64 c20.count)),(31,(ow 6 0 q22)),(32,(i64 p1))]) ⟨.rfl,.rfl,.rfl,.rfl,.rfl,.rfl,trivial⟩) (AG (by kernel_rfl) ((hA24 _ _ _).1 A24_0123456789a)) rfl
     ·refine AH (i:=11) rfl U (by rfl) ?_
      refine zq tb U ?_
      refine AE ⟨U,?_⟩
      exact AD (AF (L:=[(1,(i64 p1)),(4,(.ptr 2 0 0 0)),(6,(.ptr 3 0 0 0)),(27,(.ptr 0 0 (Int.toNat (Sh.w (p1 - 1000))) 0)),(31,(ow 6 0 q22)),(33,(i64 (Sh.w (p1 - 1000))))]) ⟨.rfl,.rfl,.rfl,.rfl,.rfl,.rfl,trivial⟩) (AG (by kernel_rfl) ((hA24 _ _ _).1 A24_012345789ab)) rfl)
    have A24_01234578ab:A24 5 #[true,true,true,true,true,true,false,true,true,false,true,true,false,false,false] ⟨42,AM [(1,(i64 p1)),(4,(.ptr 2 0 0 0)),(6,(.ptr 3 0 0 0)),(27,(.ptr 0 0 (Int.toNat (Sh.w (p1 - 1000))) 0)),(30,(ow 6 0 q21)),(33,(i64 (Sh.w (p1 - 1000))))],[(ro 0 30 3 AA s0),(ro 0 3 1 eI s1),⟨0,26,2,[[.zc,.zc]]⟩,⟨0,26,2,[[(ow 4 0 q9.cells),(ow 5 0 q9.pending)]]⟩,(ro 0 30 3 AA q9.cells),(ro 0 3 1 eI q9.pending),(ro 0 30 3 AA q21)]⟩:=(hA24 _ _ _).2 (by
     refine AJ [6,9] U (by kernel_rfl) (by decide) ⟨?_,?_,trivial⟩
     ·refine AH (i:=6) rfl U (by rfl) ?_
      refine zz (i64 c20.count) (Aw CM U U (Am gc20) rfl) rfl ?_
      refine AE ⟨U,?_⟩
      exact AD (AF (L:=[(1,(i64 p1)),(4,(.ptr 2 0 0 0)),(6,(.ptr 3 0 0 0)),(28,(i64 c20.count)),(30,(ow 6 0 q21)),(33,(i64 (Sh.w (p1 - 1000))))]) ⟨.rfl,.rfl,.rfl,.rfl,.rfl,.rfl,trivial⟩) (AG (by kernel_rfl) ((hA24 _ _ _).1 A24_012345678ab)) rfl
     ·refine AH (i:=9) rfl U (by rfl) ?_
      refine Af (Wk.A2 (L:=[(1,(i64 p1)),(4,(.ptr 2 0 0 0)),(6,(.ptr 3 0 0 0)),(27,(.ptr 0 0 (Int.toNat (Sh.w (p1 - 1000))) 0)),(30,(ls AA q21)),(33,(i64 (Sh.w (p1 - 1000))))]) (st':=[(ro 0 30 3 AA s0),(ro 0 3 1 eI s1),⟨0,26,2,[[.zc,.zc]]⟩,⟨0,26,2,[[(ow 4 0 q9.cells),(ow 5 0 q9.pending)]]⟩,(ro 0 30 3 AA q9.cells),(ro 0 3 1 eI q9.pending),⟨1,30,3,[]⟩]) (id:=6) rfl (show 2≤6 by decide) (AB fun _=>U) ⟨.rfl,.rfl,.rfl,.rfl,(.A2 U),.rfl,trivial⟩ U) ?_
      refine BJ (v':=(ow 7 0 q22)) (st':=[(ro 0 30 3 AA s0),(ro 0 3 1 eI s1),⟨0,26,2,[[.zc,.zc]]⟩,⟨0,26,2,[[(ow 4 0 q9.cells),(ow 5 0 q9.pending)]]⟩,(ro 0 30 3 AA q9.cells),(ro 0 3 1 eI q9.pending),⟨1,30,3,[]⟩,(ro 0 3 1 eI q22)]) Ae ET (Ax gq22) rfl U ⟨(BD fun _=>U),trivial⟩ U U ?_
      refine AE ⟨U,?_⟩
      exact AD (by refine Wk.trans (AL (L:=[(1,(i64 p1)),(4,(.ptr 2 0 0 0)),(6,(.ptr 3 0 0 0)),(27,(.ptr 0 0 (Int.toNat (Sh.w (p1 - 1000))) 0)),(31,(ow 6 0 q22)),(33,(i64 (Sh.w (p1 - 1000))))]) (st':=[(ro 0 30 3 AA s0),(ro 0 3 1 eI s1),⟨0,26,2,[[.zc,.zc]]⟩,⟨0,26,2,[[(ow 4 0 q9.cells),(ow 5 0 q9.pending)]]⟩,(ro 0 30 3 AA q9.cells),(ro 0 3 1 eI q9.pending),(ro 0 3 1 eI q22)]) (st1:=[(ro 0 30 3 AA s0),(ro 0 3 1 eI s1),⟨0,26,2,[[.zc,.zc]]⟩,⟨0,26,2,[[(ow 4 0 q9.cells),(ow 5 0 q9.pending)]]⟩,(ro 0 30 3 AA q9.cells),(ro 0 3 1 eI q9.pending),(ro 0 3 1 eI q22)]) [0,1,2,3,4,5,7] U (.pure (AB fun _=>U) (.pure (AB fun _=>U) .nil)) (by decide) rfl U (.pure (AB fun _=>U) (.pure (AB fun _=>U) (.raw U U (.raw U U (.pure (AB fun _=>U) (.pure (AB fun _=>U) (.pure (AB fun _=>U) .nil))))))) ⟨.rfl,.rfl,.rfl,.rfl,.rfl,.rfl,trivial⟩) ?_;exact AF (L:=[(1,(i64 p1)),(4,(.ptr 2 0 0 0)),(6,(.ptr 3 0 0 0)),(27,(.ptr 0 0 (Int.toNat (Sh.w (p1 - 1000))) 0)),(31,(ow 6 0 q22)),(33,(i64 (Sh.w (p1 - 1000))))]) ⟨.rfl,.rfl,.rfl,.rfl,.rfl,.rfl,trivial⟩) (AG (by kernel_rfl) ((hA24 _ _ _).1 A24_012345789ab)) rfl)
    have A24_01234578a:A24 6 #[true,true,true,true,true,true,false,true,true,false,true,false,false,false,false] ⟨42,AM [(1,(i64 p1)),(4,(.ptr 2 0 0 0)),(6,(.ptr 3 0 0 0)),(27,(.ptr 0 0 (Int.toNat (Sh.w (p1 - 1000))) 0)),(30,(ow 6 0 q21)),(32,(i64 p1))],[(ro 0 30 3 AA s0),(ro 0 3 1 eI s1),⟨0,26,2,[[.zc,.zc]]⟩,⟨0,26,2,[[(ow 4 0 q9.cells),(ow 5 0 q9.pending)]]⟩,(ro 0 30 3 AA q9.cells),(ro 0 3 1 eI q9.pending),(ro 0 30 3 AA q21)]⟩:=(hA24 _ _ _).2 (by
     refine AJ [6,9,11] U (by kernel_rfl) (by decide) ⟨?_,?_,?_,trivial⟩
     ·refine AH (i:=6) rfl U (by rfl) ?_
      refine zz (i64 c20.count) (Aw CM U U (Am gc20) rfl) rfl ?_
      refine AE ⟨U,?_⟩
      exact AD (AF (L:=[(1,(i64 p1)),(4,(.ptr 2 0 0 0)),(6,(.ptr 3 0 0 0)),(28,(i64 c20.count)),(30,(ow 6 0 q21)),(32,(i64 p1))]) ⟨.rfl,.rfl,.rfl,.rfl,.rfl,.rfl,trivial⟩) (AG (by kernel_rfl) ((hA24 _ _ _).1 A24_012345678a)) rfl
     ·refine AH (i:=9) rfl U (by rfl) ?_
      refine Af (Wk.A2 (L:=[(1,(i64 p1)),(4,(.ptr 2 0 0 0)),(6,(.ptr 3 0 0 0)),(27,(.ptr 0 0 (Int.toNat (Sh.w (p1 - 1000))) 0)),(30,(ls AA q21)),(32,(i64 p1))]) (st':=[(ro 0 30 3 AA s0),(ro 0 3 1 eI s1),⟨0,26,2,[[.zc,.zc]]⟩,⟨0,26,2,[[(ow 4 0 q9.cells),(ow 5 0 q9.pending)]]⟩,(ro 0 30 3 AA q9.cells),(ro 0 3 1 eI q9.pending),⟨1,30,3,[]⟩]) (id:=6) rfl (show 2≤6 by decide) (AB fun _=>U) ⟨.rfl,.rfl,.rfl,.rfl,(.A2 U),.rfl,trivial⟩ U) ?_
      refine BJ (v':=(ow 7 0 q22)) (st':=[(ro 0 30 3 AA s0),(ro 0 3 1 eI s1),⟨0,26,2,[[.zc,.zc]]⟩,⟨0,26,2,[[(ow 4 0 q9.cells),(ow 5 0 q9.pending)]]⟩,(ro 0 30 3 AA q9.cells),(ro 0 3 1 eI q9.pending),⟨1,30,3,[]⟩,(ro 0 3 1 eI q22)]) Ae ET (Ax gq22) rfl U ⟨(BD fun _=>U),trivial⟩ U U ?_
      refine AE ⟨U,?_⟩
      exact AD (by refine Wk.trans (AL (L:=[(1,(i64 p1)),(4,(.ptr 2 0 0 0)),(6,(.ptr 3 0 0 0)),(27,(.ptr 0 0 (Int.toNat (Sh.w (p1 - 1000))) 0)),(31,(ow 6 0 q22)),(32,(i64 p1))]) (st':=[(ro 0 30 3 AA s0),(ro 0 3 1 eI s1),⟨0,26,2,[[.zc,.zc]]⟩,⟨0,26,2,[[(ow 4 0 q9.cells),(ow 5 0 q9.pending)]]⟩,(ro 0 30 3 AA q9.cells),(ro 0 3 1 eI q9.pending),(ro 0 3 1 eI q22)]) (st1:=[(ro 0 30 3 AA s0),(ro 0 3 1 eI s1),⟨0,26,2,[[.zc,.zc]]⟩,⟨0,26,2,[[(ow 4 0 q9.cells),(ow 5 0 q9.pending)]]⟩,(ro 0 30 3 AA q9.cells),(ro 0 3 1 eI q9.pending),(ro 0 3 1 eI q22)]) [0,1,2,3,4,5,7] U (.pure (AB fun _=>U) (.pure (AB fun _=>U) .nil)) (by decide) rfl U (.pure (AB fun _=>U) (.pure (AB fun _=>U) (.raw U U (.raw U U (.pure (AB fun _=>U) (.pure (AB fun _=>U) (.pure (AB fun _=>U) .nil))))))) ⟨.rfl,.rfl,.rfl,.rfl,.rfl,.rfl,trivial⟩) ?_;exact AF (L:=[(1,(i64 p1)),(4,(.ptr 2 0 0 0)),(6,(.ptr 3 0 0 0)),(27,(.ptr 0 0 (Int.toNat (Sh.w (p1 - 1000))) 0)),(31,(ow 6 0 q22)),(32,(i64 p1))]) ⟨.rfl,.rfl,.rfl,.rfl,.rfl,.rfl,trivial⟩) (AG (by kernel_rfl) ((hA24 _ _ _).1 A24_012345789a)) rfl
     ·refine AH (i:=11) rfl U (by rfl) ?_
      refine zq tb U ?_
      refine AE ⟨U,?_⟩
      exact AD (AF (L:=[(1,(i64 p1)),(4,(.ptr 2 0 0 0)),(6,(.ptr 3 0 0 0)),(27,(.ptr 0 0 (Int.toNat (Sh.w (p1 - 1000))) 0)),(30,(ow 6 0 q21)),(33,(i64 (Sh.w (p1 - 1000))))]) ⟨.rfl,.rfl,.rfl,.rfl,.rfl,.rfl,trivial⟩) (AG (by kernel_rfl) ((hA24 _ _ _).1 A24_01234578ab)) rfl)
    have A24_0123457ab:A24 6 #[true,true,true,true,true,true,false,true,false,false,true,true,false,false,false] ⟨42,AM [(1,(i64 p1)),(4,(.ptr 2 0 0 0)),(6,(.ptr 3 0 0 0)),(27,(.ptr 0 0 (Int.toNat (Sh.w (p1 - 1000))) 0)),(29,(.agg [(ow 0 0 s0),(ow 1 0 s1)])),(33,(i64 (Sh.w (p1 - 1000))))],[(ro 0 30 3 AA s0),(ro 0 3 1 eI s1),⟨0,26,2,[[.zc,.zc]]⟩,⟨0,26,2,[[(ow 4 0 q9.cells),(ow 5 0 q9.pending)]]⟩,(ro 0 30 3 AA q9.cells),(ro 0 3 1 eI q9.pending)]⟩:=(hA24 _ _ _).2 (by
     refine AJ [6,8] U (by kernel_rfl) (by decide) ⟨?_,?_,trivial⟩
     ·refine AH (i:=6) rfl U (by rfl) ?_
      refine zz (i64 c20.count) (Aw CM U U (Am gc20) rfl) rfl ?_
      refine AE ⟨U,?_⟩
      exact AD (AF (L:=[(1,(i64 p1)),(4,(.ptr 2 0 0 0)),(6,(.ptr 3 0 0 0)),(28,(i64 c20.count)),(29,(.agg [(ow 0 0 s0),(ow 1 0 s1)])),(33,(i64 (Sh.w (p1 - 1000))))]) ⟨.rfl,.rfl,.rfl,.rfl,.rfl,.rfl,trivial⟩) (AG (by kernel_rfl) ((hA24 _ _ _).1 A24_01234567ab)) rfl
     ·refine AH (i:=8) rfl U (by rfl) ?_
      refine Ad (rowsP:=[(ro 0 30 3 AA s0),(ro 0 3 1 eI s1)]) (rows0:=[(ro 0 30 3 AA s0),(ro 0 3 1 eI s1)]) (rows1:=[(ro 0 30 3 AA s0),(ro 0 3 1 eI s1)]) (rows2:=[(ro 0 30 3 AA q21)]) (rows1':=[(ro 0 30 3 AA s0),(ro 0 3 1 eI s1)]) (rows2':=[(ro 0 30 3 AA q21)]) (st':=[(ro 0 30 3 AA s0),(ro 0 3 1 eI s1),⟨0,26,2,[[.zc,.zc]]⟩,⟨0,26,2,[[(ow 4 0 q9.cells),(ow 5 0 q9.pending)]]⟩,(ro 0 30 3 AA q9.cells),(ro 0 3 1 eI q9.pending),(ro 0 30 3 AA q21)]) (v':=(ow 6 0 q21)) [0,1] Ae Ep (Az gq21) rfl (by decide) rfl U (.pure (AB fun _=>U) (.pure (AB fun _=>U) .nil)) rfl U (.pure (AB fun _=>U) (.pure (AB fun _=>U) .nil)) (.pure (AB fun _=>U) .nil) rfl U ?_
      refine AE ⟨U,?_⟩
      exact AD (AF (L:=[(1,(i64 p1)),(4,(.ptr 2 0 0 0)),(6,(.ptr 3 0 0 0)),(27,(.ptr 0 0 (Int.toNat (Sh.w (p1 - 1000))) 0)),(30,(ow 6 0 q21)),(33,(i64 (Sh.w (p1 - 1000))))]) ⟨.rfl,.rfl,.rfl,.rfl,.rfl,.rfl,trivial⟩) (AG (by kernel_rfl) ((hA24 _ _ _).1 A24_01234578ab)) rfl)
    have A24_0123457a:A24 7 #[true,true,true,true,true,true,false,true,false,false,true,false,false,false,false] ⟨42,AM [(1,(i64 p1)),(4,(.ptr 2 0 0 0)),(6,(.ptr 3 0 0 0)),(27,(.ptr 0 0 (Int.toNat (Sh.w (p1 - 1000))) 0)),(29,(.agg [(ow 0 0 s0),(ow 1 0 s1)])),(32,(i64 p1))],[(ro 0 30 3 AA s0),(ro 0 3 1 eI s1),⟨0,26,2,[[.zc,.zc]]⟩,⟨0,26,2,[[(ow 4 0 q9.cells),(ow 5 0 q9.pending)]]⟩,(ro 0 30 3 AA q9.cells),(ro 0 3 1 eI q9.pending)]⟩:=(hA24 _ _ _).2 (by
     refine AJ [6,8,11] U (by kernel_rfl) (by decide) ⟨?_,?_,?_,trivial⟩
     ·refine AH (i:=6) rfl U (by rfl) ?_
      refine zz (i64 c20.count) (Aw CM U U (Am gc20) rfl) rfl ?_
      refine AE ⟨U,?_⟩
      exact AD (AF (L:=[(1,(i64 p1)),(4,(.ptr 2 0 0 0)),(6,(.ptr 3 0 0 0)),(28,(i64 c20.count)),(29,(.agg [(ow 0 0 s0),(ow 1 0 s1)])),(32,(i64 p1))]) ⟨.rfl,.rfl,.rfl,.rfl,.rfl,.rfl,trivial⟩) (AG (by kernel_rfl) ((hA24 _ _ _).1 A24_01234567a)) rfl
     ·refine AH (i:=8) rfl U (by rfl) ?_
      refine Ad (rowsP:=[(ro 0 30 3 AA s0),(ro 0 3 1 eI s1)]) (rows0:=[(ro 0 30 3 AA s0),(ro 0 3 1 eI s1)]) (rows1:=[(ro 0 30 3 AA s0),(ro 0 3 1 eI s1)]) (rows2:=[(ro 0 30 3 AA q21)]) (rows1':=[(ro 0 30 3 AA s0),(ro 0 3 1 eI s1)]) (rows2':=[(ro 0 30 3 AA q21)]) (st':=[(ro 0 30 3 AA s0),(ro 0 3 1 eI s1),⟨0,26,2,[[.zc,.zc]]⟩,⟨0,26,2,[[(ow 4 0 q9.cells),(ow 5 0 q9.pending)]]⟩,(ro 0 30 3 AA q9.cells),(ro 0 3 1 eI q9.pending),(ro 0 30 3 AA q21)]) (v':=(ow 6 0 q21)) [0,1] Ae Ep (Az gq21) rfl (by decide) rfl U (.pure (AB fun _=>U) (.pure (AB fun _=>U) .nil)) rfl U (.pure (AB fun _=>U) (.pure (AB fun _=>U) .nil)) (.pure (AB fun _=>U) .nil) rfl U ?_
      refine AE ⟨U,?_⟩
      exact AD (AF (L:=[(1,(i64 p1)),(4,(.ptr 2 0 0 0)),(6,(.ptr 3 0 0 0)),(27,(.ptr 0 0 (Int.toNat (Sh.w (p1 - 1000))) 0)),(30,(ow 6 0 q21)),(32,(i64 p1))]) ⟨.rfl,.rfl,.rfl,.rfl,.rfl,.rfl,trivial⟩) (AG (by kernel_rfl) ((hA24 _ _ _).1 A24_01234578a)) rfl
     ·refine AH (i:=11) rfl U (by rfl) ?_
      refine zq tb U ?_
      refine AE ⟨U,?_⟩
      exact AD (AF (L:=[(1,(i64 p1)),(4,(.ptr 2 0 0 0)),(6,(.ptr 3 0 0 0)),(27,(.ptr 0 0 (Int.toNat (Sh.w (p1 - 1000))) 0)),(29,(.agg [(ow 0 0 s0),(ow 1 0 s1)])),(33,(i64 (Sh.w (p1 - 1000))))]) ⟨.rfl,.rfl,.rfl,.rfl,.rfl,.rfl,trivial⟩) (AG (by kernel_rfl) ((hA24 _ _ _).1 A24_0123457ab)) rfl)
    have A24_012345ab:A24 7 #[true,true,true,true,true,true,false,false,false,false,true,true,false,false,false] ⟨42,AM [(1,(i64 p1)),(2,(.ptr 2 0 0 0)),(4,(.ptr 3 0 0 0)),(6,(.ptr 4 0 0 0)),(27,(.ptr 0 0 (Int.toNat (Sh.w (p1 - 1000))) 0)),(33,(i64 (Sh.w (p1 - 1000))))],[(ro 0 30 3 AA s0),(ro 0 3 1 eI s1),⟨0,26,2,[[(ow 0 0 s0),(ow 1 0 s1)]]⟩,⟨0,26,2,[[.zc,.zc]]⟩,⟨0,26,2,[[(ow 5 0 q9.cells),(ow 6 0 q9.pending)]]⟩,(ro 0 30 3 AA q9.cells),(ro 0 3 1 eI q9.pending)]⟩:=(hA24 _ _ _).2 (by
     refine AJ [6,7] U (by kernel_rfl) (by decide) ⟨?_,?_,trivial⟩
     ·refine AH (i:=6) rfl U (by rfl) ?_
      refine zz (i64 c20.count) (Aw CM U U (Am gc20) rfl) rfl ?_
      refine AE ⟨U,?_⟩
      exact AD (AF (L:=[(1,(i64 p1)),(2,(.ptr 2 0 0 0)),(4,(.ptr 3 0 0 0)),(6,(.ptr 4 0 0 0)),(28,(i64 c20.count)),(33,(i64 (Sh.w (p1 - 1000))))]) ⟨.rfl,.rfl,.rfl,.rfl,.rfl,.rfl,trivial⟩) (AG (by kernel_rfl) ((hA24 _ _ _).1 A24_0123456ab)) rfl
     ·refine AH (i:=7) rfl U (by rfl) ?_
      refine zq tb U ?_
      refine AE ⟨U,?_⟩
      exact AD (by refine Wk.trans (AL (L:=[(1,(i64 p1)),(4,(.ptr 2 0 0 0)),(6,(.ptr 3 0 0 0)),(27,(.ptr 0 0 (Int.toNat (Sh.w (p1 - 1000))) 0)),(29,(.agg [(ow 0 0 s0),(ow 1 0 s1)])),(33,(i64 (Sh.w (p1 - 1000))))]) (st':=[(ro 0 30 3 AA s0),(ro 0 3 1 eI s1),⟨0,26,2,[[.zc,.zc]]⟩,⟨0,26,2,[[(ow 4 0 q9.cells),(ow 5 0 q9.pending)]]⟩,(ro 0 30 3 AA q9.cells),(ro 0 3 1 eI q9.pending)]) (st1:=[(ro 0 30 3 AA s0),(ro 0 3 1 eI s1),⟨0,26,2,[[.zc,.zc]]⟩,⟨0,26,2,[[(ow 5 0 q9.cells),(ow 6 0 q9.pending)]]⟩,(ro 0 30 3 AA q9.cells),(ro 0 3 1 eI q9.pending)]) [0,1,3,4,5,6] U (.pure (AB fun _=>U) (.pure (AB fun _=>U) .nil)) (by decide) rfl U (.pure (AB fun _=>U) (.pure (AB fun _=>U) (.raw U U (.raw U U (.pure (AB fun _=>U) (.pure (AB fun _=>U) .nil)))))) ⟨.rfl,.rfl,.rfl,.rfl,.rfl,.rfl,trivial⟩) ?_;exact AF (L:=[(1,(i64 p1)),(4,(.ptr 2 0 0 0)),(6,(.ptr 3 0 0 0)),(27,(.ptr 0 0 (Int.toNat (Sh.w (p1 - 1000))) 0)),(29,(.agg [(ow 0 0 s0),(ow 1 0 s1)])),(33,(i64 (Sh.w (p1 - 1000))))]) ⟨.rfl,.rfl,.rfl,.rfl,.rfl,.rfl,trivial⟩) (AG (by kernel_rfl) ((hA24 _ _ _).1 A24_0123457ab)) rfl)
    have A24_012345a:A24 8 #[true,true,true,true,true,true,false,false,false,false,true,false,false,false,false] ⟨42,AM [(1,(i64 p1)),(2,(.ptr 2 0 0 0)),(4,(.ptr 3 0 0 0)),(6,(.ptr 4 0 0 0)),(27,(.ptr 0 0 (Int.toNat (Sh.w (p1 - 1000))) 0)),(32,(i64 p1))],[(ro 0 30 3 AA s0),(ro 0 3 1 eI s1),⟨0,26,2,[[(ow 0 0 s0),(ow 1 0 s1)]]⟩,⟨0,26,2,[[.zc,.zc]]⟩,⟨0,26,2,[[(ow 5 0 q9.cells),(ow 6 0 q9.pending)]]⟩,(ro 0 30 3 AA q9.cells),(ro 0 3 1 eI q9.pending)]⟩:=(hA24 _ _ _).2 (by
     refine AJ [6,7,11] U (by kernel_rfl) (by decide) ⟨?_,?_,?_,trivial⟩
     ·refine AH (i:=6) rfl U (by rfl) ?_
      refine zz (i64 c20.count) (Aw CM U U (Am gc20) rfl) rfl ?_
      refine AE ⟨U,?_⟩
      exact AD (AF (L:=[(1,(i64 p1)),(2,(.ptr 2 0 0 0)),(4,(.ptr 3 0 0 0)),(6,(.ptr 4 0 0 0)),(28,(i64 c20.count)),(32,(i64 p1))]) ⟨.rfl,.rfl,.rfl,.rfl,.rfl,.rfl,trivial⟩) (AG (by kernel_rfl) ((hA24 _ _ _).1 A24_0123456a)) rfl
     ·refine AH (i:=7) rfl U (by rfl) ?_
      refine zq tb U ?_
      refine AE ⟨U,?_⟩
      exact AD (by refine Wk.trans (AL (L:=[(1,(i64 p1)),(4,(.ptr 2 0 0 0)),(6,(.ptr 3 0 0 0)),(27,(.ptr 0 0 (Int.toNat (Sh.w (p1 - 1000))) 0)),(29,(.agg [(ow 0 0 s0),(ow 1 0 s1)])),(32,(i64 p1))]) (st':=[(ro 0 30 3 AA s0),(ro 0 3 1 eI s1),⟨0,26,2,[[.zc,.zc]]⟩,⟨0,26,2,[[(ow 4 0 q9.cells),(ow 5 0 q9.pending)]]⟩,(ro 0 30 3 AA q9.cells),(ro 0 3 1 eI q9.pending)]) (st1:=[(ro 0 30 3 AA s0),(ro 0 3 1 eI s1),⟨0,26,2,[[.zc,.zc]]⟩,⟨0,26,2,[[(ow 5 0 q9.cells),(ow 6 0 q9.pending)]]⟩,(ro 0 30 3 AA q9.cells),(ro 0 3 1 eI q9.pending)]) [0,1,3,4,5,6] U (.pure (AB fun _=>U) (.pure (AB fun _=>U) .nil)) (by decide) rfl U (.pure (AB fun _=>U) (.pure (AB fun _=>U) (.raw U U (.raw U U (.pure (AB fun _=>U) (.pure (AB fun _=>U) .nil)))))) ⟨.rfl,.rfl,.rfl,.rfl,.rfl,.rfl,trivial⟩) ?_;exact AF (L:=[(1,(i64 p1)),(4,(.ptr 2 0 0 0)),(6,(.ptr 3 0 0 0)),(27,(.ptr 0 0 (Int.toNat (Sh.w (p1 - 1000))) 0)),(29,(.agg [(ow 0 0 s0),(ow 1 0 s1)])),(32,(i64 p1))]) ⟨.rfl,.rfl,.rfl,.rfl,.rfl,.rfl,trivial⟩) (AG (by kernel_rfl) ((hA24 _ _ _).1 A24_0123457a)) rfl
     ·refine AH (i:=11) rfl U (by rfl) ?_
      refine zq tb U ?_
      refine AE ⟨U,?_⟩
      exact AD (AF (L:=[(1,(i64 p1)),(2,(.ptr 2 0 0 0)),(4,(.ptr 3 0 0 0)),(6,(.ptr 4 0 0 0)),(27,(.ptr 0 0 (Int.toNat (Sh.w (p1 - 1000))) 0)),(33,(i64 (Sh.w (p1 - 1000))))]) ⟨.rfl,.rfl,.rfl,.rfl,.rfl,.rfl,trivial⟩) (AG (by kernel_rfl) ((hA24 _ _ _).1 A24_012345ab)) rfl)
    have A24_01234789abcd:A24 3 #[true,true,true,true,true,false,false,true,true,true,true,true,true,true,false] ⟨42,AM [(1,(i64 p1)),(4,(.ptr 2 0 0 0)),(6,(.ptr 3 0 0 0)),(26,(.ptr 0 0 (Int.toNat (Sh.w (p1 - 1000))) 0)),(35,(i64 c23))],[(ro 0 30 3 AA s0),(ro 0 3 1 eI s1),⟨0,26,2,[[.zc,.zc]]⟩,⟨0,26,2,[[(ow 4 0 q9.cells),(ow 5 0 q9.pending)]]⟩,(ro 0 30 3 AA q9.cells),(ro 0 3 1 eI q9.pending)]⟩:=(hA24 _ _ _).2 (by
     refine AJ [5] U (by kernel_rfl) (by decide) ⟨?_,trivial⟩
     ·refine AH (i:=5) rfl U (by rfl) ?_
      refine zq tb U ?_
      refine AE ⟨U,?_⟩
      exact AD (AF (L:=[(1,(i64 p1)),(4,(.ptr 2 0 0 0)),(6,(.ptr 3 0 0 0)),(27,(.ptr 0 0 (Int.toNat (Sh.w (p1 - 1000))) 0)),(35,(i64 c23))]) ⟨.rfl,.rfl,.rfl,.rfl,.rfl,trivial⟩) (AG (by kernel_rfl) ((hA24 _ _ _).1 A24_012345789abcd)) rfl)
    have A24_01234789abc:A24 4 #[true,true,true,true,true,false,false,true,true,true,true,true,true,false,false] ⟨42,AM [(1,(i64 p1)),(4,(.ptr 2 0 0 0)),(6,(.ptr 3 0 0 0)),(26,(.ptr 0 0 (Int.toNat (Sh.w (p1 - 1000))) 0)),(34,(.ptr 6 0 (Int.toNat (Sh.w (p1 - 1000))) 0))],[(ro 0 30 3 AA s0),(ro 0 3 1 eI s1),⟨0,26,2,[[.zc,.zc]]⟩,⟨0,26,2,[[(ow 4 0 q9.cells),(ow 5 0 q9.pending)]]⟩,(ro 0 30 3 AA q9.cells),(ro 0 3 1 eI q9.pending),(ro 0 3 1 eI q22)]⟩:=(hA24 _ _ _).2 (by
     refine AJ [5,13] U (by kernel_rfl) (by decide) ⟨?_,?_,trivial⟩
     ·refine AH (i:=5) rfl U (by rfl) ?_
      refine zq tb U ?_
      refine AE ⟨U,?_⟩
      exact AD (AF (L:=[(1,(i64 p1)),(4,(.ptr 2 0 0 0)),(6,(.ptr 3 0 0 0)),(27,(.ptr 0 0 (Int.toNat (Sh.w (p1 - 1000))) 0)),(34,(.ptr 6 0 (Int.toNat (Sh.w (p1 - 1000))) 0))]) ⟨.rfl,.rfl,.rfl,.rfl,.rfl,trivial⟩) (AG (by kernel_rfl) ((hA24 _ _ _).1 A24_012345789abc)) rfl
     ·refine AH (i:=13) rfl U (by rfl) ?_
      refine zz (i64 c23) (Aw CM U U (Am gc23) rfl) rfl ?_
      refine AE ⟨U,?_⟩
      exact AD (by refine Wk.trans (AL (L:=[(1,(i64 p1)),(4,(.ptr 2 0 0 0)),(6,(.ptr 3 0 0 0)),(26,(.ptr 0 0 (Int.toNat (Sh.w (p1 - 1000))) 0)),(35,(i64 c23))]) (st':=[(ro 0 30 3 AA s0),(ro 0 3 1 eI s1),⟨0,26,2,[[.zc,.zc]]⟩,⟨0,26,2,[[(ow 4 0 q9.cells),(ow 5 0 q9.pending)]]⟩,(ro 0 30 3 AA q9.cells),(ro 0 3 1 eI q9.pending)]) (st1:=[(ro 0 30 3 AA s0),(ro 0 3 1 eI s1),⟨0,26,2,[[.zc,.zc]]⟩,⟨0,26,2,[[(ow 4 0 q9.cells),(ow 5 0 q9.pending)]]⟩,(ro 0 30 3 AA q9.cells),(ro 0 3 1 eI q9.pending)]) [0,1,2,3,4,5] U (.pure (AB fun _=>U) (.pure (AB fun _=>U) .nil)) (by decide) rfl U (.pure (AB fun _=>U) (.pure (AB fun _=>U) (.raw U U (.raw U U (.pure (AB fun _=>U) (.pure (AB fun _=>U) .nil)))))) ⟨.rfl,.rfl,.rfl,.rfl,.rfl,trivial⟩) ?_;exact AF (L:=[(1,(i64 p1)),(4,(.ptr 2 0 0 0)),(6,(.ptr 3 0 0 0)),(26,(.ptr 0 0 (Int.toNat (Sh.w (p1 - 1000))) 0)),(35,(i64 c23))]) ⟨.rfl,.rfl,.rfl,.rfl,.rfl,trivial⟩) (AG (by kernel_rfl) ((hA24 _ _ _).1 A24_01234789abcd)) rfl)
    have A24_01234789ab:A24 5 #[true,true,true,true,true,false,false,true,true,true,true,true,false,false,false] ⟨42,AM [(1,(i64 p1)),(4,(.ptr 2 0 0 0)),(6,(.ptr 3 0 0 0)),(26,(.ptr 0 0 (Int.toNat (Sh.w (p1 - 1000))) 0)),(31,(ow 6 0 q22)),(33,(i64 (Sh.w (p1 - 1000))))],[(ro 0 30 3 AA s0),(ro 0 3 1 eI s1),⟨0,26,2,[[.zc,.zc]]⟩,⟨0,26,2,[[(ow 4 0 q9.cells),(ow 5 0 q9.pending)]]⟩,(ro 0 30 3 AA q9.cells),(ro 0 3 1 eI q9.pending),(ro 0 3 1 eI q22)]⟩:=(hA24 _ _ _).2 (by
     refine AJ [5,12] U (by kernel_rfl) (by decide) ⟨?_,?_,trivial⟩
     ·refine AH (i:=5) rfl U (by rfl) ?_
      refine zq tb U ?_
      refine AE ⟨U,?_⟩
      exact AD (AF (L:=[(1,(i64 p1)),(4,(.ptr 2 0 0 0)),(6,(.ptr 3 0 0 0)),(27,(.ptr 0 0 (Int.toNat (Sh.w (p1 - 1000))) 0)),(31,(ow 6 0 q22)),(33,(i64 (Sh.w (p1 - 1000))))]) ⟨.rfl,.rfl,.rfl,.rfl,.rfl,.rfl,trivial⟩) (AG (by kernel_rfl) ((hA24 _ _ _).1 A24_012345789ab)) rfl
     ·refine AH (i:=12) rfl U (by rfl) ?_
      refine zz (.ptr 6 0 (Int.toNat (Sh.w (p1 - 1000))) 0) (An Av U U U U gc23) rfl ?_
      refine AE ⟨U,?_⟩
      exact AD (AF (L:=[(1,(i64 p1)),(4,(.ptr 2 0 0 0)),(6,(.ptr 3 0 0 0)),(26,(.ptr 0 0 (Int.toNat (Sh.w (p1 - 1000))) 0)),(34,(.ptr 6 0 (Int.toNat (Sh.w (p1 - 1000))) 0))]) ⟨.rfl,.rfl,.rfl,.rfl,.rfl,trivial⟩) (AG (by kernel_rfl) ((hA24 _ _ _).1 A24_01234789abc)) rfl)
    have A24_01234789a:A24 6 #[true,true,true,true,true,false,false,true,true,true,true,false,false,false,false] ⟨42,AM [(1,(i64 p1)),(4,(.ptr 2 0 0 0)),(6,(.ptr 3 0 0 0)),(26,(.ptr 0 0 (Int.toNat (Sh.w (p1 - 1000))) 0)),(31,(ow 6 0 q22)),(32,(i64 p1))],[(ro 0 30 3 AA s0),(ro 0 3 1 eI s1),⟨0,26,2,[[.zc,.zc]]⟩,⟨0,26,2,[[(ow 4 0 q9.cells),(ow 5 0 q9.pending)]]⟩,(ro 0 30 3 AA q9.cells),(ro 0 3 1 eI q9.pending),(ro 0 3 1 eI q22)]⟩:=(hA24 _ _ _).2 (by
     refine AJ [5,11] U (by kernel_rfl) (by decide) ⟨?_,?_,trivial⟩
     ·refine AH (i:=5) rfl U (by rfl) ?_
      refine zq tb U ?_
      refine AE ⟨U,?_⟩
      exact AD (AF (L:=[(1,(i64 p1)),(4,(.ptr 2 0 0 0)),(6,(.ptr 3 0 0 0)),(27,(.ptr 0 0 (Int.toNat (Sh.w (p1 - 1000))) 0)),(31,(ow 6 0 q22)),(32,(i64 p1))]) ⟨.rfl,.rfl,.rfl,.rfl,.rfl,.rfl,trivial⟩) (AG (by kernel_rfl) ((hA24 _ _ _).1 A24_012345789a)) rfl
     ·refine AH (i:=11) rfl U (by rfl) ?_
      refine zq tb U ?_
      refine AE ⟨U,?_⟩
      exact AD (AF (L:=[(1,(i64 p1)),(4,(.ptr 2 0 0 0)),(6,(.ptr 3 0 0 0)),(26,(.ptr 0 0 (Int.toNat (Sh.w (p1 - 1000))) 0)),(31,(ow 6 0 q22)),(33,(i64 (Sh.w (p1 - 1000))))]) ⟨.rfl,.rfl,.rfl,.rfl,.rfl,.rfl,trivial⟩) (AG (by kernel_rfl) ((hA24 _ _ _).1 A24_01234789ab)) rfl)
    have A24_0123478ab:A24 6 #[true,true,true,true,true,false,false,true,true,false,true,true,false,false,false] ⟨42,AM [(1,(i64 p1)),(4,(.ptr 2 0 0 0)),(6,(.ptr 3 0 0 0)),(26,(.ptr 0 0 (Int.toNat (Sh.w (p1 - 1000))) 0)),(30,(ow 6 0 q21)),(33,(i64 (Sh.w (p1 - 1000))))],[(ro 0 30 3 AA s0),(ro 0 3 1 eI s1),⟨0,26,2,[[.zc,.zc]]⟩,⟨0,26,2,[[(ow 4 0 q9.cells),(ow 5 0 q9.pending)]]⟩,(ro 0 30 3 AA q9.cells),(ro 0 3 1 eI q9.pending),(ro 0 30 3 AA q21)]⟩:=(hA24 _ _ _).2 (by
     refine AJ [5,9] U (by kernel_rfl) (by decide) ⟨?_,?_,trivial⟩
     ·refine AH (i:=5) rfl U (by rfl) ?_
      refine zq tb U ?_
      refine AE ⟨U,?_⟩
      exact AD (AF (L:=[(1,(i64 p1)),(4,(.ptr 2 0 0 0)),(6,(.ptr 3 0 0 0)),(27,(.ptr 0 0 (Int.toNat (Sh.w (p1 - 1000))) 0)),(30,(ow 6 0 q21)),(33,(i64 (Sh.w (p1 - 1000))))]) ⟨.rfl,.rfl,.rfl,.rfl,.rfl,.rfl,trivial⟩) (AG (by kernel_rfl) ((hA24 _ _ _).1 A24_01234578ab)) rfl
     ·refine AH (i:=9) rfl U (by rfl) ?_
      refine Af (Wk.A2 (L:=[(1,(i64 p1)),(4,(.ptr 2 0 0 0)),(6,(.ptr 3 0 0 0)),(26,(.ptr 0 0 (Int.toNat (Sh.w (p1 - 1000))) 0)),(30,(ls AA q21)),(33,(i64 (Sh.w (p1 - 1000))))]) (st':=[(ro 0 30 3 AA s0),(ro 0 3 1 eI s1),⟨0,26,2,[[.zc,.zc]]⟩,⟨0,26,2,[[(ow 4 0 q9.cells),(ow 5 0 q9.pending)]]⟩,(ro 0 30 3 AA q9.cells),(ro 0 3 1 eI q9.pending),⟨1,30,3,[]⟩]) (id:=6) rfl (show 2≤6 by decide) (AB fun _=>U) ⟨.rfl,.rfl,.rfl,.rfl,(.A2 U),.rfl,trivial⟩ U) ?_
      refine BJ (v':=(ow 7 0 q22)) (st':=[(ro 0 30 3 AA s0),(ro 0 3 1 eI s1),⟨0,26,2,[[.zc,.zc]]⟩,⟨0,26,2,[[(ow 4 0 q9.cells),(ow 5 0 q9.pending)]]⟩,(ro 0 30 3 AA q9.cells),(ro 0 3 1 eI q9.pending),⟨1,30,3,[]⟩,(ro 0 3 1 eI q22)]) Ae ET (Ax gq22) rfl U ⟨(BD fun _=>U),trivial⟩ U U ?_
      refine AE ⟨U,?_⟩
      exact AD (by refine Wk.trans (AL (L:=[(1,(i64 p1)),(4,(.ptr 2 0 0 0)),(6,(.ptr 3 0 0 0)),(26,(.ptr 0 0 (Int.toNat (Sh.w (p1 - 1000))) 0)),(31,(ow 6 0 q22)),(33,(i64 (Sh.w (p1 - 1000))))]) (st':=[(ro 0 30 3 AA s0),(ro 0 3 1 eI s1),⟨0,26,2,[[.zc,.zc]]⟩,⟨0,26,2,[[(ow 4 0 q9.cells),(ow 5 0 q9.pending)]]⟩,(ro 0 30 3 AA q9.cells),(ro 0 3 1 eI q9.pending),(ro 0 3 1 eI q22)]) (st1:=[(ro 0 30 3 AA s0),(ro 0 3 1 eI s1),⟨0,26,2,[[.zc,.zc]]⟩,⟨0,26,2,[[(ow 4 0 q9.cells),(ow 5 0 q9.pending)]]⟩,(ro 0 30 3 AA q9.cells),(ro 0 3 1 eI q9.pending),(ro 0 3 1 eI q22)]) [0,1,2,3,4,5,7] U (.pure (AB fun _=>U) (.pure (AB fun _=>U) .nil)) (by decide) rfl U (.pure (AB fun _=>U) (.pure (AB fun _=>U) (.raw U U (.raw U U (.pure (AB fun _=>U) (.pure (AB fun _=>U) (.pure (AB fun _=>U) .nil))))))) ⟨.rfl,.rfl,.rfl,.rfl,.rfl,.rfl,trivial⟩) ?_;exact AF (L:=[(1,(i64 p1)),(4,(.ptr 2 0 0 0)),(6,(.ptr 3 0 0 0)),(26,(.ptr 0 0 (Int.toNat (Sh.w (p1 - 1000))) 0)),(31,(ow 6 0 q22)),(33,(i64 (Sh.w (p1 - 1000))))]) ⟨.rfl,.rfl,.rfl,.rfl,.rfl,.rfl,trivial⟩) (AG (by kernel_rfl) ((hA24 _ _ _).1 A24_01234789ab)) rfl)
    have A24_0123478a:A24 7 #[true,true,true,true,true,false,false,true,true,false,true,false,false,false,false] ⟨42,AM [(1,(i64 p1)),(4,(.ptr 2 0 0 0)),(6,(.ptr 3 0 0 0)),(26,(.ptr 0 0 (Int.toNat (Sh.w (p1 - 1000))) 0)),(30,(ow 6 0 q21)),(32,(i64 p1))],[(ro 0 30 3 AA s0),(ro 0 3 1 eI s1),⟨0,26,2,[[.zc,.zc]]⟩,⟨0,26,2,[[(ow 4 0 q9.cells),(ow 5 0 q9.pending)]]⟩,(ro 0 30 3 AA q9.cells),(ro 0 3 1 eI q9.pending),(ro 0 30 3 AA q21)]⟩:=(hA24 _ _ _).2 (by
     refine AJ [5,9,11] U (by kernel_rfl) (by decide) ⟨?_,?_,?_,trivial⟩
     ·refine AH (i:=5) rfl U (by rfl) ?_
      refine zq tb U ?_
      refine AE ⟨U,?_⟩
      exact AD (AF (L:=[(1,(i64 p1)),(4,(.ptr 2 0 0 0)),(6,(.ptr 3 0 0 0)),(27,(.ptr 0 0 (Int.toNat (Sh.w (p1 - 1000))) 0)),(30,(ow 6 0 q21)),(32,(i64 p1))]) ⟨.rfl,.rfl,.rfl,.rfl,.rfl,.rfl,trivial⟩) (AG (by kernel_rfl) ((hA24 _ _ _).1 A24_01234578a)) rfl
     ·refine AH (i:=9) rfl U (by rfl) ?_
      refine Af (Wk.A2 (L:=[(1,(i64 p1)),(4,(.ptr 2 0 0 0)),(6,(.ptr 3 0 0 0)),(26,(.ptr 0 0 (Int.toNat (Sh.w (p1 - 1000))) 0)),(30,(ls AA q21)),(32,(i64 p1))]) (st':=[(ro 0 30 3 AA s0),(ro 0 3 1 eI s1),⟨0,26,2,[[.zc,.zc]]⟩,⟨0,26,2,[[(ow 4 0 q9.cells),(ow 5 0 q9.pending)]]⟩,(ro 0 30 3 AA q9.cells),(ro 0 3 1 eI q9.pending),⟨1,30,3,[]⟩]) (id:=6) rfl (show 2≤6 by decide) (AB fun _=>U) ⟨.rfl,.rfl,.rfl,.rfl,(.A2 U),.rfl,trivial⟩ U) ?_
      refine BJ (v':=(ow 7 0 q22)) (st':=[(ro 0 30 3 AA s0),(ro 0 3 1 eI s1),⟨0,26,2,[[.zc,.zc]]⟩,⟨0,26,2,[[(ow 4 0 q9.cells),(ow 5 0 q9.pending)]]⟩,(ro 0 30 3 AA q9.cells),(ro 0 3 1 eI q9.pending),⟨1,30,3,[]⟩,(ro 0 3 1 eI q22)]) Ae ET (Ax gq22) rfl U ⟨(BD fun _=>U),trivial⟩ U U ?_
      refine AE ⟨U,?_⟩
      exact AD (by refine Wk.trans (AL (L:=[(1,(i64 p1)),(4,(.ptr 2 0 0 0)),(6,(.ptr 3 0 0 0)),(26,(.ptr 0 0 (Int.toNat (Sh.w (p1 - 1000))) 0)),(31,(ow 6 0 q22)),(32,(i64 p1))]) (st':=[(ro 0 30 3 AA s0),(ro 0 3 1 eI s1),⟨0,26,2,[[.zc,.zc]]⟩,⟨0,26,2,[[(ow 4 0 q9.cells),(ow 5 0 q9.pending)]]⟩,(ro 0 30 3 AA q9.cells),(ro 0 3 1 eI q9.pending),(ro 0 3 1 eI q22)]) (st1:=[(ro 0 30 3 AA s0),(ro 0 3 1 eI s1),⟨0,26,2,[[.zc,.zc]]⟩,⟨0,26,2,[[(ow 4 0 q9.cells),(ow 5 0 q9.pending)]]⟩,(ro 0 30 3 AA q9.cells),(ro 0 3 1 eI q9.pending),(ro 0 3 1 eI q22)]) [0,1,2,3,4,5,7] U (.pure (AB fun _=>U) (.pure (AB fun _=>U) .nil)) (by decide) rfl U (.pure (AB fun _=>U) (.pure (AB fun _=>U) (.raw U U (.raw U U (.pure (AB fun _=>U) (.pure (AB fun _=>U) (.pure (AB fun _=>U) .nil))))))) ⟨.rfl,.rfl,.rfl,.rfl,.rfl,.rfl,trivial⟩) ?_;exact AF (L:=[(1,(i64 p1)),(4,(.ptr 2 0 0 0)),(6,(.ptr 3 0 0 0)),(26,(.ptr 0 0 (Int.toNat (Sh.w (p1 - 1000))) 0)),(31,(ow 6 0 q22)),(32,(i64 p1))]) ⟨.rfl,.rfl,.rfl,.rfl,.rfl,.rfl,trivial⟩) (AG (by kernel_rfl) ((hA24 _ _ _).1 A24_01234789a)) rfl
     ·refine AH (i:=11) rfl U (by rfl) ?_
      refine zq tb U ?_
      refine AE ⟨U,?_⟩
      exact AD (AF (L:=[(1,(i64 p1)),(4,(.ptr 2 0 0 0)),(6,(.ptr 3 0 0 0)),(26,(.ptr 0 0 (Int.toNat (Sh.w (p1 - 1000))) 0)),(30,(ow 6 0 q21)),(33,(i64 (Sh.w (p1 - 1000))))]) ⟨.rfl,.rfl,.rfl,.rfl,.rfl,.rfl,trivial⟩) (AG (by kernel_rfl) ((hA24 _ _ _).1 A24_0123478ab)) rfl)
    have A24_012347ab:A24 7 #[true,true,true,true,true,false,false,true,false,false,true,true,false,false,false] ⟨42,AM [(1,(i64 p1)),(4,(.ptr 2 0 0 0)),(6,(.ptr 3 0 0 0)),(26,(.ptr 0 0 (Int.toNat (Sh.w (p1 - 1000))) 0)),(29,(.agg [(ow 0 0 s0),(ow 1 0 s1)])),(33,(i64 (Sh.w (p1 - 1000))))],[(ro 0 30 3 AA s0),(ro 0 3 1 eI s1),⟨0,26,2,[[.zc,.zc]]⟩,⟨0,26,2,[[(ow 4 0 q9.cells),(ow 5 0 q9.pending)]]⟩,(ro 0 30 3 AA q9.cells),(ro 0 3 1 eI q9.pending)]⟩:=(hA24 _ _ _).2 (by
     refine AJ [5,8] U (by kernel_rfl) (by decide) ⟨?_,?_,trivial⟩
     ·refine AH (i:=5) rfl U (by rfl) ?_
      refine zq tb U ?_
      refine AE ⟨U,?_⟩
      exact AD (AF (L:=[(1,(i64 p1)),(4,(.ptr 2 0 0 0)),(6,(.ptr 3 0 0 0)),(27,(.ptr 0 0 (Int.toNat (Sh.w (p1 - 1000))) 0)),(29,(.agg [(ow 0 0 s0),(ow 1 0 s1)])),(33,(i64 (Sh.w (p1 - 1000))))]) ⟨.rfl,.rfl,.rfl,.rfl,.rfl,.rfl,trivial⟩) (AG (by kernel_rfl) ((hA24 _ _ _).1 A24_0123457ab)) rfl
     ·refine AH (i:=8) rfl U (by rfl) ?_
      refine Ad (rowsP:=[(ro 0 30 3 AA s0),(ro 0 3 1 eI s1)]) (rows0:=[(ro 0 30 3 AA s0),(ro 0 3 1 eI s1)]) (rows1:=[(ro 0 30 3 AA s0),(ro 0 3 1 eI s1)]) (rows2:=[(ro 0 30 3 AA q21)]) (rows1':=[(ro 0 30 3 AA s0),(ro 0 3 1 eI s1)]) (rows2':=[(ro 0 30 3 AA q21)]) (st':=[(ro 0 30 3 AA s0),(ro 0 3 1 eI s1),⟨0,26,2,[[.zc,.zc]]⟩,⟨0,26,2,[[(ow 4 0 q9.cells),(ow 5 0 q9.pending)]]⟩,(ro 0 30 3 AA q9.cells),(ro 0 3 1 eI q9.pending),(ro 0 30 3 AA q21)]) (v':=(ow 6 0 q21)) [0,1] Ae Ep (Az gq21) rfl (by decide) rfl U (.pure (AB fun _=>U) (.pure (AB fun _=>U) .nil)) rfl U (.pure (AB fun _=>U) (.pure (AB fun _=>U) .nil)) (.pure (AB fun _=>U) .nil) rfl U ?_
      refine AE ⟨U,?_⟩
      exact AD (AF (L:=[(1,(i64 p1)),(4,(.ptr 2 0 0 0)),(6,(.ptr 3 0 0 0)),(26,(.ptr 0 0 (Int.toNat (Sh.w (p1 - 1000))) 0)),(30,(ow 6 0 q21)),(33,(i64 (Sh.w (p1 - 1000))))]) ⟨.rfl,.rfl,.rfl,.rfl,.rfl,.rfl,trivial⟩) (AG (by kernel_rfl) ((hA24 _ _ _).1 A24_0123478ab)) rfl)
    have A24_012347a:A24 8 #[true,true,true,true,true,false,false,true,false,false,true,false,false,false,false] ⟨42,AM [(1,(i64 p1)),(4,(.ptr 2 0 0 0)),(6,(.ptr 3 0 0 0)),(26,(.ptr 0 0 (Int.toNat (Sh.w (p1 - 1000))) 0)),(29,(.agg [(ow 0 0 s0),(ow 1 0 s1)])),(32,(i64 p1))],[(ro 0 30 3 AA s0),(ro 0 3 1 eI s1),⟨0,26,2,[[.zc,.zc]]⟩,⟨0,26,2,[[(ow 4 0 q9.cells),(ow 5 0 q9.pending)]]⟩,(ro 0 30 3 AA q9.cells),(ro 0 3 1 eI q9.pending)]⟩:=(hA24 _ _ _).2 (by
     refine AJ [5,8,11] U (by kernel_rfl) (by decide) ⟨?_,?_,?_,trivial⟩
     ·refine AH (i:=5) rfl U (by rfl) ?_
      refine zq tb U ?_
      refine AE ⟨U,?_⟩
      exact AD (AF (L:=[(1,(i64 p1)),(4,(.ptr 2 0 0 0)),(6,(.ptr 3 0 0 0)),(27,(.ptr 0 0 (Int.toNat (Sh.w (p1 - 1000))) 0)),(29,(.agg [(ow 0 0 s0),(ow 1 0 s1)])),(32,(i64 p1))]) ⟨.rfl,.rfl,.rfl,.rfl,.rfl,.rfl,trivial⟩) (AG (by kernel_rfl) ((hA24 _ _ _).1 A24_0123457a)) rfl
     ·refine AH (i:=8) rfl U (by rfl) ?_
      refine Ad (rowsP:=[(ro 0 30 3 AA s0),(ro 0 3 1 eI s1)]) (rows0:=[(ro 0 30 3 AA s0),(ro 0 3 1 eI s1)]) (rows1:=[(ro 0 30 3 AA s0),(ro 0 3 1 eI s1)]) (rows2:=[(ro 0 30 3 AA q21)]) (rows1':=[(ro 0 30 3 AA s0),(ro 0 3 1 eI s1)]) (rows2':=[(ro 0 30 3 AA q21)]) (st':=[(ro 0 30 3 AA s0),(ro 0 3 1 eI s1),⟨0,26,2,[[.zc,.zc]]⟩,⟨0,26,2,[[(ow 4 0 q9.cells),(ow 5 0 q9.pending)]]⟩,(ro 0 30 3 AA q9.cells),(ro 0 3 1 eI q9.pending),(ro 0 30 3 AA q21)]) (v':=(ow 6 0 q21)) [0,1] Ae Ep (Az gq21) rfl (by decide) rfl U (.pure (AB fun _=>U) (.pure (AB fun _=>U) .nil)) rfl U (.pure (AB fun _=>U) (.pure (AB fun _=>U) .nil)) (.pure (AB fun _=>U) .nil) rfl U ?_
      refine AE ⟨U,?_⟩
      exact AD (AF (L:=[(1,(i64 p1)),(4,(.ptr 2 0 0 0)),(6,(.ptr 3 0 0 0)),(26,(.ptr 0 0 (Int.toNat (Sh.w (p1 - 1000))) 0)),(30,(ow 6 0 q21)),(32,(i64 p1))]) ⟨.rfl,.rfl,.rfl,.rfl,.rfl,.rfl,trivial⟩) (AG (by kernel_rfl) ((hA24 _ _ _).1 A24_0123478a)) rfl
     ·refine AH (i:=11) rfl U (by rfl) ?_
      refine zq tb U ?_
      refine AE ⟨U,?_⟩
      exact AD (AF (L:=[(1,(i64 p1)),(4,(.ptr 2 0 0 0)),(6,(.ptr 3 0 0 0)),(26,(.ptr 0 0 (Int.toNat (Sh.w (p1 - 1000))) 0)),(29,(.agg [(ow 0 0 s0),(ow 1 0 s1)])),(33,(i64 (Sh.w (p1 - 1000))))]) ⟨.rfl,.rfl,.rfl,.rfl,.rfl,.rfl,trivial⟩) (AG (by kernel_rfl) ((hA24 _ _ _).1 A24_012347ab)) rfl)
    have A24_01234ab:A24 8 #[true,true,true,true,true,false,false,false,false,false,true,true,false,false,false] ⟨42,AM [(1,(i64 p1)),(2,(.ptr 2 0 0 0)),(4,(.ptr 3 0 0 0)),(6,(.ptr 4 0 0 0)),(26,(.ptr 0 0 (Int.toNat (Sh.w (p1 - 1000))) 0)),(33,(i64 (Sh.w (p1 - 1000))))],[(ro 0 30 3 AA s0),(ro 0 3 1 eI s1),⟨0,26,2,[[(ow 0 0 s0),(ow 1 0 s1)]]⟩,⟨0,26,2,[[.zc,.zc]]⟩,⟨0,26,2,[[(ow 5 0 q9.cells),(ow 6 0 q9.pending)]]⟩,(ro 0 30 3 AA q9.cells),(ro 0 3 1 eI q9.pending)]⟩:=(hA24 _ _ _).2 (by
     refine AJ [5,7] U (by kernel_rfl) (by decide) ⟨?_,?_,trivial⟩
     ·refine AH (i:=5) rfl U (by rfl) ?_
      refine zq tb U ?_
      refine AE ⟨U,?_⟩
      exact AD (AF (L:=[(1,(i64 p1)),(2,(.ptr 2 0 0 0)),(4,(.ptr 3 0 0 0)),(6,(.ptr 4 0 0 0)),(27,(.ptr 0 0 (Int.toNat (Sh.w (p1 - 1000))) 0)),(33,(i64 (Sh.w (p1 - 1000))))]) ⟨.rfl,.rfl,.rfl,.rfl,.rfl,.rfl,trivial⟩) (AG (by kernel_rfl) ((hA24 _ _ _).1 A24_012345ab)) rfl
     ·refine AH (i:=7) rfl U (by rfl) ?_
      refine zq tb U ?_
      refine AE ⟨U,?_⟩
      exact AD (by refine Wk.trans (AL (L:=[(1,(i64 p1)),(4,(.ptr 2 0 0 0)),(6,(.ptr 3 0 0 0)),(26,(.ptr 0 0 (Int.toNat (Sh.w (p1 - 1000))) 0)),(29,(.agg [(ow 0 0 s0),(ow 1 0 s1)])),(33,(i64 (Sh.w (p1 - 1000))))]) (st':=[(ro 0 30 3 AA s0),(ro 0 3 1 eI s1),⟨0,26,2,[[.zc,.zc]]⟩,⟨0,26,2,[[(ow 4 0 q9.cells),(ow 5 0 q9.pending)]]⟩,(ro 0 30 3 AA q9.cells),(ro 0 3 1 eI q9.pending)]) (st1:=[(ro 0 30 3 AA s0),(ro 0 3 1 eI s1),⟨0,26,2,[[.zc,.zc]]⟩,⟨0,26,2,[[(ow 5 0 q9.cells),(ow 6 0 q9.pending)]]⟩,(ro 0 30 3 AA q9.cells),(ro 0 3 1 eI q9.pending)]) [0,1,3,4,5,6] U (.pure (AB fun _=>U) (.pure (AB fun _=>U) .nil)) (by decide) rfl U (.pure (AB fun _=>U) (.pure (AB fun _=>U) (.raw U U (.raw U U (.pure (AB fun _=>U) (.pure (AB fun _=>U) .nil)))))) ⟨.rfl,.rfl,.rfl,.rfl,.rfl,.rfl,trivial⟩) ?_;exact AF (L:=[(1,(i64 p1)),(4,(.ptr 2 0 0 0)),(6,(.ptr 3 0 0 0)),(26,(.ptr 0 0 (Int.toNat (Sh.w (p1 - 1000))) 0)),(29,(.agg [(ow 0 0 s0),(ow 1 0 s1)])),(33,(i64 (Sh.w (p1 - 1000))))]) ⟨.rfl,.rfl,.rfl,.rfl,.rfl,.rfl,trivial⟩) (AG (by kernel_rfl) ((hA24 _ _ _).1 A24_012347ab)) rfl)
    have A24_01234a:A24 9 #[true,true,true,true,true,false,false,false,false,false,true,false,false,false,false] ⟨42,AM [(1,(i64 p1)),(2,(.ptr 2 0 0 0)),(4,(.ptr 3 0 0 0)),(6,(.ptr 4 0 0 0)),(26,(.ptr 0 0 (Int.toNat (Sh.w (p1 - 1000))) 0)),(32,(i64 p1))],[(ro 0 30 3 AA s0),(ro 0 3 1 eI s1),⟨0,26,2,[[(ow 0 0 s0),(ow 1 0 s1)]]⟩,⟨0,26,2,[[.zc,.zc]]⟩,⟨0,26,2,[[(ow 5 0 q9.cells),(ow 6 0 q9.pending)]]⟩,(ro 0 30 3 AA q9.cells),(ro 0 3 1 eI q9.pending)]⟩:=(hA24 _ _ _).2 (by
     refine AJ [5,7,11] U (by kernel_rfl) (by decide) ⟨?_,?_,?_,trivial⟩
     ·refine AH (i:=5) rfl U (by rfl) ?_
      refine zq tb U ?_
      refine AE ⟨U,?_⟩
      exact AD (AF (L:=[(1,(i64 p1)),(2,(.ptr 2 0 0 0)),(4,(.ptr 3 0 0 0)),(6,(.ptr 4 0 0 0)),(27,(.ptr 0 0 (Int.toNat (Sh.w (p1 - 1000))) 0)),(32,(i64 p1))]) ⟨.rfl,.rfl,.rfl,.rfl,.rfl,.rfl,trivial⟩) (AG (by kernel_rfl) ((hA24 _ _ _).1 A24_012345a)) rfl
     ·refine AH (i:=7) rfl U (by rfl) ?_
      refine zq tb U ?_
      refine AE ⟨U,?_⟩
      exact AD (by refine Wk.trans (AL (L:=[(1,(i64 p1)),(4,(.ptr 2 0 0 0)),(6,(.ptr 3 0 0 0)),(26,(.ptr 0 0 (Int.toNat (Sh.w (p1 - 1000))) 0)),(29,(.agg [(ow 0 0 s0),(ow 1 0 s1)])),(32,(i64 p1))]) (st':=[(ro 0 30 3 AA s0),(ro 0 3 1 eI s1),⟨0,26,2,[[.zc,.zc]]⟩,⟨0,26,2,[[(ow 4 0 q9.cells),(ow 5 0 q9.pending)]]⟩,(ro 0 30 3 AA q9.cells),(ro 0 3 1 eI q9.pending)]) (st1:=[(ro 0 30 3 AA s0),(ro 0 3 1 eI s1),⟨0,26,2,[[.zc,.zc]]⟩,⟨0,26,2,[[(ow 5 0 q9.cells),(ow 6 0 q9.pending)]]⟩,(ro 0 30 3 AA q9.cells),(ro 0 3 1 eI q9.pending)]) [0,1,3,4,5,6] U (.pure (AB fun _=>U) (.pure (AB fun _=>U) .nil)) (by decide) rfl U (.pure (AB fun _=>U) (.pure (AB fun _=>U) (.raw U U (.raw U U (.pure (AB fun _=>U) (.pure (AB fun _=>U) .nil)))))) ⟨.rfl,.rfl,.rfl,.rfl,.rfl,.rfl,trivial⟩) ?_;exact AF (L:=[(1,(i64 p1)),(4,(.ptr 2 0 0 0)),(6,(.ptr 3 0 0 0)),(26,(.ptr 0 0 (Int.toNat (Sh.w (p1 - 1000))) 0)),(29,(.agg [(ow 0 0 s0),(ow 1 0 s1)])),(32,(i64 p1))]) ⟨.rfl,.rfl,.rfl,.rfl,.rfl,.rfl,trivial⟩) (AG (by kernel_rfl) ((hA24 _ _ _).1 A24_012347a)) rfl
     ·refine AH (i:=11) rfl U (by rfl) ?_
      refine zq tb U ?_
      refine AE ⟨U,?_⟩
      exact AD (AF (L:=[(1,(i64 p1)),(2,(.ptr 2 0 0 0)),(4,(.ptr 3 0 0 0)),(6,(.ptr 4 0 0 0)),(26,(.ptr 0 0 (Int.toNat (Sh.w (p1 - 1000))) 0)),(33,(i64 (Sh.w (p1 - 1000))))]) ⟨.rfl,.rfl,.rfl,.rfl,.rfl,.rfl,trivial⟩) (AG (by kernel_rfl) ((hA24 _ _ _).1 A24_01234ab)) rfl)
    have A24_0123789abcd:A24 4 #[true,true,true,true,false,false,false,true,true,true,true,true,true,true,false] ⟨42,AM [(1,(i64 p1)),(4,(.ptr 2 0 0 0)),(6,(.ptr 3 0 0 0)),(23,(ow 0 0 s0)),(25,(i64 (Sh.w (p1 - 1000)))),(35,(i64 c23))],[(ro 0 30 3 AA s0),(ro 0 3 1 eI s1),⟨0,26,2,[[.zc,.zc]]⟩,⟨0,26,2,[[(ow 4 0 q9.cells),(ow 5 0 q9.pending)]]⟩,(ro 0 30 3 AA q9.cells),(ro 0 3 1 eI q9.pending)]⟩:=(hA24 _ _ _).2 (by
     refine AJ [4] U (by kernel_rfl) (by decide) ⟨?_,trivial⟩
     ·refine AH (i:=4) rfl U (by rfl) ?_
      refine zz (.ptr 0 0 (Int.toNat (Sh.w (p1 - 1000))) 0) (An A3 U U U U gc20) rfl ?_
      refine AE ⟨U,?_⟩
      exact AD (AF (L:=[(1,(i64 p1)),(4,(.ptr 2 0 0 0)),(6,(.ptr 3 0 0 0)),(26,(.ptr 0 0 (Int.toNat (Sh.w (p1 - 1000))) 0)),(35,(i64 c23))]) ⟨.rfl,.rfl,.rfl,.rfl,.rfl,trivial⟩) (AG (by kernel_rfl) ((hA24 _ _ _).1 A24_01234789abcd)) rfl)
    have A24_0123789abc:A24 5 #[true,true,true,true,false,false,false,true,true,true,true,true,true,false,false] ⟨42,AM [(1,(i64 p1)),(4,(.ptr 2 0 0 0)),(6,(.ptr 3 0 0 0)),(23,(ow 0 0 s0)),(25,(i64 (Sh.w (p1 - 1000)))),(34,(.ptr 6 0 (Int.toNat (Sh.w (p1 - 1000))) 0))],[(ro 0 30 3 AA s0),(ro 0 3 1 eI s1),⟨0,26,2,[[.zc,.zc]]⟩,⟨0,26,2,[[(ow 4 0 q9.cells),(ow 5 0 q9.pending)]]⟩,(ro 0 30 3 AA q9.cells),(ro 0 3 1 eI q9.pending),(ro 0 3 1 eI q22)]⟩:=(hA24 _ _ _).2 (by
     refine AJ [4,13] U (by kernel_rfl) (by decide) ⟨?_,?_,trivial⟩
     ·refine AH (i:=4) rfl U (by rfl) ?_
      refine zz (.ptr 0 0 (Int.toNat (Sh.w (p1 - 1000))) 0) (An A3 U U U U gc20) rfl ?_
      refine AE ⟨U,?_⟩
      exact AD (AF (L:=[(1,(i64 p1)),(4,(.ptr 2 0 0 0)),(6,(.ptr 3 0 0 0)),(26,(.ptr 0 0 (Int.toNat (Sh.w (p1 - 1000))) 0)),(34,(.ptr 6 0 (Int.toNat (Sh.w (p1 - 1000))) 0))]) ⟨.rfl,.rfl,.rfl,.rfl,.rfl,trivial⟩) (AG (by kernel_rfl) ((hA24 _ _ _).1 A24_01234789abc)) rfl
     ·refine AH (i:=13) rfl U (by rfl) ?_
      refine zz (i64 c23) (Aw CM U U (Am gc23) rfl) rfl ?_
      refine AE ⟨U,?_⟩
      exact AD (by refine Wk.trans (AL (L:=[(1,(i64 p1)),(4,(.ptr 2 0 0 0)),(6,(.ptr 3 0 0 0)),(23,(ow 0 0 s0)),(25,(i64 (Sh.w (p1 - 1000)))),(35,(i64 c23))]) (st':=[(ro 0 30 3 AA s0),(ro 0 3 1 eI s1),⟨0,26,2,[[.zc,.zc]]⟩,⟨0,26,2,[[(ow 4 0 q9.cells),(ow 5 0 q9.pending)]]⟩,(ro 0 30 3 AA q9.cells),(ro 0 3 1 eI q9.pending)]) (st1:=[(ro 0 30 3 AA s0),(ro 0 3 1 eI s1),⟨0,26,2,[[.zc,.zc]]⟩,⟨0,26,2,[[(ow 4 0 q9.cells),(ow 5 0 q9.pending)]]⟩,(ro 0 30 3 AA q9.cells),(ro 0 3 1 eI q9.pending)]) [0,1,2,3,4,5] U (.pure (AB fun _=>U) (.pure (AB fun _=>U) .nil)) (by decide) rfl U (.pure (AB fun _=>U) (.pure (AB fun _=>U) (.raw U U (.raw U U (.pure (AB fun _=>U) (.pure (AB fun _=>U) .nil)))))) ⟨.rfl,.rfl,.rfl,.rfl,.rfl,.rfl,trivial⟩) ?_;exact AF (L:=[(1,(i64 p1)),(4,(.ptr 2 0 0 0)),(6,(.ptr 3 0 0 0)),(23,(ow 0 0 s0)),(25,(i64 (Sh.w (p1 - 1000)))),(35,(i64 c23))]) ⟨.rfl,.rfl,.rfl,.rfl,.rfl,.rfl,trivial⟩) (AG (by kernel_rfl) ((hA24 _ _ _).1 A24_0123789abcd)) rfl)
    have A24_0123789ab:A24 6 #[true,true,true,true,false,false,false,true,true,true,true,true,false,false,false] ⟨42,AM [(1,(i64 p1)),(4,(.ptr 2 0 0 0)),(6,(.ptr 3 0 0 0)),(23,(ow 0 0 s0)),(25,(i64 (Sh.w (p1 - 1000)))),(31,(ow 6 0 q22)),(33,(i64 (Sh.w (p1 - 1000))))],[(ro 0 30 3 AA s0),(ro 0 3 1 eI s1),⟨0,26,2,[[.zc,.zc]]⟩,⟨0,26,2,[[(ow 4 0 q9.cells),(ow 5 0 q9.pending)]]⟩,(ro 0 30 3 AA q9.cells),(ro 0 3 1 eI q9.pending),(ro 0 3 1 eI q22)]⟩:=(hA24 _ _ _).2 (by
     refine AJ [4,12] U (by kernel_rfl) (by decide) ⟨?_,?_,trivial⟩
     ·refine AH (i:=4) rfl U (by rfl) ?_
      refine zz (.ptr 0 0 (Int.toNat (Sh.w (p1 - 1000))) 0) (An A3 U U U U gc20) rfl ?_
      refine AE ⟨U,?_⟩
      exact AD (AF (L:=[(1,(i64 p1)),(4,(.ptr 2 0 0 0)),(6,(.ptr 3 0 0 0)),(26,(.ptr 0 0 (Int.toNat (Sh.w (p1 - 1000))) 0)),(31,(ow 6 0 q22)),(33,(i64 (Sh.w (p1 - 1000))))]) ⟨.rfl,.rfl,.rfl,.rfl,.rfl,.rfl,trivial⟩) (AG (by kernel_rfl) ((hA24 _ _ _).1 A24_01234789ab)) rfl
     ·refine AH (i:=12) rfl U (by rfl) ?_
      refine zz (.ptr 6 0 (Int.toNat (Sh.w (p1 - 1000))) 0) (An Av U U U U gc23) rfl ?_
      refine AE ⟨U,?_⟩
      exact AD (AF (L:=[(1,(i64 p1)),(4,(.ptr 2 0 0 0)),(6,(.ptr 3 0 0 0)),(23,(ow 0 0 s0)),(25,(i64 (Sh.w (p1 - 1000)))),(34,(.ptr 6 0 (Int.toNat (Sh.w (p1 - 1000))) 0))]) ⟨.rfl,.rfl,.rfl,.rfl,.rfl,.rfl,trivial⟩) (AG (by kernel_rfl) ((hA24 _ _ _).1 A24_0123789abc)) rfl)
    have A24_0123789a:A24 7 #[true,true,true,true,false,false,false,true,true,true,true,false,false,false,false] ⟨42,AM [(1,(i64 p1)),(4,(.ptr 2 0 0 0)),(6,(.ptr 3 0 0 0)),(23,(ow 0 0 s0)),(25,(i64 (Sh.w (p1 - 1000)))),(31,(ow 6 0 q22)),(32,(i64 p1))],[(ro 0 30 3 AA s0),(ro 0 3 1 eI s1),⟨0,26,2,[[.zc,.zc]]⟩,⟨0,26,2,[[(ow 4 0 q9.cells),(ow 5 0 q9.pending)]]⟩,(ro 0 30 3 AA q9.cells),(ro 0 3 1 eI q9.pending),(ro 0 3 1 eI q22)]⟩:=(hA24 _ _ _).2 (by
     refine AJ [4,11] U (by kernel_rfl) (by decide) ⟨?_,?_,trivial⟩
     ·refine AH (i:=4) rfl U (by rfl) ?_
      refine zz (.ptr 0 0 (Int.toNat (Sh.w (p1 - 1000))) 0) (An A3 U U U U gc20) rfl ?_
      refine AE ⟨U,?_⟩
      exact AD (AF (L:=[(1,(i64 p1)),(4,(.ptr 2 0 0 0)),(6,(.ptr 3 0 0 0)),(26,(.ptr 0 0 (Int.toNat (Sh.w (p1 - 1000))) 0)),(31,(ow 6 0 q22)),(32,(i64 p1))]) ⟨.rfl,.rfl,.rfl,.rfl,.rfl,.rfl,trivial⟩) (AG (by kernel_rfl) ((hA24 _ _ _).1 A24_01234789a)) rfl
     ·refine AH (i:=11) rfl U (by rfl) ?_
      refine zq tb U ?_
      refine AE ⟨U,?_⟩
      exact AD (AF (L:=[(1,(i64 p1)),(4,(.ptr 2 0 0 0)),(6,(.ptr 3 0 0 0)),(23,(ow 0 0 s0)),(25,(i64 (Sh.w (p1 - 1000)))),(31,(ow 6 0 q22)),(33,(i64 (Sh.w (p1 - 1000))))]) ⟨.rfl,.rfl,.rfl,.rfl,.rfl,.rfl,.rfl,trivial⟩) (AG (by kernel_rfl) ((hA24 _ _ _).1 A24_0123789ab)) rfl)
    have A24_012378ab:A24 7 #[true,true,true,true,false,false,false,true,true,false,true,true,false,false,false] ⟨42,AM [(1,(i64 p1)),(4,(.ptr 2 0 0 0)),(6,(.ptr 3 0 0 0)),(23,(ow 0 0 s0)),(25,(i64 (Sh.w (p1 - 1000)))),(30,(ow 6 0 q21)),(33,(i64 (Sh.w (p1 - 1000))))],[(ro 0 30 3 AA s0),(ro 0 3 1 eI s1),⟨0,26,2,[[.zc,.zc]]⟩,⟨0,26,2,[[(ow 4 0 q9.cells),(ow 5 0 q9.pending)]]⟩,(ro 0 30 3 AA q9.cells),(ro 0 3 1 eI q9.pending),(ro 0 30 3 AA q21)]⟩:=(hA24 _ _ _).2 (by
     refine AJ [4,9] U (by kernel_rfl) (by decide) ⟨?_,?_,trivial⟩
     ·refine AH (i:=4) rfl U (by rfl) ?_
      refine zz (.ptr 0 0 (Int.toNat (Sh.w (p1 - 1000))) 0) (An A3 U U U U gc20) rfl ?_
      refine AE ⟨U,?_⟩
      exact AD (AF (L:=[(1,(i64 p1)),(4,(.ptr 2 0 0 0)),(6,(.ptr 3 0 0 0)),(26,(.ptr 0 0 (Int.toNat (Sh.w (p1 - 1000))) 0)),(30,(ow 6 0 q21)),(33,(i64 (Sh.w (p1 - 1000))))]) ⟨.rfl,.rfl,.rfl,.rfl,.rfl,.rfl,trivial⟩) (AG (by kernel_rfl) ((hA24 _ _ _).1 A24_0123478ab)) rfl
     ·refine AH (i:=9) rfl U (by rfl) ?_
      refine Af (Wk.A2 (L:=[(1,(i64 p1)),(4,(.ptr 2 0 0 0)),(6,(.ptr 3 0 0 0)),(23,(ow 0 0 s0)),(25,(i64 (Sh.w (p1 - 1000)))),(30,(ls AA q21)),(33,(i64 (Sh.w (p1 - 1000))))]) (st':=[(ro 0 30 3 AA s0),(ro 0 3 1 eI s1),⟨0,26,2,[[.zc,.zc]]⟩,⟨0,26,2,[[(ow 4 0 q9.cells),(ow 5 0 q9.pending)]]⟩,(ro 0 30 3 AA q9.cells),(ro 0 3 1 eI q9.pending),⟨1,30,3,[]⟩]) (id:=6) rfl (show 2≤6 by decide) (AB fun _=>U) ⟨.rfl,.rfl,.rfl,.rfl,.rfl,(.A2 U),.rfl,trivial⟩ U) ?_
      refine BJ (v':=(ow 7 0 q22)) (st':=[(ro 0 30 3 AA s0),(ro 0 3 1 eI s1),⟨0,26,2,[[.zc,.zc]]⟩,⟨0,26,2,[[(ow 4 0 q9.cells),(ow 5 0 q9.pending)]]⟩,(ro 0 30 3 AA q9.cells),(ro 0 3 1 eI q9.pending),⟨1,30,3,[]⟩,(ro 0 3 1 eI q22)]) Ae ET (Ax gq22) rfl U ⟨(BD fun _=>U),trivial⟩ U U ?_
      refine AE ⟨U,?_⟩
      exact AD (by refine Wk.trans (AL (L:=[(1,(i64 p1)),(4,(.ptr 2 0 0 0)),(6,(.ptr 3 0 0 0)),(23,(ow 0 0 s0)),(25,(i64 (Sh.w (p1 - 1000)))),(31,(ow 6 0 q22)),(33,(i64 (Sh.w (p1 - 1000))))]) (st':=[(ro 0 30 3 AA s0),(ro 0 3 1 eI s1),⟨0,26,2,[[.zc,.zc]]⟩,⟨0,26,2,[[(ow 4 0 q9.cells),(ow 5 0 q9.pending)]]⟩,(ro 0 30 3 AA q9.cells),(ro 0 3 1 eI q9.pending),(ro 0 3 1 eI q22)]) (st1:=[(ro 0 30 3 AA s0),(ro 0 3 1 eI s1),⟨0,26,2,[[.zc,.zc]]⟩,⟨0,26,2,[[(ow 4 0 q9.cells),(ow 5 0 q9.pending)]]⟩,(ro 0 30 3 AA q9.cells),(ro 0 3 1 eI q9.pending),(ro 0 3 1 eI q22)]) [0,1,2,3,4,5,7] U (.pure (AB fun _=>U) (.pure (AB fun _=>U) .nil)) (by decide) rfl U (.pure (AB fun _=>U) (.pure (AB fun _=>U) (.raw U U (.raw U U (.pure (AB fun _=>U) (.pure (AB fun _=>U) (.pure (AB fun _=>U) .nil))))))) ⟨.rfl,.rfl,.rfl,.rfl,.rfl,.rfl,.rfl,trivial⟩) ?_;exact AF (L:=[(1,(i64 p1)),(4,(.ptr 2 0 0 0)),(6,(.ptr 3 0 0 0)),(23,(ow 0 0 s0)),(25,(i64 (Sh.w (p1 - 1000)))),(31,(ow 6 0 q22)),(33,(i64 (Sh.w (p1 - 1000))))]) ⟨.rfl,.rfl,.rfl,.rfl,.rfl,.rfl,.rfl,trivial⟩) (AG (by kernel_rfl) ((hA24 _ _ _).1 A24_0123789ab)) rfl)
    have A24_012378a:A24 8 #[true,true,true,true,false,false,false,true,true,false,true,false,false,false,false] ⟨42,AM [(1,(i64 p1)),(4,(.ptr 2 0 0 0)),(6,(.ptr 3 0 0 0)),(23,(ow 0 0 s0)),(25,(i64 (Sh.w (p1 - 1000)))),(30,(ow 6 0 q21)),(32,(i64 p1))],[(ro 0 30 3 AA s0),(ro 0 3 1 eI s1),⟨0,26,2,[[.zc,.zc]]⟩,⟨0,26,2,[[(ow 4 0 q9.cells),(ow 5 0 q9.pending)]]⟩,(ro 0 30 3 AA q9.cells),(ro 0 3 1 eI q9.pending),(ro 0 30 3 AA q21)]⟩:=(hA24 _ _ _).2 (by
     refine AJ [4,9,11] U (by kernel_rfl) (by decide) ⟨?_,?_,?_,trivial⟩
     ·refine AH (i:=4) rfl U (by rfl) ?_
      refine zz (.ptr 0 0 (Int.toNat (Sh.w (p1 - 1000))) 0) (An A3 U U U U gc20) rfl ?_
      refine AE ⟨U,?_⟩
      exact AD (AF (L:=[(1,(i64 p1)),(4,(.ptr 2 0 0 0)),(6,(.ptr 3 0 0 0)),(26,(.ptr 0 0 (Int.toNat (Sh.w (p1 - 1000))) 0)),(30,(ow 6 0 q21)),(32,(i64 p1))]) ⟨.rfl,.rfl,.rfl,.rfl,.rfl,.rfl,trivial⟩) (AG (by kernel_rfl) ((hA24 _ _ _).1 A24_0123478a)) rfl
     ·refine AH (i:=9) rfl U (by rfl) ?_
      refine Af (Wk.A2 (L:=[(1,(i64 p1)),(4,(.ptr 2 0 0 0)),(6,(.ptr 3 0 0 0)),(23,(ow 0 0 s0)),(25,(i64 (Sh.w (p1 - 1000)))),(30,(ls AA q21)),(32,(i64 p1))]) (st':=[(ro 0 30 3 AA s0),(ro 0 3 1 eI s1),⟨0,26,2,[[.zc,.zc]]⟩,⟨0,26,2,[[(ow 4 0 q9.cells),(ow 5 0 q9.pending)]]⟩,(ro 0 30 3 AA q9.cells),(ro 0 3 1 eI q9.pending),⟨1,30,3,[]⟩]) (id:=6) rfl (show 2≤6 by decide) (AB fun _=>U) ⟨.rfl,.rfl,.rfl,.rfl,.rfl,(.A2 U),.rfl,trivial⟩ U) ?_
      refine BJ (v':=(ow 7 0 q22)) (st':=[(ro 0 30 3 AA s0),(ro 0 3 1 eI s1),⟨0,26,2,[[.zc,.zc]]⟩,⟨0,26,2,[[(ow 4 0 q9.cells),(ow 5 0 q9.pending)]]⟩,(ro 0 30 3 AA q9.cells),(ro 0 3 1 eI q9.pending),⟨1,30,3,[]⟩,(ro 0 3 1 eI q22)]) Ae ET (Ax gq22) rfl U ⟨(BD fun _=>U),trivial⟩ U U ?_
      refine AE ⟨U,?_⟩
      exact AD (by refine Wk.trans (AL (L:=[(1,(i64 p1)),(4,(.ptr 2 0 0 0)),(6,(.ptr 3 0 0 0)),(23,(ow 0 0 s0)),(25,(i64 (Sh.w (p1 - 1000)))),(31,(ow 6 0 q22)),(32,(i64 p1))]) (st':=[(ro 0 30 3 AA s0),(ro 0 3 1 eI s1),⟨0,26,2,[[.zc,.zc]]⟩,⟨0,26,2,[[(ow 4 0 q9.cells),(ow 5 0 q9.pending)]]⟩,(ro 0 30 3 AA q9.cells),(ro 0 3 1 eI q9.pending),(ro 0 3 1 eI q22)]) (st1:=[(ro 0 30 3 AA s0),(ro 0 3 1 eI s1),⟨0,26,2,[[.zc,.zc]]⟩,⟨0,26,2,[[(ow 4 0 q9.cells),(ow 5 0 q9.pending)]]⟩,(ro 0 30 3 AA q9.cells),(ro 0 3 1 eI q9.pending),(ro 0 3 1 eI q22)]) [0,1,2,3,4,5,7] U (.pure (AB fun _=>U) (.pure (AB fun _=>U) .nil)) (by decide) rfl U (.pure (AB fun _=>U) (.pure (AB fun _=>U) (.raw U U (.raw U U (.pure (AB fun _=>U) (.pure (AB fun _=>U) (.pure (AB fun _=>U) .nil))))))) ⟨.rfl,.rfl,.rfl,.rfl,.rfl,.rfl,.rfl,trivial⟩) ?_;exact AF (L:=[(1,(i64 p1)),(4,(.ptr 2 0 0 0)),(6,(.ptr 3 0 0 0)),(23,(ow 0 0 s0)),(25,(i64 (Sh.w (p1 - 1000)))),(31,(ow 6 0 q22)),(32,(i64 p1))]) ⟨.rfl,.rfl,.rfl,.rfl,.rfl,.rfl,.rfl,trivial⟩) (AG (by kernel_rfl) ((hA24 _ _ _).1 A24_0123789a)) rfl
     ·refine AH (i:=11) rfl U (by rfl) ?_
      refine zq tb U ?_
      refine AE ⟨U,?_⟩
      exact AD (AF (L:=[(1,(i64 p1)),(4,(.ptr 2 0 0 0)),(6,(.ptr 3 0 0 0)),(23,(ow 0 0 s0)),(25,(i64 (Sh.w (p1 - 1000)))),(30,(ow 6 0 q21)),(33,(i64 (Sh.w (p1 - 1000))))]) ⟨.rfl,.rfl,.rfl,.rfl,.rfl,.rfl,.rfl,trivial⟩) (AG (by kernel_rfl) ((hA24 _ _ _).1 A24_012378ab)) rfl)
    have A24_01237ab:A24 8 #[true,true,true,true,false,false,false,true,false,false,true,true,false,false,false] ⟨42,AM [(1,(i64 p1)),(4,(.ptr 2 0 0 0)),(6,(.ptr 3 0 0 0)),(23,(ow 0 0 s0)),(25,(i64 (Sh.w (p1 - 1000)))),(29,(.agg [(ow 0 0 s0),(ow 1 0 s1)])),(33,(i64 (Sh.w (p1 - 1000))))],[(ro 0 30 3 AA s0),(ro 0 3 1 eI s1),⟨0,26,2,[[.zc,.zc]]⟩,⟨0,26,2,[[(ow 4 0 q9.cells),(ow 5 0 q9.pending)]]⟩,(ro 0 30 3 AA q9.cells),(ro 0 3 1 eI q9.pending)]⟩:=(hA24 _ _ _).2 (by
     refine AJ [4,8] U (by kernel_rfl) (by decide) ⟨?_,?_,trivial⟩
     ·refine AH (i:=4) rfl U (by rfl) ?_
      refine zz (.ptr 0 0 (Int.toNat (Sh.w (p1 - 1000))) 0) (An A3 U U U U gc20) rfl ?_
      refine AE ⟨U,?_⟩
      exact AD (AF (L:=[(1,(i64 p1)),(4,(.ptr 2 0 0 0)),(6,(.ptr 3 0 0 0)),(26,(.ptr 0 0 (Int.toNat (Sh.w (p1 - 1000))) 0)),(29,(.agg [(ow 0 0 s0),(ow 1 0 s1)])),(33,(i64 (Sh.w (p1 - 1000))))]) ⟨.rfl,.rfl,.rfl,.rfl,.rfl,.rfl,trivial⟩) (AG (by kernel_rfl) ((hA24 _ _ _).1 A24_012347ab)) rfl
     ·refine AH (i:=8) rfl U (by rfl) ?_
      refine Ad (rowsP:=[(ro 0 30 3 AA s0),(ro 0 3 1 eI s1)]) (rows0:=[(ro 0 30 3 AA s0),(ro 0 3 1 eI s1)]) (rows1:=[(ro 0 30 3 AA s0),(ro 0 3 1 eI s1)]) (rows2:=[(ro 0 30 3 AA q21)]) (rows1':=[(ro 0 30 3 AA s0),(ro 0 3 1 eI s1)]) (rows2':=[(ro 0 30 3 AA q21)]) (st':=[(ro 0 30 3 AA s0),(ro 0 3 1 eI s1),⟨0,26,2,[[.zc,.zc]]⟩,⟨0,26,2,[[(ow 4 0 q9.cells),(ow 5 0 q9.pending)]]⟩,(ro 0 30 3 AA q9.cells),(ro 0 3 1 eI q9.pending),(ro 0 30 3 AA q21)]) (v':=(ow 6 0 q21)) [0,1] Ae Ep (Az gq21) rfl (by decide) rfl U (.pure (AB fun _=>U) (.pure (AB fun _=>U) .nil)) rfl U (.pure (AB fun _=>U) (.pure (AB fun _=>U) .nil)) (.pure (AB fun _=>U) .nil) rfl U ?_
      refine AE ⟨U,?_⟩
      exact AD (AF (L:=[(1,(i64 p1)),(4,(.ptr 2 0 0 0)),(6,(.ptr 3 0 0 0)),(23,(ow 0 0 s0)),(25,(i64 (Sh.w (p1 - 1000)))),(30,(ow 6 0 q21)),(33,(i64 (Sh.w (p1 - 1000))))]) ⟨.rfl,.rfl,.rfl,.rfl,.rfl,.rfl,.rfl,trivial⟩) (AG (by kernel_rfl) ((hA24 _ _ _).1 A24_012378ab)) rfl)
    have A24_01237a:A24 9 #[true,true,true,true,false,false,false,true,false,false,true,false,false,false,false] ⟨42,AM [(1,(i64 p1)),(4,(.ptr 2 0 0 0)),(6,(.ptr 3 0 0 0)),(23,(ow 0 0 s0)),(25,(i64 (Sh.w (p1 - 1000)))),(29,(.agg [(ow 0 0 s0),(ow 1 0 s1)])),(32,(i64 p1))],[(ro 0 30 3 AA s0),(ro 0 3 1 eI s1),⟨0,26,2,[[.zc,.zc]]⟩,⟨0,26,2,[[(ow 4 0 q9.cells),(ow 5 0 q9.pending)]]⟩,(ro 0 30 3 AA q9.cells),(ro 0 3 1 eI q9.pending)]⟩:=(hA24 _ _ _).2 (by
     refine AJ [4,8,11] U (by kernel_rfl) (by decide) ⟨?_,?_,?_,trivial⟩
     ·refine AH (i:=4) rfl U (by rfl) ?_
      refine zz (.ptr 0 0 (Int.toNat (Sh.w (p1 - 1000))) 0) (An A3 U U U U gc20) rfl ?_
      refine AE ⟨U,?_⟩
      exact AD (AF (L:=[(1,(i64 p1)),(4,(.ptr 2 0 0 0)),(6,(.ptr 3 0 0 0)),(26,(.ptr 0 0 (Int.toNat (Sh.w (p1 - 1000))) 0)),(29,(.agg [(ow 0 0 s0),(ow 1 0 s1)])),(32,(i64 p1))]) ⟨.rfl,.rfl,.rfl,.rfl,.rfl,.rfl,trivial⟩) (AG (by kernel_rfl) ((hA24 _ _ _).1 A24_012347a)) rfl
     ·refine AH (i:=8) rfl U (by rfl) ?_
      refine Ad (rowsP:=[(ro 0 30 3 AA s0),(ro 0 3 1 eI s1)]) (rows0:=[(ro 0 30 3 AA s0),(ro 0 3 1 eI s1)]) (rows1:=[(ro 0 30 3 AA s0),(ro 0 3 1 eI s1)]) (rows2:=[(ro 0 30 3 AA q21)]) (rows1':=[(ro 0 30 3 AA s0),(ro 0 3 1 eI s1)]) (rows2':=[(ro 0 30 3 AA q21)]) (st':=[(ro 0 30 3 AA s0),(ro 0 3 1 eI s1),⟨0,26,2,[[.zc,.zc]]⟩,⟨0,26,2,[[(ow 4 0 q9.cells),(ow 5 0 q9.pending)]]⟩,(ro 0 30 3 AA q9.cells),(ro 0 3 1 eI q9.pending),(ro 0 30 3 AA q21)]) (v':=(ow 6 0 q21)) [0,1] Ae Ep (Az gq21) rfl (by decide) rfl U (.pure (AB fun _=>U) (.pure (AB fun _=>U) .nil)) rfl U (.pure (AB fun _=>U) (.pure (AB fun _=>U) .nil)) (.pure (AB fun _=>U) .nil) rfl U ?_
      refine AE ⟨U,?_⟩
      exact AD (AF (L:=[(1,(i64 p1)),(4,(.ptr 2 0 0 0)),(6,(.ptr 3 0 0 0)),(23,(ow 0 0 s0)),(25,(i64 (Sh.w (p1 - 1000)))),(30,(ow 6 0 q21)),(32,(i64 p1))]) ⟨.rfl,.rfl,.rfl,.rfl,.rfl,.rfl,.rfl,trivial⟩) (AG (by kernel_rfl) ((hA24 _ _ _).1 A24_012378a)) rfl
     ·refine AH (i:=11) rfl U (by rfl) ?_
      refine zq tb U ?_
      refine AE ⟨U,?_⟩
      exact AD (AF (L:=[(1,(i64 p1)),(4,(.ptr 2 0 0 0)),(6,(.ptr 3 0 0 0)),(23,(ow 0 0 s0)),(25,(i64 (Sh.w (p1 - 1000)))),(29,(.agg [(ow 0 0 s0),(ow 1 0 s1)])),(33,(i64 (Sh.w (p1 - 1000))))]) ⟨.rfl,.rfl,.rfl,.rfl,.rfl,.rfl,.rfl,trivial⟩) (AG (by kernel_rfl) ((hA24 _ _ _).1 A24_01237ab)) rfl)
    have A24_0123ab:A24 9 #[true,true,true,true,false,false,false,false,false,false,true,true,false,false,false] ⟨42,AM [(1,(i64 p1)),(2,(.ptr 2 0 0 0)),(4,(.ptr 3 0 0 0)),(6,(.ptr 4 0 0 0)),(23,(ow 0 0 s0)),(25,(i64 (Sh.w (p1 - 1000)))),(33,(i64 (Sh.w (p1 - 1000))))],[(ro 0 30 3 AA s0),(ro 0 3 1 eI s1),⟨0,26,2,[[(ow 0 0 s0),(ow 1 0 s1)]]⟩,⟨0,26,2,[[.zc,.zc]]⟩,⟨0,26,2,[[(ow 5 0 q9.cells),(ow 6 0 q9.pending)]]⟩,(ro 0 30 3 AA q9.cells),(ro 0 3 1 eI q9.pending)]⟩:=(hA24 _ _ _).2 (by
     refine AJ [4,7] U (by kernel_rfl) (by decide) ⟨?_,?_,trivial⟩
     ·refine AH (i:=4) rfl U (by rfl) ?_
      refine zz (.ptr 0 0 (Int.toNat (Sh.w (p1 - 1000))) 0) (An A3 U U U U gc20) rfl ?_
      refine AE ⟨U,?_⟩
      exact AD (AF (L:=[(1,(i64 p1)),(2,(.ptr 2 0 0 0)),(4,(.ptr 3 0 0 0)),(6,(.ptr 4 0 0 0)),(26,(.ptr 0 0 (Int.toNat (Sh.w (p1 - 1000))) 0)),(33,(i64 (Sh.w (p1 - 1000))))]) ⟨.rfl,.rfl,.rfl,.rfl,.rfl,.rfl,trivial⟩) (AG (by kernel_rfl) ((hA24 _ _ _).1 A24_01234ab)) rfl
     ·refine AH (i:=7) rfl U (by rfl) ?_
      refine zq tb U ?_
      refine AE ⟨U,?_⟩
      exact AD (by refine Wk.trans (AL (L:=[(1,(i64 p1)),(4,(.ptr 2 0 0 0)),(6,(.ptr 3 0 0 0)),(23,(ow 0 0 s0)),(25,(i64 (Sh.w (p1 - 1000)))),(29,(.agg [(ow 0 0 s0),(ow 1 0 s1)])),(33,(i64 (Sh.w (p1 - 1000))))]) (st':=[(ro 0 30 3 AA s0),(ro 0 3 1 eI s1),⟨0,26,2,[[.zc,.zc]]⟩,⟨0,26,2,[[(ow 4 0 q9.cells),(ow 5 0 q9.pending)]]⟩,(ro 0 30 3 AA q9.cells),(ro 0 3 1 eI q9.pending)]) (st1:=[(ro 0 30 3 AA s0),(ro 0 3 1 eI s1),⟨0,26,2,[[.zc,.zc]]⟩,⟨0,26,2,[[(ow 5 0 q9.cells),(ow 6 0 q9.pending)]]⟩,(ro 0 30 3 AA q9.cells),(ro 0 3 1 eI q9.pending)]) [0,1,3,4,5,6] U (.pure (AB fun _=>U) (.pure (AB fun _=>U) .nil)) (by decide) rfl U (.pure (AB fun _=>U) (.pure (AB fun _=>U) (.raw U U (.raw U U (.pure (AB fun _=>U) (.pure (AB fun _=>U) .nil)))))) ⟨.rfl,.rfl,.rfl,.rfl,.rfl,.rfl,.rfl,trivial⟩) ?_;exact AF (L:=[(1,(i64 p1)),(4,(.ptr 2 0 0 0)),(6,(.ptr 3 0 0 0)),(23,(ow 0 0 s0)),(25,(i64 (Sh.w (p1 - 1000)))),(29,(.agg [(ow 0 0 s0),(ow 1 0 s1)])),(33,(i64 (Sh.w (p1 - 1000))))]) ⟨.rfl,.rfl,.rfl,.rfl,.rfl,.rfl,.rfl,trivial⟩) (AG (by kernel_rfl) ((hA24 _ _ _).1 A24_01237ab)) rfl)
    have A24_0123a:A24 10 #[true,true,true,true,false,false,false,false,false,false,true,false,false,false,false] ⟨42,AM [(1,(i64 p1)),(2,(.ptr 2 0 0 0)),(4,(.ptr 3 0 0 0)),(6,(.ptr 4 0 0 0)),(23,(ow 0 0 s0)),(25,(i64 (Sh.w (p1 - 1000)))),(32,(i64 p1))],[(ro 0 30 3 AA s0),(ro 0 3 1 eI s1),⟨0,26,2,[[(ow 0 0 s0),(ow 1 0 s1)]]⟩,⟨0,26,2,[[.zc,.zc]]⟩,⟨0,26,2,[[(ow 5 0 q9.cells),(ow 6 0 q9.pending)]]⟩,(ro 0 30 3 AA q9.cells),(ro 0 3 1 eI q9.pending)]⟩:=(hA24 _ _ _).2 (by
     refine AJ [4,7,11] U (by kernel_rfl) (by decide) ⟨?_,?_,?_,trivial⟩
     ·refine AH (i:=4) rfl U (by rfl) ?_
      refine zz (.ptr 0 0 (Int.toNat (Sh.w (p1 - 1000))) 0) (An A3 U U U U gc20) rfl ?_
      refine AE ⟨U,?_⟩
      exact AD (AF (L:=[(1,(i64 p1)),(2,(.ptr 2 0 0 0)),(4,(.ptr 3 0 0 0)),(6,(.ptr 4 0 0 0)),(26,(.ptr 0 0 (Int.toNat (Sh.w (p1 - 1000))) 0)),(32,(i64 p1))]) ⟨.rfl,.rfl,.rfl,.rfl,.rfl,.rfl,trivial⟩) (AG (by kernel_rfl) ((hA24 _ _ _).1 A24_01234a)) rfl
     ·refine AH (i:=7) rfl U (by rfl) ?_
      refine zq tb U ?_
      refine AE ⟨U,?_⟩
      exact AD (by refine Wk.trans (AL (L:=[(1,(i64 p1)),(4,(.ptr 2 0 0 0)),(6,(.ptr 3 0 0 0)),(23,(ow 0 0 s0)),(25,(i64 (Sh.w (p1 - 1000)))),(29,(.agg [(ow 0 0 s0),(ow 1 0 s1)])),(32,(i64 p1))]) (st':=[(ro 0 30 3 AA s0),(ro 0 3 1 eI s1),⟨0,26,2,[[.zc,.zc]]⟩,⟨0,26,2,[[(ow 4 0 q9.cells),(ow 5 0 q9.pending)]]⟩,(ro 0 30 3 AA q9.cells),(ro 0 3 1 eI q9.pending)]) (st1:=[(ro 0 30 3 AA s0),(ro 0 3 1 eI s1),⟨0,26,2,[[.zc,.zc]]⟩,⟨0,26,2,[[(ow 5 0 q9.cells),(ow 6 0 q9.pending)]]⟩,(ro 0 30 3 AA q9.cells),(ro 0 3 1 eI q9.pending)]) [0,1,3,4,5,6] U (.pure (AB fun _=>U) (.pure (AB fun _=>U) .nil)) (by decide) rfl U (.pure (AB fun _=>U) (.pure (AB fun _=>U) (.raw U U (.raw U U (.pure (AB fun _=>U) (.pure (AB fun _=>U) .nil)))))) ⟨.rfl,.rfl,.rfl,.rfl,.rfl,.rfl,.rfl,trivial⟩) ?_;exact AF (L:=[(1,(i64 p1)),(4,(.ptr 2 0 0 0)),(6,(.ptr 3 0 0 0)),(23,(ow 0 0 s0)),(25,(i64 (Sh.w (p1 - 1000)))),(29,(.agg [(ow 0 0 s0),(ow 1 0 s1)])),(32,(i64 p1))]) ⟨.rfl,.rfl,.rfl,.rfl,.rfl,.rfl,.rfl,trivial⟩) (AG (by kernel_rfl) ((hA24 _ _ _).1 A24_01237a)) rfl
     ·refine AH (i:=11) rfl U (by rfl) ?_
      refine zq tb U ?_
      refine AE ⟨U,?_⟩
      exact AD (AF (L:=[(1,(i64 p1)),(2,(.ptr 2 0 0 0)),(4,(.ptr 3 0 0 0)),(6,(.ptr 4 0 0 0)),(23,(ow 0 0 s0)),(25,(i64 (Sh.w (p1 - 1000)))),(33,(i64 (Sh.w (p1 - 1000))))]) ⟨.rfl,.rfl,.rfl,.rfl,.rfl,.rfl,.rfl,trivial⟩) (AG (by kernel_rfl) ((hA24 _ _ _).1 A24_0123ab)) rfl)
    have A24_012789abcd:A24 5 #[true,true,true,false,false,false,false,true,true,true,true,true,true,true,false] ⟨42,AM [(1,(i64 p1)),(4,(.ptr 2 0 0 0)),(6,(.ptr 3 0 0 0)),(23,(ow 0 0 s0)),(24,(i64 p1)),(35,(i64 c23))],[(ro 0 30 3 AA s0),(ro 0 3 1 eI s1),⟨0,26,2,[[.zc,.zc]]⟩,⟨0,26,2,[[(ow 4 0 q9.cells),(ow 5 0 q9.pending)]]⟩,(ro 0 30 3 AA q9.cells),(ro 0 3 1 eI q9.pending)]⟩:=(hA24 _ _ _).2 (by
     refine AJ [3] U (by kernel_rfl) (by decide) ⟨?_,trivial⟩
     ·refine AH (i:=3) rfl U (by rfl) ?_
      refine zq tb U ?_
      refine AE ⟨U,?_⟩
      exact AD (AF (L:=[(1,(i64 p1)),(4,(.ptr 2 0 0 0)),(6,(.ptr 3 0 0 0)),(23,(ow 0 0 s0)),(25,(i64 (Sh.w (p1 - 1000)))),(35,(i64 c23))]) ⟨.rfl,.rfl,.rfl,.rfl,.rfl,.rfl,trivial⟩) (AG (by kernel_rfl) ((hA24 _ _ _).1 A24_0123789abcd)) rfl)
    have A24_012789abc:A24 6 #[true,true,true,false,false,false,false,true,true,true,true,true,true,false,false] ⟨42,AM [(1,(i64 p1)),(4,(.ptr 2 0 0 0)),(6,(.ptr 3 0 0 0)),(23,(ow 0 0 s0)),(24,(i64 p1)),(34,(.ptr 6 0 (Int.toNat (Sh.w (p1 - 1000))) 0))],[(ro 0 30 3 AA s0),(ro 0 3 1 eI s1),⟨0,26,2,[[.zc,.zc]]⟩,⟨0,26,2,[[(ow 4 0 q9.cells),(ow 5 0 q9.pending)]]⟩,(ro 0 30 3 AA q9.cells),(ro 0 3 1 eI q9.pending),(ro 0 3 1 eI q22)]⟩:=(hA24 _ _ _).2 (by
     refine AJ [3,13] U (by kernel_rfl) (by decide) ⟨?_,?_,trivial⟩
     ·refine AH (i:=3) rfl U (by rfl) ?_
      refine zq tb U ?_
      refine AE ⟨U,?_⟩
      exact AD (AF (L:=[(1,(i64 p1)),(4,(.ptr 2 0 0 0)),(6,(.ptr 3 0 0 0)),(23,(ow 0 0 s0)),(25,(i64 (Sh.w (p1 - 1000)))),(34,(.ptr 6 0 (Int.toNat (Sh.w (p1 - 1000))) 0))]) ⟨.rfl,.rfl,.rfl,.rfl,.rfl,.rfl,trivial⟩) (AG (by kernel_rfl) ((hA24 _ _ _).1 A24_0123789abc)) rfl
     ·refine AH (i:=13) rfl U (by rfl) ?_
      refine zz (i64 c23) (Aw CM U U (Am gc23) rfl) rfl ?_
      refine AE ⟨U,?_⟩
      exact AD (by refine Wk.trans (AL (L:=[(1,(i64 p1)),(4,(.ptr 2 0 0 0)),(6,(.ptr 3 0 0 0)),(23,(ow 0 0 s0)),(24,(i64 p1)),(35,(i64 c23))]) (st':=[(ro 0 30 3 AA s0),(ro 0 3 1 eI s1),⟨0,26,2,[[.zc,.zc]]⟩,⟨0,26,2,[[(ow 4 0 q9.cells),(ow 5 0 q9.pending)]]⟩,(ro 0 30 3 AA q9.cells),(ro 0 3 1 eI q9.pending)]) (st1:=[(ro 0 30 3 AA s0),(ro 0 3 1 eI s1),⟨0,26,2,[[.zc,.zc]]⟩,⟨0,26,2,[[(ow 4 0 q9.cells),(ow 5 0 q9.pending)]]⟩,(ro 0 30 3 AA q9.cells),(ro 0 3 1 eI q9.pending)]) [0,1,2,3,4,5] U (.pure (AB fun _=>U) (.pure (AB fun _=>U) .nil)) (by decide) rfl U (.pure (AB fun _=>U) (.pure (AB fun _=>U) (.raw U U (.raw U U (.pure (AB fun _=>U) (.pure (AB fun _=>U) .nil)))))) ⟨.rfl,.rfl,.rfl,.rfl,.rfl,.rfl,trivial⟩) ?_;exact AF (L:=[(1,(i64 p1)),(4,(.ptr 2 0 0 0)),(6,(.ptr 3 0 0 0)),(23,(ow 0 0 s0)),(24,(i64 p1)),(35,(i64 c23))]) ⟨.rfl,.rfl,.rfl,.rfl,.rfl,.rfl,trivial⟩) (AG (by kernel_rfl) ((hA24 _ _ _).1 A24_012789abcd)) rfl)
    have A24_012789ab:A24 7 #[true,true,true,false,false,false,false,true,true,true,true,true,false,false,false] ⟨42,AM [(1,(i64 p1)),(4,(.ptr 2 0 0 0)),(6,(.ptr 3 0 0 0)),(23,(ow 0 0 s0)),(24,(i64 p1)),(31,(ow 6 0 q22)),(33,(i64 (Sh.w (p1 - 1000))))],[(ro 0 30 3 AA s0),(ro 0 3 1 eI s1),⟨0,26,2,[[.zc,.zc]]⟩,⟨0,26,2,[[(ow 4 0 q9.cells),(ow 5 0 q9.pending)]]⟩,(ro 0 30 3 AA q9.cells),(ro 0 3 1 eI q9.pending),(ro 0 3 1 eI q22)]⟩:=(hA24 _ _ _).2 (by
     refine AJ [3,12] U (by kernel_rfl) (by decide) ⟨?_,?_,trivial⟩
     ·refine AH (i:=3) rfl U (by rfl) ?_
      refine zq tb U ?_
      refine AE ⟨U,?_⟩
      exact AD (AF (L:=[(1,(i64 p1)),(4,(.ptr 2 0 0 0)),(6,(.ptr 3 0 0 0)),(23,(ow 0 0 s0)),(25,(i64 (Sh.w (p1 - 1000)))),(31,(ow 6 0 q22)),(33,(i64 (Sh.w (p1 - 1000))))]) ⟨.rfl,.rfl,.rfl,.rfl,.rfl,.rfl,.rfl,trivial⟩) (AG (by kernel_rfl) ((hA24 _ _ _).1 A24_0123789ab)) rfl
     ·refine AH (i:=12) rfl U (by rfl) ?_
      refine zz (.ptr 6 0 (Int.toNat (Sh.w (p1 - 1000))) 0) (An Av U U U U gc23) rfl ?_
      refine AE ⟨U,?_⟩
      exact AD (AF (L:=[(1,(i64 p1)),(4,(.ptr 2 0 0 0)),(6,(.ptr 3 0 0 0)),(23,(ow 0 0 s0)),(24,(i64 p1)),(34,(.ptr 6 0 (Int.toNat (Sh.w (p1 - 1000))) 0))]) ⟨.rfl,.rfl,.rfl,.rfl,.rfl,.rfl,trivial⟩) (AG (by kernel_rfl) ((hA24 _ _ _).1 A24_012789abc)) rfl)
    have A24_012789a:A24 8 #[true,true,true,false,false,false,false,true,true,true,true,false,false,false,false] ⟨42,AM [(1,(i64 p1)),(4,(.ptr 2 0 0 0)),(6,(.ptr 3 0 0 0)),(23,(ow 0 0 s0)),(24,(i64 p1)),(31,(ow 6 0 q22)),(32,(i64 p1))],[(ro 0 30 3 AA s0),(ro 0 3 1 eI s1),⟨0,26,2,[[.zc,.zc]]⟩,⟨0,26,2,[[(ow 4 0 q9.cells),(ow 5 0 q9.pending)]]⟩,(ro 0 30 3 AA q9.cells),(ro 0 3 1 eI q9.pending),(ro 0 3 1 eI q22)]⟩:=(hA24 _ _ _).2 (by
     refine AJ [3,11] U (by kernel_rfl) (by decide) ⟨?_,?_,trivial⟩
     ·refine AH (i:=3) rfl U (by rfl) ?_
      refine zq tb U ?_
      refine AE ⟨U,?_⟩
      exact AD (AF (L:=[(1,(i64 p1)),(4,(.ptr 2 0 0 0)),(6,(.ptr 3 0 0 0)),(23,(ow 0 0 s0)),(25,(i64 (Sh.w (p1 - 1000)))),(31,(ow 6 0 q22)),(32,(i64 p1))]) ⟨.rfl,.rfl,.rfl,.rfl,.rfl,.rfl,.rfl,trivial⟩) (AG (by kernel_rfl) ((hA24 _ _ _).1 A24_0123789a)) rfl
     ·refine AH (i:=11) rfl U (by rfl) ?_
      refine zq tb U ?_
      refine AE ⟨U,?_⟩
      exact AD (AF (L:=[(1,(i64 p1)),(4,(.ptr 2 0 0 0)),(6,(.ptr 3 0 0 0)),(23,(ow 0 0 s0)),(24,(i64 p1)),(31,(ow 6 0 q22)),(33,(i64 (Sh.w (p1 - 1000))))]) ⟨.rfl,.rfl,.rfl,.rfl,.rfl,.rfl,.rfl,trivial⟩) (AG (by kernel_rfl) ((hA24 _ _ _).1 A24_012789ab)) rfl)
    have A24_01278ab:A24 8 #[true,true,true,false,false,false,false,true,true,false,true,true,false,false,false] ⟨42,AM [(1,(i64 p1)),(4,(.ptr 2 0 0 0)),(6,(.ptr 3 0 0 0)),(23,(ow 0 0 s0)),(24,(i64 p1)),(30,(ow 6 0 q21)),(33,(i64 (Sh.w (p1 - 1000))))],[(ro 0 30 3 AA s0),(ro 0 3 1 eI s1),⟨0,26,2,[[.zc,.zc]]⟩,⟨0,26,2,[[(ow 4 0 q9.cells),(ow 5 0 q9.pending)]]⟩,(ro 0 30 3 AA q9.cells),(ro 0 3 1 eI q9.pending),(ro 0 30 3 AA q21)]⟩:=(hA24 _ _ _).2 (by
     refine AJ [3,9] U (by kernel_rfl) (by decide) ⟨?_,?_,trivial⟩
     ·refine AH (i:=3) rfl U (by rfl) ?_
      refine zq tb U ?_
      refine AE ⟨U,?_⟩
      exact AD (AF (L:=[(1,(i64 p1)),(4,(.ptr 2 0 0 0)),(6,(.ptr 3 0 0 0)),(23,(ow 0 0 s0)),(25,(i64 (Sh.w (p1 - 1000)))),(30,(ow 6 0 q21)),(33,(i64 (Sh.w (p1 - 1000))))]) ⟨.rfl,.rfl,.rfl,.rfl,.rfl,.rfl,.rfl,trivial⟩) (AG (by kernel_rfl) ((hA24 _ _ _).1 A24_012378ab)) rfl
     ·refine AH (i:=9) rfl U (by rfl) ?_
      refine Af (Wk.A2 (L:=[(1,(i64 p1)),(4,(.ptr 2 0 0 0)),(6,(.ptr 3 0 0 0)),(23,(ow 0 0 s0)),(24,(i64 p1)),(30,(ls AA q21)),(33,(i64 (Sh.w (p1 - 1000))))]) (st':=[(ro 0 30 3 AA s0),(ro 0 3 1 eI s1),⟨0,26,2,[[.zc,.zc]]⟩,⟨0,26,2,[[(ow 4 0 q9.cells),(ow 5 0 q9.pending)]]⟩,(ro 0 30 3 AA q9.cells),(ro 0 3 1 eI q9.pending),⟨1,30,3,[]⟩]) (id:=6) rfl (show 2≤6 by decide) (AB fun _=>U) ⟨.rfl,.rfl,.rfl,.rfl,.rfl,(.A2 U),.rfl,trivial⟩ U) ?_
      refine BJ (v':=(ow 7 0 q22)) (st':=[(ro 0 30 3 AA s0),(ro 0 3 1 eI s1),⟨0,26,2,[[.zc,.zc]]⟩,⟨0,26,2,[[(ow 4 0 q9.cells),(ow 5 0 q9.pending)]]⟩,(ro 0 30 3 AA q9.cells),(ro 0 3 1 eI q9.pending),⟨1,30,3,[]⟩,(ro 0 3 1 eI q22)]) Ae ET (Ax gq22) rfl U ⟨(BD fun _=>U),trivial⟩ U U ?_
      refine AE ⟨U,?_⟩
      exact AD (by refine Wk.trans (AL (L:=[(1,(i64 p1)),(4,(.ptr 2 0 0 0)),(6,(.ptr 3 0 0 0)),(23,(ow 0 0 s0)),(24,(i64 p1)),(31,(ow 6 0 q22)),(33,(i64 (Sh.w (p1 - 1000))))]) (st':=[(ro 0 30 3 AA s0),(ro 0 3 1 eI s1),⟨0,26,2,[[.zc,.zc]]⟩,⟨0,26,2,[[(ow 4 0 q9.cells),(ow 5 0 q9.pending)]]⟩,(ro 0 30 3 AA q9.cells),(ro 0 3 1 eI q9.pending),(ro 0 3 1 eI q22)]) (st1:=[(ro 0 30 3 AA s0),(ro 0 3 1 eI s1),⟨0,26,2,[[.zc,.zc]]⟩,⟨0,26,2,[[(ow 4 0 q9.cells),(ow 5 0 q9.pending)]]⟩,(ro 0 30 3 AA q9.cells),(ro 0 3 1 eI q9.pending),(ro 0 3 1 eI q22)]) [0,1,2,3,4,5,7] U (.pure (AB fun _=>U) (.pure (AB fun _=>U) .nil)) (by decide) rfl U (.pure (AB fun _=>U) (.pure (AB fun _=>U) (.raw U U (.raw U U (.pure (AB fun _=>U) (.pure (AB fun _=>U) (.pure (AB fun _=>U) .nil))))))) ⟨.rfl,.rfl,.rfl,.rfl,.rfl,.rfl,.rfl,trivial⟩) ?_;exact AF (L:=[(1,(i64 p1)),(4,(.ptr 2 0 0 0)),(6,(.ptr 3 0 0 0)),(23,(ow 0 0 s0)),(24,(i64 p1)),(31,(ow 6 0 q22)),(33,(i64 (Sh.w (p1 - 1000))))]) ⟨.rfl,.rfl,.rfl,.rfl,.rfl,.rfl,.rfl,trivial⟩) (AG (by kernel_rfl) ((hA24 _ _ _).1 A24_012789ab)) rfl)
    have A24_01278a:A24 9 #[true,true,true,false,false,false,false,true,true,false,true,false,false,false,false] ⟨42,AM [(1,(i64 p1)),(4,(.ptr 2 0 0 0)),(6,(.ptr 3 0 0 0)),(23,(ow 0 0 s0)),(24,(i64 p1)),(30,(ow 6 0 q21)),(32,(i64 p1))],[(ro 0 30 3 AA s0),(ro 0 3 1 eI s1),⟨0,26,2,[[.zc,.zc]]⟩,⟨0,26,2,[[(ow 4 0 q9.cells),(ow 5 0 q9.pending)]]⟩,(ro 0 30 3 AA q9.cells),(ro 0 3 1 eI q9.pending),(ro 0 30 3 AA q21)]⟩:=(hA24 _ _ _).2 (by
     refine AJ [3,9,11] U (by kernel_rfl) (by decide) ⟨?_,?_,?_,trivial⟩
     ·refine AH (i:=3) rfl U (by rfl) ?_
      refine zq tb U ?_
      refine AE ⟨U,?_⟩
      exact AD (AF (L:=[(1,(i64 p1)),(4,(.ptr 2 0 0 0)),(6,(.ptr 3 0 0 0)),(23,(ow 0 0 s0)),(25,(i64 (Sh.w (p1 - 1000)))),(30,(ow 6 0 q21)),(32,(i64 p1))]) ⟨.rfl,.rfl,.rfl,.rfl,.rfl,.rfl,.rfl,trivial⟩) (AG (by kernel_rfl) ((hA24 _ _ _).1 A24_012378a)) rfl
     ·refine AH (i:=9) rfl U (by rfl) ?_
      refine Af (Wk.A2 (L:=[(1,(i64 p1)),(4,(.ptr 2 0 0 0)),(6,(.ptr 3 0 0 0)),(23,(ow 0 0 s0)),(24,(i64 p1)),(30,(ls AA q21)),(32,(i64 p1))]) (st':=[(ro 0 30 3 AA s0),(ro 0 3 1 eI s1),⟨0,26,2,[[.zc,.zc]]⟩,⟨0,26,2,[[(ow 4 0 q9.cells),(ow 5 0 q9.pending)]]⟩,(ro 0 30 3 AA q9.cells),(ro 0 3 1 eI q9.pending),⟨1,30,3,[]⟩]) (id:=6) rfl (show 2≤6 by decide) (AB fun _=>U) ⟨.rfl,.rfl,.rfl,.rfl,.rfl,(.A2 U),.rfl,trivial⟩ U) ?_
      refine BJ (v':=(ow 7 0 q22)) (st':=[(ro 0 30 3 AA s0),(ro 0 3 1 eI s1),⟨0,26,2,[[.zc,.zc]]⟩,⟨0,26,2,[[(ow 4 0 q9.cells),(ow 5 0 q9.pending)]]⟩,(ro 0 30 3 AA q9.cells),(ro 0 3 1 eI q9.pending),⟨1,30,3,[]⟩,(ro 0 3 1 eI q22)]) Ae ET (Ax gq22) rfl U ⟨(BD fun _=>U),trivial⟩ U U ?_
      refine AE ⟨U,?_⟩
      exact AD (by refine Wk.trans (AL (L:=[(1,(i64 p1)),(4,(.ptr 2 0 0 0)),(6,(.ptr 3 0 0 0)),(23,(ow 0 0 s0)),(24,(i64 p1)),(31,(ow 6 0 q22)),(32,(i64 p1))]) (st':=[(ro 0 30 3 AA s0),(ro 0 3 1 eI s1),⟨0,26,2,[[.zc,.zc]]⟩,⟨0,26,2,[[(ow 4 0 q9.cells),(ow 5 0 q9.pending)]]⟩,(ro 0 30 3 AA q9.cells),(ro 0 3 1 eI q9.pending),(ro 0 3 1 eI q22)]) (st1:=[(ro 0 30 3 AA s0),(ro 0 3 1 eI s1),⟨0,26,2,[[.zc,.zc]]⟩,⟨0,26,2,[[(ow 4 0 q9.cells),(ow 5 0 q9.pending)]]⟩,(ro 0 30 3 AA q9.cells),(ro 0 3 1 eI q9.pending),(ro 0 3 1 eI q22)]) [0,1,2,3,4,5,7] U (.pure (AB fun _=>U) (.pure (AB fun _=>U) .nil)) (by decide) rfl U (.pure (AB fun _=>U) (.pure (AB fun _=>U) (.raw U U (.raw U U (.pure (AB fun _=>U) (.pure (AB fun _=>U) (.pure (AB fun _=>U) .nil))))))) ⟨.rfl,.rfl,.rfl,.rfl,.rfl,.rfl,.rfl,trivial⟩) ?_;exact AF (L:=[(1,(i64 p1)),(4,(.ptr 2 0 0 0)),(6,(.ptr 3 0 0 0)),(23,(ow 0 0 s0)),(24,(i64 p1)),(31,(ow 6 0 q22)),(32,(i64 p1))]) ⟨.rfl,.rfl,.rfl,.rfl,.rfl,.rfl,.rfl,trivial⟩) (AG (by kernel_rfl) ((hA24 _ _ _).1 A24_012789a)) rfl
     ·refine AH (i:=11) rfl U (by rfl) ?_
      refine zq tb U ?_
      refine AE ⟨U,?_⟩
      exact AD (AF (L:=[(1,(i64 p1)),(4,(.ptr 2 0 0 0)),(6,(.ptr 3 0 0 0)),(23,(ow 0 0 s0)),(24,(i64 p1)),(30,(ow 6 0 q21)),(33,(i64 (Sh.w (p1 - 1000))))]) ⟨.rfl,.rfl,.rfl,.rfl,.rfl,.rfl,.rfl,trivial⟩) (AG (by kernel_rfl) ((hA24 _ _ _).1 A24_01278ab)) rfl)
    have A24_0127ab:A24 9 #[true,true,true,false,false,false,false,true,false,false,true,true,false,false,false] ⟨42,AM [(1,(i64 p1)),(4,(.ptr 2 0 0 0)),(6,(.ptr 3 0 0 0)),(23,(ow 0 0 s0)),(24,(i64 p1)),(29,(.agg [(ow 0 0 s0),(ow 1 0 s1)])),(33,(i64 (Sh.w (p1 - 1000))))],[(ro 0 30 3 AA s0),(ro 0 3 1 eI s1),⟨0,26,2,[[.zc,.zc]]⟩,⟨0,26,2,[[(ow 4 0 q9.cells),(ow 5 0 q9.pending)]]⟩,(ro 0 30 3 AA q9.cells),(ro 0 3 1 eI q9.pending)]⟩:=(hA24 _ _ _).2 (by
     refine AJ [3,8] U (by kernel_rfl) (by decide) ⟨?_,?_,trivial⟩
     ·refine AH (i:=3) rfl U (by rfl) ?_
      refine zq tb U ?_
      refine AE ⟨U,?_⟩
      exact AD (AF (L:=[(1,(i64 p1)),(4,(.ptr 2 0 0 0)),(6,(.ptr 3 0 0 0)),(23,(ow 0 0 s0)),(25,(i64 (Sh.w (p1 - 1000)))),(29,(.agg [(ow 0 0 s0),(ow 1 0 s1)])),(33,(i64 (Sh.w (p1 - 1000))))]) ⟨.rfl,.rfl,.rfl,.rfl,.rfl,.rfl,.rfl,trivial⟩) (AG (by kernel_rfl) ((hA24 _ _ _).1 A24_01237ab)) rfl
     ·refine AH (i:=8) rfl U (by rfl) ?_
      refine Ad (rowsP:=[(ro 0 30 3 AA s0),(ro 0 3 1 eI s1)]) (rows0:=[(ro 0 30 3 AA s0),(ro 0 3 1 eI s1)]) (rows1:=[(ro 0 30 3 AA s0),(ro 0 3 1 eI s1)]) (rows2:=[(ro 0 30 3 AA q21)]) (rows1':=[(ro 0 30 3 AA s0),(ro 0 3 1 eI s1)]) (rows2':=[(ro 0 30 3 AA q21)]) (st':=[(ro 0 30 3 AA s0),(ro 0 3 1 eI s1),⟨0,26,2,[[.zc,.zc]]⟩,⟨0,26,2,[[(ow 4 0 q9.cells),(ow 5 0 q9.pending)]]⟩,(ro 0 30 3 AA q9.cells),(ro 0 3 1 eI q9.pending),(ro 0 30 3 AA q21)]) (v':=(ow 6 0 q21)) [0,1] Ae Ep (Az gq21) rfl (by decide) rfl U (.pure (AB fun _=>U) (.pure (AB fun _=>U) .nil)) rfl U (.pure (AB fun _=>U) (.pure (AB fun _=>U) .nil)) (.pure (AB fun _=>U) .nil) rfl U ?_
      refine AE ⟨U,?_⟩
      exact AD (AF (L:=[(1,(i64 p1)),(4,(.ptr 2 0 0 0)),(6,(.ptr 3 0 0 0)),(23,(ow 0 0 s0)),(24,(i64 p1)),(30,(ow 6 0 q21)),(33,(i64 (Sh.w (p1 - 1000))))]) ⟨.rfl,.rfl,.rfl,.rfl,.rfl,.rfl,.rfl,trivial⟩) (AG (by kernel_rfl) ((hA24 _ _ _).1 A24_01278ab)) rfl)
    have A24_0127a:A24 10 #[true,true,true,false,false,false,false,true,false,false,true,false,false,false,false] ⟨42,AM [(1,(i64 p1)),(4,(.ptr 2 0 0 0)),(6,(.ptr 3 0 0 0)),(23,(ow 0 0 s0)),(24,(i64 p1)),(29,(.agg [(ow 0 0 s0),(ow 1 0 s1)])),(32,(i64 p1))],[(ro 0 30 3 AA s0),(ro 0 3 1 eI s1),⟨0,26,2,[[.zc,.zc]]⟩,⟨0,26,2,[[(ow 4 0 q9.cells),(ow 5 0 q9.pending)]]⟩,(ro 0 30 3 AA q9.cells),(ro 0 3 1 eI q9.pending)]⟩:=(hA24 _ _ _).2 (by
     refine AJ [3,8,11] U (by kernel_rfl) (by decide) ⟨?_,?_,?_,trivial⟩
     ·refine AH (i:=3) rfl U (by rfl) ?_
      refine zq tb U ?_
      refine AE ⟨U,?_⟩
      exact AD (AF (L:=[(1,(i64 p1)),(4,(.ptr 2 0 0 0)),(6,(.ptr 3 0 0 0)),(23,(ow 0 0 s0)),(25,(i64 (Sh.w (p1 - 1000)))),(29,(.agg [(ow 0 0 s0),(ow 1 0 s1)])),(32,(i64 p1))]) ⟨.rfl,.rfl,.rfl,.rfl,.rfl,.rfl,.rfl,trivial⟩) (AG (by kernel_rfl) ((hA24 _ _ _).1 A24_01237a)) rfl
     ·refine AH (i:=8) rfl U (by rfl) ?_
      refine Ad (rowsP:=[(ro 0 30 3 AA s0),(ro 0 3 1 eI s1)]) (rows0:=[(ro 0 30 3 AA s0),(ro 0 3 1 eI s1)]) (rows1:=[(ro 0 30 3 AA s0),(ro 0 3 1 eI s1)]) (rows2:=[(ro 0 30 3 AA q21)]) (rows1':=[(ro 0 30 3 AA s0),(ro 0 3 1 eI s1)]) (rows2':=[(ro 0 30 3 AA q21)]) (st':=[(ro 0 30 3 AA s0),(ro 0 3 1 eI s1),⟨0,26,2,[[.zc,.zc]]⟩,⟨0,26,2,[[(ow 4 0 q9.cells),(ow 5 0 q9.pending)]]⟩,(ro 0 30 3 AA q9.cells),(ro 0 3 1 eI q9.pending),(ro 0 30 3 AA q21)]) (v':=(ow 6 0 q21)) [0,1] Ae Ep (Az gq21) rfl (by decide) rfl U (.pure (AB fun _=>U) (.pure (AB fun _=>U) .nil)) rfl U (.pure (AB fun _=>U) (.pure (AB fun _=>U) .nil)) (.pure (AB fun _=>U) .nil) rfl U ?_
      refine AE ⟨U,?_⟩
      exact AD (AF (L:=[(1,(i64 p1)),(4,(.ptr 2 0 0 0)),(6,(.ptr 3 0 0 0)),(23,(ow 0 0 s0)),(24,(i64 p1)),(30,(ow 6 0 q21)),(32,(i64 p1))]) ⟨.rfl,.rfl,.rfl,.rfl,.rfl,.rfl,.rfl,trivial⟩) (AG (by kernel_rfl) ((hA24 _ _ _).1 A24_01278a)) rfl
     ·refine AH (i:=11) rfl U (by rfl) ?_
      refine zq tb U ?_
      refine AE ⟨U,?_⟩
      exact AD (AF (L:=[(1,(i64 p1)),(4,(.ptr 2 0 0 0)),(6,(.ptr 3 0 0 0)),(23,(ow 0 0 s0)),(24,(i64 p1)),(29,(.agg [(ow 0 0 s0),(ow 1 0 s1)])),(33,(i64 (Sh.w (p1 - 1000))))]) ⟨.rfl,.rfl,.rfl,.rfl,.rfl,.rfl,.rfl,trivial⟩) (AG (by kernel_rfl) ((hA24 _ _ _).1 A24_0127ab)) rfl)
    have A24_012ab:A24 10 #[true,true,true,false,false,false,false,false,false,false,true,true,false,false,false] ⟨42,AM [(1,(i64 p1)),(2,(.ptr 2 0 0 0)),(4,(.ptr 3 0 0 0)),(6,(.ptr 4 0 0 0)),(23,(ow 0 0 s0)),(24,(i64 p1)),(33,(i64 (Sh.w (p1 - 1000))))],[(ro 0 30 3 AA s0),(ro 0 3 1 eI s1),⟨0,26,2,[[(ow 0 0 s0),(ow 1 0 s1)]]⟩,⟨0,26,2,[[.zc,.zc]]⟩,⟨0,26,2,[[(ow 5 0 q9.cells),(ow 6 0 q9.pending)]]⟩,(ro 0 30 3 AA q9.cells),(ro 0 3 1 eI q9.pending)]⟩:=(hA24 _ _ _).2 (by
     refine AJ [3,7] U (by kernel_rfl) (by decide) ⟨?_,?_,trivial⟩
     ·refine AH (i:=3) rfl U (by rfl) ?_
      refine zq tb U ?_
      refine AE ⟨U,?_⟩
      exact AD (AF (L:=[(1,(i64 p1)),(2,(.ptr 2 0 0 0)),(4,(.ptr 3 0 0 0)),(6,(.ptr 4 0 0 0)),(23,(ow 0 0 s0)),(25,(i64 (Sh.w (p1 - 1000)))),(33,(i64 (Sh.w (p1 - 1000))))]) ⟨.rfl,.rfl,.rfl,.rfl,.rfl,.rfl,.rfl,trivial⟩) (AG (by kernel_rfl) ((hA24 _ _ _).1 A24_0123ab)) rfl
     ·refine AH (i:=7) rfl U (by rfl) ?_
      refine zq tb U ?_
      refine AE ⟨U,?_⟩
      exact AD (by refine Wk.trans (AL (L:=[(1,(i64 p1)),(4,(.ptr 2 0 0 0)),(6,(.ptr 3 0 0 0)),(23,(ow 0 0 s0)),(24,(i64 p1)),(29,(.agg [(ow 0 0 s0),(ow 1 0 s1)])),(33,(i64 (Sh.w (p1 - 1000))))]) (st':=[(ro 0 30 3 AA s0),(ro 0 3 1 eI s1),⟨0,26,2,[[.zc,.zc]]⟩,⟨0,26,2,[[(ow 4 0 q9.cells),(ow 5 0 q9.pending)]]⟩,(ro 0 30 3 AA q9.cells),(ro 0 3 1 eI q9.pending)]) (st1:=[(ro 0 30 3 AA s0),(ro 0 3 1 eI s1),⟨0,26,2,[[.zc,.zc]]⟩,⟨0,26,2,[[(ow 5 0 q9.cells),(ow 6 0 q9.pending)]]⟩,(ro 0 30 3 AA q9.cells),(ro 0 3 1 eI q9.pending)]) [0,1,3,4,5,6] U (.pure (AB fun _=>U) (.pure (AB fun _=>U) .nil)) (by decide) rfl U (.pure (AB fun _=>U) (.pure (AB fun _=>U) (.raw U U (.raw U U (.pure (AB fun _=>U) (.pure (AB fun _=>U) .nil)))))) ⟨.rfl,.rfl,.rfl,.rfl,.rfl,.rfl,.rfl,trivial⟩) ?_;exact AF (L:=[(1,(i64 p1)),(4,(.ptr 2 0 0 0)),(6,(.ptr 3 0 0 0)),(23,(ow 0 0 s0)),(24,(i64 p1)),(29,(.agg [(ow 0 0 s0),(ow 1 0 s1)])),(33,(i64 (Sh.w (p1 - 1000))))]) ⟨.rfl,.rfl,.rfl,.rfl,.rfl,.rfl,.rfl,trivial⟩) (AG (by kernel_rfl) ((hA24 _ _ _).1 A24_0127ab)) rfl)
    have A24_012a:A24 11 #[true,true,true,false,false,false,false,false,false,false,true,false,false,false,false] ⟨42,AM [(1,(i64 p1)),(2,(.ptr 2 0 0 0)),(4,(.ptr 3 0 0 0)),(6,(.ptr 4 0 0 0)),(23,(ow 0 0 s0)),(24,(i64 p1)),(32,(i64 p1))],[(ro 0 30 3 AA s0),(ro 0 3 1 eI s1),⟨0,26,2,[[(ow 0 0 s0),(ow 1 0 s1)]]⟩,⟨0,26,2,[[.zc,.zc]]⟩,⟨0,26,2,[[(ow 5 0 q9.cells),(ow 6 0 q9.pending)]]⟩,(ro 0 30 3 AA q9.cells),(ro 0 3 1 eI q9.pending)]⟩:=(hA24 _ _ _).2 (by
     refine AJ [3,7,11] U (by kernel_rfl) (by decide) ⟨?_,?_,?_,trivial⟩
     ·refine AH (i:=3) rfl U (by rfl) ?_
      refine zq tb U ?_
      refine AE ⟨U,?_⟩
      exact AD (AF (L:=[(1,(i64 p1)),(2,(.ptr 2 0 0 0)),(4,(.ptr 3 0 0 0)),(6,(.ptr 4 0 0 0)),(23,(ow 0 0 s0)),(25,(i64 (Sh.w (p1 - 1000)))),(32,(i64 p1))]) ⟨.rfl,.rfl,.rfl,.rfl,.rfl,.rfl,.rfl,trivial⟩) (AG (by kernel_rfl) ((hA24 _ _ _).1 A24_0123a)) rfl
     ·refine AH (i:=7) rfl U (by rfl) ?_
      refine zq tb U ?_
      refine AE ⟨U,?_⟩
      exact AD (by refine Wk.trans (AL (L:=[(1,(i64 p1)),(4,(.ptr 2 0 0 0)),(6,(.ptr 3 0 0 0)),(23,(ow 0 0 s0)),(24,(i64 p1)),(29,(.agg [(ow 0 0 s0),(ow 1 0 s1)])),(32,(i64 p1))]) (st':=[(ro 0 30 3 AA s0),(ro 0 3 1 eI s1),⟨0,26,2,[[.zc,.zc]]⟩,⟨0,26,2,[[(ow 4 0 q9.cells),(ow 5 0 q9.pending)]]⟩,(ro 0 30 3 AA q9.cells),(ro 0 3 1 eI q9.pending)]) (st1:=[(ro 0 30 3 AA s0),(ro 0 3 1 eI s1),⟨0,26,2,[[.zc,.zc]]⟩,⟨0,26,2,[[(ow 5 0 q9.cells),(ow 6 0 q9.pending)]]⟩,(ro 0 30 3 AA q9.cells),(ro 0 3 1 eI q9.pending)]) [0,1,3,4,5,6] U (.pure (AB fun _=>U) (.pure (AB fun _=>U) .nil)) (by decide) rfl U (.pure (AB fun _=>U) (.pure (AB fun _=>U) (.raw U U (.raw U U (.pure (AB fun _=>U) (.pure (AB fun _=>U) .nil)))))) ⟨.rfl,.rfl,.rfl,.rfl,.rfl,.rfl,.rfl,trivial⟩) ?_;exact AF (L:=[(1,(i64 p1)),(4,(.ptr 2 0 0 0)),(6,(.ptr 3 0 0 0)),(23,(ow 0 0 s0)),(24,(i64 p1)),(29,(.agg [(ow 0 0 s0),(ow 1 0 s1)])),(32,(i64 p1))]) ⟨.rfl,.rfl,.rfl,.rfl,.rfl,.rfl,.rfl,trivial⟩) (AG (by kernel_rfl) ((hA24 _ _ _).1 A24_0127a)) rfl
     ·refine AH (i:=11) rfl U (by rfl) ?_
      refine zq tb U ?_
      refine AE ⟨U,?_⟩
      exact AD (AF (L:=[(1,(i64 p1)),(2,(.ptr 2 0 0 0)),(4,(.ptr 3 0 0 0)),(6,(.ptr 4 0 0 0)),(23,(ow 0 0 s0)),(24,(i64 p1)),(33,(i64 (Sh.w (p1 - 1000))))]) ⟨.rfl,.rfl,.rfl,.rfl,.rfl,.rfl,.rfl,trivial⟩) (AG (by kernel_rfl) ((hA24 _ _ _).1 A24_012ab)) rfl)
    have A24_023789abcd:A24 5 #[true,false,true,true,false,false,false,true,true,true,true,true,true,true,false] ⟨42,AM [(1,(i64 p1)),(4,(.ptr 2 0 0 0)),(6,(.ptr 3 0 0 0)),(22,(.ptr 6 0 0 0)),(25,(i64 (Sh.w (p1 - 1000)))),(35,(i64 c23))],[(ro 0 30 3 AA s0),(ro 0 3 1 eI s1),⟨0,26,2,[[.zc,.zc]]⟩,⟨0,26,2,[[(ow 4 0 q9.cells),(ow 5 0 q9.pending)]]⟩,(ro 0 30 3 AA q9.cells),(ro 0 3 1 eI q9.pending),⟨0,26,2,[[(ow 0 0 s0),(ow 1 0 s1)]]⟩]⟩:=(hA24 _ _ _).2 (by
     refine AJ [1] U (by kernel_rfl) (by decide) ⟨?_,trivial⟩
     ·refine AH (i:=1) rfl U (by rfl) ?_
      refine zq tb U ?_
      refine AE ⟨U,?_⟩
      exact AD (by refine Wk.trans (AL (L:=[(1,(i64 p1)),(4,(.ptr 2 0 0 0)),(6,(.ptr 3 0 0 0)),(23,(ow 0 0 s0)),(25,(i64 (Sh.w (p1 - 1000)))),(35,(i64 c23))]) (st':=[(ro 0 30 3 AA s0),(ro 0 3 1 eI s1),⟨0,26,2,[[.zc,.zc]]⟩,⟨0,26,2,[[(ow 4 0 q9.cells),(ow 5 0 q9.pending)]]⟩,(ro 0 30 3 AA q9.cells),(ro 0 3 1 eI q9.pending)]) (st1:=[(ro 0 30 3 AA s0),(ro 0 3 1 eI s1),⟨0,26,2,[[.zc,.zc]]⟩,⟨0,26,2,[[(ow 4 0 q9.cells),(ow 5 0 q9.pending)]]⟩,(ro 0 30 3 AA q9.cells),(ro 0 3 1 eI q9.pending)]) [0,1,2,3,4,5] U (.pure (AB fun _=>U) (.pure (AB fun _=>U) .nil)) (by decide) rfl U (.pure (AB fun _=>U) (.pure (AB fun _=>U) (.raw U U (.raw U U (.pure (AB fun _=>U) (.pure (AB fun _=>U) .nil)))))) ⟨.rfl,.rfl,.rfl,.rfl,.rfl,.rfl,trivial⟩) ?_;exact AF (L:=[(1,(i64 p1)),(4,(.ptr 2 0 0 0)),(6,(.ptr 3 0 0 0)),(23,(ow 0 0 s0)),(25,(i64 (Sh.w (p1 - 1000)))),(35,(i64 c23))]) ⟨.rfl,.rfl,.rfl,.rfl,.rfl,.rfl,trivial⟩) (AG (by kernel_rfl) ((hA24 _ _ _).1 A24_0123789abcd)) rfl)
    have A24_023789abc:A24 6 #[true,false,true,true,false,false,false,true,true,true,true,true,true,false,false] ⟨42,AM [(1,(i64 p1)),(4,(.ptr 2 0 0 0)),(6,(.ptr 3 0 0 0)),(22,(.ptr 6 0 0 0)),(25,(i64 (Sh.w (p1 - 1000)))),(34,(.ptr 7 0 (Int.toNat (Sh.w (p1 - 1000))) 0))],[(ro 0 30 3 AA s0),(ro 0 3 1 eI s1),⟨0,26,2,[[.zc,.zc]]⟩,⟨0,26,2,[[(ow 4 0 q9.cells),(ow 5 0 q9.pending)]]⟩,(ro 0 30 3 AA q9.cells),(ro 0 3 1 eI q9.pending),⟨0,26,2,[[(ow 0 0 s0),(ow 1 0 s1)]]⟩,(ro 0 3 1 eI q22)]⟩:=(hA24 _ _ _).2 (by
     refine AJ [1,13] U (by kernel_rfl) (by decide) ⟨?_,?_,trivial⟩
     ·refine AH (i:=1) rfl U (by rfl) ?_
      refine zq tb U ?_
      refine AE ⟨U,?_⟩
      exact AD (by refine Wk.trans (AL (L:=[(1,(i64 p1)),(4,(.ptr 2 0 0 0)),(6,(.ptr 3 0 0 0)),(23,(ow 0 0 s0)),(25,(i64 (Sh.w (p1 - 1000)))),(34,(.ptr 6 0 (Int.toNat (Sh.w (p1 - 1000))) 0))]) (st':=[(ro 0 30 3 AA s0),(ro 0 3 1 eI s1),⟨0,26,2,[[.zc,.zc]]⟩,⟨0,26,2,[[(ow 4 0 q9.cells),(ow 5 0 q9.pending)]]⟩,(ro 0 30 3 AA q9.cells),(ro 0 3 1 eI q9.pending),(ro 0 3 1 eI q22)]) (st1:=[(ro 0 30 3 AA s0),(ro 0 3 1 eI s1),⟨0,26,2,[[.zc,.zc]]⟩,⟨0,26,2,[[(ow 4 0 q9.cells),(ow 5 0 q9.pending)]]⟩,(ro 0 30 3 AA q9.cells),(ro 0 3 1 eI q9.pending),(ro 0 3 1 eI q22)]) [0,1,2,3,4,5,7] U (.pure (AB fun _=>U) (.pure (AB fun _=>U) .nil)) (by decide) rfl U (.pure (AB fun _=>U) (.pure (AB fun _=>U) (.raw U U (.raw U U (.pure (AB fun _=>U) (.pure (AB fun _=>U) (.pure (AB fun _=>U) .nil))))))) ⟨.rfl,.rfl,.rfl,.rfl,.rfl,.rfl,trivial⟩) ?_;exact AF (L:=[(1,(i64 p1)),(4,(.ptr 2 0 0 0)),(6,(.ptr 3 0 0 0)),(23,(ow 0 0 s0)),(25,(i64 (Sh.w (p1 - 1000)))),(34,(.ptr 6 0 (Int.toNat (Sh.w (p1 - 1000))) 0))]) ⟨.rfl,.rfl,.rfl,.rfl,.rfl,.rfl,trivial⟩) (AG (by kernel_rfl) ((hA24 _ _ _).1 A24_0123789abc)) rfl
     ·refine AH (i:=13) rfl U (by rfl) ?_
      refine zz (i64 c23) (Aw CM U U (Am gc23) rfl) rfl ?_
      refine AE ⟨U,?_⟩
      exact AD (by refine Wk.trans (AL (L:=[(1,(i64 p1)),(4,(.ptr 2 0 0 0)),(6,(.ptr 3 0 0 0)),(22,(.ptr 6 0 0 0)),(25,(i64 (Sh.w (p1 - 1000)))),(35,(i64 c23))]) (st':=[(ro 0 30 3 AA s0),(ro 0 3 1 eI s1),⟨0,26,2,[[.zc,.zc]]⟩,⟨0,26,2,[[(ow 4 0 q9.cells),(ow 5 0 q9.pending)]]⟩,(ro 0 30 3 AA q9.cells),(ro 0 3 1 eI q9.pending),⟨0,26,2,[[(ow 0 0 s0),(ow 1 0 s1)]]⟩]) (st1:=[(ro 0 30 3 AA s0),(ro 0 3 1 eI s1),⟨0,26,2,[[.zc,.zc]]⟩,⟨0,26,2,[[(ow 4 0 q9.cells),(ow 5 0 q9.pending)]]⟩,(ro 0 30 3 AA q9.cells),(ro 0 3 1 eI q9.pending),⟨0,26,2,[[(ow 0 0 s0),(ow 1 0 s1)]]⟩]) [0,1,2,3,4,5,6] U (.pure (AB fun _=>U) (.pure (AB fun _=>U) .nil)) (by decide) rfl U (.pure (AB fun _=>U) (.pure (AB fun _=>U) (.raw U U (.raw U U (.pure (AB fun _=>U) (.pure (AB fun _=>U) (.raw U U .nil))))))) ⟨.rfl,.rfl,.rfl,.rfl,.rfl,.rfl,trivial⟩) ?_;exact AF (L:=[(1,(i64 p1)),(4,(.ptr 2 0 0 0)),(6,(.ptr 3 0 0 0)),(22,(.ptr 6 0 0 0)),(25,(i64 (Sh.w (p1 - 1000)))),(35,(i64 c23))]) ⟨.rfl,.rfl,.rfl,.rfl,.rfl,.rfl,trivial⟩) (AG (by kernel_rfl) ((hA24 _ _ _).1 A24_023789abcd)) rfl)
    have A24_023789ab:A24 7 #[true,false,true,true,false,false,false,true,true,true,true,true,false,false,false] ⟨42,AM [(1,(i64 p1)),(4,(.ptr 2 0 0 0)),(6,(.ptr 3 0 0 0)),(22,(.ptr 6 0 0 0)),(25,(i64 (Sh.w (p1 - 1000)))),(31,(ow 7 0 q22)),(33,(i64 (Sh.w (p1 - 1000))))],[(ro 0 30 3 AA s0),(ro 0 3 1 eI s1),⟨0,26,2,[[.zc,.zc]]⟩,⟨0,26,2,[[(ow 4 0 q9.cells),(ow 5 0 q9.pending)]]⟩,(ro 0 30 3 AA q9.cells),(ro 0 3 1 eI q9.pending),⟨0,26,2,[[(ow 0 0 s0),(ow 1 0 s1)]]⟩,(ro 0 3 1 eI q22)]⟩:=(hA24 _ _ _).2 (by
     refine AJ [1,12] U (by kernel_rfl) (by decide) ⟨?_,?_,trivial⟩
     ·refine AH (i:=1) rfl U (by rfl) ?_
      refine zq tb U ?_
      refine AE ⟨U,?_⟩
      exact AD (by refine Wk.trans (AL (L:=[(1,(i64 p1)),(4,(.ptr 2 0 0 0)),(6,(.ptr 3 0 0 0)),(23,(ow 0 0 s0)),(25,(i64 (Sh.w (p1 - 1000)))),(31,(ow 6 0 q22)),(33,(i64 (Sh.w (p1 - 1000))))]) (st':=[(ro 0 30 3 AA s0),(ro 0 3 1 eI s1),⟨0,26,2,[[.zc,.zc]]⟩,⟨0,26,2,[[(ow 4 0 q9.cells),(ow 5 0 q9.pending)]]⟩,(ro 0 30 3 AA q9.cells),(ro 0 3 1 eI q9.pending),(ro 0 3 1 eI q22)]) (st1:=[(ro 0 30 3 AA s0),(ro 0 3 1 eI s1),⟨0,26,2,[[.zc,.zc]]⟩,⟨0,26,2,[[(ow 4 0 q9.cells),(ow 5 0 q9.pending)]]⟩,(ro 0 30 3 AA q9.cells),(ro 0 3 1 eI q9.pending),(ro 0 3 1 eI q22)]) [0,1,2,3,4,5,7] U (.pure (AB fun _=>U) (.pure (AB fun _=>U) .nil)) (by decide) rfl U (.pure (AB fun _=>U) (.pure (AB fun _=>U) (.raw U U (.raw U U (.pure (AB fun _=>U) (.pure (AB fun _=>U) (.pure (AB fun _=>U) .nil))))))) ⟨.rfl,.rfl,.rfl,.rfl,.rfl,.rfl,.rfl,trivial⟩) ?_;exact AF (L:=[(1,(i64 p1)),(4,(.ptr 2 0 0 0)),(6,(.ptr 3 0 0 0)),(23,(ow 0 0 s0)),(25,(i64 (Sh.w (p1 - 1000)))),(31,(ow 6 0 q22)),(33,(i64 (Sh.w (p1 - 1000))))]) ⟨.rfl,.rfl,.rfl,.rfl,.rfl,.rfl,.rfl,trivial⟩) (AG (by kernel_rfl) ((hA24 _ _ _).1 A24_0123789ab)) rfl
     ·refine AH (i:=12) rfl U (by rfl) ?_
      refine zz (.ptr 7 0 (Int.toNat (Sh.w (p1 - 1000))) 0) (An Av U U U U gc23) rfl ?_
      refine AE ⟨U,?_⟩
      exact AD (AF (L:=[(1,(i64 p1)),(4,(.ptr 2 0 0 0)),(6,(.ptr 3 0 0 0)),(22,(.ptr 6 0 0 0)),(25,(i64 (Sh.w (p1 - 1000)))),(34,(.ptr 7 0 (Int.toNat (Sh.w (p1 - 1000))) 0))]) ⟨.rfl,.rfl,.rfl,.rfl,.rfl,.rfl,trivial⟩) (AG (by kernel_rfl) ((hA24 _ _ _).1 A24_023789abc)) rfl)
    have A24_023789a:A24 8 #[true,false,true,true,false,false,false,true,true,true,true,false,false,false,false] ⟨42,AM [(1,(i64 p1)),(4,(.ptr 2 0 0 0)),(6,(.ptr 3 0 0 0)),(22,(.ptr 6 0 0 0)),(25,(i64 (Sh.w (p1 - 1000)))),(31,(ow 7 0 q22)),(32,(i64 p1))],[(ro 0 30 3 AA s0),(ro 0 3 1 eI s1),⟨0,26,2,[[.zc,.zc]]⟩,⟨0,26,2,[[(ow 4 0 q9.cells),(ow 5 0 q9.pending)]]⟩,(ro 0 30 3 AA q9.cells),(ro 0 3 1 eI q9.pending),⟨0,26,2,[[(ow 0 0 s0),(ow 1 0 s1)]]⟩,(ro 0 3 1 eI q22)]⟩:=(hA24 _ _ _).2 (by
     refine AJ [1,11] U (by kernel_rfl) (by decide) ⟨?_,?_,trivial⟩
     ·refine AH (i:=1) rfl U (by rfl) ?_
      refine zq tb U ?_
      refine AE ⟨U,?_⟩
      exact AD (by refine Wk.trans (AL (L:=[(1,(i64 p1)),(4,(.ptr 2 0 0 0)),(6,(.ptr 3 0 0 0)),(23,(ow 0 0 s0)),(25,(i64 (Sh.w (p1 - 1000)))),(31,(ow 6 0 q22)),(32,(i64 p1))]) (st':=[(ro 0 30 3 AA s0),(ro 0 3 1 eI s1),⟨0,26,2,[[.zc,.zc]]⟩,⟨0,26,2,[[(ow 4 0 q9.cells),(ow 5 0 q9.pending)]]⟩,(ro 0 30 3 AA q9.cells),(ro 0 3 1 eI q9.pending),(ro 0 3 1 eI q22)]) (st1:=[(ro 0 30 3 AA s0),(ro 0 3 1 eI s1),⟨0,26,2,[[.zc,.zc]]⟩,⟨0,26,2,[[(ow 4 0 q9.cells),(ow 5 0 q9.pending)]]⟩,(ro 0 30 3 AA q9.cells),(ro 0 3 1 eI q9.pending),(ro 0 3 1 eI q22)]) [0,1,2,3,4,5,7] U (.pure (AB fun _=>U) (.pure (AB fun _=>U) .nil)) (by decide) rfl U (.pure (AB fun _=>U) (.pure (AB fun _=>U) (.raw U U (.raw U U (.pure (AB fun _=>U) (.pure (AB fun _=>U) (.pure (AB fun _=>U) .nil))))))) ⟨.rfl,.rfl,.rfl,.rfl,.rfl,.rfl,.rfl,trivial⟩) ?_;exact AF (L:=[(1,(i64 p1)),(4,(.ptr 2 0 0 0)),(6,(.ptr 3 0 0 0)),(23,(ow 0 0 s0)),(25,(i64 (Sh.w (p1 - 1000)))),(31,(ow 6 0 q22)),(32,(i64 p1))]) ⟨.rfl,.rfl,.rfl,.rfl,.rfl,.rfl,.rfl,trivial⟩) (AG (by kernel_rfl) ((hA24 _ _ _).1 A24_0123789a)) rfl
     ·refine AH (i:=11) rfl U (by rfl) ?_
      refine zq tb U ?_
      refine AE ⟨U,?_⟩
      exact AD (AF (L:=[(1,(i64 p1)),(4,(.ptr 2 0 0 0)),(6,(.ptr 3 0 0 0)),(22,(.ptr 6 0 0 0)),(25,(i64 (Sh.w (p1 - 1000)))),(31,(ow 7 0 q22)),(33,(i64 (Sh.w (p1 - 1000))))]) ⟨.rfl,.rfl,.rfl,.rfl,.rfl,.rfl,.rfl,trivial⟩) (AG (by kernel_rfl) ((hA24 _ _ _).1 A24_023789ab)) rfl)
    have A24_02378ab:A24 8 #[true,false,true,true,false,false,false,true,true,false,true,true,false,false,false] ⟨42,AM [(1,(i64 p1)),(4,(.ptr 2 0 0 0)),(6,(.ptr 3 0 0 0)),(22,(.ptr 6 0 0 0)),(25,(i64 (Sh.w (p1 - 1000)))),(30,(ow 7 0 q21)),(33,(i64 (Sh.w (p1 - 1000))))],[(ro 0 30 3 AA s0),(ro 0 3 1 eI s1),⟨0,26,2,[[.zc,.zc]]⟩,⟨0,26,2,[[(ow 4 0 q9.cells),(ow 5 0 q9.pending)]]⟩,(ro 0 30 3 AA q9.cells),(ro 0 3 1 eI q9.pending),⟨0,26,2,[[(ow 0 0 s0),(ow 1 0 s1)]]⟩,(ro 0 30 3 AA q21)]⟩:=(hA24 _ _ _).2 (by
     refine AJ [1,9] U (by kernel_rfl) (by decide) ⟨?_,?_,trivial⟩
     ·refine AH (i:=1) rfl U (by rfl) ?_
      refine zq tb U ?_
      refine AE ⟨U,?_⟩
      exact AD (by refine Wk.trans (AL (L:=[(1,(i64 p1)),(4,(.ptr 2 0 0 0)),(6,(.ptr 3 0 0 0)),(23,(ow 0 0 s0)),(25,(i64 (Sh.w (p1 - 1000)))),(30,(ow 6 0 q21)),(33,(i64 (Sh.w (p1 - 1000))))]) (st':=[(ro 0 30 3 AA s0),(ro 0 3 1 eI s1),⟨0,26,2,[[.zc,.zc]]⟩,⟨0,26,2,[[(ow 4 0 q9.cells),(ow 5 0 q9.pending)]]⟩,(ro 0 30 3 AA q9.cells),(ro 0 3 1 eI q9.pending),(ro 0 30 3 AA q21)]) (st1:=[(ro 0 30 3 AA s0),(ro 0 3 1 eI s1),⟨0,26,2,[[.zc,.zc]]⟩,⟨0,26,2,[[(ow 4 0 q9.cells),(ow 5 0 q9.pending)]]⟩,(ro 0 30 3 AA q9.cells),(ro 0 3 1 eI q9.pending),(ro 0 30 3 AA q21)]) [0,1,2,3,4,5,7] U (.pure (AB fun _=>U) (.pure (AB fun _=>U) .nil)) (by decide) rfl U (.pure (AB fun _=>U) (.pure (AB fun _=>U) (.raw U U (.raw U U (.pure (AB fun _=>U) (.pure (AB fun _=>U) (.pure (AB fun _=>U) .nil))))))) ⟨.rfl,.rfl,.rfl,.rfl,.rfl,.rfl,.rfl,trivial⟩) ?_;exact AF (L:=[(1,(i64 p1)),(4,(.ptr 2 0 0 0)),(6,(.ptr 3 0 0 0)),(23,(ow 0 0 s0)),(25,(i64 (Sh.w (p1 - 1000)))),(30,(ow 6 0 q21)),(33,(i64 (Sh.w (p1 - 1000))))]) ⟨.rfl,.rfl,.rfl,.rfl,.rfl,.rfl,.rfl,trivial⟩) (AG (by kernel_rfl) ((hA24 _ _ _).1 A24_012378ab)) rfl
     ·refine AH (i:=9) rfl U (by rfl) ?_
      refine Af (Wk.A2 (L:=[(1,(i64 p1)),(4,(.ptr 2 0 0 0)),(6,(.ptr 3 0 0 0)),(22,(.ptr 6 0 0 0)),(25,(i64 (Sh.w (p1 - 1000)))),(30,(ls AA q21)),(33,(i64 (Sh.w (p1 - 1000))))]) (st':=[(ro 0 30 3 AA s0),(ro 0 3 1 eI s1),⟨0,26,2,[[.zc,.zc]]⟩,⟨0,26,2,[[(ow 4 0 q9.cells),(ow 5 0 q9.pending)]]⟩,(ro 0 30 3 AA q9.cells),(ro 0 3 1 eI q9.pending),⟨0,26,2,[[(ow 0 0 s0),(ow 1 0 s1)]]⟩,⟨1,30,3,[]⟩]) (id:=7) rfl (show 2≤7 by decide) (AB fun _=>U) ⟨.rfl,.rfl,.rfl,.rfl,.rfl,(.A2 U),.rfl,trivial⟩ U) ?_
      refine BJ (v':=(ow 8 0 q22)) (st':=[(ro 0 30 3 AA s0),(ro 0 3 1 eI s1),⟨0,26,2,[[.zc,.zc]]⟩,⟨0,26,2,[[(ow 4 0 q9.cells),(ow 5 0 q9.pending)]]⟩,(ro 0 30 3 AA q9.cells),(ro 0 3 1 eI q9.pending),⟨0,26,2,[[(ow 0 0 s0),(ow 1 0 s1)]]⟩,⟨1,30,3,[]⟩,(ro 0 3 1 eI q22)]) Ae ET (Ax gq22) rfl U ⟨(BD fun _=>U),trivial⟩ U U ?_
      refine AE ⟨U,?_⟩
      exact AD (by refine Wk.trans (AL (L:=[(1,(i64 p1)),(4,(.ptr 2 0 0 0)),(6,(.ptr 3 0 0 0)),(22,(.ptr 6 0 0 0)),(25,(i64 (Sh.w (p1 - 1000)))),(31,(ow 7 0 q22)),(33,(i64 (Sh.w (p1 - 1000))))]) (st':=[(ro 0 30 3 AA s0),(ro 0 3 1 eI s1),⟨0,26,2,[[.zc,.zc]]⟩,⟨0,26,2,[[(ow 4 0 q9.cells),(ow 5 0 q9.pending)]]⟩,(ro 0 30 3 AA q9.cells),(ro 0 3 1 eI q9.pending),⟨0,26,2,[[(ow 0 0 s0),(ow 1 0 s1)]]⟩,(ro 0 3 1 eI q22)]) (st1:=[(ro 0 30 3 AA s0),(ro 0 3 1 eI s1),⟨0,26,2,[[.zc,.zc]]⟩,⟨0,26,2,[[(ow 4 0 q9.cells),(ow 5 0 q9.pending)]]⟩,(ro 0 30 3 AA q9.cells),(ro 0 3 1 eI q9.pending),⟨0,26,2,[[(ow 0 0 s0),(ow 1 0 s1)]]⟩,(ro 0 3 1 eI q22)]) [0,1,2,3,4,5,6,8] U (.pure (AB fun _=>U) (.pure (AB fun _=>U) .nil)) (by decide) rfl U (.pure (AB fun _=>U) (.pure (AB fun _=>U) (.raw U U (.raw U U (.pure (AB fun _=>U) (.pure (AB fun _=>U) (.raw U U (.pure (AB fun _=>U) .nil)))))))) ⟨.rfl,.rfl,.rfl,.rfl,.rfl,.rfl,.rfl,trivial⟩) ?_;exact AF (L:=[(1,(i64 p1)),(4,(.ptr 2 0 0 0)),(6,(.ptr 3 0 0 0)),(22,(.ptr 6 0 0 0)),(25,(i64 (Sh.w (p1 - 1000)))),(31,(ow 7 0 q22)),(33,(i64 (Sh.w (p1 - 1000))))]) ⟨.rfl,.rfl,.rfl,.rfl,.rfl,.rfl,.rfl,trivial⟩) (AG (by kernel_rfl) ((hA24 _ _ _).1 A24_023789ab)) rfl)
    have A24_02378a:A24 9 #[true,false,true,true,false,false,false,true,true,false,true,false,false,false,false] ⟨42,AM [(1,(i64 p1)),(4,(.ptr 2 0 0 0)),(6,(.ptr 3 0 0 0)),(22,(.ptr 6 0 0 0)),(25,(i64 (Sh.w (p1 - 1000)))),(30,(ow 7 0 q21)),(32,(i64 p1))],[(ro 0 30 3 AA s0),(ro 0 3 1 eI s1),⟨0,26,2,[[.zc,.zc]]⟩,⟨0,26,2,[[(ow 4 0 q9.cells),(ow 5 0 q9.pending)]]⟩,(ro 0 30 3 AA q9.cells),(ro 0 3 1 eI q9.pending),⟨0,26,2,[[(ow 0 0 s0),(ow 1 0 s1)]]⟩,(ro 0 30 3 AA q21)]⟩:=(hA24 _ _ _).2 (by
     refine AJ [1,9,11] U (by kernel_rfl) (by decide) ⟨?_,?_,?_,trivial⟩
     ·refine AH (i:=1) rfl U (by rfl) ?_
      refine zq tb U ?_
      refine AE ⟨U,?_⟩
      exact AD (by refine Wk.trans (AL (L:=[(1,(i64 p1)),(4,(.ptr 2 0 0 0)),(6,(.ptr 3 0 0 0)),(23,(ow 0 0 s0)),(25,(i64 (Sh.w (p1 - 1000)))),(30,(ow 6 0 q21)),(32,(i64 p1))]) (st':=[(ro 0 30 3 AA s0),(ro 0 3 1 eI s1),⟨0,26,2,[[.zc,.zc]]⟩,⟨0,26,2,[[(ow 4 0 q9.cells),(ow 5 0 q9.pending)]]⟩,(ro 0 30 3 AA q9.cells),(ro 0 3 1 eI q9.pending),(ro 0 30 3 AA q21)]) (st1:=[(ro 0 30 3 AA s0),(ro 0 3 1 eI s1),⟨0,26,2,[[.zc,.zc]]⟩,⟨0,26,2,[[(ow 4 0 q9.cells),(ow 5 0 q9.pending)]]⟩,(ro 0 30 3 AA q9.cells),(ro 0 3 1 eI q9.pending),(ro 0 30 3 AA q21)]) [0,1,2,3,4,5,7] U (.pure (AB fun _=>U) (.pure (AB fun _=>U) .nil)) (by decide) rfl U (.pure (AB fun _=>U) (.pure (AB fun _=>U) (.raw U U (.raw U U (.pure (AB fun _=>U) (.pure (AB fun _=>U) (.pure (AB fun _=>U) .nil))))))) ⟨.rfl,.rfl,.rfl,.rfl,.rfl,.rfl,.rfl,trivial⟩) ?_;exact AF (L:=[(1,(i64 p1)),(4,(.ptr 2 0 0 0)),(6,(.ptr 3 0 0 0)),(23,(ow 0 0 s0)),(25,(i64 (Sh.w (p1 - 1000)))),(30,(ow 6 0 q21)),(32,(i64 p1))]) ⟨.rfl,.rfl,.rfl,.rfl,.rfl,.rfl,.rfl,trivial⟩) (AG (by kernel_rfl) ((hA24 _ _ _).1 A24_012378a)) rfl
     ·refine AH (i:=9) rfl U (by rfl) ?_
      refine Af (Wk.A2 (L:=[(1,(i64 p1)),(4,(.ptr 2 0 0 0)),(6,(.ptr 3 0 0 0)),(22,(.ptr 6 0 0 0)),(25,(i64 (Sh.w (p1 - 1000)))),(30,(ls AA q21)),(32,(i64 p1))]) (st':=[(ro 0 30 3 AA s0),(ro 0 3 1 eI s1),⟨0,26,2,[[.zc,.zc]]⟩,⟨0,26,2,[[(ow 4 0 q9.cells),(ow 5 0 q9.pending)]]⟩,(ro 0 30 3 AA q9.cells),(ro 0 3 1 eI q9.pending),⟨0,26,2,[[(ow 0 0 s0),(ow 1 0 s1)]]⟩,⟨1,30,3,[]⟩]) (id:=7) rfl (show 2≤7 by decide) (AB fun _=>U) ⟨.rfl,.rfl,.rfl,.rfl,.rfl,(.A2 U),.rfl,trivial⟩ U) ?_
      refine BJ (v':=(ow 8 0 q22)) (st':=[(ro 0 30 3 AA s0),(ro 0 3 1 eI s1),⟨0,26,2,[[.zc,.zc]]⟩,⟨0,26,2,[[(ow 4 0 q9.cells),(ow 5 0 q9.pending)]]⟩,(ro 0 30 3 AA q9.cells),(ro 0 3 1 eI q9.pending),⟨0,26,2,[[(ow 0 0 s0),(ow 1 0 s1)]]⟩,⟨1,30,3,[]⟩,(ro 0 3 1 eI q22)]) Ae ET (Ax gq22) rfl U ⟨(BD fun _=>U),trivial⟩ U U ?_
      refine AE ⟨U,?_⟩
      exact AD (by refine Wk.trans (AL (L:=[(1,(i64 p1)),(4,(.ptr 2 0 0 0)),(6,(.ptr 3 0 0 0)),(22,(.ptr 6 0 0 0)),(25,(i64 (Sh.w (p1 - 1000)))),(31,(ow 7 0 q22)),(32,(i64 p1))]) (st':=[(ro 0 30 3 AA s0),(ro 0 3 1 eI s1),⟨0,26,2,[[.zc,.zc]]⟩,⟨0,26,2,[[(ow 4 0 q9.cells),(ow 5 0 q9.pending)]]⟩,(ro 0 30 3 AA q9.cells),(ro 0 3 1 eI q9.pending),⟨0,26,2,[[(ow 0 0 s0),(ow 1 0 s1)]]⟩,(ro 0 3 1 eI q22)]) (st1:=[(ro 0 30 3 AA s0),(ro 0 3 1 eI s1),⟨0,26,2,[[.zc,.zc]]⟩,⟨0,26,2,[[(ow 4 0 q9.cells),(ow 5 0 q9.pending)]]⟩,(ro 0 30 3 AA q9.cells),(ro 0 3 1 eI q9.pending),⟨0,26,2,[[(ow 0 0 s0),(ow 1 0 s1)]]⟩,(ro 0 3 1 eI q22)]) [0,1,2,3,4,5,6,8] U (.pure (AB fun _=>U) (.pure (AB fun _=>U) .nil)) (by decide) rfl U (.pure (AB fun _=>U) (.pure (AB fun _=>U) (.raw U U (.raw U U (.pure (AB fun _=>U) (.pure (AB fun _=>U) (.raw U U (.pure (AB fun _=>U) .nil)))))))) ⟨.rfl,.rfl,.rfl,.rfl,.rfl,.rfl,.rfl,trivial⟩) ?_;exact AF (L:=[(1,(i64 p1)),(4,(.ptr 2 0 0 0)),(6,(.ptr 3 0 0 0)),(22,(.ptr 6 0 0 0)),(25,(i64 (Sh.w (p1 - 1000)))),(31,(ow 7 0 q22)),(32,(i64 p1))]) ⟨.rfl,.rfl,.rfl,.rfl,.rfl,.rfl,.rfl,trivial⟩) (AG (by kernel_rfl) ((hA24 _ _ _).1 A24_023789a)) rfl
     ·refine AH (i:=11) rfl U (by rfl) ?_
      refine zq tb U ?_
      refine AE ⟨U,?_⟩
      exact AD (AF (L:=[(1,(i64 p1)),(4,(.ptr 2 0 0 0)),(6,(.ptr 3 0 0 0)),(22,(.ptr 6 0 0 0)),(25,(i64 (Sh.w (p1 - 1000)))),(30,(ow 7 0 q21)),(33,(i64 (Sh.w (p1 - 1000))))]) ⟨.rfl,.rfl,.rfl,.rfl,.rfl,.rfl,.rfl,trivial⟩) (AG (by kernel_rfl) ((hA24 _ _ _).1 A24_02378ab)) rfl)
    have A24_0237ab:A24 9 #[true,false,true,true,false,false,false,true,false,false,true,true,false,false,false] ⟨42,AM [(1,(i64 p1)),(4,(.ptr 2 0 0 0)),(6,(.ptr 3 0 0 0)),(22,(.ptr 6 0 0 0)),(25,(i64 (Sh.w (p1 - 1000)))),(29,(.agg [(ow 0 0 s0),(ow 1 0 s1)])),(33,(i64 (Sh.w (p1 - 1000))))],[(ro 0 30 3 AA s0),(ro 0 3 1 eI s1),⟨0,26,2,[[.zc,.zc]]⟩,⟨0,26,2,[[(ow 4 0 q9.cells),(ow 5 0 q9.pending)]]⟩,(ro 0 30 3 AA q9.cells),(ro 0 3 1 eI q9.pending),⟨0,26,2,[[(ow 0 0 s0),(ow 1 0 s1)]]⟩]⟩:=(hA24 _ _ _).2 (by
     refine AJ [1,8] U (by kernel_rfl) (by decide) ⟨?_,?_,trivial⟩
     ·refine AH (i:=1) rfl U (by rfl) ?_
      refine zq tb U ?_
      refine AE ⟨U,?_⟩
      exact AD (by refine Wk.trans (AL (L:=[(1,(i64 p1)),(4,(.ptr 2 0 0 0)),(6,(.ptr 3 0 0 0)),(23,(ow 0 0 s0)),(25,(i64 (Sh.w (p1 - 1000)))),(29,(.agg [(ow 0 0 s0),(ow 1 0 s1)])),(33,(i64 (Sh.w (p1 - 1000))))]) (st':=[(ro 0 30 3 AA s0),(ro 0 3 1 eI s1),⟨0,26,2,[[.zc,.zc]]⟩,⟨0,26,2,[[(ow 4 0 q9.cells),(ow 5 0 q9.pending)]]⟩,(ro 0 30 3 AA q9.cells),(ro 0 3 1 eI q9.pending)]) (st1:=[(ro 0 30 3 AA s0),(ro 0 3 1 eI s1),⟨0,26,2,[[.zc,.zc]]⟩,⟨0,26,2,[[(ow 4 0 q9.cells),(ow 5 0 q9.pending)]]⟩,(ro 0 30 3 AA q9.cells),(ro 0 3 1 eI q9.pending)]) [0,1,2,3,4,5] U (.pure (AB fun _=>U) (.pure (AB fun _=>U) .nil)) (by decide) rfl U (.pure (AB fun _=>U) (.pure (AB fun _=>U) (.raw U U (.raw U U (.pure (AB fun _=>U) (.pure (AB fun _=>U) .nil)))))) ⟨.rfl,.rfl,.rfl,.rfl,.rfl,.rfl,.rfl,trivial⟩) ?_;exact AF (L:=[(1,(i64 p1)),(4,(.ptr 2 0 0 0)),(6,(.ptr 3 0 0 0)),(23,(ow 0 0 s0)),(25,(i64 (Sh.w (p1 - 1000)))),(29,(.agg [(ow 0 0 s0),(ow 1 0 s1)])),(33,(i64 (Sh.w (p1 - 1000))))]) ⟨.rfl,.rfl,.rfl,.rfl,.rfl,.rfl,.rfl,trivial⟩) (AG (by kernel_rfl) ((hA24 _ _ _).1 A24_01237ab)) rfl
     ·refine AH (i:=8) rfl U (by rfl) ?_
      refine Ad (rowsP:=[(ro 0 30 3 AA s0),(ro 0 3 1 eI s1)]) (rows0:=[(ro 0 30 3 AA s0),(ro 0 3 1 eI s1)]) (rows1:=[(ro 0 30 3 AA s0),(ro 0 3 1 eI s1)]) (rows2:=[(ro 0 30 3 AA q21)]) (rows1':=[(ro 0 30 3 AA s0),(ro 0 3 1 eI s1)]) (rows2':=[(ro 0 30 3 AA q21)]) (st':=[(ro 0 30 3 AA s0),(ro 0 3 1 eI s1),⟨0,26,2,[[.zc,.zc]]⟩,⟨0,26,2,[[(ow 4 0 q9.cells),(ow 5 0 q9.pending)]]⟩,(ro 0 30 3 AA q9.cells),(ro 0 3 1 eI q9.pending),⟨0,26,2,[[(ow 0 0 s0),(ow 1 0 s1)]]⟩,(ro 0 30 3 AA q21)]) (v':=(ow 7 0 q21)) [0,1] Ae Ep (Az gq21) rfl (by decide) rfl U (.pure (AB fun _=>U) (.pure (AB fun _=>U) .nil)) rfl U (.pure (AB fun _=>U) (.pure (AB fun _=>U) .nil)) (.pure (AB fun _=>U) .nil) rfl U ?_
      refine AE ⟨U,?_⟩
      exact AD (AF (L:=[(1,(i64 p1)),(4,(.ptr 2 0 0 0)),(6,(.ptr 3 0 0 0)),(22,(.ptr 6 0 0 0)),(25,(i64 (Sh.w (p1 - 1000)))),(30,(ow 7 0 q21)),(33,(i64 (Sh.w (p1 - 1000))))]) ⟨.rfl,.rfl,.rfl,.rfl,.rfl,.rfl,.rfl,trivial⟩) (AG (by kernel_rfl) ((hA24 _ _ _).1 A24_02378ab)) rfl)
    have A24_0237a:A24 10 #[true,false,true,true,false,false,false,true,false,false,true,false,false,false,false] ⟨42,AM [(1,(i64 p1)),(4,(.ptr 2 0 0 0)),(6,(.ptr 3 0 0 0)),(22,(.ptr 6 0 0 0)),(25,(i64 (Sh.w (p1 - 1000)))),(29,(.agg [(ow 0 0 s0),(ow 1 0 s1)])),(32,(i64 p1))],[(ro 0 30 3 AA s0),(ro 0 3 1 eI s1),⟨0,26,2,[[.zc,.zc]]⟩,⟨0,26,2,[[(ow 4 0 q9.cells),(ow 5 0 q9.pending)]]⟩,(ro 0 30 3 AA q9.cells),(ro 0 3 1 eI q9.pending),⟨0,26,2,[[(ow 0 0 s0),(ow 1 0 s1)]]⟩]⟩:=(hA24 _ _ _).2 (by
     refine AJ [1,8,11] U (by kernel_rfl) (by decide) ⟨?_,?_,?_,trivial⟩
     ·refine AH (i:=1) rfl U (by rfl) ?_
      refine zq tb U ?_
      refine AE ⟨U,?_⟩
      exact AD (by refine Wk.trans (AL (L:=[(1,(i64 p1)),(4,(.ptr 2 0 0 0)),(6,(.ptr 3 0 0 0)),(23,(ow 0 0 s0)),(25,(i64 (Sh.w (p1 - 1000)))),(29,(.agg [(ow 0 0 s0),(ow 1 0 s1)])),(32,(i64 p1))]) (st':=[(ro 0 30 3 AA s0),(ro 0 3 1 eI s1),⟨0,26,2,[[.zc,.zc]]⟩,⟨0,26,2,[[(ow 4 0 q9.cells),(ow 5 0 q9.pending)]]⟩,(ro 0 30 3 AA q9.cells),(ro 0 3 1 eI q9.pending)]) (st1:=[(ro 0 30 3 AA s0),(ro 0 3 1 eI s1),⟨0,26,2,[[.zc,.zc]]⟩,⟨0,26,2,[[(ow 4 0 q9.cells),(ow 5 0 q9.pending)]]⟩,(ro 0 30 3 AA q9.cells),(ro 0 3 1 eI q9.pending)]) [0,1,2,3,4,5] U (.pure (AB fun _=>U) (.pure (AB fun _=>U) .nil)) (by decide) rfl U (.pure (AB fun _=>U) (.pure (AB fun _=>U) (.raw U U (.raw U U (.pure (AB fun _=>U) (.pure (AB fun _=>U) .nil)))))) ⟨.rfl,.rfl,.rfl,.rfl,.rfl,.rfl,.rfl,trivial⟩) ?_;exact AF (L:=[(1,(i64 p1)),(4,(.ptr 2 0 0 0)),(6,(.ptr 3 0 0 0)),(23,(ow 0 0 s0)),(25,(i64 (Sh.w (p1 - 1000)))),(29,(.agg [(ow 0 0 s0),(ow 1 0 s1)])),(32,(i64 p1))]) ⟨.rfl,.rfl,.rfl,.rfl,.rfl,.rfl,.rfl,trivial⟩) (AG (by kernel_rfl) ((hA24 _ _ _).1 A24_01237a)) rfl
     ·refine AH (i:=8) rfl U (by rfl) ?_
      refine Ad (rowsP:=[(ro 0 30 3 AA s0),(ro 0 3 1 eI s1)]) (rows0:=[(ro 0 30 3 AA s0),(ro 0 3 1 eI s1)]) (rows1:=[(ro 0 30 3 AA s0),(ro 0 3 1 eI s1)]) (rows2:=[(ro 0 30 3 AA q21)]) (rows1':=[(ro 0 30 3 AA s0),(ro 0 3 1 eI s1)]) (rows2':=[(ro 0 30 3 AA q21)]) (st':=[(ro 0 30 3 AA s0),(ro 0 3 1 eI s1),⟨0,26,2,[[.zc,.zc]]⟩,⟨0,26,2,[[(ow 4 0 q9.cells),(ow 5 0 q9.pending)]]⟩,(ro 0 30 3 AA q9.cells),(ro 0 3 1 eI q9.pending),⟨0,26,2,[[(ow 0 0 s0),(ow 1 0 s1)]]⟩,(ro 0 30 3 AA q21)]) (v':=(ow 7 0 q21)) [0,1] Ae Ep (Az gq21) rfl (by decide) rfl U (.pure (AB fun _=>U) (.pure (AB fun _=>U) .nil)) rfl U (.pure (AB fun _=>U) (.pure (AB fun _=>U) .nil)) (.pure (AB fun _=>U) .nil) rfl U ?_
      refine AE ⟨U,?_⟩
      exact AD (AF (L:=[(1,(i64 p1)),(4,(.ptr 2 0 0 0)),(6,(.ptr 3 0 0 0)),(22,(.ptr 6 0 0 0)),(25,(i64 (Sh.w (p1 - 1000)))),(30,(ow 7 0 q21)),(32,(i64 p1))]) ⟨.rfl,.rfl,.rfl,.rfl,.rfl,.rfl,.rfl,trivial⟩) (AG (by kernel_rfl) ((hA24 _ _ _).1 A24_02378a)) rfl
     ·refine AH (i:=11) rfl U (by rfl) ?_
      refine zq tb U ?_
      refine AE ⟨U,?_⟩
      exact AD (AF (L:=[(1,(i64 p1)),(4,(.ptr 2 0 0 0)),(6,(.ptr 3 0 0 0)),(22,(.ptr 6 0 0 0)),(25,(i64 (Sh.w (p1 - 1000)))),(29,(.agg [(ow 0 0 s0),(ow 1 0 s1)])),(33,(i64 (Sh.w (p1 - 1000))))]) ⟨.rfl,.rfl,.rfl,.rfl,.rfl,.rfl,.rfl,trivial⟩) (AG (by kernel_rfl) ((hA24 _ _ _).1 A24_0237ab)) rfl)
    have A24_023ab:A24 10 #[true,false,true,true,false,false,false,false,false,false,true,true,false,false,false] ⟨42,AM [(1,(i64 p1)),(2,(.ptr 2 0 0 0)),(4,(.ptr 3 0 0 0)),(6,(.ptr 4 0 0 0)),(22,(.ptr 2 0 0 0)),(25,(i64 (Sh.w (p1 - 1000)))),(33,(i64 (Sh.w (p1 - 1000))))],[(ro 0 30 3 AA s0),(ro 0 3 1 eI s1),⟨0,26,2,[[(ow 0 0 s0),(ow 1 0 s1)]]⟩,⟨0,26,2,[[.zc,.zc]]⟩,⟨0,26,2,[[(ow 5 0 q9.cells),(ow 6 0 q9.pending)]]⟩,(ro 0 30 3 AA q9.cells),(ro 0 3 1 eI q9.pending)]⟩:=(hA24 _ _ _).2 (by
     refine AJ [1,7] U (by kernel_rfl) (by decide) ⟨?_,?_,trivial⟩
     ·refine AH (i:=1) rfl U (by rfl) ?_
      refine zq tb U ?_
      refine AE ⟨U,?_⟩
      exact AD (AF (L:=[(1,(i64 p1)),(2,(.ptr 2 0 0 0)),(4,(.ptr 3 0 0 0)),(6,(.ptr 4 0 0 0)),(23,(ow 0 0 s0)),(25,(i64 (Sh.w (p1 - 1000)))),(33,(i64 (Sh.w (p1 - 1000))))]) ⟨.rfl,.rfl,.rfl,.rfl,.rfl,.rfl,.rfl,trivial⟩) (AG (by kernel_rfl) ((hA24 _ _ _).1 A24_0123ab)) rfl
     ·refine AH (i:=7) rfl U (by rfl) ?_
      refine zq tb U ?_
      refine AE ⟨U,?_⟩
      exact AD (by refine Wk.trans (AL (L:=[(1,(i64 p1)),(4,(.ptr 2 0 0 0)),(6,(.ptr 3 0 0 0)),(22,(.ptr 6 0 0 0)),(25,(i64 (Sh.w (p1 - 1000)))),(29,(.agg [(ow 0 0 s0),(ow 1 0 s1)])),(33,(i64 (Sh.w (p1 - 1000))))]) (st':=[(ro 0 30 3 AA s0),(ro 0 3 1 eI s1),⟨0,26,2,[[.zc,.zc]]⟩,⟨0,26,2,[[(ow 4 0 q9.cells),(ow 5 0 q9.pending)]]⟩,(ro 0 30 3 AA q9.cells),(ro 0 3 1 eI q9.pending),⟨0,26,2,[[(ow 0 0 s0),(ow 1 0 s1)]]⟩]) (st1:=[(ro 0 30 3 AA s0),(ro 0 3 1 eI s1),⟨0,26,2,[[.zc,.zc]]⟩,⟨0,26,2,[[(ow 5 0 q9.cells),(ow 6 0 q9.pending)]]⟩,(ro 0 30 3 AA q9.cells),(ro 0 3 1 eI q9.pending),⟨0,26,2,[[(ow 0 0 s0),(ow 1 0 s1)]]⟩]) [0,1,3,4,5,6,2] U (.pure (AB fun _=>U) (.pure (AB fun _=>U) .nil)) (by decide) rfl U (.pure (AB fun _=>U) (.pure (AB fun _=>U) (.raw U U (.raw U U (.pure (AB fun _=>U) (.pure (AB fun _=>U) (.raw U U .nil))))))) ⟨.rfl,.rfl,.rfl,.rfl,.rfl,.rfl,.rfl,trivial⟩) ?_;exact AF (L:=[(1,(i64 p1)),(4,(.ptr 2 0 0 0)),(6,(.ptr 3 0 0 0)),(22,(.ptr 6 0 0 0)),(25,(i64 (Sh.w (p1 - 1000)))),(29,(.agg [(ow 0 0 s0),(ow 1 0 s1)])),(33,(i64 (Sh.w (p1 - 1000))))]) ⟨.rfl,.rfl,.rfl,.rfl,.rfl,.rfl,.rfl,trivial⟩) (AG (by kernel_rfl) ((hA24 _ _ _).1 A24_0237ab)) rfl)
    have A24_023a:A24 11 #[true,false,true,true,false,false,false,false,false,false,true,false,false,false,false] ⟨42,AM [(1,(i64 p1)),(2,(.ptr 2 0 0 0)),(4,(.ptr 3 0 0 0)),(6,(.ptr 4 0 0 0)),(22,(.ptr 2 0 0 0)),(25,(i64 (Sh.w (p1 - 1000)))),(32,(i64 p1))],[(ro 0 30 3 AA s0),(ro 0 3 1 eI s1),⟨0,26,2,[[(ow 0 0 s0),(ow 1 0 s1)]]⟩,⟨0,26,2,[[.zc,.zc]]⟩,⟨0,26,2,[[(ow 5 0 q9.cells),(ow 6 0 q9.pending)]]⟩,(ro 0 30 3 AA q9.cells),(ro 0 3 1 eI q9.pending)]⟩:=(hA24 _ _ _).2 (by
     refine AJ [1,7,11] U (by kernel_rfl) (by decide) ⟨?_,?_,?_,trivial⟩
     ·refine AH (i:=1) rfl U (by rfl) ?_
      refine zq tb U ?_
      refine AE ⟨U,?_⟩
      exact AD (AF (L:=[(1,(i64 p1)),(2,(.ptr 2 0 0 0)),(4,(.ptr 3 0 0 0)),(6,(.ptr 4 0 0 0)),(23,(ow 0 0 s0)),(25,(i64 (Sh.w (p1 - 1000)))),(32,(i64 p1))]) ⟨.rfl,.rfl,.rfl,.rfl,.rfl,.rfl,.rfl,trivial⟩) (AG (by kernel_rfl) ((hA24 _ _ _).1 A24_0123a)) rfl
     ·refine AH (i:=7) rfl U (by rfl) ?_
      refine zq tb U ?_
      refine AE ⟨U,?_⟩
      exact AD (by refine Wk.trans (AL (L:=[(1,(i64 p1)),(4,(.ptr 2 0 0 0)),(6,(.ptr 3 0 0 0)),(22,(.ptr 6 0 0 0)),(25,(i64 (Sh.w (p1 - 1000)))),(29,(.agg [(ow 0 0 s0),(ow 1 0 s1)])),(32,(i64 p1))]) (st':=[(ro 0 30 3 AA s0),(ro 0 3 1 eI s1),⟨0,26,2,[[.zc,.zc]]⟩,⟨0,26,2,[[(ow 4 0 q9.cells),(ow 5 0 q9.pending)]]⟩,(ro 0 30 3 AA q9.cells),(ro 0 3 1 eI q9.pending),⟨0,26,2,[[(ow 0 0 s0),(ow 1 0 s1)]]⟩]) (st1:=[(ro 0 30 3 AA s0),(ro 0 3 1 eI s1),⟨0,26,2,[[.zc,.zc]]⟩,⟨0,26,2,[[(ow 5 0 q9.cells),(ow 6 0 q9.pending)]]⟩,(ro 0 30 3 AA q9.cells),(ro 0 3 1 eI q9.pending),⟨0,26,2,[[(ow 0 0 s0),(ow 1 0 s1)]]⟩]) [0,1,3,4,5,6,2] U (.pure (AB fun _=>U) (.pure (AB fun _=>U) .nil)) (by decide) rfl U (.pure (AB fun _=>U) (.pure (AB fun _=>U) (.raw U U (.raw U U (.pure (AB fun _=>U) (.pure (AB fun _=>U) (.raw U U .nil))))))) ⟨.rfl,.rfl,.rfl,.rfl,.rfl,.rfl,.rfl,trivial⟩) ?_;exact AF (L:=[(1,(i64 p1)),(4,(.ptr 2 0 0 0)),(6,(.ptr 3 0 0 0)),(22,(.ptr 6 0 0 0)),(25,(i64 (Sh.w (p1 - 1000)))),(29,(.agg [(ow 0 0 s0),(ow 1 0 s1)])),(32,(i64 p1))]) ⟨.rfl,.rfl,.rfl,.rfl,.rfl,.rfl,.rfl,trivial⟩) (AG (by kernel_rfl) ((hA24 _ _ _).1 A24_0237a)) rfl
     ·refine AH (i:=11) rfl U (by rfl) ?_
      refine zq tb U ?_
      refine AE ⟨U,?_⟩
      exact AD (AF (L:=[(1,(i64 p1)),(2,(.ptr 2 0 0 0)),(4,(.ptr 3 0 0 0)),(6,(.ptr 4 0 0 0)),(22,(.ptr 2 0 0 0)),(25,(i64 (Sh.w (p1 - 1000)))),(33,(i64 (Sh.w (p1 - 1000))))]) ⟨.rfl,.rfl,.rfl,.rfl,.rfl,.rfl,.rfl,trivial⟩) (AG (by kernel_rfl) ((hA24 _ _ _).1 A24_023ab)) rfl)
    have A24_02789abcd:A24 6 #[true,false,true,false,false,false,false,true,true,true,true,true,true,true,false] ⟨42,AM [(1,(i64 p1)),(4,(.ptr 2 0 0 0)),(6,(.ptr 3 0 0 0)),(22,(.ptr 6 0 0 0)),(24,(i64 p1)),(35,(i64 c23))],[(ro 0 30 3 AA s0),(ro 0 3 1 eI s1),⟨0,26,2,[[.zc,.zc]]⟩,⟨0,26,2,[[(ow 4 0 q9.cells),(ow 5 0 q9.pending)]]⟩,(ro 0 30 3 AA q9.cells),(ro 0 3 1 eI q9.pending),⟨0,26,2,[[(ow 0 0 s0),(ow 1 0 s1)]]⟩]⟩:=(hA24 _ _ _).2 (by
     refine AJ [1,3] U (by kernel_rfl) (by decide) ⟨?_,?_,trivial⟩
     ·refine AH (i:=1) rfl U (by rfl) ?_
      refine zq tb U ?_
      refine AE ⟨U,?_⟩
      exact AD (by refine Wk.trans (AL (L:=[(1,(i64 p1)),(4,(.ptr 2 0 0 0)),(6,(.ptr 3 0 0 0)),(23,(ow 0 0 s0)),(24,(i64 p1)),(35,(i64 c23))]) (st':=[(ro 0 30 3 AA s0),(ro 0 3 1 eI s1),⟨0,26,2,[[.zc,.zc]]⟩,⟨0,26,2,[[(ow 4 0 q9.cells),(ow 5 0 q9.pending)]]⟩,(ro 0 30 3 AA q9.cells),(ro 0 3 1 eI q9.pending)]) (st1:=[(ro 0 30 3 AA s0),(ro 0 3 1 eI s1),⟨0,26,2,[[.zc,.zc]]⟩,⟨0,26,2,[[(ow 4 0 q9.cells),(ow 5 0 q9.pending)]]⟩,(ro 0 30 3 AA q9.cells),(ro 0 3 1 eI q9.pending)]) [0,1,2,3,4,5] U (.pure (AB fun _=>U) (.pure (AB fun _=>U) .nil)) (by decide) rfl U (.pure (AB fun _=>U) (.pure (AB fun _=>U) (.raw U U (.raw U U (.pure (AB fun _=>U) (.pure (AB fun _=>U) .nil)))))) ⟨.rfl,.rfl,.rfl,.rfl,.rfl,.rfl,trivial⟩) ?_;exact AF (L:=[(1,(i64 p1)),(4,(.ptr 2 0 0 0)),(6,(.ptr 3 0 0 0)),(23,(ow 0 0 s0)),(24,(i64 p1)),(35,(i64 c23))]) ⟨.rfl,.rfl,.rfl,.rfl,.rfl,.rfl,trivial⟩) (AG (by kernel_rfl) ((hA24 _ _ _).1 A24_012789abcd)) rfl
     ·refine AH (i:=3) rfl U (by rfl) ?_
      refine zq tb U ?_
      refine AE ⟨U,?_⟩
      exact AD (AF (L:=[(1,(i64 p1)),(4,(.ptr 2 0 0 0)),(6,(.ptr 3 0 0 0)),(22,(.ptr 6 0 0 0)),(25,(i64 (Sh.w (p1 - 1000)))),(35,(i64 c23))]) ⟨.rfl,.rfl,.rfl,.rfl,.rfl,.rfl,trivial⟩) (AG (by kernel_rfl) ((hA24 _ _ _).1 A24_023789abcd)) rfl)
    have A24_02789abc:A24 7 #[true,false,true,false,false,false,false,true,true,true,true,true,true,false,false] ⟨42,AM [(1,(i64 p1)),(4,(.ptr 2 0 0 0)),(6,(.ptr 3 0 0 0)),(22,(.ptr 6 0 0 0)),(24,(i64 p1)),(34,(.ptr 7 0 (Int.toNat (Sh.w (p1 - 1000))) 0))],[(ro 0 30 3 AA s0),(ro 0 3 1 eI s1),⟨0,26,2,[[.zc,.zc]]⟩,⟨0,26,2,[[(ow 4 0 q9.cells),(ow 5 0 q9.pending)]]⟩,(ro 0 30 3 AA q9.cells),(ro 0 3 1 eI q9.pending),⟨0,26,2,[[(ow 0 0 s0),(ow 1 0 s1)]]⟩,(ro 0 3 1 eI q22)]⟩:=(hA24 _ _ _).2 (by
     refine AJ [1,3,13] U (by kernel_rfl) (by decide) ⟨?_,?_,?_,trivial⟩
     ·refine AH (i:=1) rfl U (by rfl) ?_
      refine zq tb U ?_
      refine AE ⟨U,?_⟩
      exact AD (by refine Wk.trans (AL (L:=[(1,(i64 p1)),(4,(.ptr 2 0 0 0)),(6,(.ptr 3 0 0 0)),(23,(ow 0 0 s0)),(24,(i64 p1)),(34,(.ptr 6 0 (Int.toNat (Sh.w (p1 - 1000))) 0))]) (st':=[(ro 0 30 3 AA s0),(ro 0 3 1 eI s1),⟨0,26,2,[[.zc,.zc]]⟩,⟨0,26,2,[[(ow 4 0 q9.cells),(ow 5 0 q9.pending)]]⟩,(ro 0 30 3 AA q9.cells),(ro 0 3 1 eI q9.pending),(ro 0 3 1 eI q22)]) (st1:=[(ro 0 30 3 AA s0),(ro 0 3 1 eI s1),⟨0,26,2,[[.zc,.zc]]⟩,⟨0,26,2,[[(ow 4 0 q9.cells),(ow 5 0 q9.pending)]]⟩,(ro 0 30 3 AA q9.cells),(ro 0 3 1 eI q9.pending),(ro 0 3 1 eI q22)]) [0,1,2,3,4,5,7] U (.pure (AB fun _=>U) (.pure (AB fun _=>U) .nil)) (by decide) rfl U (.pure (AB fun _=>U) (.pure (AB fun _=>U) (.raw U U (.raw U U (.pure (AB fun _=>U) (.pure (AB fun _=>U) (.pure (AB fun _=>U) .nil))))))) ⟨.rfl,.rfl,.rfl,.rfl,.rfl,.rfl,trivial⟩) ?_;exact AF (L:=[(1,(i64 p1)),(4,(.ptr 2 0 0 0)),(6,(.ptr 3 0 0 0)),(23,(ow 0 0 s0)),(24,(i64 p1)),(34,(.ptr 6 0 (Int.toNat (Sh.w (p1 - 1000))) 0))]) ⟨.rfl,.rfl,.rfl,.rfl,.rfl,.rfl,trivial⟩) (AG (by kernel_rfl) ((hA24 _ _ _).1 A24_012789abc)) rfl
     ·refine AH (i:=3) rfl U (by rfl) ?_
      refine zq tb U ?_
      refine AE ⟨U,?_⟩
      exact AD (AF (L:=[(1,(i64 p1)),(4,(.ptr 2 0 0 0)),(6,(.ptr 3 0 0 0)),(22,(.ptr 6 0 0 0)),(25,(i64 (Sh.w (p1 - 1000)))),(34,(.ptr 7 0 (Int.toNat (Sh.w (p1 - 1000))) 0))]) ⟨.rfl,.rfl,.rfl,.rfl,.rfl,.rfl,trivial⟩) (AG (by kernel_rfl) ((hA24 _ _ _).1 A24_023789abc)) rfl
     ·refine AH (i:=13) rfl U (by rfl) ?_
      refine zz (i64 c23) (Aw CM U U (Am gc23) rfl) rfl ?_
      refine AE ⟨U,?_⟩
      exact AD (by refine Wk.trans (AL (L:=[(1,(i64 p1)),(4,(.ptr 2 0 0 0)),(6,(.ptr 3 0 0 0)),(22,(.ptr 6 0 0 0)),(24,(i64 p1)),(35,(i64 c23))]) (st':=[(ro 0 30 3 AA s0),(ro 0 3 1 eI s1),⟨0,26,2,[[.zc,.zc]]⟩,⟨0,26,2,[[(ow 4 0 q9.cells),(ow 5 0 q9.pending)]]⟩,(ro 0 30 3 AA q9.cells),(ro 0 3 1 eI q9.pending),⟨0,26,2,[[(ow 0 0 s0),(ow 1 0 s1)]]⟩]) (st1:=[(ro 0 30 3 AA s0),(ro 0 3 1 eI s1),⟨0,26,2,[[.zc,.zc]]⟩,⟨0,26,2,[[(ow 4 0 q9.cells),(ow 5 0 q9.pending)]]⟩,(ro 0 30 3 AA q9.cells),(ro 0 3 1 eI q9.pending),⟨0,26,2,[[(ow 0 0 s0),(ow 1 0 s1)]]⟩]) [0,1,2,3,4,5,6] U (.pure (AB fun _=>U) (.pure (AB fun _=>U) .nil)) (by decide) rfl U (.pure (AB fun _=>U) (.pure (AB fun _=>U) (.raw U U (.raw U U (.pure (AB fun _=>U) (.pure (AB fun _=>U) (.raw U U .nil))))))) ⟨.rfl,.rfl,.rfl,.rfl,.rfl,.rfl,trivial⟩) ?_;exact AF (L:=[(1,(i64 p1)),(4,(.ptr 2 0 0 0)),(6,(.ptr 3 0 0 0)),(22,(.ptr 6 0 0 0)),(24,(i64 p1)),(35,(i64 c23))]) ⟨.rfl,.rfl,.rfl,.rfl,.rfl,.rfl,trivial⟩) (AG (by kernel_rfl) ((hA24 _ _ _).1 A24_02789abcd)) rfl)
    have A24_02789ab:A24 8 #[true,false,true,false,false,false,false,true,true,true,true,true,false,false,false] ⟨42,AM [(1,(i64 p1)),(4,(.ptr 2 0 0 0)),(6,(.ptr 3 0 0 0)),(22,(.ptr 6 0 0 0)),(24,(i64 p1)),(31,(ow 7 0 q22)),(33,(i64 (Sh.w (p1 - 1000))))],[(ro 0 30 3 AA s0),(ro 0 3 1 eI s1),⟨0,26,2,[[.zc,.zc]]⟩,⟨0,26,2,[[(ow 4 0 q9.cells),(ow 5 0 q9.pending)]]⟩,(ro 0 30 3 AA q9.cells),(ro 0 3 1 eI q9.pending),⟨0,26,2,[[(ow 0 0 s0),(ow 1 0 s1)]]⟩,(ro 0 3 1 eI q22)]⟩:=(hA24 _ _ _).2 (by
     refine AJ [1,3,12] U (by kernel_rfl) (by decide) ⟨?_,?_,?_,trivial⟩
     ·refine AH (i:=1) rfl U (by rfl) ?_
      refine zq tb U ?_
      refine AE ⟨U,?_⟩
      exact AD (by refine Wk.trans (AL (L:=[(1,(i64 p1)),(4,(.ptr 2 0 0 0)),(6,(.ptr 3 0 0 0)),(23,(ow 0 0 s0)),(24,(i64 p1)),(31,(ow 6 0 q22)),(33,(i64 (Sh.w (p1 - 1000))))]) (st':=[(ro 0 30 3 AA s0),(ro 0 3 1 eI s1),⟨0,26,2,[[.zc,.zc]]⟩,⟨0,26,2,[[(ow 4 0 q9.cells),(ow 5 0 q9.pending)]]⟩,(ro 0 30 3 AA q9.cells),(ro 0 3 1 eI q9.pending),(ro 0 3 1 eI q22)]) (st1:=[(ro 0 30 3 AA s0),(ro 0 3 1 eI s1),⟨0,26,2,[[.zc,.zc]]⟩,⟨0,26,2,[[(ow 4 0 q9.cells),(ow 5 0 q9.pending)]]⟩,(ro 0 30 3 AA q9.cells),(ro 0 3 1 eI q9.pending),(ro 0 3 1 eI q22)]) [0,1,2,3,4,5,7] U (.pure (AB fun _=>U) (.pure (AB fun _=>U) .nil)) (by decide) rfl U (.pure (AB fun _=>U) (.pure (AB fun _=>U) (.raw U U (.raw U U (.pure (AB fun _=>U) (.pure (AB fun _=>U) (.pure (AB fun _=>U) .nil))))))) ⟨.rfl,.rfl,.rfl,.rfl,.rfl,.rfl,.rfl,trivial⟩) ?_;exact AF (L:=[(1,(i64 p1)),(4,(.ptr 2 0 0 0)),(6,(.ptr 3 0 0 0)),(23,(ow 0 0 s0)),(24,(i64 p1)),(31,(ow 6 0 q22)),(33,(i64 (Sh.w (p1 - 1000))))]) ⟨.rfl,.rfl,.rfl,.rfl,.rfl,.rfl,.rfl,trivial⟩) (AG (by kernel_rfl) ((hA24 _ _ _).1 A24_012789ab)) rfl
     ·refine AH (i:=3) rfl U (by rfl) ?_
      refine zq tb U ?_
      refine AE ⟨U,?_⟩
      exact AD (AF (L:=[(1,(i64 p1)),(4,(.ptr 2 0 0 0)),(6,(.ptr 3 0 0 0)),(22,(.ptr 6 0 0 0)),(25,(i64 (Sh.w (p1 - 1000)))),(31,(ow 7 0 q22)),(33,(i64 (Sh.w (p1 - 1000))))]) ⟨.rfl,.rfl,.rfl,.rfl,.rfl,.rfl,.rfl,trivial⟩) (AG (by kernel_rfl) ((hA24 _ _ _).1 A24_023789ab)) rfl
     ·refine AH (i:=12) rfl U (by rfl) ?_
      refine zz (.ptr 7 0 (Int.toNat (Sh.w (p1 - 1000))) 0) (An Av U U U U gc23) rfl ?_
      refine AE ⟨U,?_⟩
      exact AD (AF (L:=[(1,(i64 p1)),(4,(.ptr 2 0 0 0)),(6,(.ptr 3 0 0 0)),(22,(.ptr 6 0 0 0)),(24,(i64 p1)),(34,(.ptr 7 0 (Int.toNat (Sh.w (p1 - 1000))) 0))]) ⟨.rfl,.rfl,.rfl,.rfl,.rfl,.rfl,trivial⟩) (AG (by kernel_rfl) ((hA24 _ _ _).1 A24_02789abc)) rfl)
    have A24_02789a:A24 9 #[true,false,true,false,false,false,false,true,true,true,true,false,false,false,false] ⟨42,AM [(1,(i64 p1)),(4,(.ptr 2 0 0 0)),(6,(.ptr 3 0 0 0)),(22,(.ptr 6 0 0 0)),(24,(i64 p1)),(31,(ow 7 0 q22)),(32,(i64 p1))],[(ro 0 30 3 AA s0),(ro 0 3 1 eI s1),⟨0,26,2,[[.zc,.zc]]⟩,⟨0,26,2,[[(ow 4 0 q9.cells),(ow 5 0 q9.pending)]]⟩,(ro 0 30 3 AA q9.cells),(ro 0 3 1 eI q9.pending),⟨0,26,2,[[(ow 0 0 s0),(ow 1 0 s1)]]⟩,(ro 0 3 1 eI q22)]⟩:=(hA24 _ _ _).2 (by
     refine AJ [1,3,11] U (by kernel_rfl) (by decide) ⟨?_,?_,?_,trivial⟩
     ·refine AH (i:=1) rfl U (by rfl) ?_
      refine zq tb U ?_
      refine AE ⟨U,?_⟩
      exact AD (by refine Wk.trans (AL (L:=[(1,(i64 p1)),(4,(.ptr 2 0 0 0)),(6,(.ptr 3 0 0 0)),(23,(ow 0 0 s0)),(24,(i64 p1)),(31,(ow 6 0 q22)),(32,(i64 p1))]) (st':=[(ro 0 30 3 AA s0),(ro 0 3 1 eI s1),⟨0,26,2,[[.zc,.zc]]⟩,⟨0,26,2,[[(ow 4 0 q9.cells),(ow 5 0 q9.pending)]]⟩,(ro 0 30 3 AA q9.cells),(ro 0 3 1 eI q9.pending),(ro 0 3 1 eI q22)]) (st1:=[(ro 0 30 3 AA s0),(ro 0 3 1 eI s1),⟨0,26,2,[[.zc,.zc]]⟩,⟨0,26,2,[[(ow 4 0 q9.cells),(ow 5 0 q9.pending)]]⟩,(ro 0 30 3 AA q9.cells),(ro 0 3 1 eI q9.pending),(ro 0 3 1 eI q22)]) [0,1,2,3,4,5,7] U (.pure (AB fun _=>U) (.pure (AB fun _=>U) .nil)) (by decide) rfl U (.pure (AB fun _=>U) (.pure (AB fun _=>U) (.raw U U (.raw U U (.pure (AB fun _=>U) (.pure (AB fun _=>U) (.pure (AB fun _=>U) .nil))))))) ⟨.rfl,.rfl,.rfl,.rfl,.rfl,.rfl,.rfl,trivial⟩) ?_;exact AF (L:=[(1,(i64 p1)),(4,(.ptr 2 0 0 0)),(6,(.ptr 3 0 0 0)),(23,(ow 0 0 s0)),(24,(i64 p1)),(31,(ow 6 0 q22)),(32,(i64 p1))]) ⟨.rfl,.rfl,.rfl,.rfl,.rfl,.rfl,.rfl,trivial⟩) (AG (by kernel_rfl) ((hA24 _ _ _).1 A24_012789a)) rfl
     ·refine AH (i:=3) rfl U (by rfl) ?_
      refine zq tb U ?_
      refine AE ⟨U,?_⟩
      exact AD (AF (L:=[(1,(i64 p1)),(4,(.ptr 2 0 0 0)),(6,(.ptr 3 0 0 0)),(22,(.ptr 6 0 0 0)),(25,(i64 (Sh.w (p1 - 1000)))),(31,(ow 7 0 q22)),(32,(i64 p1))]) ⟨.rfl,.rfl,.rfl,.rfl,.rfl,.rfl,.rfl,trivial⟩) (AG (by kernel_rfl) ((hA24 _ _ _).1 A24_023789a)) rfl
     ·refine AH (i:=11) rfl U (by rfl) ?_
      refine zq tb U ?_
      refine AE ⟨U,?_⟩
      exact AD (AF (L:=[(1,(i64 p1)),(4,(.ptr 2 0 0 0)),(6,(.ptr 3 0 0 0)),(22,(.ptr 6 0 0 0)),(24,(i64 p1)),(31,(ow 7 0 q22)),(33,(i64 (Sh.w (p1 - 1000))))]) ⟨.rfl,.rfl,.rfl,.rfl,.rfl,.rfl,.rfl,trivial⟩) (AG (by kernel_rfl) ((hA24 _ _ _).1 A24_02789ab)) rfl)
    have A24_0278ab:A24 9 #[true,false,true,false,false,false,false,true,true,false,true,true,false,false,false] ⟨42,AM [(1,(i64 p1)),(4,(.ptr 2 0 0 0)),(6,(.ptr 3 0 0 0)),(22,(.ptr 6 0 0 0)),(24,(i64 p1)),(30,(ow 7 0 q21)),(33,(i64 (Sh.w (p1 - 1000))))],[(ro 0 30 3 AA s0),(ro 0 3 1 eI s1),⟨0,26,2,[[.zc,.zc]]⟩,⟨0,26,2,[[(ow 4 0 q9.cells),(ow 5 0 q9.pending)]]⟩,(ro 0 30 3 AA q9.cells),(ro 0 3 1 eI q9.pending),⟨0,26,2,[[(ow 0 0 s0),(ow 1 0 s1)]]⟩,(ro 0 30 3 AA q21)]⟩:=(hA24 _ _ _).2 (by
     refine AJ [1,3,9] U (by kernel_rfl) (by decide) ⟨?_,?_,?_,trivial⟩
     ·refine AH (i:=1) rfl U (by rfl) ?_
      refine zq tb U ?_
      refine AE ⟨U,?_⟩
      exact AD (by refine Wk.trans (AL (L:=[(1,(i64 p1)),(4,(.ptr 2 0 0 0)),(6,(.ptr 3 0 0 0)),(23,(ow 0 0 s0)),(24,(i64 p1)),(30,(ow 6 0 q21)),(33,(i64 (Sh.w (p1 - 1000))))]) (st':=[(ro 0 30 3 AA s0),(ro 0 3 1 eI s1),⟨0,26,2,[[.zc,.zc]]⟩,⟨0,26,2,[[(ow 4 0 q9.cells),(ow 5 0 q9.pending)]]⟩,(ro 0 30 3 AA q9.cells),(ro 0 3 1 eI q9.pending),(ro 0 30 3 AA q21)]) (st1:=[(ro 0 30 3 AA s0),(ro 0 3 1 eI s1),⟨0,26,2,[[.zc,.zc]]⟩,⟨0,26,2,[[(ow 4 0 q9.cells),(ow 5 0 q9.pending)]]⟩,(ro 0 30 3 AA q9.cells),(ro 0 3 1 eI q9.pending),(ro 0 30 3 AA q21)]) [0,1,2,3,4,5,7] U (.pure (AB fun _=>U) (.pure (AB fun _=>U) .nil)) (by decide) rfl U (.pure (AB fun _=>U) (.pure (AB fun _=>U) (.raw U U (.raw U U (.pure (AB fun _=>U) (.pure (AB fun _=>U) (.pure (AB fun _=>U) .nil))))))) ⟨.rfl,.rfl,.rfl,.rfl,.rfl,.rfl,.rfl,trivial⟩) ?_;exact AF (L:=[(1,(i64 p1)),(4,(.ptr 2 0 0 0)),(6,(.ptr 3 0 0 0)),(23,(ow 0 0 s0)),(24,(i64 p1)),(30,(ow 6 0 q21)),(33,(i64 (Sh.w (p1 - 1000))))]) ⟨.rfl,.rfl,.rfl,.rfl,.rfl,.rfl,.rfl,trivial⟩) (AG (by kernel_rfl) ((hA24 _ _ _).1 A24_01278ab)) rfl
     ·refine AH (i:=3) rfl U (by rfl) ?_
      refine zq tb U ?_
      refine AE ⟨U,?_⟩
      exact AD (AF (L:=[(1,(i64 p1)),(4,(.ptr 2 0 0 0)),(6,(.ptr 3 0 0 0)),(22,(.ptr 6 0 0 0)),(25,(i64 (Sh.w (p1 - 1000)))),(30,(ow 7 0 q21)),(33,(i64 (Sh.w (p1 - 1000))))]) ⟨.rfl,.rfl,.rfl,.rfl,.rfl,.rfl,.rfl,trivial⟩) (AG (by kernel_rfl) ((hA24 _ _ _).1 A24_02378ab)) rfl
     ·refine AH (i:=9) rfl U (by rfl) ?_
      refine Af (Wk.A2 (L:=[(1,(i64 p1)),(4,(.ptr 2 0 0 0)),(6,(.ptr 3 0 0 0)),(22,(.ptr 6 0 0 0)),(24,(i64 p1)),(30,(ls AA q21)),(33,(i64 (Sh.w (p1 - 1000))))]) (st':=[(ro 0 30 3 AA s0),(ro 0 3 1 eI s1),⟨0,26,2,[[.zc,.zc]]⟩,⟨0,26,2,[[(ow 4 0 q9.cells),(ow 5 0 q9.pending)]]⟩,(ro 0 30 3 AA q9.cells),(ro 0 3 1 eI q9.pending),⟨0,26,2,[[(ow 0 0 s0),(ow 1 0 s1)]]⟩,⟨1,30,3,[]⟩]) (id:=7) rfl (show 2≤7 by decide) (AB fun _=>U) ⟨.rfl,.rfl,.rfl,.rfl,.rfl,(.A2 U),.rfl,trivial⟩ U) ?_
      refine BJ (v':=(ow 8 0 q22)) (st':=[(ro 0 30 3 AA s0),(ro 0 3 1 eI s1),⟨0,26,2,[[.zc,.zc]]⟩,⟨0,26,2,[[(ow 4 0 q9.cells),(ow 5 0 q9.pending)]]⟩,(ro 0 30 3 AA q9.cells),(ro 0 3 1 eI q9.pending),⟨0,26,2,[[(ow 0 0 s0),(ow 1 0 s1)]]⟩,⟨1,30,3,[]⟩,(ro 0 3 1 eI q22)]) Ae ET (Ax gq22) rfl U ⟨(BD fun _=>U),trivial⟩ U U ?_
      refine AE ⟨U,?_⟩
      exact AD (by refine Wk.trans (AL (L:=[(1,(i64 p1)),(4,(.ptr 2 0 0 0)),(6,(.ptr 3 0 0 0)),(22,(.ptr 6 0 0 0)),(24,(i64 p1)),(31,(ow 7 0 q22)),(33,(i64 (Sh.w (p1 - 1000))))]) (st':=[(ro 0 30 3 AA s0),(ro 0 3 1 eI s1),⟨0,26,2,[[.zc,.zc]]⟩,⟨0,26,2,[[(ow 4 0 q9.cells),(ow 5 0 q9.pending)]]⟩,(ro 0 30 3 AA q9.cells),(ro 0 3 1 eI q9.pending),⟨0,26,2,[[(ow 0 0 s0),(ow 1 0 s1)]]⟩,(ro 0 3 1 eI q22)]) (st1:=[(ro 0 30 3 AA s0),(ro 0 3 1 eI s1),⟨0,26,2,[[.zc,.zc]]⟩,⟨0,26,2,[[(ow 4 0 q9.cells),(ow 5 0 q9.pending)]]⟩,(ro 0 30 3 AA q9.cells),(ro 0 3 1 eI q9.pending),⟨0,26,2,[[(ow 0 0 s0),(ow 1 0 s1)]]⟩,(ro 0 3 1 eI q22)]) [0,1,2,3,4,5,6,8] U (.pure (AB fun _=>U) (.pure (AB fun _=>U) .nil)) (by decide) rfl U (.pure (AB fun _=>U) (.pure (AB fun _=>U) (.raw U U (.raw U U (.pure (AB fun _=>U) (.pure (AB fun _=>U) (.raw U U (.pure (AB fun _=>U) .nil)))))))) ⟨.rfl,.rfl,.rfl,.rfl,.rfl,.rfl,.rfl,trivial⟩) ?_;exact AF (L:=[(1,(i64 p1)),(4,(.ptr 2 0 0 0)),(6,(.ptr 3 0 0 0)),(22,(.ptr 6 0 0 0)),(24,(i64 p1)),(31,(ow 7 0 q22)),(33,(i64 (Sh.w (p1 - 1000))))]) ⟨.rfl,.rfl,.rfl,.rfl,.rfl,.rfl,.rfl,trivial⟩) (AG (by kernel_rfl) ((hA24 _ _ _).1 A24_02789ab)) rfl)
    have A24_0278a:A24 10 #[true,false,true,false,false,false,false,true,true,false,true,false,false,false,false] ⟨42,AM [(1,(i64 p1)),(4,(.ptr 2 0 0 0)),(6,(.ptr 3 0 0 0)),(22,(.ptr 6 0 0 0)),(24,(i64 p1)),(30,(ow 7 0 q21)),(32,(i64 p1))],[(ro 0 30 3 AA s0),(ro 0 3 1 eI s1),⟨0,26,2,[[.zc,.zc]]⟩,⟨0,26,2,[[(ow 4 0 q9.cells),(ow 5 0 q9.pending)]]⟩,(ro 0 30 3 AA q9.cells),(ro 0 3 1 eI q9.pending),⟨0,26,2,[[(ow 0 0 s0),(ow 1 0 s1)]]⟩,(ro 0 30 3 AA q21)]⟩:=(hA24 _ _ _).2 (by
     refine AJ [1,3,9,11] U (by kernel_rfl) (by decide) ⟨?_,?_,?_,?_,trivial⟩
     ·refine AH (i:=1) rfl U (by rfl) ?_
      refine zq tb U ?_
      refine AE ⟨U,?_⟩
      exact AD (by refine Wk.trans (AL (L:=[(1,(i64 p1)),(4,(.ptr 2 0 0 0)),(6,(.ptr 3 0 0 0)),(23,(ow 0 0 s0)),(24,(i64 p1)),(30,(ow 6 0 q21)),(32,(i64 p1))]) (st':=[(ro 0 30 3 AA s0),(ro 0 3 1 eI s1),⟨0,26,2,[[.zc,.zc]]⟩,⟨0,26,2,[[(ow 4 0 q9.cells),(ow 5 0 q9.pending)]]⟩,(ro 0 30 3 AA q9.cells),(ro 0 3 1 eI q9.pending),(ro 0 30 3 AA q21)]) (st1:=[(ro 0 30 3 AA s0),(ro 0 3 1 eI s1),⟨0,26,2,[[.zc,.zc]]⟩,⟨0,26,2,[[(ow 4 0 q9.cells),(ow 5 0 q9.pending)]]⟩,(ro 0 30 3 AA q9.cells),(ro 0 3 1 eI q9.pending),(ro 0 30 3 AA q21)]) [0,1,2,3,4,5,7] U (.pure (AB fun _=>U) (.pure (AB fun _=>U) .nil)) (by decide) rfl U (.pure (AB fun _=>U) (.pure (AB fun _=>U) (.raw U U (.raw U U (.pure (AB fun _=>U) (.pure (AB fun _=>U) (.pure (AB fun _=>U) .nil))))))) ⟨.rfl,.rfl,.rfl,.rfl,.rfl,.rfl,.rfl,trivial⟩) ?_;exact AF (L:=[(1,(i64 p1)),(4,(.ptr 2 0 0 0)),(6,(.ptr 3 0 0 0)),(23,(ow 0 0 s0)),(24,(i64 p1)),(30,(ow 6 0 q21)),(32,(i64 p1))]) ⟨.rfl,.rfl,.rfl,.rfl,.rfl,.rfl,.rfl,trivial⟩) (AG (by kernel_rfl) ((hA24 _ _ _).1 A24_01278a)) rfl
     ·refine AH (i:=3) rfl U (by rfl) ?_
      refine zq tb U ?_
      refine AE ⟨U,?_⟩
      exact AD (AF (L:=[(1,(i64 p1)),(4,(.ptr 2 0 0 0)),(6,(.ptr 3 0 0 0)),(22,(.ptr 6 0 0 0)),(25,(i64 (Sh.w (p1 - 1000)))),(30,(ow 7 0 q21)),(32,(i64 p1))]) ⟨.rfl,.rfl,.rfl,.rfl,.rfl,.rfl,.rfl,trivial⟩) (AG (by kernel_rfl) ((hA24 _ _ _).1 A24_02378a)) rfl
     ·refine AH (i:=9) rfl U (by rfl) ?_
      refine Af (Wk.A2 (L:=[(1,(i64 p1)),(4,(.ptr 2 0 0 0)),(6,(.ptr 3 0 0 0)),(22,(.ptr 6 0 0 0)),(24,(i64 p1)),(30,(ls AA q21)),(32,(i64 p1))]) (st':=[(ro 0 30 3 AA s0),(ro 0 3 1 eI s1),⟨0,26,2,[[.zc,.zc]]⟩,⟨0,26,2,[[(ow 4 0 q9.cells),(ow 5 0 q9.pending)]]⟩,(ro 0 30 3 AA q9.cells),(ro 0 3 1 eI q9.pending),⟨0,26,2,[[(ow 0 0 s0),(ow 1 0 s1)]]⟩,⟨1,30,3,[]⟩]) (id:=7) rfl (show 2≤7 by decide) (AB fun _=>U) ⟨.rfl,.rfl,.rfl,.rfl,.rfl,(.A2 U),.rfl,trivial⟩ U) ?_
      refine BJ (v':=(ow 8 0 q22)) (st':=[(ro 0 30 3 AA s0),(ro 0 3 1 eI s1),⟨0,26,2,[[.zc,.zc]]⟩,⟨0,26,2,[[(ow 4 0 q9.cells),(ow 5 0 q9.pending)]]⟩,(ro 0 30 3 AA q9.cells),(ro 0 3 1 eI q9.pending),⟨0,26,2,[[(ow 0 0 s0),(ow 1 0 s1)]]⟩,⟨1,30,3,[]⟩,(ro 0 3 1 eI q22)]) Ae ET (Ax gq22) rfl U ⟨(BD fun _=>U),trivial⟩ U U ?_
      refine AE ⟨U,?_⟩
      exact AD (by refine Wk.trans (AL (L:=[(1,(i64 p1)),(4,(.ptr 2 0 0 0)),(6,(.ptr 3 0 0 0)),(22,(.ptr 6 0 0 0)),(24,(i64 p1)),(31,(ow 7 0 q22)),(32,(i64 p1))]) (st':=[(ro 0 30 3 AA s0),(ro 0 3 1 eI s1),⟨0,26,2,[[.zc,.zc]]⟩,⟨0,26,2,[[(ow 4 0 q9.cells),(ow 5 0 q9.pending)]]⟩,(ro 0 30 3 AA q9.cells),(ro 0 3 1 eI q9.pending),⟨0,26,2,[[(ow 0 0 s0),(ow 1 0 s1)]]⟩,(ro 0 3 1 eI q22)]) (st1:=[(ro 0 30 3 AA s0),(ro 0 3 1 eI s1),⟨0,26,2,[[.zc,.zc]]⟩,⟨0,26,2,[[(ow 4 0 q9.cells),(ow 5 0 q9.pending)]]⟩,(ro 0 30 3 AA q9.cells),(ro 0 3 1 eI q9.pending),⟨0,26,2,[[(ow 0 0 s0),(ow 1 0 s1)]]⟩,(ro 0 3 1 eI q22)]) [0,1,2,3,4,5,6,8] U (.pure (AB fun _=>U) (.pure (AB fun _=>U) .nil)) (by decide) rfl U (.pure (AB fun _=>U) (.pure (AB fun _=>U) (.raw U U (.raw U U (.pure (AB fun _=>U) (.pure (AB fun _=>U) (.raw U U (.pure (AB fun _=>U) .nil)))))))) ⟨.rfl,.rfl,.rfl,.rfl,.rfl,.rfl,.rfl,trivial⟩) ?_;exact AF (L:=[(1,(i64 p1)),(4,(.ptr 2 0 0 0)),(6,(.ptr 3 0 0 0)),(22,(.ptr 6 0 0 0)),(24,(i64 p1)),(31,(ow 7 0 q22)),(32,(i64 p1))]) ⟨.rfl,.rfl,.rfl,.rfl,.rfl,.rfl,.rfl,trivial⟩) (AG (by kernel_rfl) ((hA24 _ _ _).1 A24_02789a)) rfl
     ·refine AH (i:=11) rfl U (by rfl) ?_
      refine zq tb U ?_
      refine AE ⟨U,?_⟩
      exact AD (AF (L:=[(1,(i64 p1)),(4,(.ptr 2 0 0 0)),(6,(.ptr 3 0 0 0)),(22,(.ptr 6 0 0 0)),(24,(i64 p1)),(30,(ow 7 0 q21)),(33,(i64 (Sh.w (p1 - 1000))))]) ⟨.rfl,.rfl,.rfl,.rfl,.rfl,.rfl,.rfl,trivial⟩) (AG (by kernel_rfl) ((hA24 _ _ _).1 A24_0278ab)) rfl)
    have A24_027ab:A24 10 #[true,false,true,false,false,false,false,true,false,false,true,true,false,false,false] ⟨42,AM [(1,(i64 p1)),(4,(.ptr 2 0 0 0)),(6,(.ptr 3 0 0 0)),(22,(.ptr 6 0 0 0)),(24,(i64 p1)),(29,(.agg [(ow 0 0 s0),(ow 1 0 s1)])),(33,(i64 (Sh.w (p1 - 1000))))],[(ro 0 30 3 AA s0),(ro 0 3 1 eI s1),⟨0,26,2,[[.zc,.zc]]⟩,⟨0,26,2,[[(ow 4 0 q9.cells),(ow 5 0 q9.pending)]]⟩,(ro 0 30 3 AA q9.cells),(ro 0 3 1 eI q9.pending),⟨0,26,2,[[(ow 0 0 s0),(ow 1 0 s1)]]⟩]⟩:=(hA24 _ _ _).2 (by
     refine AJ [1,3,8] U (by kernel_rfl) (by decide) ⟨?_,?_,?_,trivial⟩
     ·refine AH (i:=1) rfl U (by rfl) ?_
      refine zq tb U ?_
      refine AE ⟨U,?_⟩
      exact AD (by refine Wk.trans (AL (L:=[(1,(i64 p1)),(4,(.ptr 2 0 0 0)),(6,(.ptr 3 0 0 0)),(23,(ow 0 0 s0)),(24,(i64 p1)),(29,(.agg [(ow 0 0 s0),(ow 1 0 s1)])),(33,(i64 (Sh.w (p1 - 1000))))]) (st':=[(ro 0 30 3 AA s0),(ro 0 3 1 eI s1),⟨0,26,2,[[.zc,.zc]]⟩,⟨0,26,2,[[(ow 4 0 q9.cells),(ow 5 0 q9.pending)]]⟩,(ro 0 30 3 AA q9.cells),(ro 0 3 1 eI q9.pending)]) (st1:=[(ro 0 30 3 AA s0),(ro 0 3 1 eI s1),⟨0,26,2,[[.zc,.zc]]⟩,⟨0,26,2,[[(ow 4 0 q9.cells),(ow 5 0 q9.pending)]]⟩,(ro 0 30 3 AA q9.cells),(ro 0 3 1 eI q9.pending)]) [0,1,2,3,4,5] U (.pure (AB fun _=>U) (.pure (AB fun _=>U) .nil)) (by decide) rfl U (.pure (AB fun _=>U) (.pure (AB fun _=>U) (.raw U U (.raw U U (.pure (AB fun _=>U) (.pure (AB fun _=>U) .nil)))))) ⟨.rfl,.rfl,.rfl,.rfl,.rfl,.rfl,.rfl,trivial⟩) ?_;exact AF (L:=[(1,(i64 p1)),(4,(.ptr 2 0 0 0)),(6,(.ptr 3 0 0 0)),(23,(ow 0 0 s0)),(24,(i64 p1)),(29,(.agg [(ow 0 0 s0),(ow 1 0 s1)])),(33,(i64 (Sh.w (p1 - 1000))))]) ⟨.rfl,.rfl,.rfl,.rfl,.rfl,.rfl,.rfl,trivial⟩) (AG (by kernel_rfl) ((hA24 _ _ _).1 A24_0127ab)) rfl
     ·refine AH (i:=3) rfl U (by rfl) ?_
      refine zq tb U ?_
      refine AE ⟨U,?_⟩
      exact AD (AF (L:=[(1,(i64 p1)),(4,(.ptr 2 0 0 0)),(6,(.ptr 3 0 0 0)),(22,(.ptr 6 0 0 0)),(25,(i64 (Sh.w (p1 - 1000)))),(29,(.agg [(ow 0 0 s0),(ow 1 0 s1)])),(33,(i64 (Sh.w (p1 - 1000))))]) ⟨.rfl,.rfl,.rfl,.rfl,.rfl,.rfl,.rfl,trivial⟩) (AG (by kernel_rfl) ((hA24 _ _ _).1 A24_0237ab)) rfl
     ·refine AH (i:=8) rfl U (by rfl) ?_
      refine Ad (rowsP:=[(ro 0 30 3 AA s0),(ro 0 3 1 eI s1)]) (rows0:=[(ro 0 30 3 AA s0),(ro 0 3 1 eI s1)]) (rows1:=[(ro 0 30 3 AA s0),(ro 0 3 1 eI s1)]) (rows2:=[(ro 0 30 3 AA q21)]) (rows1':=[(ro 0 30 3 AA s0),(ro 0 3 1 eI s1)]) (rows2':=[(ro 0 30 3 AA q21)]) (st':=[(ro 0 30 3 AA s0),(ro 0 3 1 eI s1),⟨0,26,2,[[.zc,.zc]]⟩,⟨0,26,2,[[(ow 4 0 q9.cells),(ow 5 0 q9.pending)]]⟩,(ro 0 30 3 AA q9.cells),(ro 0 3 1 eI q9.pending),⟨0,26,2,[[(ow 0 0 s0),(ow 1 0 s1)]]⟩,(ro 0 30 3 AA q21)]) (v':=(ow 7 0 q21)) [0,1] Ae Ep (Az gq21) rfl (by decide) rfl U (.pure (AB fun _=>U) (.pure (AB fun _=>U) .nil)) rfl U (.pure (AB fun _=>U) (.pure (AB fun _=>U) .nil)) (.pure (AB fun _=>U) .nil) rfl U ?_
      refine AE ⟨U,?_⟩
      exact AD (AF (L:=[(1,(i64 p1)),(4,(.ptr 2 0 0 0)),(6,(.ptr 3 0 0 0)),(22,(.ptr 6 0 0 0)),(24,(i64 p1)),(30,(ow 7 0 q21)),(33,(i64 (Sh.w (p1 - 1000))))]) ⟨.rfl,.rfl,.rfl,.rfl,.rfl,.rfl,.rfl,trivial⟩) (AG (by kernel_rfl) ((hA24 _ _ _).1 A24_0278ab)) rfl)
    have A24_027a:A24 11 #[true,false,true,false,false,false,false,true,false,false,true,false,false,false,false] ⟨42,AM [(1,(i64 p1)),(4,(.ptr 2 0 0 0)),(6,(.ptr 3 0 0 0)),(22,(.ptr 6 0 0 0)),(24,(i64 p1)),(29,(.agg [(ow 0 0 s0),(ow 1 0 s1)])),(32,(i64 p1))],[(ro 0 30 3 AA s0),(ro 0 3 1 eI s1),⟨0,26,2,[[.zc,.zc]]⟩,⟨0,26,2,[[(ow 4 0 q9.cells),(ow 5 0 q9.pending)]]⟩,(ro 0 30 3 AA q9.cells),(ro 0 3 1 eI q9.pending),⟨0,26,2,[[(ow 0 0 s0),(ow 1 0 s1)]]⟩]⟩:=(hA24 _ _ _).2 (by
     refine AJ [1,3,8,11] U (by kernel_rfl) (by decide) ⟨?_,?_,?_,?_,trivial⟩
     ·refine AH (i:=1) rfl U (by rfl) ?_
      refine zq tb U ?_
      refine AE ⟨U,?_⟩
      exact AD (by refine Wk.trans (AL (L:=[(1,(i64 p1)),(4,(.ptr 2 0 0 0)),(6,(.ptr 3 0 0 0)),(23,(ow 0 0 s0)),(24,(i64 p1)),(29,(.agg [(ow 0 0 s0),(ow 1 0 s1)])),(32,(i64 p1))]) (st':=[(ro 0 30 3 AA s0),(ro 0 3 1 eI s1),⟨0,26,2,[[.zc,.zc]]⟩,⟨0,26,2,[[(ow 4 0 q9.cells),(ow 5 0 q9.pending)]]⟩,(ro 0 30 3 AA q9.cells),(ro 0 3 1 eI q9.pending)]) (st1:=[(ro 0 30 3 AA s0),(ro 0 3 1 eI s1),⟨0,26,2,[[.zc,.zc]]⟩,⟨0,26,2,[[(ow 4 0 q9.cells),(ow 5 0 q9.pending)]]⟩,(ro 0 30 3 AA q9.cells),(ro 0 3 1 eI q9.pending)]) [0,1,2,3,4,5] U (.pure (AB fun _=>U) (.pure (AB fun _=>U) .nil)) (by decide) rfl U (.pure (AB fun _=>U) (.pure (AB fun _=>U) (.raw U U (.raw U U (.pure (AB fun _=>U) (.pure (AB fun _=>U) .nil)))))) ⟨.rfl,.rfl,.rfl,.rfl,.rfl,.rfl,.rfl,trivial⟩) ?_;exact AF (L:=[(1,(i64 p1)),(4,(.ptr 2 0 0 0)),(6,(.ptr 3 0 0 0)),(23,(ow 0 0 s0)),(24,(i64 p1)),(29,(.agg [(ow 0 0 s0),(ow 1 0 s1)])),(32,(i64 p1))]) ⟨.rfl,.rfl,.rfl,.rfl,.rfl,.rfl,.rfl,trivial⟩) (AG (by kernel_rfl) ((hA24 _ _ _).1 A24_0127a)) rfl
     ·refine AH (i:=3) rfl U (by rfl) ?_
      refine zq tb U ?_
      refine AE ⟨U,?_⟩
      exact AD (AF (L:=[(1,(i64 p1)),(4,(.ptr 2 0 0 0)),(6,(.ptr 3 0 0 0)),(22,(.ptr 6 0 0 0)),(25,(i64 (Sh.w (p1 - 1000)))),(29,(.agg [(ow 0 0 s0),(ow 1 0 s1)])),(32,(i64 p1))]) ⟨.rfl,.rfl,.rfl,.rfl,.rfl,.rfl,.rfl,trivial⟩) (AG (by kernel_rfl) ((hA24 _ _ _).1 A24_0237a)) rfl
     ·refine AH (i:=8) rfl U (by rfl) ?_
      refine Ad (rowsP:=[(ro 0 30 3 AA s0),(ro 0 3 1 eI s1)]) (rows0:=[(ro 0 30 3 AA s0),(ro 0 3 1 eI s1)]) (rows1:=[(ro 0 30 3 AA s0),(ro 0 3 1 eI s1)]) (rows2:=[(ro 0 30 3 AA q21)]) (rows1':=[(ro 0 30 3 AA s0),(ro 0 3 1 eI s1)]) (rows2':=[(ro 0 30 3 AA q21)]) (st':=[(ro 0 30 3 AA s0),(ro 0 3 1 eI s1),⟨0,26,2,[[.zc,.zc]]⟩,⟨0,26,2,[[(ow 4 0 q9.cells),(ow 5 0 q9.pending)]]⟩,(ro 0 30 3 AA q9.cells),(ro 0 3 1 eI q9.pending),⟨0,26,2,[[(ow 0 0 s0),(ow 1 0 s1)]]⟩,(ro 0 30 3 AA q21)]) (v':=(ow 7 0 q21)) [0,1] Ae Ep (Az gq21) rfl (by decide) rfl U (.pure (AB fun _=>U) (.pure (AB fun _=>U) .nil)) rfl U (.pure (AB fun _=>U) (.pure (AB fun _=>U) .nil)) (.pure (AB fun _=>U) .nil) rfl U ?_
      refine AE ⟨U,?_⟩
      exact AD (AF (L:=[(1,(i64 p1)),(4,(.ptr 2 0 0 0)),(6,(.ptr 3 0 0 0)),(22,(.ptr 6 0 0 0)),(24,(i64 p1)),(30,(ow 7 0 q21)),(32,(i64 p1))]) ⟨.rfl,.rfl,.rfl,.rfl,.rfl,.rfl,.rfl,trivial⟩) (AG (by kernel_rfl) ((hA24 _ _ _).1 A24_0278a)) rfl
     ·refine AH (i:=11) rfl U (by rfl) ?_
      refine zq tb U ?_
      refine AE ⟨U,?_⟩
      exact AD (AF (L:=[(1,(i64 p1)),(4,(.ptr 2 0 0 0)),(6,(.ptr 3 0 0 0)),(22,(.ptr 6 0 0 0)),(24,(i64 p1)),(29,(.agg [(ow 0 0 s0),(ow 1 0 s1)])),(33,(i64 (Sh.w (p1 - 1000))))]) ⟨.rfl,.rfl,.rfl,.rfl,.rfl,.rfl,.rfl,trivial⟩) (AG (by kernel_rfl) ((hA24 _ _ _).1 A24_027ab)) rfl)
    have A24_02ab:A24 11 #[true,false,true,false,false,false,false,false,false,false,true,true,false,false,false] ⟨42,AM [(1,(i64 p1)),(2,(.ptr 2 0 0 0)),(4,(.ptr 3 0 0 0)),(6,(.ptr 4 0 0 0)),(22,(.ptr 2 0 0 0)),(24,(i64 p1)),(33,(i64 (Sh.w (p1 - 1000))))],[(ro 0 30 3 AA s0),(ro 0 3 1 eI s1),⟨0,26,2,[[(ow 0 0 s0),(ow 1 0 s1)]]⟩,⟨0,26,2,[[.zc,.zc]]⟩,⟨0,26,2,[[(ow 5 0 q9.cells),(ow 6 0 q9.pending)]]⟩,(ro 0 30 3 AA q9.cells),(ro 0 3 1 eI q9.pending)]⟩:=(hA24 _ _ _).2 (by
     refine AJ [1,3,7] U (by kernel_rfl) (by decide) ⟨?_,?_,?_,trivial⟩
     ·refine AH (i:=1) rfl U (by rfl) ?_
      refine zq tb U ?_
      refine AE ⟨U,?_⟩
      exact AD (AF (L:=[(1,(i64 p1)),(2,(.ptr 2 0 0 0)),(4,(.ptr 3 0 0 0)),(6,(.ptr 4 0 0 0)),(23,(ow 0 0 s0)),(24,(i64 p1)),(33,(i64 (Sh.w (p1 - 1000))))]) ⟨.rfl,.rfl,.rfl,.rfl,.rfl,.rfl,.rfl,trivial⟩) (AG (by kernel_rfl) ((hA24 _ _ _).1 A24_012ab)) rfl
     ·refine AH (i:=3) rfl U (by rfl) ?_
      refine zq tb U ?_
      refine AE ⟨U,?_⟩
      exact AD (AF (L:=[(1,(i64 p1)),(2,(.ptr 2 0 0 0)),(4,(.ptr 3 0 0 0)),(6,(.ptr 4 0 0 0)),(22,(.ptr 2 0 0 0)),(25,(i64 (Sh.w (p1 - 1000)))),(33,(i64 (Sh.w (p1 - 1000))))]) ⟨.rfl,.rfl,.rfl,.rfl,.rfl,.rfl,.rfl,trivial⟩) (AG (by kernel_rfl) ((hA24 _ _ _).1 A24_023ab)) rfl
     ·refine AH (i:=7) rfl U (by rfl) ?_
      refine zq tb U ?_
      refine AE ⟨U,?_⟩
      exact AD (by refine Wk.trans (AL (L:=[(1,(i64 p1)),(4,(.ptr 2 0 0 0)),(6,(.ptr 3 0 0 0)),(22,(.ptr 6 0 0 0)),(24,(i64 p1)),(29,(.agg [(ow 0 0 s0),(ow 1 0 s1)])),(33,(i64 (Sh.w (p1 - 1000))))]) (st':=[(ro 0 30 3 AA s0),(ro 0 3 1 eI s1),⟨0,26,2,[[.zc,.zc]]⟩,⟨0,26,2,[[(ow 4 0 q9.cells),(ow 5 0 q9.pending)]]⟩,(ro 0 30 3 AA q9.cells),(ro 0 3 1 eI q9.pending),⟨0,26,2,[[(ow 0 0 s0),(ow 1 0 s1)]]⟩]) (st1:=[(ro 0 30 3 AA s0),(ro 0 3 1 eI s1),⟨0,26,2,[[.zc,.zc]]⟩,⟨0,26,2,[[(ow 5 0 q9.cells),(ow 6 0 q9.pending)]]⟩,(ro 0 30 3 AA q9.cells),(ro 0 3 1 eI q9.pending),⟨0,26,2,[[(ow 0 0 s0),(ow 1 0 s1)]]⟩]) [0,1,3,4,5,6,2] U (.pure (AB fun _=>U) (.pure (AB fun _=>U) .nil)) (by decide) rfl U (.pure (AB fun _=>U) (.pure (AB fun _=>U) (.raw U U (.raw U U (.pure (AB fun _=>U) (.pure (AB fun _=>U) (.raw U U .nil))))))) ⟨.rfl,.rfl,.rfl,.rfl,.rfl,.rfl,.rfl,trivial⟩) ?_;exact AF (L:=[(1,(i64 p1)),(4,(.ptr 2 0 0 0)),(6,(.ptr 3 0 0 0)),(22,(.ptr 6 0 0 0)),(24,(i64 p1)),(29,(.agg [(ow 0 0 s0),(ow 1 0 s1)])),(33,(i64 (Sh.w (p1 - 1000))))]) ⟨.rfl,.rfl,.rfl,.rfl,.rfl,.rfl,.rfl,trivial⟩) (AG (by kernel_rfl) ((hA24 _ _ _).1 A24_027ab)) rfl)
    have A24_02a:A24 12 #[true,false,true,false,false,false,false,false,false,false,true,false,false,false,false] ⟨42,AM [(1,(i64 p1)),(2,(.ptr 2 0 0 0)),(4,(.ptr 3 0 0 0)),(6,(.ptr 4 0 0 0)),(22,(.ptr 2 0 0 0)),(24,(i64 p1)),(32,(i64 p1))],[(ro 0 30 3 AA s0),(ro 0 3 1 eI s1),⟨0,26,2,[[(ow 0 0 s0),(ow 1 0 s1)]]⟩,⟨0,26,2,[[.zc,.zc]]⟩,⟨0,26,2,[[(ow 5 0 q9.cells),(ow 6 0 q9.pending)]]⟩,(ro 0 30 3 AA q9.cells),(ro 0 3 1 eI q9.pending)]⟩:=(hA24 _ _ _).2 (by
     refine AJ [1,3,7,11] U (by kernel_rfl) (by decide) ⟨?_,?_,?_,?_,trivial⟩
     ·refine AH (i:=1) rfl U (by rfl) ?_
      refine zq tb U ?_
      refine AE ⟨U,?_⟩
      exact AD (AF (L:=[(1,(i64 p1)),(2,(.ptr 2 0 0 0)),(4,(.ptr 3 0 0 0)),(6,(.ptr 4 0 0 0)),(23,(ow 0 0 s0)),(24,(i64 p1)),(32,(i64 p1))]) ⟨.rfl,.rfl,.rfl,.rfl,.rfl,.rfl,.rfl,trivial⟩) (AG (by kernel_rfl) ((hA24 _ _ _).1 A24_012a)) rfl
     ·refine AH (i:=3) rfl U (by rfl) ?_
      refine zq tb U ?_
      refine AE ⟨U,?_⟩
      exact AD (AF (L:=[(1,(i64 p1)),(2,(.ptr 2 0 0 0)),(4,(.ptr 3 0 0 0)),(6,(.ptr 4 0 0 0)),(22,(.ptr 2 0 0 0)),(25,(i64 (Sh.w (p1 - 1000)))),(32,(i64 p1))]) ⟨.rfl,.rfl,.rfl,.rfl,.rfl,.rfl,.rfl,trivial⟩) (AG (by kernel_rfl) ((hA24 _ _ _).1 A24_023a)) rfl
     ·refine AH (i:=7) rfl U (by rfl) ?_
      refine zq tb U ?_
      refine AE ⟨U,?_⟩
      exact AD (by refine Wk.trans (AL (L:=[(1,(i64 p1)),(4,(.ptr 2 0 0 0)),(6,(.ptr 3 0 0 0)),(22,(.ptr 6 0 0 0)),(24,(i64 p1)),(29,(.agg [(ow 0 0 s0),(ow 1 0 s1)])),(32,(i64 p1))]) (st':=[(ro 0 30 3 AA s0),(ro 0 3 1 eI s1),⟨0,26,2,[[.zc,.zc]]⟩,⟨0,26,2,[[(ow 4 0 q9.cells),(ow 5 0 q9.pending)]]⟩,(ro 0 30 3 AA q9.cells),(ro 0 3 1 eI q9.pending),⟨0,26,2,[[(ow 0 0 s0),(ow 1 0 s1)]]⟩]) (st1:=[(ro 0 30 3 AA s0),(ro 0 3 1 eI s1),⟨0,26,2,[[.zc,.zc]]⟩,⟨0,26,2,[[(ow 5 0 q9.cells),(ow 6 0 q9.pending)]]⟩,(ro 0 30 3 AA q9.cells),(ro 0 3 1 eI q9.pending),⟨0,26,2,[[(ow 0 0 s0),(ow 1 0 s1)]]⟩]) [0,1,3,4,5,6,2] U (.pure (AB fun _=>U) (.pure (AB fun _=>U) .nil)) (by decide) rfl U (.pure (AB fun _=>U) (.pure (AB fun _=>U) (.raw U U (.raw U U (.pure (AB fun _=>U) (.pure (AB fun _=>U) (.raw U U .nil))))))) ⟨.rfl,.rfl,.rfl,.rfl,.rfl,.rfl,.rfl,trivial⟩) ?_;exact AF (L:=[(1,(i64 p1)),(4,(.ptr 2 0 0 0)),(6,(.ptr 3 0 0 0)),(22,(.ptr 6 0 0 0)),(24,(i64 p1)),(29,(.agg [(ow 0 0 s0),(ow 1 0 s1)])),(32,(i64 p1))]) ⟨.rfl,.rfl,.rfl,.rfl,.rfl,.rfl,.rfl,trivial⟩) (AG (by kernel_rfl) ((hA24 _ _ _).1 A24_027a)) rfl
     ·refine AH (i:=11) rfl U (by rfl) ?_
      refine zq tb U ?_
      refine AE ⟨U,?_⟩
      exact AD (AF (L:=[(1,(i64 p1)),(2,(.ptr 2 0 0 0)),(4,(.ptr 3 0 0 0)),(6,(.ptr 4 0 0 0)),(22,(.ptr 2 0 0 0)),(24,(i64 p1)),(33,(i64 (Sh.w (p1 - 1000))))]) ⟨.rfl,.rfl,.rfl,.rfl,.rfl,.rfl,.rfl,trivial⟩) (AG (by kernel_rfl) ((hA24 _ _ _).1 A24_02ab)) rfl)
    have A24_23789abcd:A24 6 #[false,false,true,true,false,false,false,true,true,true,true,true,true,true,false] ⟨42,AM [(1,(i64 p1)),(2,(.ptr 2 0 0 0)),(4,(.ptr 3 0 0 0)),(6,(.ptr 4 0 0 0)),(25,(i64 (Sh.w (p1 - 1000)))),(35,(i64 c23))],[(ro 0 30 3 AA s0),(ro 0 3 1 eI s1),⟨0,26,2,[[(ow 0 0 s0),(ow 1 0 s1)]]⟩,⟨0,26,2,[[.zc,.zc]]⟩,⟨0,26,2,[[(ow 5 0 q9.cells),(ow 6 0 q9.pending)]]⟩,(ro 0 30 3 AA q9.cells),(ro 0 3 1 eI q9.pending)]⟩:=(hA24 _ _ _).2 (by
     refine AJ [0] U (by kernel_rfl) (by decide) ⟨?_,trivial⟩
     ·refine AH (i:=0) rfl U (by rfl) ?_
      refine zq tb U ?_
      refine AE ⟨U,?_⟩
      exact AD (by refine Wk.trans (AL (L:=[(1,(i64 p1)),(4,(.ptr 2 0 0 0)),(6,(.ptr 3 0 0 0)),(22,(.ptr 6 0 0 0)),(25,(i64 (Sh.w (p1 - 1000)))),(35,(i64 c23))]) (st':=[(ro 0 30 3 AA s0),(ro 0 3 1 eI s1),⟨0,26,2,[[.zc,.zc]]⟩,⟨0,26,2,[[(ow 4 0 q9.cells),(ow 5 0 q9.pending)]]⟩,(ro 0 30 3 AA q9.cells),(ro 0 3 1 eI q9.pending),⟨0,26,2,[[(ow 0 0 s0),(ow 1 0 s1)]]⟩]) (st1:=[(ro 0 30 3 AA s0),(ro 0 3 1 eI s1),⟨0,26,2,[[.zc,.zc]]⟩,⟨0,26,2,[[(ow 5 0 q9.cells),(ow 6 0 q9.pending)]]⟩,(ro 0 30 3 AA q9.cells),(ro 0 3 1 eI q9.pending),⟨0,26,2,[[(ow 0 0 s0),(ow 1 0 s1)]]⟩]) [0,1,3,4,5,6,2] U (.pure (AB fun _=>U) (.pure (AB fun _=>U) .nil)) (by decide) rfl U (.pure (AB fun _=>U) (.pure (AB fun _=>U) (.raw U U (.raw U U (.pure (AB fun _=>U) (.pure (AB fun _=>U) (.raw U U .nil))))))) ⟨.rfl,.rfl,.rfl,.rfl,.rfl,.rfl,trivial⟩) ?_;exact AF (L:=[(1,(i64 p1)),(4,(.ptr 2 0 0 0)),(6,(.ptr 3 0 0 0)),(22,(.ptr 6 0 0 0)),(25,(i64 (Sh.w (p1 - 1000)))),(35,(i64 c23))]) ⟨.rfl,.rfl,.rfl,.rfl,.rfl,.rfl,trivial⟩) (AG (by kernel_rfl) ((hA24 _ _ _).1 A24_023789abcd)) rfl)
    have A24_23789abc:A24 7 #[false,false,true,true,false,false,false,true,true,true,true,true,true,false,false] ⟨42,AM [(1,(i64 p1)),(2,(.ptr 2 0 0 0)),(4,(.ptr 3 0 0 0)),(6,(.ptr 4 0 0 0)),(25,(i64 (Sh.w (p1 - 1000)))),(34,(.ptr 7 0 (Int.toNat (Sh.w (p1 - 1000))) 0))],[(ro 0 30 3 AA s0),(ro 0 3 1 eI s1),⟨0,26,2,[[(ow 0 0 s0),(ow 1 0 s1)]]⟩,⟨0,26,2,[[.zc,.zc]]⟩,⟨0,26,2,[[(ow 5 0 q9.cells),(ow 6 0 q9.pending)]]⟩,(ro 0 30 3 AA q9.cells),(ro 0 3 1 eI q9.pending),(ro 0 3 1 eI q22)]⟩:=(hA24 _ _ _).2 (by
     refine AJ [0,13] U (by kernel_rfl) (by decide) ⟨?_,?_,trivial⟩
     ·refine AH (i:=0) rfl U (by rfl) ?_
      refine zq tb U ?_
      refine AE ⟨U,?_⟩
      exact AD (by refine Wk.trans (AL (L:=[(1,(i64 p1)),(4,(.ptr 2 0 0 0)),(6,(.ptr 3 0 0 0)),(22,(.ptr 6 0 0 0)),(25,(i64 (Sh.w (p1 - 1000)))),(34,(.ptr 7 0 (Int.toNat (Sh.w (p1 - 1000))) 0))]) (st':=[(ro 0 30 3 AA s0),(ro 0 3 1 eI s1),⟨0,26,2,[[.zc,.zc]]⟩,⟨0,26,2,[[(ow 4 0 q9.cells),(ow 5 0 q9.pending)]]⟩,(ro 0 30 3 AA q9.cells),(ro 0 3 1 eI q9.pending),⟨0,26,2,[[(ow 0 0 s0),(ow 1 0 s1)]]⟩,(ro 0 3 1 eI q22)]) (st1:=[(ro 0 30 3 AA s0),(ro 0 3 1 eI s1),⟨0,26,2,[[.zc,.zc]]⟩,⟨0,26,2,[[(ow 5 0 q9.cells),(ow 6 0 q9.pending)]]⟩,(ro 0 30 3 AA q9.cells),(ro 0 3 1 eI q9.pending),⟨0,26,2,[[(ow 0 0 s0),(ow 1 0 s1)]]⟩,(ro 0 3 1 eI q22)]) [0,1,3,4,5,6,2,7] U (.pure (AB fun _=>U) (.pure (AB fun _=>U) .nil)) (by decide) rfl U (.pure (AB fun _=>U) (.pure (AB fun _=>U) (.raw U U (.raw U U (.pure (AB fun _=>U) (.pure (AB fun _=>U) (.raw U U (.pure (AB fun _=>U) .nil)))))))) ⟨.rfl,.rfl,.rfl,.rfl,.rfl,.rfl,trivial⟩) ?_;exact AF (L:=[(1,(i64 p1)),(4,(.ptr 2 0 0 0)),(6,(.ptr 3 0 0 0)),(22,(.ptr 6 0 0 0)),(25,(i64 (Sh.w (p1 - 1000)))),(34,(.ptr 7 0 (Int.toNat (Sh.w (p1 - 1000))) 0))]) ⟨.rfl,.rfl,.rfl,.rfl,.rfl,.rfl,trivial⟩) (AG (by kernel_rfl) ((hA24 _ _ _).1 A24_023789abc)) rfl
     ·refine AH (i:=13) rfl U (by rfl) ?_
      refine zz (i64 c23) (Aw CM U U (Am gc23) rfl) rfl ?_
      refine AE ⟨U,?_⟩
      exact AD (by refine Wk.trans (AL (L:=[(1,(i64 p1)),(2,(.ptr 2 0 0 0)),(4,(.ptr 3 0 0 0)),(6,(.ptr 4 0 0 0)),(25,(i64 (Sh.w (p1 - 1000)))),(35,(i64 c23))]) (st':=[(ro 0 30 3 AA s0),(ro 0 3 1 eI s1),⟨0,26,2,[[(ow 0 0 s0),(ow 1 0 s1)]]⟩,⟨0,26,2,[[.zc,.zc]]⟩,⟨0,26,2,[[(ow 5 0 q9.cells),(ow 6 0 q9.pending)]]⟩,(ro 0 30 3 AA q9.cells),(ro 0 3 1 eI q9.pending)]) (st1:=[(ro 0 30 3 AA s0),(ro 0 3 1 eI s1),⟨0,26,2,[[(ow 0 0 s0),(ow 1 0 s1)]]⟩,⟨0,26,2,[[.zc,.zc]]⟩,⟨0,26,2,[[(ow 5 0 q9.cells),(ow 6 0 q9.pending)]]⟩,(ro 0 30 3 AA q9.cells),(ro 0 3 1 eI q9.pending)]) [0,1,2,3,4,5,6] U (.pure (AB fun _=>U) (.pure (AB fun _=>U) .nil)) (by decide) rfl U (.pure (AB fun _=>U) (.pure (AB fun _=>U) (.raw U U (.raw U U (.raw U U (.pure (AB fun _=>U) (.pure (AB fun _=>U) .nil))))))) ⟨.rfl,.rfl,.rfl,.rfl,.rfl,.rfl,trivial⟩) ?_;exact AF (L:=[(1,(i64 p1)),(2,(.ptr 2 0 0 0)),(4,(.ptr 3 0 0 0)),(6,(.ptr 4 0 0 0)),(25,(i64 (Sh.w (p1 - 1000)))),(35,(i64 c23))]) ⟨.rfl,.rfl,.rfl,.rfl,.rfl,.rfl,trivial⟩) (AG (by kernel_rfl) ((hA24 _ _ _).1 A24_23789abcd)) rfl)
    have A24_23789ab:A24 8 #[false,false,true,true,false,false,false,true,true,true,true,true,false,false,false] ⟨42,AM [(1,(i64 p1)),(2,(.ptr 2 0 0 0)),(4,(.ptr 3 0 0 0)),(6,(.ptr 4 0 0 0)),(25,(i64 (Sh.w (p1 - 1000)))),(31,(ow 7 0 q22)),(33,(i64 (Sh.w (p1 - 1000))))],[(ro 0 30 3 AA s0),(ro 0 3 1 eI s1),⟨0,26,2,[[(ow 0 0 s0),(ow 1 0 s1)]]⟩,⟨0,26,2,[[.zc,.zc]]⟩,⟨0,26,2,[[(ow 5 0 q9.cells),(ow 6 0 q9.pending)]]⟩,(ro 0 30 3 AA q9.cells),(ro 0 3 1 eI q9.pending),(ro 0 3 1 eI q22)]⟩:=(hA24 _ _ _).2 (by
     refine AJ [0,12] U (by kernel_rfl) (by decide) ⟨?_,?_,trivial⟩
     ·refine AH (i:=0) rfl U (by rfl) ?_
      refine zq tb U ?_
      refine AE ⟨U,?_⟩
      exact AD (by refine Wk.trans (AL (L:=[(1,(i64 p1)),(4,(.ptr 2 0 0 0)),(6,(.ptr 3 0 0 0)),(22,(.ptr 6 0 0 0)),(25,(i64 (Sh.w (p1 - 1000)))),(31,(ow 7 0 q22)),(33,(i64 (Sh.w (p1 - 1000))))]) (st':=[(ro 0 30 3 AA s0),(ro 0 3 1 eI s1),⟨0,26,2,[[.zc,.zc]]⟩,⟨0,26,2,[[(ow 4 0 q9.cells),(ow 5 0 q9.pending)]]⟩,(ro 0 30 3 AA q9.cells),(ro 0 3 1 eI q9.pending),⟨0,26,2,[[(ow 0 0 s0),(ow 1 0 s1)]]⟩,(ro 0 3 1 eI q22)]) (st1:=[(ro 0 30 3 AA s0),(ro 0 3 1 eI s1),⟨0,26,2,[[.zc,.zc]]⟩,⟨0,26,2,[[(ow 5 0 q9.cells),(ow 6 0 q9.pending)]]⟩,(ro 0 30 3 AA q9.cells),(ro 0 3 1 eI q9.pending),⟨0,26,2,[[(ow 0 0 s0),(ow 1 0 s1)]]⟩,(ro 0 3 1 eI q22)]) [0,1,3,4,5,6,2,7] U (.pure (AB fun _=>U) (.pure (AB fun _=>U) .nil)) (by decide) rfl U (.pure (AB fun _=>U) (.pure (AB fun _=>U) (.raw U U (.raw U U (.pure (AB fun _=>U) (.pure (AB fun _=>U) (.raw U U (.pure (AB fun _=>U) .nil)))))))) ⟨.rfl,.rfl,.rfl,.rfl,.rfl,.rfl,.rfl,trivial⟩) ?_;exact AF (L:=[(1,(i64 p1)),(4,(.ptr 2 0 0 0)),(6,(.ptr 3 0 0 0)),(22,(.ptr 6 0 0 0)),(25,(i64 (Sh.w (p1 - 1000)))),(31,(ow 7 0 q22)),(33,(i64 (Sh.w (p1 - 1000))))]) ⟨.rfl,.rfl,.rfl,.rfl,.rfl,.rfl,.rfl,trivial⟩) (AG (by kernel_rfl) ((hA24 _ _ _).1 A24_023789ab)) rfl
     ·refine AH (i:=12) rfl U (by rfl) ?_
      refine zz (.ptr 7 0 (Int.toNat (Sh.w (p1 - 1000))) 0) (An Av U U U U gc23) rfl ?_
      refine AE ⟨U,?_⟩
      exact AD (AF (L:=[(1,(i64 p1)),(2,(.ptr 2 0 0 0)),(4,(.ptr 3 0 0 0)),(6,(.ptr 4 0 0 0)),(25,(i64 (Sh.w (p1 - 1000)))),(34,(.ptr 7 0 (Int.toNat (Sh.w (p1 - 1000))) 0))]) ⟨.rfl,.rfl,.rfl,.rfl,.rfl,.rfl,trivial⟩) (AG (by kernel_rfl) ((hA24 _ _ _).1 A24_23789abc)) rfl)
    have A24_23789a:A24 9 #[false,false,true,true,false,false,false,true,true,true,true,false,false,false,false] ⟨42,AM [(1,(i64 p1)),(2,(.ptr 2 0 0 0)),(4,(.ptr 3 0 0 0)),(6,(.ptr 4 0 0 0)),(25,(i64 (Sh.w (p1 - 1000)))),(31,(ow 7 0 q22)),(32,(i64 p1))],[(ro 0 30 3 AA s0),(ro 0 3 1 eI s1),⟨0,26,2,[[(ow 0 0 s0),(ow 1 0 s1)]]⟩,⟨0,26,2,[[.zc,.zc]]⟩,⟨0,26,2,[[(ow 5 0 q9.cells),(ow 6 0 q9.pending)]]⟩,(ro 0 30 3 AA q9.cells),(ro 0 3 1 eI q9.pending),(ro 0 3 1 eI q22)]⟩:=(hA24 _ _ _).2 (by
     refine AJ [0,11] U (by kernel_rfl) (by decide) ⟨?_,?_,trivial⟩
     ·refine AH (i:=0) rfl U (by rfl) ?_
      refine zq tb U ?_
      refine AE ⟨U,?_⟩
      exact AD (by refine Wk.trans (AL (L:=[(1,(i64 p1)),(4,(.ptr 2 0 0 0)),(6,(.ptr 3 0 0 0)),(22,(.ptr 6 0 0 0)),(25,(i64 (Sh.w (p1 - 1000)))),(31,(ow 7 0 q22)),(32,(i64 p1))]) (st':=[(ro 0 30 3 AA s0),(ro 0 3 1 eI s1),⟨0,26,2,[[.zc,.zc]]⟩,⟨0,26,2,[[(ow 4 0 q9.cells),(ow 5 0 q9.pending)]]⟩,(ro 0 30 3 AA q9.cells),(ro 0 3 1 eI q9.pending),⟨0,26,2,[[(ow 0 0 s0),(ow 1 0 s1)]]⟩,(ro 0 3 1 eI q22)]) (st1:=[(ro 0 30 3 AA s0),(ro 0 3 1 eI s1),⟨0,26,2,[[.zc,.zc]]⟩,⟨0,26,2,[[(ow 5 0 q9.cells),(ow 6 0 q9.pending)]]⟩,(ro 0 30 3 AA q9.cells),(ro 0 3 1 eI q9.pending),⟨0,26,2,[[(ow 0 0 s0),(ow 1 0 s1)]]⟩,(ro 0 3 1 eI q22)]) [0,1,3,4,5,6,2,7] U (.pure (AB fun _=>U) (.pure (AB fun _=>U) .nil)) (by decide) rfl U (.pure (AB fun _=>U) (.pure (AB fun _=>U) (.raw U U (.raw U U (.pure (AB fun _=>U) (.pure (AB fun _=>U) (.raw U U (.pure (AB fun _=>U) .nil)))))))) ⟨.rfl,.rfl,.rfl,.rfl,.rfl,.rfl,.rfl,trivial⟩) ?_;exact AF (L:=[(1,(i64 p1)),(4,(.ptr 2 0 0 0)),(6,(.ptr 3 0 0 0)),(22,(.ptr 6 0 0 0)),(25,(i64 (Sh.w (p1 - 1000)))),(31,(ow 7 0 q22)),(32,(i64 p1))]) ⟨.rfl,.rfl,.rfl,.rfl,.rfl,.rfl,.rfl,trivial⟩) (AG (by kernel_rfl) ((hA24 _ _ _).1 A24_023789a)) rfl
     ·refine AH (i:=11) rfl U (by rfl) ?_
      refine zq tb U ?_
      refine AE ⟨U,?_⟩
      exact AD (AF (L:=[(1,(i64 p1)),(2,(.ptr 2 0 0 0)),(4,(.ptr 3 0 0 0)),(6,(.ptr 4 0 0 0)),(25,(i64 (Sh.w (p1 - 1000)))),(31,(ow 7 0 q22)),(33,(i64 (Sh.w (p1 - 1000))))]) ⟨.rfl,.rfl,.rfl,.rfl,.rfl,.rfl,.rfl,trivial⟩) (AG (by kernel_rfl) ((hA24 _ _ _).1 A24_23789ab)) rfl)
    have A24_2378ab:A24 9 #[false,false,true,true,false,false,false,true,true,false,true,true,false,false,false] ⟨42,AM [(1,(i64 p1)),(2,(.ptr 2 0 0 0)),(4,(.ptr 3 0 0 0)),(6,(.ptr 4 0 0 0)),(25,(i64 (Sh.w (p1 - 1000)))),(30,(ow 7 0 q21)),(33,(i64 (Sh.w (p1 - 1000))))],[(ro 0 30 3 AA s0),(ro 0 3 1 eI s1),⟨0,26,2,[[(ow 0 0 s0),(ow 1 0 s1)]]⟩,⟨0,26,2,[[.zc,.zc]]⟩,⟨0,26,2,[[(ow 5 0 q9.cells),(ow 6 0 q9.pending)]]⟩,(ro 0 30 3 AA q9.cells),(ro 0 3 1 eI q9.pending),(ro 0 30 3 AA q21)]⟩:=(hA24 _ _ _).2 (by
     refine AJ [0,9] U (by kernel_rfl) (by decide) ⟨?_,?_,trivial⟩
     ·refine AH (i:=0) rfl U (by rfl) ?_
      refine zq tb U ?_
      refine AE ⟨U,?_⟩
      exact AD (by refine Wk.trans (AL (L:=[(1,(i64 p1)),(4,(.ptr 2 0 0 0)),(6,(.ptr 3 0 0 0)),(22,(.ptr 6 0 0 0)),(25,(i64 (Sh.w (p1 - 1000)))),(30,(ow 7 0 q21)),(33,(i64 (Sh.w (p1 - 1000))))]) (st':=[(ro 0 30 3 AA s0),(ro 0 3 1 eI s1),⟨0,26,2,[[.zc,.zc]]⟩,⟨0,26,2,[[(ow 4 0 q9.cells),(ow 5 0 q9.pending)]]⟩,(ro 0 30 3 AA q9.cells),(ro 0 3 1 eI q9.pending),⟨0,26,2,[[(ow 0 0 s0),(ow 1 0 s1)]]⟩,(ro 0 30 3 AA q21)]) (st1:=[(ro 0 30 3 AA s0),(ro 0 3 1 eI s1),⟨0,26,2,[[.zc,.zc]]⟩,⟨0,26,2,[[(ow 5 0 q9.cells),(ow 6 0 q9.pending)]]⟩,(ro 0 30 3 AA q9.cells),(ro 0 3 1 eI q9.pending),⟨0,26,2,[[(ow 0 0 s0),(ow 1 0 s1)]]⟩,(ro 0 30 3 AA q21)]) [0,1,3,4,5,6,2,7] U (.pure (AB fun _=>U) (.pure (AB fun _=>U) .nil)) (by decide) rfl U (.pure (AB fun _=>U) (.pure (AB fun _=>U) (.raw U U (.raw U U (.pure (AB fun _=>U) (.pure (AB fun _=>U) (.raw U U (.pure (AB fun _=>U) .nil)))))))) ⟨.rfl,.rfl,.rfl,.rfl,.rfl,.rfl,.rfl,trivial⟩) ?_;exact AF (L:=[(1,(i64 p1)),(4,(.ptr 2 0 0 0)),(6,(.ptr 3 0 0 0)),(22,(.ptr 6 0 0 0)),(25,(i64 (Sh.w (p1 - 1000)))),(30,(ow 7 0 q21)),(33,(i64 (Sh.w (p1 - 1000))))]) ⟨.rfl,.rfl,.rfl,.rfl,.rfl,.rfl,.rfl,trivial⟩) (AG (by kernel_rfl) ((hA24 _ _ _).1 A24_02378ab)) rfl
     ·refine AH (i:=9) rfl U (by rfl) ?_
      refine Af (Wk.A2 (L:=[(1,(i64 p1)),(2,(.ptr 2 0 0 0)),(4,(.ptr 3 0 0 0)),(6,(.ptr 4 0 0 0)),(25,(i64 (Sh.w (p1 - 1000)))),(30,(ls AA q21)),(33,(i64 (Sh.w (p1 - 1000))))]) (st':=[(ro 0 30 3 AA s0),(ro 0 3 1 eI s1),⟨0,26,2,[[(ow 0 0 s0),(ow 1 0 s1)]]⟩,⟨0,26,2,[[.zc,.zc]]⟩,⟨0,26,2,[[(ow 5 0 q9.cells),(ow 6 0 q9.pending)]]⟩,(ro 0 30 3 AA q9.cells),(ro 0 3 1 eI q9.pending),⟨1,30,3,[]⟩]) (id:=7) rfl (show 2≤7 by decide) (AB fun _=>U) ⟨.rfl,.rfl,.rfl,.rfl,.rfl,(.A2 U),.rfl,trivial⟩ U) ?_
      refine BJ (v':=(ow 8 0 q22)) (st':=[(ro 0 30 3 AA s0),(ro 0 3 1 eI s1),⟨0,26,2,[[(ow 0 0 s0),(ow 1 0 s1)]]⟩,⟨0,26,2,[[.zc,.zc]]⟩,⟨0,26,2,[[(ow 5 0 q9.cells),(ow 6 0 q9.pending)]]⟩,(ro 0 30 3 AA q9.cells),(ro 0 3 1 eI q9.pending),⟨1,30,3,[]⟩,(ro 0 3 1 eI q22)]) Ae ET (Ax gq22) rfl U ⟨(BD fun _=>U),trivial⟩ U U ?_
      refine AE ⟨U,?_⟩
      exact AD (by refine Wk.trans (AL (L:=[(1,(i64 p1)),(2,(.ptr 2 0 0 0)),(4,(.ptr 3 0 0 0)),(6,(.ptr 4 0 0 0)),(25,(i64 (Sh.w (p1 - 1000)))),(31,(ow 7 0 q22)),(33,(i64 (Sh.w (p1 - 1000))))]) (st':=[(ro 0 30 3 AA s0),(ro 0 3 1 eI s1),⟨0,26,2,[[(ow 0 0 s0),(ow 1 0 s1)]]⟩,⟨0,26,2,[[.zc,.zc]]⟩,⟨0,26,2,[[(ow 5 0 q9.cells),(ow 6 0 q9.pending)]]⟩,(ro 0 30 3 AA q9.cells),(ro 0 3 1 eI q9.pending),(ro 0 3 1 eI q22)]) (st1:=[(ro 0 30 3 AA s0),(ro 0 3 1 eI s1),⟨0,26,2,[[(ow 0 0 s0),(ow 1 0 s1)]]⟩,⟨0,26,2,[[.zc,.zc]]⟩,⟨0,26,2,[[(ow 5 0 q9.cells),(ow 6 0 q9.pending)]]⟩,(ro 0 30 3 AA q9.cells),(ro 0 3 1 eI q9.pending),(ro 0 3 1 eI q22)]) [0,1,2,3,4,5,6,8] U (.pure (AB fun _=>U) (.pure (AB fun _=>U) .nil)) (by decide) rfl U (.pure (AB fun _=>U) (.pure (AB fun _=>U) (.raw U U (.raw U U (.raw U U (.pure (AB fun _=>U) (.pure (AB fun _=>U) (.pure (AB fun _=>U) .nil)))))))) ⟨.rfl,.rfl,.rfl,.rfl,.rfl,.rfl,.rfl,trivial⟩) ?_;exact AF (L:=[(1,(i64 p1)),(2,(.ptr 2 0 0 0)),(4,(.ptr 3 0 0 0)),(6,(.ptr 4 0 0 0)),(25,(i64 (Sh.w (p1 - 1000)))),(31,(ow 7 0 q22)),(33,(i64 (Sh.w (p1 - 1000))))]) ⟨.rfl,.rfl,.rfl,.rfl,.rfl,.rfl,.rfl,trivial⟩) (AG (by kernel_rfl) ((hA24 _ _ _).1 A24_23789ab)) rfl)
    have A24_2378a:A24 10 #[false,false,true,true,false,false,false,true,true,false,true,false,false,false,false] ⟨42,AM [(1,(i64 p1)),(2,(.ptr 2 0 0 0)),(4,(.ptr 3 0 0 0)),(6,(.ptr 4 0 0 0)),(25,(i64 (Sh.w (p1 - 1000)))),(30,(ow 7 0 q21)),(32,(i64 p1))],[(ro 0 30 3 AA s0),(ro 0 3 1 eI s1),⟨0,26,2,[[(ow 0 0 s0),(ow 1 0 s1)]]⟩,⟨0,26,2,[[.zc,.zc]]⟩,⟨0,26,2,[[(ow 5 0 q9.cells),(ow 6 0 q9.pending)]]⟩,(ro 0 30 3 AA q9.cells),(ro 0 3 1 eI q9.pending),(ro 0 30 3 AA q21)]⟩:=(hA24 _ _ _).2 (by
     refine AJ [0,9,11] U (by kernel_rfl) (by decide) ⟨?_,?_,?_,trivial⟩
     ·refine AH (i:=0) rfl U (by rfl) ?_
      refine zq tb U ?_
      refine AE ⟨U,?_⟩
      exact AD (by refine Wk.trans (AL (L:=[(1,(i64 p1)),(4,(.ptr 2 0 0 0)),(6,(.ptr 3 0 0 0)),(22,(.ptr 6 0 0 0)),(25,(i64 (Sh.w (p1 - 1000)))),(30,(ow 7 0 q21)),(32,(i64 p1))]) (st':=[(ro 0 30 3 AA s0),(ro 0 3 1 eI s1),⟨0,26,2,[[.zc,.zc]]⟩,⟨0,26,2,[[(ow 4 0 q9.cells),(ow 5 0 q9.pending)]]⟩,(ro 0 30 3 AA q9.cells),(ro 0 3 1 eI q9.pending),⟨0,26,2,[[(ow 0 0 s0),(ow 1 0 s1)]]⟩,(ro 0 30 3 AA q21)]) (st1:=[(ro 0 30 3 AA s0),(ro 0 3 1 eI s1),⟨0,26,2,[[.zc,.zc]]⟩,⟨0,26,2,[[(ow 5 0 q9.cells),(ow 6 0 q9.pending)]]⟩,(ro 0 30 3 AA q9.cells),(ro 0 3 1 eI q9.pending),⟨0,26,2,[[(ow 0 0 s0),(ow 1 0 s1)]]⟩,(ro 0 30 3 AA q21)]) [0,1,3,4,5,6,2,7] U (.pure (AB fun _=>U) (.pure (AB fun _=>U) .nil)) (by decide) rfl U (.pure (AB fun _=>U) (.pure (AB fun _=>U) (.raw U U (.raw U U (.pure (AB fun _=>U) (.pure (AB fun _=>U) (.raw U U (.pure (AB fun _=>U) .nil)))))))) ⟨.rfl,.rfl,.rfl,.rfl,.rfl,.rfl,.rfl,trivial⟩) ?_;exact AF (L:=[(1,(i64 p1)),(4,(.ptr 2 0 0 0)),(6,(.ptr 3 0 0 0)),(22,(.ptr 6 0 0 0)),(25,(i64 (Sh.w (p1 - 1000)))),(30,(ow 7 0 q21)),(32,(i64 p1))]) ⟨.rfl,.rfl,.rfl,.rfl,.rfl,.rfl,.rfl,trivial⟩) (AG (by kernel_rfl) ((hA24 _ _ _).1 A24_02378a)) rfl
     ·refine AH (i:=9) rfl U (by rfl) ?_
      refine Af (Wk.A2 (L:=[(1,(i64 p1)),(2,(.ptr 2 0 0 0)),(4,(.ptr 3 0 0 0)),(6,(.ptr 4 0 0 0)),(25,(i64 (Sh.w (p1 - 1000)))),(30,(ls AA q21)),(32,(i64 p1))]) (st':=[(ro 0 30 3 AA s0),(ro 0 3 1 eI s1),⟨0,26,2,[[(ow 0 0 s0),(ow 1 0 s1)]]⟩,⟨0,26,2,[[.zc,.zc]]⟩,⟨0,26,2,[[(ow 5 0 q9.cells),(ow 6 0 q9.pending)]]⟩,(ro 0 30 3 AA q9.cells),(ro 0 3 1 eI q9.pending),⟨1,30,3,[]⟩]) (id:=7) rfl (show 2≤7 by decide) (AB fun _=>U) ⟨.rfl,.rfl,.rfl,.rfl,.rfl,(.A2 U),.rfl,trivial⟩ U) ?_
      refine BJ (v':=(ow 8 0 q22)) (st':=[(ro 0 30 3 AA s0),(ro 0 3 1 eI s1),⟨0,26,2,[[(ow 0 0 s0),(ow 1 0 s1)]]⟩,⟨0,26,2,[[.zc,.zc]]⟩,⟨0,26,2,[[(ow 5 0 q9.cells),(ow 6 0 q9.pending)]]⟩,(ro 0 30 3 AA q9.cells),(ro 0 3 1 eI q9.pending),⟨1,30,3,[]⟩,(ro 0 3 1 eI q22)]) Ae ET (Ax gq22) rfl U ⟨(BD fun _=>U),trivial⟩ U U ?_
      refine AE ⟨U,?_⟩
      exact AD (by refine Wk.trans (AL (L:=[(1,(i64 p1)),(2,(.ptr 2 0 0 0)),(4,(.ptr 3 0 0 0)),(6,(.ptr 4 0 0 0)),(25,(i64 (Sh.w (p1 - 1000)))),(31,(ow 7 0 q22)),(32,(i64 p1))]) (st':=[(ro 0 30 3 AA s0),(ro 0 3 1 eI s1),⟨0,26,2,[[(ow 0 0 s0),(ow 1 0 s1)]]⟩,⟨0,26,2,[[.zc,.zc]]⟩,⟨0,26,2,[[(ow 5 0 q9.cells),(ow 6 0 q9.pending)]]⟩,(ro 0 30 3 AA q9.cells),(ro 0 3 1 eI q9.pending),(ro 0 3 1 eI q22)]) (st1:=[(ro 0 30 3 AA s0),(ro 0 3 1 eI s1),⟨0,26,2,[[(ow 0 0 s0),(ow 1 0 s1)]]⟩,⟨0,26,2,[[.zc,.zc]]⟩,⟨0,26,2,[[(ow 5 0 q9.cells),(ow 6 0 q9.pending)]]⟩,(ro 0 30 3 AA q9.cells),(ro 0 3 1 eI q9.pending),(ro 0 3 1 eI q22)]) [0,1,2,3,4,5,6,8] U (.pure (AB fun _=>U) (.pure (AB fun _=>U) .nil)) (by decide) rfl U (.pure (AB fun _=>U) (.pure (AB fun _=>U) (.raw U U (.raw U U (.raw U U (.pure (AB fun _=>U) (.pure (AB fun _=>U) (.pure (AB fun _=>U) .nil)))))))) ⟨.rfl,.rfl,.rfl,.rfl,.rfl,.rfl,.rfl,trivial⟩) ?_;exact AF (L:=[(1,(i64 p1)),(2,(.ptr 2 0 0 0)),(4,(.ptr 3 0 0 0)),(6,(.ptr 4 0 0 0)),(25,(i64 (Sh.w (p1 - 1000)))),(31,(ow 7 0 q22)),(32,(i64 p1))]) ⟨.rfl,.rfl,.rfl,.rfl,.rfl,.rfl,.rfl,trivial⟩) (AG (by kernel_rfl) ((hA24 _ _ _).1 A24_23789a)) rfl
     ·refine AH (i:=11) rfl U (by rfl) ?_
      refine zq tb U ?_
      refine AE ⟨U,?_⟩
      exact AD (AF (L:=[(1,(i64 p1)),(2,(.ptr 2 0 0 0)),(4,(.ptr 3 0 0 0)),(6,(.ptr 4 0 0 0)),(25,(i64 (Sh.w (p1 - 1000)))),(30,(ow 7 0 q21)),(33,(i64 (Sh.w (p1 - 1000))))]) ⟨.rfl,.rfl,.rfl,.rfl,.rfl,.rfl,.rfl,trivial⟩) (AG (by kernel_rfl) ((hA24 _ _ _).1 A24_2378ab)) rfl)
    have A24_237ab:A24 10 #[false,false,true,true,false,false,false,true,false,false,true,true,false,false,false] ⟨42,AM [(1,(i64 p1)),(2,(.ptr 2 0 0 0)),(4,(.ptr 3 0 0 0)),(6,(.ptr 4 0 0 0)),(25,(i64 (Sh.w (p1 - 1000)))),(29,(.agg [(ow 0 0 s0),(ow 1 0 s1)])),(33,(i64 (Sh.w (p1 - 1000))))],[(ro 0 30 3 AA s0),(ro 0 3 1 eI s1),⟨0,26,2,[[(ow 0 0 s0),(ow 1 0 s1)]]⟩,⟨0,26,2,[[.zc,.zc]]⟩,⟨0,26,2,[[(ow 5 0 q9.cells),(ow 6 0 q9.pending)]]⟩,(ro 0 30 3 AA q9.cells),(ro 0 3 1 eI q9.pending)]⟩:=(hA24 _ _ _).2 (by
     refine AJ [0,8] U (by kernel_rfl) (by decide) ⟨?_,?_,trivial⟩
     ·refine AH (i:=0) rfl U (by rfl) ?_
      refine zq tb U ?_
      refine AE ⟨U,?_⟩
      exact AD (by refine Wk.trans (AL (L:=[(1,(i64 p1)),(4,(.ptr 2 0 0 0)),(6,(.ptr 3 0 0 0)),(22,(.ptr 6 0 0 0)),(25,(i64 (Sh.w (p1 - 1000)))),(29,(.agg [(ow 0 0 s0),(ow 1 0 s1)])),(33,(i64 (Sh.w (p1 - 1000))))]) (st':=[(ro 0 30 3 AA s0),(ro 0 3 1 eI s1),⟨0,26,2,[[.zc,.zc]]⟩,⟨0,26,2,[[(ow 4 0 q9.cells),(ow 5 0 q9.pending)]]⟩,(ro 0 30 3 AA q9.cells),(ro 0 3 1 eI q9.pending),⟨0,26,2,[[(ow 0 0 s0),(ow 1 0 s1)]]⟩]) (st1:=[(ro 0 30 3 AA s0),(ro 0 3 1 eI s1),⟨0,26,2,[[.zc,.zc]]⟩,⟨0,26,2,[[(ow 5 0 q9.cells),(ow 6 0 q9.pending)]]⟩,(ro 0 30 3 AA q9.cells),(ro 0 3 1 eI q9.pending),⟨0,26,2,[[(ow 0 0 s0),(ow 1 0 s1)]]⟩]) [0,1,3,4,5,6,2] U (.pure (AB fun _=>U) (.pure (AB fun _=>U) .nil)) (by decide) rfl U (.pure (AB fun _=>U) (.pure (AB fun _=>U) (.raw U U (.raw U U (.pure (AB fun _=>U) (.pure (AB fun _=>U) (.raw U U .nil))))))) ⟨.rfl,.rfl,.rfl,.rfl,.rfl,.rfl,.rfl,trivial⟩) ?_;exact AF (L:=[(1,(i64 p1)),(4,(.ptr 2 0 0 0)),(6,(.ptr 3 0 0 0)),(22,(.ptr 6 0 0 0)),(25,(i64 (Sh.w (p1 - 1000)))),(29,(.agg [(ow 0 0 s0),(ow 1 0 s1)])),(33,(i64 (Sh.w (p1 - 1000))))]) ⟨.rfl,.rfl,.rfl,.rfl,.rfl,.rfl,.rfl,trivial⟩) (AG (by kernel_rfl) ((hA24 _ _ _).1 A24_0237ab)) rfl
     ·refine AH (i:=8) rfl U (by rfl) ?_
      refine Ad (rowsP:=[(ro 0 30 3 AA s0),(ro 0 3 1 eI s1)]) (rows0:=[(ro 0 30 3 AA s0),(ro 0 3 1 eI s1)]) (rows1:=[(ro 0 30 3 AA s0),(ro 0 3 1 eI s1)]) (rows2:=[(ro 0 30 3 AA q21)]) (rows1':=[(ro 0 30 3 AA s0),(ro 0 3 1 eI s1)]) (rows2':=[(ro 0 30 3 AA q21)]) (st':=[(ro 0 30 3 AA s0),(ro 0 3 1 eI s1),⟨0,26,2,[[(ow 0 0 s0),(ow 1 0 s1)]]⟩,⟨0,26,2,[[.zc,.zc]]⟩,⟨0,26,2,[[(ow 5 0 q9.cells),(ow 6 0 q9.pending)]]⟩,(ro 0 30 3 AA q9.cells),(ro 0 3 1 eI q9.pending),(ro 0 30 3 AA q21)]) (v':=(ow 7 0 q21)) [0,1] Ae Ep (Az gq21) rfl (by decide) rfl U (.pure (AB fun _=>U) (.pure (AB fun _=>U) .nil)) rfl U (.pure (AB fun _=>U) (.pure (AB fun _=>U) .nil)) (.pure (AB fun _=>U) .nil) rfl U ?_
      refine AE ⟨U,?_⟩
      exact AD (AF (L:=[(1,(i64 p1)),(2,(.ptr 2 0 0 0)),(4,(.ptr 3 0 0 0)),(6,(.ptr 4 0 0 0)),(25,(i64 (Sh.w (p1 - 1000)))),(30,(ow 7 0 q21)),(33,(i64 (Sh.w (p1 - 1000))))]) ⟨.rfl,.rfl,.rfl,.rfl,.rfl,.rfl,.rfl,trivial⟩) (AG (by kernel_rfl) ((hA24 _ _ _).1 A24_2378ab)) rfl)
    have A24_237a:A24 11 #[false,false,true,true,false,false,false,true,false,false,true,false,false,false,false] ⟨42,AM [(1,(i64 p1)),(2,(.ptr 2 0 0 0)),(4,(.ptr 3 0 0 0)),(6,(.ptr 4 0 0 0)),(25,(i64 (Sh.w (p1 - 1000)))),(29,(.agg [(ow 0 0 s0),(ow 1 0 s1)])),(32,(i64 p1))],[(ro 0 30 3 AA s0),(ro 0 3 1 eI s1),⟨0,26,2,[[(ow 0 0 s0),(ow 1 0 s1)]]⟩,⟨0,26,2,[[.zc,.zc]]⟩,⟨0,26,2,[[(ow 5 0 q9.cells),(ow 6 0 q9.pending)]]⟩,(ro 0 30 3 AA q9.cells),(ro 0 3 1 eI q9.pending)]⟩:=(hA24 _ _ _).2 (by
     refine AJ [0,8,11] U (by kernel_rfl) (by decide) ⟨?_,?_,?_,trivial⟩
     ·refine AH (i:=0) rfl U (by rfl) ?_
      refine zq tb U ?_
      refine AE ⟨U,?_⟩
      exact AD (by refine Wk.trans (AL (L:=[(1,(i64 p1)),(4,(.ptr 2 0 0 0)),(6,(.ptr 3 0 0 0)),(22,(.ptr 6 0 0 0)),(25,(i64 (Sh.w (p1 - 1000)))),(29,(.agg [(ow 0 0 s0),(ow 1 0 s1)])),(32,(i64 p1))]) (st':=[(ro 0 30 3 AA s0),(ro 0 3 1 eI s1),⟨0,26,2,[[.zc,.zc]]⟩,⟨0,26,2,[[(ow 4 0 q9.cells),(ow 5 0 q9.pending)]]⟩,(ro 0 30 3 AA q9.cells),(ro 0 3 1 eI q9.pending),⟨0,26,2,[[(ow 0 0 s0),(ow 1 0 s1)]]⟩]) (st1:=[(ro 0 30 3 AA s0),(ro 0 3 1 eI s1),⟨0,26,2,[[.zc,.zc]]⟩,⟨0,26,2,[[(ow 5 0 q9.cells),(ow 6 0 q9.pending)]]⟩,(ro 0 30 3 AA q9.cells),(ro 0 3 1 eI q9.pending),⟨0,26,2,[[(ow 0 0 s0),(ow 1 0 s1)]]⟩]) [0,1,3,4,5,6,2] U (.pure (AB fun _=>U) (.pure (AB fun _=>U) .nil)) (by decide) rfl U (.pure (AB fun _=>U) (.pure (AB fun _=>U) (.raw U U (.raw U U (.pure (AB fun _=>U) (.pure (AB fun _=>U) (.raw U U .nil))))))) ⟨.rfl,.rfl,.rfl,.rfl,.rfl,.rfl,.rfl,trivial⟩) ?_;exact AF (L:=[(1,(i64 p1)),(4,(.ptr 2 0 0 0)),(6,(.ptr 3 0 0 0)),(22,(.ptr 6 0 0 0)),(25,(i64 (Sh.w (p1 - 1000)))),(29,(.agg [(ow 0 0 s0),(ow 1 0 s1)])),(32,(i64 p1))]) ⟨.rfl,.rfl,.rfl,.rfl,.rfl,.rfl,.rfl,trivial⟩) (AG (by kernel_rfl) ((hA24 _ _ _).1 A24_0237a)) rfl
     ·refine AH (i:=8) rfl U (by rfl) ?_
      refine Ad (rowsP:=[(ro 0 30 3 AA s0),(ro 0 3 1 eI s1)]) (rows0:=[(ro 0 30 3 AA s0),(ro 0 3 1 eI s1)]) (rows1:=[(ro 0 30 3 AA s0),(ro 0 3 1 eI s1)]) (rows2:=[(ro 0 30 3 AA q21)]) (rows1':=[(ro 0 30 3 AA s0),(ro 0 3 1 eI s1)]) (rows2':=[(ro 0 30 3 AA q21)]) (st':=[(ro 0 30 3 AA s0),(ro 0 3 1 eI s1),⟨0,26,2,[[(ow 0 0 s0),(ow 1 0 s1)]]⟩,⟨0,26,2,[[.zc,.zc]]⟩,⟨0,26,2,[[(ow 5 0 q9.cells),(ow 6 0 q9.pending)]]⟩,(ro 0 30 3 AA q9.cells),(ro 0 3 1 eI q9.pending),(ro 0 30 3 AA q21)]) (v':=(ow 7 0 q21)) [0,1] Ae Ep (Az gq21) rfl (by decide) rfl U (.pure (AB fun _=>U) (.pure (AB fun _=>U) .nil)) rfl U (.pure (AB fun _=>U) (.pure (AB fun _=>U) .nil)) (.pure (AB fun _=>U) .nil) rfl U ?_
      refine AE ⟨U,?_⟩
      exact AD (AF (L:=[(1,(i64 p1)),(2,(.ptr 2 0 0 0)),(4,(.ptr 3 0 0 0)),(6,(.ptr 4 0 0 0)),(25,(i64 (Sh.w (p1 - 1000)))),(30,(ow 7 0 q21)),(32,(i64 p1))]) ⟨.rfl,.rfl,.rfl,.rfl,.rfl,.rfl,.rfl,trivial⟩) (AG (by kernel_rfl) ((hA24 _ _ _).1 A24_2378a)) rfl
     ·refine AH (i:=11) rfl U (by rfl) ?_
      refine zq tb U ?_
      refine AE ⟨U,?_⟩
      exact AD (AF (L:=[(1,(i64 p1)),(2,(.ptr 2 0 0 0)),(4,(.ptr 3 0 0 0)),(6,(.ptr 4 0 0 0)),(25,(i64 (Sh.w (p1 - 1000)))),(29,(.agg [(ow 0 0 s0),(ow 1 0 s1)])),(33,(i64 (Sh.w (p1 - 1000))))]) ⟨.rfl,.rfl,.rfl,.rfl,.rfl,.rfl,.rfl,trivial⟩) (AG (by kernel_rfl) ((hA24 _ _ _).1 A24_237ab)) rfl)
    have A24_23ab:A24 11 #[false,false,true,true,false,false,false,false,false,false,true,true,false,false,false] ⟨42,AM [(1,(i64 p1)),(2,(.ptr 2 0 0 0)),(4,(.ptr 3 0 0 0)),(6,(.ptr 4 0 0 0)),(25,(i64 (Sh.w (p1 - 1000)))),(33,(i64 (Sh.w (p1 - 1000))))],[(ro 0 30 3 AA s0),(ro 0 3 1 eI s1),⟨0,26,2,[[(ow 0 0 s0),(ow 1 0 s1)]]⟩,⟨0,26,2,[[.zc,.zc]]⟩,⟨0,26,2,[[(ow 5 0 q9.cells),(ow 6 0 q9.pending)]]⟩,(ro 0 30 3 AA q9.cells),(ro 0 3 1 eI q9.pending)]⟩:=(hA24 _ _ _).2 (by
     refine AJ [0,7] U (by kernel_rfl) (by decide) ⟨?_,?_,trivial⟩
     ·refine AH (i:=0) rfl U (by rfl) ?_
      refine zq tb U ?_
      refine AE ⟨U,?_⟩
      exact AD (AF (L:=[(1,(i64 p1)),(2,(.ptr 2 0 0 0)),(4,(.ptr 3 0 0 0)),(6,(.ptr 4 0 0 0)),(22,(.ptr 2 0 0 0)),(25,(i64 (Sh.w (p1 - 1000)))),(33,(i64 (Sh.w (p1 - 1000))))]) ⟨.rfl,.rfl,.rfl,.rfl,.rfl,.rfl,.rfl,trivial⟩) (AG (by kernel_rfl) ((hA24 _ _ _).1 A24_023ab)) rfl
     ·refine AH (i:=7) rfl U (by rfl) ?_
      refine zq tb U ?_
      refine AE ⟨U,?_⟩
      exact AD (AF (L:=[(1,(i64 p1)),(2,(.ptr 2 0 0 0)),(4,(.ptr 3 0 0 0)),(6,(.ptr 4 0 0 0)),(25,(i64 (Sh.w (p1 - 1000)))),(29,(.agg [(ow 0 0 s0),(ow 1 0 s1)])),(33,(i64 (Sh.w (p1 - 1000))))]) ⟨.rfl,.rfl,.rfl,.rfl,.rfl,.rfl,.rfl,trivial⟩) (AG (by kernel_rfl) ((hA24 _ _ _).1 A24_237ab)) rfl)
    have A24_23a:A24 12 #[false,false,true,true,false,false,false,false,false,false,true,false,false,false,false] ⟨42,AM [(1,(i64 p1)),(2,(.ptr 2 0 0 0)),(4,(.ptr 3 0 0 0)),(6,(.ptr 4 0 0 0)),(25,(i64 (Sh.w (p1 - 1000)))),(32,(i64 p1))],[(ro 0 30 3 AA s0),(ro 0 3 1 eI s1),⟨0,26,2,[[(ow 0 0 s0),(ow 1 0 s1)]]⟩,⟨0,26,2,[[.zc,.zc]]⟩,⟨0,26,2,[[(ow 5 0 q9.cells),(ow 6 0 q9.pending)]]⟩,(ro 0 30 3 AA q9.cells),(ro 0 3 1 eI q9.pending)]⟩:=(hA24 _ _ _).2 (by
     refine AJ [0,7,11] U (by kernel_rfl) (by decide) ⟨?_,?_,?_,trivial⟩
     ·refine AH (i:=0) rfl U (by rfl) ?_
      refine zq tb U ?_
      refine AE ⟨U,?_⟩
      exact AD (AF (L:=[(1,(i64 p1)),(2,(.ptr 2 0 0 0)),(4,(.ptr 3 0 0 0)),(6,(.ptr 4 0 0 0)),(22,(.ptr 2 0 0 0)),(25,(i64 (Sh.w (p1 - 1000)))),(32,(i64 p1))]) ⟨.rfl,.rfl,.rfl,.rfl,.rfl,.rfl,.rfl,trivial⟩) (AG (by kernel_rfl) ((hA24 _ _ _).1 A24_023a)) rfl
     ·refine AH (i:=7) rfl U (by rfl) ?_
      refine zq tb U ?_
      refine AE ⟨U,?_⟩
      exact AD (AF (L:=[(1,(i64 p1)),(2,(.ptr 2 0 0 0)),(4,(.ptr 3 0 0 0)),(6,(.ptr 4 0 0 0)),(25,(i64 (Sh.w (p1 - 1000)))),(29,(.agg [(ow 0 0 s0),(ow 1 0 s1)])),(32,(i64 p1))]) ⟨.rfl,.rfl,.rfl,.rfl,.rfl,.rfl,.rfl,trivial⟩) (AG (by kernel_rfl) ((hA24 _ _ _).1 A24_237a)) rfl
     ·refine AH (i:=11) rfl U (by rfl) ?_
      refine zq tb U ?_
      refine AE ⟨U,?_⟩
      exact AD (AF (L:=[(1,(i64 p1)),(2,(.ptr 2 0 0 0)),(4,(.ptr 3 0 0 0)),(6,(.ptr 4 0 0 0)),(25,(i64 (Sh.w (p1 - 1000)))),(33,(i64 (Sh.w (p1 - 1000))))]) ⟨.rfl,.rfl,.rfl,.rfl,.rfl,.rfl,trivial⟩) (AG (by kernel_rfl) ((hA24 _ _ _).1 A24_23ab)) rfl)
    have A24_2789abcd:A24 7 #[false,false,true,false,false,false,false,true,true,true,true,true,true,true,false] ⟨42,AM [(1,(i64 p1)),(2,(.ptr 2 0 0 0)),(4,(.ptr 3 0 0 0)),(6,(.ptr 4 0 0 0)),(24,(i64 p1)),(35,(i64 c23))],[(ro 0 30 3 AA s0),(ro 0 3 1 eI s1),⟨0,26,2,[[(ow 0 0 s0),(ow 1 0 s1)]]⟩,⟨0,26,2,[[.zc,.zc]]⟩,⟨0,26,2,[[(ow 5 0 q9.cells),(ow 6 0 q9.pending)]]⟩,(ro 0 30 3 AA q9.cells),(ro 0 3 1 eI q9.pending)]⟩:=(hA24 _ _ _).2 (by
     refine AJ [0,3] U (by kernel_rfl) (by decide) ⟨?_,?_,trivial⟩
     ·refine AH (i:=0) rfl U (by rfl) ?_
      refine zq tb U ?_
      refine AE ⟨U,?_⟩
      exact AD (by refine Wk.trans (AL (L:=[(1,(i64 p1)),(4,(.ptr 2 0 0 0)),(6,(.ptr 3 0 0 0)),(22,(.ptr 6 0 0 0)),(24,(i64 p1)),(35,(i64 c23))]) (st':=[(ro 0 30 3 AA s0),(ro 0 3 1 eI s1),⟨0,26,2,[[.zc,.zc]]⟩,⟨0,26,2,[[(ow 4 0 q9.cells),(ow 5 0 q9.pending)]]⟩,(ro 0 30 3 AA q9.cells),(ro 0 3 1 eI q9.pending),⟨0,26,2,[[(ow 0 0 s0),(ow 1 0 s1)]]⟩]) (st1:=[(ro 0 30 3 AA s0),(ro 0 3 1 eI s1),⟨0,26,2,[[.zc,.zc]]⟩,⟨0,26,2,[[(ow 5 0 q9.cells),(ow 6 0 q9.pending)]]⟩,(ro 0 30 3 AA q9.cells),(ro 0 3 1 eI q9.pending),⟨0,26,2,[[(ow 0 0 s0),(ow 1 0 s1)]]⟩]) [0,1,3,4,5,6,2] U (.pure (AB fun _=>U) (.pure (AB fun _=>U) .nil)) (by decide) rfl U (.pure (AB fun _=>U) (.pure (AB fun _=>U) (.raw U U (.raw U U (.pure (AB fun _=>U) (.pure (AB fun _=>U) (.raw U U .nil))))))) ⟨.rfl,.rfl,.rfl,.rfl,.rfl,.rfl,trivial⟩) ?_;exact AF (L:=[(1,(i64 p1)),(4,(.ptr 2 0 0 0)),(6,(.ptr 3 0 0 0)),(22,(.ptr 6 0 0 0)),(24,(i64 p1)),(35,(i64 c23))]) ⟨.rfl,.rfl,.rfl,.rfl,.rfl,.rfl,trivial⟩) (AG (by kernel_rfl) ((hA24 _ _ _).1 A24_02789abcd)) rfl
     ·refine AH (i:=3) rfl U (by rfl) ?_
      refine zq tb U ?_
      refine AE ⟨U,?_⟩
      exact AD (AF (L:=[(1,(i64 p1)),(2,(.ptr 2 0 0 0)),(4,(.ptr 3 0 0 0)),(6,(.ptr 4 0 0 0)),(25,(i64 (Sh.w (p1 - 1000)))),(35,(i64 c23))]) ⟨.rfl,.rfl,.rfl,.rfl,.rfl,.rfl,trivial⟩) (AG (by kernel_rfl) ((hA24 _ _ _).1 A24_23789abcd)) rfl)
    have A24_2789abc:A24 8 #[false,false,true,false,false,false,false,true,true,true,true,true,true,false,false] ⟨42,AM [(1,(i64 p1)),(2,(.ptr 2 0 0 0)),(4,(.ptr 3 0 0 0)),(6,(.ptr 4 0 0 0)),(24,(i64 p1)),(34,(.ptr 7 0 (Int.toNat (Sh.w (p1 - 1000))) 0))],[(ro 0 30 3 AA s0),(ro 0 3 1 eI s1),⟨0,26,2,[[(ow 0 0 s0),(ow 1 0 s1)]]⟩,⟨0,26,2,[[.zc,.zc]]⟩,⟨0,26,2,[[(ow 5 0 q9.cells),(ow 6 0 q9.pending)]]⟩,(ro 0 30 3 AA q9.cells),(ro 0 3 1 eI q9.pending),(ro 0 3 1 eI q22)]⟩:=(hA24 _ _ _).2 (by
     refine AJ [0,3,13] U (by kernel_rfl) (by decide) ⟨?_,?_,?_,trivial⟩
     ·refine AH (i:=0) rfl U (by rfl) ?_
      refine zq tb U ?_
      refine AE ⟨U,?_⟩
      exact AD (by refine Wk.trans (AL (L:=[(1,(i64 p1)),(4,(.ptr 2 0 0 0)),(6,(.ptr 3 0 0 0)),(22,(.ptr 6 0 0 0)),(24,(i64 p1)),(34,(.ptr 7 0 (Int.toNat (Sh.w (p1 - 1000))) 0))]) (st':=[(ro 0 30 3 AA s0),(ro 0 3 1 eI s1),⟨0,26,2,[[.zc,.zc]]⟩,⟨0,26,2,[[(ow 4 0 q9.cells),(ow 5 0 q9.pending)]]⟩,(ro 0 30 3 AA q9.cells),(ro 0 3 1 eI q9.pending),⟨0,26,2,[[(ow 0 0 s0),(ow 1 0 s1)]]⟩,(ro 0 3 1 eI q22)]) (st1:=[(ro 0 30 3 AA s0),(ro 0 3 1 eI s1),⟨0,26,2,[[.zc,.zc]]⟩,⟨0,26,2,[[(ow 5 0 q9.cells),(ow 6 0 q9.pending)]]⟩,(ro 0 30 3 AA q9.cells),(ro 0 3 1 eI q9.pending),⟨0,26,2,[[(ow 0 0 s0),(ow 1 0 s1)]]⟩,(ro 0 3 1 eI q22)]) [0,1,3,4,5,6,2,7] U (.pure (AB fun _=>U) (.pure (AB fun _=>U) .nil)) (by decide) rfl U (.pure (AB fun _=>U) (.pure (AB fun _=>U) (.raw U U (.raw U U (.pure (AB fun _=>U) (.pure (AB fun _=>U) (.raw U U (.pure (AB fun _=>U) .nil)))))))) ⟨.rfl,.rfl,.rfl,.rfl,.rfl,.rfl,trivial⟩) ?_;exact AF (L:=[(1,(i64 p1)),(4,(.ptr 2 0 0 0)),(6,(.ptr 3 0 0 0)),(22,(.ptr 6 0 0 0)),(24,(i64 p1)),(34,(.ptr 7 0 (Int.toNat (Sh.w (p1 - 1000))) 0))]) ⟨.rfl,.rfl,.rfl,.rfl,.rfl,.rfl,trivial⟩) (AG (by kernel_rfl) ((hA24 _ _ _).1 A24_02789abc)) rfl
     ·refine AH (i:=3) rfl U (by rfl) ?_
      refine zq tb U ?_
      refine AE ⟨U,?_⟩
      exact AD (AF (L:=[(1,(i64 p1)),(2,(.ptr 2 0 0 0)),(4,(.ptr 3 0 0 0)),(6,(.ptr 4 0 0 0)),(25,(i64 (Sh.w (p1 - 1000)))),(34,(.ptr 7 0 (Int.toNat (Sh.w (p1 - 1000))) 0))]) ⟨.rfl,.rfl,.rfl,.rfl,.rfl,.rfl,trivial⟩) (AG (by kernel_rfl) ((hA24 _ _ _).1 A24_23789abc)) rfl
     ·refine AH (i:=13) rfl U (by rfl) ?_
      refine zz (i64 c23) (Aw CM U U (Am gc23) rfl) rfl ?_
      refine AE ⟨U,?_⟩
      exact AD (by refine Wk.trans (AL (L:=[(1,(i64 p1)),(2,(.ptr 2 0 0 0)),(4,(.ptr 3 0 0 0)),(6,(.ptr 4 0 0 0)),(24,(i64 p1)),(35,(i64 c23))]) (st':=[(ro 0 30 3 AA s0),(ro 0 3 1 eI s1),⟨0,26,2,[[(ow 0 0 s0),(ow 1 0 s1)]]⟩,⟨0,26,2,[[.zc,.zc]]⟩,⟨0,26,2,[[(ow 5 0 q9.cells),(ow 6 0 q9.pending)]]⟩,(ro 0 30 3 AA q9.cells),(ro 0 3 1 eI q9.pending)]) (st1:=[(ro 0 30 3 AA s0),(ro 0 3 1 eI s1),⟨0,26,2,[[(ow 0 0 s0),(ow 1 0 s1)]]⟩,⟨0,26,2,[[.zc,.zc]]⟩,⟨0,26,2,[[(ow 5 0 q9.cells),(ow 6 0 q9.pending)]]⟩,(ro 0 30 3 AA q9.cells),(ro 0 3 1 eI q9.pending)]) [0,1,2,3,4,5,6] U (.pure (AB fun _=>U) (.pure (AB fun _=>U) .nil)) (by decide) rfl U (.pure (AB fun _=>U) (.pure (AB fun _=>U) (.raw U U (.raw U U (.raw U U (.pure (AB fun _=>U) (.pure (AB fun _=>U) .nil))))))) ⟨.rfl,.rfl,.rfl,.rfl,.rfl,.rfl,trivial⟩) ?_;exact AF (L:=[(1,(i64 p1)),(2,(.ptr 2 0 0 0)),(4,(.ptr 3 0 0 0)),(6,(.ptr 4 0 0 0)),(24,(i64 p1)),(35,(i64 c23))]) ⟨.rfl,.rfl,.rfl,.rfl,.rfl,.rfl,trivial⟩) (AG (by kernel_rfl) ((hA24 _ _ _).1 A24_2789abcd)) rfl)
    have A24_2789ab:A24 9 #[false,false,true,false,false,false,false,true,true,true,true,true,false,false,false] ⟨42,AM [(1,(i64 p1)),(2,(.ptr 2 0 0 0)),(4,(.ptr 3 0 0 0)),(6,(.ptr 4 0 0 0)),(24,(i64 p1)),(31,(ow 7 0 q22)),(33,(i64 (Sh.w (p1 - 1000))))],[(ro 0 30 3 AA s0),(ro 0 3 1 eI s1),⟨0,26,2,[[(ow 0 0 s0),(ow 1 0 s1)]]⟩,⟨0,26,2,[[.zc,.zc]]⟩,⟨0,26,2,[[(ow 5 0 q9.cells),(ow 6 0 q9.pending)]]⟩,(ro 0 30 3 AA q9.cells),(ro 0 3 1 eI q9.pending),(ro 0 3 1 eI q22)]⟩:=(hA24 _ _ _).2 (by
     refine AJ [0,3,12] U (by kernel_rfl) (by decide) ⟨?_,?_,?_,trivial⟩
     ·refine AH (i:=0) rfl U (by rfl) ?_
      refine zq tb U ?_
      refine AE ⟨U,?_⟩
      exact AD (by refine Wk.trans (AL (L:=[(1,(i64 p1)),(4,(.ptr 2 0 0 0)),(6,(.ptr 3 0 0 0)),(22,(.ptr 6 0 0 0)),(24,(i64 p1)),(31,(ow 7 0 q22)),(33,(i64 (Sh.w (p1 - 1000))))]) (st':=[(ro 0 30 3 AA s0),(ro 0 3 1 eI s1),⟨0,26,2,[[.zc,.zc]]⟩,⟨0,26,2,[[(ow 4 0 q9.cells),(ow 5 0 q9.pending)]]⟩,(ro 0 30 3 AA q9.cells),(ro 0 3 1 eI q9.pending),⟨0,26,2,[[(ow 0 0 s0),(ow 1 0 s1)]]⟩,(ro 0 3 1 eI q22)]) (st1:=[(ro 0 30 3 AA s0),(ro 0 3 1 eI s1),⟨0,26,2,[[.zc,.zc]]⟩,⟨0,26,2,[[(ow 5 0 q9.cells),(ow 6 0 q9.pending)]]⟩,(ro 0 30 3 AA q9.cells),(ro 0 3 1 eI q9.pending),⟨0,26,2,[[(ow 0 0 s0),(ow 1 0 s1)]]⟩,(ro 0 3 1 eI q22)]) [0,1,3,4,5,6,2,7] U (.pure (AB fun _=>U) (.pure (AB fun _=>U) .nil)) (by decide) rfl U (.pure (AB fun _=>U) (.pure (AB fun _=>U) (.raw U U (.raw U U (.pure (AB fun _=>U) (.pure (AB fun _=>U) (.raw U U (.pure (AB fun _=>U) .nil)))))))) ⟨.rfl,.rfl,.rfl,.rfl,.rfl,.rfl,.rfl,trivial⟩) ?_;exact AF (L:=[(1,(i64 p1)),(4,(.ptr 2 0 0 0)),(6,(.ptr 3 0 0 0)),(22,(.ptr 6 0 0 0)),(24,(i64 p1)),(31,(ow 7 0 q22)),(33,(i64 (Sh.w (p1 - 1000))))]) ⟨.rfl,.rfl,.rfl,.rfl,.rfl,.rfl,.rfl,trivial⟩) (AG (by kernel_rfl) ((hA24 _ _ _).1 A24_02789ab)) rfl
     ·refine AH (i:=3) rfl U (by rfl) ?_
      refine zq tb U ?_
      refine AE ⟨U,?_⟩
      exact AD (AF (L:=[(1,(i64 p1)),(2,(.ptr 2 0 0 0)),(4,(.ptr 3 0 0 0)),(6,(.ptr 4 0 0 0)),(25,(i64 (Sh.w (p1 - 1000)))),(31,(ow 7 0 q22)),(33,(i64 (Sh.w (p1 - 1000))))]) ⟨.rfl,.rfl,.rfl,.rfl,.rfl,.rfl,.rfl,trivial⟩) (AG (by kernel_rfl) ((hA24 _ _ _).1 A24_23789ab)) rfl
     ·refine AH (i:=12) rfl U (by rfl) ?_
      refine zz (.ptr 7 0 (Int.toNat (Sh.w (p1 - 1000))) 0) (An Av U U U U gc23) rfl ?_
      refine AE ⟨U,?_⟩
      exact AD (AF (L:=[(1,(i64 p1)),(2,(.ptr 2 0 0 0)),(4,(.ptr 3 0 0 0)),(6,(.ptr 4 0 0 0)),(24,(i64 p1)),(34,(.ptr 7 0 (Int.toNat (Sh.w (p1 - 1000))) 0))]) ⟨.rfl,.rfl,.rfl,.rfl,.rfl,.rfl,trivial⟩) (AG (by kernel_rfl) ((hA24 _ _ _).1 A24_2789abc)) rfl)
    have A24_2789a:A24 10 #[false,false,true,false,false,false,false,true,true,true,true,false,false,false,false] ⟨42,AM [(1,(i64 p1)),(2,(.ptr 2 0 0 0)),(4,(.ptr 3 0 0 0)),(6,(.ptr 4 0 0 0)),(24,(i64 p1)),(31,(ow 7 0 q22)),(32,(i64 p1))],[(ro 0 30 3 AA s0),(ro 0 3 1 eI s1),⟨0,26,2,[[(ow 0 0 s0),(ow 1 0 s1)]]⟩,⟨0,26,2,[[.zc,.zc]]⟩,⟨0,26,2,[[(ow 5 0 q9.cells),(ow 6 0 q9.pending)]]⟩,(ro 0 30 3 AA q9.cells),(ro 0 3 1 eI q9.pending),(ro 0 3 1 eI q22)]⟩:=(hA24 _ _ _).2 (by
     refine AJ [0,3,11] U (by kernel_rfl) (by decide) ⟨?_,?_,?_,trivial⟩
     ·refine AH (i:=0) rfl U (by rfl) ?_
      refine zq tb U ?_
      refine AE ⟨U,?_⟩
      exact AD (by refine Wk.trans (AL (L:=[(1,(i64 p1)),(4,(.ptr 2 0 0 0)),(6,(.ptr 3 0 0 0)),(22,(.ptr 6 0 0 0)),(24,(i64 p1)),(31,(ow 7 0 q22)),(32,(i64 p1))]) (st':=[(ro 0 30 3 AA s0),(ro 0 3 1 eI s1),⟨0,26,2,[[.zc,.zc]]⟩,⟨0,26,2,[[(ow 4 0 q9.cells),(ow 5 0 q9.pending)]]⟩,(ro 0 30 3 AA q9.cells),(ro 0 3 1 eI q9.pending),⟨0,26,2,[[(ow 0 0 s0),(ow 1 0 s1)]]⟩,(ro 0 3 1 eI q22)]) (st1:=[(ro 0 30 3 AA s0),(ro 0 3 1 eI s1),⟨0,26,2,[[.zc,.zc]]⟩,⟨0,26,2,[[(ow 5 0 q9.cells),(ow 6 0 q9.pending)]]⟩,(ro 0 30 3 AA q9.cells),(ro 0 3 1 eI q9.pending),⟨0,26,2,[[(ow 0 0 s0),(ow 1 0 s1)]]⟩,(ro 0 3 1 eI q22)]) [0,1,3,4,5,6,2,7] U (.pure (AB fun _=>U) (.pure (AB fun _=>U) .nil)) (by decide) rfl U (.pure (AB fun _=>U) (.pure (AB fun _=>U) (.raw U U (.raw U U (.pure (AB fun _=>U) (.pure (AB fun _=>U) (.raw U U (.pure (AB fun _=>U) .nil)))))))) ⟨.rfl,.rfl,.rfl,.rfl,.rfl,.rfl,.rfl,trivial⟩) ?_;exact AF (L:=[(1,(i64 p1)),(4,(.ptr 2 0 0 0)),(6,(.ptr 3 0 0 0)),(22,(.ptr 6 0 0 0)),(24,(i64 p1)),(31,(ow 7 0 q22)),(32,(i64 p1))]) ⟨.rfl,.rfl,.rfl,.rfl,.rfl,.rfl,.rfl,trivial⟩) (AG (by kernel_rfl) ((hA24 _ _ _).1 A24_02789a)) rfl
     ·refine AH (i:=3) rfl U (by rfl) ?_
      refine zq tb U ?_
      refine AE ⟨U,?_⟩
      exact AD (AF (L:=[(1,(i64 p1)),(2,(.ptr 2 0 0 0)),(4,(.ptr 3 0 0 0)),(6,(.ptr 4 0 0 0)),(25,(i64 (Sh.w (p1 - 1000)))),(31,(ow 7 0 q22)),(32,(i64 p1))]) ⟨.rfl,.rfl,.rfl,.rfl,.rfl,.rfl,.rfl,trivial⟩) (AG (by kernel_rfl) ((hA24 _ _ _).1 A24_23789a)) rfl
     ·refine AH (i:=11) rfl U (by rfl) ?_
      refine zq tb U ?_
      refine AE ⟨U,?_⟩
      exact AD (AF (L:=[(1,(i64 p1)),(2,(.ptr 2 0 0 0)),(4,(.ptr 3 0 0 0)),(6,(.ptr 4 0 0 0)),(24,(i64 p1)),(31,(ow 7 0 q22)),(33,(i64 (Sh.w (p1 - 1000))))]) ⟨.rfl,.rfl,.rfl,.rfl,.rfl,.rfl,.rfl,trivial⟩) (AG (by kernel_rfl) ((hA24 _ _ _).1 A24_2789ab)) rfl)
    have A24_278ab:A24 10 #[false,false,true,false,false,false,false,true,true,false,true,true,false,false,false] ⟨42,AM [(1,(i64 p1)),(2,(.ptr 2 0 0 0)),(4,(.ptr 3 0 0 0)),(6,(.ptr 4 0 0 0)),(24,(i64 p1)),(30,(ow 7 0 q21)),(33,(i64 (Sh.w (p1 - 1000))))],[(ro 0 30 3 AA s0),(ro 0 3 1 eI s1),⟨0,26,2,[[(ow 0 0 s0),(ow 1 0 s1)]]⟩,⟨0,26,2,[[.zc,.zc]]⟩,⟨0,26,2,[[(ow 5 0 q9.cells),(ow 6 0 q9.pending)]]⟩,(ro 0 30 3 AA q9.cells),(ro 0 3 1 eI q9.pending),(ro 0 30 3 AA q21)]⟩:=(hA24 _ _ _).2 (by
     refine AJ [0,3,9] U (by kernel_rfl) (by decide) ⟨?_,?_,?_,trivial⟩
     ·refine AH (i:=0) rfl U (by rfl) ?_
      refine zq tb U ?_
      refine AE ⟨U,?_⟩
      exact AD (by refine Wk.trans (AL (L:=[(1,(i64 p1)),(4,(.ptr 2 0 0 0)),(6,(.ptr 3 0 0 0)),(22,(.ptr 6 0 0 0)),(24,(i64 p1)),(30,(ow 7 0 q21)),(33,(i64 (Sh.w (p1 - 1000))))]) (st':=[(ro 0 30 3 AA s0),(ro 0 3 1 eI s1),⟨0,26,2,[[.zc,.zc]]⟩,⟨0,26,2,[[(ow 4 0 q9.cells),(ow 5 0 q9.pending)]]⟩,(ro 0 30 3 AA q9.cells),(ro 0 3 1 eI q9.pending),⟨0,26,2,[[(ow 0 0 s0),(ow 1 0 s1)]]⟩,(ro 0 30 3 AA q21)]) (st1:=[(ro 0 30 3 AA s0),(ro 0 3 1 eI s1),⟨0,26,2,[[.zc,.zc]]⟩,⟨0,26,2,[[(ow 5 0 q9.cells),(ow 6 0 q9.pending)]]⟩,(ro 0 30 3 AA q9.cells),(ro 0 3 1 eI q9.pending),⟨0,26,2,[[(ow 0 0 s0),(ow 1 0 s1)]]⟩,(ro 0 30 3 AA q21)]) [0,1,3,4,5,6,2,7] U (.pure (AB fun _=>U) (.pure (AB fun _=>U) .nil)) (by decide) rfl U (.pure (AB fun _=>U) (.pure (AB fun _=>U) (.raw U U (.raw U U (.pure (AB fun _=>U) (.pure (AB fun _=>U) (.raw U U (.pure (AB fun _=>U) .nil)))))))) ⟨.rfl,.rfl,.rfl,.rfl,.rfl,.rfl,.rfl,trivial⟩) ?_;exact AF (L:=[(1,(i64 p1)),(4,(.ptr 2 0 0 0)),(6,(.ptr 3 0 0 0)),(22,(.ptr 6 0 0 0)),(24,(i64 p1)),(30,(ow 7 0 q21)),(33,(i64 (Sh.w (p1 - 1000))))]) ⟨.rfl,.rfl,.rfl,.rfl,.rfl,.rfl,.rfl,trivial⟩) (AG (by kernel_rfl) ((hA24 _ _ _).1 A24_0278ab)) rfl
     ·refine AH (i:=3) rfl U (by rfl) ?_
      refine zq tb U ?_
      refine AE ⟨U,?_⟩
      exact AD (AF (L:=[(1,(i64 p1)),(2,(.ptr 2 0 0 0)),(4,(.ptr 3 0 0 0)),(6,(.ptr 4 0 0 0)),(25,(i64 (Sh.w (p1 - 1000)))),(30,(ow 7 0 q21)),(33,(i64 (Sh.w (p1 - 1000))))]) ⟨.rfl,.rfl,.rfl,.rfl,.rfl,.rfl,.rfl,trivial⟩) (AG (by kernel_rfl) ((hA24 _ _ _).1 A24_2378ab)) rfl
     ·refine AH (i:=9) rfl U (by rfl) ?_
      refine Af (Wk.A2 (L:=[(1,(i64 p1)),(2,(.ptr 2 0 0 0)),(4,(.ptr 3 0 0 0)),(6,(.ptr 4 0 0 0)),(24,(i64 p1)),(30,(ls AA q21)),(33,(i64 (Sh.w (p1 - 1000))))]) (st':=[(ro 0 30 3 AA s0),(ro 0 3 1 eI s1),⟨0,26,2,[[(ow 0 0 s0),(ow 1 0 s1)]]⟩,⟨0,26,2,[[.zc,.zc]]⟩,⟨0,26,2,[[(ow 5 0 q9.cells),(ow 6 0 q9.pending)]]⟩,(ro 0 30 3 AA q9.cells),(ro 0 3 1 eI q9.pending),⟨1,30,3,[]⟩]) (id:=7) rfl (show 2≤7 by decide) (AB fun _=>U) ⟨.rfl,.rfl,.rfl,.rfl,.rfl,(.A2 U),.rfl,trivial⟩ U) ?_
      refine BJ (v':=(ow 8 0 q22)) (st':=[(ro 0 30 3 AA s0),(ro 0 3 1 eI s1),⟨0,26,2,[[(ow 0 0 s0),(ow 1 0 s1)]]⟩,⟨0,26,2,[[.zc,.zc]]⟩,⟨0,26,2,[[(ow 5 0 q9.cells),(ow 6 0 q9.pending)]]⟩,(ro 0 30 3 AA q9.cells),(ro 0 3 1 eI q9.pending),⟨1,30,3,[]⟩,(ro 0 3 1 eI q22)]) Ae ET (Ax gq22) rfl U ⟨(BD fun _=>U),trivial⟩ U U ?_
      refine AE ⟨U,?_⟩
      exact AD (by refine Wk.trans (AL (L:=[(1,(i64 p1)),(2,(.ptr 2 0 0 0)),(4,(.ptr 3 0 0 0)),(6,(.ptr 4 0 0 0)),(24,(i64 p1)),(31,(ow 7 0 q22)),(33,(i64 (Sh.w (p1 - 1000))))]) (st':=[(ro 0 30 3 AA s0),(ro 0 3 1 eI s1),⟨0,26,2,[[(ow 0 0 s0),(ow 1 0 s1)]]⟩,⟨0,26,2,[[.zc,.zc]]⟩,⟨0,26,2,[[(ow 5 0 q9.cells),(ow 6 0 q9.pending)]]⟩,(ro 0 30 3 AA q9.cells),(ro 0 3 1 eI q9.pending),(ro 0 3 1 eI q22)]) (st1:=[(ro 0 30 3 AA s0),(ro 0 3 1 eI s1),⟨0,26,2,[[(ow 0 0 s0),(ow 1 0 s1)]]⟩,⟨0,26,2,[[.zc,.zc]]⟩,⟨0,26,2,[[(ow 5 0 q9.cells),(ow 6 0 q9.pending)]]⟩,(ro 0 30 3 AA q9.cells),(ro 0 3 1 eI q9.pending),(ro 0 3 1 eI q22)]) [0,1,2,3,4,5,6,8] U (.pure (AB fun _=>U) (.pure (AB fun _=>U) .nil)) (by decide) rfl U (.pure (AB fun _=>U) (.pure (AB fun _=>U) (.raw U U (.raw U U (.raw U U (.pure (AB fun _=>U) (.pure (AB fun _=>U) (.pure (AB fun _=>U) .nil)))))))) ⟨.rfl,.rfl,.rfl,.rfl,.rfl,.rfl,.rfl,trivial⟩) ?_;exact AF (L:=[(1,(i64 p1)),(2,(.ptr 2 0 0 0)),(4,(.ptr 3 0 0 0)),(6,(.ptr 4 0 0 0)),(24,(i64 p1)),(31,(ow 7 0 q22)),(33,(i64 (Sh.w (p1 - 1000))))]) ⟨.rfl,.rfl,.rfl,.rfl,.rfl,.rfl,.rfl,trivial⟩) (AG (by kernel_rfl) ((hA24 _ _ _).1 A24_2789ab)) rfl)
    have A24_278a:A24 11 #[false,false,true,false,false,false,false,true,true,false,true,false,false,false,false] ⟨42,AM [(1,(i64 p1)),(2,(.ptr 2 0 0 0)),(4,(.ptr 3 0 0 0)),(6,(.ptr 4 0 0 0)),(24,(i64 p1)),(30,(ow 7 0 q21)),(32,(i64 p1))],[(ro 0 30 3 AA s0),(ro 0 3 1 eI s1),⟨0,26,2,[[(ow 0 0 s0),(ow 1 0 s1)]]⟩,⟨0,26,2,[[.zc,.zc]]⟩,⟨0,26,2,[[(ow 5 0 q9.cells),(ow 6 0 q9.pending)]]⟩,(ro 0 30 3 AA q9.cells),(ro 0 3 1 eI q9.pending),(ro 0 30 3 AA q21)]⟩:=(hA24 _ _ _).2 (by
     refine AJ [0,3,9,11] U (by kernel_rfl) (by decide) ⟨?_,?_,?_,?_,trivial⟩
     ·refine AH (i:=0) rfl U (by rfl) ?_
      refine zq tb U ?_
      refine AE ⟨U,?_⟩
      exact AD (by refine Wk.trans (AL (L:=[(1,(i64 p1)),(4,(.ptr 2 0 0 0)),(6,(.ptr 3 0 0 0)),(22,(.ptr 6 0 0 0)),(24,(i64 p1)),(30,(ow 7 0 q21)),(32,(i64 p1))]) (st':=[(ro 0 30 3 AA s0),(ro 0 3 1 eI s1),⟨0,26,2,[[.zc,.zc]]⟩,⟨0,26,2,[[(ow 4 0 q9.cells),(ow 5 0 q9.pending)]]⟩,(ro 0 30 3 AA q9.cells),(ro 0 3 1 eI q9.pending),⟨0,26,2,[[(ow 0 0 s0),(ow 1 0 s1)]]⟩,(ro 0 30 3 AA q21)]) (st1:=[(ro 0 30 3 AA s0),(ro 0 3 1 eI s1),⟨0,26,2,[[.zc,.zc]]⟩,⟨0,26,2,[[(ow 5 0 q9.cells),(ow 6 0 q9.pending)]]⟩,(ro 0 30 3 AA q9.cells),(ro 0 3 1 eI q9.pending),⟨0,26,2,[[(ow 0 0 s0),(ow 1 0 s1)]]⟩,(ro 0 30 3 AA q21)]) [0,1,3,4,5,6,2,7] U (.pure (AB fun _=>U) (.pure (AB fun _=>U) .nil)) (by decide) rfl U (.pure (AB fun _=>U) (.pure (AB fun _=>U) (.raw U U (.raw U U (.pure (AB fun _=>U) (.pure (AB fun _=>U) (.raw U U (.pure (AB fun _=>U) .nil)))))))) ⟨.rfl,.rfl,.rfl,.rfl,.rfl,.rfl,.rfl,trivial⟩) ?_;exact AF (L:=[(1,(i64 p1)),(4,(.ptr 2 0 0 0)),(6,(.ptr 3 0 0 0)),(22,(.ptr 6 0 0 0)),(24,(i64 p1)),(30,(ow 7 0 q21)),(32,(i64 p1))]) ⟨.rfl,.rfl,.rfl,.rfl,.rfl,.rfl,.rfl,trivial⟩) (AG (by kernel_rfl) ((hA24 _ _ _).1 A24_0278a)) rfl
     ·refine AH (i:=3) rfl U (by rfl) ?_
      refine zq tb U ?_
      refine AE ⟨U,?_⟩
      exact AD (AF (L:=[(1,(i64 p1)),(2,(.ptr 2 0 0 0)),(4,(.ptr 3 0 0 0)),(6,(.ptr 4 0 0 0)),(25,(i64 (Sh.w (p1 - 1000)))),(30,(ow 7 0 q21)),(32,(i64 p1))]) ⟨.rfl,.rfl,.rfl,.rfl,.rfl,.rfl,.rfl,trivial⟩) (AG (by kernel_rfl) ((hA24 _ _ _).1 A24_2378a)) rfl
     ·refine AH (i:=9) rfl U (by rfl) ?_
      refine Af (Wk.A2 (L:=[(1,(i64 p1)),(2,(.ptr 2 0 0 0)),(4,(.ptr 3 0 0 0)),(6,(.ptr 4 0 0 0)),(24,(i64 p1)),(30,(ls AA q21)),(32,(i64 p1))]) (st':=[(ro 0 30 3 AA s0),(ro 0 3 1 eI s1),⟨0,26,2,[[(ow 0 0 s0),(ow 1 0 s1)]]⟩,⟨0,26,2,[[.zc,.zc]]⟩,⟨0,26,2,[[(ow 5 0 q9.cells),(ow 6 0 q9.pending)]]⟩,(ro 0 30 3 AA q9.cells),(ro 0 3 1 eI q9.pending),⟨1,30,3,[]⟩]) (id:=7) rfl (show 2≤7 by decide) (AB fun _=>U) ⟨.rfl,.rfl,.rfl,.rfl,.rfl,(.A2 U),.rfl,trivial⟩ U) ?_
      refine BJ (v':=(ow 8 0 q22)) (st':=[(ro 0 30 3 AA s0),(ro 0 3 1 eI s1),⟨0,26,2,[[(ow 0 0 s0),(ow 1 0 s1)]]⟩,⟨0,26,2,[[.zc,.zc]]⟩,⟨0,26,2,[[(ow 5 0 q9.cells),(ow 6 0 q9.pending)]]⟩,(ro 0 30 3 AA q9.cells),(ro 0 3 1 eI q9.pending),⟨1,30,3,[]⟩,(ro 0 3 1 eI q22)]) Ae ET (Ax gq22) rfl U ⟨(BD fun _=>U),trivial⟩ U U ?_
      refine AE ⟨U,?_⟩
      exact AD (by refine Wk.trans (AL (L:=[(1,(i64 p1)),(2,(.ptr 2 0 0 0)),(4,(.ptr 3 0 0 0)),(6,(.ptr 4 0 0 0)),(24,(i64 p1)),(31,(ow 7 0 q22)),(32,(i64 p1))]) (st':=[(ro 0 30 3 AA s0),(ro 0 3 1 eI s1),⟨0,26,2,[[(ow 0 0 s0),(ow 1 0 s1)]]⟩,⟨0,26,2,[[.zc,.zc]]⟩,⟨0,26,2,[[(ow 5 0 q9.cells),(ow 6 0 q9.pending)]]⟩,(ro 0 30 3 AA q9.cells),(ro 0 3 1 eI q9.pending),(ro 0 3 1 eI q22)]) (st1:=[(ro 0 30 3 AA s0),(ro 0 3 1 eI s1),⟨0,26,2,[[(ow 0 0 s0),(ow 1 0 s1)]]⟩,⟨0,26,2,[[.zc,.zc]]⟩,⟨0,26,2,[[(ow 5 0 q9.cells),(ow 6 0 q9.pending)]]⟩,(ro 0 30 3 AA q9.cells),(ro 0 3 1 eI q9.pending),(ro 0 3 1 eI q22)]) [0,1,2,3,4,5,6,8] U (.pure (AB fun _=>U) (.pure (AB fun _=>U) .nil)) (by decide) rfl U (.pure (AB fun _=>U) (.pure (AB fun _=>U) (.raw U U (.raw U U (.raw U U (.pure (AB fun _=>U) (.pure (AB fun _=>U) (.pure (AB fun _=>U) .nil)))))))) ⟨.rfl,.rfl,.rfl,.rfl,.rfl,.rfl,.rfl,trivial⟩) ?_;exact AF (L:=[(1,(i64 p1)),(2,(.ptr 2 0 0 0)),(4,(.ptr 3 0 0 0)),(6,(.ptr 4 0 0 0)),(24,(i64 p1)),(31,(ow 7 0 q22)),(32,(i64 p1))]) ⟨.rfl,.rfl,.rfl,.rfl,.rfl,.rfl,.rfl,trivial⟩) (AG (by kernel_rfl) ((hA24 _ _ _).1 A24_2789a)) rfl
     ·refine AH (i:=11) rfl U (by rfl) ?_
      refine zq tb U ?_
      refine AE ⟨U,?_⟩
      exact AD (AF (L:=[(1,(i64 p1)),(2,(.ptr 2 0 0 0)),(4,(.ptr 3 0 0 0)),(6,(.ptr 4 0 0 0)),(24,(i64 p1)),(30,(ow 7 0 q21)),(33,(i64 (Sh.w (p1 - 1000))))]) ⟨.rfl,.rfl,.rfl,.rfl,.rfl,.rfl,.rfl,trivial⟩) (AG (by kernel_rfl) ((hA24 _ _ _).1 A24_278ab)) rfl)
    have A24_27ab:A24 11 #[false,false,true,false,false,false,false,true,false,false,true,true,false,false,false] ⟨42,AM [(1,(i64 p1)),(2,(.ptr 2 0 0 0)),(4,(.ptr 3 0 0 0)),(6,(.ptr 4 0 0 0)),(24,(i64 p1)),(29,(.agg [(ow 0 0 s0),(ow 1 0 s1)])),(33,(i64 (Sh.w (p1 - 1000))))],[(ro 0 30 3 AA s0),(ro 0 3 1 eI s1),⟨0,26,2,[[(ow 0 0 s0),(ow 1 0 s1)]]⟩,⟨0,26,2,[[.zc,.zc]]⟩,⟨0,26,2,[[(ow 5 0 q9.cells),(ow 6 0 q9.pending)]]⟩,(ro 0 30 3 AA q9.cells),(ro 0 3 1 eI q9.pending)]⟩:=(hA24 _ _ _).2 (by
     refine AJ [0,3,8] U (by kernel_rfl) (by decide) ⟨?_,?_,?_,trivial⟩
     ·refine AH (i:=0) rfl U (by rfl) ?_
      refine zq tb U ?_
      refine AE ⟨U,?_⟩
      exact AD (by refine Wk.trans (AL (L:=[(1,(i64 p1)),(4,(.ptr 2 0 0 0)),(6,(.ptr 3 0 0 0)),(22,(.ptr 6 0 0 0)),(24,(i64 p1)),(29,(.agg [(ow 0 0 s0),(ow 1 0 s1)])),(33,(i64 (Sh.w (p1 - 1000))))]) (st':=[(ro 0 30 3 AA s0),(ro 0 3 1 eI s1),⟨0,26,2,[[.zc,.zc]]⟩,⟨0,26,2,[[(ow 4 0 q9.cells),(ow 5 0 q9.pending)]]⟩,(ro 0 30 3 AA q9.cells),(ro 0 3 1 eI q9.pending),⟨0,26,2,[[(ow 0 0 s0),(ow 1 0 s1)]]⟩]) (st1:=[(ro 0 30 3 AA s0),(ro 0 3 1 eI s1),⟨0,26,2,[[.zc,.zc]]⟩,⟨0,26,2,[[(ow 5 0 q9.cells),(ow 6 0 q9.pending)]]⟩,(ro 0 30 3 AA q9.cells),(ro 0 3 1 eI q9.pending),⟨0,26,2,[[(ow 0 0 s0),(ow 1 0 s1)]]⟩]) [0,1,3,4,5,6,2] U (.pure (AB fun _=>U) (.pure (AB fun _=>U) .nil)) (by decide) rfl U (.pure (AB fun _=>U) (.pure (AB fun _=>U) (.raw U U (.raw U U (.pure (AB fun _=>U) (.pure (AB fun _=>U) (.raw U U .nil))))))) ⟨.rfl,.rfl,.rfl,.rfl,.rfl,.rfl,.rfl,trivial⟩) ?_;exact AF (L:=[(1,(i64 p1)),(4,(.ptr 2 0 0 0)),(6,(.ptr 3 0 0 0)),(22,(.ptr 6 0 0 0)),(24,(i64 p1)),(29,(.agg [(ow 0 0 s0),(ow 1 0 s1)])),(33,(i64 (Sh.w (p1 - 1000))))]) ⟨.rfl,.rfl,.rfl,.rfl,.rfl,.rfl,.rfl,trivial⟩) (AG (by kernel_rfl) ((hA24 _ _ _).1 A24_027ab)) rfl
     ·refine AH (i:=3) rfl U (by rfl) ?_
      refine zq tb U ?_
      refine AE ⟨U,?_⟩
      exact AD (AF (L:=[(1,(i64 p1)),(2,(.ptr 2 0 0 0)),(4,(.ptr 3 0 0 0)),(6,(.ptr 4 0 0 0)),(25,(i64 (Sh.w (p1 - 1000)))),(29,(.agg [(ow 0 0 s0),(ow 1 0 s1)])),(33,(i64 (Sh.w (p1 - 1000))))]) ⟨.rfl,.rfl,.rfl,.rfl,.rfl,.rfl,.rfl,trivial⟩) (AG (by kernel_rfl) ((hA24 _ _ _).1 A24_237ab)) rfl
     ·refine AH (i:=8) rfl U (by rfl) ?_
      refine Ad (rowsP:=[(ro 0 30 3 AA s0),(ro 0 3 1 eI s1)]) (rows0:=[(ro 0 30 3 AA s0),(ro 0 3 1 eI s1)]) (rows1:=[(ro 0 30 3 AA s0),(ro 0 3 1 eI s1)]) (rows2:=[(ro 0 30 3 AA q21)]) (rows1':=[(ro 0 30 3 AA s0),(ro 0 3 1 eI s1)]) (rows2':=[(ro 0 30 3 AA q21)]) (st':=[(ro 0 30 3 AA s0),(ro 0 3 1 eI s1),⟨0,26,2,[[(ow 0 0 s0),(ow 1 0 s1)]]⟩,⟨0,26,2,[[.zc,.zc]]⟩,⟨0,26,2,[[(ow 5 0 q9.cells),(ow 6 0 q9.pending)]]⟩,(ro 0 30 3 AA q9.cells),(ro 0 3 1 eI q9.pending),(ro 0 30 3 AA q21)]) (v':=(ow 7 0 q21)) [0,1] Ae Ep (Az gq21) rfl (by decide) rfl U (.pure (AB fun _=>U) (.pure (AB fun _=>U) .nil)) rfl U (.pure (AB fun _=>U) (.pure (AB fun _=>U) .nil)) (.pure (AB fun _=>U) .nil) rfl U ?_
      refine AE ⟨U,?_⟩
      exact AD (AF (L:=[(1,(i64 p1)),(2,(.ptr 2 0 0 0)),(4,(.ptr 3 0 0 0)),(6,(.ptr 4 0 0 0)),(24,(i64 p1)),(30,(ow 7 0 q21)),(33,(i64 (Sh.w (p1 - 1000))))]) ⟨.rfl,.rfl,.rfl,.rfl,.rfl,.rfl,.rfl,trivial⟩) (AG (by kernel_rfl) ((hA24 _ _ _).1 A24_278ab)) rfl)
    have A24_27a:A24 12 #[false,false,true,false,false,false,false,true,false,false,true,false,false,false,false] ⟨42,AM [(1,(i64 p1)),(2,(.ptr 2 0 0 0)),(4,(.ptr 3 0 0 0)),(6,(.ptr 4 0 0 0)),(24,(i64 p1)),(29,(.agg [(ow 0 0 s0),(ow 1 0 s1)])),(32,(i64 p1))],[(ro 0 30 3 AA s0),(ro 0 3 1 eI s1),⟨0,26,2,[[(ow 0 0 s0),(ow 1 0 s1)]]⟩,⟨0,26,2,[[.zc,.zc]]⟩,⟨0,26,2,[[(ow 5 0 q9.cells),(ow 6 0 q9.pending)]]⟩,(ro 0 30 3 AA q9.cells),(ro 0 3 1 eI q9.pending)]⟩:=(hA24 _ _ _).2 (by
     refine AJ [0,3,8,11] U (by kernel_rfl) (by decide) ⟨?_,?_,?_,?_,trivial⟩
     ·refine AH (i:=0) rfl U (by rfl) ?_
      refine zq tb U ?_
      refine AE ⟨U,?_⟩
      exact AD (by refine Wk.trans (AL (L:=[(1,(i64 p1)),(4,(.ptr 2 0 0 0)),(6,(.ptr 3 0 0 0)),(22,(.ptr 6 0 0 0)),(24,(i64 p1)),(29,(.agg [(ow 0 0 s0),(ow 1 0 s1)])),(32,(i64 p1))]) (st':=[(ro 0 30 3 AA s0),(ro 0 3 1 eI s1),⟨0,26,2,[[.zc,.zc]]⟩,⟨0,26,2,[[(ow 4 0 q9.cells),(ow 5 0 q9.pending)]]⟩,(ro 0 30 3 AA q9.cells),(ro 0 3 1 eI q9.pending),⟨0,26,2,[[(ow 0 0 s0),(ow 1 0 s1)]]⟩]) (st1:=[(ro 0 30 3 AA s0),(ro 0 3 1 eI s1),⟨0,26,2,[[.zc,.zc]]⟩,⟨0,26,2,[[(ow 5 0 q9.cells),(ow 6 0 q9.pending)]]⟩,(ro 0 30 3 AA q9.cells),(ro 0 3 1 eI q9.pending),⟨0,26,2,[[(ow 0 0 s0),(ow 1 0 s1)]]⟩]) [0,1,3,4,5,6,2] U (.pure (AB fun _=>U) (.pure (AB fun _=>U) .nil)) (by decide) rfl U (.pure (AB fun _=>U) (.pure (AB fun _=>U) (.raw U U (.raw U U (.pure (AB fun _=>U) (.pure (AB fun _=>U) (.raw U U .nil))))))) ⟨.rfl,.rfl,.rfl,.rfl,.rfl,.rfl,.rfl,trivial⟩) ?_;exact AF (L:=[(1,(i64 p1)),(4,(.ptr 2 0 0 0)),(6,(.ptr 3 0 0 0)),(22,(.ptr 6 0 0 0)),(24,(i64 p1)),(29,(.agg [(ow 0 0 s0),(ow 1 0 s1)])),(32,(i64 p1))]) ⟨.rfl,.rfl,.rfl,.rfl,.rfl,.rfl,.rfl,trivial⟩) (AG (by kernel_rfl) ((hA24 _ _ _).1 A24_027a)) rfl
     ·refine AH (i:=3) rfl U (by rfl) ?_
      refine zq tb U ?_
      refine AE ⟨U,?_⟩
      exact AD (AF (L:=[(1,(i64 p1)),(2,(.ptr 2 0 0 0)),(4,(.ptr 3 0 0 0)),(6,(.ptr 4 0 0 0)),(25,(i64 (Sh.w (p1 - 1000)))),(29,(.agg [(ow 0 0 s0),(ow 1 0 s1)])),(32,(i64 p1))]) ⟨.rfl,.rfl,.rfl,.rfl,.rfl,.rfl,.rfl,trivial⟩) (AG (by kernel_rfl) ((hA24 _ _ _).1 A24_237a)) rfl
     ·refine AH (i:=8) rfl U (by rfl) ?_
      refine Ad (rowsP:=[(ro 0 30 3 AA s0),(ro 0 3 1 eI s1)]) (rows0:=[(ro 0 30 3 AA s0),(ro 0 3 1 eI s1)]) (rows1:=[(ro 0 30 3 AA s0),(ro 0 3 1 eI s1)]) (rows2:=[(ro 0 30 3 AA q21)]) (rows1':=[(ro 0 30 3 AA s0),(ro 0 3 1 eI s1)]) (rows2':=[(ro 0 30 3 AA q21)]) (st':=[(ro 0 30 3 AA s0),(ro 0 3 1 eI s1),⟨0,26,2,[[(ow 0 0 s0),(ow 1 0 s1)]]⟩,⟨0,26,2,[[.zc,.zc]]⟩,⟨0,26,2,[[(ow 5 0 q9.cells),(ow 6 0 q9.pending)]]⟩,(ro 0 30 3 AA q9.cells),(ro 0 3 1 eI q9.pending),(ro 0 30 3 AA q21)]) (v':=(ow 7 0 q21)) [0,1] Ae Ep (Az gq21) rfl (by decide) rfl U (.pure (AB fun _=>U) (.pure (AB fun _=>U) .nil)) rfl U (.pure (AB fun _=>U) (.pure (AB fun _=>U) .nil)) (.pure (AB fun _=>U) .nil) rfl U ?_
      refine AE ⟨U,?_⟩
      exact AD (AF (L:=[(1,(i64 p1)),(2,(.ptr 2 0 0 0)),(4,(.ptr 3 0 0 0)),(6,(.ptr 4 0 0 0)),(24,(i64 p1)),(30,(ow 7 0 q21)),(32,(i64 p1))]) ⟨.rfl,.rfl,.rfl,.rfl,.rfl,.rfl,.rfl,trivial⟩) (AG (by kernel_rfl) ((hA24 _ _ _).1 A24_278a)) rfl
     ·refine AH (i:=11) rfl U (by rfl) ?_
      refine zq tb U ?_
      refine AE ⟨U,?_⟩
      exact AD (AF (L:=[(1,(i64 p1)),(2,(.ptr 2 0 0 0)),(4,(.ptr 3 0 0 0)),(6,(.ptr 4 0 0 0)),(24,(i64 p1)),(29,(.agg [(ow 0 0 s0),(ow 1 0 s1)])),(33,(i64 (Sh.w (p1 - 1000))))]) ⟨.rfl,.rfl,.rfl,.rfl,.rfl,.rfl,.rfl,trivial⟩) (AG (by kernel_rfl) ((hA24 _ _ _).1 A24_27ab)) rfl)
    have A24_2ab:A24 12 #[false,false,true,false,false,false,false,false,false,false,true,true,false,false,false] ⟨42,AM [(1,(i64 p1)),(2,(.ptr 2 0 0 0)),(4,(.ptr 3 0 0 0)),(6,(.ptr 4 0 0 0)),(24,(i64 p1)),(33,(i64 (Sh.w (p1 - 1000))))],[(ro 0 30 3 AA s0),(ro 0 3 1 eI s1),⟨0,26,2,[[(ow 0 0 s0),(ow 1 0 s1)]]⟩,⟨0,26,2,[[.zc,.zc]]⟩,⟨0,26,2,[[(ow 5 0 q9.cells),(ow 6 0 q9.pending)]]⟩,(ro 0 30 3 AA q9.cells),(ro 0 3 1 eI q9.pending)]⟩:=(hA24 _ _ _).2 (by
     refine AJ [0,3,7] U (by kernel_rfl) (by decide) ⟨?_,?_,?_,trivial⟩
     ·refine AH (i:=0) rfl U (by rfl) ?_
      refine zq tb U ?_
      refine AE ⟨U,?_⟩
      exact AD (AF (L:=[(1,(i64 p1)),(2,(.ptr 2 0 0 0)),(4,(.ptr 3 0 0 0)),(6,(.ptr 4 0 0 0)),(22,(.ptr 2 0 0 0)),(24,(i64 p1)),(33,(i64 (Sh.w (p1 - 1000))))]) ⟨.rfl,.rfl,.rfl,.rfl,.rfl,.rfl,.rfl,trivial⟩) (AG (by kernel_rfl) ((hA24 _ _ _).1 A24_02ab)) rfl
     ·refine AH (i:=3) rfl U (by rfl) ?_
      refine zq tb U ?_
      refine AE ⟨U,?_⟩
      exact AD (AF (L:=[(1,(i64 p1)),(2,(.ptr 2 0 0 0)),(4,(.ptr 3 0 0 0)),(6,(.ptr 4 0 0 0)),(25,(i64 (Sh.w (p1 - 1000)))),(33,(i64 (Sh.w (p1 - 1000))))]) ⟨.rfl,.rfl,.rfl,.rfl,.rfl,.rfl,trivial⟩) (AG (by kernel_rfl) ((hA24 _ _ _).1 A24_23ab)) rfl
     ·refine AH (i:=7) rfl U (by rfl) ?_
      refine zq tb U ?_
      refine AE ⟨U,?_⟩
      exact AD (AF (L:=[(1,(i64 p1)),(2,(.ptr 2 0 0 0)),(4,(.ptr 3 0 0 0)),(6,(.ptr 4 0 0 0)),(24,(i64 p1)),(29,(.agg [(ow 0 0 s0),(ow 1 0 s1)])),(33,(i64 (Sh.w (p1 - 1000))))]) ⟨.rfl,.rfl,.rfl,.rfl,.rfl,.rfl,.rfl,trivial⟩) (AG (by kernel_rfl) ((hA24 _ _ _).1 A24_27ab)) rfl)
    have A24_2a:A24 13 #[false,false,true,false,false,false,false,false,false,false,true,false,false,false,false] ⟨42,AM [(1,(i64 p1)),(2,(.ptr 2 0 0 0)),(4,(.ptr 3 0 0 0)),(6,(.ptr 4 0 0 0)),(24,(i64 p1)),(32,(i64 p1))],[(ro 0 30 3 AA s0),(ro 0 3 1 eI s1),⟨0,26,2,[[(ow 0 0 s0),(ow 1 0 s1)]]⟩,⟨0,26,2,[[.zc,.zc]]⟩,⟨0,26,2,[[(ow 5 0 q9.cells),(ow 6 0 q9.pending)]]⟩,(ro 0 30 3 AA q9.cells),(ro 0 3 1 eI q9.pending)]⟩:=(hA24 _ _ _).2 (by
     refine AJ [0,3,7,11] U (by kernel_rfl) (by decide) ⟨?_,?_,?_,?_,trivial⟩
     ·refine AH (i:=0) rfl U (by rfl) ?_
      refine zq tb U ?_
      refine AE ⟨U,?_⟩
      exact AD (AF (L:=[(1,(i64 p1)),(2,(.ptr 2 0 0 0)),(4,(.ptr 3 0 0 0)),(6,(.ptr 4 0 0 0)),(22,(.ptr 2 0 0 0)),(24,(i64 p1)),(32,(i64 p1))]) ⟨.rfl,.rfl,.rfl,.rfl,.rfl,.rfl,.rfl,trivial⟩) (AG (by kernel_rfl) ((hA24 _ _ _).1 A24_02a)) rfl
     ·refine AH (i:=3) rfl U (by rfl) ?_
      refine zq tb U ?_
      refine AE ⟨U,?_⟩
      exact AD (AF (L:=[(1,(i64 p1)),(2,(.ptr 2 0 0 0)),(4,(.ptr 3 0 0 0)),(6,(.ptr 4 0 0 0)),(25,(i64 (Sh.w (p1 - 1000)))),(32,(i64 p1))]) ⟨.rfl,.rfl,.rfl,.rfl,.rfl,.rfl,trivial⟩) (AG (by kernel_rfl) ((hA24 _ _ _).1 A24_23a)) rfl
     ·refine AH (i:=7) rfl U (by rfl) ?_
      refine zq tb U ?_
      refine AE ⟨U,?_⟩
      exact AD (AF (L:=[(1,(i64 p1)),(2,(.ptr 2 0 0 0)),(4,(.ptr 3 0 0 0)),(6,(.ptr 4 0 0 0)),(24,(i64 p1)),(29,(.agg [(ow 0 0 s0),(ow 1 0 s1)])),(32,(i64 p1))]) ⟨.rfl,.rfl,.rfl,.rfl,.rfl,.rfl,.rfl,trivial⟩) (AG (by kernel_rfl) ((hA24 _ _ _).1 A24_27a)) rfl
     ·refine AH (i:=11) rfl U (by rfl) ?_
      refine zq tb U ?_
      refine AE ⟨U,?_⟩
      exact AD (AF (L:=[(1,(i64 p1)),(2,(.ptr 2 0 0 0)),(4,(.ptr 3 0 0 0)),(6,(.ptr 4 0 0 0)),(24,(i64 p1)),(33,(i64 (Sh.w (p1 - 1000))))]) ⟨.rfl,.rfl,.rfl,.rfl,.rfl,.rfl,trivial⟩) (AG (by kernel_rfl) ((hA24 _ _ _).1 A24_2ab)) rfl)
    have A24_2:A24 14 #[false,false,true,false,false,false,false,false,false,false,false,false,false,false,false] ⟨42,AM [(1,(i64 p1)),(2,(.ptr 2 0 0 0)),(4,(.ptr 3 0 0 0)),(6,(.ptr 4 0 0 0)),(24,(i64 p1))],[(ro 0 30 3 AA s0),(ro 0 3 1 eI s1),⟨0,26,2,[[(ow 0 0 s0),(ow 1 0 s1)]]⟩,⟨0,26,2,[[.zc,.zc]]⟩,⟨0,26,2,[[(ow 5 0 q9.cells),(ow 6 0 q9.pending)]]⟩,(ro 0 30 3 AA q9.cells),(ro 0 3 1 eI q9.pending)]⟩:=(hA24 _ _ _).2 (by
     refine Bf 10 (v:=(i64 p1)) rfl U (by kernel_rfl) (by kernel_rfl) (by kernel_rfl) rfl (Cc U) ?_
     exact AD (AF (L:=[(1,(i64 p1)),(2,(.ptr 2 0 0 0)),(4,(.ptr 3 0 0 0)),(6,(.ptr 4 0 0 0)),(24,(i64 p1)),(32,(i64 p1))]) ⟨.rfl,.rfl,.rfl,.rfl,.rfl,.rfl,trivial⟩) (AG (by kernel_rfl) ((hA24 _ _ _).1 A24_2a)) rfl)
    have A24_e:A24 15 #[false,false,false,false,false,false,false,false,false,false,false,false,false,false,false] ⟨42,AM [(1,(i64 p1)),(2,(.ptr 2 0 0 0)),(4,(.ptr 3 0 0 0)),(6,(.ptr 4 0 0 0))],[(ro 0 30 3 AA s0),(ro 0 3 1 eI s1),⟨0,26,2,[[(ow 0 0 s0),(ow 1 0 s1)]]⟩,⟨0,26,2,[[.zc,.zc]]⟩,⟨0,26,2,[[(ow 5 0 q9.cells),(ow 6 0 q9.pending)]]⟩,(ro 0 30 3 AA q9.cells),(ro 0 3 1 eI q9.pending)]⟩:=(hA24 _ _ _).2 (by
     refine Bf 2 (v:=(i64 p1)) rfl U (by kernel_rfl) (by kernel_rfl) (by kernel_rfl) rfl (Cc U) ?_
     exact AD (AF (L:=[(1,(i64 p1)),(2,(.ptr 2 0 0 0)),(4,(.ptr 3 0 0 0)),(6,(.ptr 4 0 0 0)),(24,(i64 p1))]) ⟨.rfl,.rfl,.rfl,.rfl,.rfl,trivial⟩) (AG (by kernel_rfl) ((hA24 _ _ _).1 A24_2)) rfl)
    refine (hA24 _ _ _).2 ?_
    exact AD (by refine Wk.trans (AL (L:=[(1,(i64 p1)),(2,(.ptr 2 0 0 0)),(4,(.ptr 3 0 0 0)),(6,(.ptr 4 0 0 0))]) (st':=[(ro 0 30 3 AA s0),(ro 0 3 1 eI s1),⟨0,26,2,[[(ow 0 0 s0),(ow 1 0 s1)]]⟩,⟨0,26,2,[[.zc,.zc]]⟩,⟨0,26,2,[[(ow 5 0 q9.cells),(ow 6 0 q9.pending)]]⟩,(ro 0 30 3 AA q9.cells),(ro 0 3 1 eI q9.pending)]) (st1:=[(ro 0 30 3 AA s0),(ro 0 3 1 eI s1),⟨0,26,2,[[(ow 0 0 s0),(ow 1 0 s1)]]⟩,⟨0,26,2,[[.zc,.zc]]⟩,⟨0,26,2,[[(ow 4 0 q9.cells),(ow 5 0 q9.pending)]]⟩,(ro 0 30 3 AA q9.cells),(ro 0 3 1 eI q9.pending)]) [0,1,2,3,6,4,5] U (.pure (AB fun _=>U) (.pure (AB fun _=>U) .nil)) (by decide) rfl U (.pure (AB fun _=>U) (.pure (AB fun _=>U) (.raw U U (.raw U U (.raw U U (.pure (AB fun _=>U) (.pure (AB fun _=>U) .nil))))))) ⟨.rfl,.rfl,.rfl,.rfl,trivial⟩) ?_;exact AF (L:=[(1,(i64 p1)),(2,(.ptr 2 0 0 0)),(4,(.ptr 3 0 0 0)),(6,(.ptr 4 0 0 0))]) ⟨.rfl,.rfl,.rfl,.rfl,trivial⟩) (AG (by kernel_rfl) ((hA24 _ _ _).1 A24_e)) rfl
   ·intro b17 h1
    exact AU (M13 q9.cells q9.pending (Sh.AK h1).symm _ (AL (L:=[(4,(.ptr 2 0 0 0)),(6,(.ptr 5 0 0 0))]) (st':=[(ro 0 30 3 AA s0),(ro 0 3 1 eI s1),⟨0,26,2,[[.zc,.zc]]⟩,(ro 0 30 3 AA q9.cells),(ro 0 3 1 eI q9.pending),⟨0,26,2,[[(ow 3 0 q9.cells),(ow 4 0 q9.pending)]]⟩]) (st1:=[(ro 0 30 3 AA s0),(ro 0 3 1 eI s1),⟨0,26,2,[[.zc,.zc]]⟩,(ro 0 30 3 AA q9.cells),(ro 0 3 1 eI q9.pending),⟨0,26,2,[[(ow 4 0 q9.cells),(ow 5 0 q9.pending)]]⟩]) [0,1,3,4,5,6] U (.pure (AB fun _=>U) (.pure (AB fun _=>U) .nil)) (by decide) rfl U (.pure (AB fun _=>U) (.pure (AB fun _=>U) (.raw U U (.pure (AB fun _=>U) (.pure (AB fun _=>U) (.raw U U .nil)))))) ⟨.rfl,.rfl,trivial⟩))
 refine AR (by rfl) ?_
 refine zq tb U ?_
 obtain⟨q25,gq25,h1⟩:=Sh.bind_some h1
 refine DJ (v':=(.bool q25)) (st':=[(ro 0 30 3 AA s0),(ro 0 3 1 eI s1),⟨0,26,2,[[(ow 0 0 s0),(ow 1 0 s1)]]⟩,⟨0,26,2,[[.zc,.zc]]⟩]) Ae Rp (F7 gq25) rfl (.agg (.own U U (fun _=>U) (.own U U (fun _=>U) .nil)) .nil) rfl trivial U U ?_
 refine zm tb 2 U ?_
 rcases Sh.Ar h1 with ⟨b26,h1⟩ | ⟨b26,h1⟩
 ·refine zs b26 U ?_
  iterate 4 refine zs b26 rfl ?_
  refine zt b26 U ?_
  exact AE (M5 true (Sh.AK h1).symm _ (AP U))
 ·refine zg tb b26 U ?_
  iterate 2 refine zg tb b26 rfl ?_
  obtain⟨q27,gq27,h1⟩:=Sh.bind_some h1
  refine DJ (v':=(.bool q27)) (st':=[(ro 0 30 3 AA s0),(ro 0 3 1 eI s1),⟨0,26,2,[[(ow 0 0 s0),(ow 1 0 s1)]]⟩,⟨0,26,2,[[.zc,.zc]]⟩]) (Ce U U b26) PR (Eg gq27) rfl (.own U U (fun _=>U) (.val U .nil)) rfl trivial U U ?_
  refine zg tb b26 U ?_
  refine zf b26 U ?_
  exact AE (M5 (!q27) (Sh.AK h1).symm _ (AP U))
end Go.Proofs.Ythapbpfhdnmboaa

