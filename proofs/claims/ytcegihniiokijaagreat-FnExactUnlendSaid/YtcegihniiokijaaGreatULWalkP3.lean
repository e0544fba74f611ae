import Derived.Test.YtcegihniiokijaaGreatProg
import Derived.Test.YtcegihniiokijaaGreatGEncCToULDefs
import Derived.Test.YtcegihniiokijaaGreatCLWalk
import Derived.Test.YtcegihniiokijaaGreatULWalkP2
namespace Go.Proofs.YtcegihniiokijaaGreat
open Go Go.Abs RC
attribute [local irreducible] Go.Abs.Cc
set_option maxRecDepth 100000
set_option maxHeartbeats 4000000

theorem Wy:G6 Tryz.prog 30 1=some 1:=by kernel_rfl
theorem Z0:G6 Tryz.prog 57 0=some 0:=by kernel_rfl
theorem Zu:G6 Tryz.prog 57 1=some 1:=by kernel_rfl
theorem Zg:G6 Tryz.prog 57 2=some 2:=by kernel_rfl
theorem Zw:G6 Tryz.prog 57 3=some 3:=by kernel_rfl
theorem aa:Aq Tryz.prog 105=true:=by kernel_rfl
theorem bg:Aq Tryz.prog 123=true:=by kernel_rfl
theorem YN:Aq Tryz.prog 138=true:=by kernel_rfl
theorem bq:Aq Tryz.prog 139=true:=by kernel_rfl
theorem dC:Aq Tryz.prog 33=true:=by kernel_rfl
theorem dS:Aq Tryz.prog 34=true:=by kernel_rfl
theorem ca:Aq Tryz.prog 35=true:=by kernel_rfl
theorem cv:Aq Tryz.prog 51=true:=by kernel_rfl
theorem aQ:Aq Tryz.prog 52=true:=by kernel_rfl
theorem Wd:Aq Tryz.prog 54=true:=by kernel_rfl
theorem aI:Aq Tryz.prog 56=true:=by kernel_rfl
theorem aP:Aq Tryz.prog 57=true:=by kernel_rfl
theorem dE:Aq Tryz.prog 74=true:=by kernel_rfl
theorem dG:Aq Tryz.prog 76=true:=by kernel_rfl
theorem Mx:Aq Tryz.prog 77=true:=by kernel_rfl
theorem de:Aq Tryz.prog 84=true:=by kernel_rfl
theorem dh:Aq Tryz.prog 86=true:=by kernel_rfl
theorem dT:Aq Tryz.prog 87=true:=by kernel_rfl
theorem dI:Aq Tryz.prog 88=true:=by kernel_rfl
theorem aT:CI Tryz.prog 28=true:=by kernel_rfl
theorem aD:CI Tryz.prog 74=true:=by kernel_rfl
theorem Zx:CP Tryz.prog 4=some (false,1):=by kernel_rfl
theorem du:GG Tryz.prog 4=some [.bool false]:=by kernel_rfl

noncomputable abbrev HM (p2:Step):Go.Abs.Row:=⟨0,71,5,[[(i64 p2.op),(i64 p2.num),(i64 p2.Ax),(ls eI p2.args),(ls A2 p2.kids)]]⟩
noncomputable abbrev ES:Go.Abs.Row:=⟨0,98,3,[[(i64 0),(i64 0),.zc]]⟩
noncomputable abbrev XJ (p0:A1):List (Nat×Go.Abs.AV):=[(12,(.ptr 0 0 0 0)),(108,(ls AG p0.decls)),(110,(.ptr 1 0 (Int.toNat 0) 0))]
noncomputable abbrev Xx:List (Nat×Go.Abs.AV):=[(12,(.ptr 0 0 0 0)),(107,(.ptr 1 0 0 0)),(110,(.ptr 2 0 (Int.toNat 0) 0))]
noncomputable abbrev WG (c32:Int):List (Nat×Go.Abs.AV):=[(12,(.ptr 0 0 0 0)),(107,(.ptr 1 0 0 0)),(111,(i64 c32))]
noncomputable abbrev XT (c32:Int) (p0:A1):List (Nat×Go.Abs.AV):=[(12,(.ptr 0 0 0 0)),(108,(ls AG p0.decls)),(111,(i64 c32))]
noncomputable abbrev ax (p1:(List Int)):List (Nat×Go.Abs.AV):=[(1,(ls eI p1)),(3,(.ptr 0 0 0 0)),(5,(.ptr 1 0 0 0)),(141,(.bool true))]
noncomputable abbrev Z7:List (Nat×Go.Abs.AV):=[(3,(.ptr 0 0 0 0)),(12,(.ptr 1 0 0 0)),(110,(.ptr 2 0 (Int.toNat 0) 0))]
noncomputable abbrev Z6 (p0:A1):List (Nat×Go.Abs.AV):=[(108,(ls AG p0.decls)),(110,(.ptr 0 0 (Int.toNat 0) 0))]
noncomputable abbrev Yw (c32:Int) (p0:A1):List (Nat×Go.Abs.AV):=[(108,(ls AG p0.decls)),(111,(i64 c32))]
noncomputable abbrev Wh (c32:Int):List (Nat×Go.Abs.AV):=[(3,(.ptr 0 0 0 0)),(12,(.ptr 1 0 0 0)),(111,(i64 c32))]
theorem Jc {N:Nat} {rec_impl_signatures_blockType:A1→(List Int)→Block→Option (Int)} (hrec_impl_signatures_blockType :∀{p0:A1} {p1:(List Int)} {p2:Block} {r:Int},rec_impl_signatures_blockType p0 p1 p2=some r→Ae Tryz.prog 102 [(.agg (AL p0)),(ls eI p1),(.agg [(ls Al p2.steps),(i64 p2.result)])] [] (fun v st=>v=(i64 r)∧st=[])) {p0:A1} {p1:(List Int)} {p2:Step} {r:Int×Bool} (h0:Bj N rec_impl_signatures_blockType p0 p1 p2=some r):Ae Tryz.prog 87 [(.agg (AL p0)),(ls eI p1),(.agg [(i64 p2.op),(i64 p2.num),(i64 p2.Ax),(ls eI p2.args),(ls A2 p2.kids)])] [] (fun v st=>v=(.BZ [(i64 r.1),(.bool r.2)])∧st=[]):=by
 unfold Bj at h0
 refine ai Tryz.func87 U U U U (sr U fun K1 hK1=>BI (m:=0) (st':=[⟨0,49,2,[(AL p0)]⟩]) Ah U U U U U (BI (m:=1) (st':=[⟨0,49,2,[(AL p0)]⟩,(HM p2)]) Ah U U U U U (zm tb 2 U (dn hK1 U (sr U fun K2 hK2=>zm tb 2 U (zl tb U U (bs h0 fun l3 gl3 h0=>Va (m:=2) (st':=[⟨0,49,2,[(AL p0)]⟩,(HM p2),(ro 0 3 1 eI ([]:List Int))]) BN U U gl3 U U (zq tb U ?_))))))))
 refine dn hK2 U (AE fun K4 hK4=>sr U fun K5 hK5=>zm tb 2 U (zl tb U U (zq tb U (dn hK5 U ?_))))
 obtain⟨o9,h1,h0⟩:=Sh.A8 h0
 have M9 :∀(l8:(List Int)),o9=Sum.inr l8→∀s,Wk 0 s ⟨233,Ad [(1,(ls eI p1)),(3,(.ptr 0 0 0 0)),(5,(.ptr 1 0 0 0)),(8,(ow 2 0 l8))],[⟨0,49,2,[(AL p0)]⟩,(HM p2),(ro 0 3 1 eI l8)]⟩→K4 s:=by
  intro l8 hq s hw
  subst o9
  try dsimp only at h0
  refine hK4 _ (AS hw (AE fun K10 hK10=>AE fun K11 hK11=>bs h0 fun o13 h1 h0=>?_))
  have M13 :∀(t12:Bool),o13=t12→∀s,Wk 0 s ⟨233,Ad [(1,(ls eI p1)),(3,(.ptr 0 0 0 0)),(5,(.ptr 1 0 0 0)),(8,(ow 2 0 l8)),(70,(.bool t12))],[⟨0,49,2,[(AL p0)]⟩,(HM p2),(ro 0 3 1 eI l8)]⟩→K11 s:=by
   intro t12 hq s hw
   subst o13
   try dsimp only at h0
   refine hK11 _ (AS hw ?_)
   refine ci h0 U ?_ ?_ <;> clear h0
   ·intro b14 h0
    refine zr tb U U ?_
    replace h0:=Sh.AA h0
    subst r
    exact AK (xr (Ai [(6,(i64 (-1))),(7,(.bool false))] U))
   ·intro b14 h0
    refine AI (hK10 _ (AE fun K16 hK16=>Aa (sr U fun K17 hK17=>zm tb 2 U (bs h0 fun q18 gq18 h0=>zc Wd (Fu gq18) rfl U U (zq tb U (dn hK17 U ?_))))))
    refine ci h0 U ?_ ?_ <;> clear h0
    ·intro b19 h0
     refine AE fun K20 hK20=>bs h0 fun o22 h1 h0=>?_
     have M22 :∀(ok21:Bool),o22=ok21→∀s,Wk 0 s ⟨233,Ad [(3,(.ptr 0 0 0 0)),(5,(.ptr 1 0 0 0)),(8,(ow 2 0 l8)),(11,(.bool ok21))],[⟨0,49,2,[(AL p0)]⟩,(HM p2),(ro 0 3 1 eI l8)]⟩→K20 s:=by
      intro ok21 hq s hw
      subst o22
      try dsimp only at h0
      refine hK20 _ (AS hw (AE fun K23 hK23=>bs h0 fun o25 h1 h0=>?_))
      have M25 :∀(ok24:Bool),o25=ok24→∀s,Wk 0 s ⟨233,Ad [(11,(.bool ok24))],[]⟩→K23 s:=by
       intro ok24 hq s hw
       subst o25
       try dsimp only at h0
       refine hK23 _ (AS hw (zr tb U U ?_))
       replace h0:=Sh.AA h0
       subst r
       exact AK (xr (AF (L:=[(6,(i64 (-1))),(7,(.bool ok24))]) ⟨.rfl,.rfl,trivial⟩))
      refine AE fun K27 hK27=>bs h1 fun o29 h2 h1=>?_
      have M29 :∀(t28:Bool),o29=t28→∀s,Wk 0 s ⟨233,Ad [(3,(.ptr 0 0 0 0)),(8,(ow 1 0 l8)),(11,(.bool ok21)),(105,(.bool t28))],[⟨0,49,2,[(AL p0)]⟩,(ro 0 3 1 eI l8)]⟩→K27 s:=by
       intro t28 hq s hw
       subst o29
       try dsimp only at h1
       refine hK27 _ (AS hw ?_)
       refine ci h1 U ?_ ?_ <;> clear h1
       ·intro b30 h1
        refine AE fun K31 hK31=>?_
        refine KP (by kernel_rfl) ?_
        refine bs h1 fun c32 gc32 h1=>bs h1 fun q33 gq33 h1=>NT fun A34 hA34=>?_
        have A34_0123456789ab:A34 0 #[true,true,true,true,true,true,true,true,true,true,true,true] ⟨233,Ad [(13,(.bool q33.2))],[]⟩:=(hA34 _ _ _).2 (by
         refine LW U (by kernel_rfl) ?_
         exact hK31 _ (AJ U (zm tb 3 U (AB (M25 (!q33.2) (Sh.AA h1).symm _ (AF (L:=[(11,(.bool (!q33.2)))]) ⟨.rfl,trivial⟩))))))
        have A34_0123456789a:A34 1 #[true,true,true,true,true,true,true,true,true,true,true,false] ⟨233,Ad [(114,(.bool q33.2))],[]⟩:=(hA34 _ _ _).2 (by
         refine ET 11 (v:=(.bool q33.2)) rfl U (by kernel_rfl) (by kernel_rfl) (by kernel_rfl) rfl (Ss U) ?_
         exact AH (AF (L:=[(13,(.bool q33.2))]) ⟨.rfl,trivial⟩) (AR (by kernel_rfl) ((hA34 _ _ _).1 A34_0123456789ab)) rfl)
        have A34_0123456789:A34 2 #[true,true,true,true,true,true,true,true,true,true,false,false] ⟨233,Ad [(12,(.ptr 0 0 0 0)),(113,(.agg (AG q33.1))),(114,(.bool q33.2))],[ES]⟩:=(hA34 _ _ _).2 (by
         refine An [10] U (by kernel_rfl) (by decide) ⟨?_,trivial⟩
         ·refine A5.of (i:=10) rfl U (by rfl) ?_
          refine A3 (st':=[⟨0,98,3,[(AG q33.1)]⟩]) Ah Hm U U U U U U (show 0+3≤3 by decide) rfl (AB ⟨U,?_⟩)
          exact AH (by refine Wk.trans (AP (L:=[(114,(.bool q33.2))]) (st':=[]) (st1:=[]) [] U .nil (by decide) rfl U .nil ⟨.rfl,trivial⟩) ?_;exact AF (L:=[(114,(.bool q33.2))]) ⟨.rfl,trivial⟩) (AR (by kernel_rfl) ((hA34 _ _ _).1 A34_0123456789a)) rfl)
        have A34_012345678:A34 3 #[true,true,true,true,true,true,true,true,true,false,false,false] ⟨233,Ad [(113,(.agg (AG q33.1))),(114,(.bool q33.2))],[]⟩:=(hA34 _ _ _).2 (by
         refine An [9] U (by kernel_rfl) (by decide) ⟨?_,trivial⟩
         ·refine A5.of (i:=9) rfl U (by rfl) ?_
          refine Ap (m:=0) (st':=[ES]) Ah B2 U U (AB ⟨U,?_⟩)
          exact AH (AF (L:=[(12,(.ptr 0 0 0 0)),(113,(.agg (AG q33.1))),(114,(.bool q33.2))]) ⟨.rfl,.rfl,.rfl,trivial⟩) (AR (by kernel_rfl) ((hA34 _ _ _).1 A34_0123456789)) rfl)
        have A34_012345679a:A34 2 #[true,true,true,true,true,true,true,true,false,true,true,false] ⟨233,Ad [(106,(.BZ [(.agg (AG q33.1)),(.bool q33.2)]))],[]⟩:=(hA34 _ _ _).2 (by
         refine An [8] U (by kernel_rfl) (by decide) ⟨?_,trivial⟩
         ·refine A5.of (i:=8) rfl U (by rfl) ?_
          refine zq tb U (AB ⟨U,?_⟩)
          exact AH (AF (L:=[(114,(.bool q33.2))]) ⟨.rfl,trivial⟩) (AR (by kernel_rfl) ((hA34 _ _ _).1 A34_0123456789a)) rfl)
        have A34_012345679:A34 3 #[true,true,true,true,true,true,true,true,false,true,false,false] ⟨233,Ad [(12,(.ptr 0 0 0 0)),(106,(.BZ [(.agg (AG q33.1)),(.bool q33.2)])),(113,(.agg (AG q33.1)))],[ES]⟩:=(hA34 _ _ _).2 (by
         refine An [8,10] U (by kernel_rfl) (by decide) ⟨?_,?_,trivial⟩
         ·refine A5.of (i:=8) rfl U (by rfl) ?_
          refine zq tb U (AB ⟨U,?_⟩)
          exact AH (AF (L:=[(12,(.ptr 0 0 0 0)),(113,(.agg (AG q33.1))),(114,(.bool q33.2))]) ⟨.rfl,.rfl,.rfl,trivial⟩) (AR (by kernel_rfl) ((hA34 _ _ _).1 A34_0123456789)) rfl
         ·refine A5.of (i:=10) rfl U (by rfl) ?_
          refine A3 (st':=[⟨0,98,3,[(AG q33.1)]⟩]) Ah Hm U U U U U U (show 0+3≤3 by decide) rfl (AB ⟨U,?_⟩)
          exact AH (by refine Wk.trans (AP (L:=[(106,(.BZ [(.agg (AG q33.1)),(.bool q33.2)]))]) (st':=[]) (st1:=[]) [] U .nil (by decide) rfl U .nil ⟨.rfl,trivial⟩) ?_;exact AF (L:=[(106,(.BZ [(.agg (AG q33.1)),(.bool q33.2)]))]) ⟨.rfl,trivial⟩) (AR (by kernel_rfl) ((hA34 _ _ _).1 A34_012345679a)) rfl)
        have A34_01234567:A34 4 #[true,true,true,true,true,true,true,true,false,false,false,false] ⟨233,Ad [(106,(.BZ [(.agg (AG q33.1)),(.bool q33.2)])),(113,(.agg (AG q33.1)))],[]⟩:=(hA34 _ _ _).2 (by
         refine An [8,9] U (by kernel_rfl) (by decide) ⟨?_,?_,trivial⟩
         ·refine A5.of (i:=8) rfl U (by rfl) ?_
          refine zq tb U (AB ⟨U,?_⟩)
          exact AH (AF (L:=[(113,(.agg (AG q33.1))),(114,(.bool q33.2))]) ⟨.rfl,.rfl,trivial⟩) (AR (by kernel_rfl) ((hA34 _ _ _).1 A34_012345678)) rfl
         ·refine A5.of (i:=9) rfl U (by rfl) ?_
          refine Ap (m:=0) (st':=[ES]) Ah B2 U U (AB ⟨U,?_⟩)
          exact AH (AF (L:=[(12,(.ptr 0 0 0 0)),(106,(.BZ [(.agg (AG q33.1)),(.bool q33.2)])),(113,(.agg (AG q33.1)))]) ⟨.rfl,.rfl,.rfl,trivial⟩) (AR (by kernel_rfl) ((hA34 _ _ _).1 A34_012345679)) rfl)
        have A34_012345689:A34 3 #[true,true,true,true,true,true,true,false,true,true,false,false] ⟨233,Ad [(12,(.ptr 0 0 0 0)),(106,(.BZ [(.agg (AG q33.1)),(.bool q33.2)])),(114,(.bool q33.2))],[ES]⟩:=(hA34 _ _ _).2 (by
         refine An [7] U (by kernel_rfl) (by decide) ⟨?_,trivial⟩
         ·refine A5.of (i:=7) rfl U (by rfl) ?_
          refine zq tb U (AB ⟨U,?_⟩)
          exact AH (AF (L:=[(12,(.ptr 0 0 0 0)),(113,(.agg (AG q33.1))),(114,(.bool q33.2))]) ⟨.rfl,.rfl,.rfl,trivial⟩) (AR (by kernel_rfl) ((hA34 _ _ _).1 A34_0123456789)) rfl)
        have A34_01234568:A34 4 #[true,true,true,true,true,true,true,false,true,false,false,false] ⟨233,Ad [(106,(.BZ [(.agg (AG q33.1)),(.bool q33.2)])),(114,(.bool q33.2))],[]⟩:=(hA34 _ _ _).2 (by
         refine An [7,9] U (by kernel_rfl) (by decide) ⟨?_,?_,trivial⟩
         ·refine A5.of (i:=7) rfl U (by rfl) ?_
          refine zq tb U (AB ⟨U,?_⟩)
          exact AH (AF (L:=[(113,(.agg (AG q33.1))),(114,(.bool q33.2))]) ⟨.rfl,.rfl,trivial⟩) (AR (by kernel_rfl) ((hA34 _ _ _).1 A34_012345678)) rfl
         ·refine A5.of (i:=9) rfl U (by rfl) ?_
          refine Ap (m:=0) (st':=[ES]) Ah B2 U U (AB ⟨U,?_⟩)
          exact AH (AF (L:=[(12,(.ptr 0 0 0 0)),(106,(.BZ [(.agg (AG q33.1)),(.bool q33.2)])),(114,(.bool q33.2))]) ⟨.rfl,.rfl,.rfl,trivial⟩) (AR (by kernel_rfl) ((hA34 _ _ _).1 A34_012345689)) rfl)
        have A34_01234569:A34 4 #[true,true,true,true,true,true,true,false,false,true,false,false] ⟨233,Ad [(12,(.ptr 0 0 0 0)),(106,(.BZ [(.agg (AG q33.1)),(.bool q33.2)]))],[ES]⟩:=(hA34 _ _ _).2 (by
         refine An [7,8] U (by kernel_rfl) (by decide) ⟨?_,?_,trivial⟩
         ·refine A5.of (i:=7) rfl U (by rfl) ?_
          refine zq tb U (AB ⟨U,?_⟩)
          exact AH (AF (L:=[(12,(.ptr 0 0 0 0)),(106,(.BZ [(.agg (AG q33.1)),(.bool q33.2)])),(113,(.agg (AG q33.1)))]) ⟨.rfl,.rfl,.rfl,trivial⟩) (AR (by kernel_rfl) ((hA34 _ _ _).1 A34_012345679)) rfl
         ·refine A5.of (i:=8) rfl U (by rfl) ?_
          refine zq tb U (AB ⟨U,?_⟩)
          exact AH (AF (L:=[(12,(.ptr 0 0 0 0)),(106,(.BZ [(.agg (AG q33.1)),(.bool q33.2)])),(114,(.bool q33.2))]) ⟨.rfl,.rfl,.rfl,trivial⟩) (AR (by kernel_rfl) ((hA34 _ _ _).1 A34_012345689)) rfl)
        have A34_0123456:A34 5 #[true,true,true,true,true,true,true,false,false,false,false,false] ⟨233,Ad [(106,(.BZ [(.agg (AG q33.1)),(.bool q33.2)]))],[]⟩:=(hA34 _ _ _).2 (by
         refine An [7,8,9] U (by kernel_rfl) (by decide) ⟨?_,?_,?_,trivial⟩
         ·refine A5.of (i:=7) rfl U (by rfl) ?_
          refine zq tb U (AB ⟨U,?_⟩)
          exact AH (AF (L:=[(106,(.BZ [(.agg (AG q33.1)),(.bool q33.2)])),(113,(.agg (AG q33.1)))]) ⟨.rfl,.rfl,trivial⟩) (AR (by kernel_rfl) ((hA34 _ _ _).1 A34_01234567)) rfl
         ·refine A5.of (i:=8) rfl U (by rfl) ?_
          refine zq tb U (AB ⟨U,?_⟩)
          exact AH (AF (L:=[(106,(.BZ [(.agg (AG q33.1)),(.bool q33.2)])),(114,(.bool q33.2))]) ⟨.rfl,.rfl,trivial⟩) (AR (by kernel_rfl) ((hA34 _ _ _).1 A34_01234568)) rfl
         ·refine A5.of (i:=9) rfl U (by rfl) ?_
          refine Ap (m:=0) (st':=[ES]) Ah B2 U U (AB ⟨U,?_⟩)
          exact AH (AF (L:=[(12,(.ptr 0 0 0 0)),(106,(.BZ [(.agg (AG q33.1)),(.bool q33.2)]))]) ⟨.rfl,.rfl,trivial⟩) (AR (by kernel_rfl) ((hA34 _ _ _).1 A34_01234569)) rfl)
        have A34_012345:A34 6 #[true,true,true,true,true,true,false,false,false,false,false,false] ⟨233,Ad [(112,(.BZ [(.agg (AG q33.1)),(.bool q33.2)]))],[]⟩:=(hA34 _ _ _).2 (by
         refine ET 6 (v:=(.BZ [(.agg (AG q33.1)),(.bool q33.2)])) rfl U (by kernel_rfl) (by kernel_rfl) (by kernel_rfl) rfl (F8 U) ?_
         exact AH (AF (L:=[(106,(.BZ [(.agg (AG q33.1)),(.bool q33.2)]))]) ⟨.rfl,trivial⟩) (AR (by kernel_rfl) ((hA34 _ _ _).1 A34_0123456)) rfl)
        have A34_0123459:A34 5 #[true,true,true,true,true,true,false,false,false,true,false,false] ⟨233,Ad [(12,(.ptr 0 0 0 0)),(112,(.BZ [(.agg (AG q33.1)),(.bool q33.2)]))],[ES]⟩:=(hA34 _ _ _).2 (by
         refine ET 6 (v:=(.BZ [(.agg (AG q33.1)),(.bool q33.2)])) rfl U (by kernel_rfl) (by kernel_rfl) (by kernel_rfl) rfl (F8 U) ?_
         exact AH (AF (L:=[(12,(.ptr 0 0 0 0)),(106,(.BZ [(.agg (AG q33.1)),(.bool q33.2)]))]) ⟨.rfl,.rfl,trivial⟩) (AR (by kernel_rfl) ((hA34 _ _ _).1 A34_01234569)) rfl)
        have A34_012349:A34 6 #[true,true,true,true,true,false,false,false,false,true,false,false] ⟨233,Ad (XT c32 p0),[ES]⟩:=(hA34 _ _ _).2 (by
         refine An [5] U (by kernel_rfl) (by decide) ⟨?_,trivial⟩
         ·refine A5.of (i:=5) rfl U (by rfl) ?_
          refine zc (v':=(.BZ [(.agg (AG q33.1)),(.bool q33.2)])) Ty (HT gq33) rfl U U (AB ⟨U,?_⟩)
          exact AH (AF (L:=[(12,(.ptr 0 0 0 0)),(112,(.BZ [(.agg (AG q33.1)),(.bool q33.2)]))]) ⟨.rfl,.rfl,trivial⟩) (AR (by kernel_rfl) ((hA34 _ _ _).1 A34_0123459)) rfl)
        have A34_01234:A34 7 #[true,true,true,true,true,false,false,false,false,false,false,false] ⟨233,Ad (Yw c32 p0),[]⟩:=(hA34 _ _ _).2 (by
         refine An [5,9] U (by kernel_rfl) (by decide) ⟨?_,?_,trivial⟩
         ·refine A5.of (i:=5) rfl U (by rfl) ?_
          refine zc (v':=(.BZ [(.agg (AG q33.1)),(.bool q33.2)])) Ty (HT gq33) rfl U U (AB ⟨U,?_⟩)
          exact AH (AF (L:=[(112,(.BZ [(.agg (AG q33.1)),(.bool q33.2)]))]) ⟨.rfl,trivial⟩) (AR (by kernel_rfl) ((hA34 _ _ _).1 A34_012345)) rfl
         ·refine A5.of (i:=9) rfl U (by rfl) ?_
          refine Ap (m:=0) (st':=[ES]) Ah B2 U U (AB ⟨U,?_⟩)
          exact AH (AF (L:=(XT c32 p0)) ⟨.rfl,.rfl,.rfl,trivial⟩) (AR (by kernel_rfl) ((hA34 _ _ _).1 A34_012349)) rfl)
        have A34_01239:A34 7 #[true,true,true,true,false,false,false,false,false,true,false,false] ⟨233,Ad (XJ p0),[ES,(ro 0 3 1 eI l8)]⟩:=(hA34 _ _ _).2 (by
         refine An [4] U (by kernel_rfl) (by decide) ⟨?_,trivial⟩
         ·refine A5.of (i:=4) rfl U (by rfl) ?_
          refine zz (i64 c32) (Cf HN U U (ER gc32) rfl) rfl (AB ⟨U,?_⟩)
          exact AH (by refine Wk.trans (AP (L:=(XT c32 p0)) (st':=[ES]) (st1:=[ES]) [0] U .nil (by decide) rfl U (.raw U U .nil) ⟨.rfl,.rfl,.rfl,trivial⟩) ?_;exact AF (L:=(XT c32 p0)) ⟨.rfl,.rfl,.rfl,trivial⟩) (AR (by kernel_rfl) ((hA34 _ _ _).1 A34_012349)) rfl)
        have A34_0123:A34 8 #[true,true,true,true,false,false,false,false,false,false,false,false] ⟨233,Ad (Z6 p0),[(ro 0 3 1 eI l8)]⟩:=(hA34 _ _ _).2 (by
         refine An [4,9] U (by kernel_rfl) (by decide) ⟨?_,?_,trivial⟩
         ·refine A5.of (i:=4) rfl U (by rfl) ?_
          refine zz (i64 c32) (Cf HN U U (ER gc32) rfl) rfl (AB ⟨U,?_⟩)
          exact AH (by refine Wk.trans (AP (L:=(Yw c32 p0)) (st':=[]) (st1:=[]) [] U .nil (by decide) rfl U .nil ⟨.rfl,.rfl,trivial⟩) ?_;exact AF (L:=(Yw c32 p0)) ⟨.rfl,.rfl,trivial⟩) (AR (by kernel_rfl) ((hA34 _ _ _).1 A34_01234)) rfl
         ·refine A5.of (i:=9) rfl U (by rfl) ?_
          refine Ap (m:=1) (st':=[(ro 0 3 1 eI l8),ES]) Ah B2 U U (AB ⟨U,?_⟩)
          exact AH (by refine Wk.trans (AP (L:=(XJ p0)) (st':=[ES,(ro 0 3 1 eI l8)]) (st1:=[ES,(ro 0 3 1 eI l8)]) [1,0] U .nil (by decide) rfl U (.raw U U (.pure (Ak fun _=>U) .nil)) ⟨.rfl,.rfl,.rfl,trivial⟩) ?_;exact AF (L:=(XJ p0)) ⟨.rfl,.rfl,.rfl,trivial⟩) (AR (by kernel_rfl) ((hA34 _ _ _).1 A34_01239)) rfl)
        have A34_0129:A34 8 #[true,true,true,false,false,false,false,false,false,true,false,false] ⟨233,Ad [(12,(.ptr 0 0 0 0)),(108,(ls AG p0.decls)),(109,(ow 1 0 l8))],[ES,(ro 0 3 1 eI l8)]⟩:=(hA34 _ _ _).2 (by
         refine An [3] U (by kernel_rfl) (by decide) ⟨?_,trivial⟩
         ·refine A5.of (i:=3) rfl U (by rfl) ?_
          refine zz (.ptr 1 0 (Int.toNat 0) 0) (B8 BN U U U U gc32) rfl (AB ⟨U,?_⟩)
          exact AH (AF (L:=(XJ p0)) ⟨.rfl,.rfl,.rfl,trivial⟩) (AR (by kernel_rfl) ((hA34 _ _ _).1 A34_01239)) rfl)
        have A34_012:A34 9 #[true,true,true,false,false,false,false,false,false,false,false,false] ⟨233,Ad [(108,(ls AG p0.decls)),(109,(ow 0 0 l8))],[(ro 0 3 1 eI l8)]⟩:=(hA34 _ _ _).2 (by
         refine An [3,9] U (by kernel_rfl) (by decide) ⟨?_,?_,trivial⟩
         ·refine A5.of (i:=3) rfl U (by rfl) ?_
          refine zz (.ptr 0 0 (Int.toNat 0) 0) (B8 BN U U U U gc32) rfl (AB ⟨U,?_⟩)
          exact AH (AF (L:=(Z6 p0)) ⟨.rfl,.rfl,trivial⟩) (AR (by kernel_rfl) ((hA34 _ _ _).1 A34_0123)) rfl
         ·refine A5.of (i:=9) rfl U (by rfl) ?_
          refine Ap (m:=1) (st':=[(ro 0 3 1 eI l8),ES]) Ah B2 U U (AB ⟨U,?_⟩)
          exact AH (by refine Wk.trans (AP (L:=[(12,(.ptr 0 0 0 0)),(108,(ls AG p0.decls)),(109,(ow 1 0 l8))]) (st':=[ES,(ro 0 3 1 eI l8)]) (st1:=[ES,(ro 0 3 1 eI l8)]) [1,0] U .nil (by decide) rfl U (.raw U U (.pure (Ak fun _=>U) .nil)) ⟨.rfl,.rfl,.rfl,trivial⟩) ?_;exact AF (L:=[(12,(.ptr 0 0 0 0)),(108,(ls AG p0.decls)),(109,(ow 1 0 l8))]) ⟨.rfl,.rfl,.rfl,trivial⟩) (AR (by kernel_rfl) ((hA34 _ _ _).1 A34_0129)) rfl)
        have A34_02349:A34 7 #[true,false,true,true,true,false,false,false,false,true,false,false] ⟨233,Ad (WG c32),[ES,⟨0,49,2,[(AL p0)]⟩]⟩:=(hA34 _ _ _).2 (by
         refine An [1] U (by kernel_rfl) (by decide) ⟨?_,trivial⟩
         ·refine A5.of (i:=1) rfl U (by rfl) ?_
          refine zq tb U (AB ⟨U,?_⟩)
          exact AH (by refine Wk.trans (AP (L:=(XT c32 p0)) (st':=[ES]) (st1:=[ES]) [0] U .nil (by decide) rfl U (.raw U U .nil) ⟨.rfl,.rfl,.rfl,trivial⟩) ?_;exact AF (L:=(XT c32 p0)) ⟨.rfl,.rfl,.rfl,trivial⟩) (AR (by kernel_rfl) ((hA34 _ _ _).1 A34_012349)) rfl)
        have A34_0234:A34 8 #[true,false,true,true,true,false,false,false,false,false,false,false] ⟨233,Ad [(107,(.ptr 0 0 0 0)),(111,(i64 c32))],[⟨0,49,2,[(AL p0)]⟩]⟩:=(hA34 _ _ _).2 (by
         refine An [1,9] U (by kernel_rfl) (by decide) ⟨?_,?_,trivial⟩
         ·refine A5.of (i:=1) rfl U (by rfl) ?_
          refine zq tb U (AB ⟨U,?_⟩)
          exact AH (by refine Wk.trans (AP (L:=(Yw c32 p0)) (st':=[]) (st1:=[]) [] U .nil (by decide) rfl U .nil ⟨.rfl,.rfl,trivial⟩) ?_;exact AF (L:=(Yw c32 p0)) ⟨.rfl,.rfl,trivial⟩) (AR (by kernel_rfl) ((hA34 _ _ _).1 A34_01234)) rfl
         ·refine A5.of (i:=9) rfl U (by rfl) ?_
          refine Ap (m:=1) (st':=[⟨0,49,2,[(AL p0)]⟩,ES]) Ah B2 U U (AB ⟨U,?_⟩)
          exact AH (by refine Wk.trans (AP (L:=(WG c32)) (st':=[ES,⟨0,49,2,[(AL p0)]⟩]) (st1:=[ES,⟨0,49,2,[(AL p0)]⟩]) [1,0] U .nil (by decide) rfl U (.raw U U (.raw U U .nil)) ⟨.rfl,.rfl,.rfl,trivial⟩) ?_;exact AF (L:=(WG c32)) ⟨.rfl,.rfl,.rfl,trivial⟩) (AR (by kernel_rfl) ((hA34 _ _ _).1 A34_02349)) rfl)
        have A34_0239:A34 8 #[true,false,true,true,false,false,false,false,false,true,false,false] ⟨233,Ad Xx,[ES,⟨0,49,2,[(AL p0)]⟩,(ro 0 3 1 eI l8)]⟩:=(hA34 _ _ _).2 (by
         refine An [1,4] U (by kernel_rfl) (by decide) ⟨?_,?_,trivial⟩
         ·refine A5.of (i:=1) rfl U (by rfl) ?_
          refine zq tb U (AB ⟨U,?_⟩)
          exact AH (by refine Wk.trans (AP (L:=(XJ p0)) (st':=[ES,(ro 0 3 1 eI l8)]) (st1:=[ES,(ro 0 3 1 eI l8)]) [0,2] U .nil (by decide) rfl U (.raw U U (.pure (Ak fun _=>U) .nil)) ⟨.rfl,.rfl,.rfl,trivial⟩) ?_;exact AF (L:=(XJ p0)) ⟨.rfl,.rfl,.rfl,trivial⟩) (AR (by kernel_rfl) ((hA34 _ _ _).1 A34_01239)) rfl
         ·refine A5.of (i:=4) rfl U (by rfl) ?_
          refine zz (i64 c32) (Cf HN U U (ER gc32) rfl) rfl (AB ⟨U,?_⟩)
          exact AH (by refine Wk.trans (AP (L:=(WG c32)) (st':=[ES,⟨0,49,2,[(AL p0)]⟩]) (st1:=[ES,⟨0,49,2,[(AL p0)]⟩]) [0,1] U .nil (by decide) rfl U (.raw U U (.raw U U .nil)) ⟨.rfl,.rfl,.rfl,trivial⟩) ?_;exact AF (L:=(WG c32)) ⟨.rfl,.rfl,.rfl,trivial⟩) (AR (by kernel_rfl) ((hA34 _ _ _).1 A34_02349)) rfl)
        have A34_023:A34 9 #[true,false,true,true,false,false,false,false,false,false,false,false] ⟨233,Ad [(107,(.ptr 0 0 0 0)),(110,(.ptr 1 0 (Int.toNat 0) 0))],[⟨0,49,2,[(AL p0)]⟩,(ro 0 3 1 eI l8)]⟩:=(hA34 _ _ _).2 (by
         refine An [1,4,9] U (by kernel_rfl) (by decide) ⟨?_,?_,?_,trivial⟩
         ·refine A5.of (i:=1) rfl U (by rfl) ?_
          refine zq tb U (AB ⟨U,?_⟩)
          exact AH (by refine Wk.trans (AP (L:=(Z6 p0)) (st':=[(ro 0 3 1 eI l8)]) (st1:=[(ro 0 3 1 eI l8)]) [1] U .nil (by decide) rfl U (.pure (Ak fun _=>U) .nil) ⟨.rfl,.rfl,trivial⟩) ?_;exact AF (L:=(Z6 p0)) ⟨.rfl,.rfl,trivial⟩) (AR (by kernel_rfl) ((hA34 _ _ _).1 A34_0123)) rfl
         ·refine A5.of (i:=4) rfl U (by rfl) ?_
          refine zz (i64 c32) (Cf HN U U (ER gc32) rfl) rfl (AB ⟨U,?_⟩)
          exact AH (by refine Wk.trans (AP (L:=[(107,(.ptr 0 0 0 0)),(111,(i64 c32))]) (st':=[⟨0,49,2,[(AL p0)]⟩]) (st1:=[⟨0,49,2,[(AL p0)]⟩]) [0] U .nil (by decide) rfl U (.raw U U .nil) ⟨.rfl,.rfl,trivial⟩) ?_;exact AF (L:=[(107,(.ptr 0 0 0 0)),(111,(i64 c32))]) ⟨.rfl,.rfl,trivial⟩) (AR (by kernel_rfl) ((hA34 _ _ _).1 A34_0234)) rfl
         ·refine A5.of (i:=9) rfl U (by rfl) ?_
          refine Ap (m:=2) (st':=[⟨0,49,2,[(AL p0)]⟩,(ro 0 3 1 eI l8),ES]) Ah B2 U U (AB ⟨U,?_⟩)
          exact AH (by refine Wk.trans (AP (L:=Xx) (st':=[ES,⟨0,49,2,[(AL p0)]⟩,(ro 0 3 1 eI l8)]) (st1:=[ES,⟨0,49,2,[(AL p0)]⟩,(ro 0 3 1 eI l8)]) [2,0,1] U .nil (by decide) rfl U (.raw U U (.raw U U (.pure (Ak fun _=>U) .nil))) ⟨.rfl,.rfl,.rfl,trivial⟩) ?_;exact AF (L:=Xx) ⟨.rfl,.rfl,.rfl,trivial⟩) (AR (by kernel_rfl) ((hA34 _ _ _).1 A34_0239)) rfl)
        have A34_029:A34 9 #[true,false,true,false,false,false,false,false,false,true,false,false] ⟨233,Ad [(12,(.ptr 0 0 0 0)),(107,(.ptr 1 0 0 0)),(109,(ow 2 0 l8))],[ES,⟨0,49,2,[(AL p0)]⟩,(ro 0 3 1 eI l8)]⟩:=(hA34 _ _ _).2 (by
         refine An [1,3] U (by kernel_rfl) (by decide) ⟨?_,?_,trivial⟩
         ·refine A5.of (i:=1) rfl U (by rfl) ?_
          refine zq tb U (AB ⟨U,?_⟩)
          exact AH (by refine Wk.trans (AP (L:=[(12,(.ptr 0 0 0 0)),(108,(ls AG p0.decls)),(109,(ow 1 0 l8))]) (st':=[ES,(ro 0 3 1 eI l8)]) (st1:=[ES,(ro 0 3 1 eI l8)]) [0,2] U .nil (by decide) rfl U (.raw U U (.pure (Ak fun _=>U) .nil)) ⟨.rfl,.rfl,.rfl,trivial⟩) ?_;exact AF (L:=[(12,(.ptr 0 0 0 0)),(108,(ls AG p0.decls)),(109,(ow 1 0 l8))]) ⟨.rfl,.rfl,.rfl,trivial⟩) (AR (by kernel_rfl) ((hA34 _ _ _).1 A34_0129)) rfl
         ·refine A5.of (i:=3) rfl U (by rfl) ?_
          refine zz (.ptr 2 0 (Int.toNat 0) 0) (B8 BN U U U U gc32) rfl (AB ⟨U,?_⟩)
          exact AH (AF (L:=Xx) ⟨.rfl,.rfl,.rfl,trivial⟩) (AR (by kernel_rfl) ((hA34 _ _ _).1 A34_0239)) rfl)
        have A34_02:A34 10 #[true,false,true,false,false,false,false,false,false,false,false,false] ⟨233,Ad [(107,(.ptr 0 0 0 0)),(109,(ow 1 0 l8))],[⟨0,49,2,[(AL p0)]⟩,(ro 0 3 1 eI l8)]⟩:=(hA34 _ _ _).2 (by
         refine An [1,3,9] U (by kernel_rfl) (by decide) ⟨?_,?_,?_,trivial⟩
         ·refine A5.of (i:=1) rfl U (by rfl) ?_
          refine zq tb U (AB ⟨U,?_⟩)
          exact AH (by refine Wk.trans (AP (L:=[(108,(ls AG p0.decls)),(109,(ow 0 0 l8))]) (st':=[(ro 0 3 1 eI l8)]) (st1:=[(ro 0 3 1 eI l8)]) [1] U .nil (by decide) rfl U (.pure (Ak fun _=>U) .nil) ⟨.rfl,.rfl,trivial⟩) ?_;exact AF (L:=[(108,(ls AG p0.decls)),(109,(ow 0 0 l8))]) ⟨.rfl,.rfl,trivial⟩) (AR (by kernel_rfl) ((hA34 _ _ _).1 A34_012)) rfl
         ·refine A5.of (i:=3) rfl U (by rfl) ?_
          refine zz (.ptr 1 0 (Int.toNat 0) 0) (B8 BN U U U U gc32) rfl (AB ⟨U,?_⟩)
          exact AH (AF (L:=[(107,(.ptr 0 0 0 0)),(110,(.ptr 1 0 (Int.toNat 0) 0))]) ⟨.rfl,.rfl,trivial⟩) (AR (by kernel_rfl) ((hA34 _ _ _).1 A34_023)) rfl
         ·refine A5.of (i:=9) rfl U (by rfl) ?_
          refine Ap (m:=2) (st':=[⟨0,49,2,[(AL p0)]⟩,(ro 0 3 1 eI l8),ES]) Ah B2 U U (AB ⟨U,?_⟩)
          exact AH (by refine Wk.trans (AP (L:=[(12,(.ptr 0 0 0 0)),(107,(.ptr 1 0 0 0)),(109,(ow 2 0 l8))]) (st':=[ES,⟨0,49,2,[(AL p0)]⟩,(ro 0 3 1 eI l8)]) (st1:=[ES,⟨0,49,2,[(AL p0)]⟩,(ro 0 3 1 eI l8)]) [2,0,1] U .nil (by decide) rfl U (.raw U U (.raw U U (.pure (Ak fun _=>U) .nil))) ⟨.rfl,.rfl,.rfl,trivial⟩) ?_;exact AF (L:=[(12,(.ptr 0 0 0 0)),(107,(.ptr 1 0 0 0)),(109,(ow 2 0 l8))]) ⟨.rfl,.rfl,.rfl,trivial⟩) (AR (by kernel_rfl) ((hA34 _ _ _).1 A34_029)) rfl)
        have A34_2349:A34 8 #[false,false,true,true,true,false,false,false,false,true,false,false] ⟨233,Ad (Wh c32),[⟨0,49,2,[(AL p0)]⟩,ES]⟩:=(hA34 _ _ _).2 (by
         refine An [0] U (by kernel_rfl) (by decide) ⟨?_,trivial⟩
         ·refine A5.of (i:=0) rfl U (by rfl) ?_
          refine zq tb U (AB ⟨U,?_⟩)
          exact AH (by refine Wk.trans (AP (L:=(WG c32)) (st':=[ES,⟨0,49,2,[(AL p0)]⟩]) (st1:=[ES,⟨0,49,2,[(AL p0)]⟩]) [1,0] U .nil (by decide) rfl U (.raw U U (.raw U U .nil)) ⟨.rfl,.rfl,.rfl,trivial⟩) ?_;exact AF (L:=(WG c32)) ⟨.rfl,.rfl,.rfl,trivial⟩) (AR (by kernel_rfl) ((hA34 _ _ _).1 A34_02349)) rfl)
        have A34_234:A34 9 #[false,false,true,true,true,false,false,false,false,false,false,false] ⟨233,Ad [(3,(.ptr 0 0 0 0)),(111,(i64 c32))],[⟨0,49,2,[(AL p0)]⟩]⟩:=(hA34 _ _ _).2 (by
         refine An [0,9] U (by kernel_rfl) (by decide) ⟨?_,?_,trivial⟩
         ·refine A5.of (i:=0) rfl U (by rfl) ?_
          refine zq tb U (AB ⟨U,?_⟩)
          exact AH (AF (L:=[(107,(.ptr 0 0 0 0)),(111,(i64 c32))]) ⟨.rfl,.rfl,trivial⟩) (AR (by kernel_rfl) ((hA34 _ _ _).1 A34_0234)) rfl
         ·refine A5.of (i:=9) rfl U (by rfl) ?_
          refine Ap (m:=1) (st':=[⟨0,49,2,[(AL p0)]⟩,ES]) Ah B2 U U (AB ⟨U,?_⟩)
          exact AH (AF (L:=(Wh c32)) ⟨.rfl,.rfl,.rfl,trivial⟩) (AR (by kernel_rfl) ((hA34 _ _ _).1 A34_2349)) rfl)
        have A34_239:A34 9 #[false,false,true,true,false,false,false,false,false,true,false,false] ⟨233,Ad Z7,[⟨0,49,2,[(AL p0)]⟩,ES,(ro 0 3 1 eI l8)]⟩:=(hA34 _ _ _).2 (by
         refine An [0,4] U (by kernel_rfl) (by decide) ⟨?_,?_,trivial⟩
         ·refine A5.of (i:=0) rfl U (by rfl) ?_
          refine zq tb U (AB ⟨U,?_⟩)
          exact AH (by refine Wk.trans (AP (L:=Xx) (st':=[ES,⟨0,49,2,[(AL p0)]⟩,(ro 0 3 1 eI l8)]) (st1:=[ES,⟨0,49,2,[(AL p0)]⟩,(ro 0 3 1 eI l8)]) [1,0,2] U .nil (by decide) rfl U (.raw U U (.raw U U (.pure (Ak fun _=>U) .nil))) ⟨.rfl,.rfl,.rfl,trivial⟩) ?_;exact AF (L:=Xx) ⟨.rfl,.rfl,.rfl,trivial⟩) (AR (by kernel_rfl) ((hA34 _ _ _).1 A34_0239)) rfl
         ·refine A5.of (i:=4) rfl U (by rfl) ?_
          refine zz (i64 c32) (Cf HN U U (ER gc32) rfl) rfl (AB ⟨U,?_⟩)
          exact AH (by refine Wk.trans (AP (L:=(Wh c32)) (st':=[⟨0,49,2,[(AL p0)]⟩,ES]) (st1:=[⟨0,49,2,[(AL p0)]⟩,ES]) [0,1] U .nil (by decide) rfl U (.raw U U (.raw U U .nil)) ⟨.rfl,.rfl,.rfl,trivial⟩) ?_;exact AF (L:=(Wh c32)) ⟨.rfl,.rfl,.rfl,trivial⟩) (AR (by kernel_rfl) ((hA34 _ _ _).1 A34_2349)) rfl)
        have A34_23:A34 10 #[false,false,true,true,false,false,false,false,false,false,false,false] ⟨233,Ad [(3,(.ptr 0 0 0 0)),(110,(.ptr 1 0 (Int.toNat 0) 0))],[⟨0,49,2,[(AL p0)]⟩,(ro 0 3 1 eI l8)]⟩:=(hA34 _ _ _).2 (by
         refine An [0,4,9] U (by kernel_rfl) (by decide) ⟨?_,?_,?_,trivial⟩
         ·refine A5.of (i:=0) rfl U (by rfl) ?_
          refine zq tb U (AB ⟨U,?_⟩)
          exact AH (AF (L:=[(107,(.ptr 0 0 0 0)),(110,(.ptr 1 0 (Int.toNat 0) 0))]) ⟨.rfl,.rfl,trivial⟩) (AR (by kernel_rfl) ((hA34 _ _ _).1 A34_023)) rfl
         ·refine A5.of (i:=4) rfl U (by rfl) ?_
          refine zz (i64 c32) (Cf HN U U (ER gc32) rfl) rfl (AB ⟨U,?_⟩)
          exact AH (by refine Wk.trans (AP (L:=[(3,(.ptr 0 0 0 0)),(111,(i64 c32))]) (st':=[⟨0,49,2,[(AL p0)]⟩]) (st1:=[⟨0,49,2,[(AL p0)]⟩]) [0] U .nil (by decide) rfl U (.raw U U .nil) ⟨.rfl,.rfl,trivial⟩) ?_;exact AF (L:=[(3,(.ptr 0 0 0 0)),(111,(i64 c32))]) ⟨.rfl,.rfl,trivial⟩) (AR (by kernel_rfl) ((hA34 _ _ _).1 A34_234)) rfl
         ·refine A5.of (i:=9) rfl U (by rfl) ?_
          refine Ap (m:=2) (st':=[⟨0,49,2,[(AL p0)]⟩,(ro 0 3 1 eI l8),ES]) Ah B2 U U (AB ⟨U,?_⟩)
          exact AH (by refine Wk.trans (AP (L:=Z7) (st':=[⟨0,49,2,[(AL p0)]⟩,ES,(ro 0 3 1 eI l8)]) (st1:=[⟨0,49,2,[(AL p0)]⟩,ES,(ro 0 3 1 eI l8)]) [0,2,1] U .nil (by decide) rfl U (.raw U U (.raw U U (.pure (Ak fun _=>U) .nil))) ⟨.rfl,.rfl,.rfl,trivial⟩) ?_;exact AF (L:=Z7) ⟨.rfl,.rfl,.rfl,trivial⟩) (AR (by kernel_rfl) ((hA34 _ _ _).1 A34_239)) rfl)
        have A34_29:A34 10 #[false,false,true,false,false,false,false,false,false,true,false,false] ⟨233,Ad [(3,(.ptr 0 0 0 0)),(12,(.ptr 1 0 0 0)),(109,(ow 2 0 l8))],[⟨0,49,2,[(AL p0)]⟩,ES,(ro 0 3 1 eI l8)]⟩:=(hA34 _ _ _).2 (by
         refine An [0,3] U (by kernel_rfl) (by decide) ⟨?_,?_,trivial⟩
         ·refine A5.of (i:=0) rfl U (by rfl) ?_
          refine zq tb U (AB ⟨U,?_⟩)
          exact AH (by refine Wk.trans (AP (L:=[(12,(.ptr 0 0 0 0)),(107,(.ptr 1 0 0 0)),(109,(ow 2 0 l8))]) (st':=[ES,⟨0,49,2,[(AL p0)]⟩,(ro 0 3 1 eI l8)]) (st1:=[ES,⟨0,49,2,[(AL p0)]⟩,(ro 0 3 1 eI l8)]) [1,0,2] U .nil (by decide) rfl U (.raw U U (.raw U U (.pure (Ak fun _=>U) .nil))) ⟨.rfl,.rfl,.rfl,trivial⟩) ?_;exact AF (L:=[(12,(.ptr 0 0 0 0)),(107,(.ptr 1 0 0 0)),(109,(ow 2 0 l8))]) ⟨.rfl,.rfl,.rfl,trivial⟩) (AR (by kernel_rfl) ((hA34 _ _ _).1 A34_029)) rfl
         ·refine A5.of (i:=3) rfl U (by rfl) ?_
          refine zz (.ptr 2 0 (Int.toNat 0) 0) (B8 BN U U U U gc32) rfl (AB ⟨U,?_⟩)
          exact AH (AF (L:=Z7) ⟨.rfl,.rfl,.rfl,trivial⟩) (AR (by kernel_rfl) ((hA34 _ _ _).1 A34_239)) rfl)
        have A34_2:A34 11 #[false,false,true,false,false,false,false,false,false,false,false,false] ⟨233,Ad [(3,(.ptr 0 0 0 0)),(109,(ow 1 0 l8))],[⟨0,49,2,[(AL p0)]⟩,(ro 0 3 1 eI l8)]⟩:=(hA34 _ _ _).2 (by
         refine An [0,3,9] U (by kernel_rfl) (by decide) ⟨?_,?_,?_,trivial⟩
         ·refine A5.of (i:=0) rfl U (by rfl) ?_
          refine zq tb U (AB ⟨U,?_⟩)
          exact AH (AF (L:=[(107,(.ptr 0 0 0 0)),(109,(ow 1 0 l8))]) ⟨.rfl,.rfl,trivial⟩) (AR (by kernel_rfl) ((hA34 _ _ _).1 A34_02)) rfl
         ·refine A5.of (i:=3) rfl U (by rfl) ?_
          refine zz (.ptr 1 0 (Int.toNat 0) 0) (B8 BN U U U U gc32) rfl (AB ⟨U,?_⟩)
          exact AH (AF (L:=[(3,(.ptr 0 0 0 0)),(110,(.ptr 1 0 (Int.toNat 0) 0))]) ⟨.rfl,.rfl,trivial⟩) (AR (by kernel_rfl) ((hA34 _ _ _).1 A34_23)) rfl
         ·refine A5.of (i:=9) rfl U (by rfl) ?_
          refine Ap (m:=2) (st':=[⟨0,49,2,[(AL p0)]⟩,(ro 0 3 1 eI l8),ES]) Ah B2 U U (AB ⟨U,?_⟩)
          exact AH (by refine Wk.trans (AP (L:=[(3,(.ptr 0 0 0 0)),(12,(.ptr 1 0 0 0)),(109,(ow 2 0 l8))]) (st':=[⟨0,49,2,[(AL p0)]⟩,ES,(ro 0 3 1 eI l8)]) (st1:=[⟨0,49,2,[(AL p0)]⟩,ES,(ro 0 3 1 eI l8)]) [0,2,1] U .nil (by decide) rfl U (.raw U U (.raw U U (.pure (Ak fun _=>U) .nil))) ⟨.rfl,.rfl,.rfl,trivial⟩) ?_;exact AF (L:=[(3,(.ptr 0 0 0 0)),(12,(.ptr 1 0 0 0)),(109,(ow 2 0 l8))]) ⟨.rfl,.rfl,.rfl,trivial⟩) (AR (by kernel_rfl) ((hA34 _ _ _).1 A34_29)) rfl)
        have A34_e:A34 12 #[false,false,false,false,false,false,false,false,false,false,false,false] ⟨233,Ad [(3,(.ptr 0 0 0 0)),(8,(ow 1 0 l8))],[⟨0,49,2,[(AL p0)]⟩,(ro 0 3 1 eI l8)]⟩:=(hA34 _ _ _).2 (by
         refine ET 2 (v:=(ow 1 0 l8)) rfl U (by kernel_rfl) (by kernel_rfl) (by kernel_rfl) rfl (F8 U) ?_
         exact AH (AF (L:=[(3,(.ptr 0 0 0 0)),(109,(ow 1 0 l8))]) ⟨.rfl,.rfl,trivial⟩) (AR (by kernel_rfl) ((hA34 _ _ _).1 A34_2)) rfl)
        refine (hA34 _ _ _).2 ?_
        exact AH (AF (L:=[(3,(.ptr 0 0 0 0)),(8,(ow 1 0 l8))]) ⟨.rfl,.rfl,trivial⟩) (AR (by kernel_rfl) ((hA34 _ _ _).1 A34_e)) rfl
       ·intro b30 h1
        exact AI (M25 ok21 (Sh.AA h1).symm _ (Ai _ U))
      refine AJ U (zm tb 2 U ?_)
      rcases Sh.As h2 with ⟨b35,h2⟩ | ⟨b35,h2⟩
      ·refine zg tb b35 U ?_
       iterate 3 refine zg tb b35 rfl ?_
       rcases Sh.As h2 with ⟨b36,h2⟩ | ⟨b36,h2⟩
       ·refine zs b36 U (zs b36 U (zs b36 U (A7 (v:=(.bool true)) (Bb U U b35) rfl (EK U b36 U) (zt b35 U ?_))))
        exact AB (M29 true (Sh.AA h2).symm _ (AP (L:=[(3,(.ptr 0 0 0 0)),(8,(ow 1 0 l8)),(11,(.bool ok21)),(105,(.bool true))]) (st':=[⟨0,49,2,[(AL p0)]⟩,(ro 0 3 1 eI l8)]) (st1:=[⟨0,49,2,[(AL p0)]⟩,(ro 0 3 1 eI l8)]) [0,2] U .nil (by decide) rfl U (.raw U U (.pure (Ak fun _=>U) .nil)) ⟨.rfl,.rfl,.rfl,.rfl,trivial⟩))
       ·refine zg tb b36 U (zg tb b36 U (zg tb b36 U (A7 (v:=(.bool (decide (p2.op=17)))) (Bb U U b35) rfl (EI U b36 U) (zt b35 U ?_))))
        exact AB (M29 (decide (p2.op=17)) (Sh.AA h2).symm _ (AP (L:=[(3,(.ptr 0 0 0 0)),(8,(ow 1 0 l8)),(11,(.bool ok21)),(105,(.bool (decide (p2.op=17))))]) (st':=[⟨0,49,2,[(AL p0)]⟩,(ro 0 3 1 eI l8)]) (st1:=[⟨0,49,2,[(AL p0)]⟩,(ro 0 3 1 eI l8)]) [0,2] U .nil (by decide) rfl U (.raw U U (.pure (Ak fun _=>U) .nil)) ⟨.rfl,.rfl,.rfl,.rfl,trivial⟩))
      ·refine zs b35 U ?_
       iterate 3 refine zs b35 rfl ?_
       iterate 3 refine zn rfl ?_
       refine zs b35 U (zf b35 U ?_)
       exact AB (M29 false (Sh.AA h2).symm _ (AP (L:=[(3,(.ptr 0 0 0 0)),(8,(ow 1 0 l8)),(11,(.bool ok21)),(105,(.bool false))]) (st':=[⟨0,49,2,[(AL p0)]⟩,(ro 0 3 1 eI l8)]) (st1:=[⟨0,49,2,[(AL p0)]⟩,(ro 0 3 1 eI l8)]) [0,2] U .nil (by decide) rfl U (.raw U U (.pure (Ak fun _=>U) .nil)) ⟨.rfl,.rfl,.rfl,.rfl,trivial⟩))
     refine AJ U (zq tb U (zz (i64 (Sh.len l8)) (Ek Ga U U U) rfl (zm tb 2 U ?_)))
     rcases Sh.As h1 with ⟨b37,h1⟩ | ⟨b37,h1⟩
     ·refine zg tb b37 U (bs h1 fun c38 gc38 h1=>A7 (v:=(.ptr 2 0 (Int.toNat 0) 0)) (Bb U U b37) rfl (B8 BN U U U U gc38) (A7 (v:=(i64 c38)) (Bb U U b37) rfl (Cf HN U U (ER gc38) rfl) (zg tb b37 U (zt b37 U (zq tb U ?_)))))
      rcases Sh.As h1 with ⟨b39,h1⟩ | ⟨b39,h1⟩
      ·refine zg tb b39 U (zg tb b39 U (zg tb b39 U (zt b39 U (zq tb U ?_))))
       rcases Sh.As h1 with ⟨b40,h1⟩ | ⟨b40,h1⟩
       ·exact zg tb b40 U (zg tb b40 U (A7 (v:=(i64 (Sh.len p2.kids))) (Bb U U b40) rfl (Bo Rz U) (zg tb b40 U (zt b40 U (zq tb U (AB (M22 (decide ((Sh.len p2.kids)=0)) (Sh.AA h1).symm _ (AN U))))))))
       ·refine zs b40 U ?_
        iterate 3 refine zs b40 rfl ?_
        exact zf b40 U (zq tb U (AB (M22 false (Sh.AA h1).symm _ (AN U))))
      ·refine zs b39 U (zs b39 U (zs b39 U (zf b39 U (zq tb U ?_))))
       iterate 4 refine zs rfl rfl ?_
       exact zf U U (zq tb U (AB (M22 false (Sh.AA h1).symm _ (AN U))))
     ·refine zs b37 U ?_
      iterate 3 refine zs b37 rfl ?_
      refine zf b37 U (zq tb U ?_)
      iterate 3 refine zs rfl rfl ?_
      refine zf U U (zq tb U ?_)
      iterate 4 refine zs rfl rfl ?_
      exact zf U U (zq tb U (AB (M22 false (Sh.AA h1).symm _ (AN U))))
    ·intro b19 h0
     refine zr tb U U ?_
     refine ci h0 U ?_ ?_ <;> clear h0
     ·intro b42 h0
      refine AE fun K43 hK43=>AE fun K44 hK44=>bs h0 fun o46 h1 h0=>?_
      have M46 :∀(t45:Bool),o46=t45→∀s,Wk 0 s ⟨233,Ad [(1,(ls eI p1)),(3,(.ptr 0 0 0 0)),(5,(.ptr 1 0 0 0)),(141,(.bool t45))],[⟨0,49,2,[(AL p0)]⟩,(HM p2)]⟩→K44 s:=by
       intro t45 hq s hw
       subst o46
       try dsimp only at h0
       refine hK44 _ (AS hw ?_)
       refine ci h0 U ?_ ?_ <;> clear h0
       ·intro b47 h0
        refine zr tb U U ?_
        replace h0:=Sh.AA h0
        subst r
        exact AK (xr (Ai [(6,(i64 (-1))),(7,(.bool false))] U))
       ·intro b47 h0
        refine AI (hK43 _ (AE fun K49 hK49=>?_))
        refine CJ 9 (by kernel_rfl) (by kernel_rfl) (by rfl) ?_
        iterate 4 refine yq tb rfl ?_
        refine bs h0 fun l50 gl50 h0=>dp (enc:=(eS eI)) (u:=[]) Ah Mn U U U gl50 (Ak fun _=>U) (bs h0 fun q51 gq51 h0=>CR (v:=(.BZ [(i64 q51.1),(.bool q51.2)])) Ah YN (Gb hrec_impl_signatures_blockType gq51) rfl U U ?_)
        iterate 3 refine yq tb rfl ?_
        refine BS (zq tb U (dn hK49 U ?_))
        replace h0:=Sh.AA h0
        subst r
        exact AK (xr (Ai [(6,(i64 q51.1)),(7,(.bool q51.2))] U))
      refine AJ U (zq tb U (zz (i64 (Sh.len l8)) (Ek Ga U U U) rfl (zm tb 2 U ?_)))
      rcases Sh.As h1 with ⟨b52,h1⟩ | ⟨b52,h1⟩
      ·refine zs b52 U ?_
       iterate 3 refine zs b52 rfl ?_
       refine zt b52 U (zq tb U ?_)
       iterate 3 refine zs rfl rfl ?_
       refine zt U U (zq tb U ?_)
       iterate 4 refine zs rfl rfl ?_
       refine zt U U ?_
       exact AB (M46 true (Sh.AA h1).symm _ (AP (L:=(ax p1)) (st':=[⟨0,49,2,[(AL p0)]⟩,(HM p2)]) (st1:=[⟨0,49,2,[(AL p0)]⟩,(HM p2)]) [0,1] U .nil (by decide) rfl U (.raw U U (.raw U U .nil)) ⟨.rfl,.rfl,.rfl,.rfl,trivial⟩))
      ·refine zg tb b52 U (bs h1 fun c53 gc53 h1=>A7 (v:=(.ptr 2 0 (Int.toNat 0) 0)) (Bb U U b52) rfl (B8 BN U U U U gc53) (A7 (v:=(i64 c53)) (Bb U U b52) rfl (Cf HN U U (ER gc53) rfl) (zg tb b52 U (zf b52 U (zq tb U ?_)))))
       rcases Sh.As h1 with ⟨b54,h1⟩ | ⟨b54,h1⟩
       ·refine zs b54 U (zs b54 U (zs b54 U (zt b54 U (zq tb U ?_))))
        iterate 4 refine zs rfl rfl ?_
        refine zt U U ?_
        exact AB (M46 true (Sh.AA h1).symm _ (AP (L:=(ax p1)) (st':=[⟨0,49,2,[(AL p0)]⟩,(HM p2)]) (st1:=[⟨0,49,2,[(AL p0)]⟩,(HM p2)]) [0,1] U .nil (by decide) rfl U (.raw U U (.raw U U .nil)) ⟨.rfl,.rfl,.rfl,.rfl,trivial⟩))
       ·refine zg tb b54 U (zg tb b54 U (zg tb b54 U (zf b54 U (zq tb U ?_))))
        rcases Sh.As h1 with ⟨b55,h1⟩ | ⟨b55,h1⟩
        ·refine zs b55 U ?_
         iterate 3 refine zs b55 rfl ?_
         refine zt b55 U ?_
         exact AB (M46 true (Sh.AA h1).symm _ (AP (L:=(ax p1)) (st':=[⟨0,49,2,[(AL p0)]⟩,(HM p2)]) (st1:=[⟨0,49,2,[(AL p0)]⟩,(HM p2)]) [0,1] U .nil (by decide) rfl U (.raw U U (.raw U U .nil)) ⟨.rfl,.rfl,.rfl,.rfl,trivial⟩))
        ·refine zg tb b55 U (zg tb b55 U (A7 (v:=(i64 (Sh.len p2.kids))) (Bb U U b55) rfl (Bo Rz U) (zg tb b55 U (zf b55 U ?_))))
         exact AB (M46 (!decide ((Sh.len p2.kids)=2)) (Sh.AA h1).symm _ (AP (L:=[(1,(ls eI p1)),(3,(.ptr 0 0 0 0)),(5,(.ptr 1 0 0 0)),(141,(.bool (!decide ((Sh.len p2.kids)=2))))]) (st':=[⟨0,49,2,[(AL p0)]⟩,(HM p2)]) (st1:=[⟨0,49,2,[(AL p0)]⟩,(HM p2)]) [0,1] U .nil (by decide) rfl U (.raw U U (.raw U U .nil)) ⟨.rfl,.rfl,.rfl,.rfl,trivial⟩))
     ·intro b42 h0
      refine zr tb U U ?_
      refine ci h0 U ?_ ?_ <;> clear h0
      ·intro b57 h0
       refine sr U fun K58 hK58=>zm tb 3 U (bs h0 fun q59 gq59 h0=>BW (v':=(ow 3 0 q59)) (st':=[⟨0,49,2,[(AL p0)]⟩,(HM p2),(ro 0 3 1 eI l8),(ro 0 37 1 (eS eI) q59)]) Ah de (JK gq59) rfl U ⟨(Bf fun _=>U),trivial⟩ U U (zq tb U (dn hK58 U (AE fun K60 hK60=>AE fun K61 hK61=>bs h0 fun o63 h1 h0=>?_))))
       have M63 :∀(t62:Bool),o63=t62→∀s,Wk 0 s ⟨233,Ad [(1,(ls eI p1)),(3,(.ptr 0 0 0 0)),(5,(.ptr 1 0 0 0)),(14,(ow 2 0 q59)),(181,(.bool t62))],[⟨0,49,2,[(AL p0)]⟩,(HM p2),(ro 0 37 1 (eS eI) q59)]⟩→K61 s:=by
        intro t62 hq s hw
        subst o63
        try dsimp only at h0
        refine hK61 _ (AS hw ?_)
        refine ci h0 U ?_ ?_ <;> clear h0
        ·intro b64 h0
         refine zr tb U U ?_
         replace h0:=Sh.AA h0
         subst r
         exact AK (xr (Ai [(6,(i64 (-1))),(7,(.bool false))] U))
        ·intro b64 h0
         refine AI (hK60 _ (sr U fun K66 hK66=>zm tb 5 U (Az (Wk.E5 (L:=[(182,(.agg (AL p0))),(183,(ls eI p1)),(185,(ls A2 p2.kids)),(186,(ls (eS eI) q59))]) (st':=[⟨0,49,2,[(AL p0)]⟩,(HM p2),⟨1,37,1,[]⟩]) (id:=2) rfl (show 0≤2 by decide) (Ak fun _=>U) ⟨.rfl,.rfl,.rfl,(.E5 U),trivial⟩ U) (bs h0 fun q67 gq67 h0=>zc (v':=(.BZ [(i64 q67.1),(.bool q67.2)])) YN (Gb hrec_impl_signatures_blockType gq67) rfl U U (zm tb 4 U (dn hK66 U ?_))))))
         replace h0:=Sh.AA h0
         subst r
         exact AK (xr (Ai [(6,(i64 q67.1)),(7,(.bool q67.2))] U))
       refine Bz (by kernel_rfl) (by kernel_rfl) (by rfl) ?_
       refine yq tb U (yz (i64 (Sh.len l8)) (Ek Ga U U U) rfl ?_)
       iterate 2 refine yq tb rfl ?_
       rcases Sh.As h1 with ⟨b68,h1⟩ | ⟨b68,h1⟩
       ·refine ys b68 U ?_
        iterate 5 refine ys b68 rfl ?_
        refine yt b68 U (yq tb U ?_)
        iterate 3 refine ys rfl rfl ?_
        refine yt U U (yq tb U ?_)
        iterate 6 refine ys rfl rfl ?_
        refine yt U U ?_
        exact BS (M63 true (Sh.AA h1).symm _ (AP (L:=[(1,(ls eI p1)),(3,(.ptr 0 0 0 0)),(5,(.ptr 1 0 0 0)),(14,(ow 2 0 q59)),(181,(.bool true))]) (st':=[⟨0,49,2,[(AL p0)]⟩,(HM p2),(ro 0 37 1 (eS eI) q59)]) (st1:=[⟨0,49,2,[(AL p0)]⟩,(HM p2),(ro 0 37 1 (eS eI) q59)]) [0,1,3] U .nil (by decide) rfl U (.raw U U (.raw U U (.pure (Ak fun _=>U) .nil))) ⟨.rfl,.rfl,.rfl,.rfl,.rfl,trivial⟩))
       ·refine yg tb b68 U (bs h1 fun c69 gc69 h1=>H3 (v:=(.ptr 2 0 (Int.toNat 0) 0)) (Bb U U b68) rfl (B8 BN U U U U gc69) (H3 (v:=(i64 c69)) (Bb U U b68) rfl (Cf HN U U (ER gc69) rfl) ?_))
        iterate 3 refine yg tb b68 rfl ?_
        refine yf b68 U (yq tb U ?_)
        rcases Sh.As h1 with ⟨b70,h1⟩ | ⟨b70,h1⟩
        ·refine ys b70 U ?_
         iterate 2 refine ys b70 rfl ?_
         refine yt b70 U (yq tb U ?_)
         iterate 6 refine ys rfl rfl ?_
         refine yt U U ?_
         exact BS (M63 true (Sh.AA h1).symm _ (AP (L:=[(1,(ls eI p1)),(3,(.ptr 0 0 0 0)),(5,(.ptr 1 0 0 0)),(14,(ow 2 0 q59)),(181,(.bool true))]) (st':=[⟨0,49,2,[(AL p0)]⟩,(HM p2),(ro 0 37 1 (eS eI) q59)]) (st1:=[⟨0,49,2,[(AL p0)]⟩,(HM p2),(ro 0 37 1 (eS eI) q59)]) [0,1,3] U .nil (by decide) rfl U (.raw U U (.raw U U (.pure (Ak fun _=>U) .nil))) ⟨.rfl,.rfl,.rfl,.rfl,.rfl,trivial⟩))
        ·refine yg tb b70 U (H3 (v:=(i64 (Sh.len q59))) (Bb U U b70) rfl (Ek aD U U U) (yg tb b70 U (yf b70 U (yq tb U ?_))))
         rcases Sh.As h1 with ⟨b71,h1⟩ | ⟨b71,h1⟩
         ·refine ys b71 U ?_
          iterate 5 refine ys b71 rfl ?_
          refine yt b71 U ?_
          exact BS (M63 true (Sh.AA h1).symm _ (AP (L:=[(1,(ls eI p1)),(3,(.ptr 0 0 0 0)),(5,(.ptr 1 0 0 0)),(14,(ow 2 0 q59)),(181,(.bool true))]) (st':=[⟨0,49,2,[(AL p0)]⟩,(HM p2),(ro 0 37 1 (eS eI) q59)]) (st1:=[⟨0,49,2,[(AL p0)]⟩,(HM p2),(ro 0 37 1 (eS eI) q59)]) [0,1,3] U .nil (by decide) rfl U (.raw U U (.raw U U (.pure (Ak fun _=>U) .nil))) ⟨.rfl,.rfl,.rfl,.rfl,.rfl,trivial⟩))
         ·refine yg tb b71 U (yg tb b71 U (H3 (v:=(i64 (Sh.len p2.kids))) (Bb U U b71) rfl (Bo Rz U) (yg tb b71 U (H3 (v:=(i64 (Sh.len q59))) (Bb U U b71) rfl (Ek aD U U U) (yg tb b71 U (yf b71 U ?_))))))
          exact BS (M63 (!decide ((Sh.len p2.kids)=(Sh.len q59))) (Sh.AA h1).symm _ (AP (L:=[(1,(ls eI p1)),(3,(.ptr 0 0 0 0)),(5,(.ptr 1 0 0 0)),(14,(ow 2 0 q59)),(181,(.bool (!decide ((Sh.len p2.kids)=(Sh.len q59)))))]) (st':=[⟨0,49,2,[(AL p0)]⟩,(HM p2),(ro 0 37 1 (eS eI) q59)]) (st1:=[⟨0,49,2,[(AL p0)]⟩,(HM p2),(ro 0 37 1 (eS eI) q59)]) [0,1,3] U .nil (by decide) rfl U (.raw U U (.raw U U (.pure (Ak fun _=>U) .nil))) ⟨.rfl,.rfl,.rfl,.rfl,.rfl,trivial⟩))
      ·intro b57 h0
       refine AE fun K72 hK72=>bs h0 fun o74 h1 h0=>?_
       have M74 :∀(t73:Bool),o74=t73→∀s,Wk 0 s ⟨233,Ad [(3,(.ptr 0 0 0 0)),(5,(.ptr 1 0 0 0)),(8,(ow 2 0 l8)),(190,(.bool t73))],[⟨0,49,2,[(AL p0)]⟩,(HM p2),(ro 0 3 1 eI l8)]⟩→K72 s:=by
        intro t73 hq s hw
        subst o74
        try dsimp only at h0
        refine hK72 _ (AS hw ?_)
        refine ci h0 U ?_ ?_ <;> clear h0
        ·intro b75 h0
         refine zr tb U U ?_
         replace h0:=Sh.AA h0
         subst r
         exact AK (xr (Ai [(6,(i64 (-1))),(7,(.bool false))] U))
        ·intro b75 h0
         refine AI (hK16 _ (sr U fun K77 hK77=>zm tb 6 U (Az (Wk.E5 (L:=[(224,(.agg (AL p0))),(226,(i64 p2.op)),(228,(i64 p2.num)),(229,(ls eI l8))]) (st':=[⟨0,49,2,[(AL p0)]⟩,(HM p2),⟨1,3,1,[]⟩]) (id:=2) rfl (show 0≤2 by decide) (Ak fun _=>U) ⟨.rfl,.rfl,.rfl,(.E5 U),trivial⟩ U) (bs h0 fun q78 gq78 h0=>zc (v':=(.BZ [(i64 q78.1),(.bool q78.2)])) bq (I2 gq78) rfl U U (zm tb 4 U (dn hK77 U ?_))))))
         replace h0:=Sh.AA h0
         subst r
         exact AK (xr (Ai [(6,(i64 q78.1)),(7,(.bool q78.2))] U))
       refine AJ U (zm tb 2 U (zl tb U U (zm tb 2 U ?_)))
       rcases Sh.As h1 with ⟨b79,h1⟩ | ⟨b79,h1⟩
       ·refine zs b79 U ?_
        iterate 3 refine zs b79 rfl ?_
        iterate 3 refine zn rfl ?_
        refine zs b79 U (zs b79 U ?_)
        iterate 6 refine zn rfl ?_
        refine zs b79 U (zs b79 U ?_)
        iterate 9 refine zn rfl ?_
        exact zs b79 U (zt b79 U (zq tb U (AB (M74 true (Sh.AA h1).symm _ (AN U)))))
       ·refine zg tb b79 U ?_
        iterate 3 refine zg tb b79 rfl ?_
        rcases Sh.As h1 with ⟨b80,h1⟩ | ⟨b80,h1⟩
        ·refine zg tb b80 U (zg tb b80 U (zg tb b80 U (A7 (v:=(.bool (decide (0≤p2.num)))) (Bb U U b79) rfl (EK U b80 U) (zg tb b79 U ?_))))
         rcases Sh.As h1 with ⟨b81,h1⟩ | ⟨b81,h1⟩
         ·refine zg tb b81 U ?_
          iterate 3 refine zg tb b81 rfl ?_
          refine A7 (v:=(i64 (Sh.len p0.funcs))) (Bb U U b81) rfl (Bo WQ U) (zg tb b81 U (A7 (v:=(.bool (decide (p2.num < (Sh.len p0.funcs))))) (Bb U U b79) rfl (EK U b81 U) (zg tb b79 U ?_)))
          rcases Sh.As h1 with ⟨b82,h1⟩ | ⟨b82,h1⟩
          ·refine zg tb b82 U ?_
           iterate 3 refine zg tb b82 rfl ?_
           exact bs h1 fun c83 gc83 h1=>A7 (v:=(.BF (BE c83) 0)) (Bb U U b82) rfl (CL QZ U U gc83 U) (zg tb b82 U (zg tb b82 U (A7 (v:=(i64 (Sh.len c83.At))) (Bb U U b82) rfl (Bo Ga U) (zg tb b82 U (A7 (v:=(.bool (decide (0 < (Sh.len c83.At))))) (Bb U U b79) rfl (EK U b82 U) (zf b79 U (zq tb U (AB (M74 (decide (0 < (Sh.len c83.At))) (Sh.AA h1).symm _ (AN U))))))))))
          ·refine zs b82 U ?_
           iterate 8 refine zs b82 rfl ?_
           exact A7 (v:=(.bool false)) (Bb U U b79) rfl (EI U b82 U) (zf b79 U (zq tb U (AB (M74 false (Sh.AA h1).symm _ (AN U)))))
         ·refine zs b81 U ?_
          iterate 5 refine zs b81 rfl ?_
          refine A7 (v:=(.bool false)) (Bb U U b79) rfl (EI U b81 U) (zg tb b79 U ?_)
          iterate 9 refine zs rfl rfl ?_
          exact A7 (v:=(.bool false)) (Bb U U b79) rfl (EI U U U) (zf b79 U (zq tb U (AB (M74 false (Sh.AA h1).symm _ (AN U)))))
        ·refine zs b80 U (zs b80 U (zs b80 U (A7 (v:=(.bool false)) (Bb U U b79) rfl (EI U b80 U) (zg tb b79 U ?_))))
         iterate 6 refine zs rfl rfl ?_
         refine A7 (v:=(.bool false)) (Bb U U b79) rfl (EI U U U) (zg tb b79 U ?_)
         iterate 9 refine zs rfl rfl ?_
         exact A7 (v:=(.bool false)) (Bb U U b79) rfl (EI U U U) (zf b79 U (zq tb U (AB (M74 false (Sh.AA h1).symm _ (AN U)))))
  refine AJ U (zm tb 4 U ?_)
  rcases Sh.As h1 with ⟨b84,h1⟩ | ⟨b84,h1⟩
  ·refine zg tb b84 U ?_
   iterate 3 refine zg tb b84 rfl ?_
   rcases Sh.As h1 with ⟨b85,h1⟩ | ⟨b85,h1⟩
   ·refine zs b85 U (zs b85 U (zs b85 U (A7 (v:=(.bool true)) (Bb U U b84) rfl (EK U b85 U) (zg tb b84 U ?_))))
    iterate 5 refine zs rfl rfl ?_
    refine A7 (v:=(.bool true)) (Bb U U b84) rfl (EK U U U) (zg tb b84 U ?_)
    iterate 7 refine zs rfl rfl ?_
    exact A7 (v:=(.bool true)) (Bb U U b84) rfl (EK U U U) (zt b84 U (AB (M13 true (Sh.AA h1).symm _ (AN U))))
   ·refine zg tb b85 U (zg tb b85 U (zg tb b85 U (A7 (v:=(.bool (decide (p2.Ax < 1)))) (Bb U U b84) rfl (EI U b85 U) (zg tb b84 U ?_))))
    rcases Sh.As h1 with ⟨b86,h1⟩ | ⟨b86,h1⟩
    ·refine zs b86 U ?_
     iterate 4 refine zs b86 rfl ?_
     refine A7 (v:=(.bool true)) (Bb U U b84) rfl (EK U b86 U) (zg tb b84 U ?_)
     iterate 7 refine zs rfl rfl ?_
     exact A7 (v:=(.bool true)) (Bb U U b84) rfl (EK U U U) (zt b84 U (AB (M13 true (Sh.AA h1).symm _ (AN U))))
    ·refine zg tb b86 U (zg tb b86 U (zg tb b86 U (A7 (v:=(i64 (Sh.len p1))) (Bb U U b86) rfl (Bo Ga U) (zg tb b86 U (A7 (v:=(.bool (decide ((Sh.len p1) < p2.Ax)))) (Bb U U b84) rfl (EI U b86 U) (zg tb b84 U ?_))))))
     rcases Sh.As h1 with ⟨b87,h1⟩ | ⟨b87,h1⟩
     ·refine zs b87 U ?_
      iterate 6 refine zs b87 rfl ?_
      exact A7 (v:=(.bool true)) (Bb U U b84) rfl (EK U b87 U) (zt b84 U (AB (M13 true (Sh.AA h1).symm _ (AN U))))
     ·refine zg tb b87 U ?_
      iterate 3 refine zg tb b87 rfl ?_
      exact bs h1 fun c88 gc88 h1=>A7 (v:=(.BF (eI c88) 0)) (Bb U U b87) rfl (CL BN U U gc88 U) (zg tb b87 U (zg tb b87 U (A7 (v:=(.bool (decide (c88=0)))) (Bb U U b84) rfl (EI U b87 U) (zt b84 U (AB (M13 (decide (c88=0)) (Sh.AA h1).symm _ (AN U)))))))
  ·refine zs b84 U ?_
   iterate 3 refine zs b84 rfl ?_
   iterate 3 refine zn rfl ?_
   refine zs b84 U (zs b84 U ?_)
   iterate 5 refine zn rfl ?_
   refine zs b84 U (zs b84 U ?_)
   iterate 7 refine zn rfl ?_
   exact zs b84 U (zf b84 U (AB (M13 false (Sh.AA h1).symm _ (AN U))))
 refine Aa (Au (σ:=Int×(List Int)) (fun n v=>BP p1 p2 n v.1 v.2=some o9) (fun (t6,l7)=>⟨233,Ad [(1,(ls eI p1)),(3,(.ptr 0 0 0 0)),(5,(.ptr 1 0 0 0)),(8,(ow 2 0 l7)),(20,(ls eI p2.args)),(21,(i64 (Sh.len p2.args))),(22,(i64 t6))],[⟨0,49,2,[(AL p0)]⟩,(HM p2),(ro 0 3 1 eI l7)]⟩) N (0,[]) h1 (AN U) (fun _ hv=>by rw[BP] at hv;cases hv) ?_)
 rintro n ⟨t6,l7⟩ h1
 try dsimp only at h1 ⊢
 rw[BP] at h1
 refine zr tb U U (AE fun K90 hK90=>?_)
 refine ci h1 U ?_ ?_ <;> clear h1
 ·intro b91 h1
  refine AI (hK90 _ (AE fun K92 hK92=>Aa (sr U fun K93 hK93=>bs h1 fun c94 gc94 h1=>zx BN gc94 U U U (zm tb 2 U (dn hK93 U (AE fun K95 hK95=>AE fun K96 hK96=>bs h1 fun o98 h2 h1=>?_))))))
  have M98 :∀(t97:Bool),o98=t97→∀s,Wk 0 s ⟨233,Ad [(1,(ls eI p1)),(3,(.ptr 0 0 0 0)),(5,(.ptr 1 0 0 0)),(8,(ow 2 0 l7)),(10,(i64 c94)),(20,(ls eI p2.args)),(21,(i64 (Sh.len p2.args))),(22,(i64 t6)),(33,(.bool t97))],[⟨0,49,2,[(AL p0)]⟩,(HM p2),(ro 0 3 1 eI l7)]⟩→K96 s:=by
   intro t97 hq s hw
   subst o98
   try dsimp only at h1
   refine hK96 _ (AS hw ?_)
   refine ci h1 U ?_ ?_ <;> clear h1
   ·intro b99 h1
    refine zr tb U U ?_
    replace h1:=Sh.AA h1
    subst o9
    try dsimp only[id] at h0
    replace h0:=Sh.AA h0
    subst r
    exact AK (xr (Ai [(6,(i64 (-1))),(7,(.bool false))] U))
   ·intro b99 h1
    refine AI (hK95 _ (AJ U (zm tb 3 U (bs h1 fun c101 gc101 h1=>zx BN gc101 U U U (zq tb U ?_)))))
    refine DV (m:=3) (st':=[⟨0,49,2,[(AL p0)]⟩,(HM p2),(ro 0 3 1 eI l7),(ro 0 3 1 eI [c101])]) (l:=[c101]) (enc:=eI) Ah BN (by decide) rfl U U U U U ?_
    refine bs h1 fun l102 gl102 h1=>Eg (st':=[⟨0,49,2,[(AL p0)]⟩,(HM p2),(ro 1 3 1 eI l102),(ro 0 3 1 eI [c101])]) (l2:=[c101]) Ah BN U U U U (N0 U U) (fun _=>U) gl102 U (zq tb U (dn hK92 U (AJ U (zm tb 2 U ?_))))
    exact AB (xi (Sh.w (t6+1),l102) h1 (by refine Wk.trans (Cz (L:=[(1,(ls eI p1)),(3,(.ptr 0 0 0 0)),(5,(.ptr 1 0 0 0)),(8,(ow 2 0 l102)),(20,(ls eI p2.args)),(21,(i64 (Sh.len p2.args))),(22,(i64 (Sh.w (t6+1))))]) (st':=[⟨0,49,2,[(AL p0)]⟩,(HM p2),(ro 0 3 1 eI l102),(ro 0 3 1 eI [c101])]) (.raw U U (.raw U U (.pure (Ak fun _=>U) (.pure (Ak fun _=>U) .nil)))) ⟨.rfl,.rfl,.rfl,.rfl,.rfl,.rfl,.rfl,trivial⟩) ?_;exact AP (L:=[(1,(ls eI p1)),(3,(.ptr 0 0 0 0)),(5,(.ptr 1 0 0 0)),(8,(ow 2 0 l102)),(20,(ls eI p2.args)),(21,(i64 (Sh.len p2.args))),(22,(i64 (Sh.w (t6+1))))]) (st':=[⟨0,49,2,[(AL p0)]⟩,(HM p2),(ro 0 3 1 eI l102)]) (st1:=[⟨0,49,2,[(AL p0)]⟩,(HM p2),(ro 0 3 1 eI l102)]) [0,1,2] U .nil (by decide) rfl U (.raw U U (.raw U U (.pure (Ak fun _=>U) .nil))) ⟨.rfl,.rfl,.rfl,.rfl,.rfl,.rfl,.rfl,trivial⟩))
  refine AJ U (zm tb 3 U ?_)
  rcases Sh.As h2 with ⟨b103,h2⟩ | ⟨b103,h2⟩
  ·refine zs b103 U ?_
   iterate 3 refine zs b103 rfl ?_
   exact zt b103 U (AB (M98 true (Sh.AA h2).symm _ (AN U)))
  ·exact zg tb b103 U (zg tb b103 U (A7 (v:=(i64 (Sh.len p1))) (Bb U U b103) rfl (Bo Ga U) (zg tb b103 U (zf b103 U (AB (M98 (decide ((Sh.len p1)≤c94)) (Sh.AA h2).symm _ (AN U)))))))
 ·intro b91 h1
  exact Ay (M9 l7 (Sh.AA h1).symm _ (AN U))
noncomputable abbrev Ir (p2:Block):Go.Abs.Row:=⟨0,55,2,[[(ls Al p2.steps),(i64 p2.result)]]⟩
theorem Iq {N:Nat} {rec_impl_signatures_blockType:A1→(List Int)→Block→Option (Int)} (hrec_impl_signatures_blockType :∀{p0:A1} {p1:(List Int)} {p2:Block} {r:Int},rec_impl_signatures_blockType p0 p1 p2=some r→Ae Tryz.prog 102 [(.agg (AL p0)),(ls eI p1),(.agg [(ls Al p2.steps),(i64 p2.result)])] [] (fun v st=>v=(i64 r)∧st=[])) {p0:A1} {p1:(List Int)} {p2:Block} {r:Int} (h0:CH N rec_impl_signatures_blockType p0 p1 p2=some r):Ae Tryz.prog 102 [(.agg (AL p0)),(ls eI p1),(.agg [(ls Al p2.steps),(i64 p2.result)])] [] (fun v st=>v=(i64 r)∧st=[]):=by
 unfold CH at h0
 refine ai Tryz.func102 U U U U (sr U fun K1 hK1=>BI (m:=0) (st':=[⟨0,49,2,[(AL p0)]⟩]) Ah U U U U U (BI (m:=1) (st':=[⟨0,49,2,[(AL p0)]⟩,(Ir p2)]) Ah U U U U U (zq tb U (dn hK1 U (sr U fun K2 hK2=>zq tb U (bs h0 fun q3 gq3 h0=>BW (v':=(ow 2 0 q3)) (st':=[⟨0,49,2,[(AL p0)]⟩,(Ir p2),(ro 0 3 1 eI q3)]) Ah Mx (BY gq3) rfl U ⟨(Bf fun _=>U),trivial⟩ U U (zq tb U (dn hK2 U ?_))))))))
 refine AE fun K4 hK4=>sr U fun K5 hK5=>zm tb 2 U (zl tb U U (zq tb U (dn hK5 U ?_)))
 obtain⟨o9,h1,h0⟩:=Sh.A8 h0
 have M9 :∀(l8:(List Int)),o9=Sum.inr l8→∀s,Wk 0 s ⟨54,Ad [(5,(.ptr 0 0 0 0)),(7,(ow 1 0 l8))],[(Ir p2),(ro 0 3 1 eI l8)]⟩→K4 s:=by
  intro l8 hq s hw
  subst o9
  try dsimp only at h0
  refine hK4 _ (AS hw (AE fun K10 hK10=>AE fun K11 hK11=>bs h0 fun o13 h1 h0=>?_))
  have M13 :∀(t12:Bool),o13=t12→∀s,Wk 0 s ⟨54,Ad [(5,(.ptr 0 0 0 0)),(7,(ow 1 0 l8)),(48,(.bool t12))],[(Ir p2),(ro 0 3 1 eI l8)]⟩→K11 s:=by
   intro t12 hq s hw
   subst o13
   try dsimp only at h0
   refine hK11 _ (AS hw ?_)
   refine ci h0 U ?_ ?_ <;> clear h0
   ·intro b14 h0
    refine zr tb U U ?_
    replace h0:=Sh.AA h0
    subst r
    exact AK (xr (Ai [(6,(i64 (-1)))] U))
   ·intro b14 h0
    refine AI (hK10 _ (sr U fun K16 hK16=>zm tb 3 U (bs h0 fun c17 gc17 h0=>zz (.ptr 1 0 (Int.toNat p2.result) 0) (B8 BN U U U U gc17) rfl (zz (i64 c17) (Cf HN U U (ER gc17) rfl) rfl (zq tb U (dn hK16 U ?_))))))
    replace h0:=Sh.AA h0
    subst r
    exact AK (xr (Ai [(6,(i64 c17))] U))
  refine AJ U (zm tb 4 U ?_)
  rcases Sh.As h1 with ⟨b18,h1⟩ | ⟨b18,h1⟩
  ·refine zs b18 U ?_
   iterate 4 refine zs b18 rfl ?_
   exact zt b18 U (AB (M13 true (Sh.AA h1).symm _ (AN U)))
  ·exact zg tb b18 U (zg tb b18 U (zg tb b18 U (A7 (v:=(i64 (Sh.len l8))) (Bb U U b18) rfl (Ek Ga U U U) (zg tb b18 U (zf b18 U (AB (M13 (decide ((Sh.len l8)≤p2.result)) (Sh.AA h1).symm _ (AN U))))))))
 refine Aa (Au (σ:=Int×(List Int)) (fun n v=>BG N p0 p2 rec_impl_signatures_blockType n v.1 v.2=some o9) (fun (t6,l7)=>⟨54,Ad [(3,(.ptr 0 0 0 0)),(5,(.ptr 1 0 0 0)),(7,(ow 2 0 l7)),(15,(ls Al p2.steps)),(16,(i64 (Sh.len p2.steps))),(17,(i64 t6))],[⟨0,49,2,[(AL p0)]⟩,(Ir p2),(ro 0 3 1 eI l7)]⟩) N (0,q3) h1 (AN U) (fun _ hv=>by rw[BG] at hv;cases hv) ?_)
 rintro n ⟨t6,l7⟩ h1
 try dsimp only at h1 ⊢
 rw[BG] at h1
 refine zr tb U U (AE fun K20 hK20=>?_)
 refine ci h1 U ?_ ?_ <;> clear h1
 ·intro b21 h1
  refine AI (hK20 _ (AE fun K22 hK22=>?_))
  obtain⟨o24,h2,h1⟩:=Sh.A8 h1
  have M24 :∀(l23:(List Int)),o24=Sum.inr l23→∀s,Wk 0 s ⟨54,Ad [(3,(.ptr 0 0 0 0)),(5,(.ptr 1 0 0 0)),(7,(ow 2 0 l23)),(15,(ls Al p2.steps)),(16,(i64 (Sh.len p2.steps))),(17,(i64 t6))],[⟨0,49,2,[(AL p0)]⟩,(Ir p2),(ro 0 3 1 eI l23)]⟩→K22 s:=by
   intro l23 hq s hw
   subst o24
   try dsimp only at h1
   exact hK22 _ (AS hw (AJ U (zm tb 2 U (AB (xi (Sh.w (t6+1),l23) h1 (AN U))))))
  refine Aa (sr U fun K25 hK25=>bs h2 fun c26 gc26 h2=>zz (.BF [(i64 c26.op),(i64 c26.num),(i64 c26.Ax),(ls eI c26.args),(ls A2 c26.kids)] 0) (Di FD U U gc26 (Bw _) rfl) rfl (zq tb U (Ap (m:=3) (st':=[⟨0,49,2,[(AL p0)]⟩,(Ir p2),(ro 0 3 1 eI l7),⟨0,71,5,[[(i64 0),(i64 0),(i64 0),.zc,.zc]]⟩]) Ah Np U U (A3 (st':=[⟨0,49,2,[(AL p0)]⟩,(Ir p2),(ro 0 3 1 eI l7),⟨0,71,5,[[(i64 c26.op),(i64 c26.num),(i64 c26.Ax),(ls eI c26.args),(ls A2 c26.kids)]]⟩]) Ah KZ U U U U U U (show 0+5≤5 by decide) rfl (dn hK25 U (sr U fun K27 hK27=>zm tb 3 U (bs h2 fun q28 gq28 h2=>I4 (v':=(.BZ [(i64 q28.1),(.bool q28.2)])) (st':=[⟨0,49,2,[(AL p0)]⟩,(Ir p2),(ro 0 3 1 eI l7),⟨0,71,5,[[(i64 c26.op),(i64 c26.num),(i64 c26.Ax),(ls eI c26.args),(ls A2 c26.kids)]]⟩]) Ah dT (Jc hrec_impl_signatures_blockType gq28) rfl (.val U (.own U U (fun _=>U) (.val U .nil))) rfl trivial U U ?_)))))))
  refine zm tb 5 U (dn hK27 U (AE fun K29 hK29=>zr tb U U ?_))
  refine ci h2 U ?_ ?_ <;> clear h2
  ·intro b31 h2
   have b32:q28.2=false:=by simpa using b31
   refine zr tb U U ?_
   replace h2:=Sh.AA h2
   subst o24
   try dsimp only[id] at h1
   replace h1:=Sh.AA h1
   subst o9
   try dsimp only[id] at h0
   replace h0:=Sh.AA h0
   subst r
   exact AK (xr (Ai [(6,(i64 (-1)))] U))
  ·intro b31 h2
   have b34:q28.2=true:=by simpa using b31
   refine AI (hK29 _ (sr U fun K35 hK35=>zm tb 2 U (bs h2 fun q36 gq36 h2=>zc Wd (Fu gq36) rfl U U (zq tb U (dn hK35 U ?_)))))
   refine ci h2 U ?_ ?_ <;> clear h2
   ·intro b37 h2
    have b38:q36=false:=by simpa using b37
    refine AJ U (zm tb 2 U ?_)
    refine DV (m:=4) (st':=[⟨0,49,2,[(AL p0)]⟩,(Ir p2),(ro 0 3 1 eI l7),⟨0,71,5,[[(i64 c26.op),(i64 c26.num),(i64 c26.Ax),(ls eI c26.args),(ls A2 c26.kids)]]⟩,(ro 0 3 1 eI [q28.1])]) (l:=[q28.1]) (enc:=eI) Ah BN (by decide) rfl U U U U U ?_
    refine bs h2 fun l39 gl39 h2=>Eg (st':=[⟨0,49,2,[(AL p0)]⟩,(Ir p2),(ro 1 3 1 eI l39),⟨0,71,5,[[(i64 c26.op),(i64 c26.num),(i64 c26.Ax),(ls eI c26.args),(ls A2 c26.kids)]]⟩,(ro 0 3 1 eI [q28.1])]) (l2:=[q28.1]) Ah BN U U U U (N0 U U) (fun _=>U) gl39 U (zq tb U ?_)
    exact AB (M24 l39 (Sh.AA h2).symm _ (by refine Wk.trans (Cz (L:=[(3,(.ptr 0 0 0 0)),(5,(.ptr 1 0 0 0)),(7,(ow 2 0 l39)),(15,(ls Al p2.steps)),(16,(i64 (Sh.len p2.steps))),(17,(i64 t6))]) (st':=[⟨0,49,2,[(AL p0)]⟩,(Ir p2),(ro 0 3 1 eI l39),⟨0,71,5,[[(i64 c26.op),(i64 c26.num),(i64 c26.Ax),(ls eI c26.args),(ls A2 c26.kids)]]⟩,(ro 0 3 1 eI [q28.1])]) (.raw U U (.raw U U (.pure (Ak fun _=>U) (.raw U U (.pure (Ak fun _=>U) .nil))))) ⟨.rfl,.rfl,.rfl,.rfl,.rfl,.rfl,trivial⟩) ?_;exact AP (L:=[(3,(.ptr 0 0 0 0)),(5,(.ptr 1 0 0 0)),(7,(ow 2 0 l39)),(15,(ls Al p2.steps)),(16,(i64 (Sh.len p2.steps))),(17,(i64 t6))]) (st':=[⟨0,49,2,[(AL p0)]⟩,(Ir p2),(ro 0 3 1 eI l39)]) (st1:=[⟨0,49,2,[(AL p0)]⟩,(Ir p2),(ro 0 3 1 eI l39)]) [0,1,2] U .nil (by decide) rfl U (.raw U U (.raw U U (.pure (Ak fun _=>U) .nil))) ⟨.rfl,.rfl,.rfl,.rfl,.rfl,.rfl,trivial⟩))
   ·intro b37 h2
    have b40:q36=true:=by simpa using b37
    exact AI (M24 l7 (Sh.AA h2).symm _ (AP (L:=[(3,(.ptr 0 0 0 0)),(5,(.ptr 1 0 0 0)),(7,(ow 2 0 l7)),(15,(ls Al p2.steps)),(16,(i64 (Sh.len p2.steps))),(17,(i64 t6))]) (st':=[⟨0,49,2,[(AL p0)]⟩,(Ir p2),(ro 0 3 1 eI l7)]) (st1:=[⟨0,49,2,[(AL p0)]⟩,(Ir p2),(ro 0 3 1 eI l7)]) [0,1,2] U .nil (by decide) rfl U (.raw U U (.raw U U (.pure (Ak fun _=>U) .nil))) ⟨.rfl,.rfl,.rfl,.rfl,.rfl,.rfl,trivial⟩))
 ·intro b21 h1
  exact Ay (M9 l7 (Sh.AA h1).symm _ (AP (L:=[(5,(.ptr 0 0 0 0)),(7,(ow 1 0 l7))]) (st':=[(Ir p2),(ro 0 3 1 eI l7)]) (st1:=[(Ir p2),(ro 0 3 1 eI l7)]) [1,2] U .nil (by decide) rfl U (.raw U U (.pure (Ak fun _=>U) .nil)) ⟨.rfl,.rfl,trivial⟩))

theorem Ip {N:Nat} :∀(n:Nat),∀{p0:A1} {p1:(List Int)} {p2:Block} {r:Int},Br N n p0 p1 p2=some r→Ae Tryz.prog 102 [(.agg (AL p0)),(ls eI p1),(.agg [(ls Al p2.steps),(i64 p2.result)])] [] (fun v st=>v=(i64 r)∧st=[]):=by
 intro n
 induction n with
 | zero=>intro p0 p1 p2 r h0;cases h0
 | succ n ih=>
  intro p0 p1 p2 r h0
  rw[Br] at h0
  exact Iq (fun h=>ih h) h0
theorem JS {N:Nat} :∀{p0:A1} {p1:(List Int)} {p2:Block} {r:Int},FP N p0 p1 p2=some r→Ae Tryz.prog 102 [(.agg (AL p0)),(ls eI p1),(.agg [(ls Al p2.steps),(i64 p2.result)])] [] (fun v st=>v=(i64 r)∧st=[]):=by
 intro p0 p1 p2 r h0
 exact Ip N h0
noncomputable abbrev It (p0:Aj):Go.Abs.Row:=⟨0,30,2,[[(ls AG p0.decls),(ls AT p0.AD)]]⟩
theorem Mm {N:Nat} {p0:Aj} {r:Bool} (h0:Fl N p0=some r):Ae Tryz.prog 51 [(.agg [(ls AG p0.decls),(ls AT p0.AD)])] [] (fun v st=>v=(.bool r)∧st=[]):=by
 unfold Fl at h0
 refine ai Tryz.func51 U U U U (sr U fun K1 hK1=>BI (m:=0) (st':=[(It p0)]) Ah U U U U U (zq tb U (dn hK1 U (sr U fun K2 hK2=>zq tb U (bs h0 fun q3 gq3 h0=>zc (v':=(.BZ [(.agg (AL q3.1)),(.bool q3.2)])) dS (NX gq3) rfl U U (zm tb 3 U (Ap (m:=1) (st':=[(It p0),⟨0,49,2,[[.zc,.zc]]⟩]) Ah Uf U U (A3 (st':=[(It p0),⟨0,49,2,[(AL q3.1)]⟩]) Ah S4 U U U U U U (show 0+2≤2 by decide) rfl ?_))))))))
 refine zq tb U (dn hK2 U (AE fun K4 hK4=>zr tb U U ?_))
 refine ci h0 U ?_ ?_ <;> clear h0
 ·intro b6 h0
  have b7:q3.2=false:=by simpa using b6
  refine zr tb U U ?_
  replace h0:=Sh.AA h0
  subst r
  exact AK (xr (Ai [(2,(.bool false))] U))
 ·intro b6 h0
  have b9:q3.2=true:=by simpa using b6
  refine AI (hK4 _ (AE fun K10 hK10=>sr U fun K11 hK11=>zm tb 2 U (zl tb U U (zq tb U (dn hK11 U ?_)))))
  obtain⟨o13,h1,h0⟩:=Sh.A8 h0
  have M13 :∀(_:Unit),o13=Sum.inr ()→∀s,Wk 0 s ⟨37,Ad [],[]⟩→K10 s:=by
   intro _ hq s hw
   subst o13
   try dsimp only at h0
   refine hK10 _ (AS hw (zr tb U U ?_))
   replace h0:=Sh.AA h0
   subst r
   exact AK (xr (AF (L:=[(2,(.bool true))]) ⟨.rfl,trivial⟩))
  refine Aa (Au (σ:=Int) (fun n v=>Cm N p0 q3 n v=some o13) (fun t12=>⟨37,Ad [(3,(.ptr 0 0 0 0)),(15,(ls AT p0.AD)),(16,(i64 (Sh.len p0.AD))),(17,(i64 t12))],[⟨0,49,2,[(AL q3.1)]⟩]⟩) N 0 h1 (AP (L:=[(3,(.ptr 0 0 0 0)),(15,(ls AT p0.AD)),(16,(i64 (Sh.len p0.AD))),(17,(i64 0))]) (st':=[⟨0,49,2,[(AL q3.1)]⟩]) (st1:=[⟨0,49,2,[(AL q3.1)]⟩]) [1] U .nil (by decide) rfl U (.raw U U .nil) ⟨.rfl,.rfl,.rfl,.rfl,trivial⟩) (fun _ hv=>by rw[Cm] at hv;cases hv) ?_)
  rintro n t12 h1
  try dsimp only at h1 ⊢
  rw[Cm] at h1
  refine zr tb U U (AE fun K16 hK16=>?_)
  refine ci h1 U ?_ ?_ <;> clear h1
  ·intro b17 h1
   refine AI (hK16 _ (AE fun K18 hK18=>Aa (sr U fun K19 hK19=>bs h1 fun c20 gc20 h1=>zx E7 gc20 U U U (zq tb U (Ap (m:=1) (st':=[⟨0,49,2,[(AL q3.1)]⟩,⟨0,57,5,[[.zc,.zc,(i64 0),.zc,(i64 0)]]⟩]) Ah Lt U U (A3 (st':=[⟨0,49,2,[(AL q3.1)]⟩,⟨0,57,5,[[(ls eI c20.params),(ls eI c20.At),(i64 c20.result),(ls Al c20.body.steps),(i64 c20.body.result)]]⟩]) Ah NJ U U U U U U (show 0+5≤5 by decide) rfl (dn hK19 U (AE fun K21 hK21=>bs h1 fun o23 h2 h1=>?_))))))))
   have M23 :∀(t22:Bool),o23=t22→∀s,Wk 0 s ⟨37,Ad [(3,(.ptr 0 0 0 0)),(15,(ls AT p0.AD)),(16,(i64 (Sh.len p0.AD))),(17,(i64 t12)),(35,(.bool t22))],[⟨0,49,2,[(AL q3.1)]⟩]⟩→K21 s:=by
    intro t22 hq s hw
    subst o23
    try dsimp only at h1
    refine hK21 _ (AS hw ?_)
    refine ci h1 U ?_ ?_ <;> clear h1
    ·intro b24 h1
     refine zr tb U U ?_
     replace h1:=Sh.AA h1
     subst o13
     try dsimp only[id] at h0
     replace h0:=Sh.AA h0
     subst r
     exact AK (xr (Ai [(2,(.bool false))] U))
    ·intro b24 h1
     exact AI (hK18 _ (AJ U (zm tb 2 U (AB (xi (Sh.w (t12+1)) h1 (AN U))))))
   refine Bz (by kernel_rfl) (by kernel_rfl) (by rfl) ?_
   iterate 2 refine yq tb rfl ?_
   refine bs h2 fun q26 gq26 h2=>CR (v:=(i64 q26)) Ah dI (Pc gq26) rfl U U ?_
   iterate 2 refine yq tb rfl ?_
   rcases Sh.As h2 with ⟨b27,h2⟩ | ⟨b27,h2⟩
   ·refine ys b27 U ?_
    iterate 8 refine ys b27 rfl ?_
    refine yt b27 U ?_
    exact BS (M23 true (Sh.AA h2).symm _ (AP (L:=[(3,(.ptr 0 0 0 0)),(15,(ls AT p0.AD)),(16,(i64 (Sh.len p0.AD))),(17,(i64 t12)),(35,(.bool true))]) (st':=[⟨0,49,2,[(AL q3.1)]⟩]) (st1:=[⟨0,49,2,[(AL q3.1)]⟩]) [0] U .nil (by decide) rfl U (.raw U U .nil) ⟨.rfl,.rfl,.rfl,.rfl,.rfl,trivial⟩))
   ·refine yg tb b27 U ?_
    iterate 4 refine yg tb b27 rfl ?_
    refine bs h2 fun q28 gq28 h2=>CR (v:=(i64 q28)) (Bb U U b27) ZB (JS gq28) rfl U U ?_
    iterate 3 refine yg tb b27 rfl ?_
    refine yf b27 U ?_
    exact BS (M23 (!decide (q28=c20.result)) (Sh.AA h2).symm _ (AP (L:=[(3,(.ptr 0 0 0 0)),(15,(ls AT p0.AD)),(16,(i64 (Sh.len p0.AD))),(17,(i64 t12)),(35,(.bool (!decide (q28=c20.result))))]) (st':=[⟨0,49,2,[(AL q3.1)]⟩]) (st1:=[⟨0,49,2,[(AL q3.1)]⟩]) [0] U .nil (by decide) rfl U (.raw U U .nil) ⟨.rfl,.rfl,.rfl,.rfl,.rfl,trivial⟩))
  ·intro b17 h1
   exact Ay (M13 () (Sh.AA h1).symm _ (Ai _ U))
noncomputable abbrev G8 (p0:Step):Go.Abs.Row:=⟨0,71,5,[[(i64 p0.op),(i64 p0.num),(i64 p0.Ax),(ls eI p0.args),(ls A2 p0.kids)]]⟩
theorem LO {s0_0:Bool} {p0:Step} {r:Bool} (h0:En s0_0 p0=some r):Ae Tryz.prog 123 [(.agg [(i64 p0.op),(i64 p0.num),(i64 p0.Ax),(ls eI p0.args),(ls A2 p0.kids)]),(.ptr 0 0 0 0)] [⟨0,4,1,[[(.bool s0_0)]]⟩] (fun v st=>v=(.BZ [])∧st=[⟨0,4,1,[[(.bool r)]]⟩]):=by
 unfold En at h0
 refine ai Tryz.func123 U U U U (sr U fun K1 hK1=>BI (m:=1) (st':=[⟨0,4,1,[[(.bool s0_0)]]⟩,(G8 p0)]) Ah U U U U U (dn hK1 U (AJ U (zm tb 2 U ?_))))
 rcases Sh.As h0 with ⟨b2,h0⟩ | ⟨b2,h0⟩
 ·refine zg tb b2 U (zg tb b2 U (bs h0 fun q3 gq3 h0=>zd b2 Wd (Fu gq3) rfl U U U (zg tb b2 U (zt b2 U (zq tb U ?_)))))
  rcases Sh.As h0 with ⟨b4,h0⟩ | ⟨b4,h0⟩
  ·refine zg tb b4 U (zg tb b4 U (zg tb b4 U (zt b4 U (A3 (st':=[⟨0,4,1,[[(.bool (decide (p0.Ax=0)))]]⟩,(G8 p0)]) Ah Zx U U U U U U (show 0+1≤1 by decide) rfl ?_))))
   replace h0:=Sh.AA h0
   subst r
   exact AB (xr (AP (L:=[]) (st':=[⟨0,4,1,[[(.bool (decide (p0.Ax=0)))]]⟩]) (st1:=[⟨0,4,1,[[(.bool (decide (p0.Ax=0)))]]⟩]) [0] U (.raw U U .nil) (by decide) rfl U (.raw U U .nil) trivial))
  ·refine zs b4 U (zs b4 U (zs b4 U (zf b4 U (A3 (st':=[⟨0,4,1,[[(.bool false)]]⟩,(G8 p0)]) Ah Zx U U U U U U (show 0+1≤1 by decide) rfl ?_))))
   replace h0:=Sh.AA h0
   subst r
   exact AB (xr (AP (L:=[]) (st':=[⟨0,4,1,[[(.bool false)]]⟩]) (st1:=[⟨0,4,1,[[(.bool false)]]⟩]) [0] U (.raw U U .nil) (by decide) rfl U (.raw U U .nil) trivial))
 ·refine zs b2 U ?_
  iterate 3 refine zs b2 rfl ?_
  refine zf b2 U (zq tb U ?_)
  iterate 3 refine zs rfl rfl ?_
  refine zf U U (A3 (st':=[⟨0,4,1,[[(.bool false)]]⟩,(G8 p0)]) Ah Zx U U U U U U (show 0+1≤1 by decide) rfl ?_)
  replace h0:=Sh.AA h0
  subst r
  exact AB (xr (AP (L:=[]) (st':=[⟨0,4,1,[[(.bool false)]]⟩]) (st1:=[⟨0,4,1,[[(.bool false)]]⟩]) [0] U (.raw U U .nil) (by decide) rfl U (.raw U U .nil) trivial))
theorem L3 {N:Nat} {rec_impl_visitSteps:Bool→Block→Option (Bool)} (hrec_impl_visitSteps :∀{s0_0:Bool} {p0:Block} {r:Bool},rec_impl_visitSteps s0_0 p0=some r→Ae Tryz.prog 52 [(.agg [(ls Al p0.steps),(i64 p0.result)]),(.fn 123 [(.ptr 0 0 0 0)])] [⟨0,4,1,[[(.bool s0_0)]]⟩] (fun v st=>v=(.BZ [])∧st=[⟨0,4,1,[[(.bool r)]]⟩])) {s0_0:Bool} {p0:Block} {r:Bool} (h0:GW N rec_impl_visitSteps s0_0 p0=some r):Ae Tryz.prog 52 [(.agg [(ls Al p0.steps),(i64 p0.result)]),(.fn 123 [(.ptr 0 0 0 0)])] [⟨0,4,1,[[(.bool s0_0)]]⟩] (fun v st=>v=(.BZ [])∧st=[⟨0,4,1,[[(.bool r)]]⟩]):=by
 unfold GW at h0
 refine ai Tryz.func52 U U U U (sr U fun K1 hK1=>BI (m:=1) (st':=[⟨0,4,1,[[(.bool s0_0)]]⟩,⟨0,55,2,[[(ls Al p0.steps),(i64 p0.result)]]⟩]) Ah U U U U U (dn hK1 U (sr U fun K2 hK2=>zm tb 2 U (zl tb U U (zq tb U (dn hK2 U (AW.fin fun K3 hK3=>bs h0 fun o7 h1 h0=>?_)))))))
 have M7 :∀(f6:Bool),o7=f6→∀s,Wk 1 s ⟨30,Ad [],[⟨0,4,1,[[(.bool f6)]]⟩]⟩→K3 s:=by
  intro f6 hq s hw
  subst o7
  try dsimp only at h0
  refine hK3 _ ?_
  replace h0:=Sh.AA h0
  subst r
  exact Exists.intro _ (And.intro (hw.trans (AF (L:=[]) trivial)) (And.intro U U))
 refine Aa (Au (σ:=Int×Bool) (fun n v=>B5 N p0 rec_impl_visitSteps n v.1 v.2=some o7) (fun (t4,f5)=>⟨30,Ad [(1,(.fn 123 [(.ptr 0 0 0 0)])),(9,(ls Al p0.steps)),(10,(i64 (Sh.len p0.steps))),(11,(i64 t4))],[⟨0,4,1,[[(.bool f5)]]⟩]⟩) N (0,s0_0) h1 (AP (L:=[(1,(.fn 123 [(.ptr 0 0 0 0)])),(9,(ls Al p0.steps)),(10,(i64 (Sh.len p0.steps))),(11,(i64 0))]) (st':=[⟨0,4,1,[[(.bool s0_0)]]⟩]) (st1:=[⟨0,4,1,[[(.bool s0_0)]]⟩]) [0] U (.raw U U .nil) (by decide) rfl U (.raw U U .nil) ⟨.rfl,.rfl,.rfl,.rfl,trivial⟩) (fun _ hv=>by rw[B5] at hv;cases hv) ?_)
 rintro n ⟨t4,f5⟩ h1
 try dsimp only at h1 ⊢
 rw[B5] at h1
 refine zr tb U U (AE fun K9 hK9=>?_)
 refine ci h1 U ?_ ?_ <;> clear h1
 ·intro b10 h1
  refine AI (hK9 _ (AE fun K11 hK11=>Aa (sr U fun K12 hK12=>bs h1 fun c13 gc13 h1=>zz (.BF [(i64 c13.op),(i64 c13.num),(i64 c13.Ax),(ls eI c13.args),(ls A2 c13.kids)] 0) (Di FD U U gc13 (Bw _) rfl) rfl (zq tb U (Ap (m:=1) (st':=[⟨0,4,1,[[(.bool f5)]]⟩,⟨0,71,5,[[(i64 0),(i64 0),(i64 0),.zc,.zc]]⟩]) Ah Np U U (A3 (st':=[⟨0,4,1,[[(.bool f5)]]⟩,⟨0,71,5,[[(i64 c13.op),(i64 c13.num),(i64 c13.Ax),(ls eI c13.args),(ls A2 c13.kids)]]⟩]) Ah KZ U U U U U U (show 0+5≤5 by decide) rfl (dn hK12 U (sr U fun K14 hK14=>zm tb 2 U ?_))))))))
  refine bs h1 fun q15 gq15 h1=>?_
  refine Vb (rowsP:=[⟨0,4,1,[[(.bool f5)]]⟩]) (rows0:=[⟨0,4,1,[[(.bool f5)]]⟩]) (rows1:=[⟨0,4,1,[[(.bool q15)]]⟩]) (rows2:=[]) (rows1':=[⟨0,4,1,[[(.bool q15)]]⟩]) (rows2':=[]) (st':=[⟨0,4,1,[[(.bool q15)]]⟩,⟨0,71,5,[[(i64 c13.op),(i64 c13.num),(i64 c13.Ax),(ls eI c13.args),(ls A2 c13.kids)]]⟩]) (v':=(.BZ [])) [0] Ah U bg (LO gq15) rfl (by decide) rfl U (.raw U U .nil) rfl U (.raw U U .nil) .nil U U ?_
  refine dn hK14 U (sr U fun K16 hK16=>zm tb 2 U (zl tb U U (zq tb U (dn hK16 U (bs h1 fun o20 h2 h1=>?_)))))
  have M20 :∀(f19:Bool),o20=f19→∀s,Wk 1 s ⟨30,Ad [(1,(.fn 123 [(.ptr 0 0 0 0)])),(9,(ls Al p0.steps)),(10,(i64 (Sh.len p0.steps))),(11,(i64 t4))],[⟨0,4,1,[[(.bool f19)]]⟩]⟩→K11 s:=by
   intro f19 hq s hw
   subst o20
   try dsimp only at h1
   exact hK11 _ (AS hw (AJ U (zm tb 2 U (AB (xi (Sh.w (t4+1),f19) h1 (AN U))))))
  refine Aa (Au (σ:=Int×Bool) (fun n v=>B6 c13 rec_impl_visitSteps n v.1 v.2=some o20) (fun (t17,f18)=>⟨30,Ad [(1,(.fn 123 [(.ptr 0 0 0 0)])),(9,(ls Al p0.steps)),(10,(i64 (Sh.len p0.steps))),(11,(i64 t4)),(19,(ls A2 c13.kids)),(20,(i64 (Sh.len c13.kids))),(21,(i64 t17))],[⟨0,4,1,[[(.bool f18)]]⟩]⟩) N (0,q15) h2 (AP (L:=[(1,(.fn 123 [(.ptr 0 0 0 0)])),(9,(ls Al p0.steps)),(10,(i64 (Sh.len p0.steps))),(11,(i64 t4)),(19,(ls A2 c13.kids)),(20,(i64 (Sh.len c13.kids))),(21,(i64 0))]) (st':=[⟨0,4,1,[[(.bool q15)]]⟩]) (st1:=[⟨0,4,1,[[(.bool q15)]]⟩]) [0] U (.raw U U .nil) (by decide) rfl U (.raw U U .nil) ⟨.rfl,.rfl,.rfl,.rfl,.rfl,.rfl,.rfl,trivial⟩) (fun _ hv=>by rw[B6] at hv;cases hv) ?_)
  rintro n ⟨t17,f18⟩ h2
  try dsimp only at h2 ⊢
  rw[B6] at h2
  refine zr tb U U (AE fun K22 hK22=>?_)
  refine ci h2 U ?_ ?_ <;> clear h2
  ·intro b23 h2
   refine AI (hK22 _ (AE fun K24 hK24=>Aa (sr U fun K25 hK25=>bs h2 fun c26 gc26 h2=>zx Hi gc26 U U U (zq tb U (Ap (m:=1) (st':=[⟨0,4,1,[[(.bool f18)]]⟩,⟨0,55,2,[[.zc,(i64 0)]]⟩]) Ah Kv U U (A3 (st':=[⟨0,4,1,[[(.bool f18)]]⟩,⟨0,55,2,[[(ls Al c26.steps),(i64 c26.result)]]⟩]) Ah JV U U U U U U (show 0+2≤2 by decide) rfl (dn hK25 U (AJ U (zm tb 2 U ?_)))))))))
   refine bs h2 fun q27 gq27 h2=>?_
   refine LN (rowsP:=[⟨0,4,1,[[(.bool f18)]]⟩]) (rows0:=[⟨0,4,1,[[(.bool f18)]]⟩]) (rows1:=[⟨0,4,1,[[(.bool q27)]]⟩]) (rows2:=[]) (rows1':=[⟨0,4,1,[[(.bool q27)]]⟩]) (rows2':=[]) (st':=[⟨0,4,1,[[(.bool q27)]]⟩,⟨0,55,2,[[(ls Al c26.steps),(i64 c26.result)]]⟩]) (v':=(.BZ [])) [0] Ah aQ (hrec_impl_visitSteps gq27) rfl (by decide) rfl U (.raw U U .nil) rfl U (.raw U U .nil) .nil U U ?_
   refine dn hK24 U (AJ U (zm tb 2 U ?_))
   exact AB (xi (Sh.w (t17+1),q27) h2 (AP (L:=[(1,(.fn 123 [(.ptr 0 0 0 0)])),(9,(ls Al p0.steps)),(10,(i64 (Sh.len p0.steps))),(11,(i64 t4)),(19,(ls A2 c13.kids)),(20,(i64 (Sh.len c13.kids))),(21,(i64 (Sh.w (t17+1))))]) (st':=[⟨0,4,1,[[(.bool q27)]]⟩]) (st1:=[⟨0,4,1,[[(.bool q27)]]⟩]) [0] U (.raw U U .nil) (by decide) rfl U (.raw U U .nil) ⟨.rfl,.rfl,.rfl,.rfl,.rfl,.rfl,.rfl,trivial⟩))
  ·intro b23 h2
   exact Ay (M20 f18 (Sh.AA h2).symm _ (AN U))
 ·intro b10 h1
  exact Ay (M7 f5 (Sh.AA h1).symm _ (AN U))

theorem MI {N:Nat} :∀(n:Nat),∀{s0_0:Bool} {p0:Block} {r:Bool},D9 N n s0_0 p0=some r→Ae Tryz.prog 52 [(.agg [(ls Al p0.steps),(i64 p0.result)]),(.fn 123 [(.ptr 0 0 0 0)])] [⟨0,4,1,[[(.bool s0_0)]]⟩] (fun v st=>v=(.BZ [])∧st=[⟨0,4,1,[[(.bool r)]]⟩]):=by
 intro n
 induction n with
 | zero=>intro s0_0 p0 r h0;cases h0
 | succ n ih=>
  intro s0_0 p0 r h0
  rw[D9] at h0
  exact L3 (fun h=>ih h) h0
theorem Ng {N:Nat} :∀{s0_0:Bool} {p0:Block} {r:Bool},Iv N s0_0 p0=some r→Ae Tryz.prog 52 [(.agg [(ls Al p0.steps),(i64 p0.result)]),(.fn 123 [(.ptr 0 0 0 0)])] [⟨0,4,1,[[(.bool s0_0)]]⟩] (fun v st=>v=(.BZ [])∧st=[⟨0,4,1,[[(.bool r)]]⟩]):=by
 intro s0_0 p0 r h0
 exact MI N h0
noncomputable abbrev O1 (p0:Block):Go.Abs.Row:=⟨0,55,2,[[(ls Al p0.steps),(i64 p0.result)]]⟩
theorem MC {N:Nat} {p0:Block} {r:Bool} (h0:FV N p0=some r):Ae Tryz.prog 74 [(.agg [(ls Al p0.steps),(i64 p0.result)])] [] (fun v st=>v=(.bool r)∧st=[]):=by
 unfold FV at h0
 refine ai Tryz.func74 U U U U (sr U fun K1 hK1=>BI (m:=0) (st':=[(O1 p0)]) Ah U U U U U (zq tb U (dn hK1 U (sr U fun K2 hK2=>Ap (m:=1) (st':=[(O1 p0),⟨0,4,1,[[(.bool false)]]⟩]) Ah du U U (A3 (st':=[(O1 p0),⟨0,4,1,[[(.bool true)]]⟩]) Ah Zx U U U U U U (show 0+1≤1 by decide) rfl (dn hK2 U (sr U fun K3 hK3=>zq tb U (zz (.fn 123 [(.ptr 1 0 0 0)]) (bA U) rfl ?_))))))))
 refine bs h0 fun q4 gq4 h0=>?_
 refine LN (rowsP:=[⟨0,4,1,[[(.bool true)]]⟩]) (rows0:=[⟨0,4,1,[[(.bool true)]]⟩]) (rows1:=[⟨0,4,1,[[(.bool q4)]]⟩]) (rows2:=[]) (rows1':=[⟨0,4,1,[[(.bool q4)]]⟩]) (rows2':=[]) (st':=[(O1 p0),⟨0,4,1,[[(.bool q4)]]⟩]) (v':=(.BZ [])) [1] Ah aQ (Ng gq4) rfl (by decide) rfl U (.raw U U .nil) rfl U (.raw U U .nil) .nil U U ?_
 refine dn hK3 U (zr tb U U ?_)
 replace h0:=Sh.AA h0
 subst r
 exact AK (xr (Ai [(2,(.bool q4))] U))
theorem PS {N:Nat} {p0:Aj} {r:Bool} (h0:Gn N p0=some r):Ae Tryz.prog 33 [(.agg [(ls AG p0.decls),(ls AT p0.AD)])] [] (fun v st=>v=(.bool r)∧st=[]):=by
 unfold Gn at h0
 refine ai Tryz.func33 U U U U (sr U fun K1 hK1=>BI (m:=0) (st':=[(It p0)]) Ah U U U U U (zq tb U (dn hK1 U (AE fun K2 hK2=>sr U fun K3 hK3=>zq tb U (bs h0 fun q4 gq4 h0=>zc cv (Mm gq4) rfl U U (zq tb U (dn hK3 U ?_)))))))
 refine ci h0 U ?_ ?_ <;> clear h0
 ·intro b5 h0
  have b6:q4=false:=by simpa using b5
  refine zr tb U U ?_
  replace h0:=Sh.AA h0
  subst r
  exact AK (xr (Ai [(2,(.bool false))] U))
 ·intro b5 h0
  have b8:q4=true:=by simpa using b5
  refine AI (hK2 _ (AE fun K9 hK9=>sr U fun K10 hK10=>zm tb 2 U (zl tb U U (zq tb U (dn hK10 U ?_)))))
  obtain⟨o12,h1,h0⟩:=Sh.A8 h0
  have M12 :∀(_:Unit),o12=Sum.inr ()→∀s,Wk 0 s ⟨20,Ad [],[]⟩→K9 s:=by
   intro _ hq s hw
   subst o12
   try dsimp only at h0
   refine hK9 _ (AS hw (zr tb U U ?_))
   replace h0:=Sh.AA h0
   subst r
   exact AK (xr (AF (L:=[(2,(.bool true))]) ⟨.rfl,trivial⟩))
  refine Aa (Au (σ:=Int) (fun n v=>EH N p0 n v=some o12) (fun t11=>⟨20,Ad [(9,(ls AT p0.AD)),(10,(i64 (Sh.len p0.AD))),(11,(i64 t11))],[]⟩) N 0 h1 (Ai _ U) (fun _ hv=>by rw[EH] at hv;cases hv) ?_)
  rintro n t11 h1
  try dsimp only at h1 ⊢
  rw[EH] at h1
  refine zr tb U U (AE fun K15 hK15=>?_)
  refine ci h1 U ?_ ?_ <;> clear h1
  ·intro b16 h1
   refine AI (hK15 _ (AE fun K17 hK17=>Aa (sr U fun K18 hK18=>bs h1 fun c19 gc19 h1=>zx E7 gc19 U U U (zq tb U (Ap (m:=0) (st':=[⟨0,57,5,[[.zc,.zc,(i64 0),.zc,(i64 0)]]⟩]) Ah Lt U U (A3 (st':=[⟨0,57,5,[[(ls eI c19.params),(ls eI c19.At),(i64 c19.result),(ls Al c19.body.steps),(i64 c19.body.result)]]⟩]) Ah NJ U U U U U U (show 0+5≤5 by decide) rfl (dn hK18 U (sr U fun K20 hK20=>zm tb 2 U ?_))))))))
   refine bs h1 fun q21 gq21 h1=>zc dE (MC gq21) rfl U U (zq tb U (dn hK20 U ?_))
   refine ci h1 U ?_ ?_ <;> clear h1
   ·intro b22 h1
    have b23:q21=false:=by simpa using b22
    refine zr tb U U ?_
    replace h1:=Sh.AA h1
    subst o12
    try dsimp only[id] at h0
    replace h0:=Sh.AA h0
    subst r
    exact AK (xr (Ai [(2,(.bool false))] U))
   ·intro b22 h1
    have b25:q21=true:=by simpa using b22
    exact AI (hK17 _ (AJ U (zm tb 2 U (AB (xi (Sh.w (t11+1)) h1 (Ai _ U))))))
  ·intro b16 h1
   exact Ay (M12 () (Sh.AA h1).symm _ (AN U))
noncomputable abbrev Ij:Go.Abs.Row:=⟨0,71,5,[[(i64 0),(i64 0),(i64 0),.zc,.zc]]⟩
theorem Le {s0:(List Block)} {p0:Step} {r:Step} (h0:Fv s0 p0=some r):Ae Tryz.prog 86 [(.agg [(i64 p0.op),(i64 p0.num),(i64 p0.Ax),(ls eI p0.args),(ls A2 p0.kids)]),(ow 0 0 s0)] [(ro 0 55 2 (A0 3 55 71) s0)] (fun v st=>v=(.agg [(i64 r.op),(i64 r.num),(i64 r.Ax),(ow 1 0 r.args),(ow 0 0 s0)])∧st=[(ro 0 55 2 (A0 3 55 71) s0),(ro 0 3 1 eI r.args)]):=by
 unfold Fv at h0
 refine Ae.wk (r0:=(.agg [(i64 r.op),(i64 r.num),(i64 r.Ax),(ow 1 0 r.args),(ow 0 0 s0)])) (st0:=[(ro 0 55 2 (A0 3 55 71) s0),(ro 0 3 1 eI r.args),⟨0,71,5,[[(i64 r.op),(i64 r.num),(i64 r.Ax),(ow 1 0 r.args),(ow 0 0 s0)]]⟩]) ?_ (FH (L:=[(0,(.agg [(i64 r.op),(i64 r.num),(i64 r.Ax),(ow 1 0 r.args),(ow 0 0 s0)]))]) (st':=[(ro 0 55 2 (A0 3 55 71) s0),(ro 0 3 1 eI r.args)]) [0,1] U (by decide) rfl U (.deep (Af fun _=>U) (.pure (Ak fun _=>U) trivial)) ⟨.rfl,trivial⟩)
 refine ai Tryz.func86 U U U U (sr U fun K1 hK1=>BI (m:=1) (st':=[(ro 0 55 2 (A0 3 55 71) s0),(G8 p0)]) Ah U U U U U (Ap (m:=2) (st':=[(ro 0 55 2 (A0 3 55 71) s0),(G8 p0),Ij]) Ah Np U U (dn hK1 U (sr U fun K2 hK2=>zm tb 2 U (bs h0 fun q3 gq3 h0=>BW (v':=(ow 3 0 q3)) (st':=[(ro 0 55 2 (A0 3 55 71) s0),(G8 p0),Ij,(ro 0 3 1 eI q3)]) Ah Mx (BY gq3) rfl U ⟨(Bf fun _=>U),trivial⟩ U U (zm tb 2 U (A3 (st':=[(ro 0 55 2 (A0 3 55 71) s0),⟨0,71,5,[[(i64 p0.op),(i64 p0.num),(i64 p0.Ax),(ow 3 0 q3),(ls A2 p0.kids)]]⟩,Ij,(ro 0 3 1 eI q3)]) Ah Iu U U U U U U (show 3+1≤5 by decide) rfl (zq tb U ?_))))))))
 refine A3 (st':=[(ro 0 55 2 (A0 3 55 71) s0),⟨0,71,5,[[(i64 p0.op),(i64 p0.num),(i64 p0.Ax),(ow 3 0 q3),(ow 0 0 s0)]]⟩,Ij,(ro 0 3 1 eI q3)]) Ah Ym U U U U U U (show 4+1≤5 by decide) rfl (dn hK2 U (sr U fun K4 hK4=>zq tb U (A3 (st':=[(ro 0 55 2 (A0 3 55 71) s0),⟨0,71,5,[[(i64 p0.op),(i64 p0.num),(i64 p0.Ax),(ow 3 0 q3),(ow 0 0 s0)]]⟩,⟨0,71,5,[[(i64 p0.op),(i64 p0.num),(i64 p0.Ax),(ow 3 0 q3),(ow 0 0 s0)]]⟩,(ro 0 3 1 eI q3)]) Ah KZ U U U U U U (show 0+5≤5 by decide) rfl (dn hK4 U ?_))))
 replace h0:=Sh.AA h0
 subst r
 exact AK (Exists.intro _ (And.intro ((AP (L:=[(4,(.ptr 2 0 0 0))]) (st':=[(ro 0 55 2 (A0 3 55 71) s0),(ro 0 3 1 eI q3),⟨0,71,5,[[(i64 p0.op),(i64 p0.num),(i64 p0.Ax),(ow 1 0 q3),(ow 0 0 s0)]]⟩]) (st1:=[(ro 0 55 2 (A0 3 55 71) s0),(ro 0 3 1 eI q3),⟨0,71,5,[[(i64 p0.op),(i64 p0.num),(i64 p0.Ax),(ow 3 0 q3),(ow 0 0 s0)]]⟩]) [0,3,2] U (.deep (Af fun _=>U) .nil) (by decide) rfl U (.deep (Af fun _=>U) (.pure (Ak fun _=>U) (.raw U U .nil))) ⟨.rfl,trivial⟩).trans (AF (L:=[(4,(.ptr 2 0 0 0))]) ⟨.rfl,trivial⟩)) (Cb (x:=.tmp 4) (off:=0) (cs:=[(i64 p0.op),(i64 p0.num),(i64 p0.Ax),(ow 1 0 q3),(ow 0 0 s0)]) (vs:=[(i64 p0.op),(i64 p0.num),(i64 p0.Ax),(ow 1 0 q3),(ow 0 0 s0)]) KZ U U U (show 0+5≤5 by decide) rfl _ ⟨U,U⟩)))
theorem L0 {N:Nat} {rec_impl_plainBlock:Block→Option (Block)} (hrec_impl_plainBlock :∀{p0:Block} {r:Block},rec_impl_plainBlock p0=some r→Ae Tryz.prog 57 [(.agg [(ls Al p0.steps),(i64 p0.result)])] [] (fun v st=>v=(.agg [(ow 0 0 r.steps),(i64 r.result)])∧st=[(ro 0 71 5 (Am 3 55 71) r.steps)])) {p0:Step} {r:Step} (h0:FO N rec_impl_plainBlock p0=some r):Ae Tryz.prog 105 [(.agg [(i64 p0.op),(i64 p0.num),(i64 p0.Ax),(ls eI p0.args),(ls A2 p0.kids)]),(.fn 57 [])] [] (fun v st=>v=(.agg [(i64 r.op),(i64 r.num),(i64 r.Ax),(ow 0 0 r.args),(ow 1 0 r.kids)])∧st=[(ro 0 3 1 eI r.args),(ro 0 55 2 (A0 3 55 71) r.kids)]):=by
 unfold FO at h0
 refine Ae.wk (r0:=(.agg [(i64 r.op),(i64 r.num),(i64 r.Ax),(ow 0 0 r.args),(ow 1 0 r.kids)])) (st0:=[(ro 0 3 1 eI r.args),(ro 0 55 2 (A0 3 55 71) r.kids),⟨0,71,5,[[(i64 r.op),(i64 r.num),(i64 r.Ax),(ow 0 0 r.args),(ow 1 0 r.kids)]]⟩]) ?_ (FH (L:=[(0,(.agg [(i64 r.op),(i64 r.num),(i64 r.Ax),(ow 0 0 r.args),(ow 1 0 r.kids)]))]) (st':=[(ro 0 3 1 eI r.args),(ro 0 55 2 (A0 3 55 71) r.kids)]) [0,1] U (by decide) rfl U (.pure (Ak fun _=>U) (.deep (Af fun _=>U) trivial)) ⟨.rfl,trivial⟩)
 refine ai Tryz.func105 U U U U (sr U fun K1 hK1=>BI (m:=0) (st':=[(G8 p0)]) Ah U U U U U (Ap (m:=1) (st':=[(G8 p0),Ij]) Ah Np U U (dn hK1 U (zr tb U U (AE fun K3 hK3=>sr U fun K4 hK4=>zm tb 2 U (zl tb U U (zq tb U (dn hK4 U ?_))))))))
 refine bs h0 fun o8 h1 h0=>?_
 have M8 :∀(l7:(List Block)),o8=l7→∀s,Wk 0 s ⟨25,Ad [(2,(.ptr 0 0 0 0)),(4,(.ptr 1 0 0 0)),(5,(ow 2 0 l7))],[(G8 p0),Ij,(ro 0 55 2 (A0 3 55 71) l7)]⟩→K3 s:=by
  intro l7 hq s hw
  subst o8
  try dsimp only at h0
  refine hK3 _ (AS hw (sr U fun K9 hK9=>zm tb 2 U (bs h0 fun q10 gq10 h0=>?_)))
  refine LN (rowsP:=[(ro 0 55 2 (A0 3 55 71) l7)]) (rows0:=[(ro 0 55 2 (A0 3 55 71) l7)]) (rows1:=[(ro 0 55 2 (A0 3 55 71) l7)]) (rows2:=[(ro 0 3 1 eI q10.args)]) (rows1':=[(ro 0 55 2 (A0 3 55 71) l7)]) (rows2':=[(ro 0 3 1 eI q10.args)]) (st':=[(G8 p0),Ij,(ro 0 55 2 (A0 3 55 71) l7),(ro 0 3 1 eI q10.args)]) (v':=(.agg [(i64 q10.op),(i64 q10.num),(i64 q10.Ax),(ow 3 0 q10.args),(ow 2 0 l7)])) [2] Ah dh (Le gq10) rfl (by decide) rfl U (.deep (Af fun _=>U) .nil) rfl U (.deep (Af fun _=>U) .nil) (.pure (Ak fun _=>U) .nil) rfl U ?_
  refine A3 (st':=[(G8 p0),⟨0,71,5,[[(i64 q10.op),(i64 q10.num),(i64 q10.Ax),(ow 3 0 q10.args),(ow 2 0 l7)]]⟩,(ro 0 55 2 (A0 3 55 71) l7),(ro 0 3 1 eI q10.args)]) Ah KZ U U U U U U (show 0+5≤5 by decide) rfl (dn hK9 U ?_)
  replace h0:=Sh.AA h0
  subst r
  exact AK (Exists.intro _ (And.intro ((AP (L:=[(4,(.ptr 2 0 0 0))]) (st':=[(ro 0 3 1 eI q10.args),(ro 0 55 2 (A0 3 55 71) l7),⟨0,71,5,[[(i64 q10.op),(i64 q10.num),(i64 q10.Ax),(ow 0 0 q10.args),(ow 1 0 l7)]]⟩]) (st1:=[(ro 0 3 1 eI q10.args),(ro 0 55 2 (A0 3 55 71) l7),⟨0,71,5,[[(i64 q10.op),(i64 q10.num),(i64 q10.Ax),(ow 3 0 q10.args),(ow 2 0 l7)]]⟩]) [3,2,1] U .nil (by decide) rfl U (.pure (Ak fun _=>U) (.deep (Af fun _=>U) (.raw U U .nil))) ⟨.rfl,trivial⟩).trans (AF (L:=[(4,(.ptr 2 0 0 0))]) ⟨.rfl,trivial⟩)) (Cb (x:=.tmp 4) (off:=0) (cs:=[(i64 q10.op),(i64 q10.num),(i64 q10.Ax),(ow 0 0 q10.args),(ow 1 0 l7)]) (vs:=[(i64 q10.op),(i64 q10.num),(i64 q10.Ax),(ow 0 0 q10.args),(ow 1 0 l7)]) KZ U U U (show 0+5≤5 by decide) rfl _ ⟨U,U⟩)))
 refine Aa (Au (σ:=Int×(List Block)) (fun n v=>CU p0 rec_impl_plainBlock n v.1 v.2=some o8) (fun (t5,l6)=>⟨25,Ad [(1,(.fn 57 [])),(2,(.ptr 0 0 0 0)),(4,(.ptr 1 0 0 0)),(5,(ow 2 0 l6)),(9,(ls A2 p0.kids)),(10,(i64 (Sh.len p0.kids))),(11,(i64 t5))],[(G8 p0),Ij,(ro 0 55 2 (A0 3 55 71) l6)]⟩) N (0,[]) h1 ((Fe (t:=5) rfl 55 (size:=2) (by decide)).trans (AF (L:=[(1,(.fn 57 [])),(2,(.ptr 0 0 0 0)),(4,(.ptr 1 0 0 0)),(5,(.own 2 0 (List.length ([]:List Block)))),(9,(ls A2 p0.kids)),(10,(i64 (Sh.len p0.kids))),(11,(i64 0))]) ⟨.rfl,.rfl,.rfl,.rfl,.rfl,.rfl,.rfl,trivial⟩)) (fun _ hv=>by rw[CU] at hv;cases hv) ?_)
 rintro n ⟨t5,l6⟩ h1
 try dsimp only at h1 ⊢
 rw[CU] at h1
 refine zr tb U U (AE fun K12 hK12=>?_)
 refine ci h1 U ?_ ?_ <;> clear h1
 ·intro b13 h1
  refine AI (hK12 _ (AE fun K14 hK14=>Aa (sr U fun K15 hK15=>bs h1 fun c16 gc16 h1=>zx Hi gc16 U U U (zq tb U (Ap (m:=3) (st':=[(G8 p0),Ij,(ro 0 55 2 (A0 3 55 71) l6),⟨0,55,2,[[.zc,(i64 0)]]⟩]) Ah Kv U U (A3 (st':=[(G8 p0),Ij,(ro 0 55 2 (A0 3 55 71) l6),⟨0,55,2,[[(ls Al c16.steps),(i64 c16.result)]]⟩]) Ah JV U U U U U U (show 0+2≤2 by decide) rfl (dn hK15 U (AJ U (zm tb 3 U ?_)))))))))
  refine bs h1 fun q17 gq17 h1=>Pj (v':=(.agg [(ow 4 0 q17.steps),(i64 q17.result)])) (st':=[(G8 p0),Ij,(ro 0 55 2 (A0 3 55 71) l6),⟨0,55,2,[[(ls Al c16.steps),(i64 c16.result)]]⟩,(ro 0 71 5 (Am 3 55 71) q17.steps)]) Ah U aP (hrec_impl_plainBlock gq17) rfl U ⟨(Af BQ),trivial⟩ U U ?_
  refine DV (m:=5) (st':=[(G8 p0),Ij,(ro 0 55 2 (A0 3 55 71) l6),⟨0,55,2,[[(ls Al c16.steps),(i64 c16.result)]]⟩,(ro 0 71 5 (Am 3 55 71) q17.steps),⟨0,55,2,[[(ow 4 0 q17.steps),(i64 q17.result)]]⟩]) (l:=[()]) (enc:=fun _=>[(ow 4 0 q17.steps),(i64 q17.result)]) Ah Hi (by decide) rfl U U U U U ?_
  refine bs h1 fun l18 gl18 h1=>?_
  have g19:=RM gl18
  refine Tj (st':=[(G8 p0),Ij,⟨1,55,2,hole l18 (A0 3 55 71) (Sh.len l6) [(ow 4 0 q17.steps),(i64 q17.result)]⟩,⟨0,55,2,[[(ls Al c16.steps),(i64 c16.result)]]⟩,(ro 0 71 5 (Am 3 55 71) q17.steps),⟨0,55,2,[[(ow 4 0 q17.steps),(i64 q17.result)]]⟩]) (c:=q17) Ah Hi U U U U U U U gl18 U ?_
  refine Az (Wk.take (id:=2) (m:=4) (j:=0) (i:=Sh.len l6) (c:=q17) (ys:=q17.steps) (encY:=(Am 3 55 71)) (x':=[(.dv 71 5 (List.map (Am 3 55 71) q17.steps)),(i64 q17.result)]) (st':=[(G8 p0),Ij,⟨1,55,2,hole l18 (A0 3 55 71) (Sh.len l6) [(.dv 71 5 (List.map (Am 3 55 71) q17.steps)),(i64 q17.result)]⟩,⟨0,55,2,[[(ls Al c16.steps),(i64 c16.result)]]⟩,⟨1,71,5,[]⟩,⟨0,55,2,[[(ow 4 0 q17.steps),(i64 q17.result)]]⟩]) rfl g19 U U U (by decide) (show 0≤4 by decide) HO U U) ?_
  refine Az (KC (id:=2) (i:=Sh.len l6) (c:=q17) (st':=[(G8 p0),Ij,(ro 1 55 2 (A0 3 55 71) l18),⟨0,55,2,[[(ls Al c16.steps),(i64 c16.result)]]⟩,⟨1,71,5,[]⟩,⟨0,55,2,[[(ow 4 0 q17.steps),(i64 q17.result)]]⟩]) rfl g19 U U) (zq tb U (dn hK14 U (AJ U (zm tb 2 U ?_))))
  exact AB (xi (Sh.w (t5+1),l18) h1 (by refine Wk.trans (AP (L:=[(1,(.fn 57 [])),(2,(.ptr 0 0 0 0)),(4,(.ptr 1 0 0 0)),(5,(ow 2 1 l18)),(9,(ls A2 p0.kids)),(10,(i64 (Sh.len p0.kids))),(11,(i64 (Sh.w (t5+1))))]) (st':=[(G8 p0),Ij,(ro 1 55 2 (A0 3 55 71) l18)]) (st1:=[(G8 p0),Ij,(ro 1 55 2 (A0 3 55 71) l18)]) [0,1,2] U .nil (by decide) rfl U (.raw U U (.raw U U (.deep (Af fun _=>U) .nil))) ⟨.rfl,.rfl,.rfl,.rfl,.rfl,.rfl,.rfl,trivial⟩) ?_;exact Cz (L:=[(1,(.fn 57 [])),(2,(.ptr 0 0 0 0)),(4,(.ptr 1 0 0 0)),(5,(ow 2 0 l18)),(9,(ls A2 p0.kids)),(10,(i64 (Sh.len p0.kids))),(11,(i64 (Sh.w (t5+1))))]) (st':=[(G8 p0),Ij,(ro 0 55 2 (A0 3 55 71) l18)]) (.raw U U (.raw U U (.deep (Af fun _=>U) .nil))) ⟨.rfl,.rfl,.rfl,.rfl,.rfl,.rfl,.rfl,trivial⟩))
 ·intro b13 h1
  exact Ay (M8 l6 (Sh.AA h1).symm _ (AN U))
noncomputable abbrev UX (p0:Block) (t5:Int):List (Nat×Go.Abs.AV):=[(2,(.ptr 0 0 0 0)),(3,(.ptr 1 0 0 0)),(10,(ls Al p0.steps)),(11,(i64 (Sh.len p0.steps))),(12,(i64 t5))]
theorem L5 {N:Nat} {rec_impl_plainBlock:Block→Option (Block)} (hrec_impl_plainBlock :∀{p0:Block} {r:Block},rec_impl_plainBlock p0=some r→Ae Tryz.prog 57 [(.agg [(ls Al p0.steps),(i64 p0.result)])] [] (fun v st=>v=(.agg [(ow 0 0 r.steps),(i64 r.result)])∧st=[(ro 0 71 5 (Am 3 55 71) r.steps)])) {p0:Block} {r:Block} (h0:GU N rec_impl_plainBlock p0=some r):Ae Tryz.prog 57 [(.agg [(ls Al p0.steps),(i64 p0.result)])] [] (fun v st=>v=(.agg [(ow 0 0 r.steps),(i64 r.result)])∧st=[(ro 0 71 5 (Am 3 55 71) r.steps)]):=by
 unfold GU at h0
 refine Ae.wk (r0:=(.agg [(ow 0 0 r.steps),(i64 r.result)])) (st0:=[(ro 0 71 5 (Am 3 55 71) r.steps),⟨0,55,2,[[(ow 0 0 r.steps),(i64 r.result)]]⟩]) ?_ (FH (L:=[(0,(.agg [(ow 0 0 r.steps),(i64 r.result)]))]) (st':=[(ro 0 71 5 (Am 3 55 71) r.steps)]) [0] U (by decide) rfl U (.deep (Af BQ) trivial) ⟨.rfl,trivial⟩)
 refine ai Tryz.func57 U U U U (sr U fun K1 hK1=>BI (m:=0) (st':=[(O1 p0)]) Ah U U U U U (Ap (m:=1) (st':=[(O1 p0),⟨0,55,2,[[.zc,(i64 0)]]⟩]) Ah Kv U U (dn hK1 U (sr U fun K2 hK2=>zm tb 2 U (zz (.agg [.zc,(i64 p0.result)]) (GV aE aB Kv U U) rfl (Ap (m:=2) (st':=[(O1 p0),⟨0,55,2,[[.zc,(i64 0)]]⟩,⟨0,55,2,[[.zc,(i64 0)]]⟩]) Ah Kv U U (A3 (st':=[(O1 p0),⟨0,55,2,[[.zc,(i64 0)]]⟩,⟨0,55,2,[[.zc,(i64 p0.result)]]⟩]) Ah JV U U U U U U (show 0+2≤2 by decide) rfl (dn hK2 U (AE fun K3 hK3=>?_)))))))))
 refine sr U fun K4 hK4=>zm tb 2 U (zl tb U U (zq tb U (dn hK4 U (bs h0 fun o8 h1 h0=>?_))))
 have M8 :∀(l7:(List Step)),o8=l7→∀s,Wk 0 s ⟨31,Ad [(2,(.ptr 0 0 0 0)),(3,(.ptr 1 0 0 0))],[⟨0,55,2,[[.zc,(i64 0)]]⟩,⟨0,55,2,[[(ow 2 0 l7),(i64 p0.result)]]⟩,(ro 0 71 5 (Am 3 55 71) l7)]⟩→K3 s:=by
  intro l7 hq s hw
  subst o8
  try dsimp only at h0
  refine hK3 _ (AS hw (sr U fun K9 hK9=>zq tb U (A3 (st':=[⟨0,55,2,[[(ow 2 0 l7),(i64 p0.result)]]⟩,⟨0,55,2,[[(ow 2 0 l7),(i64 p0.result)]]⟩,(ro 0 71 5 (Am 3 55 71) l7)]) Ah JV U U U U U U (show 0+2≤2 by decide) rfl (dn hK9 U ?_))))
  replace h0:=Sh.AA h0
  subst r
  exact AK (Exists.intro _ (And.intro ((AP (L:=[(2,(.ptr 1 0 0 0))]) (st':=[(ro 0 71 5 (Am 3 55 71) l7),⟨0,55,2,[[(ow 0 0 l7),(i64 p0.result)]]⟩]) (st1:=[(ro 0 71 5 (Am 3 55 71) l7),⟨0,55,2,[[(ow 2 0 l7),(i64 p0.result)]]⟩]) [2,0] U .nil (by decide) rfl U (.deep (Af BQ) (.raw U U .nil)) ⟨.rfl,trivial⟩).trans (AF (L:=[(2,(.ptr 1 0 0 0))]) ⟨.rfl,trivial⟩)) (Cb (x:=.tmp 2) (off:=0) (cs:=[(ow 0 0 l7),(i64 p0.result)]) (vs:=[(ow 0 0 l7),(i64 p0.result)]) JV U U U (show 0+2≤2 by decide) rfl _ ⟨U,U⟩)))
 refine Aa (Au (σ:=Int×(List Step)) (fun n v=>B9 N p0 rec_impl_plainBlock n v.1 v.2=some o8) (fun (t5,l6)=>⟨31,Ad (UX p0 t5),[⟨0,55,2,[[.zc,(i64 0)]]⟩,⟨0,55,2,[[(ow 2 0 l6),(i64 p0.result)]]⟩,(ro 0 71 5 (Am 3 55 71) l6)]⟩) N (0,[]) h1 (by refine Wk.trans (IK (id:=2) (st':=[(O1 p0),⟨0,55,2,[[.zc,(i64 0)]]⟩,⟨0,55,2,[[(.own 3 0 (List.length ([]:List Step))),(i64 p0.result)]]⟩,(ro 0 71 5 (Am 3 55 71) ([]:List Step))]) (j:=0) rfl U 71 (size':=5) (by decide) rfl U U U) ?_;exact AP (L:=[(2,(.ptr 0 0 0 0)),(3,(.ptr 1 0 0 0)),(10,(ls Al p0.steps)),(11,(i64 (Sh.len p0.steps))),(12,(i64 0))]) (st':=[⟨0,55,2,[[.zc,(i64 0)]]⟩,⟨0,55,2,[[(.own 2 0 (List.length ([]:List Step))),(i64 p0.result)]]⟩,(ro 0 71 5 (Am 3 55 71) ([]:List Step))]) (st1:=[⟨0,55,2,[[.zc,(i64 0)]]⟩,⟨0,55,2,[[(.own 3 0 (List.length ([]:List Step))),(i64 p0.result)]]⟩,(ro 0 71 5 (Am 3 55 71) ([]:List Step))]) [1,2,3] U .nil (by decide) rfl U (.raw U U (.raw U U (.deep (Af BQ) .nil))) ⟨.rfl,.rfl,.rfl,.rfl,.rfl,trivial⟩) (fun _ hv=>by rw[B9] at hv;cases hv) ?_)
 rintro n ⟨t5,l6⟩ h1
 try dsimp only at h1 ⊢
 rw[B9] at h1
 refine zr tb U U (AE fun K11 hK11=>?_)
 refine ci h1 U ?_ ?_ <;> clear h1
 ·intro b12 h1
  refine AI (hK11 _ (AE fun K13 hK13=>bs h1 fun o15 h2 h1=>?_))
  have M15 :∀(l14:(List Step)),o15=l14→∀s,Wk 0 s ⟨31,Ad (UX p0 t5),[⟨0,55,2,[[.zc,(i64 0)]]⟩,⟨0,55,2,[[(ow 2 0 l14),(i64 p0.result)]]⟩,(ro 0 71 5 (Am 3 55 71) l14)]⟩→K13 s:=by
   intro l14 hq s hw
   subst o15
   try dsimp only at h1
   exact hK13 _ (AS hw (AJ U (zm tb 2 U (AB (xi (Sh.w (t5+1),l14) h1 (AN U))))))
  refine Aa (sr U fun K16 hK16=>bs h2 fun c17 gc17 h2=>zz (.BF [(i64 c17.op),(i64 c17.num),(i64 c17.Ax),(ls eI c17.args),(ls A2 c17.kids)] 0) (Di FD U U gc17 (Bw _) rfl) rfl (zq tb U (Ap (m:=3) (st':=[⟨0,55,2,[[.zc,(i64 0)]]⟩,⟨0,55,2,[[(ow 2 0 l6),(i64 p0.result)]]⟩,(ro 0 71 5 (Am 3 55 71) l6),Ij]) Ah Np U U (A3 (st':=[⟨0,55,2,[[.zc,(i64 0)]]⟩,⟨0,55,2,[[(ow 2 0 l6),(i64 p0.result)]]⟩,(ro 0 71 5 (Am 3 55 71) l6),⟨0,71,5,[[(i64 c17.op),(i64 c17.num),(i64 c17.Ax),(ls eI c17.args),(ls A2 c17.kids)]]⟩]) Ah KZ U U U U U U (show 0+5≤5 by decide) rfl (dn hK16 U (sr U fun K18 hK18=>zm tb 2 U (bs h2 fun q19 gq19 h2=>zc Wd (Fu gq19) rfl U U ?_)))))))
  refine zq tb U (dn hK18 U ?_)
  refine ci h2 U ?_ ?_ <;> clear h2
  ·intro b20 h2
   have b21:q19=false:=by simpa using b20
   refine sr U fun K22 hK22=>zq tb U (bs h2 fun q23 gq23 h2=>BW (v':=(.agg [(i64 q23.op),(i64 q23.num),(i64 q23.Ax),(ow 4 0 q23.args),(ow 5 0 q23.kids)])) (st':=[⟨0,55,2,[[.zc,(i64 0)]]⟩,⟨0,55,2,[[(ow 2 0 l6),(i64 p0.result)]]⟩,(ro 0 71 5 (Am 3 55 71) l6),⟨0,71,5,[[(i64 c17.op),(i64 c17.num),(i64 c17.Ax),(ls eI c17.args),(ls A2 c17.kids)]]⟩,(ro 0 3 1 eI q23.args),(ro 0 55 2 (A0 3 55 71) q23.kids)]) Ah aa (L0 hrec_impl_plainBlock gq23) rfl U ⟨(Bf fun _=>U),⟨(Af fun _=>U),trivial⟩⟩ U U (A3 (st':=[⟨0,55,2,[[.zc,(i64 0)]]⟩,⟨0,55,2,[[(ow 2 0 l6),(i64 p0.result)]]⟩,(ro 0 71 5 (Am 3 55 71) l6),⟨0,71,5,[[(i64 q23.op),(i64 q23.num),(i64 q23.Ax),(ow 4 0 q23.args),(ow 5 0 q23.kids)]]⟩,(ro 0 3 1 eI q23.args),(ro 0 55 2 (A0 3 55 71) q23.kids)]) Ah KZ U U U U U U (show 0+5≤5 by decide) rfl (dn hK22 U (sr U fun K24 hK24=>zq tb U (A3 (st':=[⟨0,55,2,[[.zc,(i64 0)]]⟩,⟨0,55,2,[[(ow 2 0 l6),(i64 p0.result)]]⟩,(ro 0 71 5 (Am 3 55 71) l6),⟨0,71,5,[[(i64 q23.op),(i64 q23.num),(i64 0),(ow 4 0 q23.args),(ow 5 0 q23.kids)]]⟩,(ro 0 3 1 eI q23.args),(ro 0 55 2 (A0 3 55 71) q23.kids)]) Ah HN U U U U U U (show 2+1≤5 by decide) rfl (dn hK24 U (AJ U (zm tb 3 U ?_))))))))
   refine DV (m:=6) (st':=[⟨0,55,2,[[.zc,(i64 0)]]⟩,⟨0,55,2,[[(ow 2 0 l6),(i64 p0.result)]]⟩,(ro 0 71 5 (Am 3 55 71) l6),⟨0,71,5,[[(i64 q23.op),(i64 q23.num),(i64 0),(ow 4 0 q23.args),(ow 5 0 q23.kids)]]⟩,(ro 0 3 1 eI q23.args),(ro 0 55 2 (A0 3 55 71) q23.kids),⟨0,71,5,[[(i64 q23.op),(i64 q23.num),(i64 0),(ow 4 0 q23.args),(ow 5 0 q23.kids)]]⟩]) (l:=[()]) (enc:=fun _=>[(i64 q23.op),(i64 q23.num),(i64 0),(ow 4 0 q23.args),(ow 5 0 q23.kids)]) Ah FD (by decide) rfl U U U U U ?_
   refine bs h2 fun l25 gl25 h2=>?_
   have g26:=RM gl25
   refine Tj (st':=[⟨0,55,2,[[.zc,(i64 0)]]⟩,⟨0,55,2,[[(ow 2 0 l6),(i64 p0.result)]]⟩,⟨1,71,5,hole l25 (Am 3 55 71) (Sh.len l6) [(i64 q23.op),(i64 q23.num),(i64 0),(ow 4 0 q23.args),(ow 5 0 q23.kids)]⟩,⟨0,71,5,[[(i64 q23.op),(i64 q23.num),(i64 0),(ow 4 0 q23.args),(ow 5 0 q23.kids)]]⟩,(ro 0 3 1 eI q23.args),(ro 0 55 2 (A0 3 55 71) q23.kids),⟨0,71,5,[[(i64 q23.op),(i64 q23.num),(i64 0),(ow 4 0 q23.args),(ow 5 0 q23.kids)]]⟩]) (c:=(Step.mk q23.op q23.num 0 q23.args q23.kids)) Ah FD U U U U U U U gl25 U ?_
   refine Az (Wk.take (id:=2) (m:=4) (j:=3) (i:=Sh.len l6) (c:=(Step.mk q23.op q23.num 0 q23.args q23.kids)) (ys:=q23.args) (encY:=eI) (x':=[(i64 q23.op),(i64 q23.num),(i64 0),(.dv 3 1 (List.map eI q23.args)),(ow 5 0 q23.kids)]) (st':=[⟨0,55,2,[[.zc,(i64 0)]]⟩,⟨0,55,2,[[(ow 2 0 l6),(i64 p0.result)]]⟩,⟨1,71,5,hole l25 (Am 3 55 71) (Sh.len l6) [(i64 q23.op),(i64 q23.num),(i64 0),(.dv 3 1 (List.map eI q23.args)),(ow 5 0 q23.kids)]⟩,⟨0,71,5,[[(i64 q23.op),(i64 q23.num),(i64 0),(ow 4 0 q23.args),(ow 5 0 q23.kids)]]⟩,⟨1,3,1,[]⟩,(ro 0 55 2 (A0 3 55 71) q23.kids),⟨0,71,5,[[(i64 q23.op),(i64 q23.num),(i64 0),(ow 4 0 q23.args),(ow 5 0 q23.kids)]]⟩]) rfl g26 U U U (by decide) (show 0≤4 by decide) (fun _=>U) rfl U) ?_
   refine Az (Wk.take (id:=2) (m:=5) (j:=4) (i:=Sh.len l6) (c:=(Step.mk q23.op q23.num 0 q23.args q23.kids)) (ys:=q23.kids) (encY:=(A0 3 55 71)) (x':=[(i64 q23.op),(i64 q23.num),(i64 0),(.dv 3 1 (List.map eI q23.args)),(.dv 55 2 (List.map (A0 3 55 71) q23.kids))]) (st':=[⟨0,55,2,[[.zc,(i64 0)]]⟩,⟨0,55,2,[[(ow 2 0 l6),(i64 p0.result)]]⟩,⟨1,71,5,hole l25 (Am 3 55 71) (Sh.len l6) [(i64 q23.op),(i64 q23.num),(i64 0),(.dv 3 1 (List.map eI q23.args)),(.dv 55 2 (List.map (A0 3 55 71) q23.kids))]⟩,⟨0,71,5,[[(i64 q23.op),(i64 q23.num),(i64 0),(ow 4 0 q23.args),(ow 5 0 q23.kids)]]⟩,⟨1,3,1,[]⟩,⟨1,55,2,[]⟩,⟨0,71,5,[[(i64 q23.op),(i64 q23.num),(i64 0),(ow 4 0 q23.args),(ow 5 0 q23.kids)]]⟩]) rfl g26 U U U (by decide) (show 0≤5 by decide) (fun _=>U) rfl U) ?_
   refine Az (KC (id:=2) (i:=Sh.len l6) (c:=(Step.mk q23.op q23.num 0 q23.args q23.kids)) (st':=[⟨0,55,2,[[.zc,(i64 0)]]⟩,⟨0,55,2,[[(ow 2 0 l6),(i64 p0.result)]]⟩,(ro 1 71 5 (Am 3 55 71) l25),⟨0,71,5,[[(i64 q23.op),(i64 q23.num),(i64 0),(ow 4 0 q23.args),(ow 5 0 q23.kids)]]⟩,⟨1,3,1,[]⟩,⟨1,55,2,[]⟩,⟨0,71,5,[[(i64 q23.op),(i64 q23.num),(i64 0),(ow 4 0 q23.args),(ow 5 0 q23.kids)]]⟩]) rfl g26 (DX (Step.mk q23.op q23.num 0 q23.args q23.kids)).symm U) (zq tb U (A3 (st':=[⟨0,55,2,[[.zc,(i64 0)]]⟩,⟨0,55,2,[[(ow 2 1 l25),(i64 p0.result)]]⟩,(ro 1 71 5 (Am 3 55 71) l25),⟨0,71,5,[[(i64 q23.op),(i64 q23.num),(i64 0),(ow 4 0 q23.args),(ow 5 0 q23.kids)]]⟩,⟨1,3,1,[]⟩,⟨1,55,2,[]⟩,⟨0,71,5,[[(i64 q23.op),(i64 q23.num),(i64 0),(ow 4 0 q23.args),(ow 5 0 q23.kids)]]⟩]) Ah Ub U U U U U U (show 0+1≤2 by decide) rfl ?_))
   exact AB (M15 l25 (Sh.AA h2).symm _ (by refine Wk.trans (AP (L:=(UX p0 t5)) (st':=[⟨0,55,2,[[.zc,(i64 0)]]⟩,⟨0,55,2,[[(ow 2 1 l25),(i64 p0.result)]]⟩,(ro 1 71 5 (Am 3 55 71) l25)]) (st1:=[⟨0,55,2,[[.zc,(i64 0)]]⟩,⟨0,55,2,[[(ow 2 1 l25),(i64 p0.result)]]⟩,(ro 1 71 5 (Am 3 55 71) l25)]) [0,1,2] U .nil (by decide) rfl U (.raw U U (.raw U U (.deep (Af BQ) .nil))) ⟨.rfl,.rfl,.rfl,.rfl,.rfl,trivial⟩) ?_;exact Cz (L:=(UX p0 t5)) (st':=[⟨0,55,2,[[.zc,(i64 0)]]⟩,⟨0,55,2,[[(ow 2 0 l25),(i64 p0.result)]]⟩,(ro 0 71 5 (Am 3 55 71) l25)]) (.raw U U (.raw U U (.deep (Af BQ) .nil))) ⟨.rfl,.rfl,.rfl,.rfl,.rfl,trivial⟩))
  ·intro b20 h2
   have b27:q19=true:=by simpa using b20
   exact AI (M15 l6 (Sh.AA h2).symm _ (AP (L:=(UX p0 t5)) (st':=[⟨0,55,2,[[.zc,(i64 0)]]⟩,⟨0,55,2,[[(ow 2 0 l6),(i64 p0.result)]]⟩,(ro 0 71 5 (Am 3 55 71) l6)]) (st1:=[⟨0,55,2,[[.zc,(i64 0)]]⟩,⟨0,55,2,[[(ow 2 0 l6),(i64 p0.result)]]⟩,(ro 0 71 5 (Am 3 55 71) l6)]) [0,1,2] U .nil (by decide) rfl U (.raw U U (.raw U U (.deep (Af BQ) .nil))) ⟨.rfl,.rfl,.rfl,.rfl,.rfl,trivial⟩))
 ·intro b12 h1
  exact Ay (M8 l6 (Sh.AA h1).symm _ (AN U))

theorem MD {N:Nat} :∀(n:Nat),∀{p0:Block} {r:Block},DO N n p0=some r→Ae Tryz.prog 57 [(.agg [(ls Al p0.steps),(i64 p0.result)])] [] (fun v st=>v=(.agg [(ow 0 0 r.steps),(i64 r.result)])∧st=[(ro 0 71 5 (Am 3 55 71) r.steps)]):=by
 intro n
 induction n with
 | zero=>intro p0 r h0;cases h0
 | succ n ih=>
  intro p0 r h0
  rw[DO] at h0
  exact L5 (fun h=>ih h) h0
theorem Nm {N:Nat} :∀{p0:Block} {r:Block},HS N p0=some r→Ae Tryz.prog 57 [(.agg [(ls Al p0.steps),(i64 p0.result)])] [] (fun v st=>v=(.agg [(ow 0 0 r.steps),(i64 r.result)])∧st=[(ro 0 71 5 (Am 3 55 71) r.steps)]):=by
 intro p0 r h0
 exact MD N h0
noncomputable abbrev Us (p0:Ac):Go.Abs.Row:=⟨0,57,5,[[(ls eI p0.params),(ls eI p0.At),(i64 p0.result),(ls Al p0.body.steps),(i64 p0.body.result)]]⟩
noncomputable abbrev Wi (p1:Block):Go.Abs.Row:=⟨0,55,2,[[(ls Al p1.steps),(i64 p1.result)]]⟩
theorem Kb {N:Nat} {p0:Ac} {p1:Block} {r:Block} (h0:Ik N p0 p1=some r):Ae Tryz.prog 56 [(.agg [(ls eI p0.params),(ls eI p0.At),(i64 p0.result),(ls Al p0.body.steps),(i64 p0.body.result)]),(.agg [(ls Al p1.steps),(i64 p1.result)])] [] (fun v st=>v=(.agg [(ow 0 0 r.steps),(i64 r.result)])∧st=[(ro 0 71 5 (Am 3 55 71) r.steps)]):=by
 unfold Ik at h0
 refine Ae.wk (r0:=(.agg [(ow 0 0 r.steps),(i64 r.result)])) (st0:=[(ro 0 71 5 (Am 3 55 71) r.steps),⟨0,55,2,[[(ow 0 0 r.steps),(i64 r.result)]]⟩]) ?_ (FH (L:=[(0,(.agg [(ow 0 0 r.steps),(i64 r.result)]))]) (st':=[(ro 0 71 5 (Am 3 55 71) r.steps)]) [0] U (by decide) rfl U (.deep (Af BQ) trivial) ⟨.rfl,trivial⟩)
 refine ai Tryz.func56 U U U U (sr U fun K1 hK1=>BI (m:=0) (st':=[(Us p0)]) Ah U U U U U (BI (m:=1) (st':=[(Us p0),(Wi p1)]) Ah U U U U U (Ap (m:=2) (st':=[(Us p0),(Wi p1),⟨0,55,2,[[.zc,(i64 0)]]⟩]) Ah Kv U U (dn hK1 U (sr U fun K2 hK2=>zq tb U (bs h0 fun q3 gq3 h0=>BW (v':=(.agg [(ow 3 0 q3.steps),(i64 q3.result)])) (st':=[(Us p0),(Wi p1),⟨0,55,2,[[.zc,(i64 0)]]⟩,(ro 0 71 5 (Am 3 55 71) q3.steps)]) Ah aP (Nm gq3) rfl U ⟨(Af BQ),trivial⟩ U U (A3 (st':=[(Us p0),(Wi p1),⟨0,55,2,[[(ow 3 0 q3.steps),(i64 q3.result)]]⟩,(ro 0 71 5 (Am 3 55 71) q3.steps)]) Ah JV U U U U U U (show 0+2≤2 by decide) rfl (dn hK2 U ?_))))))))
 replace h0:=Sh.AA h0
 subst r
 exact AK (Exists.intro _ (And.intro ((AP (L:=[(4,(.ptr 1 0 0 0))]) (st':=[(ro 0 71 5 (Am 3 55 71) q3.steps),⟨0,55,2,[[(ow 0 0 q3.steps),(i64 q3.result)]]⟩]) (st1:=[(ro 0 71 5 (Am 3 55 71) q3.steps),⟨0,55,2,[[(ow 3 0 q3.steps),(i64 q3.result)]]⟩]) [3,2] U .nil (by decide) rfl U (.deep (Af BQ) (.raw U U .nil)) ⟨.rfl,trivial⟩).trans (AF (L:=[(4,(.ptr 1 0 0 0))]) ⟨.rfl,trivial⟩)) (Cb (x:=.tmp 4) (off:=0) (cs:=[(ow 0 0 q3.steps),(i64 q3.result)]) (vs:=[(ow 0 0 q3.steps),(i64 q3.result)]) JV U U U (show 0+2≤2 by decide) rfl _ ⟨U,U⟩)))
theorem KH {N:Nat} {p0:Aj} {r:Aj} (h0:FB N p0=some r):Ae Tryz.prog 35 [(.agg [(ls AG p0.decls),(ls AT p0.AD)]),(.fn 56 [])] [] (fun v st=>v=(.agg [(ow 0 0 r.decls),(ow 1 0 r.AD)])∧st=[(ro 0 98 3 (Ab 134 3) r.decls),(ro 0 57 5 (AM 3 3 3 55 71) r.AD)]):=by
 unfold FB at h0
 refine Ae.wk (r0:=(.agg [(ow 0 0 r.decls),(ow 1 0 r.AD)])) (st0:=[(ro 0 98 3 (Ab 134 3) r.decls),(ro 0 57 5 (AM 3 3 3 55 71) r.AD),⟨0,30,2,[[(ow 0 0 r.decls),(ow 1 0 r.AD)]]⟩]) ?_ (FH (L:=[(0,(.agg [(ow 0 0 r.decls),(ow 1 0 r.AD)]))]) (st':=[(ro 0 98 3 (Ab 134 3) r.decls),(ro 0 57 5 (AM 3 3 3 55 71) r.AD)]) [0,1] U (by decide) rfl U (.deep (Af fun _=>U) (.deep (Af fun _=>U) trivial)) ⟨.rfl,trivial⟩)
 refine ai Tryz.func35 U U U U (sr U fun K1 hK1=>BI (m:=0) (st':=[(It p0)]) Ah U U U U U (Ap (m:=1) (st':=[(It p0),⟨0,30,2,[[.zc,.zc]]⟩]) Ah JQ U U (dn hK1 U (sr U fun K2 hK2=>zm tb 2 U (bs h0 fun q3 gq3 h0=>BW (v':=(ow 2 0 q3)) (st':=[(It p0),⟨0,30,2,[[.zc,.zc]]⟩,(ro 0 98 3 (Ab 134 3) q3)]) Ah dG (Cl.L6 gq3) rfl U ⟨(Af fun _=>U),trivial⟩ U U (zz (.agg [(ow 2 0 q3),.zc]) (GV W3 WX JQ U U) rfl (Ap (m:=3) (st':=[(It p0),⟨0,30,2,[[.zc,.zc]]⟩,(ro 0 98 3 (Ab 134 3) q3),⟨0,30,2,[[.zc,.zc]]⟩]) Ah JQ U U (A3 (st':=[(It p0),⟨0,30,2,[[.zc,.zc]]⟩,(ro 0 98 3 (Ab 134 3) q3),⟨0,30,2,[[(ow 2 0 q3),.zc]]⟩]) Ah Hl U U U U U U (show 0+2≤2 by decide) rfl ?_))))))))
 refine dn hK2 U (AE fun K4 hK4=>sr U fun K5 hK5=>zm tb 2 U (zl tb U U (zq tb U (dn hK5 U (bs h0 fun o9 h1 h0=>?_)))))
 have M9 :∀(l8:(List Ac)),o9=l8→∀s,Wk 0 s ⟨40,Ad [(4,(.ptr 0 0 0 0)),(5,(.ptr 2 0 0 0))],[⟨0,30,2,[[.zc,.zc]]⟩,(ro 0 98 3 (Ab 134 3) q3),⟨0,30,2,[[(ow 1 0 q3),(ow 3 0 l8)]]⟩,(ro 0 57 5 (AM 3 3 3 55 71) l8)]⟩→K4 s:=by
  intro l8 hq s hw
  subst o9
  try dsimp only at h0
  refine hK4 _ (AS hw (sr U fun K10 hK10=>zq tb U (A3 (st':=[⟨0,30,2,[[(ow 1 0 q3),(ow 3 0 l8)]]⟩,(ro 0 98 3 (Ab 134 3) q3),⟨0,30,2,[[(ow 1 0 q3),(ow 3 0 l8)]]⟩,(ro 0 57 5 (AM 3 3 3 55 71) l8)]) Ah Hl U U U U U U (show 0+2≤2 by decide) rfl (dn hK10 U ?_))))
  replace h0:=Sh.AA h0
  subst r
  exact AK (Exists.intro _ (And.intro ((AP (L:=[(4,(.ptr 2 0 0 0))]) (st':=[(ro 0 98 3 (Ab 134 3) q3),(ro 0 57 5 (AM 3 3 3 55 71) l8),⟨0,30,2,[[(ow 0 0 q3),(ow 1 0 l8)]]⟩]) (st1:=[(ro 0 98 3 (Ab 134 3) q3),(ro 0 57 5 (AM 3 3 3 55 71) l8),⟨0,30,2,[[(ow 1 0 q3),(ow 3 0 l8)]]⟩]) [1,3,0] U .nil (by decide) rfl U (.deep (Af fun _=>U) (.deep (Af fun _=>U) (.raw U U .nil))) ⟨.rfl,trivial⟩).trans (AF (L:=[(4,(.ptr 2 0 0 0))]) ⟨.rfl,trivial⟩)) (Cb (x:=.tmp 4) (off:=0) (cs:=[(ow 0 0 q3),(ow 1 0 l8)]) (vs:=[(ow 0 0 q3),(ow 1 0 l8)]) Hl U U U (show 0+2≤2 by decide) rfl _ ⟨U,U⟩)))
 refine Aa (Au (σ:=Int×(List Ac)) (fun n v=>Bv N p0 n v.1 v.2=some o9) (fun (t6,l7)=>⟨40,Ad [(1,(.fn 56 [])),(4,(.ptr 0 0 0 0)),(5,(.ptr 2 0 0 0)),(13,(ls AT p0.AD)),(14,(i64 (Sh.len p0.AD))),(15,(i64 t6))],[⟨0,30,2,[[.zc,.zc]]⟩,(ro 0 98 3 (Ab 134 3) q3),⟨0,30,2,[[(ow 1 0 q3),(ow 3 0 l7)]]⟩,(ro 0 57 5 (AM 3 3 3 55 71) l7)]⟩) N (0,[]) h1 (by refine Wk.trans (IK (id:=3) (st':=[(It p0),⟨0,30,2,[[.zc,.zc]]⟩,(ro 0 98 3 (Ab 134 3) q3),⟨0,30,2,[[(ow 2 0 q3),(.own 4 0 (List.length ([]:List Ac)))]]⟩,(ro 0 57 5 (AM 3 3 3 55 71) ([]:List Ac))]) (j:=1) rfl U 57 (size':=5) (by decide) rfl U U U) ?_;exact AP (L:=[(1,(.fn 56 [])),(4,(.ptr 0 0 0 0)),(5,(.ptr 2 0 0 0)),(13,(ls AT p0.AD)),(14,(i64 (Sh.len p0.AD))),(15,(i64 0))]) (st':=[⟨0,30,2,[[.zc,.zc]]⟩,(ro 0 98 3 (Ab 134 3) q3),⟨0,30,2,[[(ow 1 0 q3),(.own 3 0 (List.length ([]:List Ac)))]]⟩,(ro 0 57 5 (AM 3 3 3 55 71) ([]:List Ac))]) (st1:=[⟨0,30,2,[[.zc,.zc]]⟩,(ro 0 98 3 (Ab 134 3) q3),⟨0,30,2,[[(ow 2 0 q3),(.own 4 0 (List.length ([]:List Ac)))]]⟩,(ro 0 57 5 (AM 3 3 3 55 71) ([]:List Ac))]) [1,2,3,4] U .nil (by decide) rfl U (.raw U U (.deep (Af fun _=>U) (.raw U U (.deep (Af fun _=>U) .nil)))) ⟨.rfl,.rfl,.rfl,.rfl,.rfl,.rfl,trivial⟩) (fun _ hv=>by rw[Bv] at hv;cases hv) ?_)
 rintro n ⟨t6,l7⟩ h1
 try dsimp only at h1 ⊢
 rw[Bv] at h1
 refine zr tb U U (AE fun K12 hK12=>?_)
 refine ci h1 U ?_ ?_ <;> clear h1
 ·intro b13 h1
  refine AI (hK12 _ (AE fun K14 hK14=>Aa (sr U fun K15 hK15=>bs h1 fun c16 gc16 h1=>zx E7 gc16 U U U (zq tb U (Ap (m:=4) (st':=[⟨0,30,2,[[.zc,.zc]]⟩,(ro 0 98 3 (Ab 134 3) q3),⟨0,30,2,[[(ow 1 0 q3),(ow 3 0 l7)]]⟩,(ro 0 57 5 (AM 3 3 3 55 71) l7),⟨0,57,5,[[.zc,.zc,(i64 0),.zc,(i64 0)]]⟩]) Ah Lt U U (A3 (st':=[⟨0,30,2,[[.zc,.zc]]⟩,(ro 0 98 3 (Ab 134 3) q3),⟨0,30,2,[[(ow 1 0 q3),(ow 3 0 l7)]]⟩,(ro 0 57 5 (AM 3 3 3 55 71) l7),⟨0,57,5,[[(ls eI c16.params),(ls eI c16.At),(i64 c16.result),(ls Al c16.body.steps),(i64 c16.body.result)]]⟩]) Ah NJ U U U U U U (show 0+5≤5 by decide) rfl (dn hK15 U (AS (Wk.E5 (L:=[(1,(.fn 56 [])),(4,(.ptr 0 0 0 0)),(5,(.ptr 2 0 0 0)),(7,(.BF [(ls eI c16.params),(ls eI c16.At),(i64 c16.result),(ls Al c16.body.steps),(i64 c16.body.result)] 0)),(13,(ls AT p0.AD)),(14,(i64 (Sh.len p0.AD))),(15,(i64 t6))]) (st':=[⟨0,30,2,[[.zc,.zc]]⟩,(ro 0 98 3 (Ab 134 3) q3),⟨0,30,2,[[(ow 1 0 q3),(ow 3 0 l7)]]⟩,(ro 0 57 5 (AM 3 3 3 55 71) l7),⟨1,57,5,[]⟩]) (id:=4) rfl (show 0≤4 by decide) (XN U) ⟨.rfl,.rfl,.rfl,.rfl,.rfl,.rfl,.rfl,trivial⟩ U) ?_))))))))
  refine AW.cG (by kernel_rfl) ?_
  refine bs h1 fun q17 gq17 h1=>bs h1 fun q18 gq18 h1=>bs h1 fun q19 gq19 h1=>bs h1 fun l20 gl20 h1=>?_
  refine AZ.st (f':=20) (listed':=#[false,false,false,false,false,false,false,false,false,false,false,false,false,false,false,false,false,false,false,false]) rfl (by kernel_rfl) ?_
  refine Eu 0 (v:=(.ptr 2 0 0 1)) rfl U (by kernel_rfl) (by kernel_rfl) (by kernel_rfl) rfl (I9 (Rp Wy U U (show 0+1≤2 by decide) rfl)) ?_
  refine Eu 2 (v:=(.BF [(ls eI c16.params),(ls eI c16.At),(i64 c16.result),(ls Al c16.body.steps),(i64 c16.body.result)] 0)) rfl U (by kernel_rfl) (by kernel_rfl) (by kernel_rfl) rfl (I9 (Lm Z0 U U)) ?_
  refine Eu 3 (v:=(ls eI c16.params)) rfl U (by kernel_rfl) (by kernel_rfl) (by kernel_rfl) rfl (OS Iu U U) ?_
  refine Eu 5 (v:=(.BF [(ls eI c16.params),(ls eI c16.At),(i64 c16.result),(ls Al c16.body.steps),(i64 c16.body.result)] 1)) rfl U (by kernel_rfl) (by kernel_rfl) (by kernel_rfl) rfl (I9 (Lm Zu U U)) ?_
  refine Eu 6 (v:=(ls eI c16.At)) rfl U (by kernel_rfl) (by kernel_rfl) (by kernel_rfl) rfl (OS Iu U U) ?_
  refine Eu 8 (v:=(.BF [(ls eI c16.params),(ls eI c16.At),(i64 c16.result),(ls Al c16.body.steps),(i64 c16.body.result)] 2)) rfl U (by kernel_rfl) (by kernel_rfl) (by kernel_rfl) rfl (I9 (Lm Zg U U)) ?_
  refine Eu 9 (v:=(i64 c16.result)) rfl U (by kernel_rfl) (by kernel_rfl) (by kernel_rfl) rfl (OS HN U U) ?_
  refine Eu 10 (v:=(.fn 56 [])) rfl U (by kernel_rfl) (by kernel_rfl) (by kernel_rfl) rfl (I9 (F8 U)) ?_
  refine Eu 11 (v:=(.agg [(ls eI c16.params),(ls eI c16.At),(i64 c16.result),(ls Al c16.body.steps),(i64 c16.body.result)])) rfl U (by kernel_rfl) (by kernel_rfl) (by kernel_rfl) rfl (QO NJ U (show 0+5≤5 by decide) rfl) ?_
  refine Eu 12 (v:=(.BF [(ls eI c16.params),(ls eI c16.At),(i64 c16.result),(ls Al c16.body.steps),(i64 c16.body.result)] 3)) rfl U (by kernel_rfl) (by kernel_rfl) (by kernel_rfl) rfl (I9 (Lm Zw U U)) ?_
  refine Eu 13 (v:=(.agg [(ls Al c16.body.steps),(i64 c16.body.result)])) rfl U (by kernel_rfl) (by kernel_rfl) (by kernel_rfl) rfl (QO JV U (show 3+2≤5 by decide) rfl) ?_
  refine AZ.on (AY.one fun A22 hA22=>?_)
  have A22_0123456789abcdefghij:A22 0 #[true,true,true,true,true,true,true,true,true,true,true,true,true,true,true,true,true,true,true,true] ⟨40,Ad [(1,(.fn 56 [])),(4,(.ptr 0 0 0 0)),(5,(.ptr 1 0 0 0)),(13,(ls AT p0.AD)),(14,(i64 (Sh.len p0.AD))),(15,(i64 t6))],[⟨0,30,2,[[.zc,.zc]]⟩,⟨0,30,2,[[(ow 2 0 q3),(ow 3 0 l20)]]⟩,(ro 0 98 3 (Ab 134 3) q3),(ro 0 57 5 (AM 3 3 3 55 71) l20)]⟩:=(hA22 _ _ _).2 (by
   refine AY.done U (by kernel_rfl) ?_
   refine hK14 _ (AJ U (zm tb 2 U ?_))
   exact AB (xi (Sh.w (t6+1),l20) h1 (by refine Wk.trans (AP (L:=[(1,(.fn 56 [])),(4,(.ptr 0 0 0 0)),(5,(.ptr 2 0 0 0)),(13,(ls AT p0.AD)),(14,(i64 (Sh.len p0.AD))),(15,(i64 (Sh.w (t6+1))))]) (st':=[⟨0,30,2,[[.zc,.zc]]⟩,(ro 0 98 3 (Ab 134 3) q3),⟨0,30,2,[[(ow 1 0 q3),(ow 3 0 l20)]]⟩,(ro 0 57 5 (AM 3 3 3 55 71) l20)]) (st1:=[⟨0,30,2,[[.zc,.zc]]⟩,(ro 0 98 3 (Ab 134 3) q3),⟨0,30,2,[[(ow 2 0 q3),(ow 3 0 l20)]]⟩,(ro 0 57 5 (AM 3 3 3 55 71) l20)]) [0,2,1,3] U .nil (by decide) rfl U (.raw U U (.deep (Af fun _=>U) (.raw U U (.deep (Af fun _=>U) .nil)))) ⟨.rfl,.rfl,.rfl,.rfl,.rfl,.rfl,trivial⟩) ?_;exact AF (L:=[(1,(.fn 56 [])),(4,(.ptr 0 0 0 0)),(5,(.ptr 2 0 0 0)),(13,(ls AT p0.AD)),(14,(i64 (Sh.len p0.AD))),(15,(i64 (Sh.w (t6+1))))]) ⟨.rfl,.rfl,.rfl,.rfl,.rfl,.rfl,trivial⟩)))
  have A22_0123456789abcdefghi:A22 1 #[true,true,true,true,true,true,true,true,true,true,true,true,true,true,true,true,true,true,true,false] ⟨40,Ad [(1,(.fn 56 [])),(4,(.ptr 0 0 0 0)),(5,(.ptr 1 0 0 0)),(13,(ls AT p0.AD)),(14,(i64 (Sh.len p0.AD))),(15,(i64 t6)),(36,(ow 3 1 l20)),(37,(.ptr 1 0 0 1))],[⟨0,30,2,[[.zc,.zc]]⟩,⟨0,30,2,[[(ow 2 0 q3),(ow 3 0 l7)]]⟩,(ro 0 98 3 (Ab 134 3) q3),(ro 1 57 5 (AM 3 3 3 55 71) l20)]⟩:=(hA22 _ _ _).2 (by
   refine FF [19] U (by kernel_rfl) (by decide) ⟨?_,trivial⟩
   ·refine KG.of (i:=19) rfl U (by rfl) ?_
    refine A3 (st':=[⟨0,30,2,[[.zc,.zc]]⟩,⟨0,30,2,[[(ow 2 0 q3),(ow 3 1 l20)]]⟩,(ro 0 98 3 (Ab 134 3) q3),(ro 1 57 5 (AM 3 3 3 55 71) l20)]) Ah Y5 U U U U U U (show 1+1≤2 by decide) rfl (AB ⟨U,?_⟩)
    exact Bq (by refine Wk.trans (Cz (L:=[(1,(.fn 56 [])),(4,(.ptr 0 0 0 0)),(5,(.ptr 1 0 0 0)),(13,(ls AT p0.AD)),(14,(i64 (Sh.len p0.AD))),(15,(i64 t6))]) (st':=[⟨0,30,2,[[.zc,.zc]]⟩,⟨0,30,2,[[(ow 2 0 q3),(ow 3 0 l20)]]⟩,(ro 0 98 3 (Ab 134 3) q3),(ro 0 57 5 (AM 3 3 3 55 71) l20)]) (.raw U U (.raw U U (.deep (Af fun _=>U) (.deep (Af fun _=>U) .nil)))) ⟨.rfl,.rfl,.rfl,.rfl,.rfl,.rfl,trivial⟩) ?_;exact AF (L:=[(1,(.fn 56 [])),(4,(.ptr 0 0 0 0)),(5,(.ptr 1 0 0 0)),(13,(ls AT p0.AD)),(14,(i64 (Sh.len p0.AD))),(15,(i64 t6))]) ⟨.rfl,.rfl,.rfl,.rfl,.rfl,.rfl,trivial⟩) (DM (by kernel_rfl) ((hA22 _ _ _).1 A22_0123456789abcdefghij)) rfl)
  have A22_0123456789abcdefgh:A22 2 #[true,true,true,true,true,true,true,true,true,true,true,true,true,true,true,true,true,true,false,false] ⟨40,Ad [(1,(.fn 56 [])),(4,(.ptr 0 0 0 0)),(5,(.ptr 1 0 0 0)),(13,(ls AT p0.AD)),(14,(i64 (Sh.len p0.AD))),(15,(i64 t6)),(36,(ow 3 1 l20))],[⟨0,30,2,[[.zc,.zc]]⟩,⟨0,30,2,[[(ow 2 0 q3),(ow 3 0 l7)]]⟩,(ro 0 98 3 (Ab 134 3) q3),(ro 1 57 5 (AM 3 3 3 55 71) l20)]⟩:=(hA22 _ _ _).2 (by
   refine AY.hoist 18 (v:=(.ptr 1 0 0 1)) rfl U (by kernel_rfl) (by kernel_rfl) (by kernel_rfl) rfl (Rp Wy U U (show 0+1≤2 by decide) rfl) ?_
   exact Bq (AF (L:=[(1,(.fn 56 [])),(4,(.ptr 0 0 0 0)),(5,(.ptr 1 0 0 0)),(13,(ls AT p0.AD)),(14,(i64 (Sh.len p0.AD))),(15,(i64 t6)),(36,(ow 3 1 l20)),(37,(.ptr 1 0 0 1))]) ⟨.rfl,.rfl,.rfl,.rfl,.rfl,.rfl,.rfl,.rfl,trivial⟩) (DM (by kernel_rfl) ((hA22 _ _ _).1 A22_0123456789abcdefghi)) rfl)
  have A22_0123456789abcdefg:A22 3 #[true,true,true,true,true,true,true,true,true,true,true,true,true,true,true,true,true,false,false,false] ⟨40,Ad [(1,(.fn 56 [])),(4,(.ptr 0 0 0 0)),(5,(.ptr 1 0 0 0)),(13,(ls AT p0.AD)),(14,(i64 (Sh.len p0.AD))),(15,(i64 t6)),(20,(ow 3 0 l7)),(35,(.own 4 0 1))],[⟨0,30,2,[[.zc,.zc]]⟩,⟨0,30,2,[[(ow 2 0 q3),(ow 3 0 l7)]]⟩,(ro 0 98 3 (Ab 134 3) q3),(ro 0 57 5 (AM 3 3 3 55 71) l7),⟨0,57,5,[[(ow 5 0 q17),(ow 6 0 q18),(i64 c16.result),(ow 7 0 q19.steps),(i64 q19.result)]]⟩,(ro 0 3 1 eI q17),(ro 0 3 1 eI q18),(ro 0 71 5 (Am 3 55 71) q19.steps)]⟩:=(hA22 _ _ _).2 (by
   refine FF [17] U (by kernel_rfl) (by decide) ⟨?_,trivial⟩
   ·refine KG.of (i:=17) rfl U (by rfl) ?_
    have g23:=RM gl20
    refine Tj (st':=[⟨0,30,2,[[.zc,.zc]]⟩,⟨0,30,2,[[(ow 2 0 q3),(ow 3 0 l7)]]⟩,(ro 0 98 3 (Ab 134 3) q3),⟨1,57,5,hole l20 (AM 3 3 3 55 71) (Sh.len l7) [(ow 5 0 q17),(ow 6 0 q18),(i64 c16.result),(ow 7 0 q19.steps),(i64 q19.result)]⟩,⟨0,57,5,[[(ow 5 0 q17),(ow 6 0 q18),(i64 c16.result),(ow 7 0 q19.steps),(i64 q19.result)]]⟩,(ro 0 3 1 eI q17),(ro 0 3 1 eI q18),(ro 0 71 5 (Am 3 55 71) q19.steps)]) (c:=(Ac.mk q17 q18 c16.result q19)) Ah E7 U U U U U U U gl20 U ?_
    refine Az (Wk.take (id:=3) (m:=5) (j:=0) (i:=Sh.len l7) (c:=(Ac.mk q17 q18 c16.result q19)) (ys:=q17) (encY:=eI) (x':=[(.dv 3 1 (List.map eI q17)),(ow 6 0 q18),(i64 c16.result),(ow 7 0 q19.steps),(i64 q19.result)]) (st':=[⟨0,30,2,[[.zc,.zc]]⟩,⟨0,30,2,[[(ow 2 0 q3),(ow 3 0 l7)]]⟩,(ro 0 98 3 (Ab 134 3) q3),⟨1,57,5,hole l20 (AM 3 3 3 55 71) (Sh.len l7) [(.dv 3 1 (List.map eI q17)),(ow 6 0 q18),(i64 c16.result),(ow 7 0 q19.steps),(i64 q19.result)]⟩,⟨0,57,5,[[(ow 5 0 q17),(ow 6 0 q18),(i64 c16.result),(ow 7 0 q19.steps),(i64 q19.result)]]⟩,⟨1,3,1,[]⟩,(ro 0 3 1 eI q18),(ro 0 71 5 (Am 3 55 71) q19.steps)]) rfl g23 U U U (by decide) (show 0≤5 by decide) (fun _=>U) rfl U) ?_
    refine Az (Wk.take (id:=3) (m:=6) (j:=1) (i:=Sh.len l7) (c:=(Ac.mk q17 q18 c16.result q19)) (ys:=q18) (encY:=eI) (x':=[(.dv 3 1 (List.map eI q17)),(.dv 3 1 (List.map eI q18)),(i64 c16.result),(ow 7 0 q19.steps),(i64 q19.result)]) (st':=[⟨0,30,2,[[.zc,.zc]]⟩,⟨0,30,2,[[(ow 2 0 q3),(ow 3 0 l7)]]⟩,(ro 0 98 3 (Ab 134 3) q3),⟨1,57,5,hole l20 (AM 3 3 3 55 71) (Sh.len l7) [(.dv 3 1 (List.map eI q17)),(.dv 3 1 (List.map eI q18)),(i64 c16.result),(ow 7 0 q19.steps),(i64 q19.result)]⟩,⟨0,57,5,[[(ow 5 0 q17),(ow 6 0 q18),(i64 c16.result),(ow 7 0 q19.steps),(i64 q19.result)]]⟩,⟨1,3,1,[]⟩,⟨1,3,1,[]⟩,(ro 0 71 5 (Am 3 55 71) q19.steps)]) rfl g23 U U U (by decide) (show 0≤6 by decide) (fun _=>U) rfl U) ?_
    refine Az (Wk.take (id:=3) (m:=7) (j:=3) (i:=Sh.len l7) (c:=(Ac.mk q17 q18 c16.result q19)) (ys:=q19.steps) (encY:=(Am 3 55 71)) (x':=[(.dv 3 1 (List.map eI q17)),(.dv 3 1 (List.map eI q18)),(i64 c16.result),(.dv 71 5 (List.map (Am 3 55 71) q19.steps)),(i64 q19.result)]) (st':=[⟨0,30,2,[[.zc,.zc]]⟩,⟨0,30,2,[[(ow 2 0 q3),(ow 3 0 l7)]]⟩,(ro 0 98 3 (Ab 134 3) q3),⟨1,57,5,hole l20 (AM 3 3 3 55 71) (Sh.len l7) [(.dv 3 1 (List.map eI q17)),(.dv 3 1 (List.map eI q18)),(i64 c16.result),(.dv 71 5 (List.map (Am 3 55 71) q19.steps)),(i64 q19.result)]⟩,⟨0,57,5,[[(ow 5 0 q17),(ow 6 0 q18),(i64 c16.result),(ow 7 0 q19.steps),(i64 q19.result)]]⟩,⟨1,3,1,[]⟩,⟨1,3,1,[]⟩,⟨1,71,5,[]⟩]) rfl g23 U U U (by decide) (show 0≤7 by decide) HO U U) ?_
    refine Az (KC (id:=3) (i:=Sh.len l7) (c:=(Ac.mk q17 q18 c16.result q19)) (st':=[⟨0,30,2,[[.zc,.zc]]⟩,⟨0,30,2,[[(ow 2 0 q3),(ow 3 0 l7)]]⟩,(ro 0 98 3 (Ab 134 3) q3),(ro 1 57 5 (AM 3 3 3 55 71) l20),⟨0,57,5,[[(ow 5 0 q17),(ow 6 0 q18),(i64 c16.result),(ow 7 0 q19.steps),(i64 q19.result)]]⟩,⟨1,3,1,[]⟩,⟨1,3,1,[]⟩,⟨1,71,5,[]⟩]) rfl g23 U U) (AB ⟨U,?_⟩)
    exact Bq (by refine Wk.trans (AP (L:=[(1,(.fn 56 [])),(4,(.ptr 0 0 0 0)),(5,(.ptr 1 0 0 0)),(13,(ls AT p0.AD)),(14,(i64 (Sh.len p0.AD))),(15,(i64 t6)),(36,(ow 3 1 l20))]) (st':=[⟨0,30,2,[[.zc,.zc]]⟩,⟨0,30,2,[[(ow 2 0 q3),(ow 3 0 l7)]]⟩,(ro 0 98 3 (Ab 134 3) q3),(ro 1 57 5 (AM 3 3 3 55 71) l20)]) (st1:=[⟨0,30,2,[[.zc,.zc]]⟩,⟨0,30,2,[[(ow 2 0 q3),(ow 3 0 l7)]]⟩,(ro 0 98 3 (Ab 134 3) q3),(ro 1 57 5 (AM 3 3 3 55 71) l20)]) [0,1,2,3] U .nil (by decide) rfl U (.raw U U (.raw U U (.deep (Af fun _=>U) (.deep (Af fun _=>U) .nil)))) ⟨.rfl,.rfl,.rfl,.rfl,.rfl,.rfl,.rfl,trivial⟩) ?_;exact AF (L:=[(1,(.fn 56 [])),(4,(.ptr 0 0 0 0)),(5,(.ptr 1 0 0 0)),(13,(ls AT p0.AD)),(14,(i64 (Sh.len p0.AD))),(15,(i64 t6)),(36,(ow 3 1 l20))]) ⟨.rfl,.rfl,.rfl,.rfl,.rfl,.rfl,.rfl,trivial⟩) (DM (by kernel_rfl) ((hA22 _ _ _).1 A22_0123456789abcdefgh)) rfl)
  have A22_0123456789abcdef:A22 4 #[true,true,true,true,true,true,true,true,true,true,true,true,true,true,true,true,false,false,false,false] ⟨40,Ad [(1,(.fn 56 [])),(4,(.ptr 0 0 0 0)),(5,(.ptr 1 0 0 0)),(13,(ls AT p0.AD)),(14,(i64 (Sh.len p0.AD))),(15,(i64 t6)),(20,(ow 3 0 l7)),(34,(.agg [(ow 4 0 q17),(ow 5 0 q18),(i64 c16.result),(ow 6 0 q19.steps),(i64 q19.result)]))],[⟨0,30,2,[[.zc,.zc]]⟩,⟨0,30,2,[[(ow 2 0 q3),(ow 3 0 l7)]]⟩,(ro 0 98 3 (Ab 134 3) q3),(ro 0 57 5 (AM 3 3 3 55 71) l7),(ro 0 3 1 eI q17),(ro 0 3 1 eI q18),(ro 0 71 5 (Am 3 55 71) q19.steps)]⟩:=(hA22 _ _ _).2 (by
   refine FF [16] U (by kernel_rfl) (by decide) ⟨?_,trivial⟩
   ·refine KG.of (i:=16) rfl U (by rfl) ?_
    refine DV (m:=7) (st':=[⟨0,30,2,[[.zc,.zc]]⟩,⟨0,30,2,[[(ow 2 0 q3),(ow 3 0 l7)]]⟩,(ro 0 98 3 (Ab 134 3) q3),(ro 0 57 5 (AM 3 3 3 55 71) l7),(ro 0 3 1 eI q17),(ro 0 3 1 eI q18),(ro 0 71 5 (Am 3 55 71) q19.steps),⟨0,57,5,[[(ow 4 0 q17),(ow 5 0 q18),(i64 c16.result),(ow 6 0 q19.steps),(i64 q19.result)]]⟩]) (l:=[()]) (enc:=fun _=>[(ow 4 0 q17),(ow 5 0 q18),(i64 c16.result),(ow 6 0 q19.steps),(i64 q19.result)]) Ah E7 (by decide) rfl U U U U U ?_
    refine AB ⟨U,?_⟩
    exact Bq (by refine Wk.trans (AP (L:=[(1,(.fn 56 [])),(4,(.ptr 0 0 0 0)),(5,(.ptr 1 0 0 0)),(13,(ls AT p0.AD)),(14,(i64 (Sh.len p0.AD))),(15,(i64 t6)),(20,(ow 3 0 l7)),(35,(.own 4 0 1))]) (st':=[⟨0,30,2,[[.zc,.zc]]⟩,⟨0,30,2,[[(ow 2 0 q3),(ow 3 0 l7)]]⟩,(ro 0 98 3 (Ab 134 3) q3),(ro 0 57 5 (AM 3 3 3 55 71) l7),⟨0,57,5,[[(ow 5 0 q17),(ow 6 0 q18),(i64 c16.result),(ow 7 0 q19.steps),(i64 q19.result)]]⟩,(ro 0 3 1 eI q17),(ro 0 3 1 eI q18),(ro 0 71 5 (Am 3 55 71) q19.steps)]) (st1:=[⟨0,30,2,[[.zc,.zc]]⟩,⟨0,30,2,[[(ow 2 0 q3),(ow 3 0 l7)]]⟩,(ro 0 98 3 (Ab 134 3) q3),(ro 0 57 5 (AM 3 3 3 55 71) l7),⟨0,57,5,[[(ow 4 0 q17),(ow 5 0 q18),(i64 c16.result),(ow 6 0 q19.steps),(i64 q19.result)]]⟩,(ro 0 3 1 eI q17),(ro 0 3 1 eI q18),(ro 0 71 5 (Am 3 55 71) q19.steps)]) [0,1,2,3,7,4,5,6] U .nil (by decide) rfl U (.raw U U (.raw U U (.deep (Af fun _=>U) (.deep (Af fun _=>U) (.raw U U (.pure (Ak fun _=>U) (.pure (Ak fun _=>U) (.deep (Af BQ) .nil)))))))) ⟨.rfl,.rfl,.rfl,.rfl,.rfl,.rfl,.rfl,.rfl,trivial⟩) ?_;exact AF (L:=[(1,(.fn 56 [])),(4,(.ptr 0 0 0 0)),(5,(.ptr 1 0 0 0)),(13,(ls AT p0.AD)),(14,(i64 (Sh.len p0.AD))),(15,(i64 t6)),(20,(ow 3 0 l7)),(35,(.own 4 0 1))]) ⟨.rfl,.rfl,.rfl,.rfl,.rfl,.rfl,.rfl,.rfl,trivial⟩) (DM (by kernel_rfl) ((hA22 _ _ _).1 A22_0123456789abcdefg)) rfl)
  have A22_0123456789abcde:A22 5 #[true,true,true,true,true,true,true,true,true,true,true,true,true,true,true,false,false,false,false,false] ⟨40,Ad [(1,(.fn 56 [])),(4,(.ptr 0 0 0 0)),(5,(.ptr 1 0 0 0)),(13,(ls AT p0.AD)),(14,(i64 (Sh.len p0.AD))),(15,(i64 t6)),(20,(ow 3 0 l7)),(23,(ow 4 0 q17)),(26,(ow 5 0 q18)),(28,(i64 c16.result)),(33,(.agg [(ow 6 0 q19.steps),(i64 q19.result)]))],[⟨0,30,2,[[.zc,.zc]]⟩,⟨0,30,2,[[(ow 2 0 q3),(ow 3 0 l7)]]⟩,(ro 0 98 3 (Ab 134 3) q3),(ro 0 57 5 (AM 3 3 3 55 71) l7),(ro 0 3 1 eI q17),(ro 0 3 1 eI q18),(ro 0 71 5 (Am 3 55 71) q19.steps)]⟩:=(hA22 _ _ _).2 (by
   refine FF [15] U (by kernel_rfl) (by decide) ⟨?_,trivial⟩
   ·refine KG.of (i:=15) rfl U (by rfl) ?_
    refine zz (.agg [(ow 4 0 q17),(ow 5 0 q18),(i64 c16.result),(ow 6 0 q19.steps),(i64 q19.result)]) (GV ZR Y2 Lt U U) rfl (AB ⟨U,?_⟩)
    exact Bq (AF (L:=[(1,(.fn 56 [])),(4,(.ptr 0 0 0 0)),(5,(.ptr 1 0 0 0)),(13,(ls AT p0.AD)),(14,(i64 (Sh.len p0.AD))),(15,(i64 t6)),(20,(ow 3 0 l7)),(34,(.agg [(ow 4 0 q17),(ow 5 0 q18),(i64 c16.result),(ow 6 0 q19.steps),(i64 q19.result)]))]) ⟨.rfl,.rfl,.rfl,.rfl,.rfl,.rfl,.rfl,.rfl,trivial⟩) (DM (by kernel_rfl) ((hA22 _ _ _).1 A22_0123456789abcdef)) rfl)
  have A22_0123456789abcd:A22 6 #[true,true,true,true,true,true,true,true,true,true,true,true,true,true,false,false,false,false,false,false] ⟨40,Ad [(1,(.fn 56 [])),(4,(.ptr 0 0 0 0)),(5,(.ptr 1 0 0 0)),(13,(ls AT p0.AD)),(14,(i64 (Sh.len p0.AD))),(15,(i64 t6)),(20,(ow 3 0 l7)),(23,(ow 4 0 q17)),(26,(ow 5 0 q18)),(28,(i64 c16.result)),(29,(.fn 56 [])),(30,(.agg [(ls eI c16.params),(ls eI c16.At),(i64 c16.result),(ls Al c16.body.steps),(i64 c16.body.result)])),(32,(.agg [(ls Al c16.body.steps),(i64 c16.body.result)]))],[⟨0,30,2,[[.zc,.zc]]⟩,⟨0,30,2,[[(ow 2 0 q3),(ow 3 0 l7)]]⟩,(ro 0 98 3 (Ab 134 3) q3),(ro 0 57 5 (AM 3 3 3 55 71) l7),(ro 0 3 1 eI q17),(ro 0 3 1 eI q18)]⟩:=(hA22 _ _ _).2 (by
   refine FF [14] U (by kernel_rfl) (by decide) ⟨?_,trivial⟩
   ·refine KG.of (i:=14) rfl U (by rfl) ?_
    refine Pj (v':=(.agg [(ow 6 0 q19.steps),(i64 q19.result)])) (st':=[⟨0,30,2,[[.zc,.zc]]⟩,⟨0,30,2,[[(ow 2 0 q3),(ow 3 0 l7)]]⟩,(ro 0 98 3 (Ab 134 3) q3),(ro 0 57 5 (AM 3 3 3 55 71) l7),(ro 0 3 1 eI q17),(ro 0 3 1 eI q18),(ro 0 71 5 (Am 3 55 71) q19.steps)]) Ah U aI (Kb gq19) rfl U ⟨(Af BQ),trivial⟩ U U (AB ⟨U,?_⟩)
    exact Bq (AF (L:=[(1,(.fn 56 [])),(4,(.ptr 0 0 0 0)),(5,(.ptr 1 0 0 0)),(13,(ls AT p0.AD)),(14,(i64 (Sh.len p0.AD))),(15,(i64 t6)),(20,(ow 3 0 l7)),(23,(ow 4 0 q17)),(26,(ow 5 0 q18)),(28,(i64 c16.result)),(33,(.agg [(ow 6 0 q19.steps),(i64 q19.result)]))]) ⟨.rfl,.rfl,.rfl,.rfl,.rfl,.rfl,.rfl,.rfl,.rfl,.rfl,.rfl,trivial⟩) (DM (by kernel_rfl) ((hA22 _ _ _).1 A22_0123456789abcde)) rfl)
  have A22_012345689abcd:A22 7 #[true,true,true,true,true,true,true,false,true,true,true,true,true,true,false,false,false,false,false,false] ⟨40,Ad [(1,(.fn 56 [])),(4,(.ptr 0 0 0 0)),(5,(.ptr 1 0 0 0)),(13,(ls AT p0.AD)),(14,(i64 (Sh.len p0.AD))),(15,(i64 t6)),(20,(ow 3 0 l7)),(23,(ow 4 0 q17)),(25,(ls eI c16.At)),(28,(i64 c16.result)),(29,(.fn 56 [])),(30,(.agg [(ls eI c16.params),(ls eI c16.At),(i64 c16.result),(ls Al c16.body.steps),(i64 c16.body.result)])),(32,(.agg [(ls Al c16.body.steps),(i64 c16.body.result)]))],[⟨0,30,2,[[.zc,.zc]]⟩,⟨0,30,2,[[(ow 2 0 q3),(ow 3 0 l7)]]⟩,(ro 0 98 3 (Ab 134 3) q3),(ro 0 57 5 (AM 3 3 3 55 71) l7),(ro 0 3 1 eI q17)]⟩:=(hA22 _ _ _).2 (by
   refine FF [7] U (by kernel_rfl) (by decide) ⟨?_,trivial⟩
   ·refine KG.of (i:=7) rfl U (by rfl) ?_
    refine BW (v':=(ow 5 0 q18)) (st':=[⟨0,30,2,[[.zc,.zc]]⟩,⟨0,30,2,[[(ow 2 0 q3),(ow 3 0 l7)]]⟩,(ro 0 98 3 (Ab 134 3) q3),(ro 0 57 5 (AM 3 3 3 55 71) l7),(ro 0 3 1 eI q17),(ro 0 3 1 eI q18)]) Ah Mx (BY gq18) rfl U ⟨(Bf fun _=>U),trivial⟩ U U (AB ⟨U,?_⟩)
    exact Bq (AF (L:=[(1,(.fn 56 [])),(4,(.ptr 0 0 0 0)),(5,(.ptr 1 0 0 0)),(13,(ls AT p0.AD)),(14,(i64 (Sh.len p0.AD))),(15,(i64 t6)),(20,(ow 3 0 l7)),(23,(ow 4 0 q17)),(26,(ow 5 0 q18)),(28,(i64 c16.result)),(29,(.fn 56 [])),(30,(.agg [(ls eI c16.params),(ls eI c16.At),(i64 c16.result),(ls Al c16.body.steps),(i64 c16.body.result)])),(32,(.agg [(ls Al c16.body.steps),(i64 c16.body.result)]))]) ⟨.rfl,.rfl,.rfl,.rfl,.rfl,.rfl,.rfl,.rfl,.rfl,.rfl,.rfl,.rfl,.rfl,trivial⟩) (DM (by kernel_rfl) ((hA22 _ _ _).1 A22_0123456789abcd)) rfl)
  have A22_01235689abcd:A22 8 #[true,true,true,true,false,true,true,false,true,true,true,true,true,true,false,false,false,false,false,false] ⟨40,Ad [(1,(.fn 56 [])),(4,(.ptr 0 0 0 0)),(5,(.ptr 1 0 0 0)),(13,(ls AT p0.AD)),(14,(i64 (Sh.len p0.AD))),(15,(i64 t6)),(20,(ow 3 0 l7)),(22,(ls eI c16.params)),(25,(ls eI c16.At)),(28,(i64 c16.result)),(29,(.fn 56 [])),(30,(.agg [(ls eI c16.params),(ls eI c16.At),(i64 c16.result),(ls Al c16.body.steps),(i64 c16.body.result)])),(32,(.agg [(ls Al c16.body.steps),(i64 c16.body.result)]))],[⟨0,30,2,[[.zc,.zc]]⟩,⟨0,30,2,[[(ow 2 0 q3),(ow 3 0 l7)]]⟩,(ro 0 98 3 (Ab 134 3) q3),(ro 0 57 5 (AM 3 3 3 55 71) l7)]⟩:=(hA22 _ _ _).2 (by
   refine FF [4] U (by kernel_rfl) (by decide) ⟨?_,trivial⟩
   ·refine KG.of (i:=4) rfl U (by rfl) ?_
    refine BW (v':=(ow 4 0 q17)) (st':=[⟨0,30,2,[[.zc,.zc]]⟩,⟨0,30,2,[[(ow 2 0 q3),(ow 3 0 l7)]]⟩,(ro 0 98 3 (Ab 134 3) q3),(ro 0 57 5 (AM 3 3 3 55 71) l7),(ro 0 3 1 eI q17)]) Ah Mx (BY gq17) rfl U ⟨(Bf fun _=>U),trivial⟩ U U (AB ⟨U,?_⟩)
    exact Bq (AF (L:=[(1,(.fn 56 [])),(4,(.ptr 0 0 0 0)),(5,(.ptr 1 0 0 0)),(13,(ls AT p0.AD)),(14,(i64 (Sh.len p0.AD))),(15,(i64 t6)),(20,(ow 3 0 l7)),(23,(ow 4 0 q17)),(25,(ls eI c16.At)),(28,(i64 c16.result)),(29,(.fn 56 [])),(30,(.agg [(ls eI c16.params),(ls eI c16.At),(i64 c16.result),(ls Al c16.body.steps),(i64 c16.body.result)])),(32,(.agg [(ls Al c16.body.steps),(i64 c16.body.result)]))]) ⟨.rfl,.rfl,.rfl,.rfl,.rfl,.rfl,.rfl,.rfl,.rfl,.rfl,.rfl,.rfl,.rfl,trivial⟩) (DM (by kernel_rfl) ((hA22 _ _ _).1 A22_012345689abcd)) rfl)
  have A22_023456789abcdefg:A22 4 #[true,false,true,true,true,true,true,true,true,true,true,true,true,true,true,true,true,false,false,false] ⟨40,Ad [(1,(.fn 56 [])),(4,(.ptr 0 0 0 0)),(5,(.ptr 1 0 0 0)),(13,(ls AT p0.AD)),(14,(i64 (Sh.len p0.AD))),(15,(i64 t6)),(19,(.ptr 1 0 0 1)),(35,(.own 4 0 1))],[⟨0,30,2,[[.zc,.zc]]⟩,⟨0,30,2,[[(ow 2 0 q3),(ow 3 0 l7)]]⟩,(ro 0 98 3 (Ab 134 3) q3),(ro 0 57 5 (AM 3 3 3 55 71) l7),⟨0,57,5,[[(ow 5 0 q17),(ow 6 0 q18),(i64 c16.result),(ow 7 0 q19.steps),(i64 q19.result)]]⟩,(ro 0 3 1 eI q17),(ro 0 3 1 eI q18),(ro 0 71 5 (Am 3 55 71) q19.steps)]⟩:=(hA22 _ _ _).2 (by
   refine FF [1] U (by kernel_rfl) (by decide) ⟨?_,trivial⟩
   ·refine KG.of (i:=1) rfl U (by rfl) ?_
    refine zq tb U (AB ⟨U,?_⟩)
    exact Bq (AF (L:=[(1,(.fn 56 [])),(4,(.ptr 0 0 0 0)),(5,(.ptr 1 0 0 0)),(13,(ls AT p0.AD)),(14,(i64 (Sh.len p0.AD))),(15,(i64 t6)),(20,(ow 3 0 l7)),(35,(.own 4 0 1))]) ⟨.rfl,.rfl,.rfl,.rfl,.rfl,.rfl,.rfl,.rfl,trivial⟩) (DM (by kernel_rfl) ((hA22 _ _ _).1 A22_0123456789abcdefg)) rfl)
  have A22_023456789abcdef:A22 5 #[true,false,true,true,true,true,true,true,true,true,true,true,true,true,true,true,false,false,false,false] ⟨40,Ad [(1,(.fn 56 [])),(4,(.ptr 0 0 0 0)),(5,(.ptr 1 0 0 0)),(13,(ls AT p0.AD)),(14,(i64 (Sh.len p0.AD))),(15,(i64 t6)),(19,(.ptr 1 0 0 1)),(34,(.agg [(ow 4 0 q17),(ow 5 0 q18),(i64 c16.result),(ow 6 0 q19.steps),(i64 q19.result)]))],[⟨0,30,2,[[.zc,.zc]]⟩,⟨0,30,2,[[(ow 2 0 q3),(ow 3 0 l7)]]⟩,(ro 0 98 3 (Ab 134 3) q3),(ro 0 57 5 (AM 3 3 3 55 71) l7),(ro 0 3 1 eI q17),(ro 0 3 1 eI q18),(ro 0 71 5 (Am 3 55 71) q19.steps)]⟩:=(hA22 _ _ _).2 (by
   refine FF [1,16] U (by kernel_rfl) (by decide) ⟨?_,?_,trivial⟩
   ·refine KG.of (i:=1) rfl U (by rfl) ?_
    refine zq tb U (AB ⟨U,?_⟩)
    exact Bq (AF (L:=[(1,(.fn 56 [])),(4,(.ptr 0 0 0 0)),(5,(.ptr 1 0 0 0)),(13,(ls AT p0.AD)),(14,(i64 (Sh.len p0.AD))),(15,(i64 t6)),(20,(ow 3 0 l7)),(34,(.agg [(ow 4 0 q17),(ow 5 0 q18),(i64 c16.result),(ow 6 0 q19.steps),(i64 q19.result)]))]) ⟨.rfl,.rfl,.rfl,.rfl,.rfl,.rfl,.rfl,.rfl,trivial⟩) (DM (by kernel_rfl) ((hA22 _ _ _).1 A22_0123456789abcdef)) rfl
   ·refine KG.of (i:=16) rfl U (by rfl) ?_
    refine DV (m:=7) (st':=[⟨0,30,2,[[.zc,.zc]]⟩,⟨0,30,2,[[(ow 2 0 q3),(ow 3 0 l7)]]⟩,(ro 0 98 3 (Ab 134 3) q3),(ro 0 57 5 (AM 3 3 3 55 71) l7),(ro 0 3 1 eI q17),(ro 0 3 1 eI q18),(ro 0 71 5 (Am 3 55 71) q19.steps),⟨0,57,5,[[(ow 4 0 q17),(ow 5 0 q18),(i64 c16.result),(ow 6 0 q19.steps),(i64 q19.result)]]⟩]) (l:=[()]) (enc:=fun _=>[(ow 4 0 q17),(ow 5 0 q18),(i64 c16.result),(ow 6 0 q19.steps),(i64 q19.result)]) Ah E7 (by decide) rfl U U U U U ?_
    refine AB ⟨U,?_⟩
    exact Bq (by refine Wk.trans (AP (L:=[(1,(.fn 56 [])),(4,(.ptr 0 0 0 0)),(5,(.ptr 1 0 0 0)),(13,(ls AT p0.AD)),(14,(i64 (Sh.len p0.AD))),(15,(i64 t6)),(19,(.ptr 1 0 0 1)),(35,(.own 4 0 1))]) (st':=[⟨0,30,2,[[.zc,.zc]]⟩,⟨0,30,2,[[(ow 2 0 q3),(ow 3 0 l7)]]⟩,(ro 0 98 3 (Ab 134 3) q3),(ro 0 57 5 (AM 3 3 3 55 71) l7),⟨0,57,5,[[(ow 5 0 q17),(ow 6 0 q18),(i64 c16.result),(ow 7 0 q19.steps),(i64 q19.result)]]⟩,(ro 0 3 1 eI q17),(ro 0 3 1 eI q18),(ro 0 71 5 (Am 3 55 71) q19.steps)]) (st1:=[⟨0,30,2,[[.zc,.zc]]⟩,⟨0,30,2,[[(ow 2 0 q3),(ow 3 0 l7)]]⟩,(ro 0 98 3 (Ab 134 3) q3),(ro 0 57 5 (AM 3 3 3 55 71) l7),⟨0,57,5,[[(ow 4 0 q17),(ow 5 0 q18),(i64 c16.result),(ow 6 0 q19.steps),(i64 q19.result)]]⟩,(ro 0 3 1 eI q17),(ro 0 3 1 eI q18),(ro 0 71 5 (Am 3 55 71) q19.steps)]) [0,1,2,3,7,4,5,6] U .nil (by decide) rfl U (.raw U U (.raw U U (.deep (Af fun _=>U) (.deep (Af fun _=>U) (.raw U U (.pure (Ak fun _=>U) (.pure (Ak fun _=>U) (.deep (Af BQ) .nil)))))))) ⟨.rfl,.rfl,.rfl,.rfl,.rfl,.rfl,.rfl,.rfl,trivial⟩) ?_;exact AF (L:=[(1,(.fn 56 [])),(4,(.ptr 0 0 0 0)),(5,(.ptr 1 0 0 0)),(13,(ls AT p0.AD)),(14,(i64 (Sh.len p0.AD))),(15,(i64 t6)),(19,(.ptr 1 0 0 1)),(35,(.own 4 0 1))]) ⟨.rfl,.rfl,.rfl,.rfl,.rfl,.rfl,.rfl,.rfl,trivial⟩) (DM (by kernel_rfl) ((hA22 _ _ _).1 A22_023456789abcdefg)) rfl)
  have A22_023456789abcde:A22 6 #[true,false,true,true,true,true,true,true,true,true,true,true,true,true,true,false,false,false,false,false] ⟨40,Ad [(1,(.fn 56 [])),(4,(.ptr 0 0 0 0)),(5,(.ptr 1 0 0 0)),(13,(ls AT p0.AD)),(14,(i64 (Sh.len p0.AD))),(15,(i64 t6)),(19,(.ptr 1 0 0 1)),(23,(ow 4 0 q17)),(26,(ow 5 0 q18)),(28,(i64 c16.result)),(33,(.agg [(ow 6 0 q19.steps),(i64 q19.result)]))],[⟨0,30,2,[[.zc,.zc]]⟩,⟨0,30,2,[[(ow 2 0 q3),(ow 3 0 l7)]]⟩,(ro 0 98 3 (Ab 134 3) q3),(ro 0 57 5 (AM 3 3 3 55 71) l7),(ro 0 3 1 eI q17),(ro 0 3 1 eI q18),(ro 0 71 5 (Am 3 55 71) q19.steps)]⟩:=(hA22 _ _ _).2 (by
   refine FF [1,15] U (by kernel_rfl) (by decide) ⟨?_,?_,trivial⟩
   ·refine KG.of (i:=1) rfl U (by rfl) ?_
    refine zq tb U (AB ⟨U,?_⟩)
    exact Bq (AF (L:=[(1,(.fn 56 [])),(4,(.ptr 0 0 0 0)),(5,(.ptr 1 0 0 0)),(13,(ls AT p0.AD)),(14,(i64 (Sh.len p0.AD))),(15,(i64 t6)),(20,(ow 3 0 l7)),(23,(ow 4 0 q17)),(26,(ow 5 0 q18)),(28,(i64 c16.result)),(33,(.agg [(ow 6 0 q19.steps),(i64 q19.result)]))]) ⟨.rfl,.rfl,.rfl,.rfl,.rfl,.rfl,.rfl,.rfl,.rfl,.rfl,.rfl,trivial⟩) (DM (by kernel_rfl) ((hA22 _ _ _).1 A22_0123456789abcde)) rfl
   ·refine KG.of (i:=15) rfl U (by rfl) ?_
    refine zz (.agg [(ow 4 0 q17),(ow 5 0 q18),(i64 c16.result),(ow 6 0 q19.steps),(i64 q19.result)]) (GV ZR Y2 Lt U U) rfl (AB ⟨U,?_⟩)
    exact Bq (AF (L:=[(1,(.fn 56 [])),(4,(.ptr 0 0 0 0)),(5,(.ptr 1 0 0 0)),(13,(ls AT p0.AD)),(14,(i64 (Sh.len p0.AD))),(15,(i64 t6)),(19,(.ptr 1 0 0 1)),(34,(.agg [(ow 4 0 q17),(ow 5 0 q18),(i64 c16.result),(ow 6 0 q19.steps),(i64 q19.result)]))]) ⟨.rfl,.rfl,.rfl,.rfl,.rfl,.rfl,.rfl,.rfl,trivial⟩) (DM (by kernel_rfl) ((hA22 _ _ _).1 A22_023456789abcdef)) rfl)
  have A22_023456789abcd:A22 7 #[true,false,true,true,true,true,true,true,true,true,true,true,true,true,false,false,false,false,false,false] ⟨40,Ad [(1,(.fn 56 [])),(4,(.ptr 0 0 0 0)),(5,(.ptr 1 0 0 0)),(13,(ls AT p0.AD)),(14,(i64 (Sh.len p0.AD))),(15,(i64 t6)),(19,(.ptr 1 0 0 1)),(23,(ow 4 0 q17)),(26,(ow 5 0 q18)),(28,(i64 c16.result)),(29,(.fn 56 [])),(30,(.agg [(ls eI c16.params),(ls eI c16.At),(i64 c16.result),(ls Al c16.body.steps),(i64 c16.body.result)])),(32,(.agg [(ls Al c16.body.steps),(i64 c16.body.result)]))],[⟨0,30,2,[[.zc,.zc]]⟩,⟨0,30,2,[[(ow 2 0 q3),(ow 3 0 l7)]]⟩,(ro 0 98 3 (Ab 134 3) q3),(ro 0 57 5 (AM 3 3 3 55 71) l7),(ro 0 3 1 eI q17),(ro 0 3 1 eI q18)]⟩:=(hA22 _ _ _).2 (by
   refine FF [1,14] U (by kernel_rfl) (by decide) ⟨?_,?_,trivial⟩
   ·refine KG.of (i:=1) rfl U (by rfl) ?_
    refine zq tb U (AB ⟨U,?_⟩)
    exact Bq (AF (L:=[(1,(.fn 56 [])),(4,(.ptr 0 0 0 0)),(5,(.ptr 1 0 0 0)),(13,(ls AT p0.AD)),(14,(i64 (Sh.len p0.AD))),(15,(i64 t6)),(20,(ow 3 0 l7)),(23,(ow 4 0 q17)),(26,(ow 5 0 q18)),(28,(i64 c16.result)),(29,(.fn 56 [])),(30,(.agg [(ls eI c16.params),(ls eI c16.At),(i64 c16.result),(ls Al c16.body.steps),(i64 c16.body.result)])),(32,(.agg [(ls Al c16.body.steps),(i64 c16.body.result)]))]) ⟨.rfl,.rfl,.rfl,.rfl,.rfl,.rfl,.rfl,.rfl,.rfl,.rfl,.rfl,.rfl,.rfl,trivial⟩) (DM (by kernel_rfl) ((hA22 _ _ _).1 A22_0123456789abcd)) rfl
   ·refine KG.of (i:=14) rfl U (by rfl) ?_
    refine Pj (v':=(.agg [(ow 6 0 q19.steps),(i64 q19.result)])) (st':=[⟨0,30,2,[[.zc,.zc]]⟩,⟨0,30,2,[[(ow 2 0 q3),(ow 3 0 l7)]]⟩,(ro 0 98 3 (Ab 134 3) q3),(ro 0 57 5 (AM 3 3 3 55 71) l7),(ro 0 3 1 eI q17),(ro 0 3 1 eI q18),(ro 0 71 5 (Am 3 55 71) q19.steps)]) Ah U aI (Kb gq19) rfl U ⟨(Af BQ),trivial⟩ U U (AB ⟨U,?_⟩)
    exact Bq (AF (L:=[(1,(.fn 56 [])),(4,(.ptr 0 0 0 0)),(5,(.ptr 1 0 0 0)),(13,(ls AT p0.AD)),(14,(i64 (Sh.len p0.AD))),(15,(i64 t6)),(19,(.ptr 1 0 0 1)),(23,(ow 4 0 q17)),(26,(ow 5 0 q18)),(28,(i64 c16.result)),(33,(.agg [(ow 6 0 q19.steps),(i64 q19.result)]))]) ⟨.rfl,.rfl,.rfl,.rfl,.rfl,.rfl,.rfl,.rfl,.rfl,.rfl,.rfl,trivial⟩) (DM (by kernel_rfl) ((hA22 _ _ _).1 A22_023456789abcde)) rfl)
  have A22_02345689abcd:A22 8 #[true,false,true,true,true,true,true,false,true,true,true,true,true,true,false,false,false,false,false,false] ⟨40,Ad [(1,(.fn 56 [])),(4,(.ptr 0 0 0 0)),(5,(.ptr 1 0 0 0)),(13,(ls AT p0.AD)),(14,(i64 (Sh.len p0.AD))),(15,(i64 t6)),(19,(.ptr 1 0 0 1)),(23,(ow 4 0 q17)),(25,(ls eI c16.At)),(28,(i64 c16.result)),(29,(.fn 56 [])),(30,(.agg [(ls eI c16.params),(ls eI c16.At),(i64 c16.result),(ls Al c16.body.steps),(i64 c16.body.result)])),(32,(.agg [(ls Al c16.body.steps),(i64 c16.body.result)]))],[⟨0,30,2,[[.zc,.zc]]⟩,⟨0,30,2,[[(ow 2 0 q3),(ow 3 0 l7)]]⟩,(ro 0 98 3 (Ab 134 3) q3),(ro 0 57 5 (AM 3 3 3 55 71) l7),(ro 0 3 1 eI q17)]⟩:=(hA22 _ _ _).2 (by
   refine FF [1,7] U (by kernel_rfl) (by decide) ⟨?_,?_,trivial⟩
   ·refine KG.of (i:=1) rfl U (by rfl) ?_
    refine zq tb U (AB ⟨U,?_⟩)
    exact Bq (AF (L:=[(1,(.fn 56 [])),(4,(.ptr 0 0 0 0)),(5,(.ptr 1 0 0 0)),(13,(ls AT p0.AD)),(14,(i64 (Sh.len p0.AD))),(15,(i64 t6)),(20,(ow 3 0 l7)),(23,(ow 4 0 q17)),(25,(ls eI c16.At)),(28,(i64 c16.result)),(29,(.fn 56 [])),(30,(.agg [(ls eI c16.params),(ls eI c16.At),(i64 c16.result),(ls Al c16.body.steps),(i64 c16.body.result)])),(32,(.agg [(ls Al c16.body.steps),(i64 c16.body.result)]))]) ⟨.rfl,.rfl,.rfl,.rfl,.rfl,.rfl,.rfl,.rfl,.rfl,.rfl,.rfl,.rfl,.rfl,trivial⟩) (DM (by kernel_rfl) ((hA22 _ _ _).1 A22_012345689abcd)) rfl
   ·refine KG.of (i:=7) rfl U (by rfl) ?_
    refine BW (v':=(ow 5 0 q18)) (st':=[⟨0,30,2,[[.zc,.zc]]⟩,⟨0,30,2,[[(ow 2 0 q3),(ow 3 0 l7)]]⟩,(ro 0 98 3 (Ab 134 3) q3),(ro 0 57 5 (AM 3 3 3 55 71) l7),(ro 0 3 1 eI q17),(ro 0 3 1 eI q18)]) Ah Mx (BY gq18) rfl U ⟨(Bf fun _=>U),trivial⟩ U U (AB ⟨U,?_⟩)
    exact Bq (AF (L:=[(1,(.fn 56 [])),(4,(.ptr 0 0 0 0)),(5,(.ptr 1 0 0 0)),(13,(ls AT p0.AD)),(14,(i64 (Sh.len p0.AD))),(15,(i64 t6)),(19,(.ptr 1 0 0 1)),(23,(ow 4 0 q17)),(26,(ow 5 0 q18)),(28,(i64 c16.result)),(29,(.fn 56 [])),(30,(.agg [(ls eI c16.params),(ls eI c16.At),(i64 c16.result),(ls Al c16.body.steps),(i64 c16.body.result)])),(32,(.agg [(ls Al c16.body.steps),(i64 c16.body.result)]))]) ⟨.rfl,.rfl,.rfl,.rfl,.rfl,.rfl,.rfl,.rfl,.rfl,.rfl,.rfl,.rfl,.rfl,trivial⟩) (DM (by kernel_rfl) ((hA22 _ _ _).1 A22_023456789abcd)) rfl)
  have A22_0235689abcd:A22 9 #[true,false,true,true,false,true,true,false,true,true,true,true,true,true,false,false,false,false,false,false] ⟨40,Ad [(1,(.fn 56 [])),(4,(.ptr 0 0 0 0)),(5,(.ptr 1 0 0 0)),(13,(ls AT p0.AD)),(14,(i64 (Sh.len p0.AD))),(15,(i64 t6)),(19,(.ptr 1 0 0 1)),(22,(ls eI c16.params)),(25,(ls eI c16.At)),(28,(i64 c16.result)),(29,(.fn 56 [])),(30,(.agg [(ls eI c16.params),(ls eI c16.At),(i64 c16.result),(ls Al c16.body.steps),(i64 c16.body.result)])),(32,(.agg [(ls Al c16.body.steps),(i64 c16.body.result)]))],[⟨0,30,2,[[.zc,.zc]]⟩,⟨0,30,2,[[(ow 2 0 q3),(ow 3 0 l7)]]⟩,(ro 0 98 3 (Ab 134 3) q3),(ro 0 57 5 (AM 3 3 3 55 71) l7)]⟩:=(hA22 _ _ _).2 (by
   refine FF [1,4] U (by kernel_rfl) (by decide) ⟨?_,?_,trivial⟩
   ·refine KG.of (i:=1) rfl U (by rfl) ?_
    refine zq tb U (AB ⟨U,?_⟩)
    exact Bq (AF (L:=[(1,(.fn 56 [])),(4,(.ptr 0 0 0 0)),(5,(.ptr 1 0 0 0)),(13,(ls AT p0.AD)),(14,(i64 (Sh.len p0.AD))),(15,(i64 t6)),(20,(ow 3 0 l7)),(22,(ls eI c16.params)),(25,(ls eI c16.At)),(28,(i64 c16.result)),(29,(.fn 56 [])),(30,(.agg [(ls eI c16.params),(ls eI c16.At),(i64 c16.result),(ls Al c16.body.steps),(i64 c16.body.result)])),(32,(.agg [(ls Al c16.body.steps),(i64 c16.body.result)]))]) ⟨.rfl,.rfl,.rfl,.rfl,.rfl,.rfl,.rfl,.rfl,.rfl,.rfl,.rfl,.rfl,.rfl,trivial⟩) (DM (by kernel_rfl) ((hA22 _ _ _).1 A22_01235689abcd)) rfl
   ·refine KG.of (i:=4) rfl U (by rfl) ?_
    refine BW (v':=(ow 4 0 q17)) (st':=[⟨0,30,2,[[.zc,.zc]]⟩,⟨0,30,2,[[(ow 2 0 q3),(ow 3 0 l7)]]⟩,(ro 0 98 3 (Ab 134 3) q3),(ro 0 57 5 (AM 3 3 3 55 71) l7),(ro 0 3 1 eI q17)]) Ah Mx (BY gq17) rfl U ⟨(Bf fun _=>U),trivial⟩ U U (AB ⟨U,?_⟩)
    exact Bq (AF (L:=[(1,(.fn 56 [])),(4,(.ptr 0 0 0 0)),(5,(.ptr 1 0 0 0)),(13,(ls AT p0.AD)),(14,(i64 (Sh.len p0.AD))),(15,(i64 t6)),(19,(.ptr 1 0 0 1)),(23,(ow 4 0 q17)),(25,(ls eI c16.At)),(28,(i64 c16.result)),(29,(.fn 56 [])),(30,(.agg [(ls eI c16.params),(ls eI c16.At),(i64 c16.result),(ls Al c16.body.steps),(i64 c16.body.result)])),(32,(.agg [(ls Al c16.body.steps),(i64 c16.body.result)]))]) ⟨.rfl,.rfl,.rfl,.rfl,.rfl,.rfl,.rfl,.rfl,.rfl,.rfl,.rfl,.rfl,.rfl,trivial⟩) (DM (by kernel_rfl) ((hA22 _ _ _).1 A22_02345689abcd)) rfl)
  refine (hA22 _ _ _).2 ?_
  exact Bq (by refine Wk.trans (AP (L:=[(1,(.fn 56 [])),(4,(.ptr 0 0 0 0)),(5,(.ptr 1 0 0 0)),(13,(ls AT p0.AD)),(14,(i64 (Sh.len p0.AD))),(15,(i64 t6)),(19,(.ptr 1 0 0 1)),(22,(ls eI c16.params)),(25,(ls eI c16.At)),(28,(i64 c16.result)),(29,(.fn 56 [])),(30,(.agg [(ls eI c16.params),(ls eI c16.At),(i64 c16.result),(ls Al c16.body.steps),(i64 c16.body.result)])),(32,(.agg [(ls Al c16.body.steps),(i64 c16.body.result)]))]) (st':=[⟨0,30,2,[[.zc,.zc]]⟩,⟨0,30,2,[[(ow 2 0 q3),(ow 3 0 l7)]]⟩,(ro 0 98 3 (Ab 134 3) q3),(ro 0 57 5 (AM 3 3 3 55 71) l7)]) (st1:=[⟨0,30,2,[[.zc,.zc]]⟩,⟨0,30,2,[[(ow 1 0 q3),(ow 3 0 l7)]]⟩,(ro 0 98 3 (Ab 134 3) q3),(ro 0 57 5 (AM 3 3 3 55 71) l7)]) [0,2,1,3] U .nil (by decide) rfl U (.raw U U (.raw U U (.deep (Af fun _=>U) (.deep (Af fun _=>U) .nil)))) ⟨.rfl,.rfl,.rfl,.rfl,.rfl,.rfl,.rfl,.rfl,.rfl,.rfl,.rfl,.rfl,.rfl,trivial⟩) ?_;exact AF (L:=[(1,(.fn 56 [])),(4,(.ptr 0 0 0 0)),(5,(.ptr 1 0 0 0)),(13,(ls AT p0.AD)),(14,(i64 (Sh.len p0.AD))),(15,(i64 t6)),(19,(.ptr 1 0 0 1)),(22,(ls eI c16.params)),(25,(ls eI c16.At)),(28,(i64 c16.result)),(29,(.fn 56 [])),(30,(.agg [(ls eI c16.params),(ls eI c16.At),(i64 c16.result),(ls Al c16.body.steps),(i64 c16.body.result)])),(32,(.agg [(ls Al c16.body.steps),(i64 c16.body.result)]))]) ⟨.rfl,.rfl,.rfl,.rfl,.rfl,.rfl,.rfl,.rfl,.rfl,.rfl,.rfl,.rfl,.rfl,trivial⟩) (DM (by kernel_rfl) ((hA22 _ _ _).1 A22_0235689abcd)) rfl
 ·intro b13 h1
  exact Ay (M9 l7 (Sh.AA h1).symm _ (AN U))
theorem Lx {N:Nat} {p0:Aj} {r:Aj×Bool} (h0:HJ N p0=some r):Ae Tryz.prog 23 [(.agg [(ls AG p0.decls),(ls AT p0.AD)])] [] (fun v st=>v=(.BZ [(.agg [(ow 0 0 r.1.decls),(ow 1 0 r.1.AD)]),(.bool r.2)])∧st=[(ro 0 98 3 (Ab 134 3) r.1.decls),(ro 0 57 5 (AM 3 3 3 55 71) r.1.AD)]):=by
 unfold HJ at h0
 refine Ae.wk (r0:=(.BZ [(.agg [(ow 0 0 r.1.decls),(ow 1 0 r.1.AD)]),(.bool r.2)])) (st0:=[(ro 0 98 3 (Ab 134 3) r.1.decls),(ro 0 57 5 (AM 3 3 3 55 71) r.1.AD),⟨0,30,2,[[(ow 0 0 r.1.decls),(ow 1 0 r.1.AD)]]⟩]) ?_ (FH (L:=[(0,(.BZ [(.agg [(ow 0 0 r.1.decls),(ow 1 0 r.1.AD)]),(.bool r.2)]))]) (st':=[(ro 0 98 3 (Ab 134 3) r.1.decls),(ro 0 57 5 (AM 3 3 3 55 71) r.1.AD)]) [0,1] U (by decide) rfl U (.deep (Af fun _=>U) (.deep (Af fun _=>U) trivial)) ⟨.rfl,trivial⟩)
 refine ai Tryz.func23 U U U U (sr U fun K1 hK1=>BI (m:=0) (st':=[(It p0)]) Ah U U U U U (Ap (m:=1) (st':=[(It p0),⟨0,30,2,[[.zc,.zc]]⟩]) Ah JQ U U (zq tb U (dn hK1 U (AE fun K2 hK2=>sr U fun K3 hK3=>zq tb U (bs h0 fun q4 gq4 h0=>zc dC (PS gq4) rfl U U (zq tb U ?_)))))))
 refine dn hK3 U ?_
 refine ci h0 U ?_ ?_ <;> clear h0
 ·intro b5 h0
  have b6:q4=false:=by simpa using b5
  refine sr U fun K7 hK7=>zz (.agg [.zc,.zc]) (GV W3 WX JQ U U) rfl (A3 (st':=[(It p0),⟨0,30,2,[[.zc,.zc]]⟩]) Ah Hl U U U U U U (show 0+2≤2 by decide) rfl (zq tb U (dn hK7 U ?_)))
  replace h0:=Sh.AA h0
  subst r
  exact AK (Exists.intro _ (And.intro ((((IK (id:=1) (st':=[(It p0),⟨0,30,2,[[(.own 2 0 (List.length ([]:List Ag))),.zc]]⟩,(ro 0 98 3 (Ab 134 3) ([]:List Ag))]) (j:=0) rfl U 98 (size':=3) (by decide) rfl U U U).trans (IK (id:=1) (st':=[(It p0),⟨0,30,2,[[(.own 2 0 (List.length ([]:List Ag))),(.own 3 0 (List.length ([]:List Ac)))]]⟩,(ro 0 98 3 (Ab 134 3) ([]:List Ag)),(ro 0 57 5 (AM 3 3 3 55 71) ([]:List Ac))]) (j:=1) rfl U 57 (size':=5) (by decide) rfl U U U)).trans (AP (L:=[(2,(.ptr 2 0 0 0)),(3,(.bool false))]) (st':=[(ro 0 98 3 (Ab 134 3) ([]:List Ag)),(ro 0 57 5 (AM 3 3 3 55 71) ([]:List Ac)),⟨0,30,2,[[(.own 0 0 (List.length ([]:List Ag))),(.own 1 0 (List.length ([]:List Ac)))]]⟩]) (st1:=[(ro 0 98 3 (Ab 134 3) ([]:List Ag)),(ro 0 57 5 (AM 3 3 3 55 71) ([]:List Ac)),⟨0,30,2,[[(.own 2 0 (List.length ([]:List Ag))),(.own 3 0 (List.length ([]:List Ac)))]]⟩]) [2,3,1] U .nil (by decide) rfl U (.deep (Af fun _=>U) (.deep (Af fun _=>U) (.raw U U .nil))) ⟨.rfl,.rfl,trivial⟩)).trans (AF (L:=[(2,(.ptr 2 0 0 0)),(3,(.bool false))]) ⟨.rfl,.rfl,trivial⟩)) (Cb (x:=.tmp 2) (off:=0) (cs:=[(.own 0 0 (List.length ([]:List Ag))),(.own 1 0 (List.length ([]:List Ac)))]) (vs:=[(.own 0 0 (List.length ([]:List Ag))),(.own 1 0 (List.length ([]:List Ac)))]) Hl U U U (show 0+2≤2 by decide) rfl _ ⟨U,U⟩)))
 ·intro b5 h0
  have b8:q4=true:=by simpa using b5
  refine AI (hK2 _ (sr U fun K9 hK9=>zq tb U (bs h0 fun q10 gq10 h0=>BW (v':=(.agg [(ow 2 0 q10.decls),(ow 3 0 q10.AD)])) (st':=[(It p0),⟨0,30,2,[[.zc,.zc]]⟩,(ro 0 98 3 (Ab 134 3) q10.decls),(ro 0 57 5 (AM 3 3 3 55 71) q10.AD)]) Ah ca (KH gq10) rfl U ⟨(Af fun _=>U),⟨(Af fun _=>U),trivial⟩⟩ U U (Ap (m:=4) (st':=[(It p0),⟨0,30,2,[[.zc,.zc]]⟩,(ro 0 98 3 (Ab 134 3) q10.decls),(ro 0 57 5 (AM 3 3 3 55 71) q10.AD),⟨0,30,2,[[.zc,.zc]]⟩]) Ah JQ U U (A3 (st':=[(It p0),⟨0,30,2,[[.zc,.zc]]⟩,(ro 0 98 3 (Ab 134 3) q10.decls),(ro 0 57 5 (AM 3 3 3 55 71) q10.AD),⟨0,30,2,[[(ow 2 0 q10.decls),(ow 3 0 q10.AD)]]⟩]) Ah Hl U U U U U U (show 0+2≤2 by decide) rfl (dn hK9 U (AE fun K11 hK11=>sr U fun K12 hK12=>zm tb 2 U (zz (i64 (Sh.len q10.AD)) (Ek aT U U U) rfl ?_))))))))
  refine zq tb U (dn hK12 U (bs h0 fun o16 h1 h0=>?_))
  have M16 :∀(l15:(List Ac)),o16=l15→∀s,Wk 0 s ⟨25,Ad [(2,(.ptr 0 0 0 0)),(4,(.ptr 3 0 0 0))],[⟨0,30,2,[[.zc,.zc]]⟩,(ro 0 98 3 (Ab 134 3) q10.decls),(ro 0 57 5 (AM 3 3 3 55 71) l15),⟨0,30,2,[[(ow 1 0 q10.decls),(ow 2 0 l15)]]⟩]⟩→K11 s:=by
   intro l15 hq s hw
   subst o16
   try dsimp only at h0
   refine hK11 _ (AS hw (sr U fun K17 hK17=>zq tb U (A3 (st':=[⟨0,30,2,[[(ow 1 0 q10.decls),(ow 2 0 l15)]]⟩,(ro 0 98 3 (Ab 134 3) q10.decls),(ro 0 57 5 (AM 3 3 3 55 71) l15),⟨0,30,2,[[(ow 1 0 q10.decls),(ow 2 0 l15)]]⟩]) Ah Hl U U U U U U (show 0+2≤2 by decide) rfl (zq tb U (dn hK17 U ?_)))))
   replace h0:=Sh.AA h0
   subst r
   exact AK (Exists.intro _ (And.intro ((AP (L:=[(2,(.ptr 2 0 0 0)),(3,(.bool true))]) (st':=[(ro 0 98 3 (Ab 134 3) q10.decls),(ro 0 57 5 (AM 3 3 3 55 71) l15),⟨0,30,2,[[(ow 0 0 q10.decls),(ow 1 0 l15)]]⟩]) (st1:=[(ro 0 98 3 (Ab 134 3) q10.decls),(ro 0 57 5 (AM 3 3 3 55 71) l15),⟨0,30,2,[[(ow 1 0 q10.decls),(ow 2 0 l15)]]⟩]) [1,2,0] U .nil (by decide) rfl U (.deep (Af fun _=>U) (.deep (Af fun _=>U) (.raw U U .nil))) ⟨.rfl,.rfl,trivial⟩).trans (AF (L:=[(2,(.ptr 2 0 0 0)),(3,(.bool true))]) ⟨.rfl,.rfl,trivial⟩)) (Cb (x:=.tmp 2) (off:=0) (cs:=[(ow 0 0 q10.decls),(ow 1 0 l15)]) (vs:=[(ow 0 0 q10.decls),(ow 1 0 l15)]) Hl U U U (show 0+2≤2 by decide) rfl _ ⟨U,U⟩)))
  refine Aa (Au (σ:=Int×(List Ac)) (fun n v=>EX q10 n v.1 v.2=some o16) (fun (t13,l14)=>⟨25,Ad [(2,(.ptr 0 0 0 0)),(4,(.ptr 3 0 0 0)),(14,(i64 (Sh.len q10.AD))),(15,(i64 t13))],[⟨0,30,2,[[.zc,.zc]]⟩,(ro 0 98 3 (Ab 134 3) q10.decls),(ro 0 57 5 (AM 3 3 3 55 71) l14),⟨0,30,2,[[(ow 1 0 q10.decls),(ow 2 0 l14)]]⟩]⟩) N (0,q10.AD) h1 (AP (L:=[(2,(.ptr 0 0 0 0)),(4,(.ptr 3 0 0 0)),(14,(i64 (Sh.len q10.AD))),(15,(i64 0))]) (st':=[⟨0,30,2,[[.zc,.zc]]⟩,(ro 0 98 3 (Ab 134 3) q10.decls),(ro 0 57 5 (AM 3 3 3 55 71) q10.AD),⟨0,30,2,[[(ow 1 0 q10.decls),(ow 2 0 q10.AD)]]⟩]) (st1:=[⟨0,30,2,[[.zc,.zc]]⟩,(ro 0 98 3 (Ab 134 3) q10.decls),(ro 0 57 5 (AM 3 3 3 55 71) q10.AD),⟨0,30,2,[[(ow 2 0 q10.decls),(ow 3 0 q10.AD)]]⟩]) [1,2,3,4] U .nil (by decide) rfl U (.raw U U (.deep (Af fun _=>U) (.deep (Af fun _=>U) (.raw U U .nil)))) ⟨.rfl,.rfl,.rfl,.rfl,trivial⟩) (fun _ hv=>by rw[EX] at hv;cases hv) ?_)
  rintro n ⟨t13,l14⟩ h1
  try dsimp only at h1 ⊢
  rw[EX] at h1
  refine zr tb U U (AE fun K19 hK19=>?_)
  refine ci h1 U ?_ ?_ <;> clear h1
  ·intro b20 h1
   refine AI (hK19 _ (AE fun K21 hK21=>Aa (zr tb U U (AJ U (zm tb 3 U (bs h1 fun c23 gc23 h1=>zz (.ptr 2 0 (Int.toNat t13) 0) (B8 E7 U U U U gc23) rfl (zq tb U (Zn (st':=[⟨0,30,2,[[.zc,.zc]]⟩,(ro 0 98 3 (Ab 134 3) q10.decls),⟨0,57,5,hole l14 (AM 3 3 3 55 71) t13 [(.dv 3 1 (List.map eI c23.params)),.zc,(i64 c23.result),(.dv 71 5 (List.map (Am 3 55 71) c23.body.steps)),(i64 c23.body.result)]⟩,⟨0,30,2,[[(ow 1 0 q10.decls),(ow 2 0 l14)]]⟩]) Ah Iu U U gc23 U U U (show 1+1≤5 by decide) rfl U ?_))))))))
   refine Az (Wk.cX (id:=2) (j:=1) (i:=t13) (c:=c23) (el':=3) (sz:=1) (x':=[(.dv 3 1 (List.map eI c23.params)),(.dv 3 1 (List.map eI ([]:List Int))),(i64 c23.result),(.dv 71 5 (List.map (Am 3 55 71) c23.body.steps)),(i64 c23.body.result)]) (st':=[⟨0,30,2,[[.zc,.zc]]⟩,(ro 0 98 3 (Ab 134 3) q10.decls),⟨0,57,5,hole l14 (AM 3 3 3 55 71) t13 [(.dv 3 1 (List.map eI c23.params)),(.dv 3 1 (List.map eI ([]:List Int))),(i64 c23.result),(.dv 71 5 (List.map (Am 3 55 71) c23.body.steps)),(i64 c23.body.result)]⟩,⟨0,30,2,[[(ow 1 0 q10.decls),(ow 2 0 l14)]]⟩]) rfl gc23 U (by decide) rfl U) ?_
   refine Az (DK (id:=2) (i:=t13) (u:=(Ac.mk c23.params [] c23.result c23.body)) (st':=[⟨0,30,2,[[.zc,.zc]]⟩,(ro 0 98 3 (Ab 134 3) q10.decls),(ro 0 57 5 (AM 3 3 3 55 71) (Sh.put l14 t13 (Ac.mk c23.params [] c23.result c23.body))),⟨0,30,2,[[(ow 1 0 q10.decls),(ow 2 0 l14)]]⟩]) rfl U U) (dn hK21 U (AJ U (zm tb 2 U ?_)))
   exact AB (xi (Sh.w (t13+1),Sh.put l14 t13 (Ac.mk c23.params [] c23.result c23.body)) h1 (by refine Wk.trans (DQ (st:=[⟨0,30,2,[[.zc,.zc]]⟩,⟨0,98,3,List.map (Ab 134 3) q10.decls⟩,⟨0,57,5,List.map (AM 3 3 3 55 71) (Sh.put l14 t13 (Ac.mk c23.params [] c23.result c23.body))⟩,⟨0,30,2,[[(.own 1 0 (List.length q10.decls)),(.own 2 0 (List.length l14))]]⟩]) (st':=[⟨0,30,2,[[.zc,.zc]]⟩,⟨0,98,3,List.map (Ab 134 3) q10.decls⟩,⟨0,57,5,List.map (AM 3 3 3 55 71) (Sh.put l14 t13 (Ac.mk c23.params [] c23.result c23.body))⟩,⟨0,30,2,[[(.own 1 0 (List.length q10.decls)),(.own 2 0 (List.length (Sh.put l14 t13 (Ac.mk c23.params [] c23.result c23.body))))]]⟩]) (by simp only[Sh.BB])) ?_;exact AN U))
  ·intro b20 h1
   exact Ay (M16 l14 (Sh.AA h1).symm _ (AN U))
end Go.Proofs.YtcegihniiokijaaGreat

